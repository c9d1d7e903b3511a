import Derived.Test.YtcngfbjmpemehaaGreatMpDc5
import Derived.Test.YtcngfbjmpemehaaGreatMp17
set_option maxRecDepth 100000
set_option maxHeartbeats 16000000
open Go.Lib renaming hid → Hd
/- The document's New,Media of layer 16 (printed by gen_dc6.py). -/
namespace Go.Proofs.YtcngfbjmpemehaaGreat
open Go.RowKit

theorem r16New_any {w : World} (ss : UInt32) (a b : Int) :
  Calls Tryz.prog 10 #[.int .u32 (ss.toNat : Nat),.int .i64 a,.int .i64 b] w fun e w' => e = .returned (.agg (dcc (PkD.new ss a b) (.slice none 0 0) (.slice none 0 0))) ∧ Fr [] w w':=by
 obtain ⟨w1,e1,hF1,hB1,hs1⟩:=one_new w #[.int .u32 0,.int .i64 0,.int .i64 0,.int .i64 0,.slice none 0 0,.slice none 0 0] 32
 have HB:=Hd hB1;have HF:=Hd hF1;have E1:=Hd e1
 clear hF1 hB1 e1 hs1
 have hw : ((min (max a 1) 64).toNat : Int) = min (max a 1) 64:=by omega
 have hr : ((min (max b 1) 16).toNat : Int) = min (max b 1) 16:=by omega
 have HD : Hid (dcc (PkD.new ss a b) (.slice none 0 0) (.slice none 0 0) = #[.int .u32 (ss.toNat : Nat),.int .i64 (min (max a 1) 64),.int .i64 (min (max b 1) 16),.int .i64 (-1),.slice none 0 0,.slice none 0 0]):=Hd (by
  unfold dcc PkD.new
  simp only [hw,hr]
  rfl)
 obtain ⟨x,hx⟩ : ∃ x,min (max a 1) 64 = x:=⟨_,rfl⟩
 obtain ⟨y,hy⟩ : ∃ y,min (max b 1) 16 = y:=⟨_,rfl⟩
 rw [hx,hy] at HD
 have HX:=Hd hx;have HY:=Hd hy
 clear hx hy hw hr
 go_enter Tryz.func10,Tryz.ntmps10
 go_upto_region 1 with fail
 rw [E1.out]
 clear E1
 go_upto_if 8 with fail
 go_cut [1] (fun av wx => av = .int .i64 (max a 1) ∧ w1 = wx)
 case first =>
  by_cases h : a < 1
  ·have HM : Hid (max a 1 = 1):=Hd (by omega)
   have hd : decide (a < 1) = true:=decide_eq_true h
   go_wp2_with fail
   go_meet
   exact ⟨by rw [HM.out],rfl⟩
  ·have HM : Hid (max a 1 = a):=Hd (by omega)
   have hd : decide (a < 1) = false:=decide_eq_false h
   go_wp2_with fail
   go_meet
   exact ⟨by rw [HM.out],rfl⟩
 case rest =>
  obtain ⟨rfl,rfl⟩:=hcut
  generalize hm1 : max a 1 = a1 at *
  have HM1:=Hd hm1
  clear hm1
  go_upto_if 10 with fail
  go_cut [1] (fun av wx => av = .int .i64 x ∧ w1 = wx)
  case first =>
   by_cases h : 64 < a1
   ·have HM : Hid (x = 64):=Hd (by have h1:=HX.out;have h2:=HM1.out;omega)
    have hd : decide (a1 > 64) = true:=decide_eq_true h
    have hd2 : decide (64 < a1) = true:=decide_eq_true h
    go_wp2_with fail
    go_meet
    exact ⟨by rw [HM.out],rfl⟩
   ·have HM : Hid (x = a1):=Hd (by have h1:=HX.out;have h2:=HM1.out;omega)
    have hd : decide (a1 > 64) = false:=decide_eq_false h
    have hd2 : decide (64 < a1) = false:=decide_eq_false h
    go_wp2_with fail
    go_meet
    exact ⟨by rw [HM.out],rfl⟩
  case rest =>
   obtain ⟨rfl,rfl⟩:=hcut
   go_upto_if 12 with fail
   go_cut [2] (fun av wx => av = .int .i64 (max b 1) ∧ w1 = wx)
   case first =>
    by_cases h : b < 1
    ·have HM : Hid (max b 1 = 1):=Hd (by omega)
     have hd : decide (b < 1) = true:=decide_eq_true h
     go_wp2_with fail
     go_meet
     exact ⟨by rw [HM.out],rfl⟩
    ·have HM : Hid (max b 1 = b):=Hd (by omega)
     have hd : decide (b < 1) = false:=decide_eq_false h
     go_wp2_with fail
     go_meet
     exact ⟨by rw [HM.out],rfl⟩
   case rest =>
    obtain ⟨rfl,rfl⟩:=hcut
    generalize hm2 : max b 1 = b1 at *
    have HM2:=Hd hm2
    clear hm2
    go_upto_if 14 with fail
    go_cut [2] (fun av wx => av = .int .i64 y ∧ w1 = wx)
    case first =>
     by_cases h : 16 < b1
     ·have HM : Hid (y = 16):=Hd (by have h1:=HY.out;have h2:=HM2.out;omega)
      have hd : decide (b1 > 16) = true:=decide_eq_true h
      have hd2 : decide (16 < b1) = true:=decide_eq_true h
      go_wp2_with fail
      go_meet
      exact ⟨by rw [HM.out],rfl⟩
     ·have HM : Hid (y = b1):=Hd (by have h1:=HY.out;have h2:=HM2.out;omega)
      have hd : decide (b1 > 16) = false:=decide_eq_false h
      have hd2 : decide (16 < b1) = false:=decide_eq_false h
      go_wp2_with fail
      go_meet
      exact ⟨by rw [HM.out],rfl⟩
    case rest =>
     obtain ⟨rfl,rfl⟩:=hcut
     go_wp2_with (refine wpList_store_row rfl 32 (.tmp 6) (.tmp 18) rfl w.heap.size rfl _ #[.int .u32 (ss.toNat : Nat),.int .i64 x,.int .i64 y,.int .i64 (-1),.slice none 0 0,.slice none 0 0] rfl 32 HB.out (by kernel_rfl) rfl (by simp [Value.oneCell']) ?_;intro w9 hY hG;have HY9:=Hd hY;have HG9:=Hd hG;clear hY hG)
     refine bodyPost_ret (results_cell_row rfl _ _ w.heap.size 32 _ (0,0) _ rfl HY9.out Tryz.underlying32 rfl (by kernel_rfl)) rfl ⟨by rw [HD.out],HF.out.step HG9.out (fun z hz => by rw [List.mem_singleton] at hz;subst hz;exact .inr (Nat.le_refl _))⟩
end Go.Proofs.YtcngfbjmpemehaaGreat
