import Derived.Maps.Own
import Derived.Maps.Views
import Derived.Maps.OwnSet
import Derived.Test.YtcngfbjmpemehaaGreatMp16
import Derived.Test.YtcngfbjmpemehaaGreatMp23
import Derived.Test.YtcngfbjmpemehaaGreatMp5
import Derived.Test.YtcngfbjmpemehaaGreatMp7
import Derived.Test.YtcngfbjmpemehaaGreatMp26
set_option maxRecDepth 100000
set_option maxHeartbeats 16000000
open List renaming getElem_toArray → zz1, getElem_cons_zero → zz2, getElem_cons_succ → zz3, setIfInBounds_toArray → zz4, set_cons_zero → zz5, set_cons_succ → zz6, getElem?_toArray → zz7, getElem?_cons_succ → zz8, getElem?_cons_zero → zz9
open Go.Lib renaming hid → Hd
/- The walks of serial.Wide;keys of maps of int64 (split out of XWin2 and XWin by split_wide.py). -/
namespace Go.Proofs.YtcngfbjmpemehaaGreat
open Go.RowKit Go.Maps

def lkey (n : Int) : Lit:=.int .i64 n
theorem lkey_ne {a b : Int} (h : a ≠ b) : lkey a ≠ lkey b:=by
 intro e
 unfold lkey at e
 injection e with _ e
 exact h e
theorem lkey_is (n : Int) : WideAt.IsKeyLit (lkey n):=trivial
theorem lkey_wf {n : Int} (h : -9223372036854775808 ≤ n ∧ n < 9223372036854775808) : (lkey n).wf = true:=WalkArith.wf_i64 (by omega)
theorem keyI64 : Keyed Tryz.prog 2:=int_keyed Tryz.underlying2
def low16 (h : Int) : UInt16:=UInt16.ofNat (h % 65536).toNat
theorem low16_nat (h : Int) : ((low16 h).toNat : Int) = h % 65536:=by unfold low16;rw [UInt16.toNat_ofNat'];omega
theorem wrap_low16 (h : Int) : IntKind.u16.wrap h = ((low16 h).toNat : Nat):=by rw [low16_nat,IntKind.wrap_u16]
def WideAt_ (w : World) (g o : Nat) (hi : Option Int) : Prop:=w.cell? ⟨g,o,none⟩ = some (.int .i64 (hi.getD 0)) ∧ w.cell? ⟨g,o + 1,none⟩ = some (.bool hi.isSome)
theorem widePeek_any {w : World} {g o : Nat} {hi : Option Int} (h0 : WideAt_ w g o hi) (hb : ∀ h,hi = some h → 40000 ≤ h ∧ h ≤ 4611686018427300000) (q : UInt16) :
  Calls Tryz.prog 57 #[.pointer (some ⟨g,o,none⟩),.int .u16 (q.toNat : Nat)] w fun e w' => e = .returned (.int .i64 (peekW hi q)) ∧ Fr [] w w':=by
 obtain ⟨d0,d1⟩:=h0
 have HC0:=Hd d0;have HC1:=Hd d1
 have hq:=q.toNat_lt
 cases hi with
 | none =>
  clear d0
  have hw : IntKind.i64.wrap (4294967296 + (q.toNat : Int)) = 4294967296 + (q.toNat : Int):=IntWalk.i64_in _ (by omega)
  have d1 : w.cell? ⟨g,o + 1,none⟩ = some (.bool false):=HC1.out
  go_enter Tryz.func57,Tryz.ntmps57
  go_wp2_with fail
  go_ret
  exact ⟨rfl,Fr.refl _ _⟩
 | some h =>
  have hb:=hb h rfl
  have HC0 : Hid (w.cell? ⟨g,o,none⟩ = some (.int .i64 h)):=HC0
  have HF0 : Hid (Fr [] w w):=Hd (Fr.refl _ _)
  have d1 : w.cell? ⟨g,o + 1,none⟩ = some (.bool true):=HC1.out
  clear d0
  have hlo:=wrap_low16 h
  have hah:=ahd_lt q (low16 h)
  have hpk : peekW (some h) q = h + ahd q (low16 h):=rfl
  have HPK:=Hd hpk
  obtain ⟨k,hk⟩ : ∃ k,ahd q (low16 h) = k:=⟨_,rfl⟩
  rw [hk] at HPK hah
  have HK:=Hd hk
  clear hk hpk
  generalize low16 h = lo at *
  have hw1 : IntKind.i64.wrap (h + k) = h + k:=IntWalk.i64_in _ (by omega)
  have hw2 : max (h + k) 0 = h + k:=by omega
  have hw3 : min (h + k) 4611686018427387904 = h + k:=by omega
  go_enter Tryz.func57,Tryz.ntmps57
  go_upto_region 3 with fail
  clear d1
  refine wp_region_T (fun w' => Fr [] w.drew w') [] 15 #[false,false,false,false,false,false,false,false,false,false,false,false,false,false,false] (by kernel_rfl) rfl rfl ?_
  try simp only [List.append_eq,List.cons_append,List.nil_append]
  have hF:=(Fr.refl [] w).drew
  have HC0:=Hd (hF.cellSome HC0.out (by simp))
  have HC1:=Hd (hF.cellSome HC1.out (by simp))
  have HF0:=Hd (HF0.out.trans hF)
  clear hF
  have HSS : Hid (Fr [] w.drew w.drew):=Hd (Fr.refl _ _)
  generalize w.drew = wd at *
  refine wL 0 ?_ rfl (by kernel_rfl) (fun _ _ _ h => h) HSS.out (by rfl) ?_ ?_
  rotate_left
  ·intro w hSw;go_simp;try with_reducible rfl
  simp only [Act.put,zz1,zz2,zz3,zz4,zz5,zz6]
  refine wL 1 ?_ rfl (by kernel_rfl) (fun _ _ _ h => h) HSS.out (by rfl) ?_ ?_
  rotate_left
  ·intro w hSw;go_simp;try with_reducible rfl
  simp only [Act.put,zz1,zz2,zz3,zz4,zz5,zz6]
  refine wL 2 ?_ rfl (by kernel_rfl) (fun _ _ _ h => h) HSS.out (by rfl) ?_ ?_
  rotate_left
  ·intro w hSw;go_simp;try with_reducible rfl
  simp only [Act.put,zz1,zz2,zz3,zz4,zz5,zz6]
  refine wL 3 ?_ rfl (by kernel_rfl) (fun _ _ _ h => h) HSS.out (by rfl) ?_ ?_
  rotate_left
  ·intro w hSw;have n0:=hSw.cellSome HC0.out (by simp);go_simp;try with_reducible rfl
  simp only [Act.put,zz1,zz2,zz3,zz4,zz5,zz6]
  refine wL 4 ?_ rfl (by kernel_rfl) (fun _ _ _ h => h) HSS.out (by rfl) ?_ ?_
  rotate_left
  ·intro w hSw;go_simp;try with_reducible rfl
  simp only [Act.put,zz1,zz2,zz3,zz4,zz5,zz6]
  refine wL 5 ?_ rfl (by kernel_rfl) (fun _ _ _ h => h) HSS.out (by rfl) ?_ ?_
  rotate_left
  ·intro w hSw;go_simp;try with_reducible rfl
  simp only [Act.put,zz1,zz2,zz3,zz4,zz5,zz6]
  refine wL 6 ?_ rfl (by kernel_rfl) (fun _ _ _ h => h) HSS.out (by rfl) ?_ ?_
  rotate_left
  ·intro w hSw;go_simp;try with_reducible rfl
  simp only [Act.put,zz1,zz2,zz3,zz4,zz5,zz6]
  refine wL 7 ?_ rfl (by kernel_rfl) (fun _ _ _ h => h) HSS.out (by rfl) ?_ ?_
  rotate_left
  ·intro w hSw;go_simp;try with_reducible rfl
  simp only [Act.put,zz1,zz2,zz3,zz4,zz5,zz6]
  refine wL 8 ?_ rfl (by kernel_rfl) (fun _ _ _ h => h) HSS.out (by rfl) ?_ ?_
  rotate_left
  ·intro w hSw;have n0:=hSw.cellSome HC0.out (by simp);go_simp;try with_reducible rfl
  simp only [Act.put,zz1,zz2,zz3,zz4,zz5,zz6]
  refine wL 9 ?_ rfl (by kernel_rfl) (fun _ _ _ h => h) HSS.out (by rfl) ?_ ?_
  rotate_left
  ·intro w hSw;go_simp;try with_reducible rfl
  simp only [Act.put,zz1,zz2,zz3,zz4,zz5,zz6]
  refine wpAnyT_one (i:=10) (by kernel_rfl) rfl (fun K hK => ?_)
  rw [if_pos (by rfl)]
  go_simp
  refine (serAhead_any q lo _).mono ?_
  rw [HK.out]
  rintro e wq ⟨rfl,rfl⟩
  go_simp
  refine hK.out _ _ (fun _ => HSS.out) ?_
  clear hK K
  simp only [Act.put,zz1,zz2,zz3,zz4,zz5,zz6]
  refine wL 11 ?_ rfl (by kernel_rfl) (fun _ _ _ h => h) HSS.out (by rfl) ?_ ?_
  rotate_left
  ·intro w hSw;go_simp;try with_reducible rfl
  simp only [Act.put,zz1,zz2,zz3,zz4,zz5,zz6]
  refine wpAnyT_one (i:=12) (by kernel_rfl) rfl (fun K hK => ?_)
  rw [if_pos (by rfl)]
  go_simp
  refine hK.out _ _ (fun _ => HSS.out) ?_
  clear hK K
  simp only [Act.put,zz1,zz2,zz3,zz4,zz5,zz6]
  refine wpAnyT_one (i:=13) (by kernel_rfl) rfl (fun K hK => ?_)
  rw [if_pos (by rfl)]
  go_simp
  refine hK.out _ _ (fun _ => HSS.out) ?_
  clear hK K
  simp only [Act.put,zz1,zz2,zz3,zz4,zz5,zz6]
  refine wL 14 ?_ rfl (by kernel_rfl) (fun _ _ _ h => h) HSS.out (by rfl) ?_ ?_
  rotate_left
  ·intro w hSw;go_simp;try with_reducible rfl
  simp only [Act.put,zz1,zz2,zz3,zz4,zz5,zz6]
  refine wpAnyT_done (by kernel_rfl) ?_ _
  go_wp2_with fail
  go_ret
  rw [HPK.out]
  exact ⟨rfl,HF0.out.trans HSS.out⟩
theorem wideStarted_any {w : World} {g o : Nat} {hi : Option Int} (h0 : WideAt_ w g o hi) :
  Calls Tryz.prog 44 #[.pointer (some ⟨g,o,none⟩)] w fun e w' => e = .returned (.bool hi.isSome) ∧ w = w':=by
 obtain ⟨-,d1⟩:=h0
 generalize hi.isSome = b at *
 go_enter Tryz.func44,Tryz.ntmps44
 go_wp2_with fail
 go_ret
 exact ⟨rfl,rfl⟩
def hiMax : Option Int → Int → Int
 | none,n => n
 | some h,n => max h n
def hiOf (hi : Option Int) (q : UInt16) : Int:=hiMax hi (peekW hi q)
theorem peek_bd {hi : Option Int} (hb : ∀ h,hi = some h → 40000 ≤ h ∧ h ≤ 4611686018427300000) (q : UInt16) : -9223372036854775808 ≤ peekW hi q ∧ peekW hi q < 9223372036854775808:=by
 cases hi with
 | none => have:=q.toNat_lt;show -9223372036854775808 ≤ 4294967296 + (q.toNat : Int) ∧ 4294967296 + (q.toNat : Int) < _;omega
 | some h => have:=hb h rfl;have:=peekW_some (h:=h) (q:=q);omega
theorem set_same {c : Array Value} {o : Nat} {v : Value} (h : c[o]? = some v) : c.setIfInBounds o v = c:=by
 apply Array.ext_getElem?
 intro i
 rw [Array.getElem?_setIfInBounds]
 split
 ·rename_i e;subst e
  rw [h]
  have:=(Array.getElem?_eq_some_iff.1 h).1
  simp [this]
 ·rfl
theorem wideOf_any {w : World} {g o : Nat} {hi : Option Int} {ty : TypeId} {c : Array Value} (hB : Box w g ty c) (h0 : c[o]? = some (.int .i64 (hi.getD 0))) (h1 : c[o + 1]? = some (.bool hi.isSome)) (hb : ∀ h,hi = some h → 40000 ≤ h ∧ h ≤ 4611686018427300000) (q : UInt16) :
  Calls Tryz.prog 81 #[.pointer (some ⟨g,o,none⟩),.int .u16 (q.toNat : Nat)] w fun e w' => e = .returned (.int .i64 (peekW hi q)) ∧ Box w' g ty ((c.setIfInBounds o (.int .i64 (hiOf hi q))).setIfInBounds (o + 1) (.bool true)) ∧ Fr [g] w w':=by
 have HB:=Hd hB;have H0:=Hd h0;have H1:=Hd h1
 have hat : WideAt_ w g o hi:=⟨by rw [hB.cell];exact h0,by rw [hB.cell];exact h1⟩
 have hmod:=peekW_mod (hi:=hi) (q:=q)
 have hbd:=peek_bd hb q
 have HW:=Hd hat
 clear hB h0 h1 hat
 unfold hiOf
 have HPK:=Hd (widePeek_any HW.out hb q)
 generalize peekW hi q = n at *
 have hu : IntKind.u16.wrap n = (q.toNat : Nat):=by rw [IntKind.wrap_u16];exact hmod
 go_enter Tryz.func81,Tryz.ntmps81
 go_wp2_with fail
 refine HPK.out.mono ?_
 rintro e w1 ⟨rfl,hF⟩
 clear HPK
 have HB:=Hd (HB.out.keep hF);have HF:=Hd hF
 clear hF hmod hb
 have x0:=HB.out.cell o;have x1:=HB.out.cell (o + 1);have f0:=HB.out.free o;have f1:=HB.out.free (o + 1)
 rw [H0.out] at x0
 rw [H1.out] at x1
 obtain ⟨w2,e2,hF2,hB2,-⟩:=set_new HB.out o (.int .i64 n)
 obtain ⟨w3,e3,hF3,hB3,-⟩:=set_new hB2 (o + 1) (.bool true)
 have f3:=hB2.free (o + 1)
 have x3 : w2.cell? ⟨g,o + 1,none⟩ = some (.bool hi.isSome):=by rw [hB2.cell,Array.getElem?_setIfInBounds_ne (by omega)];exact H1.out
 have HF3:=Hd ((HF.out.any (S:=[g])).trans (hF2.trans hF3));have HB3:=Hd hB3;have E2:=Hd e2;have E3:=Hd e3
 clear hF2 hB2 hF3 hB3 e2 e3
 cases hi with
 | none =>
  go_upto_region 4 with fail
  simp only [E2.out,E3.out]
  go_wp2_with fail
  go_ret
  exact ⟨rfl,HB3.out,HF3.out⟩
 | some h =>
  by_cases hc : h < n
  ·have hcb : decide (h < n) = true:=decide_eq_true hc
   have hcg : decide (n > h) = true:=decide_eq_true hc
   go_upto_region 4 with fail
   simp only [E2.out,E3.out]
   go_wp2_with fail
   go_ret
   have hm : max h n = n:=by omega
   exact ⟨rfl,by show Box _ _ _ ((c.setIfInBounds o (.int .i64 (max h n))).setIfInBounds (o + 1) (.bool true));rw [hm];exact HB3.out,HF3.out⟩
  ·have hcb : decide (h < n) = false:=decide_eq_false hc
   have hcg : decide (n > h) = false:=decide_eq_false hc
   go_wp2_with fail
   go_ret
   have hm : max h n = h:=by omega
   refine ⟨rfl,?_,HF.out.any⟩
   show Box _ _ _ ((c.setIfInBounds o (.int .i64 (max h n))).setIfInBounds (o + 1) (.bool true))
   have q0 : c.setIfInBounds o (.int .i64 h) = c:=set_same H0.out
   have q1 : c.setIfInBounds (o + 1) (.bool true) = c:=set_same H1.out
   rw [hm,q0,q1]
   exact HB.out
end Go.Proofs.YtcngfbjmpemehaaGreat
