import Derived.Test.YtcngfbjmpemehaaGreatMp27
import Derived.Test.YtcngfbjmpemehaaGreatMp20
import Derived.Test.YtcngfbjmpemehaaGreatMp12
set_option maxRecDepth 100000
set_option maxHeartbeats 16000000
open List renaming getElem_toArray → zz1, getElem_cons_zero → zz2, getElem_cons_succ → zz3, setIfInBounds_toArray → zz4, set_cons_zero → zz5, set_cons_succ → zz6, getElem?_toArray → zz7, getElem?_cons_succ → zz8, getElem?_cons_zero → zz9
open Go.Lib renaming hid → Hd
/- The walk of parity.Make (printed by gen_make.py). -/
namespace Go.Proofs.YtcngfbjmpemehaaGreat
open Go.RowKit

def runL : List (List UInt8) → Sheet → Except Int Sheet
 | [],s => .ok s
 | l :: ls,s => match parseR l with
  | .error k => .error k
  | .ok p => runL ls (s.add l p)
theorem runL_append : ∀ (a b : List (List UInt8)) (s : Sheet),runL (a ++ b) s = match runL a s with | .error k => .error k | .ok s' => runL b s'
 | [],_,_ => rfl
 | l :: a,b,s => by
  show (match parseR l with | .error k => .error k | .ok p => runL (a ++ b) (s.add l p) : Except Int Sheet) = match (match parseR l with | .error k => .error k | .ok p => runL a (s.add l p) : Except Int Sheet) with | .error k => .error k | .ok s' => runL b s'
  cases parseR l with
  | error k => rfl
  | ok p => exact runL_append a b _
theorem runL_ok {y : List UInt8} {p : Pkt} (s : Sheet) (h : parseR y = .ok p) : runL [y] s = .ok (s.add y p):=by
 unfold runL
 rw [h]
 rfl
theorem runL_err {y : List UInt8} {k : Int} (r : List (List UInt8)) (s : Sheet) (h : parseR y = .error k) : runL (y :: r) s = .error k:=by
 unfold runL
 rw [h]
def mkP (ls : List (List UInt8)) : Except Int Rep_ :=
 if ls = [] then .error 4 else if 48 < ls.length then .error 3 else
 match runL ls Sheet.zero with
 | .error k => .error k
 | .ok s => if s.alike = false then .error 61 else
  match cvOf s.seqs with
  | .error k => .error k
  | .ok (b,m) => .ok ⟨s.sum,b,m⟩
abbrev rpz : Array Value:=#[.int .u8 0,.int .u8 0,.int .u8 0,.int .u8 0,.int .u8 0,.int .u8 0,.int .u8 0,.int .u8 0,.int .u16 0,.int .u64 0,.int .u64 0,.slice none 0 0]
def RpO (w : World) (base : Nat) (v : Value) (r : Rep_) : Prop:=∃ vb,v = .agg (rpc r vb) ∧ Bytes w vb r.bt.body ∧ ∀ b,liveOf vb = some b → base ≤ b
def Made (x : Except Int Rep_) (n : Nat) (e : Ending) (w' : World) : Prop:=(∃ r v',x = .ok r ∧ e = .returned (.tuple #[v',.int .i64 0]) ∧ RpO w' n v' r) ∨ (∃ k,x = .error k ∧ k ≠ 0 ∧ e = .returned (.tuple #[.agg rpz,.int .i64 k]))
theorem pMake_any {w : World} {v : Value} {ls : List (List UInt8)} (hl : BRows w v ls) :
  Calls Tryz.prog 29 #[v] w fun e w' => Fr [] w w' ∧ Made (mkP ls) w.heap.size e w':=by
 obtain ⟨av,cv,rfl⟩:=hl.shape
 have hlen:=hl.len.2
 unfold maxLen at hlen
 obtain ⟨w1,e1,hF1,hB1,hs1⟩:=one_new w rpz 38
 have HL0:=Hd hl;have HL:=Hd (hl.keep hF1);have HF:=Hd hF1;have HR:=Hd hB1;have E1:=Hd e1
 have HG2 : Hid (w.heap.size < w1.heap.size):=Hd hB1.lt
 have HS1:=Hd hs1
 clear hl hF1 hB1 e1 hs1
 by_cases hn : ls = []
 ·have hl0 : ((ls.length : Int) == 0) = true:=by rw [hn];rfl
  have HM : Hid (mkP ls = .error 4):=Hd (by unfold mkP;rw [if_pos hn])
  clear hn
  go_enter Tryz.func29,Tryz.ntmps29
  go_upto_region 1 with fail
  rw [E1.out]
  clear E1
  go_wp2_with (refine wpList_store_row rfl 38 (.tmp 2) (.tmp 15) rfl w.heap.size rfl _ _ rfl 38 HR.out (by kernel_rfl) rfl (by simp [Value.oneCell']) ?_;intro w9 hY hG;have HY:=Hd hY;have HGn:=Hd hG;clear hY hG)
  refine bodyPost_ret (results_row_1 rfl _ _ w.heap.size 38 _ _ rfl HY.out Tryz.underlying38 rfl (by kernel_rfl)) rfl ⟨HF.out.step HGn.out (by simp),.inr ⟨4,HM.out,by omega,rfl⟩⟩
 have hl0 : ((ls.length : Int) == 0) = false:=beq_eq_false_iff_ne.2 (by have:=List.length_pos_iff.2 hn;omega)
 by_cases hb48 : 48 < ls.length
 ·have HM : Hid (mkP ls = .error 3):=Hd (by unfold mkP;rw [if_neg hn,if_pos hb48])
  clear hn
  go_enter Tryz.func29,Tryz.ntmps29
  go_upto_region 1 with fail
  rw [E1.out]
  clear E1
  go_wp2_with (refine wpList_store_row rfl 38 (.tmp 2) (.tmp 20) rfl w.heap.size rfl _ _ rfl 38 HR.out (by kernel_rfl) rfl (by simp [Value.oneCell']) ?_;intro w9 hY hG;have HY:=Hd hY;have HGn:=Hd hG;clear hY hG)
  refine bodyPost_ret (results_row_1 rfl _ _ w.heap.size 38 _ _ rfl HY.out Tryz.underlying38 rfl (by kernel_rfl)) rfl ⟨HF.out.step HGn.out (by simp),.inr ⟨3,HM.out,by omega,rfl⟩⟩
 have HM : Hid (mkP ls = match runL ls Sheet.zero with | .error k => .error k | .ok s => if s.alike = false then .error 61 else match cvOf s.seqs with | .error k => .error k | .ok (b,m) => .ok ⟨s.sum,b,m⟩):=Hd (by unfold mkP;rw [if_neg hn,if_neg hb48])
 have hsm : ls.length ≤ 48:=by omega
 clear hn
 obtain ⟨w2,e2,hF2,hB2,hs2⟩:=one_new w1 #[.int .u8 0,.int .u8 0,.int .u8 0,.int .u8 0,.int .u8 0,.int .u8 0,.int .u8 0,.int .u8 0,.slice none 0 0,.slice none 0 0,.int .u32 0,.bool false] 129
 have E2:=Hd e2;have HF2:=Hd hF2;have HB2 : Hid (Box w2 w1.heap.size 129 (shc Sheet.zero (.slice none 0 0) (.slice none 0 0))):=Hd hB2
 have HS2:=Hd hs2
 clear e2 hF2 hB2 hs2
 go_enter Tryz.func29,Tryz.ntmps29
 go_upto_region 1 with fail
 rw [E1.out]
 clear E1
 go_upto_region 6 with fail
 rw [E2.out]
 clear E2
 generalize hg : w1.heap.size = g at *
 have HGE:=Hd hg
 clear hg
 go_wp2_with fail
 go_loopw [23] (fun iv wr => ∃ (k : Nat) (s : Sheet),k ≤ ls.length ∧ iv = .int .i64 k ∧ runL (ls.take k) Sheet.zero = .ok s ∧ ShV wr (g + 1) g s ∧ Fr [] w1 wr ∧ g + 1 ≤ wr.heap.size ∧ s.seqs.length = k ∧ s.sum.body.length ≤ 1500) (fun iv _ => ls.length - (intOf iv).toNat)
 case atStart => exact ⟨0,Sheet.zero,Nat.zero_le _,rfl,rfl,⟨⟨_,_,HB2.out,Sl.nil _,World.ownsRow_nil _ _ _ _,by simp [liveOf]⟩,by omega⟩,HF2.out,by have:=HS2.out;omega,rfl,by simp [Sheet.zero,Bt.zero]⟩
 case round =>
  clear HB2 HF2
  obtain ⟨k,s,hk,rfl,hR,hS,hF,hz,hq,hb⟩:=hrel
  have HRL:=Hd hR;have HSV:=Hd hS;have HFQ:=Hd hF;have HZ:=Hd hz;have HQ:=Hd hq;have HSB:=Hd hb
  clear hR hS hF hz hq hb
  by_cases hlt : k < ls.length
  ·obtain ⟨b,o,x,y,ea,hb,hy,hc,hx⟩:=HL.out.at_ hlt
   subst ea
   have HTF : Hid (ls = ls.take k ++ y :: ls.drop (k + 1)):=Hd (by
    have h1 : ls[k] = y:=by rw [List.getElem?_eq_getElem hlt] at hy;simpa using hy
    rw [← h1,List.getElem_cons_drop,List.take_append_drop])
   have HT : Hid (ls.take (k + 1) = ls.take k ++ [y]):=Hd (by rw [List.take_add_one,hy];rfl)
   obtain ⟨al,cl,rfl⟩:=Sl.shape hx
   simp only [List.length_map] at hx hc
   have HX:=Hd hx
   have d0:=HFQ.out.cellSome hc (by simp)
   clear hb hy hc hx
   go_wp2_with fail
   refine (shAdd_any (w0:=w1) HSV.out HFQ.out (by have:=HGE.out;omega) HX.out HZ.out (by have:=HSB.out;omega) (by have:=HQ.out;omega)).mono ?_
   rintro e w3 ⟨⟨hF,hz⟩,⟨p,hp,rfl,hS⟩ | ⟨kk,hp,rfl⟩⟩
   ·have HSV:=Hd hS;have HFQ:=Hd hF;have HZ:=Hd hz
    have HRL:=Hd (show runL (ls.take (k + 1)) Sheet.zero = .ok (s.add y p) by rw [HT.out,runL_append,HRL.out];exact runL_ok s hp)
    have HQ : Hid ((s.add y p).seqs.length = k + 1):=Hd (by
     have h1 : (s.add y p).seqs = s.seqs ++ [p.seq]:=by unfold Sheet.add Sheet.begun;split <;> rfl
     rw [h1,List.length_append,HQ.out];rfl)
    have HSB : Hid ((s.add y p).sum.body.length ≤ 1500):=Hd (by
     have h1 : (s.add y p).sum = s.sum.add (imp y):=by unfold Sheet.add Sheet.begun;split <;> rfl
     have h2 : (imp y).body.length ≤ 1500:=by show (y.drop 12).length ≤ _;have:=(parse_len hp).2;rw [List.length_drop];omega
     rw [h1,Bt.add_body_len];have:=HSB.out;omega)
    clear hp hS hF hz
    go_wp2_with fail
    go_roundw
    case rel => exact ⟨k + 1,_,by omega,by go_num,HRL.out,HSV.out,HFQ.out,HZ.out,HQ.out,HSB.out⟩
    case measure => simp [intOf];omega
   ·have hk0 : kk ≠ 0:=by simpa using parseR_err hp
    have hkb : (kk != 0) = true:=bne_iff_ne.2 hk0
    have HK0:=Hd hk0
    have HME : Hid (mkP ls = .error kk):=Hd (by
     have h1 : runL ls Sheet.zero = .error kk:=by
      rw [HTF.out,runL_append,HRL.out]
      exact runL_err _ s hp
     rw [HM.out,h1])
    have HRR:=Hd (HR.out.keep hF);have HFQ:=Hd hF
    clear hp hF hz hk0
    go_wp2_with (refine wpList_store_row rfl 38 (.tmp 2) (.tmp 31) rfl w.heap.size rfl _ _ rfl 38 HRR.out (by kernel_rfl) rfl (by simp [Value.oneCell']) ?_;intro w9 hY hG;have HY:=Hd hY;have HGn:=Hd hG;clear hY hG)
    refine bodyPost_ret (results_row_1 rfl _ _ w.heap.size 38 _ _ rfl HY.out Tryz.underlying38 rfl (by kernel_rfl)) rfl ⟨(HF.out.trans HFQ.out).step HGn.out (by simp),.inr ⟨kk,HME.out,HK0.out,rfl⟩⟩
  ·obtain rfl : k = ls.length:=by omega
   rw [List.take_length] at HRL
   have HMS : Hid (mkP ls = if s.alike = false then .error 61 else match cvOf s.seqs with | .error k => .error k | .ok (b,m) => .ok ⟨s.sum,b,m⟩):=Hd (by rw [HM.out,HRL.out])
   obtain ⟨⟨vb,vs,hB,hb,ho,hd⟩,-⟩:=HSV.out
   obtain ⟨ab,nb,cb,rfl⟩:=Sl.isSlice hb
   obtain ⟨aq,cq,rfl⟩ : ∃ a c,vs = .slice a s.seqs.length c:=by
    have:=Sl.shape (Sl.ofOwn ho)
    simpa using this
   have HB:=Hd hB;have HBD:=Hd hb;have HSQ:=Hd (Sl.ofOwn ho);have HD:=Hd hd
   have HRW:=Hd (HR.out.keep HFQ.out)
   clear hB hb ho hd HSV HM
   cases hal : s.alike with
   | false =>
    have HB1 : Hid (Box wr g 129 (shc { s with alike:=false } (.slice ab nb cb) (.slice aq s.seqs.length cq))):=Hd (HB.out.as_ (by rw [← hal]))
    have HME : Hid (mkP ls = .error 61):=Hd (by rw [HMS.out,if_pos hal])
    clear hal
    have x11:=HB1.out.cell 11
    simp only [shc,zz7,zz8,zz9] at x11
    go_wp2_with (refine wpList_store_row rfl 38 (.tmp 2) (.tmp 37) rfl w.heap.size rfl _ _ rfl 38 HRW.out (by kernel_rfl) rfl (by simp [Value.oneCell']) ?_;intro w9 hY hG;have HY:=Hd hY;have HGn:=Hd hG;clear hY hG)
    refine bodyPost_ret (results_row_1 rfl _ _ w.heap.size 38 _ _ rfl HY.out Tryz.underlying38 rfl (by kernel_rfl)) rfl ⟨(HF.out.trans HFQ.out).step HGn.out (by simp),.inr ⟨61,HME.out,by omega,rfl⟩⟩
   | true =>
    have HB1 : Hid (Box wr g 129 (shc { s with alike:=true } (.slice ab nb cb) (.slice aq s.seqs.length cq))):=Hd (HB.out.as_ (by rw [← hal]))
    have HMC : Hid (mkP ls = match cvOf s.seqs with | .error k => .error k | .ok (b,m) => .ok ⟨s.sum,b,m⟩):=Hd (by rw [HMS.out,if_neg (by rw [hal];simp)])
    clear hal HMS
    have x11:=HB1.out.cell 11;have x9:=HB1.out.cell 9
    simp only [shc,zz7,zz8,zz9] at x11 x9
    go_wp2_with fail
    clear x11 x9
    refine (cvOf_any (ns:=s.seqs) HSQ.out (by have:=HQ.out;omega)).mono ?_
    rintro e w5 ⟨⟨bs,m,hm,rfl⟩ | ⟨kk,hm,hk0,rfl⟩,hF⟩
    ·have HME : Hid (mkP ls = .ok ⟨s.sum,bs,m⟩):=Hd (by rw [HMC.out,hm])
     have HB1:=Hd (HB1.out.keep hF);have HBD:=Hd (Sl.keep HBD.out hF);have HRW:=Hd (HRW.out.keep hF);have HFQ:=Hd (HFQ.out.trans hF)
     clear hm hF HMC
     go_upto_region 16 with (refine wpList_store_row rfl 132 (.tmp 9) (.tmp 43) rfl w5.heap.size rfl _ _ rfl 132 (Box.new w5 132 #[.int .u64 0,.int .u64 0]) (by kernel_rfl) rfl (by simp [Value.oneCell']) ?_;intro w6 hY hG;have hFn:=((Fr.refl [] w5).alloc _).step hG (by simp);have HFn:=Hd hFn;have HMB:=Hd hY;clear hG hFn hY)
     have hF:=HFn.out
     have HB1:=Hd (HB1.out.keep hF);have HBD:=Hd (Sl.keep HBD.out hF);have HRW:=Hd (HRW.out.keep hF);have HFQ:=Hd (HFQ.out.trans hF)
     have HRG : Hid (w6.rangeAt g 0 (#[.int .u8 (s.sum.h0.toNat : Nat),.int .u8 (s.sum.h1.toNat : Nat),.int .u8 (s.sum.h2.toNat : Nat),.int .u8 (s.sum.h3.toNat : Nat),.int .u8 (s.sum.h4.toNat : Nat),.int .u8 (s.sum.h5.toNat : Nat),.int .u8 (s.sum.h6.toNat : Nat),.int .u8 (s.sum.h7.toNat : Nat)] : Array Value).toList):=Hd (fun j u hj => by
      refine box_range HB1.out j u ?_
      have hlt:=(List.getElem?_eq_some_iff.1 hj).1
      have h8 : j < 8:=by simpa using hlt
      rcases (by omega : j = 0 ∨ j = 1 ∨ j = 2 ∨ j = 3 ∨ j = 4 ∨ j = 5 ∨ j = 6 ∨ j = 7) with rfl | rfl | rfl | rfl | rfl | rfl | rfl | rfl <;> exact hj)
     clear hF HFn
     generalize hg5 : w5.heap.size = g5 at *
     clear hg5
     have x8:=HB1.out.cell 8;have y0:=HMB.out.cell 0;have y1:=HMB.out.cell 1
     simp only [shc,mkc,zz7,zz8,zz9] at x8 y0 y1
     go_wp2_with (first | (refine wpList_load_midA rfl 35 (.tmp 50) rfl g 0 rfl #[.int .u8 (s.sum.h0.toNat : Nat),.int .u8 (s.sum.h1.toNat : Nat),.int .u8 (s.sum.h2.toNat : Nat),.int .u8 (s.sum.h3.toNat : Nat),.int .u8 (s.sum.h4.toNat : Nat),.int .u8 (s.sum.h5.toNat : Nat),.int .u8 (s.sum.h6.toNat : Nat),.int .u8 (s.sum.h7.toNat : Nat)] _ HRG.out Tryz.underlying35 rfl (by kernel_rfl) ?_) | (refine wpList_store_row rfl 38 (.tmp 2) (.tmp 60) rfl w.heap.size rfl _ _ rfl 38 HRW.out (by kernel_rfl) rfl (by simp [Value.oneCell']) ?_;intro w9 hY hG;have HY:=Hd hY;have HGn:=Hd hG;clear hY hG))
     have HPO : Hid (RpO w9 w.heap.size (.agg (rpc ⟨s.sum,bs,m⟩ (.slice ab nb cb))) ⟨s.sum,bs,m⟩):=Hd ⟨_,rfl,Sl.frL HBD.out HGn.out (fun b hb hm => by have:=(HD.out b hb).2.2;have:=HG2.out;simp at hm;omega),fun b hb => by have:=(HD.out b hb).2.2;have:=HG2.out;omega⟩
     refine bodyPost_ret (results_row_1 rfl _ _ w.heap.size 38 _ _ rfl HY.out Tryz.underlying38 rfl (by kernel_rfl)) rfl ⟨(HF.out.trans HFQ.out).step HGn.out (by simp),.inl ⟨_,_,HME.out,rfl,HPO.out⟩⟩
    ·have HME : Hid (mkP ls = .error kk):=Hd (by rw [HMC.out,hm])
     have hkb : (kk != 0) = true:=bne_iff_ne.2 hk0
     have HK0:=Hd hk0
     have HRR:=Hd (HRW.out.keep hF);have HFQ:=Hd (HFQ.out.trans hF)
     clear hm hF hk0 HMC
     go_wp2_with (first | (refine wpList_store_row rfl 132 (.tmp 9) (.tmp 43) rfl w5.heap.size rfl _ _ rfl 132 (Box.new w5 132 #[.int .u64 0,.int .u64 0]) (by kernel_rfl) rfl (by simp [Value.oneCell']) ?_;intro w6 hY hG;have hFn:=((Fr.refl [] w5).alloc _).step hG (by simp);have HFn:=Hd hFn;have HMB:=Hd hY;have HRR:=Hd (HRR.out.keep hFn);have HFQ:=Hd (HFQ.out.trans hFn);clear hG hFn hY) | (refine wpList_store_row rfl 38 (.tmp 2) (.tmp 47) rfl w.heap.size rfl _ _ rfl 38 HRR.out (by kernel_rfl) rfl (by simp [Value.oneCell']) ?_;intro w9 hY hG;have HY:=Hd hY;have HGn:=Hd hG;clear hY hG))
     refine bodyPost_ret (results_row_1 rfl _ _ w.heap.size 38 _ _ rfl HY.out Tryz.underlying38 rfl (by kernel_rfl)) rfl ⟨(HF.out.trans HFQ.out).step HGn.out (by simp),.inr ⟨kk,HME.out,HK0.out,rfl⟩⟩
end Go.Proofs.YtcngfbjmpemehaaGreat

/- The walk of parity.Holds (printed by gen_holds.py). -/
namespace Go.Proofs.YtcngfbjmpemehaaGreat
open Go.RowKit

theorem u16_bne (a b : UInt16) : (((a.toNat : Nat) : Int) != ((b.toNat : Nat) : Int)) = !(a == b):=by
 rw [Bool.eq_iff_iff]
 simp [← UInt16.toNat_inj]
 omega
end Go.Proofs.YtcngfbjmpemehaaGreat
