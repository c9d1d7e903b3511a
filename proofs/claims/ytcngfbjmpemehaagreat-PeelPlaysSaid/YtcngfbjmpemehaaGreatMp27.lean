import Derived.Test.YtcngfbjmpemehaaGreatMp11
import Derived.Test.YtcngfbjmpemehaaGreatMp24
import Derived.Test.YtcngfbjmpemehaaGreatMp23
import Derived.Test.YtcngfbjmpemehaaGreatMp26
import Derived.Test.YtcngfbjmpemehaaGreatMp15
set_option maxRecDepth 100000
set_option maxHeartbeats 16000000
open List renaming getElem_toArray → zz1, getElem_cons_zero → zz2, getElem_cons_succ → zz3, setIfInBounds_toArray → zz4, set_cons_zero → zz5, set_cons_succ → zz6, getElem?_toArray → zz7, getElem?_cons_succ → zz8, getElem?_cons_zero → zz9
open Go.Lib renaming hid → Hd
/- The iterators mask.Bits and cover.Each,and cover.Seqs,Repair (printed by gen_bits1.py). -/
namespace Go.Proofs.YtcngfbjmpemehaaGreat
open Go.RowKit Go.Shelf

attribute [local go_sem] Oper.semAt_some

theorem Kx.step {Xs : List (Nat × Nat)} {W A B : World} {g : Nat} (h : Kx Xs W A) (hf : Fr [g] A B) (hg : W.heap.size ≤ g) (hX : ∀ p ∈ Xs,p.1 < W.heap.size) : Kx Xs W B:=by
 have e : ∀ k,k < W.heap.size → B.heap[k]? = A.heap[k]?:=fun k hk => hf.block k (by have:=h.size;omega) (by simp;omega)
 exact ⟨Nat.le_trans h.size hf.size,fun k o hk hgd => (e k (Array.getElem?_eq_some_iff.1 hk).1).trans (h.blocks k o hk hgd),fun k hk hgd => (h.gd k hk hgd).congr fun p hp => e p.1 (hX p hp),fun hl => (h.low hl).congr (fun p hp => e p.1 (hX p hp)) hf.size⟩
theorem Kx.put {Xs : List (Nat × Nat)} {W A : World} {g : Nat} {o : Obj} (h : Kx Xs W A) (hg : W.heap.size ≤ g) (hX : ∀ p ∈ Xs,p.1 < W.heap.size) : Kx Xs W (A.putObj g o):=by
 have e : ∀ k,k < W.heap.size → (A.putObj g o).heap[k]? = A.heap[k]?:=fun k hk => World.putObj_heap_other (by omega)
 have hz:=putObj_size A g o
 exact ⟨by rw [hz];exact h.size,fun k o' hk hgd => (e k (Array.getElem?_eq_some_iff.1 hk).1).trans (h.blocks k o' hk hgd),fun k hk hgd => (h.gd k hk hgd).congr fun p hp => e p.1 (hX p hp),fun hl => (h.low hl).congr (fun p hp => e p.1 (hX p hp)) (by rw [hz];exact Nat.le_refl _)⟩
def leftOf (p : Value) (w : World) : Nat :=
 match p with
 | .pointer (some a) => match w.cell? ⟨a.block,0,none⟩,w.cell? ⟨a.block,1,none⟩ with
  | some (.int _ x),some (.int _ y) => (Msk.list ⟨BitVec.ofNat 64 x.toNat,BitVec.ofNat 64 y.toNat⟩).length
  | _,_ => 0
 | _ => 0
theorem leftOf_eq {w : World} {g : Nat} {m : Msk} (h : Box w g 132 (mkc m)) : leftOf (.pointer (some ⟨g,0,none⟩)) w = m.list.length:=by
 have x0:=h.cell 0;have x1:=h.cell 1
 simp only [mkc,zz7,zz8,zz9] at x0 x1
 unfold leftOf
 simp only [x0,x1,Int.toNat_natCast,BitVec.ofNat_toNat,BitVec.setWidth_eq]
theorem mBits1_seq {w : World} (n : Nat) (hn : 1 ≤ n) (b : Nat) (m : Msk) (Xs : List (Nat × Nat)) (hX : ∀ p ∈ Xs,p.1 < w.heap.size) (hb : Box w b 132 (mkc m)) :
  SeqN Fence.wide n Tryz.prog 153 #[.pointer (some ⟨b,0,none⟩)] (fun i : Nat => #[.int .i64 i]) Xs m.list w:=fun l J W hW hlow hJa hYa h0 => by
 have HX : Hid (∀ p ∈ Xs,p.1 < W.heap.size):=Hd (fun p hp => Nat.lt_of_lt_of_le (hX p hp) hW.size)
 have HB : Hid (Box W b 132 (mkc m)):=Hd (hb.keep (Fr.ofBelow hW))
 have HJ:=Hd hJa;have HY:=Hd hYa;have HL:=Hd hlow;have HLW:=Hd hlow
 clear hX hb hW hJa hYa hlow
 show CallsIn _ _ _ _ #[.func (.yield l) #[] #[],.pointer (some ⟨b,0,none⟩)] W _
 refine callsIn_of_wp Tryz.func153 rfl trivial ?_ rfl
 simp only [Tryz.ntmps153,List.size_toArray,List.length_cons,List.length_nil,Nat.reduceAdd,Nat.reduceSub,Array.replicate_succ,Array.replicate_zero,List.push_toArray,List.append_toArray,List.nil_append,List.cons_append]
 gi_wp2_with (first | (refine wpListIn_load_row_w rfl 132 (.tmp 1) rfl (b) rfl 132 _ _ HB.out Tryz.underlying132 rfl (by kernel_rfl) ?_) | (refine wpListIn_store_row rfl 132 (.tmp 3) (.tmp 5) rfl W.heap.size rfl _ _ rfl 132 (Box.new W 132 #[.int .u64 0,.int .u64 0]) (by kernel_rfl) rfl (by simp [Value.oneCell']) ?_;intro w2 hY2 hG;have hFn:=((Fr.refl [] W).alloc _).step hG (by simp);have HFn:=Hd hFn;have HN:=Hd hY2;clear hG hFn hY2))
 gi_loopw [3] (fun p wr => ∃ (pre : List Nat) (rest : Msk) (g : Nat),p = .pointer (some ⟨g,0,none⟩) ∧ m.list = pre ++ rest.list ∧ Box wr g 132 (mkc rest) ∧ W.heap.size ≤ g ∧ Gd Xs wr g ∧ J pre wr ∧ Kx Xs W wr ∧ Low Xs wr) (fun p wr => leftOf p wr)
 case atStart =>
  have k1:=Kx.ofFr HFn.out HX.out
  exact ⟨[],m,W.heap.size,rfl,rfl,HN.out,Nat.le_refl _,(Gd.new HL.out HX.out (Nat.le_refl _)).congr (fun p hp => HFn.out.block p.1 (HX.out p hp) (by simp)),HJ.out.fr0 h0 HFn.out,k1,k1.low HL.out⟩
 case round =>
  clear h0 HN HFn HB
  obtain ⟨pre,rest,g,rfl,hm,hB,hg,hgd,hJs,hK,hlw⟩:=hrel
  have HM:=Hd hm;have HB:=Hd hB;have HG:=Hd hg;have HGD:=Hd hgd;have HJS:=Hd hJs;have HK:=Hd hK;have HL:=Hd hlw
  have HLE:=Hd (leftOf_eq hB);have HBW:=Hd hB
  clear hm hB hg hgd hJs hK hlw
  by_cases hz : rest = Msk.zero
  ·have HF1:=Hd (Msk.first_none hz)
   have HE : Hid (m.list = pre):=Hd (by rw [HM.out,Msk.list_nil.2 hz,List.append_nil])
   clear hz
   gi_wp2_with (refine wpListIn_load_row_w rfl 132 (.tmp 3) rfl (g) rfl 132 _ _ HB.out Tryz.underlying132 rfl (by kernel_rfl) ?_)
   refine ⟨trivial,?_⟩
   refine (callsIn_wide.2 (mFirst_any rest _)).mono ?_
   rintro e w3 ⟨rfl,hF⟩
   rw [HF1.out]
   have HFn:=Hd hF
   clear hF
   gi_wp2
   refine ⟨fun _ h => (by cases h),?_⟩
   gi_wp2
   refine bodyPost_ret (results_none rfl _ _ _) rfl ?_
   exact ⟨⟨_,rfl⟩,by rw [HE.out];exact HJ.out.fr0 HJS.out HFn.out,HK.out.trans (Kx.ofFr HFn.out (fun p hp => Nat.lt_of_lt_of_le (HX.out p hp) HK.out.size))⟩
  ·obtain ⟨i,hi1,hi2,hi3⟩:=Msk.first_some hz
   have HF1:=Hd hi1;have HI3:=Hd hi3
   have HPRE : Hid ((pre ++ [i]) <+: m.list):=Hd (by rw [HM.out,hi3];exact ⟨(rest.sub (Msk.bit i)).list,by simp⟩)
   have HM2 : Hid (m.list = (pre ++ [i]) ++ (rest.sub (Msk.bit i)).list):=Hd (by rw [HM.out,hi3];simp)
   clear hz hi1 hi3
   gi_wp2_with (refine wpListIn_load_row_w rfl 132 (.tmp 3) rfl (g) rfl 132 _ _ HB.out Tryz.underlying132 rfl (by kernel_rfl) ?_)
   refine ⟨trivial,?_⟩
   refine (callsIn_wide.2 (mFirst_any rest _)).mono ?_
   rintro e w3 ⟨rfl,hF⟩
   rw [HF1.out]
   have hJ3:=HJ.out.fr0 HJS.out hF
   have HB:=Hd (HB.out.keep hF)
   have HGL:=Hd HB.out.lt;have HGLT:=HGL
   have hX3 : ∀ p ∈ Xs,p.1 < wr.heap.size:=fun p hp => Nat.lt_of_lt_of_le (HX.out p hp) HK.out.size
   have hk3:=Kx.ofFr hF hX3
   have HGD:=Hd (hk3.gd g (by have:=HB.out;exact (Array.getElem?_eq_some_iff.1 (show wr.heap[g]? = some _ from HBW.out)).1) HGD.out)
   have HL:=Hd (hk3.low HL.out);have HK:=Hd (HK.out.trans hk3)
   clear hX3 hk3 hF HJS
   obtain ⟨fn,tmps,assign,body,hy,hR⟩:=HY.out pre i w3 HPRE.out hJ3
   clear hJ3
   gi_wp2
   refine hR.mono ?_
   rintro e w4 ⟨rfl,hJ4,hK4⟩
   clear hy hR
   have HB : Hid (Box w4 g 132 (mkc rest)):=Hd ((hK4.cell HGD.out HB.out.lt).trans HB.out)
   have HGD:=Hd (hK4.gd g (by have:=HGL.out;have:=hK4.size;exact HGLT.out) HGD.out)
   have HL:=Hd (hK4.low HL.out);have HK:=Hd (HK.out.trans hK4);have HJS:=Hd hJ4
   clear hJ4 hK4 HGL HGLT
   gi_wp2_with (refine wpListIn_load_row_w rfl 132 (.tmp 3) rfl (g) rfl 132 _ _ HB.out Tryz.underlying132 rfl (by kernel_rfl) ?_)
   refine ⟨trivial,?_⟩
   refine (callsIn_wide.2 (mWithout_any rest hi2 _)).mono ?_
   rintro e w5 ⟨rfl,hF⟩
   have HJS:=Hd (HJ.out.fr0 HJS.out hF)
   have hX4 : ∀ p ∈ Xs,p.1 < w4.heap.size:=fun p hp => Nat.lt_of_lt_of_le (HX.out p hp) HK.out.size
   have hk5:=Kx.ofFr hF hX4
   have HGD:=Hd (hk5.gd g HB.out.lt HGD.out)
   have HB:=Hd (HB.out.keep hF)
   have HL:=Hd (hk5.low HL.out);have HK:=Hd (HK.out.trans hk5)
   clear hX4 hk5 hF
   gi_wp2_with (first | (refine wpListIn_store_row rfl 132 (.tmp 3) (.tmp 18) rfl g rfl _ _ rfl 132 HB.out (by kernel_rfl) rfl (by simp [Value.oneCell']) ?_;intro w6 hY6 hG6;have HB6:=Hd hY6;have HG6:=Hd hG6;clear hY6 hG6) | (refine wpListIn_load_row_w rfl 132 (.tmp 3) rfl (g) rfl 132 _ _ HB6.out Tryz.underlying132 rfl (by kernel_rfl) ?_) | (refine wpListIn_store_row rfl 132 (.tmp 3) (.tmp 19) rfl w6.heap.size rfl _ _ rfl 132 (Box.new w6 132 #[.int .u64 0,.int .u64 0]) (by kernel_rfl) rfl (by simp [Value.oneCell']) ?_;intro w7 hY2 hG;have hFn:=((Fr.refl [] w6).alloc _).step hG (by simp);have HFn:=Hd hFn;have HN:=Hd hY2;clear hG hFn hY2))
   have HJ6:=Hd (HJ.out.fr HJS.out HG6.out HG.out HGD.out)
   have hK6:=HK.out.step HG6.out HG.out HX.out
   have hX6 : ∀ p ∈ Xs,p.1 < w6.heap.size:=fun p hp => Nat.lt_of_lt_of_le (HX.out p hp) hK6.size
   have hL6 : Low Xs w6:=hK6.low HLW.out
   have hk7:=Kx.ofFr HFn.out hX6
   have HL7:=Hd (leftOf_eq HN.out)
   have HJ7:=Hd (HJ.out.fr0 HJ6.out HFn.out)
   have HK7:=Hd (hK6.trans hk7)
   have HLL7:=Hd (hk7.low hL6)
   have HGD7 : Hid (Gd Xs w7 w6.heap.size):=Hd ((Gd.new hL6 hX6 (Nat.le_refl _)).congr (fun p hp => HFn.out.block p.1 (hX6 p hp) (by simp)))
   have HS6 : Hid (W.heap.size ≤ w6.heap.size):=Hd hK6.size
   clear hK6 hX6 hL6 hk7
   simp only [Act.put]
   go_roundw
   case rel => exact ⟨pre ++ [i],rest.sub (Msk.bit i),w6.heap.size,rfl,HM2.out,HN.out,HS6.out,HGD7.out,HJ7.out,HK7.out,HLL7.out⟩
   case measure =>
    show leftOf (.pointer (some ⟨w6.heap.size,0,none⟩)) w7 < leftOf (.pointer (some ⟨g,0,none⟩)) wr
    rw [HL7.out,HLE.out,HI3.out]
    simp

theorem mBits_any (m : Msk) (w : World) :
  Calls Tryz.prog 146 #[.agg (mkc m)] w fun e w' => e = .returned (.func (.func 153) #[] #[.pointer (some ⟨w.heap.size,0,none⟩)]) ∧ Box w' w.heap.size 132 (mkc m) ∧ Fr [] w w':=by
 obtain ⟨w1,e1,hF1,hB1,hs1⟩:=one_new w (mkc m) 132
 have HF:=Hd hF1;have HB:=Hd hB1;have E1:=Hd e1
 clear hF1 hB1 e1 hs1
 go_enter Tryz.func146,Tryz.ntmps146
 go_upto_region 1 with fail
 rw [E1.out]
 clear E1
 go_wp2_with fail
 go_ret
 exact ⟨rfl,HB.out,HF.out⟩
theorem roundIn_any {n m : Nat} {P : Program} {l l' : Nat} {f : FuncId} {tmps : Array Value} {assign body : Code} {w : World} {R : Ending → World → Prop} (h : RoundIn Fence.wide n P l f tmps assign body w R) : RoundIn (Fence.wide.inRound l') m P l f tmps assign body w R :=
 ⟨h.1,fun c cs _ => h.2 c cs (fun d hd => by cases hd)⟩
theorem AbX.le {β : Type} {Xs : List (Nat × Nat)} {B B' : Nat} {J : β → World → Prop} (h : AbX Xs B J) (hb : B ≤ B') : AbX Xs B' J:=fun s W W' row hs hg hr => h s W W' row hs hg (fun r e => ⟨Nat.le_trans hb (hr r e).1,(hr r e).2⟩)
theorem AbX.and {β : Type} {Xs : List (Nat × Nat)} {B : Nat} {J K : β → World → Prop} (h : AbX Xs B J) (k : AbX Xs B K) : AbX Xs B (fun s W => J s W ∧ K s W):=fun s W W' row hs hg hr => ⟨h s W W' row hs.1 hg hr,k s W W' row hs.2 hg hr⟩
theorem AbX.box {β : Type} {Xs : List (Nat × Nat)} {B : Nat} {g : Nat} {t : TypeId} {c : Array Value} (hg : g < B) (hX : ∀ p ∈ Xs,p.1 < B) : AbX Xs B (fun (_ : β) W => Box W g t c ∧ Gd Xs W g ∧ B ≤ W.heap.size):=fun s W W' row hs hgr hr =>
 ⟨(hgr.block g hs.1.lt (fun e => by have:=(hr g e.symm).1;omega)).trans hs.1,hs.2.1.congr fun p hp => hgr.block p.1 (by have:=hX p hp;have:=hs.2.2;omega) (fun e => by have:=(hr p.1 e.symm).1;have:=hX p hp;omega),Nat.le_trans hs.2.2 hgr.size⟩
end Go.Proofs.YtcngfbjmpemehaaGreat

/- The iterator of cover.Each (printed by gen_bits1.py). -/
namespace Go.Proofs.YtcngfbjmpemehaaGreat
open Go.RowKit Go.Shelf

attribute [local go_sem] Oper.semAt_some

theorem cvEach1_seq {w : World} (n : Nat) (hn : 3 ≤ n) (b1 b2 : Nat) (m : Msk) (base : UInt16) (Xs : List (Nat × Nat)) (hX : ∀ p ∈ Xs,p.1 < w.heap.size) (hb1 : Box w b1 132 (mkc m)) (hb2 : Box w b2 24 #[.int .u16 (base.toNat : Nat)]) (hg2 : Gd Xs w b2) :
  SeqN Fence.wide n Tryz.prog 145 #[.pointer (some ⟨b1,0,none⟩),.pointer (some ⟨b2,0,none⟩)] (fun i : Nat => #[.int .i64 i,.int .u16 ((add16 base i).toNat : Nat)]) Xs m.list w:=fun l J W hW hlow hJa hYa h0 => by
 have HX : Hid (∀ p ∈ Xs,p.1 < W.heap.size):=Hd (fun p hp => Nat.lt_of_lt_of_le (hX p hp) hW.size)
 have HB1:=Hd (hb1.keep (Fr.ofBelow hW));have HB2:=Hd (hb2.keep (Fr.ofBelow hW))
 have HG2 : Hid (Gd Xs W b2):=Hd (hg2.congr (fun p hp => (Fr.ofBelow hW).block p.1 (hX p hp) (by simp)))
 have HJ:=Hd hJa;have HY:=Hd hYa;have HL:=Hd hlow;have HJ0:=Hd h0
 clear hX hb1 hb2 hW hJa hYa hlow hg2 h0
 show CallsIn _ _ _ _ #[.func (.yield l) #[] #[],.pointer (some ⟨b1,0,none⟩),.pointer (some ⟨b2,0,none⟩)] W _
 refine callsIn_of_wp_marks Tryz.func145 rfl trivial ?_ rfl
 simp only [Tryz.ntmps145,List.size_toArray,List.length_cons,List.length_nil,Nat.reduceAdd,Nat.reduceSub,Array.replicate_succ,Array.replicate_zero,List.push_toArray,List.append_toArray,List.nil_append,List.cons_append]
 obtain ⟨w1,e1,hF1,hB3,hs1⟩:=one_new W #[.func (.yield l) #[] #[]] 234
 have E1:=Hd e1;have HB3:=Hd hB3;have HF1:=Hd hF1;have HS1:=Hd hs1
 have HB1w:=Hd (HB1.out.keep ((Fr.refl [] W).alloc (.cells #[.func (.yield l) #[] #[]] 234)))
 clear e1 hB3 hF1 hs1
 gi_wp2_with (first | (refine wpListIn_load_row_w rfl 132 (.tmp 1) rfl (b1) rfl 132 _ _ HB1w.out Tryz.underlying132 rfl (by kernel_rfl) ?_))
 rw [E1.out]
 clear E1 HB1w
 refine ⟨trivial,fun _ => by omega,?_⟩
 refine (callsIn_wide.2 (mBits_any m _)).mono ?_
 rintro e w2 ⟨rfl,hB4,hF2⟩
 have hX1 : ∀ p ∈ Xs,p.1 < w1.heap.size:=fun p hp => Nat.lt_of_lt_of_le (HX.out p hp) HF1.out.size
 have hX2 : ∀ p ∈ Xs,p.1 < w2.heap.size:=fun p hp => Nat.lt_of_lt_of_le (hX1 p hp) hF2.size
 have hkk:=(Kx.ofFr HF1.out HX.out).trans (Kx.ofFr hF2 hX1)
 have HKK:=Hd hkk
 have HX2:=Hd hX2
 have HL2:=Hd (hkk.low HL.out)
 have HG2':=Hd (hkk.gd b2 HB2.out.lt HG2.out)
 have HG3 : Hid (Gd Xs w2 W.heap.size):=Hd ((Kx.ofFr hF2 hX1).gd _ HB3.out.lt ((Gd.new HL.out HX.out (Nat.le_refl _)).congr (fun p hp => HF1.out.block p.1 (HX.out p hp) (by simp))))
 have HB3:=Hd (HB3.out.keep hF2);have HB2:=Hd (HB2.out.keep (HF1.out.trans hF2))
 have HJ2:=Hd (HJ.out.fr0 HJ0.out (HF1.out.trans hF2))
 have HSEQ:=Hd (mBits1_seq (w:=w2) (n - 1) (by omega) w1.heap.size m Xs hX2 hB4)
 have HSZ : Hid (W.heap.size ≤ w2.heap.size):=Hd (by have:=HS1.out;have:=hF2.size;omega)
 clear hX1 hX2 hkk HJ0 hB4 hF2 HF1
 gi_wp2
 refine wpIn_rangeAll rfl (by omega) (gf:=153) (lb:=#[.pointer (some ⟨w1.heap.size,0,none⟩)]) rfl trivial (enters_of Tryz.func153 (by kernel_rfl) rfl) HSEQ.out (Below.refl _ _) (fun _ => rfl) HX2.out HL2.out
  (fun pre W' => J pre W' ∧ (Box W' W.heap.size 234 #[.func (.yield l) #[] #[]] ∧ Gd Xs W' W.heap.size ∧ w2.heap.size ≤ W'.heap.size) ∧ (Box W' b2 24 #[.int .u16 (base.toNat : Nat)] ∧ Gd Xs W' b2 ∧ w2.heap.size ≤ W'.heap.size))
  ((HJ.out.le HSZ.out).and ((AbX.box HB3.out.lt HX2.out).and (AbX.box HB2.out.lt HX2.out)))
  ⟨HJ2.out,⟨HB3.out,HG3.out,Nat.le_refl _⟩,⟨HB2.out,HG2'.out,Nat.le_refl _⟩⟩
  (fun i => { tmps:=#[.func (.yield l) #[] #[],.pointer (some ⟨b1,0,none⟩),.pointer (some ⟨b2,0,none⟩),.pointer (some ⟨W.heap.size,0,none⟩),.int .i64 i,.agg (mkc m),.func (.func 153) #[] #[.pointer (some ⟨w1.heap.size,0,none⟩)],.int .i64 i,undef,undef,undef,undef,undef,undef,undef],defers:=[] }) ?assign ?body ?done
 case assign =>
  intro l' x W' K hK
  gi_wp2
  exact hK
 case body =>
  rintro l' pre i W' hl' hpre ⟨hJ',⟨c3,g3,z3⟩,⟨c2,g2,z2⟩⟩ hlw hsz
  have x3:=c3.cell 0;have x2:=c2.cell 0
  simp only [zz7,zz9] at x3 x2
  have hfd:=(Fr.refl [] W').drew
  have hkd:=Kx.ofFr hfd (fun p hp => Nat.lt_of_lt_of_le (HX2.out p hp) hsz)
  have c3d:=c3.keep hfd;have c2d:=c2.keep hfd
  have HREST : Hid (∀ W3,Kx Xs W'.drew W3 → J (pre ++ [i]) W3 → Kx Xs W' W3 ∧ J (pre ++ [i]) W3 ∧ (Box W3 W.heap.size 234 #[.func (.yield l) #[] #[]] ∧ Gd Xs W3 W.heap.size ∧ w2.heap.size ≤ W3.heap.size) ∧ (Box W3 b2 24 #[.int .u16 (base.toNat : Nat)] ∧ Gd Xs W3 b2 ∧ w2.heap.size ≤ W3.heap.size)):=Hd (fun W3 hk hj => by
   have hk':=hkd.trans hk
   have hz:=hk'.size
   exact ⟨hk',hj,⟨(hk'.cell g3 c3.lt).trans c3,hk'.gd _ c3.lt g3,by omega⟩,⟨(hk'.cell g2 c2.lt).trans c2,hk'.gd _ c2.lt g2,by omega⟩⟩)
  obtain ⟨fn,tmps,assign,body,hy,hR⟩:=HY.out pre i W'.drew hpre (HJ.out.fr0 hJ' hfd)
  have hmx : Tryz.prog.follows .mixedOrders = true:=by kernel_rfl
  have hd : 1 ≤ n - 1 - 1:=by omega
  have HR:=Hd hR
  clear hfd hkd c3d c2d hR c3 g3 z3 c2 g2 z2
  gi_wp2
  gi_region_with_o (first | (refine ⟨trivial,?_⟩;refine (CallsIn.inRound l' (callsIn_wide.2 (serAdd_any base (i : Int) _))).mono ?_;rintro e w' ⟨rfl,rfl⟩) | (refine (roundIn_any HR.out).mono ?_;rintro e w5 ⟨rfl,hJ5,hK5⟩;have HJ5:=Hd hJ5;have HK5:=Hd hK5;clear hJ5 hK5))
  all_goals
   gi_wp2
   obtain ⟨k1,j1,q3,q2⟩:=HREST.out w5 HK5.out HJ5.out
   exact ⟨k1,j1,q3,q2⟩
 case done =>
  rintro D W' hD ⟨hJ',-,-⟩ hK hDk
  gi_wp2
  refine ⟨by simp,.inl ⟨_,_,rfl,run_takeDeferred hDk,?_⟩⟩
  exact ⟨_,results_none rfl _ _ _,⟨_,rfl⟩,HJ.out.putObj _ hJ' (by have:=HSZ.out;omega) hDk rfl,(HKK.out.trans hK).put (by have:=HSZ.out;omega) HX.out⟩
end Go.Proofs.YtcngfbjmpemehaaGreat

/- cover.Each,Seqs,Repair (printed by gen_seqs.py). -/
namespace Go.Proofs.YtcngfbjmpemehaaGreat
open Go.RowKit Go.Shelf

attribute [local go_sem] Oper.semAt_some

theorem wpListIn_append_fr {F : Fence} {n : Nat} {P : Program} {w : World} {ops : Array Oper} {rest : List Oper} {o : Oper} {a : Act} {Q : Exit → Act → World → Prop} (hgd : o.guard = none) (s x : Operand) (t : TypeId)
  (ho : o.op = .call { callee:=.builtin .append,args:=#[s,x],argTypes:=#[t,t] })
  (base : Nat) (e : TypeId) (z : Value) (size bytes : Nat) (ht : P.underlying t = some (.slice e)) (hi : (P.info? e).map (fun i => (i.zero,i.size,i.bytes)) = some (some z,size,bytes)) (hz : z.cells.size = size) (hsz : 0 < size)
  (v : Value) (k : Nat) (xs : List Value) (hs : a.eval s = v) (hown : w.ownsRow base e size v k xs)
  (ad : Addr) (m c : Nat) (news : List Value) (hx : a.eval x = .slice (some ad) m c) (hl : news.length = m * size) (hnews : ∀ j u,news[j]? = some u → w.cell? (ad.add j) = some u) (h1 : ∀ u ∈ news,u.oneCell' = true)
  (h63 : k + m ≤ maxLen) (hbytes : (k + m) * bytes ≤ 140737488355328) (hbase : base ≤ w.heap.size)
  (h : ∀ v' w',w'.ownsRow base e size v' (k + m) (xs ++ news) → Fr (blockOf v).toList w w' → (∀ b,blockOf v' = some b → blockOf v = some b ∨ w.heap.size ≤ b) → (v' = .slice none 0 0 ↔ v = .slice none 0 0 ∧ m = 0) → wpListIn F n P ops Q rest (a.put o.dst v') w') : wpListIn F n P ops Q (o :: rest) a w:=by
 refine wpListIn_plain hgd fun K hK => ?_
 obtain ⟨i,hi1,hi2,hi3,hi4⟩:=info_parts hi
 obtain ⟨v',w',hr,h2,h3,h4,h5⟩:=run_append_fresh (P:=P) w base t o.type e i z size bytes ht hi1 hi2 hi3 hi4 hz hsz v k xs hown ad m c news hl hnews h1 h63 hbytes hbase
 unfold Oper.wpIn
 refine ⟨by simp [Oper.about,ho,resolve,Target.leads,Sem.run_pure],?_⟩
 rw [Oper.semAt_plain F _ _ (by rw [ho];intro c hc';cases hc')]
 simp [execOp,ho,resolve,invoke,builtin,hs,hx,hr,Result.andThen]
 exact hK _ _ (h v' w' h2 h3 h5 h4)
theorem Kx.body {Xs : List (Nat × Nat)} {W W' : World} {S : List Nat} (h : Fr S W W') (hS : ∀ g ∈ S,W.heap.size ≤ g ∨ ¬ Gd Xs W g ∧ ∃ o : Obj,W.heap[g]? = some o ∧ o.isCells = true)
  (hn : ∀ p ∈ Xs,∀ v b,W'.cell? ⟨p.1,p.2,none⟩ = some v → blockOf v = some b → b < W'.heap.size ∧ (W.heap.size ≤ b ∨ ¬ Gd Xs W b)) : Kx Xs W W':=by
 refine ⟨h.size,fun k o hk hg => ?_,fun k hk hg p hp => ⟨(hg p hp).1,fun v hv hb => ?_⟩,fun _ p hp v b hv hb => (hn p hp v b hv hb).1⟩
 ·have hlt:=(Array.getElem?_eq_some_iff.1 hk).1
  rw [h.block k hlt (fun hm => ?_)]
  ·exact hk
  ·rcases hS k hm with h1 | ⟨h1,o',ho',hc⟩
   ·omega
   ·rcases hg with hg | hg
    ·exact h1 hg
    ·rw [hk] at ho';cases ho';rw [hc] at hg;cases hg
 ·rcases (hn p hp v k hv hb).2 with h1 | h1
  ·omega
  ·exact h1 hg
theorem cvEach_any (base : UInt16) (m : Msk) (w : World) :
  Calls Tryz.prog 122 #[.int .u16 (base.toNat : Nat),.agg (mkc m)] w fun e w' => e = .returned (.func (.func 145) #[] #[.pointer (some ⟨w.heap.size + 1,0,none⟩),.pointer (some ⟨w.heap.size,0,none⟩)]) ∧
   Box w' w.heap.size 24 #[.int .u16 (base.toNat : Nat)] ∧ Box w' (w.heap.size + 1) 132 (mkc m) ∧ Fr [] w w':=by
 obtain ⟨w1,e1,hF1,hB1,hB2,hs1⟩:=two_new w #[.int .u16 (base.toNat : Nat)] 24 (mkc m) 132
 have HF:=Hd hF1;have HB1:=Hd hB1;have HB2:=Hd hB2;have E1:=Hd e1
 clear hF1 hB1 hB2 e1 hs1
 go_enter Tryz.func122,Tryz.ntmps122
 go_upto_region 1 with fail
 rw [E1.out]
 clear E1
 go_wp2_with fail
 go_ret
 exact ⟨rfl,HB1.out,HB2.out,HF.out⟩
def seqsOf (base : UInt16) (m : Msk) : List UInt16:=m.list.map fun i => add16 base (i : Nat)
theorem info_u16 : (Tryz.prog.info? 24).map (fun i => (i.zero,i.size,i.bytes)) = some (some (.int .u16 0),1,2):=by kernel_rfl
structure GRel (w W : World) (B X : Nat) (l : List UInt16) : Prop where
 v : ∃ v,Box W X 66 #[v] ∧ W.ownsRow B 24 1 v l.length (l.map W16)
 fr : Fr [] w W
 sz : B ≤ W.heap.size
theorem GRel.abx {β : Type} {w : World} {B X : Nat} (f : β → List UInt16) (hX : X < B) (hw : w.heap.size ≤ B) : AbX [(X,0)] B (fun (s : β) W => GRel w W B X (f s)):=fun s W W' row hs hg hr => by
 obtain ⟨⟨v,h1,h2⟩,h3,h4⟩:=hs
 refine ⟨⟨v,(hg.block X h1.lt (fun e => by have:=(hr X e.symm).1;omega)).trans h1,?_⟩,?_,Nat.le_trans h4 hg.size⟩
 ·refine Own.fr h2 (Fr.ofGrown hg) (fun b hb hm => ?_)
  obtain ⟨hB,hc⟩:=hr b (by simpa using hm)
  rcases hc with ⟨o,ho,hc⟩ | hc
  ·obtain ⟨-,h | ⟨g,cap,cur,rfl,hbg,hgg,-⟩⟩:=h2
   ·rw [h.1] at hb;simp [blockOf] at hb
   ·simp only [blockOf,Option.some.injEq] at hb
    subst hb
    rw [hgg] at ho;cases ho;cases hc
  ·exact (hc (X,0) (by simp)).2 v (by have:=h1.cell 0;simpa using this) hb
 ·exact h3.grown hg (fun k hk => .inr (by have:=(hr k hk).1;omega))
theorem cvSeqs_any (base : UInt16) (m : Msk) (w : World) :
  Calls Tryz.prog 120 #[.int .u16 (base.toNat : Nat),.agg (mkc m)] w fun e w' => ∃ v,e = .returned v ∧ w'.ownsRow w.heap.size 24 1 v (seqsOf base m).length ((seqsOf base m).map W16) ∧ Fr [] w w':=by
 refine (callsIn_wide (n:=8)).1 ?_
 refine callsIn_of_wp_marks Tryz.func120 rfl trivial ?_ rfl
 simp only [Tryz.ntmps120,List.size_toArray,List.length_cons,List.length_nil,Nat.reduceAdd,Nat.reduceSub,Array.replicate_succ,Array.replicate_zero,List.push_toArray,List.append_toArray,List.nil_append,List.cons_append]
 obtain ⟨w1,e1,hF1,hB1,hB2,hs1⟩:=two_new w (mkc m) 132 #[.slice none 0 0] 66
 have HF1:=Hd hF1;have HB1:=Hd hB1;have HX:=Hd hB2;have E1:=Hd e1
 have HM : Hid (Box ((w.alloc (.cells (mkc m) 132)).alloc (.cells #[.slice none 0 0] 66)) w.heap.size 132 (mkc m)):=Hd (by rw [e1];exact hB1)
 have HS1:=Hd hs1
 clear hF1 hB1 hB2 e1 hs1
 gi_wp2_with (refine wpListIn_load_row_w rfl 132 (.tmp 3) rfl w.heap.size rfl 132 _ _ HM.out Tryz.underlying132 rfl (by kernel_rfl) ?_)
 rw [E1.out]
 clear E1 HM
 refine ⟨trivial,?_⟩
 refine (callsIn_wide.2 (cvEach_any base m _)).mono ?_
 rintro e w2 ⟨rfl,hB3,hB4,hF2⟩
 have hX2 : w.heap.size + 1 < w2.heap.size:=Nat.lt_of_lt_of_le HX.out.lt hF2.size
 have HX2:=Hd hX2
 have HXX : Hid (∀ p ∈ [(w.heap.size + 1,0)],p.1 < w2.heap.size):=Hd (by simpa using hX2)
 have HXb:=Hd (HX.out.keep hF2)
 have HLow : Hid (Low [(w.heap.size + 1,0)] w2):=Hd (fun p hp v b hv hb => by
  simp at hp
  subst hp
  have:=HXb.out.cell 0
  simp only [zz7,zz9] at this
  rw [this] at hv
  cases hv
  simp [blockOf] at hb)
 have HSEQ:=Hd (cvEach1_seq (w:=w2) 7 (by omega) (w1.heap.size + 1) w1.heap.size m base [(w.heap.size + 1,0)] HXX.out hB4 hB3 (fun p hp => by
  simp at hp
  subst hp
  refine ⟨by have:=HS1.out;simp;omega,fun v hv hb => ?_⟩
  have:=HXb.out.cell 0
  simp only [zz7,zz9] at this
  rw [this] at hv
  cases hv
  simp [blockOf] at hb))
 have HF:=Hd (HF1.out.trans hF2)
 have HG0 : Hid (GRel w w2 w2.heap.size (w.heap.size + 1) []):=Hd ⟨⟨_,HXb.out,World.ownsRow_nil _ _ _ _⟩,HF.out,Nat.le_refl _⟩
 clear HF1 HB1 HX hX2 hB3 hB4 hF2
 gi_wp2
 refine wpIn_rangeAll rfl (by omega) (gf:=145) (lb:=#[.pointer (some ⟨w1.heap.size + 1,0,none⟩),.pointer (some ⟨w1.heap.size,0,none⟩)]) rfl trivial (enters_of Tryz.func145 (by kernel_rfl) rfl) HSEQ.out (Below.refl _ _) (fun _ => rfl) HXX.out HLow.out
  (fun pre W' => GRel w W' w2.heap.size (w.heap.size + 1) (pre.map fun i => add16 base (i : Nat)))
  (GRel.abx _ HX2.out HF.out.size)
  HG0.out
  (fun i => { tmps:=#[.int .u16 (base.toNat : Nat),.agg (mkc m),undef,.pointer (some ⟨w.heap.size,0,none⟩),.slice none 0 0,.pointer (some ⟨w.heap.size + 1,0,none⟩),undef,.int .u16 ((add16 base (i : Nat)).toNat : Nat),.int .u16 (base.toNat : Nat),.agg (mkc m),.func (.func 145) #[] #[.pointer (some ⟨w1.heap.size + 1,0,none⟩),.pointer (some ⟨w1.heap.size,0,none⟩)],.int .i64 i,.int .u16 ((add16 base (i : Nat)).toNat : Nat),undef,undef,undef,undef,undef],defers:=[] }) ?assign ?body ?done
 case assign =>
  intro l' x W' K hK
  gi_wp2
  exact hK
 case body =>
  rintro l' pre i W' hl' hpre ⟨⟨v,hX,hown⟩,hFr,hsz⟩ hlw hsz2
  have hlen : pre.length + 1 ≤ 128:=by
   have h1:=hpre.length_le
   have h2:=m.list_len
   simp at h1
   omega
  have hown0:=hown
  rw [List.length_map] at hown
  obtain ⟨a7,c7,rfl⟩ : ∃ a c,v = .slice a pre.length c:=by
   have:=Sl.shape (Sl.ofOwn hown)
   simpa using this
  have hvb:=Own.block hown
  have hXlt:=HX2.out
  have x0:=hX.cell 0
  simp only [zz7,zz9] at x0
  obtain ⟨w3,e3,hF3,hB3,hs3⟩:=one_new W' #[.int .u16 ((add16 base (i : Nat)).toNat : Nat)] 24
  have E3:=Hd e3;have HF3:=Hd hF3;have HB3:=Hd hB3
  have HOWN:=Hd (Own.keep hown hF3);have HXX3:=Hd (hX.keep hF3);have HVB:=Hd hvb;have HFR:=Hd hFr;have HXW:=Hd hX
  have L3 : Hid (w2.heap.size ≤ w3.heap.size):=Hd (by have:=hF3.size;omega)
  have HCELL : Hid (∀ (j : Nat) (u : Value),[W16 (add16 base (i : Nat))][j]? = some u → w3.cell? ((⟨W'.heap.size,0,none⟩ : Addr).add j) = some u):=Hd (fun j u hj => by
   have : j = 0:=by
    have:=(List.getElem?_eq_some_iff.1 hj).1
    simp at this
    exact this
   subst this
   simp at hj
   subst hj
   have h3:=hB3.cell 0
   simp only [zz7,zz9] at h3
   rw [Addr.add_mid,Nat.add_zero]
   exact h3)
  have HOWNW:=Hd hown
  clear e3 hF3 hB3 hs3 hown hown0 hvb hX hFr
  gi_wp2_with (gi_at_builtin;(rw [E3.out]);refine wpListIn_append_fr rfl (.tmp 13) (.tmp 15) 66 rfl w2.heap.size 24 (.int .u16 0) 1 2 Tryz.underlying66 info_u16 rfl (by omega) (.slice a7 pre.length c7) pre.length ((pre.map fun i => add16 base (i : Nat)).map W16) rfl HOWN.out ⟨W'.heap.size,0,none⟩ 1 1 [W16 (add16 base (i : Nat))] rfl rfl HCELL.out (by simp [W16,Value.oneCell']) (by unfold maxLen;omega) (by omega) L3.out ?_;intro v8 w4 hown8 hfr8 hbl8 _;have HOWN8:=Hd hown8;have HFR8:=Hd hfr8;have HBL8:=Hd hbl8;obtain ⟨a8,c8,rfl⟩ : ∃ a c,v8 = .slice a (pre.length + 1) c:=(by have h:=Sl.shape (Sl.ofOwn hown8);simpa using h);clear hown8 hfr8 hbl8;have hX4:=HXX3.out.fr HFR8.out (fun hm => by have h:=(HVB.out _ (by simpa using hm)).1;omega);have x4:=hX4.cell 0;have f4:=hX4.free 0;(simp only [zz7,zz9] at x4);have HX4:=Hd hX4;clear hX4)
  obtain ⟨w5,e5,hF5,hB5,hs5⟩:=set_new HX4.out 0 (.slice a8 (pre.length + 1) c8)
  rw [e5]
  simp only [zz4,zz5] at hB5
  have hX:=HXW.out
  have z3:=HF3.out.size;have z4:=HFR8.out.size;have z5:=hF5.size;have zw:=HF.out.size
  have hnX : ¬ Gd [(w.heap.size + 1,0)] W' (w.heap.size + 1):=fun h => (h (w.heap.size + 1,0) (by simp)).1 rfl
  have hnv : ∀ b,blockOf (.slice a7 pre.length c7) = some b → ¬ Gd [(w.heap.size + 1,0)] W' b:=fun b hb h => (h (w.heap.size + 1,0) (by simp)).2 _ (by have:=hX.cell 0;simpa using this) hb
  have hv8 : ∀ b,blockOf (.slice a8 (pre.length + 1) c8) = some b → b ≠ w.heap.size + 1 ∧ b < w5.heap.size ∧ (W'.heap.size ≤ b ∨ ¬ Gd [(w.heap.size + 1,0)] W' b):=fun b hb => by
   have h1:=(Own.block HOWN8.out b hb)
   have h0:=HX2.out
   refine ⟨by omega,by omega,?_⟩
   rcases HBL8.out b hb with h | h
   ·exact .inr (hnv b h)
   ·exact .inl (by omega)
  have hfr : Fr ((blockOf (.slice a7 pre.length c7)).toList ++ [w.heap.size + 1]) W' w5:=((HF3.out.any).trans (HFR8.out.mono (fun x hx => by simp [hx]))).trans (hF5.mono (fun x hx => by simp at hx;simp [hx]))
  refine ⟨Kx.body hfr ?_ ?_,⟨⟨_,hB5,?_⟩,?_,by omega⟩⟩
  ·intro g hg
   rcases List.mem_append.1 hg with hg | hg
   ·have hg' : blockOf (.slice a7 pre.length c7) = some g:=by simpa using hg
    refine .inr ⟨hnv g hg',?_⟩
    obtain ⟨-,h | ⟨g',cap,cur,ev,hbg,hgg,-⟩⟩:=HOWNW.out
    ·rw [h.1] at hg';simp [blockOf] at hg'
    ·rw [ev] at hg'
     simp only [blockOf,Option.some.injEq] at hg'
     subst hg'
     exact ⟨_,hgg,rfl⟩
   ·simp at hg
    subst hg
    exact .inr ⟨hnX,_,hX,rfl⟩
  ·intro p hp v b hv hb
   simp at hp
   subst hp
   have:=hB5.cell 0
   simp only [zz7,zz9] at this
   rw [this] at hv
   cases hv
   exact ⟨(hv8 b hb).2.1,(hv8 b hb).2.2⟩
  ·have h:=HOWN8.out
   rw [show (pre.map fun i => add16 base (i : Nat)).map W16 ++ [W16 (add16 base (i : Nat))] = ((pre ++ [i]).map fun i => add16 base (i : Nat)).map W16 by simp] at h
   rw [show ((pre ++ [i]).map fun i => add16 base (i : Nat)).length = pre.length + 1 by simp]
   exact Own.fr h hF5 (fun b hb hm => by simp at hm;exact (hv8 b hb).1 hm)
  ·refine HFR.out.step hfr (fun x hx => .inr ?_)
   rcases List.mem_append.1 hx with hx | hx
   ·have:=(HVB.out x (by simpa using hx)).1;omega
   ·simp at hx;omega
 case done =>
  rintro D W' hD ⟨⟨v,hX,hown⟩,hFr,hsz⟩ hK hDk
  rw [List.length_map] at hown
  obtain ⟨a7,c7,rfl⟩ : ∃ a c,v = .slice a m.list.length c:=by
   have:=Sl.shape (Sl.ofOwn hown)
   simpa using this
  have x0:=hX.cell 0
  simp only [zz7,zz9] at x0
  have HOWN:=Hd hown;have HFR:=Hd hFr
  clear hown hFr hK
  gi_wp2
  have hFD : Fr [D] W' (W'.putObj D (.deferred none)):=Fr.ofGrown (grownBy_putObj' W' D _)
  have zw:=HF.out.size
  refine ⟨by simp,.inl ⟨_,_,rfl,run_takeDeferred hDk,?_⟩⟩
  refine ⟨_,results_tmp rfl _ _ _,_,rfl,?_,HFR.out.step hFD (fun x hx => .inr (by simp at hx;omega))⟩
  unfold seqsOf
  rw [List.length_map]
  refine Own.mono (Own.fr HOWN.out hFD (fun b hb hm => ?_)) zw
  have hbD : b = D:=by simpa using hm
  rw [hbD] at hb
  obtain ⟨-,h | ⟨g',cap,cur,ev,hbg,hgg,-⟩⟩:=HOWN.out
  ·rw [h.1] at hb;simp [blockOf] at hb
  ·rw [ev] at hb
   have hg' : g' = D:=by simpa [blockOf] using hb
   rw [hg',hDk] at hgg
   cases hgg
end Go.Proofs.YtcngfbjmpemehaaGreat

/- Repairs: their numbers,their fields as an imprint (printed by gen_par1.py). -/
namespace Go.Proofs.YtcngfbjmpemehaaGreat
open Go.RowKit

structure Rep_ where
 bt : Bt
 base : UInt16
 m : Msk
abbrev rpc (r : Rep_) (vb : Value) : Array Value:=#[.int .u8 (r.bt.h0.toNat : Nat),.int .u8 (r.bt.h1.toNat : Nat),.int .u8 (r.bt.h2.toNat : Nat),.int .u8 (r.bt.h3.toNat : Nat),.int .u8 (r.bt.h4.toNat : Nat),.int .u8 (r.bt.h5.toNat : Nat),.int .u8 (r.bt.h6.toNat : Nat),.int .u8 (r.bt.h7.toNat : Nat),.int .u16 (r.base.toNat : Nat),.int .u64 (r.m.hi.toNat : Nat),.int .u64 (r.m.lo.toNat : Nat),vb]
def RpV (w : World) (v : Value) (r : Rep_) : Prop:=∃ vb,v = .agg (rpc r vb) ∧ Bytes w vb r.bt.body
def Bt.cut (x : Bt) : Bt:={ x with h0:=x.h0 &&& 63 }
theorem Bt.add_zero (x : Bt) : x.add Bt.zero = x:=by
 obtain ⟨h0,h1,h2,h3,h4,h5,h6,h7,b⟩:=x
 simp [Bt.add,Bt.zero,xb_nil_right]
theorem cvRepair_any {w : World} (r : Rep_) (a : Option Addr) (n c : Nat) :
  Calls Tryz.prog 86 #[.agg (rpc r (.slice a n c))] w fun e w' => ∃ v,e = .returned v ∧ w'.ownsRow w.heap.size 24 1 v (seqsOf r.base r.m).length ((seqsOf r.base r.m).map W16) ∧ Fr [] w w':=by
 obtain ⟨w1,e1,hF1,hB1,hs1⟩:=one_new w (rpc r (.slice a n c)) 38
 have HF:=Hd hF1;have E1:=Hd e1
 have x8:=hB1.cell 8;have x9:=hB1.cell 9;have x10:=hB1.cell 10
 simp only [rpc,zz7,zz8,zz9] at x8 x9 x10
 have HS:=Hd hF1.size
 clear hF1 hB1 e1 hs1
 go_enter Tryz.func86,Tryz.ntmps86
 go_upto_region 1 with fail
 rw [E1.out]
 clear E1
 go_wp2_with fail
 refine (cvSeqs_any r.base r.m _).mono ?_
 rintro e w2 ⟨v,rfl,hO,hF⟩
 obtain ⟨a7,c7,rfl⟩ : ∃ a c,v = .slice a (seqsOf r.base r.m).length c:=by
  have:=Sl.shape (Sl.ofOwn hO)
  simpa using this
 have HO:=Hd (Own.mono hO HS.out);have HF:=Hd (HF.out.trans hF)
 clear hO hF
 go_wp2_with fail
 go_ret
 exact ⟨_,rfl,HO.out,HF.out⟩
theorem pBytes_any {w : World} {v : Value} {r : Rep_} (h : RpV w v r) (hs : r.bt.body.length ≤ 1099511627776) :
  Calls Tryz.prog 121 #[v] w fun e w' => ∃ v',e = .returned v' ∧ BtO w' w.heap.size v' r.bt.cut ∧ Fr [] w w':=by
 obtain ⟨vb,rfl,hb⟩:=h
 obtain ⟨a,n,c,rfl⟩:=Sl.isSlice hb
 obtain ⟨w1,e1,hF1,hB1,hB2,hs1⟩:=two_new w (rpc r (.slice a n c)) 38 (bc Bt.zero (.slice none 0 0)) 127
 have HF:=Hd hF1;have E1:=Hd e1;have HR:=Hd hB2;have HB:=Hd (Sl.keep hb hF1);have HS1:=Hd hs1
 have x11:=hB1.cell 11
 simp only [rpc,zz7,zz8,zz9] at x11
 have HRG : Hid (w1.rangeAt w.heap.size 0 (#[.int .u8 (r.bt.h0.toNat : Nat),.int .u8 (r.bt.h1.toNat : Nat),.int .u8 (r.bt.h2.toNat : Nat),.int .u8 (r.bt.h3.toNat : Nat),.int .u8 (r.bt.h4.toNat : Nat),.int .u8 (r.bt.h5.toNat : Nat),.int .u8 (r.bt.h6.toNat : Nat),.int .u8 (r.bt.h7.toNat : Nat)] : Array Value).toList):=Hd (fun j u hj => by
  have h:=box_range hB1 j u
  rw [Nat.zero_add] at h ⊢
  refine h ?_
  have hlt:=(List.getElem?_eq_some_iff.1 hj).1
  have h8 : j < 8:=by simpa using hlt
  rcases (by omega : j = 0 ∨ j = 1 ∨ j = 2 ∨ j = 3 ∨ j = 4 ∨ j = 5 ∨ j = 6 ∨ j = 7) with rfl | rfl | rfl | rfl | rfl | rfl | rfl | rfl <;> exact hj)
 clear hF1 hB1 hB2 e1 hs1 hb
 go_enter Tryz.func121,Tryz.ntmps121
 go_upto_region 1 with fail
 first | rw [E1.out] | (have:=E1.out;simp only [bc_zero] at this;rw [this];clear this)
 clear E1
 go_wp2_with (refine wpList_load_midA rfl 35 (.tmp 4) rfl w.heap.size 0 rfl #[.int .u8 (r.bt.h0.toNat : Nat),.int .u8 (r.bt.h1.toNat : Nat),.int .u8 (r.bt.h2.toNat : Nat),.int .u8 (r.bt.h3.toNat : Nat),.int .u8 (r.bt.h4.toNat : Nat),.int .u8 (r.bt.h5.toNat : Nat),.int .u8 (r.bt.h6.toNat : Nat),.int .u8 (r.bt.h7.toNat : Nat)] _ HRG.out Tryz.underlying35 rfl (by kernel_rfl) ?_)
 refine (impAdd_any (x:=r.bt) (y:=Bt.zero) ⟨_,rfl,HB.out⟩ ⟨_,rfl,Sl.nil _⟩ hs (by simp [Bt.zero])).mono ?_
 rintro e w2 ⟨v2,rfl,⟨vo,rfl,hO⟩,hF⟩
 rw [Bt.add_zero] at hO ⊢
 obtain ⟨ao,no,co,rfl⟩:=hO.isSlice
 have HO:=Hd hO;have HOB : Hid (∀ b,blockOf (.slice ao no co) = some b → b < w2.heap.size):=Hd (fun b hb => (hO.block b hb).2)
 have HR:=Hd (HR.out.keep hF);have HF:=Hd (HF.out.trans hF);have HS2:=Hd hF.size
 clear hO hF
 go_upto_region 2 with (refine wpList_store_row rfl 127 (.tmp 3) (.tmp 10) rfl w2.heap.size rfl _ _ rfl 127 (Box.new w2 127 (bc Bt.zero (.slice none 0 0))) (by kernel_rfl) rfl (by simp [bc,Value.oneCell']) ?_;intro w3 hY hG;have hFn:=((Fr.refl [] w2).alloc _).step hG (by simp);have HFn:=Hd hFn;have HY:=Hd hY;clear hG hFn hY)
 have HO:=Hd (HO.out.keep HFn.out);have HR:=Hd (HR.out.keep HFn.out);have HF:=Hd (HF.out.trans HFn.out)
 have HXB:=HY
 have HOL : Hid (∀ b,blockOf (.slice ao no co) = some b → w.heap.size + 2 ≤ b ∧ b ≠ w2.heap.size):=Hd (fun b hb => by have h1:=HO.out.block b hb;have h2:=HOB.out b hb;have h3:=HS1.out;omega)
 have HGL : Hid (w.heap.size + 2 ≤ w2.heap.size):=Hd (by have:=HS1.out;have:=HS2.out;omega)
 clear HFn HY
 generalize hgx : w2.heap.size = gx at *
 clear hgx
 have y0:=HXB.out.cell 0;have f0:=HXB.out.free 0
 simp only [bc,zz7,zz9] at y0
 have k0:=u8_and63 r.bt.h0
 go_upto_region 3 with fail
 obtain ⟨w4,e4,hF4,hB4,hs4⟩:=set_new HXB.out 0 (.int .u8 ((r.bt.h0.toNat &&& 63 : Nat) : Int))
 rw [e4]
 have HC : Hid (Box w4 gx 127 (bc r.bt.cut (.slice ao no co))):=Hd (hB4.as_ (by simp [bc,Bt.cut,UInt8.toNat_and]))
 have HO:=Hd (HO.out.fr hF4 (fun b hb hm => by have:=(HOL.out b hb).2;simp at hm;omega));have HR:=Hd (HR.out.fr hF4 (by have:=HGL.out;simp;omega));have HF:=Hd (HF.out.step hF4 (fun x hx => .inr (by have:=HGL.out;simp at hx;omega)))
 clear e4 hF4 hB4 hs4 y0 f0 k0
 go_wp2_with (first | (refine wpList_load_row_w rfl 127 (.tmp 3) rfl gx rfl 127 _ _ HC.out Tryz.underlying127 rfl (by kernel_rfl) ?_) | (refine wpList_store_row rfl 127 (.tmp 2) (.tmp 17) rfl (w.heap.size + 1) rfl _ _ rfl 127 HR.out (by kernel_rfl) rfl (by simp [bc,Value.oneCell']) ?_;intro w5 hY hG;have HY:=Hd hY;have HGn:=Hd hG;clear hY hG))
 refine bodyPost_ret (results_cell_row rfl _ _ (w.heap.size + 1) 127 _ (0,0) _ rfl HY.out Tryz.underlying127 rfl (by kernel_rfl)) rfl ⟨_,rfl,⟨_,rfl,?_⟩,HF.out.step HGn.out (by simp)⟩
 exact (HO.out.fr HGn.out (fun b hb hm => by have:=(HOL.out b hb).1;simp at hm;omega)).mono (by have:=HS1.out;omega)
end Go.Proofs.YtcngfbjmpemehaaGreat

/- The walk of parity.sheet.add (printed by gen_sheet.py). -/
namespace Go.Proofs.YtcngfbjmpemehaaGreat
open Go.RowKit

structure Sheet where
 sum : Bt
 seqs : List UInt16
 ssrc : UInt32
 alike : Bool
def Sheet.zero : Sheet:=⟨Bt.zero,[],0,false⟩
def Sheet.begun (s : Sheet) (p : Pkt) : Sheet:=if s.seqs = [] then { s with ssrc:=p.ssrc,alike:=true } else s
def Sheet.held (s : Sheet) (p : Pkt) : Sheet:={ s with alike:=s.alike && p.ssrc == s.ssrc }
def Sheet.noted (s : Sheet) (p : Pkt) : Sheet:={ s with seqs:=s.seqs ++ [p.seq] }
def Sheet.summed (s : Sheet) (x : Bt) : Sheet:={ s with sum:=s.sum.add x }
def Sheet.add (s : Sheet) (l : List UInt8) (p : Pkt) : Sheet:=(((s.begun p).held p).noted p).summed (imp l)
abbrev shc (s : Sheet) (vb vs : Value) : Array Value:=#[.int .u8 (s.sum.h0.toNat : Nat),.int .u8 (s.sum.h1.toNat : Nat),.int .u8 (s.sum.h2.toNat : Nat),.int .u8 (s.sum.h3.toNat : Nat),.int .u8 (s.sum.h4.toNat : Nat),.int .u8 (s.sum.h5.toNat : Nat),.int .u8 (s.sum.h6.toNat : Nat),.int .u8 (s.sum.h7.toNat : Nat),vb,vs,.int .u32 (s.ssrc.toNat : Nat),.bool s.alike]
structure ShV (W : World) (N g : Nat) (s : Sheet) : Prop where
 v : ∃ vb vs,Box W g 129 (shc s vb vs) ∧ Bytes W vb s.sum.body ∧ W.ownsRow N 24 1 vs s.seqs.length (s.seqs.map W16) ∧ ∀ b,liveOf vb = some b → b ≠ g ∧ blockOf vs ≠ some b ∧ N ≤ b
 lt : g < N
theorem wp_store_part {P : Program} {w : World} {ops : Array Oper} {o : Oper} {a : Act} {K : Act → World → Prop} {Q : Exit → Act → World → Prop} {E : Prop} (hgd : o.guard = none) (ty : TypeId) (x y : Operand)
  (ho : o.op = .store ty x y) (g : Nat) (hx : a.eval x = .pointer (some ⟨g,0,none⟩)) (c c' : Array Value) (hy : a.eval y = .agg c') (t : TypeId) (hb : Box w g t c)
  (hi : (P.info? ty).map (·.size) = some c'.size) (hs : c'.size ≤ c.size) (h1 : ∀ u ∈ c'.toList,u.oneCell' = true)
  (h : ∀ w',Box w' g t (c'.toList ++ c.toList.drop c'.size).toArray → Fr [g] w w' → K (a.put o.dst undef) w') : if Region.wanted o (yielded ops a.tmps) = true then Oper.wp P o a w K Q else E:=by
 rw [if_pos (by simp [Region.wanted,hgd])]
 have hst:=run_storeCells_at P g 0 t c'.toList 0 c w hb (by simp [hs]) h1
 simp only [Nat.add_zero,List.take_zero,List.nil_append,Nat.zero_add,Array.length_toList] at hst
 cases hq : P.info? ty with
 | none => simp [hq] at hi
 | some i =>
  have hsz : i.size = c'.size:=by simpa [hq] using hi
  unfold Oper.wp execOp
  simp only [ho,hx,hy]
  simp [Instr.storeAt,Instr.sureAddr,storeVar,Sem.run_bind,sizeOf,typeInfo,hq,hsz,Value.cells,hst]
  exact h _ (hb.setRow _) (Box.frSetRow w g _)
theorem run_load_mid_op {P : Program} {w : World} {o : Oper} {a : Act} (ty : TypeId) (x : Operand) (ho : o.op = .load ty x)
  (b off : Nat) (hx : a.eval x = .pointer (some ⟨b,off,none⟩)) (cs : Array Value) (d : TypeDesc) (hc : w.rangeAt b off cs.toList)
  (hu : P.underlying ty = some d) (hd : d.isRow = true) (hi : (P.info? ty).map (·.size) = some cs.size) : (execOp a.eval o).run P w = .ok (.value (.agg cs)) w:=by
 unfold execOp
 simp only [ho,hx,Instr.loadAt,Instr.sureAddr,Sem.run_bind,Sem.run_pure,Result.andThen_ok,run_loadVar_mid w b off ty cs.toList d hc hu hd hi]
theorem shc_range {w : World} {g : Nat} {t : TypeId} {s : Sheet} {vb vs : Value} (h : Box w g t (shc s vb vs)) : w.rangeAt g 0 (bc s.sum vb).toList:=fun j u hj => by
 refine box_range h j u ?_
 have hlt:=(List.getElem?_eq_some_iff.1 hj).1
 have h9 : j < 9:=by simpa [bc] using hlt
 rcases (by omega : j = 0 ∨ j = 1 ∨ j = 2 ∨ j = 3 ∨ j = 4 ∨ j = 5 ∨ j = 6 ∨ j = 7 ∨ j = 8) with rfl | rfl | rfl | rfl | rfl | rfl | rfl | rfl | rfl <;> exact hj
theorem u32_beq (a b : UInt32) : (((a.toNat : Nat) : Int) == ((b.toNat : Nat) : Int)) = (a == b):=by
 rw [Bool.eq_iff_iff]
 simp [← UInt32.toNat_inj]
 omega
theorem shAdd_any {w0 w : World} {N g : Nat} {s : Sheet} {v : Value} {l : List UInt8} (h : ShV w N g s) (hF : Fr [] w0 w) (hg : w0.heap.size ≤ g) (hl : Bytes w0 v l) (hN : N ≤ w.heap.size) (hs1 : s.sum.body.length ≤ 1099511627776) (hs2 : s.seqs.length ≤ 1000) :
  Calls Tryz.prog 53 #[.pointer (some ⟨g,0,none⟩),v] w fun e w' => (Fr [] w0 w' ∧ N ≤ w'.heap.size) ∧ ((∃ p,parseR l = .ok p ∧ e = .returned (.int .i64 0) ∧ ShV w' N g (s.add l p)) ∨ (∃ k,parseR l = .error k ∧ e = .returned (.int .i64 k))):=by
 obtain ⟨⟨vb,vs,hB,hb,ho,hd⟩,hgN⟩:=h
 obtain ⟨ab,nb,cb,rfl⟩:=Sl.isSlice hb
 obtain ⟨aq,cq,rfl⟩ : ∃ a c,vs = .slice a s.seqs.length c:=by
  have:=Sl.shape (Sl.ofOwn ho)
  simpa using this
 obtain ⟨al,nl,cl,rfl⟩:=Sl.isSlice hl
 have HL:=Hd hl;have HB:=Hd hB;have HSB:=Hd hb;have HSO:=Hd ho;have HD:=Hd hd;have HF:=Hd hF;have HN:=Hd hN
 have HG0:=Hd hg;have HGN:=Hd hgN
 have HVQ : Hid (∀ b k,blockOf (.slice aq k cq) = some b → N ≤ b ∧ b < w.heap.size):=Hd (fun b k hb => Own.block ho b (by
  cases aq with
  | none => simp [blockOf] at hb
  | some q => simpa [blockOf] using hb))
 clear hl hB hb ho hd hF hg hgN hN
 go_enter Tryz.func53,Tryz.ntmps53
 go_wp2_with fail
 refine (impOf_any (Sl.keep HL.out HF.out)).mono ?_
 rintro e w1 (⟨v1,p,hp,rfl,⟨vx,rfl,hO⟩,hF⟩ | ⟨k,hp,rfl,hF⟩)
 rotate_left
 ·have hk : (k != 0) = true:=by simpa using parseR_err hp
  have HP:=Hd hp
  have HF:=Hd (HF.out.trans hF);have HNN:=Hd (Nat.le_trans HN.out hF.size)
  clear hp hF
  go_wp2_with (refine wpList_store_row rfl 127 (.tmp 5) (.tmp 12) rfl w1.heap.size rfl _ _ rfl 127 (Box.new w1 127 (bc Bt.zero (.slice none 0 0))) (by kernel_rfl) rfl (by simp [bc,Value.oneCell']) ?_;intro w2 hY hG;have hFn:=((Fr.refl [] w1).alloc _).step hG (by simp);have HFn:=Hd hFn;have HY:=Hd hY;clear hG hFn hY)
  have HF:=Hd (HF.out.trans HFn.out);have HNN:=Hd (Nat.le_trans HNN.out HFn.out.size)
  go_ret
  exact ⟨⟨HF.out,HNN.out⟩,.inr ⟨k,HP.out,rfl⟩⟩
 have HP:=Hd hp
 obtain ⟨ax,nx,cx,rfl⟩:=hO.isSlice
 have HXO:=Hd hO
 have HIL : Hid ((imp l).body.length ≤ 1099511627776):=Hd (by have:=(parse_len hp).2;show (l.drop 12).length ≤ _;rw [List.length_drop];omega)
 have HOX : Hid (∀ b,blockOf (.slice ax nx cx) = some b → w.heap.size ≤ b):=Hd (fun b hb => (hO.block b hb).1)
 have HF:=Hd (HF.out.trans hF)
 have HSB:=Hd (Sl.keep HSB.out hF)
 have HB:=Hd (HB.out.keep hF)
 have HSO:=Hd (Own.keep HSO.out hF)
 have HNN:=Hd (Nat.le_trans HN.out hF.size);have HNN1:=HNN;have HW1:=Hd hF.size
 clear hp hO hF
 go_upto_region 2 with (refine wpList_store_row rfl 127 (.tmp 5) (.tmp 12) rfl w1.heap.size rfl _ _ rfl 127 (Box.new w1 127 (bc Bt.zero (.slice none 0 0))) (by kernel_rfl) rfl (by simp [bc,Value.oneCell']) ?_;intro w2 hY hG;have hFn:=((Fr.refl [] w1).alloc _).step hG (by simp);have HFn:=Hd hFn;have HY:=Hd hY;clear hG hFn hY)
 have hF:=HFn.out
 have HXB:=HY
 have HXO:=Hd (HXO.out.keep hF)
 have HF:=Hd (HF.out.trans hF)
 have HSB:=Hd (Sl.keep HSB.out hF)
 have HB:=Hd (HB.out.keep hF)
 have HSO:=Hd (Own.keep HSO.out hF)
 have HNNq:=Hd (Nat.le_trans HNN.out hF.size)
 clear HNN
 have HNN:=HNNq
 clear HNNq
 have HGX : Hid (N ≤ w1.heap.size):=HNN1
 have HGXW : Hid (w.heap.size ≤ w1.heap.size):=HW1
 clear hF HFn HY HNN1 HW1
 generalize hgx : w1.heap.size = gx at *
 clear hgx
 go_wp2_with fail
 refine (Parse_any (Sl.keep HL.out HF.out)).mono ?_
 rintro e w3 (⟨v3,p3,hp,rfl,hPV,hF⟩ | ⟨k,hp,rfl,hF⟩)
 rotate_left
 ·rw [HP.out] at hp;cases hp
 obtain rfl : p = p3:=by rw [HP.out] at hp;cases hp;rfl
 obtain ⟨c1,e1,c2,e2,c3,e3,c4,e4,rfl,-,-,-,-⟩:=hPV.open_
 have HF:=Hd (HF.out.trans hF)
 have HSB:=Hd (Sl.keep HSB.out hF)
 have HB:=Hd (HB.out.keep hF)
 have HSO:=Hd (Own.keep HSO.out hF)
 have HXO:=Hd (HXO.out.keep hF)
 have HXB:=Hd (HXB.out.keep hF)
 have HNNq:=Hd (Nat.le_trans HNN.out hF.size)
 clear HNN
 have HNN:=HNNq
 clear HNNq
 clear hp hPV hF
 have HGP : Hid (gx < w3.heap.size ∧ g < w3.heap.size ∧ N ≤ w3.heap.size):=Hd ⟨HXB.out.lt,HB.out.lt,HNN.out⟩
 go_upto_region 5 with (refine wpList_store_row rfl 93 (.tmp 7) (.tmp 20) rfl w3.heap.size rfl _ _ rfl 93 (Box.new w3 93 pz) (by kernel_rfl) rfl (oneCell_pc _ _ _ _ _ _ _ _ _ _ _ ⟨_,_,_,rfl⟩ ⟨_,_,_,rfl⟩ ⟨_,_,_,rfl⟩ ⟨_,_,_,rfl⟩) ?_;intro w4 hY hG;have hFn:=((Fr.refl [] w3).alloc _).step hG (by simp);have HFn:=Hd hFn;have HY:=Hd hY;clear hG hFn hY)
 have hF:=HFn.out
 have HPB:=HY
 have HF:=Hd (HF.out.trans hF)
 have HSB:=Hd (Sl.keep HSB.out hF)
 have HB:=Hd (HB.out.keep hF)
 have HSO:=Hd (Own.keep HSO.out hF)
 have HXO:=Hd (HXO.out.keep hF)
 have HXB:=Hd (HXB.out.keep hF)
 have HNNq:=Hd (Nat.le_trans HNN.out hF.size)
 clear HNN
 have HNN:=HNNq
 clear HNNq
 clear hF HFn HY
 generalize hgp : w3.heap.size = gp at *
 clear hgp
 have x9:=HB.out.cell 9;have x10:=HB.out.cell 10;have x11:=HB.out.cell 11;have fg:=HB.out.free 9;have fg10:=HB.out.free 10;have fg11:=HB.out.free 11
 obtain ⟨p0,p1,p2,p3,p4,p5,p6,p7,p8,p9,p10⟩:=HPB.out.pcells
 simp only [shc,zz7,zz8,zz9] at x9 x10 x11
 go_upto_if 27 with fail
 go_cut [] (fun wx => Box wx g 129 (shc (s.begun p) (.slice ab nb cb) (.slice aq s.seqs.length cq)) ∧ Fr [g] w4 wx)
 case first =>
  by_cases hse : s.seqs = []
  ·have hl0 : ((s.seqs.length : Int) == 0) = true:=by rw [hse];rfl
   have HSE:=Hd hse
   clear hse
   go_wp2_with fail
   go_meet
   obtain ⟨w5,e5,hF5,hB5,-⟩:=set_new HB.out 10 (.int .u32 (p.ssrc.toNat : Nat))
   obtain ⟨w6,e6,hF6,hB6,-⟩:=set_new hB5 11 (.bool true)
   rw [e5,e6]
   exact ⟨hB6.as_ (by rw [show s.begun p = { s with ssrc:=p.ssrc,alike:=true } from if_pos HSE.out];rfl),hF5.trans hF6⟩
  ·have hl0 : ((s.seqs.length : Int) == 0) = false:=beq_eq_false_iff_ne.2 (by have:=List.length_pos_iff.2 hse;omega)
   have HSE:=Hd hse
   clear hse
   go_wp2_with fail
   go_meet
   exact ⟨by unfold Sheet.begun;rw [if_neg HSE.out];exact HB.out,Fr.refl _ _⟩
 case rest =>
  obtain ⟨hBx,hFx⟩:=hcut
  have hq1 : (s.begun p).sum = s.sum:=by unfold Sheet.begun;split <;> rfl
  have hq2 : (s.begun p).seqs = s.seqs:=by unfold Sheet.begun;split <;> rfl
  have HQ2:=Hd hq2
  have HADD : Hid (s.add l p = (((s.begun p).held p).noted p).summed (imp l)):=Hd rfl
  rw [← hq1] at HSB
  rw [← hq1] at hs1
  rw [← hq2] at HSO
  rw [← hq2] at HD
  rw [← hq2] at hBx
  rw [← hq2] at hs2
  clear HB
  generalize s.begun p = s1 at *
  have HB:=Hd hBx
  have hd0 : ∀ b,liveOf (.slice ab nb cb) = some b → b ∉ [g]:=fun b hb hm => by have:=(HD.out b hb).1;simp at hm;omega
  have HSB:=Hd (Sl.frL HSB.out hFx hd0)
  have HSO:=Hd (Own.fr HSO.out hFx (fun b hb hm => by have:=(Own.block HSO.out b hb).1;have:=HGN.out;simp at hm;omega))
  have HF:=Hd (HF.out.step hFx (fun x hx => .inr (by have:=HG0.out;simp at hx;omega)))
  have HXO:=Hd (HXO.out.fr hFx (fun b hb hm => by have h1:=HOX.out b hb;have:=HN.out;have:=HGN.out;simp at hm;omega))
  have HXB:=Hd (HXB.out.fr hFx (by have:=HGX.out;have:=HGN.out;simp;omega));have HPB:=Hd (HPB.out.fr hFx (by have:=HGP.out;simp;omega))
  have HNNq:=Hd (Nat.le_trans HNN.out hFx.size)
  clear HNN
  have HNN:=HNNq
  clear HNNq hBx hFx x9 x10 x11 fg fg10 fg11 p0 p1 p2 p3 p4 p5 p6 p7 p8 p9 p10 hd0 hq1 hq2
  go_upto_region 7 with fail
  go_cut [] (fun wx => Box wx g 129 (shc (s1.held p) (.slice ab nb cb) (.slice aq s1.seqs.length cq)) ∧ Fr [g] wc wx)
  case first =>
   cases hal : s1.alike with
   | true =>
    have HB1 : Hid (Box wc g 129 (shc { s1 with alike:=true } (.slice ab nb cb) (.slice aq s1.seqs.length cq))):=Hd (HB.out.as_ (by rw [← hal]))
    have HAL:=Hd hal
    clear hal
    refine wp_region_T (fun w' => Box w' g 129 (shc { s1 with alike:=true } (.slice ab nb cb) (.slice aq s1.seqs.length cq)) ∧ Box w' gp 93 (pc p.marker p.pt p.seq.toNat p.ts.toNat p.ssrc.toNat (.slice c1 p.csrc.length e1) p.hasExt p.profile.toNat (.slice c2 p.ext.length e2) (.slice c3 p.payload.length e3) (.slice c4 p.pad.length e4))) [16] 17 #[false,false,false,false,false,false,false,false,false,false,false,false,false,false,false,false,false] (by kernel_rfl) rfl rfl ?_
    have hF:=(Fr.refl [] wc).drew
    have HSS:=Hd (And.intro (HB1.out.keep hF) (HPB.out.keep hF))
    have HFD:=Hd hF
    clear hF
    generalize wc.drew = wd at *
    refine wL 0 ?_ rfl (by kernel_rfl) (fun _ _ _ h => h) HSS.out (by rfl) ?_ ?_
    rotate_left
    ·intro w hSw;have x9:=hSw.1.cell 9;have x10:=hSw.1.cell 10;have x11:=hSw.1.cell 11;have f11:=hSw.1.free 11;obtain ⟨p0,p1,p2,p3,p4,p5,p6,p7,p8,p9,p10⟩:=hSw.2.pcells;simp only [shc,zz7,zz8,zz9] at x9 x10 x11;go_simp;try with_reducible rfl
    simp only [Act.put,zz1,zz2,zz3,zz4,zz5,zz6]
    refine wL 1 ?_ rfl (by kernel_rfl) (fun _ _ _ h => h) HSS.out (by rfl) ?_ ?_
    rotate_left
    ·intro w hSw;have x9:=hSw.1.cell 9;have x10:=hSw.1.cell 10;have x11:=hSw.1.cell 11;have f11:=hSw.1.free 11;obtain ⟨p0,p1,p2,p3,p4,p5,p6,p7,p8,p9,p10⟩:=hSw.2.pcells;simp only [shc,zz7,zz8,zz9] at x9 x10 x11;go_simp;try with_reducible rfl
    simp only [Act.put,zz1,zz2,zz3,zz4,zz5,zz6]
    refine wL 2 ?_ rfl (by kernel_rfl) (fun _ _ _ h => h) HSS.out (by rfl) ?_ ?_
    rotate_left
    ·intro w hSw;have x9:=hSw.1.cell 9;have x10:=hSw.1.cell 10;have x11:=hSw.1.cell 11;have f11:=hSw.1.free 11;obtain ⟨p0,p1,p2,p3,p4,p5,p6,p7,p8,p9,p10⟩:=hSw.2.pcells;simp only [shc,zz7,zz8,zz9] at x9 x10 x11;go_simp;try with_reducible rfl
    simp only [Act.put,zz1,zz2,zz3,zz4,zz5,zz6]
    refine wL 3 ?_ rfl (by kernel_rfl) (fun _ _ _ h => h) HSS.out (by rfl) ?_ ?_
    rotate_left
    ·intro w hSw;have x9:=hSw.1.cell 9;have x10:=hSw.1.cell 10;have x11:=hSw.1.cell 11;have f11:=hSw.1.free 11;obtain ⟨p0,p1,p2,p3,p4,p5,p6,p7,p8,p9,p10⟩:=hSw.2.pcells;simp only [shc,zz7,zz8,zz9] at x9 x10 x11;go_simp;try with_reducible rfl
    simp only [Act.put,zz1,zz2,zz3,zz4,zz5,zz6]
    refine wL 4 ?_ rfl (by kernel_rfl) (fun _ _ _ h => h) HSS.out (by rfl) ?_ ?_
    rotate_left
    ·intro w hSw;have x9:=hSw.1.cell 9;have x10:=hSw.1.cell 10;have x11:=hSw.1.cell 11;have f11:=hSw.1.free 11;obtain ⟨p0,p1,p2,p3,p4,p5,p6,p7,p8,p9,p10⟩:=hSw.2.pcells;simp only [shc,zz7,zz8,zz9] at x9 x10 x11;go_simp;try with_reducible rfl
    simp only [Act.put,zz1,zz2,zz3,zz4,zz5,zz6]
    refine wL 5 ?_ rfl (by kernel_rfl) (fun _ _ _ h => h) HSS.out (by rfl) ?_ ?_
    rotate_left
    ·intro w hSw;have x9:=hSw.1.cell 9;have x10:=hSw.1.cell 10;have x11:=hSw.1.cell 11;have f11:=hSw.1.free 11;obtain ⟨p0,p1,p2,p3,p4,p5,p6,p7,p8,p9,p10⟩:=hSw.2.pcells;simp only [shc,zz7,zz8,zz9] at x9 x10 x11;go_simp;try with_reducible rfl
    simp only [Act.put,zz1,zz2,zz3,zz4,zz5,zz6]
    refine wL 6 ?_ rfl (by kernel_rfl) (fun _ _ _ h => h) HSS.out (by rfl) ?_ ?_
    rotate_left
    ·intro w hSw;have x9:=hSw.1.cell 9;have x10:=hSw.1.cell 10;have x11:=hSw.1.cell 11;have f11:=hSw.1.free 11;obtain ⟨p0,p1,p2,p3,p4,p5,p6,p7,p8,p9,p10⟩:=hSw.2.pcells;simp only [shc,zz7,zz8,zz9] at x9 x10 x11;go_simp;try with_reducible rfl
    simp only [Act.put,zz1,zz2,zz3,zz4,zz5,zz6]
    refine wL 7 ?_ rfl (by kernel_rfl) (fun _ _ _ h => h) HSS.out (by rfl) ?_ ?_
    rotate_left
    ·intro w hSw;have x9:=hSw.1.cell 9;have x10:=hSw.1.cell 10;have x11:=hSw.1.cell 11;have f11:=hSw.1.free 11;obtain ⟨p0,p1,p2,p3,p4,p5,p6,p7,p8,p9,p10⟩:=hSw.2.pcells;simp only [shc,zz7,zz8,zz9] at x9 x10 x11;go_simp;try with_reducible rfl
    simp only [Act.put,zz1,zz2,zz3,zz4,zz5,zz6]
    refine wL 8 ?_ rfl (by kernel_rfl) (fun _ _ _ h => h) HSS.out (by rfl) ?_ ?_
    rotate_left
    ·intro w hSw;have x9:=hSw.1.cell 9;have x10:=hSw.1.cell 10;have x11:=hSw.1.cell 11;have f11:=hSw.1.free 11;obtain ⟨p0,p1,p2,p3,p4,p5,p6,p7,p8,p9,p10⟩:=hSw.2.pcells;simp only [shc,zz7,zz8,zz9] at x9 x10 x11;go_simp;try with_reducible rfl
    simp only [Act.put,zz1,zz2,zz3,zz4,zz5,zz6]
    refine wL 9 ?_ rfl (by kernel_rfl) (fun _ _ _ h => h) HSS.out (by rfl) ?_ ?_
    rotate_left
    ·intro w hSw;have x9:=hSw.1.cell 9;have x10:=hSw.1.cell 10;have x11:=hSw.1.cell 11;have f11:=hSw.1.free 11;obtain ⟨p0,p1,p2,p3,p4,p5,p6,p7,p8,p9,p10⟩:=hSw.2.pcells;simp only [shc,zz7,zz8,zz9] at x9 x10 x11;go_simp;try with_reducible rfl
    simp only [Act.put,zz1,zz2,zz3,zz4,zz5,zz6]
    refine wL 10 ?_ rfl (by kernel_rfl) (fun _ _ _ h => h) HSS.out (by rfl) ?_ ?_
    rotate_left
    ·intro w hSw;have x9:=hSw.1.cell 9;have x10:=hSw.1.cell 10;have x11:=hSw.1.cell 11;have f11:=hSw.1.free 11;obtain ⟨p0,p1,p2,p3,p4,p5,p6,p7,p8,p9,p10⟩:=hSw.2.pcells;simp only [shc,zz7,zz8,zz9] at x9 x10 x11;go_simp;try with_reducible rfl
    simp only [Act.put,zz1,zz2,zz3,zz4,zz5,zz6]
    refine wL 11 ?_ rfl (by kernel_rfl) (fun _ _ _ h => h) HSS.out (by rfl) ?_ ?_
    rotate_left
    ·intro w hSw;have x9:=hSw.1.cell 9;have x10:=hSw.1.cell 10;have x11:=hSw.1.cell 11;have f11:=hSw.1.free 11;obtain ⟨p0,p1,p2,p3,p4,p5,p6,p7,p8,p9,p10⟩:=hSw.2.pcells;simp only [shc,zz7,zz8,zz9] at x9 x10 x11;go_simp;try with_reducible rfl
    simp only [Act.put,zz1,zz2,zz3,zz4,zz5,zz6]
    refine wL 12 ?_ rfl (by kernel_rfl) (fun _ _ _ h => h) HSS.out (by rfl) ?_ ?_
    rotate_left
    ·intro w hSw;have x9:=hSw.1.cell 9;have x10:=hSw.1.cell 10;have x11:=hSw.1.cell 11;have f11:=hSw.1.free 11;obtain ⟨p0,p1,p2,p3,p4,p5,p6,p7,p8,p9,p10⟩:=hSw.2.pcells;simp only [shc,zz7,zz8,zz9] at x9 x10 x11;go_simp;try with_reducible rfl
    simp only [Act.put,zz1,zz2,zz3,zz4,zz5,zz6]
    refine wL 13 ?_ rfl (by kernel_rfl) (fun _ _ _ h => h) HSS.out (by rfl) ?_ ?_
    rotate_left
    ·intro w hSw;have x9:=hSw.1.cell 9;have x10:=hSw.1.cell 10;have x11:=hSw.1.cell 11;have f11:=hSw.1.free 11;obtain ⟨p0,p1,p2,p3,p4,p5,p6,p7,p8,p9,p10⟩:=hSw.2.pcells;simp only [shc,zz7,zz8,zz9] at x9 x10 x11;go_simp;try with_reducible rfl
    simp only [Act.put,zz1,zz2,zz3,zz4,zz5,zz6]
    refine wL 14 ?_ rfl (by kernel_rfl) (fun _ _ _ h => h) HSS.out (by rfl) ?_ ?_
    rotate_left
    ·intro w hSw;have x9:=hSw.1.cell 9;have x10:=hSw.1.cell 10;have x11:=hSw.1.cell 11;have f11:=hSw.1.free 11;obtain ⟨p0,p1,p2,p3,p4,p5,p6,p7,p8,p9,p10⟩:=hSw.2.pcells;simp only [shc,zz7,zz8,zz9] at x9 x10 x11;go_simp;try with_reducible rfl
    simp only [Act.put,zz1,zz2,zz3,zz4,zz5,zz6]
    refine wL 15 ?_ rfl (by kernel_rfl) (fun _ _ _ h => h) HSS.out (by rfl) ?_ ?_
    rotate_left
    ·intro w hSw;have x9:=hSw.1.cell 9;have x10:=hSw.1.cell 10;have x11:=hSw.1.cell 11;have f11:=hSw.1.free 11;obtain ⟨p0,p1,p2,p3,p4,p5,p6,p7,p8,p9,p10⟩:=hSw.2.pcells;simp only [shc,zz7,zz8,zz9] at x9 x10 x11;go_simp;try with_reducible rfl
    simp only [Act.put,zz1,zz2,zz3,zz4,zz5,zz6]
    refine wpAnyT_one (i:=16) (by kernel_rfl) rfl (fun K hK => ?_)
    rw [if_pos (by rfl)]
    have x9:=HSS.out.1.cell 9
    have x10:=HSS.out.1.cell 10
    have x11:=HSS.out.1.cell 11
    have f11:=HSS.out.1.free 11
    obtain ⟨p0,p1,p2,p3,p4,p5,p6,p7,p8,p9,p10⟩:=HSS.out.2.pcells
    simp only [shc,zz7,zz8,zz9] at x9 x10 x11
    go_simp
    refine hK.out _ _ (fun _ => (by first | trivial | exact absurd ‹_› (by simp))) ?_
    clear hK K
    simp only [Act.put,zz1,zz2,zz3,zz4,zz5,zz6]
    refine wpAnyT_done (by kernel_rfl) ?_ _
    go_wp2_with fail
    go_meet
    obtain ⟨w5,e5,hF5,hB5,-⟩:=set_new HSS.out.1 11 (.bool (((p.ssrc.toNat : Nat) : Int) == ((s1.ssrc.toNat : Nat) : Int)))
    rw [e5]
    exact ⟨hB5.as_ (by rw [u32_beq];unfold Sheet.held;rw [HAL.out,Bool.true_and];rfl),HFD.out.any.trans hF5⟩
   | false =>
    have HB1 : Hid (Box wc g 129 (shc { s1 with alike:=false } (.slice ab nb cb) (.slice aq s1.seqs.length cq))):=Hd (HB.out.as_ (by rw [← hal]))
    have HAL:=Hd hal
    clear hal
    refine wp_region_T (fun w' => Box w' g 129 (shc { s1 with alike:=false } (.slice ab nb cb) (.slice aq s1.seqs.length cq)) ∧ Box w' gp 93 (pc p.marker p.pt p.seq.toNat p.ts.toNat p.ssrc.toNat (.slice c1 p.csrc.length e1) p.hasExt p.profile.toNat (.slice c2 p.ext.length e2) (.slice c3 p.payload.length e3) (.slice c4 p.pad.length e4))) [16] 17 #[false,false,false,false,false,false,false,false,false,false,false,false,false,false,false,false,false] (by kernel_rfl) rfl rfl ?_
    have hF:=(Fr.refl [] wc).drew
    have HSS:=Hd (And.intro (HB1.out.keep hF) (HPB.out.keep hF))
    have HFD:=Hd hF
    clear hF
    generalize wc.drew = wd at *
    refine wL 0 ?_ rfl (by kernel_rfl) (fun _ _ _ h => h) HSS.out (by rfl) ?_ ?_
    rotate_left
    ·intro w hSw;have x9:=hSw.1.cell 9;have x10:=hSw.1.cell 10;have x11:=hSw.1.cell 11;have f11:=hSw.1.free 11;obtain ⟨p0,p1,p2,p3,p4,p5,p6,p7,p8,p9,p10⟩:=hSw.2.pcells;simp only [shc,zz7,zz8,zz9] at x9 x10 x11;go_simp;try with_reducible rfl
    simp only [Act.put,zz1,zz2,zz3,zz4,zz5,zz6]
    refine wL 1 ?_ rfl (by kernel_rfl) (fun _ _ _ h => h) HSS.out (by rfl) ?_ ?_
    rotate_left
    ·intro w hSw;have x9:=hSw.1.cell 9;have x10:=hSw.1.cell 10;have x11:=hSw.1.cell 11;have f11:=hSw.1.free 11;obtain ⟨p0,p1,p2,p3,p4,p5,p6,p7,p8,p9,p10⟩:=hSw.2.pcells;simp only [shc,zz7,zz8,zz9] at x9 x10 x11;go_simp;try with_reducible rfl
    simp only [Act.put,zz1,zz2,zz3,zz4,zz5,zz6]
    refine wL 2 ?_ rfl (by kernel_rfl) (fun _ _ _ h => h) HSS.out (by rfl) ?_ ?_
    rotate_left
    ·intro w hSw;have x9:=hSw.1.cell 9;have x10:=hSw.1.cell 10;have x11:=hSw.1.cell 11;have f11:=hSw.1.free 11;obtain ⟨p0,p1,p2,p3,p4,p5,p6,p7,p8,p9,p10⟩:=hSw.2.pcells;simp only [shc,zz7,zz8,zz9] at x9 x10 x11;go_simp;try with_reducible rfl
    simp only [Act.put,zz1,zz2,zz3,zz4,zz5,zz6]
    refine wL 3 ?_ rfl (by kernel_rfl) (fun _ _ _ h => h) HSS.out (by rfl) ?_ ?_
    rotate_left
    ·intro w hSw;have x9:=hSw.1.cell 9;have x10:=hSw.1.cell 10;have x11:=hSw.1.cell 11;have f11:=hSw.1.free 11;obtain ⟨p0,p1,p2,p3,p4,p5,p6,p7,p8,p9,p10⟩:=hSw.2.pcells;simp only [shc,zz7,zz8,zz9] at x9 x10 x11;go_simp;try with_reducible rfl
    simp only [Act.put,zz1,zz2,zz3,zz4,zz5,zz6]
    refine wL 4 ?_ rfl (by kernel_rfl) (fun _ _ _ h => h) HSS.out (by rfl) ?_ ?_
    rotate_left
    ·intro w hSw;have x9:=hSw.1.cell 9;have x10:=hSw.1.cell 10;have x11:=hSw.1.cell 11;have f11:=hSw.1.free 11;obtain ⟨p0,p1,p2,p3,p4,p5,p6,p7,p8,p9,p10⟩:=hSw.2.pcells;simp only [shc,zz7,zz8,zz9] at x9 x10 x11;go_simp;try with_reducible rfl
    simp only [Act.put,zz1,zz2,zz3,zz4,zz5,zz6]
    refine wL 5 ?_ rfl (by kernel_rfl) (fun _ _ _ h => h) HSS.out (by rfl) ?_ ?_
    rotate_left
    ·intro w hSw;have x9:=hSw.1.cell 9;have x10:=hSw.1.cell 10;have x11:=hSw.1.cell 11;have f11:=hSw.1.free 11;obtain ⟨p0,p1,p2,p3,p4,p5,p6,p7,p8,p9,p10⟩:=hSw.2.pcells;simp only [shc,zz7,zz8,zz9] at x9 x10 x11;go_simp;try with_reducible rfl
    simp only [Act.put,zz1,zz2,zz3,zz4,zz5,zz6]
    refine wpAnyT_skip (i:=6) rfl (by kernel_rfl) (by kernel_rfl) (by kernel_rfl) (by kernel_rfl) (by kernel_rfl) (fun _ _ _ h => h) HSS.out (by rfl) ?_
    simp only [Act.put,zz1,zz2,zz3,zz4,zz5,zz6]
    refine wpAnyT_skip (i:=7) rfl (by kernel_rfl) (by kernel_rfl) (by kernel_rfl) (by kernel_rfl) (by kernel_rfl) (fun _ _ _ h => h) HSS.out (by rfl) ?_
    simp only [Act.put,zz1,zz2,zz3,zz4,zz5,zz6]
    refine wpAnyT_skip (i:=8) rfl (by kernel_rfl) (by kernel_rfl) (by kernel_rfl) (by kernel_rfl) (by kernel_rfl) (fun _ _ _ h => h) HSS.out (by rfl) ?_
    simp only [Act.put,zz1,zz2,zz3,zz4,zz5,zz6]
    refine wpAnyT_skip (i:=9) rfl (by kernel_rfl) (by kernel_rfl) (by kernel_rfl) (by kernel_rfl) (by kernel_rfl) (fun _ _ _ h => h) HSS.out (by rfl) ?_
    simp only [Act.put,zz1,zz2,zz3,zz4,zz5,zz6]
    refine wpAnyT_skip (i:=10) rfl (by kernel_rfl) (by kernel_rfl) (by kernel_rfl) (by kernel_rfl) (by kernel_rfl) (fun _ _ _ h => h) HSS.out (by rfl) ?_
    simp only [Act.put,zz1,zz2,zz3,zz4,zz5,zz6]
    refine wpAnyT_skip (i:=11) rfl (by kernel_rfl) (by kernel_rfl) (by kernel_rfl) (by kernel_rfl) (by kernel_rfl) (fun _ _ _ h => h) HSS.out (by rfl) ?_
    simp only [Act.put,zz1,zz2,zz3,zz4,zz5,zz6]
    refine wpAnyT_skip (i:=12) rfl (by kernel_rfl) (by kernel_rfl) (by kernel_rfl) (by kernel_rfl) (by kernel_rfl) (fun _ _ _ h => h) HSS.out (by rfl) ?_
    simp only [Act.put,zz1,zz2,zz3,zz4,zz5,zz6]
    refine wL 13 ?_ rfl (by kernel_rfl) (fun _ _ _ h => h) HSS.out (by rfl) ?_ ?_
    rotate_left
    ·intro w hSw;have x9:=hSw.1.cell 9;have x10:=hSw.1.cell 10;have x11:=hSw.1.cell 11;have f11:=hSw.1.free 11;obtain ⟨p0,p1,p2,p3,p4,p5,p6,p7,p8,p9,p10⟩:=hSw.2.pcells;simp only [shc,zz7,zz8,zz9] at x9 x10 x11;go_simp;try with_reducible rfl
    simp only [Act.put,zz1,zz2,zz3,zz4,zz5,zz6]
    refine wL 14 ?_ rfl (by kernel_rfl) (fun _ _ _ h => h) HSS.out (by rfl) ?_ ?_
    rotate_left
    ·intro w hSw;have x9:=hSw.1.cell 9;have x10:=hSw.1.cell 10;have x11:=hSw.1.cell 11;have f11:=hSw.1.free 11;obtain ⟨p0,p1,p2,p3,p4,p5,p6,p7,p8,p9,p10⟩:=hSw.2.pcells;simp only [shc,zz7,zz8,zz9] at x9 x10 x11;go_simp;try with_reducible rfl
    simp only [Act.put,zz1,zz2,zz3,zz4,zz5,zz6]
    refine wL 15 ?_ rfl (by kernel_rfl) (fun _ _ _ h => h) HSS.out (by rfl) ?_ ?_
    rotate_left
    ·intro w hSw;have x9:=hSw.1.cell 9;have x10:=hSw.1.cell 10;have x11:=hSw.1.cell 11;have f11:=hSw.1.free 11;obtain ⟨p0,p1,p2,p3,p4,p5,p6,p7,p8,p9,p10⟩:=hSw.2.pcells;simp only [shc,zz7,zz8,zz9] at x9 x10 x11;go_simp;try with_reducible rfl
    simp only [Act.put,zz1,zz2,zz3,zz4,zz5,zz6]
    refine wpAnyT_one (i:=16) (by kernel_rfl) rfl (fun K hK => ?_)
    rw [if_pos (by rfl)]
    have x9:=HSS.out.1.cell 9
    have x10:=HSS.out.1.cell 10
    have x11:=HSS.out.1.cell 11
    have f11:=HSS.out.1.free 11
    obtain ⟨p0,p1,p2,p3,p4,p5,p6,p7,p8,p9,p10⟩:=HSS.out.2.pcells
    simp only [shc,zz7,zz8,zz9] at x9 x10 x11
    go_simp
    refine hK.out _ _ (fun _ => (by first | trivial | exact absurd ‹_› (by simp))) ?_
    clear hK K
    simp only [Act.put,zz1,zz2,zz3,zz4,zz5,zz6]
    refine wpAnyT_done (by kernel_rfl) ?_ _
    go_wp2_with fail
    go_meet
    obtain ⟨w5,e5,hF5,hB5,-⟩:=set_new HSS.out.1 11 (.bool false)
    rw [e5]
    exact ⟨hB5.as_ (by unfold Sheet.held;rw [HAL.out,Bool.false_and];rfl),HFD.out.any.trans hF5⟩

  case rest =>
   obtain ⟨hBx,hFx⟩:=hcut
   have hd0 : ∀ b,liveOf (.slice ab nb cb) = some b → b ∉ [g]:=fun b hb hm => by have:=(HD.out b hb).1;simp at hm;omega
   have HSB:=Hd (Sl.frL HSB.out hFx hd0)
   have HSO:=Hd (Own.fr HSO.out hFx (fun b hb hm => by have:=(Own.block HSO.out b hb).1;have:=HGN.out;simp at hm;omega))
   have HF:=Hd (HF.out.step hFx (fun x hx => .inr (by have:=HG0.out;simp at hx;omega)))
   have HXO:=Hd (HXO.out.fr hFx (fun b hb hm => by have h1:=HOX.out b hb;have:=HN.out;have:=HGN.out;simp at hm;omega))
   have HXB:=Hd (HXB.out.fr hFx (by have:=HGX.out;have:=HGN.out;simp;omega));have HPB:=Hd (HPB.out.fr hFx (by have:=HGP.out;simp;omega))
   have HNNq:=Hd (Nat.le_trans HNN.out hFx.size)
   clear HNN
   have HNN:=HNNq
   have hq1 : (s1.held p).sum = s1.sum:=rfl
   have hq2 : (s1.held p).seqs = s1.seqs:=rfl
   rw [← hq1] at HSB
   rw [← hq1] at hs1
   rw [← hq2] at HSO
   rw [← hq2] at HD
   rw [← hq2] at hBx
   rw [← hq2] at hs2
   have HQ3 : Hid ((s1.held p).seqs = s.seqs):=HQ2
   clear HNNq HB HQ2 hd0 hFx hq1 hq2
   generalize s1.held p = s2 at *
   have HB:=Hd hBx
   clear hBx
   go_upto_region 8 with fail
   refine wp_region_T (fun w' => Box w' g 129 (shc s2 (.slice ab nb cb) (.slice aq s2.seqs.length cq)) ∧ Box w' gp 93 (pc p.marker p.pt p.seq.toNat p.ts.toNat p.ssrc.toNat (.slice c1 p.csrc.length e1) p.hasExt p.profile.toNat (.slice c2 p.ext.length e2) (.slice c3 p.payload.length e3) (.slice c4 p.pad.length e4))) [11] 12 #[false,false,false,false,false,false,false,false,false,false,false,false] (by kernel_rfl) rfl rfl ?_
   have hF:=(Fr.refl [] wc).drew
   have HSS:=Hd (And.intro (HB.out.keep hF) (HPB.out.keep hF))
   have HSO:=Hd (Own.keep HSO.out hF);have HSB:=Hd (Sl.keep HSB.out hF);have HXO:=Hd (HXO.out.keep hF);have HXB:=Hd (HXB.out.keep hF);have HF:=Hd (HF.out.trans hF)
   have HNZ : Hid (N ≤ wc.drew.heap.size):=Hd (Nat.le_trans HNN.out hF.size)
   clear hF
   generalize wc.drew = wd at *
   refine wL 0 ?_ rfl (by kernel_rfl) (fun _ _ _ h => h) HSS.out (by rfl) ?_ ?_
   rotate_left
   ·intro w hSw;have x9:=hSw.1.cell 9;have f9:=hSw.1.free 9;obtain ⟨p0,p1,p2,p3,p4,p5,p6,p7,p8,p9,p10⟩:=hSw.2.pcells;simp only [shc,zz7,zz8,zz9] at x9;go_simp;try with_reducible rfl
   simp only [Act.put,zz1,zz2,zz3,zz4,zz5,zz6]
   refine wL 1 ?_ rfl (by kernel_rfl) (fun _ _ _ h => h) HSS.out (by rfl) ?_ ?_
   rotate_left
   ·intro w hSw;have x9:=hSw.1.cell 9;have f9:=hSw.1.free 9;obtain ⟨p0,p1,p2,p3,p4,p5,p6,p7,p8,p9,p10⟩:=hSw.2.pcells;simp only [shc,zz7,zz8,zz9] at x9;go_simp;try with_reducible rfl
   simp only [Act.put,zz1,zz2,zz3,zz4,zz5,zz6]
   refine wL 2 ?_ rfl (by kernel_rfl) (fun _ _ _ h => h) HSS.out (by rfl) ?_ ?_
   rotate_left
   ·intro w hSw;have x9:=hSw.1.cell 9;have f9:=hSw.1.free 9;obtain ⟨p0,p1,p2,p3,p4,p5,p6,p7,p8,p9,p10⟩:=hSw.2.pcells;simp only [shc,zz7,zz8,zz9] at x9;go_simp;try with_reducible rfl
   simp only [Act.put,zz1,zz2,zz3,zz4,zz5,zz6]
   refine wL 3 ?_ rfl (by kernel_rfl) (fun _ _ _ h => h) HSS.out (by rfl) ?_ ?_
   rotate_left
   ·intro w hSw;have x9:=hSw.1.cell 9;have f9:=hSw.1.free 9;obtain ⟨p0,p1,p2,p3,p4,p5,p6,p7,p8,p9,p10⟩:=hSw.2.pcells;simp only [shc,zz7,zz8,zz9] at x9;go_simp;try with_reducible rfl
   simp only [Act.put,zz1,zz2,zz3,zz4,zz5,zz6]
   refine wL 4 ?_ rfl (by kernel_rfl) (fun _ _ _ h => h) HSS.out (by rfl) ?_ ?_
   rotate_left
   ·intro w hSw;have x9:=hSw.1.cell 9;have f9:=hSw.1.free 9;obtain ⟨p0,p1,p2,p3,p4,p5,p6,p7,p8,p9,p10⟩:=hSw.2.pcells;simp only [shc,zz7,zz8,zz9] at x9;go_simp;try with_reducible rfl
   simp only [Act.put,zz1,zz2,zz3,zz4,zz5,zz6]
   refine wL 5 ?_ rfl (by kernel_rfl) (fun _ _ _ h => h) HSS.out (by rfl) ?_ ?_
   rotate_left
   ·intro w hSw;have x9:=hSw.1.cell 9;have f9:=hSw.1.free 9;obtain ⟨p0,p1,p2,p3,p4,p5,p6,p7,p8,p9,p10⟩:=hSw.2.pcells;simp only [shc,zz7,zz8,zz9] at x9;go_simp;try with_reducible rfl
   simp only [Act.put,zz1,zz2,zz3,zz4,zz5,zz6]
   refine wL 6 ?_ rfl (by kernel_rfl) (fun _ _ _ h => h) HSS.out (by rfl) ?_ ?_
   rotate_left
   ·intro w hSw;have x9:=hSw.1.cell 9;have f9:=hSw.1.free 9;obtain ⟨p0,p1,p2,p3,p4,p5,p6,p7,p8,p9,p10⟩:=hSw.2.pcells;simp only [shc,zz7,zz8,zz9] at x9;go_simp;try with_reducible rfl
   simp only [Act.put,zz1,zz2,zz3,zz4,zz5,zz6]
   obtain ⟨w8,e8,hF8,hB8,hs8⟩:=one_new wd #[.int .u16 (p.seq.toNat : Nat)] 24
   have E8:=Hd e8
   refine wpAnyT_one (i:=7) (by kernel_rfl) rfl (fun K hK => ?_)
   rw [if_pos (by rfl)]
   have x9:=HSS.out.1.cell 9
   have f9:=HSS.out.1.free 9
   obtain ⟨p0,p1,p2,p3,p4,p5,p6,p7,p8,p9,p10⟩:=HSS.out.2.pcells
   simp only [shc,zz7,zz8,zz9] at x9
   go_simp
   refine hK.out _ _ (fun _ => (And.intro (HSS.out.1.keep hF8) (HSS.out.2.keep hF8))) ?_
   clear hK K
   simp only [Act.put,zz1,zz2,zz3,zz4,zz5,zz6]
   clear E8 e8
   have HSS:=Hd (And.intro (HSS.out.1.keep hF8) (HSS.out.2.keep hF8))
   have HSO:=Hd (Own.keep HSO.out hF8);have HSB:=Hd (Sl.keep HSB.out hF8);have HXO:=Hd (HXO.out.keep hF8);have HXB:=Hd (HXB.out.keep hF8);have HF:=Hd (HF.out.trans hF8)
   have HCELL : Hid (∀ (j : Nat) (u : Value),[W16 p.seq][j]? = some u → w8.cell? ((⟨wd.heap.size,0,none⟩ : Addr).add j) = some u):=Hd (fun j u hj => by
    have : j = 0:=by
     have:=(List.getElem?_eq_some_iff.1 hj).1
     simp at this
     exact this
    subst this
    simp at hj
    subst hj
    have h3:=hB8.cell 0
    simp only [zz7,zz9] at h3
    rw [Addr.add_mid,Nat.add_zero]
    exact h3)
   have HN8 : Hid (N ≤ w8.heap.size):=Hd (by have:=HNZ.out;omega)
   clear hF8 hB8 hs8
   refine wpAnyT_one (i:=8) (by kernel_rfl) rfl (fun K hK => ?_)
   refine step_append_fr rfl (.tmp 56) (.tmp 59) 66 rfl N 24 (.int .u16 0) 1 2 Tryz.underlying66 info_u16 rfl (by omega) (.slice aq s2.seqs.length cq) s2.seqs.length (s2.seqs.map W16) rfl HSO.out ⟨wd.heap.size,0,none⟩ 1 1 [W16 p.seq] rfl rfl HCELL.out (by simp [W16,Value.oneCell']) (by unfold maxLen;omega) (by omega) HN8.out ?_
   intro v9 w9 hown9 hfr9 hbl9 _
   obtain ⟨a9,c9,rfl⟩ : ∃ a c,v9 = .slice a (s2.seqs.length + 1) c:=by
    have h:=Sl.shape (Sl.ofOwn hown9)
    simpa using h
   have HO9:=Hd hown9;have HBL9:=Hd hbl9
   have hvq : ∀ b ∈ (blockOf (.slice aq s2.seqs.length cq)).toList,N ≤ b ∧ b < w.heap.size:=fun b hb => HVQ.out b _ (by simpa using hb)
   have HSS:=Hd (And.intro (HSS.out.1.fr hfr9 (fun hm => by have:=hvq _ hm;have:=HGN.out;omega)) (HSS.out.2.fr hfr9 (fun hm => by have:=hvq _ hm;have:=HGP.out;have:=HGXW.out;omega)))
   have HSB:=Hd (Sl.frL HSB.out hfr9 (fun b hb hm => (HD.out b hb).2.1 (by simpa using hm)));have HXO:=Hd (HXO.out.fr hfr9 (fun b hb hm => by have:=hvq _ hm;have:=HOX.out b hb;omega));have HXB:=Hd (HXB.out.fr hfr9 (fun hm => by have:=hvq _ hm;have:=HGXW.out;omega));have HF:=Hd (HF.out.step hfr9 (fun x hx => .inr (by have:=hvq x hx;have:=HG0.out;have:=HGN.out;omega)))
   have HZ9:=Hd hfr9.size
   clear hown9 hbl9 hvq hfr9
   refine hK.out _ _ (fun _ => HSS.out) ?_
   clear hK K
   simp only [Act.put,zz1,zz2,zz3,zz4,zz5,zz6]
   refine wL 9 ?_ rfl (by kernel_rfl) (fun _ _ _ h => h) HSS.out (by rfl) ?_ ?_
   rotate_left
   ·intro w hSw;have x9:=hSw.1.cell 9;have f9:=hSw.1.free 9;obtain ⟨p0,p1,p2,p3,p4,p5,p6,p7,p8,p9,p10⟩:=hSw.2.pcells;simp only [shc,zz7,zz8,zz9] at x9;go_simp;try with_reducible rfl
   simp only [Act.put,zz1,zz2,zz3,zz4,zz5,zz6]
   refine wL 10 ?_ rfl (by kernel_rfl) (fun _ _ _ h => h) HSS.out (by rfl) ?_ ?_
   rotate_left
   ·intro w hSw;have x9:=hSw.1.cell 9;have f9:=hSw.1.free 9;obtain ⟨p0,p1,p2,p3,p4,p5,p6,p7,p8,p9,p10⟩:=hSw.2.pcells;simp only [shc,zz7,zz8,zz9] at x9;go_simp;try with_reducible rfl
   simp only [Act.put,zz1,zz2,zz3,zz4,zz5,zz6]
   refine wpAnyT_one (i:=11) (by kernel_rfl) rfl (fun K hK => ?_)
   rw [if_pos (by rfl)]
   have x9:=HSS.out.1.cell 9
   have f9:=HSS.out.1.free 9
   obtain ⟨p0,p1,p2,p3,p4,p5,p6,p7,p8,p9,p10⟩:=HSS.out.2.pcells
   simp only [shc,zz7,zz8,zz9] at x9
   go_simp
   refine hK.out _ _ (fun _ => (by first | trivial | exact absurd ‹_› (by simp))) ?_
   clear hK K
   simp only [Act.put,zz1,zz2,zz3,zz4,zz5,zz6]
   refine wpAnyT_done (by kernel_rfl) ?_ _
   obtain ⟨w10,e10,hF10,hB10,-⟩:=set_new HSS.out.1 9 (.slice a9 (s2.seqs.length + 1) c9)
   rw [e10]
   have HB : Hid (Box w10 g 129 (shc (s2.noted p) (.slice ab nb cb) (.slice a9 (s2.noted p).seqs.length c9))):=Hd (hB10.as_ (by unfold Sheet.noted;rw [List.length_append];rfl))
   have HSB:=Hd (Sl.frL HSB.out hF10 (fun b hb hm => by have:=(HD.out b hb).1;simp at hm;omega))
   have HXO:=Hd (HXO.out.fr hF10 (fun b hb hm => by have h1:=HOX.out b hb;have:=HN.out;have:=HGN.out;simp at hm;omega))
   have HXB:=Hd (HXB.out.fr hF10 (by have:=HGX.out;have:=HGN.out;simp;omega))
   have HF:=Hd (HF.out.step hF10 (fun x hx => .inr (by have:=HG0.out;simp at hx;omega)))
   have HO9:=Hd (Own.fr HO9.out hF10 (fun b hb hm => by have:=(Own.block HO9.out b hb).1;have:=HGN.out;simp at hm;omega))
   have HZ10 : Hid (N ≤ w10.heap.size):=Hd (by have:=HN8.out;have:=HZ9.out;have:=hF10.size;omega)
   have HQ4 : Hid ((s2.noted p).seqs = s2.seqs ++ [p.seq]):=Hd rfl
   have hq5 : (s2.noted p).sum = s2.sum:=rfl
   have ho9:=HO9.out
   rw [show s2.seqs.map W16 ++ [W16 p.seq] = (s2.noted p).seqs.map W16 by rw [HQ4.out,List.map_append];rfl,show s2.seqs.length + 1 = (s2.noted p).seqs.length by rw [HQ4.out,List.length_append];rfl] at ho9
   have HO:=Hd ho9
   rw [← hq5] at HSB
   rw [← hq5] at hs1
   clear e10 hF10 hB10 HO9 hq5 ho9 HQ4 HPB HSS HSO
   generalize s2.noted p = s3 at *
   go_upto_region 9 with fail
   refine wp_region_T (fun w' => Box w' g 129 (shc s3 (.slice ab nb cb) (.slice a9 s3.seqs.length c9)) ∧ Box w' gx 127 (bc (imp l) (.slice ax nx cx))) [9] 10 #[false,false,false,false,false,false,false,false,false,false] (by kernel_rfl) rfl rfl ?_
   have hF:=(Fr.refl [] w10).drew
   have HSS:=Hd (And.intro (HB.out.keep hF) (HXB.out.keep hF))
   have HO:=Hd (Own.keep HO.out hF);have HSB:=Hd (Sl.keep HSB.out hF);have HXO:=Hd (HXO.out.keep hF);have HF:=Hd (HF.out.trans hF)
   have HZD : Hid (N ≤ w10.drew.heap.size):=Hd (Nat.le_trans HZ10.out hF.size)
   clear hF
   generalize w10.drew = wd at *
   refine wL 0 ?_ rfl (by kernel_rfl) (fun _ _ _ h => h) HSS.out (by rfl) ?_ ?_
   rotate_left
   ·intro w hSw;go_simp;try with_reducible rfl
   simp only [Act.put,zz1,zz2,zz3,zz4,zz5,zz6]
   refine wL 1 ?_ rfl (by kernel_rfl) (fun _ _ _ h => h) HSS.out (by rfl) ?_ ?_
   rotate_left
   ·intro w hSw;go_simp;try with_reducible rfl
   simp only [Act.put,zz1,zz2,zz3,zz4,zz5,zz6]
   refine wL 2 ?_ rfl (by kernel_rfl) (fun _ _ _ h => h) HSS.out (by rfl) ?_ ?_
   rotate_left
   ·intro w hSw;go_simp;try with_reducible rfl
   simp only [Act.put,zz1,zz2,zz3,zz4,zz5,zz6]
   refine wL 3 ?_ rfl (by kernel_rfl) (fun _ _ _ h => h) HSS.out (by rfl) ?_ ?_
   rotate_left
   ·intro w hSw;go_simp;try with_reducible rfl
   simp only [Act.put,zz1,zz2,zz3,zz4,zz5,zz6]
   refine wL 4 ?_ rfl (by kernel_rfl) (fun _ _ _ h => h) HSS.out (by rfl) ?_ ?_
   rotate_left
   ·intro w' hSw;refine run_load_mid_op 127 (.tmp 66) ?_ g 0 ?_ (bc s3.sum (.slice ab nb cb)) _ (shc_range hSw.1) Tryz.underlying127 rfl (by kernel_rfl) <;> rfl
   simp only [Act.put,zz1,zz2,zz3,zz4,zz5,zz6]
   refine wL 5 ?_ rfl (by kernel_rfl) (fun _ _ _ h => h) HSS.out (by rfl) ?_ ?_
   rotate_left
   ·intro w' hSw;refine run_load_row 127 (.tmp 5) ?_ gx ?_ 127 _ _ hSw.2 Tryz.underlying127 rfl (by kernel_rfl) <;> rfl
   simp only [Act.put,zz1,zz2,zz3,zz4,zz5,zz6]
   refine wpAnyT_one (i:=6) (by kernel_rfl) rfl (fun K hK => ?_)
   rw [if_pos (by rfl)]
   go_simp
   refine (impAdd_any (x:=s3.sum) (y:=imp l) ⟨_,rfl,HSB.out⟩ ⟨_,rfl,HXO.out.bytes⟩ hs1 HIL.out).mono ?_
   rintro e w11 ⟨v11,rfl,⟨vo,rfl,hOO⟩,hF⟩
   have HSS:=Hd (And.intro (HSS.out.1.keep hF) (HSS.out.2.keep hF))
   have HVO : Hid (∀ b,blockOf (.slice a9 s3.seqs.length c9) = some b → b < wd.heap.size):=Hd (fun b hb => (Own.block HO.out b hb).2)
   have HO:=Hd (Own.keep HO.out hF);have HF:=Hd (HF.out.trans hF)
   have HOO:=Hd hOO
   have HZE:=Hd (Nat.le_trans HZD.out hF.size)
   obtain ⟨ao,no,co,rfl⟩:=hOO.isSlice
   clear hOO hF
   go_simp
   refine hK.out _ _ (fun _ => HSS.out) ?_
   clear hK K
   simp only [Act.put,zz1,zz2,zz3,zz4,zz5,zz6]
   refine wL 7 ?_ rfl (by kernel_rfl) (fun _ _ _ h => h) HSS.out (by rfl) ?_ ?_
   rotate_left
   ·intro w hSw;go_simp;try with_reducible rfl
   simp only [Act.put,zz1,zz2,zz3,zz4,zz5,zz6]
   refine wL 8 ?_ rfl (by kernel_rfl) (fun _ _ _ h => h) HSS.out (by rfl) ?_ ?_
   rotate_left
   ·intro w hSw;go_simp;try with_reducible rfl
   simp only [Act.put,zz1,zz2,zz3,zz4,zz5,zz6]
   refine wpAnyT_one (i:=9) (by kernel_rfl) rfl (fun K hK => ?_)
   refine wp_store_part rfl 127 (.tmp 71) (.tmp 69) rfl g rfl _ _ rfl 129 HSS.out.1 (by kernel_rfl) (by simp [bc]) (by simp [bc,Value.oneCell']) ?_
   intro w12 hY hG
   have HY : Hid (Box w12 g 129 (shc (s3.summed (imp l)) (.slice ao no co) (.slice a9 s3.seqs.length c9))):=Hd hY
   have HGn:=Hd hG
   clear hY hG
   refine hK.out _ _ (fun _ => (by first | trivial | exact absurd ‹_› (by simp))) ?_
   clear hK K
   simp only [Act.put,zz1,zz2,zz3,zz4,zz5,zz6]
   refine wpAnyT_done (by kernel_rfl) ?_ _
   go_wp2_with fail
   go_ret
   refine ⟨⟨HF.out.step HGn.out (fun x hx => .inr (by have:=HG0.out;simp at hx;omega)),by have:=HGn.out.size;have:=HZE.out;omega⟩,.inl ⟨p,HP.out,rfl,?_⟩⟩
   rw [HADD.out]
   refine ⟨⟨_,_,HY.out,?_,?_,?_⟩,HGN.out⟩
   ·exact Sl.frL HOO.out.bytes HGn.out (fun b hb hm => by have h1:=(HOO.out.block b (live_block hb)).1;have:=HZD.out;have:=HGN.out;simp at hm;omega)
   ·exact Own.fr HO.out HGn.out (fun b hb hm => by have:=(Own.block HO.out b hb).1;have:=HGN.out;simp at hm;omega)
   ·intro b hb
    have h1:=(HOO.out.block b (live_block hb)).1
    have:=HZD.out;have:=HGN.out
    exact ⟨by omega,fun hv => by have:=HVO.out b hv;omega,by omega⟩
end Go.Proofs.YtcngfbjmpemehaaGreat
