import Derived.Test.YtchbgiindfoepaaMq14
import Derived.Test.YtchbgiindfoepaaMq28
import Derived.Test.YtchbgiindfoepaaMq27
/- The iterators mask.Bits and cover.Each, and cover.Seqs, Repair (printed by gen_bits1.py). -/
namespace Go.Proofs.Ytchbgiindfoepaa
open Go.RowKit Go.Shelf

attribute [local go_sem] Oper.semAt_some

theorem Kx.step {Xs : List (Nat × Nat)} {W A B : World} {g : Nat} (h : Kx Xs W A) (hf : Fr [g] A B) (hg : W.heap.size ≤ g) (hX : ∀ p ∈ Xs, p.1 < W.heap.size) : Kx Xs W B := by
  have e : ∀ k, k < W.heap.size → B.heap[k]? = A.heap[k]? := fun k hk => hf.block k (by have := h.size; omega) (by simp; omega)
  exact ⟨Nat.le_trans h.size hf.size, fun k o hk hgd => (e k (Array.getElem?_eq_some_iff.1 hk).1).trans (h.blocks k o hk hgd), fun k hk hgd => (h.gd k hk hgd).congr fun p hp => e p.1 (hX p hp), fun hl => (h.low hl).congr (fun p hp => e p.1 (hX p hp)) hf.size⟩
theorem Kx.put {Xs : List (Nat × Nat)} {W A : World} {g : Nat} {o : Obj} (h : Kx Xs W A) (hg : W.heap.size ≤ g) (hX : ∀ p ∈ Xs, p.1 < W.heap.size) : Kx Xs W (A.putObj g o) := by
  have e : ∀ k, k < W.heap.size → (A.putObj g o).heap[k]? = A.heap[k]? := fun k hk => World.putObj_heap_other (by omega)
  have hz := putObj_size A g o
  exact ⟨by rw [hz]; exact h.size, fun k o' hk hgd => (e k (Array.getElem?_eq_some_iff.1 hk).1).trans (h.blocks k o' hk hgd), fun k hk hgd => (h.gd k hk hgd).congr fun p hp => e p.1 (hX p hp), fun hl => (h.low hl).congr (fun p hp => e p.1 (hX p hp)) (by rw [hz]; exact Nat.le_refl _)⟩
/-- How many places the mask in a box still has. -/
def leftOf (p : Value) (w : World) : Nat :=
  match p with
  | .pointer (some a) => match w.cell? ⟨a.block, 0, none⟩, w.cell? ⟨a.block, 1, none⟩ with
    | some (.int _ x), some (.int _ y) => (Msk.list ⟨BitVec.ofNat 64 x.toNat, BitVec.ofNat 64 y.toNat⟩).length
    | _, _ => 0
  | _ => 0
theorem leftOf_eq {w : World} {g : Nat} {m : Msk} (h : Box w g 126 (mkc m)) : leftOf (.pointer (some ⟨g, 0, none⟩)) w = m.list.length := by
  have x0 := h.cell 0; have x1 := h.cell 1
  simp only [mkc, List.getElem?_toArray, List.getElem?_cons_succ, List.getElem?_cons_zero] at x0 x1
  unfold leftOf
  simp only [x0, x1, Int.toNat_natCast, BitVec.ofNat_toNat, BitVec.setWidth_eq]
set_option maxRecDepth 100000 in
set_option maxHeartbeats 4000000 in
theorem mBits1_seq {w : World} (n : Nat) (hn : 1 ≤ n) (b : Nat) (m : Msk) (Xs : List (Nat × Nat)) (hX : ∀ p ∈ Xs, p.1 < w.heap.size) (hb : Box w b 126 (mkc m)) :
    SeqN Fence.wide n Try.prog 131 #[.pointer (some ⟨b, 0, none⟩)] (fun i : Nat => #[.int .i64 i]) Xs m.list w := fun l J W hW hlow hJa hYa h0 => by
  have HX : Hid (∀ p ∈ Xs, p.1 < W.heap.size) := Lib.hid (fun p hp => Nat.lt_of_lt_of_le (hX p hp) hW.size)
  have HB : Hid (Box W b 126 (mkc m)) := Lib.hid (hb.keep (Fr.ofBelow hW))
  have HJ := Lib.hid hJa; have HY := Lib.hid hYa; have HL := Lib.hid hlow; have HLW := Lib.hid hlow
  clear hX hb hW hJa hYa hlow
  show CallsIn _ _ _ _ #[.func (.yield l) #[] #[], .pointer (some ⟨b, 0, none⟩)] W _
  refine callsIn_of_wp Try.func131 rfl trivial ?_ rfl
  simp only [Try.ntmps131, List.size_toArray, List.length_cons, List.length_nil, Nat.reduceAdd, Nat.reduceSub, Array.replicate_succ, Array.replicate_zero, List.push_toArray, List.append_toArray, List.nil_append, List.cons_append]
  gi_wp2_with (first | (refine wpListIn_load_row_w rfl 126 (.tmp 1) rfl (b) rfl 126 _ _ HB.out Try.underlying126 rfl (by kernel_rfl) ?_) | (refine wpListIn_store_row rfl 126 (.tmp 3) (.tmp 5) rfl W.heap.size rfl _ _ rfl 126 (Box.new W 126 #[.int .u64 0, .int .u64 0]) (by kernel_rfl) rfl (by simp [Value.oneCell']) ?_; intro w2 hY2 hG; have hFn := ((Fr.refl [] W).alloc _).step hG (by simp); have HFn := Lib.hid hFn; have HN := Lib.hid hY2; clear hG hFn hY2))
  gi_loopw [3] (fun p wr => ∃ (pre : List Nat) (rest : Msk) (g : Nat), p = .pointer (some ⟨g, 0, none⟩) ∧ m.list = pre ++ rest.list ∧ Box wr g 126 (mkc rest) ∧ W.heap.size ≤ g ∧ Gd Xs wr g ∧ J pre wr ∧ Kx Xs W wr ∧ Low Xs wr) (fun p wr => leftOf p wr)
  case atStart =>
    have k1 := Kx.ofFr HFn.out HX.out
    exact ⟨[], m, W.heap.size, rfl, rfl, HN.out, Nat.le_refl _, (Gd.new HL.out HX.out (Nat.le_refl _)).congr (fun p hp => HFn.out.block p.1 (HX.out p hp) (by simp)), HJ.out.fr0 h0 HFn.out, k1, k1.low HL.out⟩
  case round =>
    clear h0 HN HFn HB
    obtain ⟨pre, rest, g, rfl, hm, hB, hg, hgd, hJs, hK, hlw⟩ := hrel
    have HM := Lib.hid hm; have HB := Lib.hid hB; have HG := Lib.hid hg; have HGD := Lib.hid hgd; have HJS := Lib.hid hJs; have HK := Lib.hid hK; have HL := Lib.hid hlw
    have HLE := Lib.hid (leftOf_eq hB); have HBW := Lib.hid hB
    clear hm hB hg hgd hJs hK hlw
    by_cases hz : rest = Msk.zero
    · have HF1 := Lib.hid (Msk.first_none hz)
      have HE : Hid (m.list = pre) := Lib.hid (by rw [HM.out, Msk.list_nil.2 hz, List.append_nil])
      clear hz
      gi_wp2_with (refine wpListIn_load_row_w rfl 126 (.tmp 3) rfl (g) rfl 126 _ _ HB.out Try.underlying126 rfl (by kernel_rfl) ?_)
      refine ⟨trivial, ?_⟩
      refine (callsIn_wide.2 (mFirst_any rest _)).mono ?_
      rintro e w3 ⟨rfl, hF⟩
      rw [HF1.out]
      have HFn := Lib.hid hF
      clear hF
      gi_wp2
      refine ⟨fun _ h => (by cases h), ?_⟩
      gi_wp2
      refine bodyPost_ret (results_none rfl _ _ _) rfl ?_
      exact ⟨⟨_, rfl⟩, by rw [HE.out]; exact HJ.out.fr0 HJS.out HFn.out, HK.out.trans (Kx.ofFr HFn.out (fun p hp => Nat.lt_of_lt_of_le (HX.out p hp) HK.out.size))⟩
    · obtain ⟨i, hi1, hi2, hi3⟩ := Msk.first_some hz
      have HF1 := Lib.hid hi1; have HI3 := Lib.hid hi3
      have HPRE : Hid ((pre ++ [i]) <+: m.list) := Lib.hid (by rw [HM.out, hi3]; exact ⟨(rest.sub (Msk.bit i)).list, by simp⟩)
      have HM2 : Hid (m.list = (pre ++ [i]) ++ (rest.sub (Msk.bit i)).list) := Lib.hid (by rw [HM.out, hi3]; simp)
      clear hz hi1 hi3
      gi_wp2_with (refine wpListIn_load_row_w rfl 126 (.tmp 3) rfl (g) rfl 126 _ _ HB.out Try.underlying126 rfl (by kernel_rfl) ?_)
      refine ⟨trivial, ?_⟩
      refine (callsIn_wide.2 (mFirst_any rest _)).mono ?_
      rintro e w3 ⟨rfl, hF⟩
      rw [HF1.out]
      have hJ3 := HJ.out.fr0 HJS.out hF
      have HB := Lib.hid (HB.out.keep hF)
      have HGL := Lib.hid HB.out.lt; have HGLT := HGL
      have hX3 : ∀ p ∈ Xs, p.1 < wr.heap.size := fun p hp => Nat.lt_of_lt_of_le (HX.out p hp) HK.out.size
      have hk3 := Kx.ofFr hF hX3
      have HGD := Lib.hid (hk3.gd g (by have := HB.out; exact (Array.getElem?_eq_some_iff.1 (show wr.heap[g]? = some _ from HBW.out)).1) HGD.out)
      have HL := Lib.hid (hk3.low HL.out); have HK := Lib.hid (HK.out.trans hk3)
      clear hX3 hk3 hF HJS
      obtain ⟨fn, tmps, assign, body, hy, hR⟩ := HY.out pre i w3 HPRE.out hJ3
      clear hJ3
      gi_wp2
      refine hR.mono ?_
      rintro e w4 ⟨rfl, hJ4, hK4⟩
      clear hy hR
      have HB : Hid (Box w4 g 126 (mkc rest)) := Lib.hid ((hK4.cell HGD.out HB.out.lt).trans HB.out)
      have HGD := Lib.hid (hK4.gd g (by have := HGL.out; have := hK4.size; exact HGLT.out) HGD.out)
      have HL := Lib.hid (hK4.low HL.out); have HK := Lib.hid (HK.out.trans hK4); have HJS := Lib.hid hJ4
      clear hJ4 hK4 HGL HGLT
      gi_wp2_with (refine wpListIn_load_row_w rfl 126 (.tmp 3) rfl (g) rfl 126 _ _ HB.out Try.underlying126 rfl (by kernel_rfl) ?_)
      refine ⟨trivial, ?_⟩
      refine (callsIn_wide.2 (mWithout_any rest hi2 _)).mono ?_
      rintro e w5 ⟨rfl, hF⟩
      have HJS := Lib.hid (HJ.out.fr0 HJS.out hF)
      have hX4 : ∀ p ∈ Xs, p.1 < w4.heap.size := fun p hp => Nat.lt_of_lt_of_le (HX.out p hp) HK.out.size
      have hk5 := Kx.ofFr hF hX4
      have HGD := Lib.hid (hk5.gd g HB.out.lt HGD.out)
      have HB := Lib.hid (HB.out.keep hF)
      have HL := Lib.hid (hk5.low HL.out); have HK := Lib.hid (HK.out.trans hk5)
      clear hX4 hk5 hF
      gi_wp2_with (first | (refine wpListIn_store_row rfl 126 (.tmp 3) (.tmp 18) rfl g rfl _ _ rfl 126 HB.out (by kernel_rfl) rfl (by simp [Value.oneCell']) ?_; intro w6 hY6 hG6; have HB6 := Lib.hid hY6; have HG6 := Lib.hid hG6; clear hY6 hG6) | (refine wpListIn_load_row_w rfl 126 (.tmp 3) rfl (g) rfl 126 _ _ HB6.out Try.underlying126 rfl (by kernel_rfl) ?_) | (refine wpListIn_store_row rfl 126 (.tmp 3) (.tmp 19) rfl w6.heap.size rfl _ _ rfl 126 (Box.new w6 126 #[.int .u64 0, .int .u64 0]) (by kernel_rfl) rfl (by simp [Value.oneCell']) ?_; intro w7 hY2 hG; have hFn := ((Fr.refl [] w6).alloc _).step hG (by simp); have HFn := Lib.hid hFn; have HN := Lib.hid hY2; clear hG hFn hY2))
      have HJ6 := Lib.hid (HJ.out.fr HJS.out HG6.out HG.out HGD.out)
      have hK6 := HK.out.step HG6.out HG.out HX.out
      have hX6 : ∀ p ∈ Xs, p.1 < w6.heap.size := fun p hp => Nat.lt_of_lt_of_le (HX.out p hp) hK6.size
      have hL6 : Low Xs w6 := hK6.low HLW.out
      have hk7 := Kx.ofFr HFn.out hX6
      have HL7 := Lib.hid (leftOf_eq HN.out)
      have HJ7 := Lib.hid (HJ.out.fr0 HJ6.out HFn.out)
      have HK7 := Lib.hid (hK6.trans hk7)
      have HLL7 := Lib.hid (hk7.low hL6)
      have HGD7 : Hid (Gd Xs w7 w6.heap.size) := Lib.hid ((Gd.new hL6 hX6 (Nat.le_refl _)).congr (fun p hp => HFn.out.block p.1 (hX6 p hp) (by simp)))
      have HS6 : Hid (W.heap.size ≤ w6.heap.size) := Lib.hid hK6.size
      clear hK6 hX6 hL6 hk7
      simp only [Act.put]
      go_roundw
      case rel => exact ⟨pre ++ [i], rest.sub (Msk.bit i), w6.heap.size, rfl, HM2.out, HN.out, HS6.out, HGD7.out, HJ7.out, HK7.out, HLL7.out⟩
      case measure =>
        show leftOf (.pointer (some ⟨w6.heap.size, 0, none⟩)) w7 < leftOf (.pointer (some ⟨g, 0, none⟩)) wr
        rw [HL7.out, HLE.out, HI3.out]
        simp

set_option maxRecDepth 100000 in
theorem mBits_any (m : Msk) (w : World) :
    Calls Try.prog 120 #[.agg (mkc m)] w fun e w' => e = .returned (.func (.func 131) #[] #[.pointer (some ⟨w.heap.size, 0, none⟩)]) ∧ Box w' w.heap.size 126 (mkc m) ∧ Fr [] w w' := by
  obtain ⟨w1, e1, hF1, hB1, hs1⟩ := one_new w (mkc m) 126
  have HF := Lib.hid hF1; have HB := Lib.hid hB1; have E1 := Lib.hid e1
  clear hF1 hB1 e1 hs1
  go_enter Try.func120, Try.ntmps120
  go_upto_region 1 with fail
  rw [E1.out]
  clear E1
  go_wp2_with fail
  go_ret
  exact ⟨rfl, HB.out, HF.out⟩
theorem roundIn_any {n m : Nat} {P : Program} {l l' : Nat} {f : FuncId} {tmps : Array Value} {assign body : Code} {w : World} {R : Ending → World → Prop} (h : RoundIn Fence.wide n P l f tmps assign body w R) : RoundIn (Fence.wide.inRound l') m P l f tmps assign body w R :=
  ⟨h.1, fun c cs _ => h.2 c cs (fun d hd => by cases hd)⟩
theorem AbX.le {β : Type} {Xs : List (Nat × Nat)} {B B' : Nat} {J : β → World → Prop} (h : AbX Xs B J) (hb : B ≤ B') : AbX Xs B' J := fun s W W' row hs hg hr => h s W W' row hs hg (fun r e => ⟨Nat.le_trans hb (hr r e).1, (hr r e).2⟩)
theorem AbX.and {β : Type} {Xs : List (Nat × Nat)} {B : Nat} {J K : β → World → Prop} (h : AbX Xs B J) (k : AbX Xs B K) : AbX Xs B (fun s W => J s W ∧ K s W) := fun s W W' row hs hg hr => ⟨h s W W' row hs.1 hg hr, k s W W' row hs.2 hg hr⟩
theorem AbX.box {β : Type} {Xs : List (Nat × Nat)} {B : Nat} {g : Nat} {t : TypeId} {c : Array Value} (hg : g < B) (hX : ∀ p ∈ Xs, p.1 < B) : AbX Xs B (fun (_ : β) W => Box W g t c ∧ Gd Xs W g ∧ B ≤ W.heap.size) := fun s W W' row hs hgr hr =>
  ⟨(hgr.block g hs.1.lt (fun e => by have := (hr g e.symm).1; omega)).trans hs.1, hs.2.1.congr fun p hp => hgr.block p.1 (by have := hX p hp; have := hs.2.2; omega) (fun e => by have := (hr p.1 e.symm).1; have := hX p hp; omega), Nat.le_trans hs.2.2 hgr.size⟩
end Go.Proofs.Ytchbgiindfoepaa

/- The iterator of cover.Each (printed by gen_bits1.py). -/
namespace Go.Proofs.Ytchbgiindfoepaa
open Go.RowKit Go.Shelf

attribute [local go_sem] Oper.semAt_some

set_option maxRecDepth 100000 in
set_option maxHeartbeats 4000000 in
theorem cvEach1_seq {w : World} (n : Nat) (hn : 3 ≤ n) (b1 b2 : Nat) (m : Msk) (base : UInt16) (Xs : List (Nat × Nat)) (hX : ∀ p ∈ Xs, p.1 < w.heap.size) (hb1 : Box w b1 126 (mkc m)) (hb2 : Box w b2 42 #[.int .u16 (base.toNat : Nat)]) (hg2 : Gd Xs w b2) :
    SeqN Fence.wide n Try.prog 119 #[.pointer (some ⟨b1, 0, none⟩), .pointer (some ⟨b2, 0, none⟩)] (fun i : Nat => #[.int .i64 i, .int .u16 ((add16 base i).toNat : Nat)]) Xs m.list w := fun l J W hW hlow hJa hYa h0 => by
  have HX : Hid (∀ p ∈ Xs, p.1 < W.heap.size) := Lib.hid (fun p hp => Nat.lt_of_lt_of_le (hX p hp) hW.size)
  have HB1 := Lib.hid (hb1.keep (Fr.ofBelow hW)); have HB2 := Lib.hid (hb2.keep (Fr.ofBelow hW))
  have HG2 : Hid (Gd Xs W b2) := Lib.hid (hg2.congr (fun p hp => (Fr.ofBelow hW).block p.1 (hX p hp) (by simp)))
  have HJ := Lib.hid hJa; have HY := Lib.hid hYa; have HL := Lib.hid hlow; have HJ0 := Lib.hid h0
  clear hX hb1 hb2 hW hJa hYa hlow hg2 h0
  show CallsIn _ _ _ _ #[.func (.yield l) #[] #[], .pointer (some ⟨b1, 0, none⟩), .pointer (some ⟨b2, 0, none⟩)] W _
  refine callsIn_of_wp_marks Try.func119 rfl trivial ?_ rfl
  simp only [Try.ntmps119, List.size_toArray, List.length_cons, List.length_nil, Nat.reduceAdd, Nat.reduceSub, Array.replicate_succ, Array.replicate_zero, List.push_toArray, List.append_toArray, List.nil_append, List.cons_append]
  obtain ⟨w1, e1, hF1, hB3, hs1⟩ := one_new W #[.func (.yield l) #[] #[]] 185
  have E1 := Lib.hid e1; have HB3 := Lib.hid hB3; have HF1 := Lib.hid hF1; have HS1 := Lib.hid hs1
  have HB1w := Lib.hid (HB1.out.keep ((Fr.refl [] W).alloc (.cells #[.func (.yield l) #[] #[]] 185)))
  clear e1 hB3 hF1 hs1
  gi_wp2_with (first | (refine wpListIn_load_row_w rfl 126 (.tmp 1) rfl (b1) rfl 126 _ _ HB1w.out Try.underlying126 rfl (by kernel_rfl) ?_))
  rw [E1.out]
  clear E1 HB1w
  refine ⟨trivial, fun _ => by omega, ?_⟩
  refine (callsIn_wide.2 (mBits_any m _)).mono ?_
  rintro e w2 ⟨rfl, hB4, hF2⟩
  have hX1 : ∀ p ∈ Xs, p.1 < w1.heap.size := fun p hp => Nat.lt_of_lt_of_le (HX.out p hp) HF1.out.size
  have hX2 : ∀ p ∈ Xs, p.1 < w2.heap.size := fun p hp => Nat.lt_of_lt_of_le (hX1 p hp) hF2.size
  have hkk := (Kx.ofFr HF1.out HX.out).trans (Kx.ofFr hF2 hX1)
  have HKK := Lib.hid hkk
  have HX2 := Lib.hid hX2
  have HL2 := Lib.hid (hkk.low HL.out)
  have HG2' := Lib.hid (hkk.gd b2 HB2.out.lt HG2.out)
  have HG3 : Hid (Gd Xs w2 W.heap.size) := Lib.hid ((Kx.ofFr hF2 hX1).gd _ HB3.out.lt ((Gd.new HL.out HX.out (Nat.le_refl _)).congr (fun p hp => HF1.out.block p.1 (HX.out p hp) (by simp))))
  have HB3 := Lib.hid (HB3.out.keep hF2); have HB2 := Lib.hid (HB2.out.keep (HF1.out.trans hF2))
  have HJ2 := Lib.hid (HJ.out.fr0 HJ0.out (HF1.out.trans hF2))
  have HSEQ := Lib.hid (mBits1_seq (w := w2) (n - 1) (by omega) w1.heap.size m Xs hX2 hB4)
  have HSZ : Hid (W.heap.size ≤ w2.heap.size) := Lib.hid (by have := HS1.out; have := hF2.size; omega)
  clear hX1 hX2 hkk HJ0 hB4 hF2 HF1
  gi_wp2
  refine wpIn_rangeAll rfl (by omega) (gf := 131) (lb := #[.pointer (some ⟨w1.heap.size, 0, none⟩)]) rfl trivial (enters_of Try.func131 (by kernel_rfl) rfl) HSEQ.out (Below.refl _ _) (fun _ => rfl) HX2.out HL2.out
    (fun pre W' => J pre W' ∧ (Box W' W.heap.size 185 #[.func (.yield l) #[] #[]] ∧ Gd Xs W' W.heap.size ∧ w2.heap.size ≤ W'.heap.size) ∧ (Box W' b2 42 #[.int .u16 (base.toNat : Nat)] ∧ Gd Xs W' b2 ∧ w2.heap.size ≤ W'.heap.size))
    ((HJ.out.le HSZ.out).and ((AbX.box HB3.out.lt HX2.out).and (AbX.box HB2.out.lt HX2.out)))
    ⟨HJ2.out, ⟨HB3.out, HG3.out, Nat.le_refl _⟩, ⟨HB2.out, HG2'.out, Nat.le_refl _⟩⟩
    (fun i => { tmps := #[.func (.yield l) #[] #[], .pointer (some ⟨b1, 0, none⟩), .pointer (some ⟨b2, 0, none⟩), .pointer (some ⟨W.heap.size, 0, none⟩), .int .i64 i, .agg (mkc m), .func (.func 131) #[] #[.pointer (some ⟨w1.heap.size, 0, none⟩)], .int .i64 i, undef, undef, undef, undef, undef, undef, undef], defers := [] }) ?assign ?body ?done
  case assign =>
    intro l' x W' K hK
    gi_wp2
    exact hK
  case body =>
    rintro l' pre i W' hl' hpre ⟨hJ', ⟨c3, g3, z3⟩, ⟨c2, g2, z2⟩⟩ hlw hsz
    have x3 := c3.cell 0; have x2 := c2.cell 0
    simp only [List.getElem?_toArray, List.getElem?_cons_zero] at x3 x2
    have hfd := (Fr.refl [] W').drew
    have hkd := Kx.ofFr hfd (fun p hp => Nat.lt_of_lt_of_le (HX2.out p hp) hsz)
    have c3d := c3.keep hfd; have c2d := c2.keep hfd
    have HREST : Hid (∀ W3, Kx Xs W'.drew W3 → J (pre ++ [i]) W3 → Kx Xs W' W3 ∧ J (pre ++ [i]) W3 ∧ (Box W3 W.heap.size 185 #[.func (.yield l) #[] #[]] ∧ Gd Xs W3 W.heap.size ∧ w2.heap.size ≤ W3.heap.size) ∧ (Box W3 b2 42 #[.int .u16 (base.toNat : Nat)] ∧ Gd Xs W3 b2 ∧ w2.heap.size ≤ W3.heap.size)) := Lib.hid (fun W3 hk hj => by
      have hk' := hkd.trans hk
      have hz := hk'.size
      exact ⟨hk', hj, ⟨(hk'.cell g3 c3.lt).trans c3, hk'.gd _ c3.lt g3, by omega⟩, ⟨(hk'.cell g2 c2.lt).trans c2, hk'.gd _ c2.lt g2, by omega⟩⟩)
    obtain ⟨fn, tmps, assign, body, hy, hR⟩ := HY.out pre i W'.drew hpre (HJ.out.fr0 hJ' hfd)
    have hmx : Try.prog.follows .mixedOrders = true := by kernel_rfl
    have hd : 1 ≤ n - 1 - 1 := by omega
    have HR := Lib.hid hR
    clear hfd hkd c3d c2d hR c3 g3 z3 c2 g2 z2
    gi_wp2
    gi_region_with_o (first | (refine ⟨trivial, ?_⟩; refine (CallsIn.inRound l' (callsIn_wide.2 (serAdd_any base (i : Int) _))).mono ?_; rintro e w' ⟨rfl, rfl⟩) | (refine (roundIn_any HR.out).mono ?_; rintro e w5 ⟨rfl, hJ5, hK5⟩; have HJ5 := Lib.hid hJ5; have HK5 := Lib.hid hK5; clear hJ5 hK5))
    all_goals
      gi_wp2
      obtain ⟨k1, j1, q3, q2⟩ := HREST.out w5 HK5.out HJ5.out
      exact ⟨k1, j1, q3, q2⟩
  case done =>
    rintro D W' hD ⟨hJ', -, -⟩ hK hDk
    gi_wp2
    refine ⟨by simp, .inl ⟨_, _, rfl, run_takeDeferred hDk, ?_⟩⟩
    exact ⟨_, results_none rfl _ _ _, ⟨_, rfl⟩, HJ.out.putObj _ hJ' (by have := HSZ.out; omega) hDk rfl, (HKK.out.trans hK).put (by have := HSZ.out; omega) HX.out⟩
end Go.Proofs.Ytchbgiindfoepaa

/- cover.Each, Seqs, Repair (printed by gen_seqs.py). -/
namespace Go.Proofs.Ytchbgiindfoepaa
open Go.RowKit Go.Shelf

attribute [local go_sem] Oper.semAt_some

theorem wpListIn_append_fr {F : Fence} {n : Nat} {P : Program} {w : World} {ops : Array Oper} {rest : List Oper} {o : Oper} {a : Act} {Q : Exit → Act → World → Prop} (hgd : o.guard = none) (s x : Operand) (t : TypeId)
    (ho : o.op = .call { callee := .builtin .append, args := #[s, x], argTypes := #[t, t] })
    (base : Nat) (e : TypeId) (z : Value) (size bytes : Nat) (ht : P.underlying t = some (.slice e)) (hi : (P.info? e).map (fun i => (i.zero, i.size, i.bytes)) = some (some z, size, bytes)) (hz : z.cells.size = size) (hsz : 0 < size)
    (v : Value) (k : Nat) (xs : List Value) (hs : a.eval s = v) (hown : w.ownsRow base e size v k xs)
    (ad : Addr) (m c : Nat) (news : List Value) (hx : a.eval x = .slice (some ad) m c) (hl : news.length = m * size) (hnews : ∀ j u, news[j]? = some u → w.cell? (ad.add j) = some u) (h1 : ∀ u ∈ news, u.oneCell' = true)
    (h63 : k + m ≤ maxLen) (hbytes : (k + m) * bytes ≤ 140737488355328) (hbase : base ≤ w.heap.size)
    (h : ∀ v' w', w'.ownsRow base e size v' (k + m) (xs ++ news) → Fr (blockOf v).toList w w' → (∀ b, blockOf v' = some b → blockOf v = some b ∨ w.heap.size ≤ b) → (v' = .slice none 0 0 ↔ v = .slice none 0 0 ∧ m = 0) → wpListIn F n P ops Q rest (a.put o.dst v') w') : wpListIn F n P ops Q (o :: rest) a w := by
  refine wpListIn_plain hgd fun K hK => ?_
  obtain ⟨i, hi1, hi2, hi3, hi4⟩ := info_parts hi
  obtain ⟨v', w', hr, h2, h3, h4, h5⟩ := run_append_fresh (P := P) w base t o.type e i z size bytes ht hi1 hi2 hi3 hi4 hz hsz v k xs hown ad m c news hl hnews h1 h63 hbytes hbase
  unfold Oper.wpIn
  refine ⟨by simp [Oper.about, ho, resolve, Target.leads, Sem.run_pure], ?_⟩
  rw [Oper.semAt_plain F _ _ (by rw [ho]; intro c hc'; cases hc')]
  simp [execOp, ho, resolve, invoke, builtin, hs, hx, hr, Result.andThen]
  exact hK _ _ (h v' w' h2 h3 h5 h4)
/-- A step of the body: it turns blocks of its own alone, and what then lies in its boxes lies where it lay, or new. -/
theorem Kx.body {Xs : List (Nat × Nat)} {W W' : World} {S : List Nat} (h : Fr S W W') (hS : ∀ g ∈ S, W.heap.size ≤ g ∨ ¬ Gd Xs W g ∧ ∃ o : Obj, W.heap[g]? = some o ∧ o.isCells = true)
    (hn : ∀ p ∈ Xs, ∀ v b, W'.cell? ⟨p.1, p.2, none⟩ = some v → blockOf v = some b → b < W'.heap.size ∧ (W.heap.size ≤ b ∨ ¬ Gd Xs W b)) : Kx Xs W W' := by
  refine ⟨h.size, fun k o hk hg => ?_, fun k hk hg p hp => ⟨(hg p hp).1, fun v hv hb => ?_⟩, fun _ p hp v b hv hb => (hn p hp v b hv hb).1⟩
  · have hlt := (Array.getElem?_eq_some_iff.1 hk).1
    rw [h.block k hlt (fun hm => ?_)]
    · exact hk
    · rcases hS k hm with h1 | ⟨h1, o', ho', hc⟩
      · omega
      · rcases hg with hg | hg
        · exact h1 hg
        · rw [hk] at ho'; cases ho'; rw [hc] at hg; cases hg
  · rcases (hn p hp v k hv hb).2 with h1 | h1
    · omega
    · exact h1 hg
set_option maxRecDepth 100000 in
theorem cvEach_any (base : UInt16) (m : Msk) (w : World) :
    Calls Try.prog 97 #[.int .u16 (base.toNat : Nat), .agg (mkc m)] w fun e w' => e = .returned (.func (.func 119) #[] #[.pointer (some ⟨w.heap.size + 1, 0, none⟩), .pointer (some ⟨w.heap.size, 0, none⟩)]) ∧
      Box w' w.heap.size 42 #[.int .u16 (base.toNat : Nat)] ∧ Box w' (w.heap.size + 1) 126 (mkc m) ∧ Fr [] w w' := by
  obtain ⟨w1, e1, hF1, hB1, hB2, hs1⟩ := two_new w #[.int .u16 (base.toNat : Nat)] 42 (mkc m) 126
  have HF := Lib.hid hF1; have HB1 := Lib.hid hB1; have HB2 := Lib.hid hB2; have E1 := Lib.hid e1
  clear hF1 hB1 hB2 e1 hs1
  go_enter Try.func97, Try.ntmps97
  go_upto_region 1 with fail
  rw [E1.out]
  clear E1
  go_wp2_with fail
  go_ret
  exact ⟨rfl, HB1.out, HB2.out, HF.out⟩
def seqsOf (base : UInt16) (m : Msk) : List UInt16 := m.list.map fun i => add16 base (i : Nat)
set_option maxRecDepth 100000 in
theorem info_u16 : (Try.prog.info? 42).map (fun i => (i.zero, i.size, i.bytes)) = some (some (.int .u16 0), 1, 2) := by kernel_rfl
/-- What holds of the box of a list that grows. -/
structure GRel (w W : World) (B X : Nat) (l : List UInt16) : Prop where
  v : ∃ v, Box W X 77 #[v] ∧ W.ownsRow B 42 1 v l.length (l.map W16)
  fr : Fr [] w W
  sz : B ≤ W.heap.size
theorem GRel.abx {β : Type} {w : World} {B X : Nat} (f : β → List UInt16) (hX : X < B) (hw : w.heap.size ≤ B) : AbX [(X, 0)] B (fun (s : β) W => GRel w W B X (f s)) := fun s W W' row hs hg hr => by
  obtain ⟨⟨v, h1, h2⟩, h3, h4⟩ := hs
  refine ⟨⟨v, (hg.block X h1.lt (fun e => by have := (hr X e.symm).1; omega)).trans h1, ?_⟩, ?_, Nat.le_trans h4 hg.size⟩
  · refine Own.fr h2 (Fr.ofGrown hg) (fun b hb hm => ?_)
    obtain ⟨hB, hc⟩ := hr b (by simpa using hm)
    rcases hc with ⟨o, ho, hc⟩ | hc
    · obtain ⟨-, h | ⟨g, cap, cur, rfl, hbg, hgg, -⟩⟩ := h2
      · rw [h.1] at hb; simp [blockOf] at hb
      · simp only [blockOf, Option.some.injEq] at hb
        subst hb
        rw [hgg] at ho; cases ho; cases hc
    · exact (hc (X, 0) (by simp)).2 v (by have := h1.cell 0; simpa using this) hb
  · exact h3.grown hg (fun k hk => .inr (by have := (hr k hk).1; omega))
set_option maxRecDepth 100000 in
set_option maxHeartbeats 4000000 in
theorem cvSeqs_any (base : UInt16) (m : Msk) (w : World) :
    Calls Try.prog 93 #[.int .u16 (base.toNat : Nat), .agg (mkc m)] w fun e w' => ∃ v, e = .returned v ∧ w'.ownsRow w.heap.size 42 1 v (seqsOf base m).length ((seqsOf base m).map W16) ∧ Fr [] w w' := by
  refine (callsIn_wide (n := 8)).1 ?_
  refine callsIn_of_wp_marks Try.func93 rfl trivial ?_ rfl
  simp only [Try.ntmps93, List.size_toArray, List.length_cons, List.length_nil, Nat.reduceAdd, Nat.reduceSub, Array.replicate_succ, Array.replicate_zero, List.push_toArray, List.append_toArray, List.nil_append, List.cons_append]
  obtain ⟨w1, e1, hF1, hB1, hB2, hs1⟩ := two_new w (mkc m) 126 #[.slice none 0 0] 77
  have HF1 := Lib.hid hF1; have HB1 := Lib.hid hB1; have HX := Lib.hid hB2; have E1 := Lib.hid e1
  have HM : Hid (Box ((w.alloc (.cells (mkc m) 126)).alloc (.cells #[.slice none 0 0] 77)) w.heap.size 126 (mkc m)) := Lib.hid (by rw [e1]; exact hB1)
  have HS1 := Lib.hid hs1
  clear hF1 hB1 hB2 e1 hs1
  gi_wp2_with (refine wpListIn_load_row_w rfl 126 (.tmp 3) rfl w.heap.size rfl 126 _ _ HM.out Try.underlying126 rfl (by kernel_rfl) ?_)
  rw [E1.out]
  clear E1 HM
  refine ⟨trivial, ?_⟩
  refine (callsIn_wide.2 (cvEach_any base m _)).mono ?_
  rintro e w2 ⟨rfl, hB3, hB4, hF2⟩
  have hX2 : w.heap.size + 1 < w2.heap.size := Nat.lt_of_lt_of_le HX.out.lt hF2.size
  have HX2 := Lib.hid hX2
  have HXX : Hid (∀ p ∈ [(w.heap.size + 1, 0)], p.1 < w2.heap.size) := Lib.hid (by simpa using hX2)
  have HXb := Lib.hid (HX.out.keep hF2)
  have HLow : Hid (Low [(w.heap.size + 1, 0)] w2) := Lib.hid (fun p hp v b hv hb => by
    simp at hp
    subst hp
    have := HXb.out.cell 0
    simp only [List.getElem?_toArray, List.getElem?_cons_zero] at this
    rw [this] at hv
    cases hv
    simp [blockOf] at hb)
  have HSEQ := Lib.hid (cvEach1_seq (w := w2) 7 (by omega) (w1.heap.size + 1) w1.heap.size m base [(w.heap.size + 1, 0)] HXX.out hB4 hB3 (fun p hp => by
    simp at hp
    subst hp
    refine ⟨by have := HS1.out; simp; omega, fun v hv hb => ?_⟩
    have := HXb.out.cell 0
    simp only [List.getElem?_toArray, List.getElem?_cons_zero] at this
    rw [this] at hv
    cases hv
    simp [blockOf] at hb))
  have HF := Lib.hid (HF1.out.trans hF2)
  have HG0 : Hid (GRel w w2 w2.heap.size (w.heap.size + 1) []) := Lib.hid ⟨⟨_, HXb.out, World.ownsRow_nil _ _ _ _⟩, HF.out, Nat.le_refl _⟩
  clear HF1 HB1 HX hX2 hB3 hB4 hF2
  gi_wp2
  refine wpIn_rangeAll rfl (by omega) (gf := 119) (lb := #[.pointer (some ⟨w1.heap.size + 1, 0, none⟩), .pointer (some ⟨w1.heap.size, 0, none⟩)]) rfl trivial (enters_of Try.func119 (by kernel_rfl) rfl) HSEQ.out (Below.refl _ _) (fun _ => rfl) HXX.out HLow.out
    (fun pre W' => GRel w W' w2.heap.size (w.heap.size + 1) (pre.map fun i => add16 base (i : Nat)))
    (GRel.abx _ HX2.out HF.out.size)
    HG0.out
    (fun i => { tmps := #[.int .u16 (base.toNat : Nat), .agg (mkc m), undef, .pointer (some ⟨w.heap.size, 0, none⟩), .slice none 0 0, .pointer (some ⟨w.heap.size + 1, 0, none⟩), undef, .int .u16 ((add16 base (i : Nat)).toNat : Nat), .int .u16 (base.toNat : Nat), .agg (mkc m), .func (.func 119) #[] #[.pointer (some ⟨w1.heap.size + 1, 0, none⟩), .pointer (some ⟨w1.heap.size, 0, none⟩)], .int .i64 i, .int .u16 ((add16 base (i : Nat)).toNat : Nat), undef, undef, undef, undef, undef], defers := [] }) ?assign ?body ?done
  case assign =>
    intro l' x W' K hK
    gi_wp2
    exact hK
  case body =>
    rintro l' pre i W' hl' hpre ⟨⟨v, hX, hown⟩, hFr, hsz⟩ hlw hsz2
    have hlen : pre.length + 1 ≤ 128 := by
      have h1 := hpre.length_le
      have h2 := m.list_len
      simp at h1
      omega
    have hown0 := hown
    rw [List.length_map] at hown
    obtain ⟨a7, c7, rfl⟩ : ∃ a c, v = .slice a pre.length c := by
      have := Sl.shape (Sl.ofOwn hown)
      simpa using this
    have hvb := Own.block hown
    have hXlt := HX2.out
    have x0 := hX.cell 0
    simp only [List.getElem?_toArray, List.getElem?_cons_zero] at x0
    obtain ⟨w3, e3, hF3, hB3, hs3⟩ := one_new W' #[.int .u16 ((add16 base (i : Nat)).toNat : Nat)] 42
    have E3 := Lib.hid e3; have HF3 := Lib.hid hF3; have HB3 := Lib.hid hB3
    have HOWN := Lib.hid (Own.keep hown hF3); have HXX3 := Lib.hid (hX.keep hF3); have HVB := Lib.hid hvb; have HFR := Lib.hid hFr; have HXW := Lib.hid hX
    have L3 : Hid (w2.heap.size ≤ w3.heap.size) := Lib.hid (by have := hF3.size; omega)
    have HCELL : Hid (∀ (j : Nat) (u : Value), [W16 (add16 base (i : Nat))][j]? = some u → w3.cell? ((⟨W'.heap.size, 0, none⟩ : Addr).add j) = some u) := Lib.hid (fun j u hj => by
      have : j = 0 := by
        have := (List.getElem?_eq_some_iff.1 hj).1
        simp at this
        exact this
      subst this
      simp at hj
      subst hj
      have h3 := hB3.cell 0
      simp only [List.getElem?_toArray, List.getElem?_cons_zero] at h3
      rw [Addr.add_mid, Nat.add_zero]
      exact h3)
    have HOWNW := Lib.hid hown
    clear e3 hF3 hB3 hs3 hown hown0 hvb hX hFr
    gi_wp2_with (gi_at_builtin; (rw [E3.out]); refine wpListIn_append_fr rfl (.tmp 13) (.tmp 15) 77 rfl w2.heap.size 42 (.int .u16 0) 1 2 Try.underlying77 info_u16 rfl (by omega) (.slice a7 pre.length c7) pre.length ((pre.map fun i => add16 base (i : Nat)).map W16) rfl HOWN.out ⟨W'.heap.size, 0, none⟩ 1 1 [W16 (add16 base (i : Nat))] rfl rfl HCELL.out (by simp [W16, Value.oneCell']) (by unfold maxLen; omega) (by omega) L3.out ?_; intro v8 w4 hown8 hfr8 hbl8 _; have HOWN8 := Lib.hid hown8; have HFR8 := Lib.hid hfr8; have HBL8 := Lib.hid hbl8; obtain ⟨a8, c8, rfl⟩ : ∃ a c, v8 = .slice a (pre.length + 1) c := (by have h := Sl.shape (Sl.ofOwn hown8); simpa using h); clear hown8 hfr8 hbl8; have hX4 := HXX3.out.fr HFR8.out (fun hm => by have h := (HVB.out _ (by simpa using hm)).1; omega); have x4 := hX4.cell 0; have f4 := hX4.free 0; (simp only [List.getElem?_toArray, List.getElem?_cons_zero] at x4); have HX4 := Lib.hid hX4; clear hX4)
    obtain ⟨w5, e5, hF5, hB5, hs5⟩ := set_new HX4.out 0 (.slice a8 (pre.length + 1) c8)
    rw [e5]
    simp only [List.setIfInBounds_toArray, List.set_cons_zero] at hB5
    have hX := HXW.out
    have z3 := HF3.out.size; have z4 := HFR8.out.size; have z5 := hF5.size; have zw := HF.out.size
    have hnX : ¬ Gd [(w.heap.size + 1, 0)] W' (w.heap.size + 1) := fun h => (h (w.heap.size + 1, 0) (by simp)).1 rfl
    have hnv : ∀ b, blockOf (.slice a7 pre.length c7) = some b → ¬ Gd [(w.heap.size + 1, 0)] W' b := fun b hb h => (h (w.heap.size + 1, 0) (by simp)).2 _ (by have := hX.cell 0; simpa using this) hb
    have hv8 : ∀ b, blockOf (.slice a8 (pre.length + 1) c8) = some b → b ≠ w.heap.size + 1 ∧ b < w5.heap.size ∧ (W'.heap.size ≤ b ∨ ¬ Gd [(w.heap.size + 1, 0)] W' b) := fun b hb => by
      have h1 := (Own.block HOWN8.out b hb)
      have h0 := HX2.out
      refine ⟨by omega, by omega, ?_⟩
      rcases HBL8.out b hb with h | h
      · exact .inr (hnv b h)
      · exact .inl (by omega)
    have hfr : Fr ((blockOf (.slice a7 pre.length c7)).toList ++ [w.heap.size + 1]) W' w5 := ((HF3.out.any).trans (HFR8.out.mono (fun x hx => by simp [hx]))).trans (hF5.mono (fun x hx => by simp at hx; simp [hx]))
    refine ⟨Kx.body hfr ?_ ?_, ⟨⟨_, hB5, ?_⟩, ?_, by omega⟩⟩
    · intro g hg
      rcases List.mem_append.1 hg with hg | hg
      · have hg' : blockOf (.slice a7 pre.length c7) = some g := by simpa using hg
        refine .inr ⟨hnv g hg', ?_⟩
        obtain ⟨-, h | ⟨g', cap, cur, ev, hbg, hgg, -⟩⟩ := HOWNW.out
        · rw [h.1] at hg'; simp [blockOf] at hg'
        · rw [ev] at hg'
          simp only [blockOf, Option.some.injEq] at hg'
          subst hg'
          exact ⟨_, hgg, rfl⟩
      · simp at hg
        subst hg
        exact .inr ⟨hnX, _, hX, rfl⟩
    · intro p hp v b hv hb
      simp at hp
      subst hp
      have := hB5.cell 0
      simp only [List.getElem?_toArray, List.getElem?_cons_zero] at this
      rw [this] at hv
      cases hv
      exact ⟨(hv8 b hb).2.1, (hv8 b hb).2.2⟩
    · have h := HOWN8.out
      rw [show (pre.map fun i => add16 base (i : Nat)).map W16 ++ [W16 (add16 base (i : Nat))] = ((pre ++ [i]).map fun i => add16 base (i : Nat)).map W16 by simp] at h
      rw [show ((pre ++ [i]).map fun i => add16 base (i : Nat)).length = pre.length + 1 by simp]
      exact Own.fr h hF5 (fun b hb hm => by simp at hm; exact (hv8 b hb).1 hm)
    · refine HFR.out.step hfr (fun x hx => .inr ?_)
      rcases List.mem_append.1 hx with hx | hx
      · have := (HVB.out x (by simpa using hx)).1; omega
      · simp at hx; omega
  case done =>
    rintro D W' hD ⟨⟨v, hX, hown⟩, hFr, hsz⟩ hK hDk
    rw [List.length_map] at hown
    obtain ⟨a7, c7, rfl⟩ : ∃ a c, v = .slice a m.list.length c := by
      have := Sl.shape (Sl.ofOwn hown)
      simpa using this
    have x0 := hX.cell 0
    simp only [List.getElem?_toArray, List.getElem?_cons_zero] at x0
    have HOWN := Lib.hid hown; have HFR := Lib.hid hFr
    clear hown hFr hK
    gi_wp2
    have hFD : Fr [D] W' (W'.putObj D (.deferred none)) := Fr.ofGrown (grownBy_putObj' W' D _)
    have zw := HF.out.size
    refine ⟨by simp, .inl ⟨_, _, rfl, run_takeDeferred hDk, ?_⟩⟩
    refine ⟨_, results_tmp rfl _ _ _, _, rfl, ?_, HFR.out.step hFD (fun x hx => .inr (by simp at hx; omega))⟩
    unfold seqsOf
    rw [List.length_map]
    refine Own.mono (Own.fr HOWN.out hFD (fun b hb hm => ?_)) zw
    have hbD : b = D := by simpa using hm
    rw [hbD] at hb
    obtain ⟨-, h | ⟨g', cap, cur, ev, hbg, hgg, -⟩⟩ := HOWN.out
    · rw [h.1] at hb; simp [blockOf] at hb
    · rw [ev] at hb
      have hg' : g' = D := by simpa [blockOf] using hb
      rw [hg', hDk] at hgg
      cases hgg
end Go.Proofs.Ytchbgiindfoepaa
