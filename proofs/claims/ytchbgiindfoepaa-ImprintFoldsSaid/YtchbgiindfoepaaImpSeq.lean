/- The iterator of confluxlaw12.ImprintFolds: each imprint of a captured slice is yielded. -/
import Derived.Test.YtchbgiindfoepaaImpAll
import Derived.Test.YtchbgiindfoepaaImp8
namespace Go.Proofs.Ytchbgiindfoepaa
open Go.RowKit Go.Shelf
attribute [local go_sem] Oper.semAt_some

theorem wpListIn_load_mid {F : Fence} {n : Nat} {P : Program} {ops : Array Oper} {rest : List Oper} {o : Oper} {a : Act} {w : World} {Q : Exit → Act → World → Prop} (hw : Region.wanted o (yielded ops a.tmps) = true) (ty : TypeId) (x : Operand) (ho : o.op = .load ty x)
    (b off : Nat) (hx : a.eval x = .pointer (some ⟨b, off, none⟩)) (cs : List Value) (d : TypeDesc) (hc : w.rangeAt b off cs)
    (hu : P.underlying ty = some d) (hd : d.isRow = true) (hi : (P.info? ty).map (·.size) = some cs.length)
    (h : wpListIn F n P ops Q rest (a.put o.dst (.agg cs.toArray)) w) : wpListIn F n P ops Q (o :: rest) a w := by
  unfold wpListIn
  rw [if_pos hw]
  unfold Oper.wpIn
  refine ⟨by simp [Oper.about, ho], ?_⟩
  rw [Oper.semAt_plain F _ _ (by rw [ho]; intro c hc'; cases hc')]
  unfold execOp
  simp only [ho, hx, Sem.run_bind, run_loadAt_mid w b off ty cs d hc hu hd hi]
  exact h
/-- The imprints of a slice, each with its value. -/
theorem bt_zs {w : World} : ∀ {xs : List Bt} {cells : List Value} {B : List Nat}, Els BtR xs w cells B → (∀ x ∈ xs, x.body.length ≤ 1099511627776) →
    ∃ zs : List (BtAt w), zs.map (·.1.2) = xs ∧ ∀ (i : Nat) (z : BtAt w), zs[i]? = some z → ∃ c : List Value, z.1.1 = .agg c.toArray ∧ c.length = 9 ∧ (∀ u ∈ c, u.oneCell' = true) ∧ ∀ j u, c[j]? = some u → cells[i * 9 + j]? = some u
  | [], _, _, _, _ => ⟨[], rfl, fun i z hz => by simp at hz⟩
  | x :: xs, cells, B, h, hs => by
    obtain ⟨c, rest, B1, B2, rfl, rfl, h1, h2⟩ := h
    obtain ⟨zs, e, hz⟩ := bt_zs h2 (fun y hy => hs y (by simp [hy]))
    have hc9 := Rep.bt.len h1
    have hc1 := Rep.bt.one h1
    obtain ⟨vb, rfl, hb, -⟩ := h1
    let z0 : BtAt w := ⟨(.agg (bc x vb), x), ⟨vb, rfl, hb⟩, hs x (List.mem_cons_self ..)⟩
    refine ⟨z0 :: zs, by rw [List.map_cons, e], fun i z hi => ?_⟩
    cases i with
    | zero =>
      have hi' : some z0 = some z := hi
      cases hi'
      refine ⟨(bc x vb).toList, rfl, hc9, hc1, fun j u hj => ?_⟩
      rw [Nat.zero_mul, Nat.zero_add, List.getElem?_append_left (List.getElem?_eq_some_iff.1 hj).1]
      exact hj
    | succ i =>
      obtain ⟨c', q1, q2, q3, q4⟩ := hz i z hi
      refine ⟨c', q1, q2, q3, fun j u hj => ?_⟩
      have e9 : (i + 1) * 9 + j = (bc x vb).toList.length + (i * 9 + j) := by rw [hc9]; omega
      rw [e9, List.getElem?_append_right (by omega), Nat.add_sub_cancel_left]
      exact q4 j u hj

set_option maxRecDepth 100000 in
set_option maxHeartbeats 4000000 in
theorem folds1_stops {w0 : World} (n : Nat) (hn : 1 ≤ n) (X b o n₀ cap : Nat) (w : World) (zs : List (BtAt w0)) (hreach : zs.length ≤ 1099511627776) (cells : List Value)
    (hX : w.cell? ⟨X, 0, none⟩ = some (.slice (some ⟨b, o, none⟩) zs.length cap)) (hc : w.rangeAt b o cells) (hXl : X < n₀) (hbl : b < n₀) (hn₀ : n₀ ≤ w.heap.size)
    (hz : ∀ (i : Nat) (z : BtAt w0), zs[i]? = some z → ∃ c : List Value, z.1.1 = .agg c.toArray ∧ c.length = 9 ∧ (∀ u ∈ c, u.oneCell' = true) ∧ ∀ j u, c[j]? = some u → cells[i * 9 + j]? = some u) :
    SeqStopsK Fence.wide n Try.prog 15 #[.pointer (some ⟨X, 0, none⟩)] (fun x : BtAt w0 => #[x.1.1]) (Below n₀) (fun ys => ys = zs) (fun pre => pre <+: zs) zs.length w := fun l J Jx W hW hJa _ hY h0 => by
  have hbW := hW.mono hn₀
  have hX' := (hbW.cell (p := ⟨X, 0, none⟩) hXl).trans hX
  have HC : Hid (∀ j u, cells[j]? = some u → W.cell? ⟨b, o + j, none⟩ = some u) := Lib.hid (fun j u hj => (hbW.cell (p := ⟨b, o + j, none⟩) hbl).trans (hc j u hj))
  have HZ := Lib.hid hz; have HY := Lib.hid hY; have HJ := Lib.hid hJa
  have hWn : n₀ ≤ W.heap.size := Nat.le_trans hn₀ hW.size
  clear hX hc hz hY hJa hW
  show CallsIn _ _ _ _ #[.func (.yield l) #[] #[], .pointer (some ⟨X, 0, none⟩)] W _
  refine callsIn_of_wp Try.func15 rfl trivial ?_ rfl
  simp only [Try.ntmps15, List.size_toArray, List.length_cons, List.length_nil, Nat.reduceAdd, Nat.reduceSub, Array.replicate_succ, Array.replicate_zero, List.push_toArray, List.append_toArray, List.nil_append, List.cons_append]
  gi_wp2
  gi_loopw [7] (fun i wr => ∃ k : Nat, k ≤ zs.length ∧ i = .int .i64 k ∧ J (zs.take k) wr ∧ Below n₀ W wr)
    (fun i _ => zs.length - (intOf i).toNat)
  case atStart => exact ⟨0, Nat.zero_le _, rfl, h0, Below.refl _ _⟩
  case round =>
    obtain ⟨k, hk, rfl, hJs, hnx⟩ := hrel
    by_cases hlt : k < zs.length
    · obtain ⟨c, hzc, hc9, hc1, hcc⟩ := HZ.out k zs[k] (List.getElem?_eq_getElem hlt)
      have hrg : wr.rangeAt b (o + k * 9) c := fun j u hj => by
        have := HC.out _ u (hcc j u hj)
        rw [← Nat.add_assoc] at this
        exact (hnx.cell (p := ⟨b, o + k * 9 + j, none⟩) hbl).trans this
      have HRG := Lib.hid hrg; have HC9 := Lib.hid hc9; have HC1 := Lib.hid hc1; have HZC := Lib.hid hzc
      have HNX := Lib.hid hnx
      have HT : Hid (zs.take (k + 1) = zs.take k ++ [zs[k]]) := Lib.hid (List.take_succ_eq_append_getElem hlt)
      have HTL : Hid ((zs.take k).length < zs.length) := Lib.hid (by rw [List.length_take]; omega)
      clear hrg hc9 hc1 hzc hcc hnx
      generalize zs[k] = x at *
      gi_wp2_with (first | (refine wpListIn_load_mid rfl 28 (.tmp 9) rfl b (o + k * 9) rfl c _ HRG.out Try.underlying28 rfl (by rw [HC9.out]; kernel_rfl) ?_) | (refine wpListIn_store_row rfl 28 (.tmp 4) (.tmp 10) rfl wr.heap.size rfl _ c.toArray rfl 28 (Box.new wr 28 (bc Bt.zero (.slice none 0 0))) (by rw [List.size_toArray, HC9.out]; kernel_rfl) (by rw [List.size_toArray, HC9.out]; rfl) (by simpa using HC1.out) ?_; intro w2 hY2 hG; have hFn := ((Fr.refl [] wr).alloc _).step hG (by simp); have HFn := Lib.hid hFn; have HB2 := Lib.hid hY2; have hJ2 : J (zs.take k) w2 := HJ.out _ wr w2 none hJs ⟨hFn.os, hFn.tape, hFn.output, hFn.size, fun k' hk' _ => hFn.block k' hk' (by simp)⟩ (by simp); clear hG hFn hY2; obtain ⟨fn, tmps, assign, body, hy, hR⟩ := HY.out _ x w2 hJ2 HTL.out; (try dsimp only at hy); (rw [HZC.out] at hy)) | (refine wpListIn_load_row_w rfl 28 (.tmp 4) rfl wr.heap.size rfl 28 _ _ HB2.out Try.underlying28 rfl (by rw [List.size_toArray, HC9.out]; kernel_rfl) ?_))
      refine hR.mono ?_
      rintro e W3 (⟨rfl, hJ3, hk3⟩ | ⟨rfl, hJx3⟩)
      · clear hy
        have HF2 := Lib.hid (HNX.out.trans ((Fr.belowOf HFn.out (by simp) (by have := HNX.out.size; omega)).trans hk3))
        gi_wp2
        go_roundw
        case rel => exact ⟨k + 1, by omega, by simp, by rw [HT.out]; exact hJ3, HF2.out⟩
        case measure => simp [intOf]; omega
      · clear hy
        gi_wp2
        refine bodyPost_ret (results_none rfl _ _ _) rfl ?_
        exact ⟨⟨_, rfl⟩, .inr ⟨_, by rw [← HT.out]; exact List.take_prefix _ _, hJx3⟩⟩
    · obtain rfl : k = zs.length := by omega
      gi_wp2
      go_end0
      exact ⟨⟨_, rfl⟩, .inl ⟨_, rfl, by rwa [List.take_of_length_le (Nat.le_refl _)] at hJs⟩⟩
end Go.Proofs.Ytchbgiindfoepaa
