/- The walk of imprint.Fold, over whatever iterator of imprints. -/
import Derived.Test.YtchbgiindfoepaaBaseIn
import Derived.Test.YtchbgiindfoepaaImp3
namespace Go.Proofs.Ytchbgiindfoepaa
open Go.RowKit Go.Shelf
attribute [local go_sem] Oper.semAt_some

/-- An imprint that reads so in w. -/
def BtAt (w : World) : Type := { x : Value × Bt // BtV w x.1 x.2 ∧ x.2.body.length ≤ 1099511627776 }
theorem bt_all_len {w : World} (zs : List (BtAt w)) : (Bt.all (zs.map (·.1.2))).body.length ≤ 1099511627776 :=
  Bt.fold_small _ _ _ (by simp [Bt.zero]) (fun x hx => by obtain ⟨z, _, rfl⟩ := List.mem_map.1 hx; exact z.2.2)
theorem bt_all_snoc (xs : List Bt) (x : Bt) : Bt.all (xs ++ [x]) = (Bt.all xs).add x := by simp [Bt.all]

set_option maxRecDepth 100000 in
set_option maxHeartbeats 4000000 in
theorem impFold_any {w : World} {gf : Nat} {lb : Array Value} (zs : List (BtAt w)) {Sp : List (BtAt w) → Prop} {N : Nat}
    (hseq : ∀ w0, Below w.heap.size w w0 → SeqStopsK Fence.wide 5 Try.prog gf lb (fun x : BtAt w => #[x.1.1]) (Below w.heap.size) (fun ys => ys = zs) Sp N w0) (eg : ∀ args w, (callFunc gf args).run Try.prog w = .ok (.enter gf args) w) :
    Calls Try.prog 14 #[.func (.func gf) #[] lb] w fun e w' => ∃ v', e = .returned v' ∧ BtO w' w.heap.size v' (Bt.all (zs.map (·.1.2))) ∧ Fr [] w w' := by
  refine (callsIn_wide (n := 6)).1 ?_
  refine callsIn_of_wp_marks Try.func14 rfl trivial ?_ rfl
  simp only [Try.ntmps14, List.size_toArray, List.length_cons, List.length_nil, Nat.reduceAdd, Nat.reduceSub, Array.replicate_succ, Array.replicate_zero, List.push_toArray, List.append_toArray, List.nil_append, List.cons_append]
  obtain ⟨w1, e1, hF1, hB1, hB2, hs1⟩ := two_new w (bc Bt.zero (.slice none 0 0)) 28 (bc Bt.zero (.slice none 0 0)) 28
  have HB1 := Lib.hid hB1; have HB2 := Lib.hid hB2
  have HF1 := Lib.hid hF1
  have E1 := Lib.hid e1
  have hW1 := hs1
  clear hB1 hB2 hF1 hs1 e1
  gi_wp2
  first | rw [E1.out] | (have := E1.out; simp only [bc_zero] at this; rw [this]; clear this)
  clear E1
  refine wpIn_rangeFunc_ownH rfl (by omega) (gf := gf) (lb := lb) rfl trivial eg
    (hseq w1 HF1.out.below) belowK_t (belowK_b (by omega)) (Below.refl _ _) (fun _ => rfl)
    (fun pre W => (Box W w.heap.size 28 (bc Bt.zero (.slice none 0 0)) ∧ ∃ v, Box W (w.heap.size + 1) 28 (bc (Bt.all (pre.map (·.1.2))) v) ∧ OwnB W (w.heap.size + 2) v (Bt.all (pre.map (·.1.2))).body) ∧ Below w.heap.size w W)
    (fun _ _ _ => False)
    (OwnFrom.and (fun s A B row hs hg hr => by
      obtain ⟨h0, v, h1, h2⟩ := hs
      have hr' := fun r e => (hr r e).2
      exact ⟨h0.other hg hr', v, h1.other hg hr', h2.other hg hr'⟩) (ownFrom_below (Nat.le_refl _) (by omega)))
    (fun _ _ _ _ _ hs _ _ => hs)
    ⟨⟨HB1.out, _, HB2.out, World.ownsRow_nil _ _ _ _⟩, HF1.out.below⟩
    (fun x a' W => ∃ Bx vb, w.heap.size + 2 ≤ Bx ∧ x.1.1 = .agg (bc x.1.2 vb) ∧ Bytes w vb x.1.2.body ∧ Box W Bx 28 (bc x.1.2 vb) ∧ a' = { tmps := #[.func (.func gf) #[] lb, undef, .pointer (some ⟨w.heap.size, 0, none⟩), .pointer (some ⟨w.heap.size + 1, 0, none⟩), .pointer (some ⟨Bx, 0, none⟩), .func (.func gf) #[] lb, x.1.1, undef, undef, undef, undef], defers := [] })
    (fun x a' s A B row hs hg hr => by
      obtain ⟨Bx, vb, h1, h2, h3, h4, h5⟩ := hs
      exact ⟨Bx, vb, h1, h2, h3, h4.other hg (fun r e => (hr r e).2), h5⟩)
    ?assign ?body ?done ?stop
  case assign =>
    rintro l pre x W K ⟨⟨h0, v, h1, h2⟩, hB⟩ hK
    obtain ⟨vb, ev, hb⟩ := x.2.1
    have hone : ∀ u ∈ (bc x.1.2 vb).toList, u.oneCell' = true := by
      obtain ⟨a, c, rfl⟩ := Sl.shape hb
      simp [bc, Value.oneCell']
    have EV := Lib.hid ev
    clear ev
    gi_wp2_with (refine wpListIn_store_row rfl 28 (.tmp 4) (.tmp 6) rfl W.heap.size rfl _ (bc x.1.2 vb) EV.out 28 (Box.new W 28 (bc Bt.zero (.slice none 0 0))) (by kernel_rfl) rfl hone ?_; intro w2 hY hG)
    have hF2 : Fr [] W w2 := ((Fr.refl [] W).alloc _).step hG (by simp)
    exact hK _ _ ((hF2.keepsOthers (by simp)).from _) (hF2.below.mono hB.size) ⟨⟨h0.keep hF2, v, h1.keep hF2, h2.keep hF2⟩, hB.trans (hF2.below.mono hB.size)⟩
      ⟨W.heap.size, vb, by have := h1.lt; omega, EV.out, hb, hY, rfl⟩
  case body =>
    rintro l pre x a' W hl ⟨r, hr⟩ ⟨⟨h0, v, h1, h2⟩, hB⟩ ⟨Bx, vb, hBx, ev, hb, hbx, rfl⟩ hlt
    have hone : ∀ u ∈ (bc x.1.2 vb).toList, u.oneCell' = true := by
      obtain ⟨a, c, rfl⟩ := Sl.shape hb
      simp [bc, Value.oneCell']
    have hcall := CallsIn.inRound l ((callsIn_wide (n := 3)).2 (impAdd_any (w := W) (x := Bt.all (pre.map (·.1.2))) (y := x.1.2) ⟨v, rfl, h2.bytes⟩ ⟨vb, rfl, Sl.keep hb (Fr.ofBelow hB)⟩ (bt_all_len pre) x.2.2))
    gi_wp2_with (first | (refine wpListIn_load_row rfl 28 (.tmp 3) rfl (w.heap.size + 1) rfl 28 _ _ h1 Try.underlying28 rfl (by kernel_rfl) ?_) | (refine wpListIn_load_row rfl 28 (.tmp 4) rfl Bx rfl 28 _ _ hbx Try.underlying28 rfl (by kernel_rfl) ?_) | (refine ⟨trivial, ?_⟩; gi_at_call 20; refine hcall.mono ?_; rintro e W2 ⟨v', rfl, ⟨vo, rfl, hO⟩, hF2⟩) | (refine wpListIn_store_row rfl 28 (.tmp 3) (.tmp 9) rfl (w.heap.size + 1) rfl _ (bc ((Bt.all (pre.map (·.1.2))).add x.1.2) vo) rfl 28 (h1.keep hF2) (by kernel_rfl) rfl (by obtain ⟨a, c, rfl⟩ := Sl.shape hO.bytes; simp [bc, Value.oneCell']) ?_; intro W3 hY hG))
    have hF3 : Fr [w.heap.size + 1] W W3 := hF2.any.trans hG
    have hB3 : Below w.heap.size W W3 := hF3.belowOf (by simp) hB.size
    refine ⟨(hF3.keepsOthers (fun g hg o ho => ?_)).from _, hB3, ⟨(h0.fr hF3 (by simp)), vo, ?_, ?_⟩, hB.trans hB3⟩
    · simp at hg
      subst hg
      have hb1 := h1
      unfold Box at hb1
      rw [hb1] at ho; cases ho; rfl
    · rw [List.map_append, List.map_cons, List.map_nil, bt_all_snoc]; exact hY
    · rw [List.map_append, List.map_cons, List.map_nil, bt_all_snoc]
      exact (hO.fr hG (fun b hb hm => by have := (hO.block b hb).1; have := h1.lt; simp at hm; omega)).mono (by have := h1.lt; omega)
  case done =>
    rintro D ys W hD rfl ⟨⟨h0, v, h1, h2⟩, hB⟩ hK
    gi_wp2_with (first | (refine wpListIn_load_row rfl 28 (.tmp 3) rfl (w.heap.size + 1) rfl 28 _ _ h1 Try.underlying28 rfl (by kernel_rfl) ?_) | (refine wpListIn_store_row rfl 28 (.tmp 2) (.tmp 10) rfl w.heap.size rfl _ (bc (Bt.all (ys.map (·.1.2))) v) rfl 28 h0 (by kernel_rfl) rfl (by obtain ⟨a, c, rfl⟩ := Sl.shape h2.bytes; simp [bc, Value.oneCell']) ?_; intro W2 hY hG))
    have hDl : D < W.heap.size := (Array.getElem?_eq_some_iff.1 hK).1
    have hDn : D ≠ w.heap.size := by omega
    have hK2 : W2.heap[D]? = some (.deferred (some [])) := (hG.block D hDl (by simp; omega)).trans hK
    refine ⟨by simp, .inl ⟨_, _, rfl, run_takeDeferred hK2, ?_⟩⟩
    have hFD : Fr [D] W2 (W2.putObj D (.deferred none)) := Fr.ofGrown (grownBy_putObj' W2 D _)
    have hr0 : ∀ r, some D = some r → ∃ o : Obj, W2.heap[r]? = some o ∧ o.isCells = false := fun r e => by cases e; exact ⟨_, hK2, rfl⟩
    have hY2 := hY.other (grownBy_putObj' W2 D (.deferred none)) hr0
    have hO2 := (h2.fr hG (fun b hb hm => by have := (h2.block b hb).1; simp at hm; omega)).other (grownBy_putObj' W2 D (.deferred none)) hr0
    exact ⟨_, results_cell_row rfl _ _ w.heap.size 28 _ (0, 0) _ rfl hY2 Try.underlying28 rfl (by kernel_rfl), _, rfl, ⟨v, rfl, hO2.mono (by omega)⟩, ((Fr.ofBelow hB).step hG (fun g hg => .inr (by simp at hg; omega))).step hFD (fun g hg => .inr (by simp at hg; omega))⟩
  case stop =>
    rintro D c pre W _ _ h _
    exact h.elim
end Go.Proofs.Ytchbgiindfoepaa
