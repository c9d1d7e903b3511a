/- PROVED: for all lists of byte slices and all shapes, confluxlaw13.ParityBlocks returns true: Block and Numbers return the result of the reference. No conditions. -/
import Derived.Test.YtchbgiindfoepaaMq26
import Derived.Test.YtchbgiindfoepaaMq24
import Derived.Test.YtchbgiindfoepaaMqBlocks13
namespace Go.Proofs.Ytchbgiindfoepaa
open Go.RowKit Go.ChangeShapes Go.WideShapes Go.ChangeAt

set_option maxRecDepth 100000 in
theorem open_rows_arg {H : Type} {enc : TypeId × Value → H} {w : World} {base b0 : Nat} {v : Value} {d : DataW H} {ps : List MemPlace} (hok : Value.okWide Try.prog w .any b0 22 v) (h : DataW.Trod enc Try.prog w base (fun _ => true) true 22 v d ps) : ∃ l : List (List UInt8), BRows w v l := by
  obtain ⟨a, len, cap, rfl⟩ := okWide_slice Try.underlying22 hok
  obtain ⟨fuel, hf⟩ := h
  exact open_u8rows hf

set_option maxRecDepth 100000 in
theorem open_ints' {H : Type} {enc : TypeId × Value → H} {w : World} {base : Nat} {fuel : Nat} {v : Value} {x : DataW H × List MemPlace} (h : DataW.trod enc Try.prog w base (fun _ => true) true fuel 53 [v] = some x) : ∃ l : List Int, Ints w v l :=
  open_nums (fun n => n) (Value.int .i64) (fun n _ => rfl) Try.underlying53 Try.underlying3 (by kernel_rfl) h
set_option maxRecDepth 100000 in
theorem open_ints_arg {H : Type} {enc : TypeId × Value → H} {w : World} {base b0 : Nat} {v : Value} {d : DataW H} {ps : List MemPlace} (hok : Value.okWide Try.prog w .any b0 53 v) (h : DataW.Trod enc Try.prog w base (fun _ => true) true 53 v d ps) : ∃ l : List Int, Ints w v l := by
  obtain ⟨a, len, cap, rfl⟩ := okWide_slice Try.underlying53 hok
  obtain ⟨fuel, hf⟩ := h
  exact open_ints' hf
set_option maxRecDepth 100000 in
theorem open_shape_arg {H : Type} {enc : TypeId × Value → H} {w : World} {base b0 : Nat} {v : Value} {d : DataW H} {ps : List MemPlace} (hok : Value.okWide Try.prog w .any b0 68 v) (h : DataW.Trod enc Try.prog w base (fun _ => true) true 68 v d ps) : ∃ l : List (List Int), SlOf Ints w v l := by
  obtain ⟨a, len, cap, rfl⟩ := okWide_slice Try.underlying68 hok
  obtain ⟨fuel, hf⟩ := h
  exact open_list Ints Try.underlying68 (by kernel_rfl) (fun _ _ _ hy => open_ints' hy) hf
set_option maxRecDepth 100000 in
theorem parityBlocks_lifted (os : Os) (started : os.Started) (H : Type) (enc : TypeId × Value → H) :
    ReturnsInHanded {} Try.checked os 5 .any (Rows.parityBlocksSpec.pre6 enc Try.prog Try.f5 Rows.parityBlocksRow.domain false) (Rows.parityBlocksSpec.post enc Try.prog Try.f5 false true false false) := by
  refine returnsInHanded_of_change (C := Try.checked) own started (by kernel_rfl) Try.func5
    (ChangeSpec.witness6 (enc := enc) (C := Try.checked) false ⟨#[], #[.slice none 0 0, .slice none 0 0], []⟩ 8 (by kernel_rfl) (by kernel_rfl) (by kernel_rfl) (by kernel_rfl)) ?_
  intro W base args ds gs before hval0 hW hcnd _
  have hval : ∀ (j : Nat) t v, Try.f5.params[j]? = some t → args[j]? = some v → Value.okWide Try.prog W .any base t v := hval0
  have hW' := hW
  have hlt := hW.lt
  obtain ⟨p, q, hA0, hV, rfl, hfz, hnd⟩ := hW
  have hA : DataW.TrodAll enc Try.prog W 0 (fun _ => true) true Try.f5.params.toList args.toList ds p := hA0
  rw [Try.params5] at hA hval
  obtain ⟨v0, vs0, d0, ds0, p0, q0, hargs, rfl, rfl, h0, r0⟩ := trodAll_cons hA
  obtain ⟨v1, vs1, d1, ds1, p1, q1, rfl, rfl, rfl, h1, r1⟩ := trodAll_cons r0
  obtain ⟨rfl, rfl, rfl⟩ := trodAll_nil r1
  obtain rfl : args = #[v0, v1] := by cases args; simp_all
  obtain ⟨rfl, rfl⟩ := trodVars_none hV
  obtain ⟨x0, hx0⟩ := open_rows_arg (hval 0 22 v0 rfl rfl) h0
  obtain ⟨x1, hx1⟩ := open_shape_arg (hval 1 68 v1 rfl rfl) h1
  clear hA0 hval0
  simp only [List.append_nil] at hW' hlt
  have hR := ParityBlocks_any hx0 hx1
  refine hR.mono fun e W' ⟨he, hF⟩ => ?_
  subst he
  refine ⟨_, rfl, post_true (pa := p0 ++ (p1 ++ ([]))) rfl hW' rfl rfl rfl ?_ hF⟩
  exact (trodAll_cons_mk (Below.trod laidOut (by kernel_rfl) (of_decide_eq_true (by kernel_rfl)) h0 hF.below (fun x hx => hlt x (by simp [hx]))) (trodAll_cons_mk (Below.trod laidOut (by kernel_rfl) (of_decide_eq_true (by kernel_rfl)) h1 hF.below (fun x hx => hlt x (by simp [hx]))) trodAll_mk0))

theorem parityBlocks_holds : Rows.ParityBlocksSaid :=
  OpenClaim.holds_of_wide 5 Try.f5 rfl rfl rfl rfl rfl rfl rfl ⟨rfl, rfl, rfl, rfl, rfl⟩ rfl rfl rfl rfl rfl (by kernel_rfl) Try.func5 (by kernel_rfl)
    (of_decide_eq_true (by kernel_rfl)) (by unfold Func.isWrapper; first | (rw [if_pos (by decide +kernel)]; kernel_rfl) | (rw [if_neg (by decide +kernel)]; exact ⟨rfl, rfl⟩))
    (fun os started H enc _ => parityBlocks_lifted os started H enc)
#print axioms parityBlocks_holds
end Go.Proofs.Ytchbgiindfoepaa
