import Derived.OpenShut
import Derived.Test.YtngfenjekgdfbaaMu15
/- The arguments of the laws of package confluxlaw18, opened. -/
namespace Go.Proofs.Ytngfenjekgdfbaa
open Go.RowKit Go.ChangeShapes Go.WideShapes Go.Deep

theorem wf_u64' {n : Int} (h : (Lit.int .u64 n).wf = true) : 0 ≤ n ∧ n < 18446744073709551616 := by
  simp [Lit.wf, IntKind.min, IntKind.max, IntKind.signed, IntKind.bits] at h; omega
theorem wf_i64' {n : Int} (h : (Lit.int .i64 n).wf = true) : In64 n := by
  simp [Lit.wf, IntKind.min, IntKind.max, IntKind.signed, IntKind.bits] at h; exact ⟨by omega, by omega⟩
section
variable {H : Type} {enc : TypeId × Value → H} {w : World} {base b0 : Nat}
set_option maxRecDepth 100000 in
theorem open_in64 {fuel : Nat} {v : Value} {x : DataW H × List MemPlace} (h : DataW.trod enc Try.prog w base (fun _ => true) true fuel 33 [v] = some x) : ∃ l : List Int, Ints w v l ∧ ∀ x ∈ l, In64 x := by
  obtain ⟨ys, vs, h1, h2, h3⟩ := open_list (fun _ u (a : Int) => u = .int .i64 a ∧ In64 a) Try.underlying33 (by kernel_rfl) (fun n u y hy => by
    obtain ⟨z, q, -, r⟩ := DataW.trod_int Try.underlying3 hy
    simp only [List.cons.injEq, and_true] at q
    exact ⟨z, q, wf_i64' r⟩) h
  refine ⟨ys, ?_, ?_⟩
  · have : vs = ys.map (Value.int .i64) := by
      apply List.ext_getElem?
      intro i
      rw [List.getElem?_map]
      by_cases hi : i < vs.length
      · have e1 : vs[i]? = some vs[i] := List.getElem?_eq_getElem hi
        have e2 : ys[i]? = some (ys[i]'(by omega)) := List.getElem?_eq_getElem (by omega)
        rw [e1, e2, (h3 i _ _ e1 e2).1]
        rfl
      · rw [List.getElem?_eq_none (by omega), List.getElem?_eq_none (by omega)]
        rfl
    unfold Ints
    rw [← this]
    exact h1
  · intro x hx
    obtain ⟨i, hi, rfl⟩ := List.getElem_of_mem hx
    exact (h3 i _ _ (List.getElem?_eq_getElem (by omega)) (List.getElem?_eq_getElem hi)).2
set_option maxRecDepth 100000 in
theorem open_irows {fuel : Nat} {v : Value} {x : DataW H × List MemPlace} (h : DataW.trod enc Try.prog w base (fun _ => true) true fuel 27 [v] = some x) : ∃ s : List (List Int), IRows w v s ∧ ∀ r ∈ s, ∀ x ∈ r, In64 x := by
  obtain ⟨ys, vs, h1, h2, h3⟩ := open_list (fun w u (a : List Int) => Ints w u a ∧ ∀ x ∈ a, In64 x) Try.underlying27 (by kernel_rfl) (fun n u y hy => open_in64 hy) h
  refine ⟨ys, ⟨vs, h1, h2, fun i x a hx ha => (h3 i x a hx ha).1⟩, ?_⟩
  intro r hr
  obtain ⟨i, hi, rfl⟩ := List.getElem_of_mem hr
  exact (h3 i _ _ (List.getElem?_eq_getElem (by omega)) (List.getElem?_eq_getElem hi)).2
theorem open_irows_arg {v : Value} {d : DataW H} {ps : List MemPlace} (hok : Value.okWide Try.prog w .any b0 27 v) (h : DataW.Trod enc Try.prog w base (fun _ => true) true 27 v d ps) : ∃ s : List (List Int), IRows w v s ∧ ∀ r ∈ s, ∀ x ∈ r, In64 x := by
  obtain ⟨a, len, cap, rfl⟩ := okWide_slice Try.underlying27 hok
  obtain ⟨fuel, hf⟩ := h
  exact open_irows hf
end
end Go.Proofs.Ytngfenjekgdfbaa
