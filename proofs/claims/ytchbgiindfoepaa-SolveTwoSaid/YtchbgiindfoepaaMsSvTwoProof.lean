/- PROVED: for all lists of byte slices, every two lists of places and every place, confluxlaw14.SolveTwo returns true: two repairs that protect a packet recover the same bytes. No conditions. -/
import Derived.Test.YtchbgiindfoepaaMs25
import Derived.Test.YtchbgiindfoepaaMs23
import Derived.Test.YtchbgiindfoepaaMsSvTwo
namespace Go.Proofs.Ytchbgiindfoepaa
open Go.RowKit Go.ChangeShapes Go.WideShapes Go.ChangeAt

set_option maxRecDepth 100000 in
theorem open_rows_arg {H : Type} {enc : TypeId × Value → H} {w : World} {base b0 : Nat} {v : Value} {d : DataW H} {ps : List MemPlace} (hok : Value.okWide Try.prog w .any b0 22 v) (h : DataW.Trod enc Try.prog w base (fun _ => true) true 22 v d ps) : ∃ l : List (List UInt8), BRows w v l := by
  obtain ⟨a, len, cap, rfl⟩ := okWide_slice Try.underlying22 hok
  obtain ⟨fuel, hf⟩ := h
  exact open_u8rows hf

set_option maxRecDepth 100000 in
theorem open_ints' {H : Type} {enc : TypeId × Value → H} {w : World} {base : Nat} {fuel : Nat} {v : Value} {x : DataW H × List MemPlace} (h : DataW.trod enc Try.prog w base (fun _ => true) true fuel 53 [v] = some x) : ∃ l : List Int, Ints w v l :=
  open_nums (fun n => n) (Value.int .i64) (fun n _ => rfl) Try.underlying53 Try.underlying3 (by kernel_rfl) h
set_option maxRecDepth 100000 in
theorem open_ints_arg {H : Type} {enc : TypeId × Value → H} {w : World} {base b0 : Nat} {v : Value} {d : DataW H} {ps : List MemPlace} (hok : Value.okWide Try.prog w .any b0 53 v) (h : DataW.Trod enc Try.prog w base (fun _ => true) true 53 v d ps) : ∃ l : List Int, Ints w v l := by
  obtain ⟨a, len, cap, rfl⟩ := okWide_slice Try.underlying53 hok
  obtain ⟨fuel, hf⟩ := h
  exact open_ints' hf
set_option maxRecDepth 100000 in
theorem solveTwo_lifted (os : Os) (started : os.Started) (H : Type) (enc : TypeId × Value → H) :
    ReturnsInHanded {} Try.checked os 11 .any (Rows.solveTwoSpec.pre6 enc Try.prog Try.f11 Rows.solveTwoRow.domain false) (Rows.solveTwoSpec.post enc Try.prog Try.f11 false true false false) := by
  refine returnsInHanded_of_change (C := Try.checked) own started (by kernel_rfl) Try.func11
    (ChangeSpec.witness6 (enc := enc) (C := Try.checked) false ⟨#[], #[.slice none 0 0, .slice none 0 0, .slice none 0 0, .int .i64 0], []⟩ 8 (by kernel_rfl) (by kernel_rfl) (by kernel_rfl) (by kernel_rfl)) ?_
  intro W base args ds gs before hval0 hW hcnd _
  have hval : ∀ (j : Nat) t v, Try.f11.params[j]? = some t → args[j]? = some v → Value.okWide Try.prog W .any base t v := hval0
  have hW' := hW
  have hlt := hW.lt
  obtain ⟨p, q, hA0, hV, rfl, hfz, hnd⟩ := hW
  have hA : DataW.TrodAll enc Try.prog W 0 (fun _ => true) true Try.f11.params.toList args.toList ds p := hA0
  rw [Try.params11] at hA hval
  obtain ⟨v0, vs0, d0, ds0, p0, q0, hargs, rfl, rfl, h0, r0⟩ := trodAll_cons hA
  obtain ⟨v1, vs1, d1, ds1, p1, q1, rfl, rfl, rfl, h1, r1⟩ := trodAll_cons r0
  obtain ⟨v2, vs2, d2, ds2, p2, q2, rfl, rfl, rfl, h2, r2⟩ := trodAll_cons r1
  obtain ⟨v3, vs3, d3, ds3, p3, q3, rfl, rfl, rfl, h3, r3⟩ := trodAll_cons r2
  obtain ⟨rfl, rfl, rfl⟩ := trodAll_nil r3
  obtain rfl : args = #[v0, v1, v2, v3] := by cases args; simp_all
  obtain ⟨rfl, rfl⟩ := trodVars_none hV
  obtain ⟨x0, hx0⟩ := open_rows_arg (hval 0 22 v0 rfl rfl) h0
  obtain ⟨x1, hx1⟩ := open_ints_arg (hval 1 53 v1 rfl rfl) h1
  obtain ⟨x2, hx2⟩ := open_ints_arg (hval 2 53 v2 rfl rfl) h2
  obtain ⟨n3, rfl, rfl, rfl, w3⟩ := open_int Try.underlying3 (hval 3 3 v3 rfl rfl) h3
  clear hA0 hval0
  simp only [List.append_nil] at hW' hlt
  have hR := SolveTwo_any hx0 hx1 hx2 n3
  refine hR.mono fun e W' ⟨he, hF⟩ => ?_
  subst he
  refine ⟨_, rfl, post_true (pa := p0 ++ (p1 ++ (p2 ++ ([] ++ ([]))))) rfl hW' rfl rfl rfl ?_ hF⟩
  exact (trodAll_cons_mk (Below.trod laidOut (by kernel_rfl) (of_decide_eq_true (by kernel_rfl)) h0 hF.below (fun x hx => hlt x (by simp [hx]))) (trodAll_cons_mk (Below.trod laidOut (by kernel_rfl) (of_decide_eq_true (by kernel_rfl)) h1 hF.below (fun x hx => hlt x (by simp [hx]))) (trodAll_cons_mk (Below.trod laidOut (by kernel_rfl) (of_decide_eq_true (by kernel_rfl)) h2 hF.below (fun x hx => hlt x (by simp [hx]))) (trodAll_cons_mk (shut_int Try.underlying3 w3) trodAll_mk0))))

theorem solveTwo_holds : Rows.SolveTwoSaid :=
  OpenClaim.holds_of_wide 11 Try.f11 rfl rfl rfl rfl rfl rfl rfl ⟨rfl, rfl, rfl, rfl, rfl⟩ rfl rfl rfl rfl rfl (by kernel_rfl) Try.func11 (by kernel_rfl)
    (of_decide_eq_true (by kernel_rfl)) (by unfold Func.isWrapper; first | (rw [if_pos (by decide +kernel)]; kernel_rfl) | (rw [if_neg (by decide +kernel)]; exact ⟨rfl, rfl⟩))
    (fun os started H enc _ => solveTwo_lifted os started H enc)
#print axioms solveTwo_holds
end Go.Proofs.Ytchbgiindfoepaa
