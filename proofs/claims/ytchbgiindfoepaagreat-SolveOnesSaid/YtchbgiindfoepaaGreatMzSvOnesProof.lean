/- PROVED: for every repair, every source and all lists of byte slices, confluxlaw14.SolveOnes returns true: One, Check and Count return the result of the reference. No conditions. -/
import Derived.Test.YtchbgiindfoepaaGreatMz26
import Derived.Test.YtchbgiindfoepaaGreatMz24
import Derived.Test.YtchbgiindfoepaaGreatMzSvOnes
import Derived.Test.YtchbgiindfoepaaGreatMz35
namespace Go.Proofs.YtchbgiindfoepaaGreat
open Go.RowKit Go.ChangeShapes Go.WideShapes Go.ChangeAt

set_option maxRecDepth 100000 in
theorem open_rows_arg {H : Type} {enc : TypeId × Value → H} {w : World} {base b0 : Nat} {v : Value} {d : DataW H} {ps : List MemPlace} (hok : Value.okWide Tryz.prog w .any b0 29 v) (h : DataW.Trod enc Tryz.prog w base (fun _ => true) true 29 v d ps) : ∃ l : List (List UInt8), BRows w v l := by
  obtain ⟨a, len, cap, rfl⟩ := okWide_slice Tryz.underlying29 hok
  obtain ⟨fuel, hf⟩ := h
  exact open_u8rows hf

set_option maxRecDepth 100000 in
theorem solveOnes_lifted (os : Os) (started : os.Started) (H : Type) (enc : TypeId × Value → H) :
    ReturnsInHanded {} Tryz.checked os 3 .any (Rows.solveOnesSpec.pre6 enc Tryz.prog Tryz.f3 Rows.solveOnesRow.domain false) (Rows.solveOnesSpec.post enc Tryz.prog Tryz.f3 false true false false) := by
  refine returnsInHanded_of_change (C := Tryz.checked) own started (by kernel_rfl) Tryz.func3
    (ChangeSpec.witness6 (enc := enc) (C := Tryz.checked) false ⟨#[], #[.agg #[.int .u8 0, .int .u8 0, .int .u8 0, .int .u8 0, .int .u8 0, .int .u8 0, .int .u8 0, .int .u8 0, .int .u16 0, .int .u64 0, .int .u64 0, .slice none 0 0], .int .u32 0, .slice none 0 0], []⟩ 8 (by kernel_rfl) (by kernel_rfl) (by kernel_rfl) (by kernel_rfl)) ?_
  intro W base args ds gs before hval0 hW hcnd _
  have hval : ∀ (j : Nat) t v, Tryz.f3.params[j]? = some t → args[j]? = some v → Value.okWide Tryz.prog W .any base t v := hval0
  have hW' := hW
  have hlt := hW.lt
  obtain ⟨p, q, hA0, hV, rfl, hfz, hnd⟩ := hW
  have hA : DataW.TrodAll enc Tryz.prog W 0 (fun _ => true) true Tryz.f3.params.toList args.toList ds p := hA0
  rw [Tryz.params3] at hA hval
  obtain ⟨v0, vs0, d0, ds0, p0, q0, hargs, rfl, rfl, h0, r0⟩ := trodAll_cons hA
  obtain ⟨v1, vs1, d1, ds1, p1, q1, rfl, rfl, rfl, h1, r1⟩ := trodAll_cons r0
  obtain ⟨v2, vs2, d2, ds2, p2, q2, rfl, rfl, rfl, h2, r2⟩ := trodAll_cons r1
  obtain ⟨rfl, rfl, rfl⟩ := trodAll_nil r2
  obtain rfl : args = #[v0, v1, v2] := by cases args; simp_all
  obtain ⟨rfl, rfl⟩ := trodVars_none hV
  obtain ⟨x0, hx0⟩ := open_rep_arg (hval 0 27 v0 rfl rfl) h0
  obtain ⟨n1, rfl, rfl, rfl, w1⟩ := open_int Tryz.underlying28 (hval 1 28 v1 rfl rfl) h1
  obtain ⟨x2, hx2⟩ := open_rows_arg (hval 2 29 v2 rfl rfl) h2
  clear hA0 hval0
  simp only [List.append_nil] at hW' hlt
  have b1 := wf_u32 w1
  have e1 : (((UInt32.ofNat n1.toNat).toNat : Nat) : Int) = n1 := by rw [UInt32.toNat_ofNat']; omega
  have hR := SolveOnes_any hx0 (UInt32.ofNat n1.toNat) hx2
  rw [e1] at hR
  refine hR.mono fun e W' ⟨he, hF⟩ => ?_
  subst he
  refine ⟨_, rfl, post_true (pa := p0 ++ ([] ++ (p2 ++ ([])))) rfl hW' rfl rfl rfl ?_ hF⟩
  exact (trodAll_cons_mk (Below.trod laidOut (by kernel_rfl) (of_decide_eq_true (by kernel_rfl)) h0 hF.below (fun x hx => hlt x (by simp [hx]))) (trodAll_cons_mk (shut_int Tryz.underlying28 w1) (trodAll_cons_mk (Below.trod laidOut (by kernel_rfl) (of_decide_eq_true (by kernel_rfl)) h2 hF.below (fun x hx => hlt x (by simp [hx]))) trodAll_mk0)))

theorem solveOnes_holds : Rows.SolveOnesSaid :=
  OpenClaim.holds_of_wide 3 Tryz.f3 rfl rfl rfl rfl rfl rfl rfl ⟨rfl, rfl, rfl, rfl, rfl⟩ rfl rfl rfl rfl rfl (by kernel_rfl) Tryz.func3 (by kernel_rfl)
    (of_decide_eq_true (by kernel_rfl)) (by unfold Func.isWrapper; first | (rw [if_pos (by decide +kernel)]; kernel_rfl) | (rw [if_neg (by decide +kernel)]; exact ⟨rfl, rfl⟩))
    (fun os started H enc _ => solveOnes_lifted os started H enc)
#print axioms solveOnes_holds
end Go.Proofs.YtchbgiindfoepaaGreat
