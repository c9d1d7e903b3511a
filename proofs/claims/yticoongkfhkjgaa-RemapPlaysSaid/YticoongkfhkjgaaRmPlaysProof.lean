/- PROVED: confluxlaw23.RemapPlays returns true for all sources, kinds, numbers, times, steps and rows of operations, and what its arguments hold is as it was. Conditions: none. -/
import Derived.Test.YticoongkfhkjgaaRowEnd
import Derived.Test.YticoongkfhkjgaaRows2
import Derived.Test.YticoongkfhkjgaaRmPlays
namespace Go.Proofs.Yticoongkfhkjgaa
open Go.RowKit Go.ChangeShapes Go.WideShapes Go.ChangeAt

set_option maxRecDepth 100000 in
theorem open_ops_arg {H : Type} {enc : TypeId × Value → H} {w : World} {base b0 : Nat} {v : Value} {d : DataW H} {ps : List MemPlace} (hok : Value.okWide Try.prog w .any b0 83 v) (h : DataW.Trod enc Try.prog w base (fun _ => true) true 83 v d ps) : ∃ l : List (Bool × List UInt8), Ops23 w v l := by
  obtain ⟨a, len, cap, rfl⟩ := okWide_slice Try.underlying83 hok
  obtain ⟨fuel, hf⟩ := h
  exact open_ops23 hf

set_option maxRecDepth 100000 in
theorem remapPlays_lifted (os : Os) (started : os.Started) (H : Type) (enc : TypeId × Value → H) :
    ReturnsInHanded {} Try.checked os 11 .any (Rows.remapPlaysSpec.pre6 enc Try.prog Try.f11 Rows.remapPlaysRow.domain false) (Rows.remapPlaysSpec.post enc Try.prog Try.f11 false true false false) := by
  refine returnsInHanded_of_change (C := Try.checked) own started (by kernel_rfl) Try.func11
    (ChangeSpec.witness6 (enc := enc) (C := Try.checked) false ⟨#[], #[.int .u32 0, .int .i64 0, .int .u16 0, .int .u32 0, .int .i64 0, .slice none 0 0], []⟩ 8 (by kernel_rfl) (by kernel_rfl) (by kernel_rfl) (by kernel_rfl)) ?_
  intro W base args ds gs before hval0 hW hcnd _
  have hval : ∀ (j : Nat) t v, Try.f11.params[j]? = some t → args[j]? = some v → Value.okWide Try.prog W .any base t v := hval0
  have hW' := hW
  have hlt := hW.lt
  obtain ⟨p, q, hA0, hV, rfl, hfz, hnd⟩ := hW
  have hA : DataW.TrodAll enc Try.prog W 0 (fun _ => true) true Try.f11.params.toList args.toList ds p := hA0
  rw [Try.params11] at hA hval
  obtain ⟨v0, vs0, d0, ds0, p0, q0, hargs, rfl, rfl, h0, r0⟩ := trodAll_cons hA
  obtain ⟨v1, vs1, d1, ds1, p1, q1, rfl, rfl, rfl, h1, r1⟩ := trodAll_cons r0
  obtain ⟨v2, vs2, d2, ds2, p2, q2, rfl, rfl, rfl, h2, r2⟩ := trodAll_cons r1
  obtain ⟨v3, vs3, d3, ds3, p3, q3, rfl, rfl, rfl, h3, r3⟩ := trodAll_cons r2
  obtain ⟨v4, vs4, d4, ds4, p4, q4, rfl, rfl, rfl, h4, r4⟩ := trodAll_cons r3
  obtain ⟨v5, vs5, d5, ds5, p5, q5, rfl, rfl, rfl, h5, r5⟩ := trodAll_cons r4
  obtain ⟨rfl, rfl, rfl⟩ := trodAll_nil r5
  obtain rfl : args = #[v0, v1, v2, v3, v4, v5] := by cases args; simp_all
  obtain ⟨rfl, rfl⟩ := trodVars_none hV
  obtain ⟨n0, rfl, rfl, rfl, w0⟩ := open_int Try.underlying40 (hval 0 40 v0 rfl rfl) h0
  obtain ⟨n1, rfl, rfl, rfl, w1⟩ := open_int Try.underlying3 (hval 1 3 v1 rfl rfl) h1
  obtain ⟨n2, rfl, rfl, rfl, w2⟩ := open_int Try.underlying39 (hval 2 39 v2 rfl rfl) h2
  obtain ⟨n3, rfl, rfl, rfl, w3⟩ := open_int Try.underlying40 (hval 3 40 v3 rfl rfl) h3
  obtain ⟨n4, rfl, rfl, rfl, w4⟩ := open_int Try.underlying2 (hval 4 2 v4 rfl rfl) h4
  obtain ⟨x5, hx5⟩ := open_ops_arg (hval 5 83 v5 rfl rfl) h5
  clear hA0 hval0
  simp only [List.append_nil] at hW' hlt
  have b0 := wf_u32 w0
  have e0 : (((UInt32.ofNat n0.toNat).toNat : Nat) : Int) = n0 := by rw [UInt32.toNat_ofNat']; omega
  have b2 := wf_u16 w2
  have e2 : (((UInt16.ofNat n2.toNat).toNat : Nat) : Int) = n2 := by rw [UInt16.toNat_ofNat']; omega
  have b3 := wf_u32 w3
  have e3 : (((UInt32.ofNat n3.toNat).toNat : Nat) : Int) = n3 := by rw [UInt32.toNat_ofNat']; omega
  have hR := RemapPlays_any (UInt32.ofNat n0.toNat) n1 (UInt16.ofNat n2.toNat) (UInt32.ofNat n3.toNat) n4 hx5
  rw [e0, e2, e3] at hR
  refine hR.mono fun e W' ⟨he, hF⟩ => ?_
  subst he
  refine ⟨_, rfl, post_true (pa := [] ++ ([] ++ ([] ++ ([] ++ ([] ++ (p5 ++ ([]))))))) rfl hW' rfl rfl rfl ?_ hF⟩
  exact (trodAll_cons_mk (shut_int Try.underlying40 w0) (trodAll_cons_mk (shut_int Try.underlying3 w1) (trodAll_cons_mk (shut_int Try.underlying39 w2) (trodAll_cons_mk (shut_int Try.underlying40 w3) (trodAll_cons_mk (shut_int Try.underlying2 w4) (trodAll_cons_mk (Below.trod laidOut (by kernel_rfl) (of_decide_eq_true (by kernel_rfl)) h5 hF.below (fun x hx => hlt x (by simp [hx]))) trodAll_mk0))))))

theorem remapPlays_holds : Rows.RemapPlaysSaid :=
  OpenClaim.holds_of_wide 11 Try.f11 rfl rfl rfl rfl rfl rfl rfl ⟨rfl, rfl, rfl, rfl, rfl⟩ rfl rfl rfl rfl rfl (by kernel_rfl) Try.func11 (by kernel_rfl)
    (of_decide_eq_true (by kernel_rfl)) (by unfold Func.isWrapper; first | (rw [if_pos (by decide +kernel)]; kernel_rfl) | (rw [if_neg (by decide +kernel)]; exact ⟨rfl, rfl⟩))
    (fun os started H enc _ => remapPlays_lifted os started H enc)
#print axioms remapPlays_holds
end Go.Proofs.Yticoongkfhkjgaa
