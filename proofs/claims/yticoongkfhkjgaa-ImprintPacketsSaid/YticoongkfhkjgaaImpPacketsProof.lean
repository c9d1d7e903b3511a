/- PROVED: confluxlaw12.ImprintPackets returns true for all imprints, numbers and sources, and what its arguments hold is as it was. Conditions: none. -/
import Derived.Test.YticoongkfhkjgaaRowEnd
import Derived.Test.YticoongkfhkjgaaRows2
import Derived.Test.YticoongkfhkjgaaImpPackets
import Derived.Test.YticoongkfhkjgaaOpenBt
namespace Go.Proofs.Yticoongkfhkjgaa
open Go.RowKit Go.ChangeShapes Go.WideShapes Go.ChangeAt

set_option maxRecDepth 100000 in
theorem imprintPackets_lifted (os : Os) (started : os.Started) (H : Type) (enc : TypeId × Value → H) :
    ReturnsInHanded {} Try.checked os 4 .any (Rows.imprintPacketsSpec.pre6 enc Try.prog Try.f4 Rows.imprintPacketsRow.domain false) (Rows.imprintPacketsSpec.post enc Try.prog Try.f4 false true false false) := by
  refine returnsInHanded_of_change (C := Try.checked) own started (by kernel_rfl) Try.func4
    (ChangeSpec.witness6 (enc := enc) (C := Try.checked) false ⟨#[], #[.agg #[.int .u8 0, .int .u8 0, .int .u8 0, .int .u8 0, .int .u8 0, .int .u8 0, .int .u8 0, .int .u8 0, .slice none 0 0], .agg #[.int .u8 0, .int .u8 0, .int .u8 0, .int .u8 0, .int .u8 0, .int .u8 0, .int .u8 0, .int .u8 0, .slice none 0 0], .int .u16 0, .int .u32 0], []⟩ 8 (by kernel_rfl) (by kernel_rfl) (by kernel_rfl) (by kernel_rfl)) ?_
  intro W base args ds gs before hval0 hW hcnd _
  have hval : ∀ (j : Nat) t v, Try.f4.params[j]? = some t → args[j]? = some v → Value.okWide Try.prog W .any base t v := hval0
  have hW' := hW
  have hlt := hW.lt
  obtain ⟨p, q, hA0, hV, rfl, hfz, hnd⟩ := hW
  have hA : DataW.TrodAll enc Try.prog W 0 (fun _ => true) true Try.f4.params.toList args.toList ds p := hA0
  rw [Try.params4] at hA hval
  obtain ⟨v0, vs0, d0, ds0, p0, q0, hargs, rfl, rfl, h0, r0⟩ := trodAll_cons hA
  obtain ⟨v1, vs1, d1, ds1, p1, q1, rfl, rfl, rfl, h1, r1⟩ := trodAll_cons r0
  obtain ⟨v2, vs2, d2, ds2, p2, q2, rfl, rfl, rfl, h2, r2⟩ := trodAll_cons r1
  obtain ⟨v3, vs3, d3, ds3, p3, q3, rfl, rfl, rfl, h3, r3⟩ := trodAll_cons r2
  obtain ⟨rfl, rfl, rfl⟩ := trodAll_nil r3
  obtain rfl : args = #[v0, v1, v2, v3] := by cases args; simp_all
  obtain ⟨rfl, rfl⟩ := trodVars_none hV
  obtain ⟨x0, hx0⟩ := open_bt (hval 0 27 v0 rfl rfl) h0
  obtain ⟨x1, hx1⟩ := open_bt (hval 1 27 v1 rfl rfl) h1
  obtain ⟨n2, rfl, rfl, rfl, w2⟩ := open_int Try.underlying39 (hval 2 39 v2 rfl rfl) h2
  obtain ⟨n3, rfl, rfl, rfl, w3⟩ := open_int Try.underlying40 (hval 3 40 v3 rfl rfl) h3
  clear hA0 hval0
  simp only [List.append_nil] at hW' hlt
  have b2 := wf_u16 w2
  have e2 : (((UInt16.ofNat n2.toNat).toNat : Nat) : Int) = n2 := by rw [UInt16.toNat_ofNat']; omega
  have b3 := wf_u32 w3
  have e3 : (((UInt32.ofNat n3.toNat).toNat : Nat) : Int) = n3 := by rw [UInt32.toNat_ofNat']; omega
  have hR := ImprintPackets_any hx0 hx1 (UInt16.ofNat n2.toNat) (UInt32.ofNat n3.toNat)
  rw [e2, e3] at hR
  refine hR.mono fun e W' ⟨he, hF⟩ => ?_
  subst he
  refine ⟨_, rfl, post_true (pa := p0 ++ (p1 ++ ([] ++ ([] ++ ([]))))) rfl hW' rfl rfl rfl ?_ hF⟩
  exact (trodAll_cons_mk (Below.trod laidOut (by kernel_rfl) (of_decide_eq_true (by kernel_rfl)) h0 hF.below (fun x hx => hlt x (by simp [hx]))) (trodAll_cons_mk (Below.trod laidOut (by kernel_rfl) (of_decide_eq_true (by kernel_rfl)) h1 hF.below (fun x hx => hlt x (by simp [hx]))) (trodAll_cons_mk (shut_int Try.underlying39 w2) (trodAll_cons_mk (shut_int Try.underlying40 w3) trodAll_mk0))))

theorem imprintPackets_holds : Rows.ImprintPacketsSaid :=
  OpenClaim.holds_of_wide 4 Try.f4 rfl rfl rfl rfl rfl rfl rfl ⟨rfl, rfl, rfl, rfl, rfl⟩ rfl rfl rfl rfl rfl (by kernel_rfl) Try.func4 (by kernel_rfl)
    (of_decide_eq_true (by kernel_rfl)) (by unfold Func.isWrapper; first | (rw [if_pos (by decide +kernel)]; kernel_rfl) | (rw [if_neg (by decide +kernel)]; exact ⟨rfl, rfl⟩))
    (fun os started H enc _ => imprintPackets_lifted os started H enc)
#print axioms imprintPackets_holds
end Go.Proofs.Yticoongkfhkjgaa
