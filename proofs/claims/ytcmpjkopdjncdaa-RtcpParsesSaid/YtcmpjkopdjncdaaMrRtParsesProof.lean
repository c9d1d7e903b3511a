/- PROVED: confluxlaw07.RtcpParses returns true for all bytes, and what its argument holds is as it was. Conditions: none. -/
import Derived.Test.YtcmpjkopdjncdaaMr24
import Derived.Test.YtcmpjkopdjncdaaMr23
import Derived.Test.YtcmpjkopdjncdaaMrRtParses
namespace Go.Proofs.Ytcmpjkopdjncdaa
open Go.RowKit Go.ChangeShapes Go.WideShapes Go.ChangeAt

set_option maxRecDepth 100000 in
theorem open_bytes_arg {H : Type} {enc : TypeId × Value → H} {w : World} {base b0 : Nat} {v : Value} {d : DataW H} {ps : List MemPlace} (hok : Value.okWide Try.prog w .any b0 22 v) (h : DataW.Trod enc Try.prog w base (fun _ => true) true 22 v d ps) : ∃ l : List UInt8, Bytes w v l := by
  obtain ⟨a, len, cap, rfl⟩ := okWide_slice Try.underlying22 hok
  obtain ⟨fuel, hf⟩ := h
  exact open_u8s' hf
set_option maxRecDepth 100000 in
theorem rtcpParses_lifted (os : Os) (started : os.Started) (H : Type) (enc : TypeId × Value → H) :
    ReturnsInHanded {} Try.checked os 3 .any (Rows.rtcpParsesSpec.pre6 enc Try.prog Try.f3 Rows.rtcpParsesRow.domain false) (Rows.rtcpParsesSpec.post enc Try.prog Try.f3 false true false false) := by
  refine returnsInHanded_of_change (C := Try.checked) own started (by kernel_rfl) Try.func3
    (ChangeSpec.witness6 (enc := enc) (C := Try.checked) false ⟨#[], #[.slice none 0 0], []⟩ 8 (by kernel_rfl) (by kernel_rfl) (by kernel_rfl) (by kernel_rfl)) ?_
  intro W base args ds gs before hval0 hW hcnd _
  have hval : ∀ (j : Nat) t v, Try.f3.params[j]? = some t → args[j]? = some v → Value.okWide Try.prog W .any base t v := hval0
  have hW' := hW
  have hlt := hW.lt
  obtain ⟨p, q, hA0, hV, rfl, hfz, hnd⟩ := hW
  have hA : DataW.TrodAll enc Try.prog W 0 (fun _ => true) true Try.f3.params.toList args.toList ds p := hA0
  rw [Try.params3] at hA hval
  obtain ⟨v0, vs0, d0, ds0, p0, q0, hargs, rfl, rfl, h0, r0⟩ := trodAll_cons hA
  obtain ⟨rfl, rfl, rfl⟩ := trodAll_nil r0
  obtain rfl : args = #[v0] := by cases args; simp_all
  obtain ⟨rfl, rfl⟩ := trodVars_none hV
  obtain ⟨x0, hx0⟩ := open_bytes_arg (hval 0 22 v0 rfl rfl) h0
  clear hA0 hval0
  simp only [List.append_nil] at hW' hlt
  have hR := RtcpParses_any hx0
  refine hR.mono fun e W' ⟨he, hF⟩ => ?_
  subst he
  refine ⟨_, rfl, post_true (pa := p0 ++ ([])) rfl hW' rfl rfl rfl ?_ hF⟩
  exact (trodAll_cons_mk (Below.trod laidOut (by kernel_rfl) (of_decide_eq_true (by kernel_rfl)) h0 hF.below (fun x hx => hlt x (by simp [hx]))) trodAll_mk0)

theorem rtcpParses_holds : Rows.RtcpParsesSaid :=
  OpenClaim.holds_of_wide 3 Try.f3 rfl rfl rfl rfl rfl rfl rfl ⟨rfl, rfl, rfl, rfl, rfl⟩ rfl rfl rfl rfl rfl (by kernel_rfl) Try.func3 (by kernel_rfl)
    (of_decide_eq_true (by kernel_rfl)) (by unfold Func.isWrapper; first | (rw [if_pos (by decide +kernel)]; kernel_rfl) | (rw [if_neg (by decide +kernel)]; exact ⟨rfl, rfl⟩))
    (fun os started H enc _ => rtcpParses_lifted os started H enc)
#print axioms rtcpParses_holds
end Go.Proofs.Ytcmpjkopdjncdaa
