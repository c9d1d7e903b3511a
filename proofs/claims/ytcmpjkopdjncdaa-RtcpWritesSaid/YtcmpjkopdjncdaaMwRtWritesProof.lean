/- PROVED: confluxlaw07.RtcpWrites returns true for all items and every item, and what its arguments hold is as it was. Conditions: none. -/
import Derived.Test.YtcmpjkopdjncdaaMw25
import Derived.Test.YtcmpjkopdjncdaaMw23
import Derived.Test.YtcmpjkopdjncdaaMwRtWrites
import Derived.Test.YtcmpjkopdjncdaaMw47
import Derived.Test.YtcmpjkopdjncdaaMw49
namespace Go.Proofs.Ytcmpjkopdjncdaa
open Go.RowKit Go.ChangeShapes Go.WideShapes Go.ChangeAt

set_option maxRecDepth 100000 in
theorem rtcpWrites_lifted (os : Os) (started : os.Started) (H : Type) (enc : TypeId × Value → H) :
    ReturnsInHanded {} Try.checked os 4 .any (Rows.rtcpWritesSpec.pre6 enc Try.prog Try.f4 Rows.rtcpWritesRow.domain false) (Rows.rtcpWritesSpec.post enc Try.prog Try.f4 false true false false) := by
  refine returnsInHanded_of_change_sized (C := Try.checked) own started (by kernel_rfl) Try.func4
    (ChangeSpec.witness6 (enc := enc) (C := Try.checked) false ⟨#[], #[.slice none 0 0, .agg #[.int .i64 0, .int .u32 0, .int .u64 0, .int .u32 0, .int .u32 0, .int .u32 0, .slice none 0 0, .slice none 0 0, .slice none 0 0, .string ⟨#[]⟩]], []⟩ 8 (by kernel_rfl) (by kernel_rfl) (by kernel_rfl) (by kernel_rfl)) ?_
  intro W base args ds gs before hval0 hW hcnd hsz _
  have hval : ∀ (j : Nat) t v, Try.f4.params[j]? = some t → args[j]? = some v → Value.okWide Try.prog W .any base t v := hval0
  have hW' := hW
  have hlt := hW.lt
  obtain ⟨p, q, hA0, hV, rfl, hfz, hnd⟩ := hW
  have hA : DataW.TrodAll enc Try.prog W 0 (fun _ => true) true Try.f4.params.toList args.toList ds p := hA0
  rw [Try.params4] at hA hval
  obtain ⟨v0, vs0, d0, ds0, p0, q0, hargs, rfl, rfl, h0, r0⟩ := trodAll_cons hA
  obtain ⟨v1, vs1, d1, ds1, p1, q1, rfl, rfl, rfl, h1, r1⟩ := trodAll_cons r0
  obtain ⟨rfl, rfl, rfl⟩ := trodAll_nil r1
  obtain rfl : args = #[v0, v1] := by cases args; simp_all
  obtain ⟨rfl, rfl⟩ := trodVars_none hV
  have z0 : Sized7 Try.prog 25 d0 := fun m hm => by simpa using List.all_eq_true.1 hsz m (DataW.weights_mem_each (j := 0) (t := 25) (d := d0) (by rw [Try.params4]; rfl) (by rfl) m hm)
  obtain ⟨x0, B0, hx0, hq0, hm0⟩ := open_items_arg (hval 0 25 v0 rfl rfl) h0 z0
  have z1 : Sized7 Try.prog 42 d1 := fun m hm => by simpa using List.all_eq_true.1 hsz m (DataW.weights_mem_each (j := 1) (t := 42) (d := d1) (by rw [Try.params4]; rfl) (by rfl) m hm)
  obtain ⟨c1, x1, B1, rfl, hx1, hq1⟩ := open_item_arg (hval 1 42 v1 rfl rfl) h1 z1
  clear hA0 hval0
  simp only [List.append_nil] at hW' hlt
  have hR := RtcpWrites_any hx0 hq0 (by omega) hx1 hq1
  refine hR.mono fun e W' ⟨he, hF⟩ => ?_
  subst he
  refine ⟨_, rfl, post_true (pa := p0 ++ (p1 ++ ([]))) rfl hW' rfl rfl rfl ?_ hF⟩
  exact (trodAll_cons_mk (Below.trod laidOut (by kernel_rfl) (of_decide_eq_true (by kernel_rfl)) h0 hF.below (fun x hx => hlt x (by simp [hx]))) (trodAll_cons_mk (Below.trod laidOut (by kernel_rfl) (of_decide_eq_true (by kernel_rfl)) h1 hF.below (fun x hx => hlt x (by simp [hx]))) trodAll_mk0))

theorem rtcpWrites_holds : Rows.RtcpWritesSaid :=
  OpenClaim.holds_of_wide 4 Try.f4 rfl rfl rfl rfl rfl rfl rfl ⟨rfl, rfl, rfl, rfl, rfl⟩ rfl rfl rfl rfl rfl (by kernel_rfl) Try.func4 (by kernel_rfl)
    (of_decide_eq_true (by kernel_rfl)) (by unfold Func.isWrapper; first | (rw [if_pos (by decide +kernel)]; kernel_rfl) | (rw [if_neg (by decide +kernel)]; exact ⟨rfl, rfl⟩))
    (fun os started H enc _ => rtcpWrites_lifted os started H enc)
#print axioms rtcpWrites_holds
end Go.Proofs.Ytcmpjkopdjncdaa
