/- A drawn region in which one of three operations comes up. No program in sight. -/
import Derived.Test.YtchbgiindfoepaaMs8
namespace Go.Proofs.Ytchbgiindfoepaa
theorem wpAnyT_three {P : Program} {ops : Array Oper} {Q : Exit → Act → World → Prop} {md : Region.Mode} {S : World → Prop} {T : List Nat} {i j k : Nat} {o o' o'' : Oper} {fuel : Nat} {listed : Array Bool} {a : Act} {w : World} (hr : Region.ready md ops listed = [i, j, k]) (ho : ops[i]? = some o) (ho' : ops[j]? = some o') (ho'' : ops[k]? = some o'')
    (h : ∀ K' : Act → World → Prop, Shut (∀ a w, (i ∉ T → S w) → wpAnyT P md ops Q S T fuel (listed.setIfInBounds i true) a w → K' a w) → if Region.wanted o (yielded ops a.tmps) = true then Oper.wp P o a w K' Q else K' (a.put o.dst undef) w)
    (h' : ∀ K' : Act → World → Prop, Shut (∀ a w, (j ∉ T → S w) → wpAnyT P md ops Q S T fuel (listed.setIfInBounds j true) a w → K' a w) → if Region.wanted o' (yielded ops a.tmps) = true then Oper.wp P o' a w K' Q else K' (a.put o'.dst undef) w)
    (h'' : ∀ K' : Act → World → Prop, Shut (∀ a w, (k ∉ T → S w) → wpAnyT P md ops Q S T fuel (listed.setIfInBounds k true) a w → K' a w) → if Region.wanted o'' (yielded ops a.tmps) = true then Oper.wp P o'' a w K' Q else K' (a.put o''.dst undef) w) :
    wpAnyT P md ops Q S T (fuel + 1) listed a w :=
  ⟨fun h0 => (by rw [hr] at h0; cases h0), fun m hm => by
    rw [hr] at hm
    simp only [List.mem_cons, List.not_mem_nil, or_false] at hm
    rcases hm with rfl | rfl | rfl
    · exact wpOp_step ho fun K' hK => h K' (fun a w h1 h2 => hK a w ⟨h1, h2⟩)
    · exact wpOp_step ho' fun K' hK => h' K' (fun a w h1 h2 => hK a w ⟨h1, h2⟩)
    · exact wpOp_step ho'' fun K' hK => h'' K' (fun a w h1 h2 => hK a w ⟨h1, h2⟩)⟩
end Go.Proofs.Ytchbgiindfoepaa
