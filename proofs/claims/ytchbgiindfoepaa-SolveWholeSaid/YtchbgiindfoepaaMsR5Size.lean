/- The walk of confluxref05.Size. -/
import Derived.Test.YtchbgiindfoepaaMs17
namespace Go.Proofs.Ytchbgiindfoepaa
open Go.RowKit

set_option maxHeartbeats 400000 in
theorem R5Size_any {w : World} {base : Nat} {v : Value} {p : Pkt} (hV : PktV w base v p) (hS : p.Small) :
    Calls Try.prog 49 #[v] w fun e w' => e = .returned (.int .i64 p.size) ∧ Fr [] w w' := by
  obtain ⟨a1, c1, a2, c2, a3, c3, a4, c4, rfl, -, -, -, -⟩ := hV.open_
  obtain ⟨h1, h2, h3, h4⟩ := hS
  unfold pc Pkt.size
  have hF := Lib.hid ((Fr.refl [] w).alloc (.cells (pc p.marker p.pt p.seq.toNat p.ts.toNat p.ssrc.toNat (.slice a1 p.csrc.length c1) p.hasExt p.profile.toNat (.slice a2 p.ext.length c2) (.slice a3 p.payload.length c3) (.slice a4 p.pad.length c4)) 88))
  clear hV
  generalize p.csrc.length = n1 at *
  generalize p.ext.length = n2 at *
  generalize p.payload.length = n3 at *
  generalize p.pad.length = n4 at *
  cases hx : p.hasExt
  all_goals
    rw [hx] at hF
    clear hx
    go_enter Try.func49, Try.ntmps49
    go_wp2
    go_ret
    refine ⟨ret_int ?_, hF.out⟩
    first | (simp; done) | omega | (simp; omega)
end Go.Proofs.Ytchbgiindfoepaa
