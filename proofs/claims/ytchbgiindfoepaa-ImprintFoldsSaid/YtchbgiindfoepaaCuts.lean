/- The walk of confluxlaw05.RtpCuts. -/
import Derived.Test.YtchbgiindfoepaaAlive5
import Derived.Test.YtchbgiindfoepaaCutPlain
namespace Go.Proofs.Ytchbgiindfoepaa
open Go.RowKit

theorem and4095 (c : Int) : ∃ n : Nat, bits .and .i64 c 4095 = (n : Int) ∧ n ≤ 4095 := by
  have h : (BitVec.ofInt 64 c &&& BitVec.ofInt 64 4095).toNat ≤ 4095 := by
    rw [BitVec.toNat_and]
    exact Nat.and_le_right
  refine ⟨_, ?_, h⟩
  show IntKind.i64.wrap ((BitVec.ofInt 64 c &&& BitVec.ofInt 64 4095).toNat : Int) = _
  exact IntWalk.i64_in _ (by omega)

end Go.Proofs.Ytchbgiindfoepaa
