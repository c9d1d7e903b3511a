/- The walk of rtp.Same. -/
import Derived.Test.YtchbgiindfoepaaRtpEq
namespace Go.Proofs.Ytchbgiindfoepaa
open Go.RowKit

theorem nat_int_beq {a b : Nat} (h : a ≠ b) : (((a : Nat) : Int) == ((b : Nat) : Int)) = false := by
  simp only [beq_eq_false_iff_ne, ne_eq, Int.natCast_inj]; exact h

end Go.Proofs.Ytchbgiindfoepaa
