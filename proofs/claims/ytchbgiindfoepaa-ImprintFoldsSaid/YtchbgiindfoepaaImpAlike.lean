/- The walk of confluxlaw12.ImprintAlike (printed by gen_imp12.py). -/
import Derived.Test.YtchbgiindfoepaaImpBack
import Derived.Test.YtchbgiindfoepaaCuts
namespace Go.Proofs.Ytchbgiindfoepaa
open Go.RowKit

theorem u8_xor1 (a : UInt8) : bits .xor .u8 (a.toNat : Int) 1 = ((a ^^^ 1).toNat : Int) := by
  have h : ∀ n < 256, bits .xor .u8 ((n : Nat) : Int) 1 = ((n ^^^ 1 : Nat) : Int) := by decide +kernel
  rw [h a.toNat a.toNat_lt, UInt8.toNat_xor]
  rfl
end Go.Proofs.Ytchbgiindfoepaa
