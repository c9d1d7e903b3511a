/- The walk of confluxref12.Packet (printed by gen_imp6.py). -/
import Derived.Test.YtchbgiindfoepaaImp4
import Derived.Test.YtchbgiindfoepaaImp5
namespace Go.Proofs.Ytchbgiindfoepaa
open Go.RowKit

theorem two_head (b0 b1 : Nat) (h0 : b0 < 256) (h1 : b1 < 256) : [UInt8.ofNat (128 + b0 % 64), UInt8.ofNat b1].map B8 = [.int .u8 (128 + (b0 : Int) % 64), .int .u8 ((b1 : Nat) : Int)] := by
  have e1 : (UInt8.ofNat (128 + b0 % 64)).toNat = 128 + b0 % 64 := by rw [UInt8.toNat_ofNat']; omega
  have e2 : (UInt8.ofNat b1).toNat = b1 := by rw [UInt8.toNat_ofNat']; omega
  simp only [List.map_cons, List.map_nil, B8, e1, e2]
  rfl
theorem and63_sum (a : UInt8) : UInt8.ofNat (128 + a.toNat % 64) = 128 ||| (a &&& 63) := by
  rw [← UInt8.toNat_inj, UInt8.toNat_ofNat', UInt8.toNat_or, and63_mod]
  have := Nat.two_pow_add_eq_or_of_lt (i := 7) (b := a.toNat % 64) (by omega) 1
  show _ = 128 ||| a.toNat % 64
  rw [show (128 : Nat) = 2 ^ 7 * 1 from rfl, ← this]
  omega
end Go.Proofs.Ytchbgiindfoepaa
