import Derived.Deep.RegionLaw
import Derived.Test.YtbmpiemhfndnbaaMp4
import Derived.Test.YtbmpiemhfndnbaaMp5
/- The walks of wire.Writer. -/
namespace Go.Proofs.Ytbmpiemhfndnbaa
open Go.RowKit

theorem one_cells (w : World) (u : Value) (t : TypeId) : ∀ (j : Nat) (x : Value), [u][j]? = some x → (w.alloc (.cells #[u] t)).drew.cell? ((⟨w.heap.size, 0, none⟩ : Addr).add j) = some x := by
  intro j x hj
  match j, hj with
  | 0, hj =>
    simp only [List.getElem?_cons_zero, Option.some.injEq] at hj
    subst hj
    simp [Addr.add]
/-- A number's bytes, the highest first. -/
def beN (n m : Nat) : List UInt8 := (List.range m).map fun j => UInt8.ofNat (n / 256 ^ (m - 1 - j))
theorem beN_len (n m : Nat) : (beN n m).length = m := by simp [beN]

theorem shr_bytes (n k : Nat) (hk : k ≤ 7) : Op.shift .shr .u64 (n : Int) .i64 ((8 * k : Nat) : Int) = pure (.int .u64 ((n / 256 ^ k : Nat) : Int)) := by
  rw [shift_shr .u64 .i64 _ _ (by omega) (by show ((8 * k : Nat) : Int) ≤ 64; omega)]
  have : (2 : Int) ^ ((8 * k : Nat) : Int).toNat = ((256 ^ k : Nat) : Int) := by
    rw [Int.toNat_natCast]
    match k, hk with
    | 0, _ | 1, _ | 2, _ | 3, _ | 4, _ | 5, _ | 6, _ | 7, _ => rfl
  rw [this]
  rfl
theorem shr_bytes2 (n k : Nat) (hk : k ≤ 7) : (n : Int) / 2 ^ (8 * (k : Int)).toNat = ((n / 256 ^ k : Nat) : Int) := by
  have : (2 : Int) ^ (8 * (k : Int)).toNat = ((256 ^ k : Nat) : Int) := by
    rw [show (8 * (k : Int)) = ((8 * k : Nat) : Int) from by omega, Int.toNat_natCast]
    match k, hk with
    | 0, _ | 1, _ | 2, _ | 3, _ | 4, _ | 5, _ | 6, _ | 7, _ => rfl
  rw [this]
  rfl
theorem wrap_u8_nat (n : Nat) : IntKind.u8.wrap (n : Int) = ((n % 256 : Nat) : Int) := by
  rw [IntKind.wrap_u8]; omega
/-- A byte out of an int. -/
def ib (n : Int) : UInt8 := UInt8.ofNat (n % 256).toNat
end Go.Proofs.Ytbmpiemhfndnbaa
