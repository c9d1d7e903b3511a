/- The walk of confluxref01.Big. -/
import Derived.Test.YtchbgiindfoepaaRtpSame
import Derived.Test.YtchbgiindfoepaaCutPlain
namespace Go.Proofs.Ytchbgiindfoepaa
open Go.RowKit

theorem beN_cons (n m : Nat) : beN n (m + 1) = UInt8.ofNat (n / 256 ^ m) :: beN n m := by
  unfold beN
  rw [List.range_succ_eq_map, List.map_cons, List.map_map]
  congr 1
  refine List.map_congr_left fun j hj => ?_
  simp only [Function.comp]
  rw [show m + 1 - 1 - (j + 1) = m - 1 - j by omega]
theorem Sl_none {w : World} {g : Nat} {t : TypeId} (h : Box w g t #[]) : Sl w (.slice (some ⟨g, 0, none⟩) 0 0) [] :=
  ⟨some ⟨g, 0, none⟩, 0, rfl, Nat.le_refl _, by unfold maxLen; omega, fun h => (by cases h), fun p hp _ => by cases hp; exact ⟨rfl, h.lt, fun i x hx => by simp at hx⟩⟩
theorem oneOwn {w w' : World} {x : Value} {t : TypeId} (h : w.alloc (.cells #[x] t) = w') : w'.ownsRow w.heap.size t 1 (.slice (some ⟨w.heap.size, 0, none⟩) 1 1) 1 [x] := by
  subst h
  exact ⟨rfl, .inr ⟨w.heap.size, 1, #[x], rfl, Nat.le_refl _, Box.new w t #[x], Nat.le_refl _, by unfold maxLen; omega, rfl, rfl⟩⟩

theorem wrap_div (q : Nat) (h : q < 18446744073709551616) : IntKind.u64.wrap ((q : Int) / 256) = ((q / 256 : Nat) : Int) := by
  rw [IntWalk.u64_in _ (by omega)]; omega

end Go.Proofs.Ytchbgiindfoepaa
