import Derived.Test.YtngfenjekgdfbaaMu3
import Derived.Test.YtngfenjekgdfbaaMu4
/- Slices of plain values that a call made: what they are in memory. -/
namespace Go.Proofs.Ytngfenjekgdfbaa
open Go.RowKit

def OwnV {α : Type} (w : World) (base : Nat) (t : TypeId) (f : α → Value) (v : Value) (ys : List α) : Prop := w.ownsRow base t 1 v ys.length (ys.map f)
section
variable {α : Type} {w w' : World} {base : Nat} {t : TypeId} {f : α → Value} {v : Value} {ys : List α}
theorem OwnV.sl (h : OwnV w base t f v ys) : Sl w v (ys.map f) := Sl.ofOwn h
theorem OwnV.isSlice (h : OwnV w base t f v ys) : ∃ a n c, v = .slice a n c := by
  obtain ⟨a, c, e⟩ := h.sl.shape
  exact ⟨a, _, c, e⟩
theorem OwnV.shape (h : OwnV w base t f v ys) : ∃ a c, v = .slice a ys.length c := by
  obtain ⟨a, c, e⟩ := h.sl.shape
  rw [List.length_map] at e
  exact ⟨a, c, e⟩
theorem OwnV.keep (h : OwnV w base t f v ys) (hf : Fr [] w w') : OwnV w' base t f v ys := Own.keep h hf
theorem OwnV.block (h : OwnV w base t f v ys) : ∀ b, blockOf v = some b → base ≤ b ∧ b < w.heap.size := Own.block h
theorem OwnV.mono {base' : Nat} (h : OwnV w base t f v ys) (hb : base' ≤ base) : OwnV w base' t f v ys := Own.mono h hb
theorem OwnV.made (w : World) (base : Nat) (t : TypeId) (f : α → Value) (hb : base ≤ w.heap.size) : OwnV (w.alloc (.cells #[] t)) base t f (.slice (some ⟨w.heap.size, 0, none⟩) 0 0) [] := World.ownsRow_made w #[] 0 hb (by unfold maxLen; omega) (by simp)
theorem OwnV.nil (w : World) (base : Nat) (t : TypeId) (f : α → Value) : OwnV w base t f (.slice none 0 0) [] := ⟨by simp, .inl ⟨rfl, rfl⟩⟩
end
end Go.Proofs.Ytngfenjekgdfbaa
