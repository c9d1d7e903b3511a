import Derived.Test.YtngfenjekgdfbaaProg
import Derived.Test.YtngfenjekgdfbaaMu1
/- The walks of the library's small slice functions. -/
namespace Go.Proofs.Ytngfenjekgdfbaa
open Go.RowKit

theorem info_u8 : (Try.prog.info? 5).map (fun i => (i.zero, i.size, i.bytes)) = some (some (.int .u8 0), 1, 1) := by kernel_rfl
/-- The bytes of a slice value that the call owns. -/
def OwnB (w : World) (base : Nat) (v : Value) (l : List UInt8) : Prop := w.ownsRow base 5 1 v l.length (l.map B8)
theorem OwnB.bytes {w : World} {base : Nat} {v : Value} {l : List UInt8} (h : OwnB w base v l) : Bytes w v l := Sl.ofOwn h
theorem OwnB.isSlice {w : World} {base : Nat} {v : Value} {l : List UInt8} (h : OwnB w base v l) : ∃ a n c, v = .slice a n c := by
  obtain ⟨a, c, e⟩ := h.bytes.shape
  exact ⟨a, _, c, e⟩
theorem OwnB.mono {w : World} {base base' : Nat} {v : Value} {l : List UInt8} (h : OwnB w base v l) (hb : base' ≤ base) : OwnB w base' v l := Own.mono h hb
theorem OwnB.keep {w w' : World} {base : Nat} {v : Value} {l : List UInt8} (h : OwnB w base v l) (hf : Fr [] w w') : OwnB w' base v l := Own.keep h hf
theorem OwnB.fr {w w' : World} {base : Nat} {v : Value} {l : List UInt8} {S : List Nat} (h : OwnB w base v l) (hf : Fr S w w') (hS : ∀ b, blockOf v = some b → b ∉ S) : OwnB w' base v l := Own.fr h hf hS

theorem info_u32 : (Try.prog.info? 83).map (fun i => (i.zero, i.size, i.bytes)) = some (some (.int .u32 0), 1, 4) := by kernel_rfl
def OwnW (w : World) (base : Nat) (v : Value) (l : List UInt32) : Prop := w.ownsRow base 83 1 v l.length (l.map W32)
theorem OwnW.words {w : World} {base : Nat} {v : Value} {l : List UInt32} (h : OwnW w base v l) : Words w v l := Sl.ofOwn h
theorem OwnW.isSlice {w : World} {base : Nat} {v : Value} {l : List UInt32} (h : OwnW w base v l) : ∃ a n c, v = .slice a n c := by
  obtain ⟨a, c, e⟩ := h.words.shape
  exact ⟨a, _, c, e⟩
theorem OwnB.block {w : World} {base : Nat} {v : Value} {l : List UInt8} (h : OwnB w base v l) : ∀ b, blockOf v = some b → base ≤ b ∧ b < w.heap.size := Own.block h
theorem OwnW.block {w : World} {base : Nat} {v : Value} {l : List UInt32} (h : OwnW w base v l) : ∀ b, blockOf v = some b → base ≤ b ∧ b < w.heap.size := Own.block h
theorem OwnB.low {w w' : World} {base : Nat} {v : Value} {l : List UInt8} {S : List Nat} (h : OwnB w base v l) (hf : Fr S w w') (hS : ∀ b ∈ S, b < base) : OwnB w' base v l := Own.low h hf hS
theorem OwnW.low {w w' : World} {base : Nat} {v : Value} {l : List UInt32} {S : List Nat} (h : OwnW w base v l) (hf : Fr S w w') (hS : ∀ b ∈ S, b < base) : OwnW w' base v l := Own.low h hf hS
theorem OwnW.mono {w : World} {base base' : Nat} {v : Value} {l : List UInt32} (h : OwnW w base v l) (hb : base' ≤ base) : OwnW w base' v l := Own.mono h hb
theorem OwnW.keep {w w' : World} {base : Nat} {v : Value} {l : List UInt32} (h : OwnW w base v l) (hf : Fr [] w w') : OwnW w' base v l := Own.keep h hf
theorem OwnW.fr {w w' : World} {base : Nat} {v : Value} {l : List UInt32} {S : List Nat} (h : OwnW w base v l) (hf : Fr S w w') (hS : ∀ b, blockOf v = some b → b ∉ S) : OwnW w' base v l := Own.fr h hf hS

end Go.Proofs.Ytngfenjekgdfbaa
