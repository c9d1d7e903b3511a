/- A slice that lies in a zone of blocks: it outlives writes elsewhere. -/
import Derived.Test.YticoongkfhkjgaaRtpWrite
namespace Go.Proofs.Yticoongkfhkjgaa
open Go.RowKit

/-- The slice v reads as xs, and lies in the blocks from lo on, below hi. -/
def Zl (w : World) (v : Value) (xs : List Value) (lo hi : Nat) : Prop := Sl w v xs ∧ ∀ b, liveOf v = some b → lo ≤ b ∧ b < hi
theorem Zl.sl {w : World} {v : Value} {xs : List Value} {lo hi : Nat} (h : Zl w v xs lo hi) : Sl w v xs := h.1
theorem Zl.keep {w w' : World} {v : Value} {xs : List Value} {lo hi : Nat} (h : Zl w v xs lo hi) (hf : Fr [] w w') : Zl w' v xs lo hi := ⟨h.1.keep hf, h.2⟩
theorem Zl.hit {w w' : World} {v : Value} {xs : List Value} {lo hi g : Nat} (h : Zl w v xs lo hi) (hf : Fr [g] w w') (hg : g < lo ∨ hi ≤ g) : Zl w' v xs lo hi :=
  ⟨h.1.frL hf (fun b hb hm => by have := h.2 b hb; simp at hm; omega), h.2⟩
theorem Zl.ofB {w : World} {base : Nat} {v : Value} {l : List UInt8} (h : OwnB w base v l) : Zl w v (l.map B8) base w.heap.size := ⟨h.bytes, fun b hb => h.block b (live_block hb)⟩
theorem Zl.old {w : World} {v : Value} {xs : List Value} (h : Sl w v xs) : Zl w v xs 0 w.heap.size := ⟨h, fun b hb => ⟨Nat.zero_le _, h.lt b hb⟩⟩
theorem Zl.wide {w : World} {v : Value} {xs : List Value} {lo hi lo' hi' : Nat} (h : Zl w v xs lo hi) (h1 : lo' ≤ lo) (h2 : hi ≤ hi') : Zl w v xs lo' hi' := ⟨h.1, fun b hb => by have := h.2 b hb; omega⟩
/-- A packet's payload. -/
theorem Zl.payload {w : World} {base : Nat} {m : Bool} {pt : Int} {sq ts ss : Nat} {cs : Value} {he : Bool} {pf : Nat} {ex pl pd : Value} {p : Pkt} (h : PktV w base (.agg (pc m pt sq ts ss cs he pf ex pl pd)) p) : Zl w pl (p.payload.map B8) base w.heap.size := by
  obtain ⟨cs', ex', pl', pd', e, h1, h2, h3, h4, h5⟩ := h
  unfold pc at e
  simp only [Value.agg.injEq, Array.mk.injEq, List.cons.injEq, and_true, true_and] at e
  obtain ⟨-, -, -, -, -, rfl, -, -, rfl, rfl, rfl⟩ := e
  exact ⟨h3, fun b hb => ⟨h5 b (.inr (.inr (.inl (live_block hb)))), Sl.lt h3 b hb⟩⟩
/-- The slices of a packet lie below a block. -/
def PktB (cs ex pl pd : Value) (T : Nat) : Prop := ∀ b, (liveOf cs = some b ∨ liveOf ex = some b ∨ liveOf pl = some b ∨ liveOf pd = some b) → b < T
theorem PktV.bound {w : World} {base : Nat} {m : Bool} {pt : Int} {sq ts ss : Nat} {cs : Value} {he : Bool} {pf : Nat} {ex pl pd : Value} {p : Pkt} (h : PktV w base (.agg (pc m pt sq ts ss cs he pf ex pl pd)) p) : PktB cs ex pl pd w.heap.size := by
  obtain ⟨cs', ex', pl', pd', e, h1, h2, h3, h4, h5⟩ := h
  unfold pc at e
  simp only [Value.agg.injEq, Array.mk.injEq, List.cons.injEq, and_true, true_and] at e
  obtain ⟨-, -, -, -, -, rfl, -, -, rfl, rfl, rfl⟩ := e
  intro b hb
  rcases hb with hb | hb | hb | hb
  · exact Sl.lt h1 b hb
  · exact Sl.lt h2 b hb
  · exact Sl.lt h3 b hb
  · exact Sl.lt h4 b hb
theorem PktV.frB {w w' : World} {base T : Nat} {m : Bool} {pt : Int} {sq ts ss : Nat} {cs : Value} {he : Bool} {pf : Nat} {ex pl pd : Value} {p : Pkt} (h : PktV w base (.agg (pc m pt sq ts ss cs he pf ex pl pd)) p) (hB : PktB cs ex pl pd T) (hf : Fr [T] w w') :
    PktV w' base (.agg (pc m pt sq ts ss cs he pf ex pl pd)) p := by
  obtain ⟨cs', ex', pl', pd', e, h1, h2, h3, h4, h5⟩ := h
  have e0 := e
  unfold pc at e
  simp only [Value.agg.injEq, Array.mk.injEq, List.cons.injEq, and_true, true_and] at e
  obtain ⟨-, -, -, -, -, rfl, -, -, rfl, rfl, rfl⟩ := e
  exact ⟨_, _, _, _, e0, Sl.frL h1 hf (fun b hb hm => by have := hB b (.inl hb); simp at hm; omega), Sl.frL h2 hf (fun b hb hm => by have := hB b (.inr (.inl hb)); simp at hm; omega),
    Sl.frL h3 hf (fun b hb hm => by have := hB b (.inr (.inr (.inl hb))); simp at hm; omega), Sl.frL h4 hf (fun b hb hm => by have := hB b (.inr (.inr (.inr hb))); simp at hm; omega), h5⟩
end Go.Proofs.Yticoongkfhkjgaa
