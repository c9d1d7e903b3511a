import Derived.Deep.RegionHeld3
import Derived.Test.YtcmpjkopdjncdaaMw4
/- The walks of package rtp that read. -/
namespace Go.Proofs.Ytcmpjkopdjncdaa
open Go.RowKit

def w32s (l : List UInt8) (k n : Nat) : List UInt32 := (List.range n).map fun i => UInt32.ofNat (nb l (k + 4 * i) 4)
theorem w32s_len (l : List UInt8) (k n : Nat) : (w32s l k n).length = n := by simp [w32s]
theorem w32s_snoc (l : List UInt8) (k n : Nat) : w32s l k (n + 1) = w32s l k n ++ [UInt32.ofNat (nb l (k + 4 * n) 4)] := by simp [w32s, List.range_succ]
theorem u16_nb (l : List UInt8) (k : Nat) : (UInt16.ofNat (nb l k 2)).toNat = nb l k 2 := UInt16.toNat_ofNat_of_lt' (by have := nb_lt l k 2; simpa [UInt16.size] using this)
theorem u32_nb (l : List UInt8) (k : Nat) : (UInt32.ofNat (nb l k 4)).toNat = nb l k 4 := UInt32.toNat_ofNat_of_lt' (by have := nb_lt l k 4; simpa [UInt32.size] using this)
theorem W32_nb (l : List UInt8) (k : Nat) : W32 (UInt32.ofNat (nb l k 4)) = .int .u32 (nb l k 4) := by
  have := nb_lt l k 4
  unfold W32
  rw [UInt32.toNat_ofNat_of_lt' (by simpa [UInt32.size] using this)]

/-- The cells of a packet. -/
def pc (m : Bool) (pt : Int) (sq ts ss : Nat) (cs : Value) (he : Bool) (pf : Nat) (ex pl pd : Value) : Array Value :=
  #[.bool m, .int .i64 pt, .int .u16 sq, .int .u32 ts, .int .u32 ss, cs, .bool he, .int .u16 pf, ex, pl, pd]

theorem oneCell_slice (a : Option Addr) (n c : Nat) : (Value.slice a n c).oneCell' = true := rfl
theorem oneCell_pc (m : Bool) (pt : Int) (sq ts ss : Nat) (cs : Value) (he : Bool) (pf : Nat) (ex pl pd : Value) (h1 : ∃ a n c, cs = .slice a n c) (h2 : ∃ a n c, ex = .slice a n c) (h3 : ∃ a n c, pl = .slice a n c) (h4 : ∃ a n c, pd = .slice a n c) :
    ∀ u ∈ (pc m pt sq ts ss cs he pf ex pl pd).toList, u.oneCell' = true := by
  obtain ⟨_, _, _, rfl⟩ := h1; obtain ⟨_, _, _, rfl⟩ := h2; obtain ⟨_, _, _, rfl⟩ := h3; obtain ⟨_, _, _, rfl⟩ := h4
  intro u hu
  simp only [pc, List.mem_cons, List.not_mem_nil, or_false] at hu
  rcases hu with rfl | rfl | rfl | rfl | rfl | rfl | rfl | rfl | rfl | rfl | rfl <;> rfl

end Go.Proofs.Ytcmpjkopdjncdaa
