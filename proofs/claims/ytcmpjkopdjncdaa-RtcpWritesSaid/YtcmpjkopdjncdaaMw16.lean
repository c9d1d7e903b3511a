import Derived.Test.YtcmpjkopdjncdaaMw13
import Derived.Test.YtcmpjkopdjncdaaMw5
/- The walks of wire.Part and Read at packets, and of rtp.Parse. -/
namespace Go.Proofs.Ytcmpjkopdjncdaa
open Go.RowKit

theorem PktV.cells {w : World} {base : Nat} {v : Value} {p : Pkt} (h : PktV w base v p) : ∃ c : Array Value, v = .agg c ∧ c.size = 11 ∧ ∀ u ∈ c.toList, u.oneCell' = true := by
  obtain ⟨cs, ex, pl, pd, rfl, h1, h2, h3, h4, _⟩ := h
  exact ⟨_, rfl, rfl, oneCell_pc _ _ _ _ _ _ _ _ _ _ _ h1.isSlice h2.isSlice h3.isSlice h4.isSlice⟩
theorem PktV.fr {w w' : World} {base : Nat} {v : Value} {p : Pkt} {S : List Nat} (h : PktV w base v p) (hf : Fr S w w') (hS : ∀ b ∈ S, b < base) : PktV w' base v p := by
  obtain ⟨cs, ex, pl, pd, rfl, h1, h2, h3, h4, h5⟩ := h
  have hn : ∀ b, (blockOf cs = some b ∨ blockOf ex = some b ∨ blockOf pl = some b ∨ blockOf pd = some b) → b ∉ S := fun b h hm => by have := h5 b h; have := hS b hm; omega
  exact ⟨cs, ex, pl, pd, rfl, h1.fr hf (fun b h => hn b (.inl h)), h2.fr hf (fun b h => hn b (.inr (.inl h))), h3.fr hf (fun b h => hn b (.inr (.inr (.inl h)))), h4.fr hf (fun b h => hn b (.inr (.inr (.inr h)))), h5⟩
theorem PktV.mono {w : World} {base base' : Nat} {v : Value} {p : Pkt} (h : PktV w base v p) (hb : base' ≤ base) : PktV w base' v p := by
  obtain ⟨cs, ex, pl, pd, e, h1, h2, h3, h4, h5⟩ := h
  exact ⟨cs, ex, pl, pd, e, h1, h2, h3, h4, fun b h => by have := h5 b h; omega⟩
theorem PktV.keep {w w' : World} {base : Nat} {v : Value} {p : Pkt} (h : PktV w base v p) (hf : Fr [] w w') : PktV w' base v p := h.fr hf (by simp)
theorem parseP_err {l : List UInt8} {k : Int} (h : parseP l = .error k) : k ≠ 0 := by
  intro hk
  subst hk
  unfold parseP at h
  simp only at h
  repeat' split at h
  all_goals first | (simp at h; done) | (cases h; done)
theorem oneCell_pz : ∀ u ∈ pz.toList, u.oneCell' = true := by
  intro u hu
  simp only [pz, List.mem_cons, List.not_mem_nil, or_false] at hu
  rcases hu with rfl | rfl | rfl | rfl | rfl | rfl | rfl | rfl | rfl | rfl | rfl <;> rfl

/-- What rtp.Parse makes of bytes. -/
def parseR (l : List UInt8) : Except Int Pkt := if 1500 < l.length then .error 2 else parseP l
theorem parseR_err {l : List UInt8} {k : Int} (h : parseR l = .error k) : k ≠ 0 := by
  unfold parseR at h
  split at h
  · intro e; subst e; simp at h
  · exact parseP_err h

end Go.Proofs.Ytcmpjkopdjncdaa
