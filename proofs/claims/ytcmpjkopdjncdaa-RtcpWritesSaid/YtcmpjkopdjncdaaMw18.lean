import Derived.Test.YtcmpjkopdjncdaaMw17
import Derived.Test.YtcmpjkopdjncdaaMw8
/- The walks of confluxref04.one, at, Xor, Gap. -/
namespace Go.Proofs.Ytcmpjkopdjncdaa
open Go.RowKit

/-! ### the exclusive or, bit by bit -/
def oneN (a b : Nat) : Nat → Nat
  | 0 => 0
  | k + 1 => if a / (128 / 2 ^ k) % 2 = b / (128 / 2 ^ k) % 2 then oneN a b k else (oneN a b k + 128 / 2 ^ k) % 256
theorem oneN_lt (a b k : Nat) : oneN a b k < 256 := by
  induction k with
  | zero => unfold oneN; omega
  | succ k ih => unfold oneN; split <;> omega
def dbit (a b p : Nat) : Nat := if a / p % 2 = b / p % 2 then 0 else 1
theorem oneN_step (a b k : Nat) : oneN a b (k + 1) = (oneN a b k + dbit a b (128 / 2 ^ k) * (128 / 2 ^ k)) % 256 := by
  have h := oneN_lt a b k
  show (if _ then _ else _) = _
  unfold dbit
  split
  · omega
  · simp
theorem xor_step (a b : Nat) : a ^^^ b = 2 * (a / 2 ^^^ b / 2) + dbit a b 1 := by
  have h1 := Nat.div_add_mod (a ^^^ b) 2
  have h2 : (a ^^^ b) % 2 = 1 ↔ ¬ (a % 2 = 1 ↔ b % 2 = 1) := by simp
  rw [Nat.xor_div_two] at h1
  unfold dbit
  rw [Nat.div_one, Nat.div_one]
  split <;> omega
theorem dbit_div (a b p q : Nat) : dbit (a / p) (b / p) q = dbit a b (p * q) := by
  unfold dbit
  rw [Nat.div_div_eq_div_mul, Nat.div_div_eq_div_mul]
theorem dbit_le (a b p : Nat) : dbit a b p ≤ 1 := by unfold dbit; split <;> omega
theorem oneN_xor (a : Nat) (ha : a < 256) (b : Nat) (hb : b < 256) : oneN a b 8 = a ^^^ b := by
  rw [oneN_step, oneN_step, oneN_step, oneN_step, oneN_step, oneN_step, oneN_step, oneN_step]
  rw [xor_step a b, xor_step (a / 2), xor_step (a / 2 / 2), xor_step (a / 2 / 2 / 2), xor_step (a / 2 / 2 / 2 / 2), xor_step (a / 2 / 2 / 2 / 2 / 2), xor_step (a / 2 / 2 / 2 / 2 / 2 / 2), xor_step (a / 2 / 2 / 2 / 2 / 2 / 2 / 2)]
  simp only [dbit_div, Nat.div_div_eq_div_mul, Nat.reduceMul, Nat.reducePow, Nat.reduceDiv]
  rw [show a / 256 = 0 by omega, show b / 256 = 0 by omega, Nat.xor_self]
  have h1 := dbit_le a b 1; have h2 := dbit_le a b 2; have h3 := dbit_le a b 4; have h4 := dbit_le a b 8; have h5 := dbit_le a b 16; have h6 := dbit_le a b 32; have h7 := dbit_le a b 64; have h8 := dbit_le a b 128
  generalize dbit a b 1 = d1 at *; generalize dbit a b 2 = d2 at *; generalize dbit a b 4 = d4 at *; generalize dbit a b 8 = d8 at *; generalize dbit a b 16 = d16 at *; generalize dbit a b 32 = d32 at *; generalize dbit a b 64 = d64 at *; generalize dbit a b 128 = d128 at *
  unfold oneN
  omega
theorem u8_xor_nat (a b : Nat) (ha : a < 256) (hb : b < 256) : bits .xor .u8 (a : Int) (b : Int) = ((a ^^^ b : Nat) : Int) := by
  have h : a ^^^ b < 256 := Nat.xor_lt_two_pow (n := 8) ha hb
  show IntKind.u8.wrap ((BitVec.ofInt 8 (a : Int) ^^^ BitVec.ofInt 8 (b : Int)).toNat : Int) = _
  rw [show BitVec.ofInt 8 (a : Int) = BitVec.ofNat 8 a by simp, show BitVec.ofInt 8 (b : Int) = BitVec.ofNat 8 b by simp, BitVec.toNat_xor, BitVec.toNat_ofNat, BitVec.toNat_ofNat]
  rw [Nat.mod_eq_of_lt (by omega), Nat.mod_eq_of_lt (by omega), IntKind.wrap_u8]
  omega

theorem getD_lt (l : List UInt8) (i : Nat) : (l.getD i 0).toNat < 256 := (l.getD i 0).toNat_lt
theorem xb_succ {a b : List UInt8} {j : Nat} (h : j < max a.length b.length) : (xb a b).take (j + 1) = (xb a b).take j ++ [a.getD j 0 ^^^ b.getD j 0] := by
  rw [List.take_succ_eq_append_getElem (by rw [xb_len]; exact h)]
  congr 2
  have := xb_get a b j
  rwa [List.getD_eq_getElem?_getD, List.getElem?_eq_getElem (by rw [xb_len]; exact h), Option.getD_some] at this
end Go.Proofs.Ytcmpjkopdjncdaa

/- The walks of stripe.Sum.Add, Bytes, Fit; slices.IndexFunc. -/
namespace Go.Proofs.Ytcmpjkopdjncdaa
open Go.RowKit

/-- A byte of an own row written. -/
theorem OwnB.live {w : World} {base : Nat} {v : Value} {l : List UInt8} (h : OwnB w base v l) (h0 : 0 < l.length) :
    ∃ g cap, v = .slice (some ⟨g, 0, none⟩) l.length cap ∧ base ≤ g ∧ g < w.heap.size ∧ l.length ≤ cap ∧ (∀ i (hi : i < l.length), w.cell? ⟨g, i, none⟩ = some (B8 l[i])) ∧ (∀ i, w.frozen? ⟨g, i, none⟩ = false) ∧
      ∀ i c, i < l.length → OwnB (w.setCell ⟨g, i, none⟩ (B8 c)) base v (l.set i c) ∧ Fr [g] w (w.setCell ⟨g, i, none⟩ (B8 c)) := by
  rcases h.2 with ⟨rfl, hn⟩ | ⟨g, cap, cur, rfl, hbg, hg, hnc, hcm, hcs, htake⟩
  · omega
  · refine ⟨g, cap, rfl, hbg, (Array.getElem?_eq_some_iff.1 hg).1, hnc, fun i hi => ?_, fun i => frozen_of_row w g i cur _ hg, fun i c hi => ⟨?_, ?_⟩⟩
    · have := h.cells (g := g) rfl i (B8 l[i]) (by rw [List.getElem?_map, List.getElem?_eq_getElem hi]; rfl)
      have hadd : (⟨g, 0, none⟩ : Addr).add i = ⟨g, i, none⟩ := by unfold Addr.add; split <;> simp_all
      rwa [hadd] at this
    · refine ⟨by simp, .inr ⟨g, cap, cur.setIfInBounds i (B8 c), by simp, hbg, heap_setCell_same w g i cur _ _ hg, by simpa using hnc, hcm, by simpa using hcs, ?_⟩⟩
      simp only [Array.toList_setIfInBounds, List.length_set, List.take_set, List.map_set]
      have := htake
      simp only [Nat.mul_one] at this ⊢
      rw [this]
    · exact (Fr.refl [g] w).set (.inl (by simp)) _

theorem OwnB.len {w : World} {base : Nat} {a : Option Addr} {n c : Nat} {l : List UInt8} (h : OwnB w base (.slice a n c) l) : n = l.length := by
  have h1 : Sl w (.slice a n c) (l.map B8) := h.bytes
  have := h1.len.1
  rwa [List.length_map] at this
theorem gD (l : List UInt8) (i : Nat) : l.getD i 0 = l[i]?.getD 0 := List.getD_eq_getElem?_getD
theorem xb_pad (l b : List UInt8) : xb (l ++ List.replicate (b.length - l.length) 0) b = xb l b := by
  refine ext_getD (by simp [xb_len]; omega) fun i => ?_
  rw [xb_get, xb_get]
  congr 1
  rw [List.getD_eq_getElem?_getD, List.getD_eq_getElem?_getD, List.getElem?_append]
  split
  · rfl
  · rename_i h
    rw [List.getElem?_replicate, List.getElem?_eq_none_iff.2 (by omega : l.length ≤ i)]
    split <;> rfl
theorem xb_take_len {l b : List UInt8} (h : b.length ≤ l.length) (j : Nat) : (xb l (b.take j)).length = l.length := by rw [xb_len, List.length_take]; omega
theorem getD_take (b : List UInt8) (j i : Nat) : (b.take j).getD i 0 = if i < j then b.getD i 0 else 0 := by
  rw [List.getD_eq_getElem?_getD, List.getElem?_take]
  split
  · rw [List.getD_eq_getElem?_getD]
  · rfl
theorem xb_step {l b : List UInt8} (h : b.length ≤ l.length) {j : Nat} (hj : j < b.length) : xb l (b.take (j + 1)) = (xb l (b.take j)).set j (l.getD j 0 ^^^ b.getD j 0) := by
  refine ext_getD (by rw [List.length_set, xb_take_len h, xb_take_len h]) fun i => ?_
  rw [gD ((xb l (b.take j)).set _ _), List.getElem?_set, xb_take_len h, xb_get, getD_take]
  by_cases e : j = i
  · subst e
    rw [if_pos rfl, if_pos (by omega), if_pos (by omega)]
    rfl
  · rw [if_neg e, ← gD, xb_get, getD_take]
    by_cases h1 : i < j
    · rw [if_pos (by omega), if_pos h1]
    · rw [if_neg (by omega), if_neg h1]
theorem xb_at {l b : List UInt8} (h : b.length ≤ l.length) {j : Nat} (hj : j < b.length) (hj2 : j < (xb l (b.take j)).length) : (xb l (b.take j))[j] = l.getD j 0 := by
  have h1 := xb_get l (b.take j) j
  rw [getD_take, if_neg (by omega), gD (xb l (b.take j)), List.getElem?_eq_getElem hj2] at h1
  simpa using h1

end Go.Proofs.Ytcmpjkopdjncdaa
