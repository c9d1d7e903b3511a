/- Plain laws on rows held against each other and on imprints. No program in sight. -/
import Derived.Test.YtchbgiindfoepaaBackPlain
namespace Go.Proofs.Ytchbgiindfoepaa
open Go.RowKit

/-- Two rows held against each other. -/
def xb (a b : List UInt8) : List UInt8 := (List.range (max a.length b.length)).map fun i => a.getD i 0 ^^^ b.getD i 0
theorem xb_len (a b : List UInt8) : (xb a b).length = max a.length b.length := by simp [xb]
theorem xb_get (a b : List UInt8) (i : Nat) : (xb a b).getD i 0 = a.getD i 0 ^^^ b.getD i 0 := by
  by_cases h : i < max a.length b.length
  · simp [xb, List.getD_eq_getElem?_getD, h]
  · have h1 : a.length ≤ i := by omega
    have h2 : b.length ≤ i := by omega
    simp [List.getD_eq_getElem?_getD, List.getElem?_eq_none_iff.2 h1, List.getElem?_eq_none_iff.2 h2, xb_len, List.getElem?_eq_none_iff.2 (show (xb a b).length ≤ i by rw [xb_len]; omega)]
theorem ext_getD {a b : List UInt8} (hl : a.length = b.length) (h : ∀ i, a.getD i 0 = b.getD i 0) : a = b := by
  refine List.ext_getElem hl fun i h1 h2 => ?_
  have := h i
  rw [List.getD_eq_getElem?_getD, List.getD_eq_getElem?_getD, List.getElem?_eq_getElem h1, List.getElem?_eq_getElem h2] at this
  exact this
theorem xb_nil_left (a : List UInt8) : xb [] a = a := ext_getD (by simp [xb_len]) fun i => by rw [xb_get]; simp
theorem xb_nil_right (a : List UInt8) : xb a [] = a := ext_getD (by simp [xb_len]) fun i => by rw [xb_get]; simp
/-- Have they the same bytes, but for zeros behind? -/
def gap0 (a b : List UInt8) : Bool := (xb a b).all (· == 0)
theorem xor_zero_iff : ∀ a b : UInt8, (a ^^^ b = 0) ↔ a = b := by
  intro a b
  constructor
  · intro h
    have : a ^^^ b ^^^ b = 0 ^^^ b := by rw [h]
    simpa [UInt8.xor_assoc] using this
  · rintro rfl; simp
theorem gap0_iff (a b : List UInt8) : gap0 a b = true ↔ ∀ i, a.getD i 0 = b.getD i 0 := by
  unfold gap0
  rw [List.all_eq_true]
  constructor
  · intro h i
    have h2 := xb_get a b i
    by_cases hi : i < (xb a b).length
    · have h1 := h _ (List.getElem_mem hi)
      rw [List.getD_eq_getElem?_getD, List.getElem?_eq_getElem hi, Option.getD_some] at h2
      rw [beq_iff_eq] at h1
      exact (xor_zero_iff _ _).1 (h2.symm.trans h1)
    · rw [xb_len] at hi
      have h1 : a.length ≤ i := by omega
      have h3 : b.length ≤ i := by omega
      simp [List.getD_eq_getElem?_getD, List.getElem?_eq_none_iff.2 h1, List.getElem?_eq_none_iff.2 h3]
  · intro h x hx
    obtain ⟨i, hi, rfl⟩ := List.getElem_of_mem hx
    have h2 := xb_get a b i
    rw [List.getD_eq_getElem?_getD, List.getElem?_eq_getElem hi, Option.getD_some, h i] at h2
    rw [beq_iff_eq, h2]
    simp

/-- The imprint of a packet. -/
structure Bt where
  h0 : UInt8
  h1 : UInt8
  h2 : UInt8
  h3 : UInt8
  h4 : UInt8
  h5 : UInt8
  h6 : UInt8
  h7 : UInt8
  body : List UInt8
namespace Bt
def head (x : Bt) : List UInt8 := [x.h0, x.h1, x.h2, x.h3, x.h4, x.h5, x.h6, x.h7]
def zero : Bt := ⟨0, 0, 0, 0, 0, 0, 0, 0, []⟩
def add (x y : Bt) : Bt := ⟨x.h0 ^^^ y.h0, x.h1 ^^^ y.h1, x.h2 ^^^ y.h2, x.h3 ^^^ y.h3, x.h4 ^^^ y.h4, x.h5 ^^^ y.h5, x.h6 ^^^ y.h6, x.h7 ^^^ y.h7, xb x.body y.body⟩
def same (x y : Bt) : Bool := x.head == y.head && gap0 x.body y.body
def len (x : Bt) : Nat := x.h6.toNat * 256 + x.h7.toNat
def out (x : Bt) (s : UInt16) (t : UInt32) : List UInt8 := [128 ||| (x.h0 &&& 63), x.h1] ++ beN s.toNat 2 ++ [x.h2, x.h3, x.h4, x.h5] ++ beN t.toNat 4 ++ x.body.take x.len
def pack (x : Bt) (s : UInt16) (t : UInt32) : Except Int (List UInt8) :=
  if x.body.length < x.len ∨ 1488 < x.len then .error 42
  else match parseR (x.out s t) with
    | .ok _ => .ok (x.out s t)
    | .error _ => .error 42
theorem len_lt (x : Bt) : x.len < 65536 := by have := x.h6.toNat_lt; have := x.h7.toNat_lt; unfold len; omega
theorem head_add (x y : Bt) : (x.add y).head = xb x.head y.head := by simp [add, head, xb, List.range_succ]
theorem same_iff (x y : Bt) : x.same y = true ↔ x.head = y.head ∧ ∀ i, x.body.getD i 0 = y.body.getD i 0 := by
  unfold same
  rw [Bool.and_eq_true, beq_iff_eq, gap0_iff]
theorem same_refl (x : Bt) : x.same x = true := (x.same_iff x).2 ⟨rfl, fun _ => rfl⟩
theorem add_self (x : Bt) : (x.add x).same zero = true := by
  rw [same_iff]
  refine ⟨by simp [add, head, zero], fun i => ?_⟩
  show (xb x.body x.body).getD i 0 = _
  rw [xb_get]
  simp [zero]
end Bt
/-- The imprint of bytes. -/
def imp (l : List UInt8) : Bt := ⟨l.getD 0 0 &&& 63, l.getD 1 0, l.getD 4 0, l.getD 5 0, l.getD 6 0, l.getD 7 0, UInt8.ofNat ((l.length - 12) / 256), UInt8.ofNat (l.length - 12), l.drop 12⟩
def impR (l : List UInt8) : Except Int Bt := match parseR l with | .ok _ => .ok (imp l) | .error k => .error k

/-- What stands behind a packet's first twelve bytes. -/
def Pkt.tail (p : Pkt) : List UInt8 := words4 p.csrc ++ p.extBytes ++ p.payload ++ p.pad
theorem beN2 (n : Nat) : beN n 2 = [UInt8.ofNat (n / 256), UInt8.ofNat n] := by simp [beN, List.range_succ]
theorem beN4 (n : Nat) : beN n 4 = [UInt8.ofNat (n / 16777216), UInt8.ofNat (n / 65536), UInt8.ofNat (n / 256), UInt8.ofNat n] := by simp [beN, List.range_succ]
theorem Pkt.bytes12 (p : Pkt) : p.bytes = ib p.first :: ib p.second :: (beN p.seq.toNat 2 ++ (beN p.ts.toNat 4 ++ (beN p.ssrc.toNat 4 ++ p.tail))) := by
  simp [Pkt.bytes, Pkt.head, Pkt.tail, List.append_assoc]
/-- The packet with another number and source. -/
def Pkt.put (p : Pkt) (s : UInt16) (t : UInt32) : Pkt := { p with seq := s, ssrc := t }
theorem Pkt.put_wrong (p : Pkt) (s : UInt16) (t : UInt32) : (p.put s t).wrong = p.wrong := rfl
theorem top_bits : ∀ n < 256, n / 64 = 2 → (128 ||| (UInt8.ofNat n &&& 63 &&& 63)) = UInt8.ofNat n := by decide +kernel
theorem imp_bytes (p : Pkt) : imp p.bytes = ⟨ib p.first &&& 63, ib p.second, UInt8.ofNat (p.ts.toNat / 16777216), UInt8.ofNat (p.ts.toNat / 65536), UInt8.ofNat (p.ts.toNat / 256), UInt8.ofNat p.ts.toNat, UInt8.ofNat (p.tail.length / 256), UInt8.ofNat p.tail.length, p.tail⟩ := by
  rw [p.bytes12]
  simp [imp, beN2, beN4]
theorem tail_len {p : Pkt} (hw : p.wrong = 0) : p.tail.length ≤ 1488 ∧ p.bytes.length = 12 + p.tail.length := by
  have h1 := bytes_len p
  have h2 := (Pkt.fit hw).size
  have h3 : p.bytes.length = 12 + p.tail.length := by rw [p.bytes12]; simp [beN_len]; omega
  omega
theorem ofNat_len {n : Nat} (h : n ≤ 1488) : (UInt8.ofNat (n / 256)).toNat * 256 + (UInt8.ofNat n).toNat = n := by
  rw [UInt8.toNat_ofNat', UInt8.toNat_ofNat']
  omega
theorem first_ib {p : Pkt} (hw : p.wrong = 0) : (128 ||| (ib p.first &&& 63 &&& 63)) = ib p.first := by
  have h := first_facts (Pkt.fit hw).csrc
  have e : ib p.first = UInt8.ofNat p.first := by unfold ib; congr 1; have := h.1; omega
  rw [e]
  exact top_bits _ h.1 h.2.1
theorem imp_len {p : Pkt} (hw : p.wrong = 0) : (imp p.bytes).len = p.tail.length := by
  rw [imp_bytes]
  exact ofNat_len (tail_len hw).1
/-- A packet's imprint, whatever stands behind its body, with a number and a source, is the packet's bytes with these. -/
theorem out_bytes {p : Pkt} (hw : p.wrong = 0) (more : List UInt8) (s : UInt16) (t : UInt32) : ({ imp p.bytes with body := (imp p.bytes).body ++ more } : Bt).out s t = (p.put s t).bytes := by
  have h1 : ({ imp p.bytes with body := (imp p.bytes).body ++ more } : Bt).len = p.tail.length := imp_len hw
  unfold Bt.out
  rw [h1, (p.put s t).bytes12, imp_bytes]
  have h2 := first_ib hw
  show [128 ||| (ib p.first &&& 63 &&& 63), ib p.second] ++ _ ++ _ ++ _ ++ _ = ib p.first :: ib p.second :: (beN s.toNat 2 ++ (beN p.ts.toNat 4 ++ (beN t.toNat 4 ++ p.tail)))
  rw [h2]
  simp [beN4]
theorem pack_bytes {p : Pkt} (hw : p.wrong = 0) (more : List UInt8) (s : UInt16) (t : UInt32) : ({ imp p.bytes with body := (imp p.bytes).body ++ more } : Bt).pack s t = .ok (p.put s t).bytes := by
  have h1 : ({ imp p.bytes with body := (imp p.bytes).body ++ more } : Bt).len = p.tail.length := imp_len hw
  have h2 : ({ imp p.bytes with body := (imp p.bytes).body ++ more } : Bt).body.length = p.tail.length + more.length := by
    show ((imp p.bytes).body ++ more).length = _
    rw [imp_bytes, List.length_append]
  have h3 := (tail_len hw).1
  unfold Bt.pack
  rw [h1, h2, if_neg (by omega), out_bytes hw, parse_bytes ((p.put_wrong s t).trans hw)]
theorem pack_bytes0 {p : Pkt} (hw : p.wrong = 0) (s : UInt16) (t : UInt32) : (imp p.bytes).pack s t = .ok (p.put s t).bytes := by
  have := pack_bytes hw [] s t
  rwa [List.append_nil] at this
theorem imp_put (p : Pkt) (s : UInt16) (t : UInt32) : imp (p.put s t).bytes = imp p.bytes := by
  rw [imp_bytes, imp_bytes]
  rfl
theorem Pkt.put_same (p : Pkt) : p.put p.seq p.ssrc = p := rfl

/-! ### one bit of a packet turned -/
theorem and_xor1 : ∀ a : UInt8, ((a ^^^ 1) &&& 63) ≠ a &&& 63 := by
  intro a h
  have h2 : ((a ^^^ 1) &&& 63) &&& 1 = (a &&& 63) &&& 1 := by rw [h]
  have h3 : ∀ n < 256, ((UInt8.ofNat n ^^^ 1) &&& 63) &&& 1 ≠ (UInt8.ofNat n &&& 63) &&& 1 := by decide +kernel
  have h4 := h3 a.toNat a.toNat_lt
  rw [UInt8.ofNat_toNat] at h4
  exact h4 h2
theorem xor1_ne (a : UInt8) : a ^^^ 1 ≠ a := by
  intro h
  exact and_xor1 a (by rw [h])
theorem imp_turn {l : List UInt8} {k : Nat} (hk : k < l.length) (hp : k < 2 ∨ 4 ≤ k ∧ k < 8 ∨ 12 ≤ k) : (imp l).same (imp (l.set k (l.getD k 0 ^^^ 1))) = false := by
  rw [← Bool.not_eq_true, Bt.same_iff]
  rintro ⟨h1, h2⟩
  have hg : (l.set k (l.getD k 0 ^^^ 1)).getD k 0 = l.getD k 0 ^^^ 1 := by simp [List.getD_eq_getElem?_getD, hk]
  have hne := xor1_ne (l.getD k 0)
  have hne2 := and_xor1 (l.getD k 0)
  unfold Bt.head imp at h1
  simp only [List.cons.injEq, and_true, List.length_set] at h1
  obtain ⟨e0, e1, e2, e3, e4, e5⟩ := h1
  rcases hp with hp | hp | hp
  · have hk01 : k = 0 ∨ k = 1 := by omega
    rcases hk01 with rfl | rfl
    · rw [hg] at e0; exact hne2 e0.symm
    · rw [hg] at e1; exact hne e1.symm
  · have hk47 : k = 4 ∨ k = 5 ∨ k = 6 ∨ k = 7 := by omega
    rcases hk47 with rfl | rfl | rfl | rfl
    · rw [hg] at e2; exact hne e2.symm
    · rw [hg] at e3; exact hne e3.symm
    · rw [hg] at e4; exact hne e4.symm
    · rw [hg] at e5; exact hne e5.symm
  · have := h2 (k - 12)
    have e1 : ∀ m : List UInt8, (imp m).body.getD (k - 12) 0 = m.getD k 0 := fun m => by
      show (m.drop 12).getD (k - 12) 0 = _
      rw [List.getD_eq_getElem?_getD, List.getD_eq_getElem?_getD, List.getElem?_drop]
      congr 2
      omega
    rw [e1, e1, hg] at this
    exact hne this.symm

/-! ### many imprints -/
def Bt.byte (x : Bt) (i : Nat) : UInt8 := (x.head ++ x.body).getD i 0
theorem Bt.head_len (x : Bt) : x.head.length = 8 := rfl
theorem Bt.byte_head (x : Bt) {i : Nat} (h : i < 8) : x.byte i = x.head.getD i 0 := by
  unfold byte
  rw [List.getD_eq_getElem?_getD, List.getD_eq_getElem?_getD, List.getElem?_append_left (by rw [x.head_len]; exact h)]
theorem Bt.byte_body (x : Bt) (i : Nat) : x.byte (8 + i) = x.body.getD i 0 := by
  unfold byte
  rw [List.getD_eq_getElem?_getD, List.getD_eq_getElem?_getD, List.getElem?_append_right (by rw [x.head_len]; omega)]
  congr 2
  rw [x.head_len]
  omega
theorem Bt.byte_add (x y : Bt) (i : Nat) : (x.add y).byte i = x.byte i ^^^ y.byte i := by
  by_cases h : i < 8
  · rw [byte_head _ h, byte_head _ h, byte_head _ h, head_add, xb_get]
  · obtain ⟨j, rfl⟩ : ∃ j, i = 8 + j := ⟨i - 8, by omega⟩
    rw [byte_body, byte_body, byte_body]
    exact xb_get _ _ _
theorem Bt.same_byte (x y : Bt) : x.same y = true ↔ ∀ i, x.byte i = y.byte i := by
  rw [same_iff]
  constructor
  · rintro ⟨h1, h2⟩ i
    by_cases h : i < 8
    · rw [byte_head _ h, byte_head _ h, h1]
    · obtain ⟨j, rfl⟩ : ∃ j, i = 8 + j := ⟨i - 8, by omega⟩
      rw [byte_body, byte_body, h2]
  · intro h
    refine ⟨ext_getD rfl fun i => ?_, fun i => by rw [← byte_body, ← byte_body, h]⟩
    by_cases hi : i < 8
    · rw [← byte_head _ hi, ← byte_head _ hi, h]
    · rw [List.getD_eq_getElem?_getD, List.getD_eq_getElem?_getD, List.getElem?_eq_none_iff.2 (by rw [head_len]; omega), List.getElem?_eq_none_iff.2 (by rw [head_len]; omega)]
/-- All imprints held against each other; all but one more once. -/
def Bt.all (xs : List Bt) : Bt := xs.foldl Bt.add Bt.zero
def Bt.skip (at_ : Nat) : Nat → List Bt → Bt → Bt
  | _, [], r => r
  | i, x :: xs, r => Bt.skip at_ (i + 1) xs (if i = at_ then r else r.add x)
theorem Bt.zero_byte (i : Nat) : Bt.zero.byte i = 0 := by
  by_cases h : i < 8
  · rw [byte_head _ h]
    rcases (by omega : i = 0 ∨ i = 1 ∨ i = 2 ∨ i = 3 ∨ i = 4 ∨ i = 5 ∨ i = 6 ∨ i = 7) with rfl | rfl | rfl | rfl | rfl | rfl | rfl | rfl <;> rfl
  · obtain ⟨j, rfl⟩ : ∃ j, i = 8 + j := ⟨i - 8, by omega⟩
    rw [byte_body]
    rfl
def xorAll (f : Bt → UInt8) (xs : List Bt) : UInt8 := xs.foldl (fun a x => a ^^^ f x) 0
theorem foldl_xor (f : Bt → UInt8) (xs : List Bt) : ∀ z, xs.foldl (fun a x => a ^^^ f x) z = z ^^^ xorAll f xs := by
  induction xs with
  | nil => intro z; simp [xorAll]
  | cons x xs ih =>
    intro z
    unfold xorAll
    rw [List.foldl_cons, List.foldl_cons, ih, ih (0 ^^^ f x)]
    simp [UInt8.xor_assoc]
theorem xorAll_cons (f : Bt → UInt8) (x : Bt) (xs : List Bt) : xorAll f (x :: xs) = f x ^^^ xorAll f xs := by
  have h := foldl_xor f xs (f x)
  unfold xorAll at h ⊢
  rw [List.foldl_cons, UInt8.zero_xor]
  exact h
theorem Bt.fold_byte (xs : List Bt) (i : Nat) : ∀ z : Bt, (xs.foldl Bt.add z).byte i = z.byte i ^^^ xorAll (·.byte i) xs := by
  induction xs with
  | nil => intro z; simp [xorAll]
  | cons x xs ih =>
    intro z
    rw [List.foldl_cons, ih, byte_add, UInt8.xor_assoc, xorAll_cons]
theorem Bt.skip_past {at_ : Nat} {i : Nat} (h : at_ < i) : ∀ (xs : List Bt) (r : Bt) (k : Nat), i ≤ k → Bt.skip at_ k xs r = xs.foldl Bt.add r
  | [], _, _, _ => rfl
  | x :: xs, r, k, hk => by
    unfold skip
    rw [if_neg (by omega), skip_past h xs _ (k + 1) (by omega)]
    rfl
theorem Bt.skip_byte {at_ : Nat} (i : Nat) : ∀ (xs : List Bt) (r : Bt) (k : Nat), k ≤ at_ → (h : at_ - k < xs.length) → (Bt.skip at_ k xs r).byte i = r.byte i ^^^ xorAll (·.byte i) xs ^^^ (xs[at_ - k]).byte i
  | [], _, _, _, h => by simp at h
  | x :: xs, r, k, hk, h => by
    have hx : xorAll (·.byte i) (x :: xs) = x.byte i ^^^ xorAll (·.byte i) xs := xorAll_cons _ _ _
    unfold skip
    by_cases e : k = at_
    · subst e
      rw [if_pos rfl, skip_past (i := k + 1) (by omega) _ _ _ (Nat.le_refl _), fold_byte, hx]
      simp only [Nat.sub_self, List.getElem_cons_zero]
      rw [UInt8.xor_comm (x.byte i), UInt8.xor_assoc, UInt8.xor_assoc, UInt8.xor_self, UInt8.xor_zero]
    · rw [if_neg e, skip_byte i xs _ (k + 1) (by omega) (by simp at h; omega), byte_add, hx]
      have e1 : at_ - k = (at_ - (k + 1)) + 1 := by omega
      simp only [e1, List.getElem_cons_succ]
      rw [UInt8.xor_assoc (r.byte i)]
theorem Bt.rest_same {xs : List Bt} {at_ : Nat} (h : at_ < xs.length) : (Bt.skip at_ 0 xs (Bt.all xs)).same xs[at_] = true := by
  rw [same_byte]
  intro i
  rw [skip_byte i xs _ 0 (Nat.zero_le _) (by simpa using h)]
  unfold all
  rw [fold_byte, zero_byte]
  simp
theorem Bt.add_body_len (x y : Bt) : (x.add y).body.length = max x.body.length y.body.length := xb_len _ _
theorem Bt.fold_len (xs : List Bt) : ∀ z : Bt, z.body.length ≤ (xs.foldl Bt.add z).body.length ∧ ∀ x ∈ xs, x.body.length ≤ (xs.foldl Bt.add z).body.length := by
  induction xs with
  | nil => intro z; exact ⟨Nat.le_refl _, fun _ h => by cases h⟩
  | cons x xs ih =>
    intro z
    rw [List.foldl_cons]
    have h := ih (z.add x)
    rw [add_body_len] at h
    refine ⟨by omega, fun y hy => ?_⟩
    rcases List.mem_cons.1 hy with rfl | hy
    · omega
    · exact h.2 y hy
theorem Bt.fold_small (xs : List Bt) (n : Nat) : ∀ z : Bt, z.body.length ≤ n → (∀ x ∈ xs, x.body.length ≤ n) → (xs.foldl Bt.add z).body.length ≤ n := by
  induction xs with
  | nil => intro z h _; exact h
  | cons x xs ih =>
    intro z h hx
    rw [List.foldl_cons]
    refine ih _ ?_ (fun y hy => hx y (by simp [hy]))
    rw [add_body_len]
    have := hx x (by simp)
    omega
theorem Bt.skip_len {at_ : Nat} : ∀ (xs : List Bt) (r : Bt) (k : Nat), r.body.length ≤ (Bt.skip at_ k xs r).body.length
  | [], _, _ => Nat.le_refl _
  | x :: xs, r, k => by
    unfold skip
    refine Nat.le_trans ?_ (skip_len xs _ (k + 1))
    split
    · exact Nat.le_refl _
    · rw [add_body_len]; omega
/-- What has the imprint's bytes, zeros behind or not, and is no shorter, is packed alike. -/
theorem Bt.pack_same {x y : Bt} (h : x.same y = true) (hl : y.body.length ≤ x.body.length) (hy : y.len = y.body.length) (s : UInt16) (t : UInt32) : x.pack s t = y.pack s t := by
  rw [same_iff] at h
  obtain ⟨h1, h2⟩ := h
  unfold head at h1
  simp only [List.cons.injEq, and_true] at h1
  obtain ⟨e0, e1, e2, e3, e4, e5, e6, e7⟩ := h1
  have el : x.len = y.len := by unfold len; rw [e6, e7]
  have et : x.body.take x.len = y.body.take y.len := by
    rw [el, hy]
    refine ext_getD (by simp; omega) fun i => ?_
    rw [List.getD_eq_getElem?_getD, List.getD_eq_getElem?_getD, List.getElem?_take, List.getElem?_take]
    split
    · rw [← List.getD_eq_getElem?_getD, ← List.getD_eq_getElem?_getD, h2]
    · rfl
  have eo : x.out s t = y.out s t := by
    unfold out
    rw [et, e0, e1, e2, e3, e4, e5]
  unfold pack
  rw [eo, el]
  have c1 : ¬ x.body.length < y.len := by omega
  have c2 : ¬ y.body.length < y.len := by omega
  simp only [c1, c2, false_or]
end Go.Proofs.Ytchbgiindfoepaa
