/- Plain laws: what a written packet, or its first bytes, is parsed as. -/
import Derived.Test.YtchbgiindfoepaaRtpWrite2
namespace Go.Proofs.Ytchbgiindfoepaa
open Go.RowKit

theorem beN_succ (n m : Nat) : beN n (m + 1) = beN (n / 256) m ++ [UInt8.ofNat n] := by
  unfold beN
  rw [List.range_succ, List.map_append]
  congr 1
  · refine List.map_congr_left fun j hj => ?_
    have hj' := List.mem_range.1 hj
    rw [show m + 1 - 1 - j = (m - 1 - j) + 1 by omega, Nat.pow_succ, Nat.mul_comm, Nat.div_div_eq_div_mul]
  · simp
theorem be_beN : ∀ (m n : Nat), be (beN n m) = n % 256 ^ m
  | 0, n => by simp [beN, be, Nat.mod_one]
  | m + 1, n => by
    rw [beN_succ, be_snoc, be_beN m (n / 256)]
    have h1 : (UInt8.ofNat n).toNat = n % 256 := by simp
    rw [h1, Nat.pow_succ, Nat.mul_comm (256 ^ m) 256, Nat.mod_mul]
    omega
/-- A number that stands behind k bytes. -/
theorem nb_at {a b : List UInt8} {k n m : Nat} (hk : a.length = k) : nb (a ++ (beN n m ++ b)) k m = n % 256 ^ m := by
  subst hk
  unfold nb
  rw [List.drop_left, List.take_append_of_le_length (by rw [beN_len]; omega), List.take_of_length_le (by rw [beN_len]; omega), be_beN]
theorem nb_take {l : List UInt8} {k m c : Nat} (h : k + m ≤ c) : nb (l.take c) k m = nb l k m := by
  unfold nb
  rw [List.drop_take, List.take_take, Nat.min_eq_left (by omega)]

/-- What wrong = 0 says. -/
structure Pkt.Fit (p : Pkt) : Prop where
  pt0 : 0 ≤ p.pt
  pt1 : p.pt < 128
  ext : p.extOk = true
  pad : padOk p.pad = true
  csrc : p.csrc.length ≤ 15
  size : p.size ≤ 1500
theorem Pkt.fit {p : Pkt} (hwr : p.wrong = 0) : p.Fit := by
  unfold Pkt.wrong at hwr
  split at hwr
  · simp at hwr
  rename_i h
  split at hwr
  · simp at hwr
  split at hwr
  · simp at hwr
  refine ⟨Int.not_lt.1 fun h' => h (.inl h'), Int.not_le.1 fun h' => h (.inr (.inl h')), ?_, ?_, by omega, by omega⟩
  · cases he : p.extOk with
    | true => rfl
    | false => exact absurd (.inr (.inr (.inl he))) h
  · cases he : padOk p.pad with
    | true => rfl
    | false => exact absurd (.inr (.inr (.inr he))) h

/-- How many bytes stand ahead of the payload. -/
def Pkt.hs (p : Pkt) : Nat := 12 + 4 * p.csrc.length + if p.hasExt then 4 + p.ext.length else 0
theorem Pkt.size_hs (p : Pkt) : p.size = p.hs + p.payload.length + p.pad.length := by
  unfold Pkt.size Pkt.hs; omega
theorem head_len (p : Pkt) : p.head.length = 12 := by simp [Pkt.head, beN_len]
theorem ext_len (p : Pkt) : p.extBytes.length = if p.hasExt then 4 + p.ext.length else 0 := by
  unfold Pkt.extBytes
  split
  · simp [beN_len]; omega
  · rfl
theorem bytes_len (p : Pkt) : p.bytes.length = p.size := by
  unfold Pkt.bytes
  rw [List.length_append, List.length_append, List.length_append, List.length_append, head_len, words4_len, ext_len, p.size_hs]
  unfold Pkt.hs
  omega
theorem first_facts {p : Pkt} (h : p.csrc.length ≤ 15) : p.first < 256 ∧ p.first / 64 = 2 ∧ p.first % 16 = p.csrc.length ∧ (p.first / 16 % 2 == 1) = p.hasExt ∧ (p.first / 32 % 2 == 1) = decide (0 < p.pad.length) := by
  unfold Pkt.first
  cases p.hasExt <;> by_cases h0 : 0 < p.pad.length <;> simp only [h0, if_true, if_false, Bool.false_eq_true, decide_true, decide_false, beq_iff_eq, beq_eq_false_iff_ne, ne_eq] <;> omega
theorem nb0 (p : Pkt) (h : p.csrc.length ≤ 15) : nb p.bytes 0 1 = p.first := by
  have hf := (first_facts h).1
  have : p.bytes = [] ++ (beN p.first 1 ++ ([ib p.second] ++ beN p.seq.toNat 2 ++ beN p.ts.toNat 4 ++ beN p.ssrc.toNat 4 ++ words4 p.csrc ++ p.extBytes ++ p.payload ++ p.pad)) := by
    have h1 : beN p.first 1 = [ib p.first] := by
      simp only [beN, List.range_succ, List.range_zero, List.nil_append, List.map_cons, List.map_nil, Nat.sub_self, Nat.pow_zero, Nat.div_one, ib]
      congr 2
      omega
    rw [h1]
    simp [Pkt.bytes, Pkt.head, List.append_assoc]
  rw [this, nb_at (k := 0) (a := []) rfl]
  omega
theorem nb2 (p : Pkt) : nb p.bytes 2 2 = p.seq.toNat := by
  have : p.bytes = [ib p.first, ib p.second] ++ (beN p.seq.toNat 2 ++ (beN p.ts.toNat 4 ++ beN p.ssrc.toNat 4 ++ words4 p.csrc ++ p.extBytes ++ p.payload ++ p.pad)) := by
    simp [Pkt.bytes, Pkt.head, List.append_assoc]
  rw [this, nb_at (k := 2) (a := [ib p.first, ib p.second]) rfl]
  have := p.seq.toNat_lt
  omega
theorem nbExt {p : Pkt} (he : p.hasExt = true) : nb p.bytes (12 + 4 * p.csrc.length + 2) 2 = p.ext.length / 4 % 65536 := by
  have : p.bytes = (p.head ++ words4 p.csrc ++ beN p.profile.toNat 2) ++ (beN (p.ext.length / 4 % 65536) 2 ++ (p.ext ++ p.payload ++ p.pad)) := by
    simp [Pkt.bytes, Pkt.extBytes, he, List.append_assoc]
  rw [this, nb_at (by rw [List.length_append, List.length_append, head_len, words4_len, beN_len])]
  omega
theorem drop_hs (p : Pkt) : p.bytes.drop p.hs = p.payload ++ p.pad := by
  have : p.bytes = (p.head ++ words4 p.csrc ++ p.extBytes) ++ (p.payload ++ p.pad) := by simp [Pkt.bytes, List.append_assoc]
  rw [this, List.drop_left' (by rw [List.length_append, List.length_append, head_len, words4_len, ext_len]; rfl)]

/-- The first c bytes of a written packet. -/
theorem parse_cut {p : Pkt} (hw : p.wrong = 0) (c : Nat) (hc : c ≤ p.bytes.length) :
    (c < p.hs ∧ parseR (p.bytes.take c) = .error 20) ∨
    (p.hs ≤ c ∧ p.pad.length = 0 ∧ ∃ q, parseR (p.bytes.take c) = .ok q ∧ q.payload = p.payload.take (c - p.hs) ∧ q.seq = p.seq) ∨
    (p.hs ≤ c ∧ 0 < p.pad.length ∧ ((∃ q, parseR (p.bytes.take c) = .ok q) ∨ parseR (p.bytes.take c) = .error 21)) := by
  have F := Pkt.fit hw
  have hlen : (p.bytes.take c).length = c := by rw [List.length_take]; omega
  have hcs := F.csrc
  obtain ⟨f0, f1, f2, f3, f4⟩ := first_facts hcs
  have hR : parseR (p.bytes.take c) = parseP (p.bytes.take c) := by
    unfold parseR
    rw [if_neg (by rw [hlen]; have := F.size; rw [bytes_len] at hc; omega)]
  rw [hR]
  have hb := bytes_len p
  have h12 : 12 ≤ p.hs := by unfold Pkt.hs; omega
  by_cases c1 : c < 1
  · exact .inl ⟨by omega, by unfold parseP; rw [if_pos (by omega)]⟩
  have n0 : nb (p.bytes.take c) 0 1 = p.first := by rw [nb_take (by omega), nb0 p hcs]
  by_cases c2 : c < 12
  · exact .inl ⟨by omega, by unfold parseP; rw [if_neg (by omega), n0, f1, if_neg (by simp), if_pos (by omega)]⟩
  by_cases c3 : c < 12 + 4 * p.csrc.length
  · exact .inl ⟨by unfold Pkt.hs; omega, by unfold parseP; rw [if_neg (by omega), n0, f1, if_neg (by simp), if_neg (by omega)]; simp only [f2]; rw [if_pos (by omega)]⟩
  have hk2 : (if (p.first / 16 % 2 == 1) = true then 12 + 4 * p.csrc.length + 4 + 4 * nb (p.bytes.take c) (12 + 4 * p.csrc.length + 2) 2 else 12 + 4 * p.csrc.length) ≤ c → (if (p.first / 16 % 2 == 1) = true then 12 + 4 * p.csrc.length + 4 + 4 * nb (p.bytes.take c) (12 + 4 * p.csrc.length + 2) 2 else 12 + 4 * p.csrc.length) = p.hs := by
    rw [f3]
    unfold Pkt.hs
    cases he : p.hasExt with
    | false => intro _; simp
    | true =>
      simp only [if_true]
      intro h
      rw [nb_take (by omega), nbExt he]
      have hx := F.ext
      unfold Pkt.extOk at hx
      rw [he] at hx
      simp at hx
      omega
  have hk3 : c < (if (p.first / 16 % 2 == 1) = true then 12 + 4 * p.csrc.length + 4 + 4 * nb (p.bytes.take c) (12 + 4 * p.csrc.length + 2) 2 else 12 + 4 * p.csrc.length) → c < p.hs := by
    rw [f3]
    unfold Pkt.hs
    cases he : p.hasExt with
    | false => intro h; simpa using h
    | true =>
      simp only [if_true]
      intro h
      by_cases h4 : 12 + 4 * p.csrc.length + 2 + 2 ≤ c
      · rw [nb_take h4, nbExt he] at h
        have hx := F.ext
        unfold Pkt.extOk at hx
        rw [he] at hx
        simp at hx
        omega
      · omega
  by_cases c4 : c < (if (p.first / 16 % 2 == 1) = true then 12 + 4 * p.csrc.length + 4 + 4 * nb (p.bytes.take c) (12 + 4 * p.csrc.length + 2) 2 else 12 + 4 * p.csrc.length)
  · exact .inl ⟨hk3 c4, by unfold parseP; rw [if_neg (by omega), n0, f1, if_neg (by simp), if_neg (by omega)]; simp only [f2]; rw [if_neg (by omega), hlen, if_pos c4]⟩
  have hk := hk2 (by omega)
  have hhs : p.hs ≤ c := by omega
  by_cases hp : 0 < p.pad.length
  · refine .inr (.inr ⟨hhs, hp, ?_⟩)
    unfold parseP
    rw [if_neg (by omega), n0, f1, if_neg (by simp), if_neg (by omega)]
    simp only [f2]
    rw [if_neg (by omega), hlen, if_neg c4, f4, if_pos (by simpa using hp), hk]
    split
    · exact .inr rfl
    · exact .inl ⟨_, rfl⟩
  · refine .inr (.inl ⟨hhs, by omega, ?_⟩)
    unfold parseP
    rw [if_neg (by omega), n0, f1, if_neg (by simp), if_neg (by omega)]
    simp only [f2]
    rw [if_neg (by omega), hlen, if_neg c4, f4, if_neg (by simpa using hp), hk]
    refine ⟨_, rfl, ?_, ?_⟩
    · simp only [hdr]
      rw [List.drop_take, drop_hs]
      have : p.pad = [] := List.eq_nil_of_length_eq_zero (by omega)
      rw [this, List.append_nil]
    · simp only [hdr]
      rw [nb_take (by omega), nb2]
      simp
end Go.Proofs.Ytchbgiindfoepaa
