import Derived.Test.YtcmpjkopdjncdaaMw16
import Derived.Test.YtcmpjkopdjncdaaMw10
import Derived.Test.YtcmpjkopdjncdaaMw13
/- The walks of package rtp that write. -/
namespace Go.Proofs.Ytcmpjkopdjncdaa
open Go.RowKit

/-- The lists of a packet are no longer than a machine can hold. -/
def Pkt.Small (p : Pkt) : Prop := p.csrc.length ≤ 1099511627776 ∧ p.ext.length ≤ 1099511627776 ∧ p.payload.length ≤ 1099511627776 ∧ p.pad.length ≤ 1099511627776
def Pkt.size (p : Pkt) : Nat := 12 + 4 * p.csrc.length + p.payload.length + p.pad.length + if p.hasExt then 4 + p.ext.length else 0
def Pkt.extOk (p : Pkt) : Bool := if p.hasExt then p.ext.length % 4 == 0 && decide (p.ext.length ≤ 262140) else p.profile == 0 && p.ext.length == 0
def padOk (l : List UInt8) : Bool := l.length == 0 || (decide (l.length ≤ 255) && padN l == l.length)
def Pkt.wrong (p : Pkt) : Int :=
  if p.pt < 0 ∨ 128 ≤ p.pt ∨ p.extOk = false ∨ padOk p.pad = false then 1 else if 15 < p.csrc.length then 3 else if 1500 < p.size then 2 else 0
def Pkt.first (p : Pkt) : Nat := 128 + p.csrc.length + (if 0 < p.pad.length then 32 else 0) + if p.hasExt then 16 else 0

theorem PktV.open_ {w : World} {base : Nat} {v : Value} {p : Pkt} (h : PktV w base v p) :
    ∃ a1 c1 a2 c2 a3 c3 a4 c4, v = .agg (pc p.marker p.pt p.seq.toNat p.ts.toNat p.ssrc.toNat (.slice a1 p.csrc.length c1) p.hasExt p.profile.toNat (.slice a2 p.ext.length c2) (.slice a3 p.payload.length c3) (.slice a4 p.pad.length c4)) ∧
      Words w (.slice a1 p.csrc.length c1) p.csrc ∧ Bytes w (.slice a2 p.ext.length c2) p.ext ∧ Bytes w (.slice a3 p.payload.length c3) p.payload ∧ Bytes w (.slice a4 p.pad.length c4) p.pad := by
  obtain ⟨cs, ex, pl, pd, rfl, h1, h2, h3, h4, h5⟩ := h
  obtain ⟨a1, c1, rfl⟩ := h1.shape
  obtain ⟨a2, c2, rfl⟩ := h2.shape
  obtain ⟨a3, c3, rfl⟩ := h3.shape
  obtain ⟨a4, c4, rfl⟩ := h4.shape
  simp only [List.length_map] at *
  exact ⟨a1, c1, a2, c2, a3, c3, a4, c4, rfl, h1, h2, h3, h4⟩

theorem ret_bool {a b : Bool} (h : a = b) : Ending.returned (.bool a) = .returned (.bool b) := by rw [h]
theorem int_nat_beq0 (n : Nat) : (((n : Nat) : Int) == 0) = (n == 0) := by
  rw [Bool.eq_iff_iff]; simp

theorem Box.pcells {w : World} {g : Nat} {t : TypeId} {m : Bool} {pt : Int} {sq ts ss : Nat} {cs : Value} {he : Bool} {pf : Nat} {ex pl pd : Value} (h : Box w g t (pc m pt sq ts ss cs he pf ex pl pd)) :
    w.cell? ⟨g, 0, none⟩ = some (.bool m) ∧ w.cell? ⟨g, 1, none⟩ = some (.int .i64 pt) ∧ w.cell? ⟨g, 2, none⟩ = some (.int .u16 sq) ∧ w.cell? ⟨g, 3, none⟩ = some (.int .u32 ts) ∧ w.cell? ⟨g, 4, none⟩ = some (.int .u32 ss) ∧ w.cell? ⟨g, 5, none⟩ = some cs ∧ w.cell? ⟨g, 6, none⟩ = some (.bool he) ∧ w.cell? ⟨g, 7, none⟩ = some (.int .u16 pf) ∧ w.cell? ⟨g, 8, none⟩ = some ex ∧ w.cell? ⟨g, 9, none⟩ = some pl ∧ w.cell? ⟨g, 10, none⟩ = some pd :=
  ⟨h.cell 0, h.cell 1, h.cell 2, h.cell 3, h.cell 4, h.cell 5, h.cell 6, h.cell 7, h.cell 8, h.cell 9, h.cell 10⟩

/-- A byte at the end. -/
theorem last_cell {w : World} {b o cap : Nat} {l : List UInt8} (hs : Bytes w (.slice (some ⟨b, o, none⟩) l.length cap) l) (hne : 0 < l.length) : w.cell? ⟨b, o + (l.length - 1), none⟩ = some (.int .u8 (padN l)) ∧ padN l ≤ 255 := by
  obtain ⟨b', o', e, hb, hcell⟩ := hs.at_ hne
  simp only [Option.some.injEq, Addr.mk.injEq, and_true] at e
  obtain ⟨rfl, rfl⟩ := e
  have hlast : l[l.length - 1]? = some (l[l.length - 1]'(by omega)) := List.getElem?_eq_getElem _
  have hc := hcell (l.length - 1) (B8 (l[l.length - 1]'(by omega))) (by rw [List.getElem?_map, hlast]; rfl)
  have hp : padN l = (l[l.length - 1]'(by omega)).toNat := by
    unfold padN
    rw [List.getLast?_eq_getElem?, hlast]
    rfl
  unfold B8 at hc
  rw [← hp] at hc
  exact ⟨hc, by rw [hp]; have := (l[l.length - 1]'(by omega)).toNat_lt; omega⟩

theorem or128 (n : Nat) (h : n < 16) : bits .or .i64 128 (n : Int) = ((128 + n : Nat) : Int) := by
  rw [show (128 : Int) = ((128 : Nat) : Int) from rfl, i64_or_nat _ _ (by omega) (by omega)]
  have := Nat.two_pow_add_eq_or_of_lt (i := 7) (b := n) (by omega) 1
  rw [← this]
theorem or_tests : ∀ n < 16, ((128 + n) ||| 32 = 128 + n + 32 ∧ (128 + n) ||| 16 = 128 + n + 16 ∧ (128 + n + 32) ||| 16 = 128 + n + 32 + 16) := by decide +kernel

end Go.Proofs.Ytcmpjkopdjncdaa

/- The walk of rtp.Write. -/
namespace Go.Proofs.Ytcmpjkopdjncdaa
open Go.RowKit

def Pkt.second (p : Pkt) : Int := p.pt + if p.marker then 128 else 0
def Pkt.head (p : Pkt) : List UInt8 := [ib p.first] ++ [ib p.second] ++ beN p.seq.toNat 2 ++ beN p.ts.toNat 4 ++ beN p.ssrc.toNat 4
def words4 (l : List UInt32) : List UInt8 := l.flatMap fun n => beN n.toNat 4
def Pkt.extBytes (p : Pkt) : List UInt8 := if p.hasExt then beN p.profile.toNat 2 ++ beN (p.ext.length / 4 % 65536) 2 ++ p.ext else []
/-- A packet as bytes. -/
def Pkt.bytes (p : Pkt) : List UInt8 := p.head ++ words4 p.csrc ++ p.extBytes ++ p.payload ++ p.pad

theorem words4_len (l : List UInt32) : (words4 l).length = 4 * l.length := by
  induction l with
  | nil => rfl
  | cons a l ih => simp only [words4, List.flatMap_cons, List.length_append, beN_len, List.length_cons] at *; omega
theorem pt_or (n : Int) (h0 : 0 ≤ n) (h1 : n < 128) : bits .or .i64 n 128 = n + 128 := by
  obtain ⟨m, rfl⟩ : ∃ m : Nat, n = m := ⟨n.toNat, by omega⟩
  rw [show (128 : Int) = ((128 : Nat) : Int) from rfl, i64_or_nat _ _ (by omega) (by omega), Nat.or_comm]
  have := Nat.two_pow_add_eq_or_of_lt (i := 7) (b := m) (by omega) 1
  rw [show (128 : Nat) = 2 ^ 7 * 1 from rfl, ← this]
  omega

end Go.Proofs.Ytcmpjkopdjncdaa

/- Plain laws: what a written packet, or its first bytes, is parsed as. -/
namespace Go.Proofs.Ytcmpjkopdjncdaa
open Go.RowKit

theorem beN_succ (n m : Nat) : beN n (m + 1) = beN (n / 256) m ++ [UInt8.ofNat n] := by
  unfold beN
  rw [List.range_succ, List.map_append]
  congr 1
  · refine List.map_congr_left fun j hj => ?_
    have hj' := List.mem_range.1 hj
    rw [show m + 1 - 1 - j = (m - 1 - j) + 1 by omega, Nat.pow_succ, Nat.mul_comm, Nat.div_div_eq_div_mul]
  · simp
theorem be_beN : ∀ (m n : Nat), be (beN n m) = n % 256 ^ m
  | 0, n => by simp [beN, be, Nat.mod_one]
  | m + 1, n => by
    rw [beN_succ, be_snoc, be_beN m (n / 256)]
    have h1 : (UInt8.ofNat n).toNat = n % 256 := by simp
    rw [h1, Nat.pow_succ, Nat.mul_comm (256 ^ m) 256, Nat.mod_mul]
    omega
/-- A number that stands behind k bytes. -/
theorem nb_at {a b : List UInt8} {k n m : Nat} (hk : a.length = k) : nb (a ++ (beN n m ++ b)) k m = n % 256 ^ m := by
  subst hk
  unfold nb
  rw [List.drop_left, List.take_append_of_le_length (by rw [beN_len]; omega), List.take_of_length_le (by rw [beN_len]; omega), be_beN]
theorem nb_take {l : List UInt8} {k m c : Nat} (h : k + m ≤ c) : nb (l.take c) k m = nb l k m := by
  unfold nb
  rw [List.drop_take, List.take_take, Nat.min_eq_left (by omega)]

/-- What wrong = 0 says. -/
structure Pkt.Fit (p : Pkt) : Prop where
  pt0 : 0 ≤ p.pt
  pt1 : p.pt < 128
  ext : p.extOk = true
  pad : padOk p.pad = true
  csrc : p.csrc.length ≤ 15
  size : p.size ≤ 1500
theorem Pkt.fit {p : Pkt} (hwr : p.wrong = 0) : p.Fit := by
  unfold Pkt.wrong at hwr
  split at hwr
  · simp at hwr
  rename_i h
  split at hwr
  · simp at hwr
  split at hwr
  · simp at hwr
  refine ⟨Int.not_lt.1 fun h' => h (.inl h'), Int.not_le.1 fun h' => h (.inr (.inl h')), ?_, ?_, by omega, by omega⟩
  · cases he : p.extOk with
    | true => rfl
    | false => exact absurd (.inr (.inr (.inl he))) h
  · cases he : padOk p.pad with
    | true => rfl
    | false => exact absurd (.inr (.inr (.inr he))) h

/-- How many bytes stand ahead of the payload. -/
def Pkt.hs (p : Pkt) : Nat := 12 + 4 * p.csrc.length + if p.hasExt then 4 + p.ext.length else 0
theorem Pkt.size_hs (p : Pkt) : p.size = p.hs + p.payload.length + p.pad.length := by
  unfold Pkt.size Pkt.hs; omega
theorem head_len (p : Pkt) : p.head.length = 12 := by simp [Pkt.head, beN_len]
theorem ext_len (p : Pkt) : p.extBytes.length = if p.hasExt then 4 + p.ext.length else 0 := by
  unfold Pkt.extBytes
  split
  · simp [beN_len]; omega
  · rfl
theorem bytes_len (p : Pkt) : p.bytes.length = p.size := by
  unfold Pkt.bytes
  rw [List.length_append, List.length_append, List.length_append, List.length_append, head_len, words4_len, ext_len, p.size_hs]
  unfold Pkt.hs
  omega
theorem first_facts {p : Pkt} (h : p.csrc.length ≤ 15) : p.first < 256 ∧ p.first / 64 = 2 ∧ p.first % 16 = p.csrc.length ∧ (p.first / 16 % 2 == 1) = p.hasExt ∧ (p.first / 32 % 2 == 1) = decide (0 < p.pad.length) := by
  unfold Pkt.first
  cases p.hasExt <;> by_cases h0 : 0 < p.pad.length <;> simp only [h0, if_true, if_false, Bool.false_eq_true, decide_true, decide_false, beq_iff_eq, beq_eq_false_iff_ne, ne_eq] <;> omega
theorem nb0 (p : Pkt) (h : p.csrc.length ≤ 15) : nb p.bytes 0 1 = p.first := by
  have hf := (first_facts h).1
  have : p.bytes = [] ++ (beN p.first 1 ++ ([ib p.second] ++ beN p.seq.toNat 2 ++ beN p.ts.toNat 4 ++ beN p.ssrc.toNat 4 ++ words4 p.csrc ++ p.extBytes ++ p.payload ++ p.pad)) := by
    have h1 : beN p.first 1 = [ib p.first] := by
      simp only [beN, List.range_succ, List.range_zero, List.nil_append, List.map_cons, List.map_nil, Nat.sub_self, Nat.pow_zero, Nat.div_one, ib]
      congr 2
      omega
    rw [h1]
    simp [Pkt.bytes, Pkt.head, List.append_assoc]
  rw [this, nb_at (k := 0) (a := []) rfl]
  omega
theorem nb2 (p : Pkt) : nb p.bytes 2 2 = p.seq.toNat := by
  have : p.bytes = [ib p.first, ib p.second] ++ (beN p.seq.toNat 2 ++ (beN p.ts.toNat 4 ++ beN p.ssrc.toNat 4 ++ words4 p.csrc ++ p.extBytes ++ p.payload ++ p.pad)) := by
    simp [Pkt.bytes, Pkt.head, List.append_assoc]
  rw [this, nb_at (k := 2) (a := [ib p.first, ib p.second]) rfl]
  have := p.seq.toNat_lt
  omega
theorem nbExt {p : Pkt} (he : p.hasExt = true) : nb p.bytes (12 + 4 * p.csrc.length + 2) 2 = p.ext.length / 4 % 65536 := by
  have : p.bytes = (p.head ++ words4 p.csrc ++ beN p.profile.toNat 2) ++ (beN (p.ext.length / 4 % 65536) 2 ++ (p.ext ++ p.payload ++ p.pad)) := by
    simp [Pkt.bytes, Pkt.extBytes, he, List.append_assoc]
  rw [this, nb_at (by rw [List.length_append, List.length_append, head_len, words4_len, beN_len])]
  omega
theorem drop_hs (p : Pkt) : p.bytes.drop p.hs = p.payload ++ p.pad := by
  have : p.bytes = (p.head ++ words4 p.csrc ++ p.extBytes) ++ (p.payload ++ p.pad) := by simp [Pkt.bytes, List.append_assoc]
  rw [this, List.drop_left' (by rw [List.length_append, List.length_append, head_len, words4_len, ext_len]; rfl)]

/-- The first c bytes of a written packet. -/
theorem parse_cut {p : Pkt} (hw : p.wrong = 0) (c : Nat) (hc : c ≤ p.bytes.length) :
    (c < p.hs ∧ parseR (p.bytes.take c) = .error 20) ∨
    (p.hs ≤ c ∧ p.pad.length = 0 ∧ ∃ q, parseR (p.bytes.take c) = .ok q ∧ q.payload = p.payload.take (c - p.hs) ∧ q.seq = p.seq) ∨
    (p.hs ≤ c ∧ 0 < p.pad.length ∧ ((∃ q, parseR (p.bytes.take c) = .ok q) ∨ parseR (p.bytes.take c) = .error 21)) := by
  have F := Pkt.fit hw
  have hlen : (p.bytes.take c).length = c := by rw [List.length_take]; omega
  have hcs := F.csrc
  obtain ⟨f0, f1, f2, f3, f4⟩ := first_facts hcs
  have hR : parseR (p.bytes.take c) = parseP (p.bytes.take c) := by
    unfold parseR
    rw [if_neg (by rw [hlen]; have := F.size; rw [bytes_len] at hc; omega)]
  rw [hR]
  have hb := bytes_len p
  have h12 : 12 ≤ p.hs := by unfold Pkt.hs; omega
  by_cases c1 : c < 1
  · exact .inl ⟨by omega, by unfold parseP; rw [if_pos (by omega)]⟩
  have n0 : nb (p.bytes.take c) 0 1 = p.first := by rw [nb_take (by omega), nb0 p hcs]
  by_cases c2 : c < 12
  · exact .inl ⟨by omega, by unfold parseP; rw [if_neg (by omega), n0, f1, if_neg (by simp), if_pos (by omega)]⟩
  by_cases c3 : c < 12 + 4 * p.csrc.length
  · exact .inl ⟨by unfold Pkt.hs; omega, by unfold parseP; rw [if_neg (by omega), n0, f1, if_neg (by simp), if_neg (by omega)]; simp only [f2]; rw [if_pos (by omega)]⟩
  have hk2 : (if (p.first / 16 % 2 == 1) = true then 12 + 4 * p.csrc.length + 4 + 4 * nb (p.bytes.take c) (12 + 4 * p.csrc.length + 2) 2 else 12 + 4 * p.csrc.length) ≤ c → (if (p.first / 16 % 2 == 1) = true then 12 + 4 * p.csrc.length + 4 + 4 * nb (p.bytes.take c) (12 + 4 * p.csrc.length + 2) 2 else 12 + 4 * p.csrc.length) = p.hs := by
    rw [f3]
    unfold Pkt.hs
    cases he : p.hasExt with
    | false => intro _; simp
    | true =>
      simp only [if_true]
      intro h
      rw [nb_take (by omega), nbExt he]
      have hx := F.ext
      unfold Pkt.extOk at hx
      rw [he] at hx
      simp at hx
      omega
  have hk3 : c < (if (p.first / 16 % 2 == 1) = true then 12 + 4 * p.csrc.length + 4 + 4 * nb (p.bytes.take c) (12 + 4 * p.csrc.length + 2) 2 else 12 + 4 * p.csrc.length) → c < p.hs := by
    rw [f3]
    unfold Pkt.hs
    cases he : p.hasExt with
    | false => intro h; simpa using h
    | true =>
      simp only [if_true]
      intro h
      by_cases h4 : 12 + 4 * p.csrc.length + 2 + 2 ≤ c
      · rw [nb_take h4, nbExt he] at h
        have hx := F.ext
        unfold Pkt.extOk at hx
        rw [he] at hx
        simp at hx
        omega
      · omega
  by_cases c4 : c < (if (p.first / 16 % 2 == 1) = true then 12 + 4 * p.csrc.length + 4 + 4 * nb (p.bytes.take c) (12 + 4 * p.csrc.length + 2) 2 else 12 + 4 * p.csrc.length)
  · exact .inl ⟨hk3 c4, by unfold parseP; rw [if_neg (by omega), n0, f1, if_neg (by simp), if_neg (by omega)]; simp only [f2]; rw [if_neg (by omega), hlen, if_pos c4]⟩
  have hk := hk2 (by omega)
  have hhs : p.hs ≤ c := by omega
  by_cases hp : 0 < p.pad.length
  · refine .inr (.inr ⟨hhs, hp, ?_⟩)
    unfold parseP
    rw [if_neg (by omega), n0, f1, if_neg (by simp), if_neg (by omega)]
    simp only [f2]
    rw [if_neg (by omega), hlen, if_neg c4, f4, if_pos (by simpa using hp), hk]
    split
    · exact .inr rfl
    · exact .inl ⟨_, rfl⟩
  · refine .inr (.inl ⟨hhs, by omega, ?_⟩)
    unfold parseP
    rw [if_neg (by omega), n0, f1, if_neg (by simp), if_neg (by omega)]
    simp only [f2]
    rw [if_neg (by omega), hlen, if_neg c4, f4, if_neg (by simpa using hp), hk]
    refine ⟨_, rfl, ?_, ?_⟩
    · simp only [hdr]
      rw [List.drop_take, drop_hs]
      have : p.pad = [] := List.eq_nil_of_length_eq_zero (by omega)
      rw [this, List.append_nil]
    · simp only [hdr]
      rw [nb_take (by omega), nb2]
      simp
end Go.Proofs.Ytcmpjkopdjncdaa

/- Plain laws: a written packet is parsed as itself; what is parsed is written as the same bytes. -/
namespace Go.Proofs.Ytcmpjkopdjncdaa
open Go.RowKit

theorem nb1 {p : Pkt} (h0 : 0 ≤ p.pt) (h1 : p.pt < 128) : ((nb p.bytes 1 1 : Nat) : Int) = p.second := by
  have hs : 0 ≤ p.second ∧ p.second < 256 := by unfold Pkt.second; split <;> omega
  obtain ⟨n, hn⟩ : ∃ n : Nat, p.second = n := ⟨p.second.toNat, by omega⟩
  have : p.bytes = [ib p.first] ++ (beN n 1 ++ (beN p.seq.toNat 2 ++ beN p.ts.toNat 4 ++ beN p.ssrc.toNat 4 ++ words4 p.csrc ++ p.extBytes ++ p.payload ++ p.pad)) := by
    have h1 : beN n 1 = [ib p.second] := by
      simp only [beN, List.range_succ, List.range_zero, List.nil_append, List.map_cons, List.map_nil, Nat.sub_self, Nat.pow_zero, Nat.div_one, ib, hn]
      congr 2
      omega
    rw [h1]
    simp [Pkt.bytes, Pkt.head, List.append_assoc]
  rw [this, nb_at (k := 1) (a := [ib p.first]) rfl]
  omega
theorem nb4 (p : Pkt) : nb p.bytes 4 4 = p.ts.toNat := by
  have : p.bytes = ([ib p.first, ib p.second] ++ beN p.seq.toNat 2) ++ (beN p.ts.toNat 4 ++ (beN p.ssrc.toNat 4 ++ words4 p.csrc ++ p.extBytes ++ p.payload ++ p.pad)) := by
    simp [Pkt.bytes, Pkt.head, List.append_assoc]
  rw [this, nb_at (k := 4) (by simp [beN_len])]
  have := p.ts.toNat_lt
  omega
theorem nb8 (p : Pkt) : nb p.bytes 8 4 = p.ssrc.toNat := by
  have : p.bytes = ([ib p.first, ib p.second] ++ beN p.seq.toNat 2 ++ beN p.ts.toNat 4) ++ (beN p.ssrc.toNat 4 ++ (words4 p.csrc ++ p.extBytes ++ p.payload ++ p.pad)) := by
    simp [Pkt.bytes, Pkt.head, List.append_assoc]
  rw [this, nb_at (k := 8) (by simp [beN_len])]
  have := p.ssrc.toNat_lt
  omega
theorem words4_append (a b : List UInt32) : words4 (a ++ b) = words4 a ++ words4 b := by simp [words4]
theorem nbW {p : Pkt} (i : Nat) (hi : i < p.csrc.length) : nb p.bytes (12 + 4 * i) 4 = p.csrc[i].toNat := by
  have hc : p.csrc = p.csrc.take i ++ (p.csrc[i] :: p.csrc.drop (i + 1)) := by rw [List.getElem_cons_drop, List.take_append_drop]
  have hw : words4 p.csrc = words4 (p.csrc.take i) ++ (beN p.csrc[i].toNat 4 ++ words4 (p.csrc.drop (i + 1))) := by
    have := words4_append (p.csrc.take i) (p.csrc[i] :: p.csrc.drop (i + 1))
    rw [← hc] at this
    rw [this]
    rfl
  have : p.bytes = (p.head ++ words4 (p.csrc.take i)) ++ (beN p.csrc[i].toNat 4 ++ (words4 (p.csrc.drop (i + 1)) ++ p.extBytes ++ p.payload ++ p.pad)) := by
    unfold Pkt.bytes
    rw [hw]
    simp [List.append_assoc]
  rw [this, nb_at (by rw [List.length_append, head_len, words4_len, List.length_take]; omega)]
  have := p.csrc[i].toNat_lt
  omega
theorem w32s_bytes (p : Pkt) : w32s p.bytes 12 p.csrc.length = p.csrc := by
  refine List.ext_getElem (by rw [w32s_len]) fun i h1 h2 => ?_
  simp only [w32s, List.getElem_map, List.getElem_range]
  rw [nbW i h2]
  simp
theorem nbProf {p : Pkt} (he : p.hasExt = true) : nb p.bytes (12 + 4 * p.csrc.length) 2 = p.profile.toNat := by
  have : p.bytes = (p.head ++ words4 p.csrc) ++ (beN p.profile.toNat 2 ++ (beN (p.ext.length / 4 % 65536) 2 ++ p.ext ++ p.payload ++ p.pad)) := by
    simp [Pkt.bytes, Pkt.extBytes, he, List.append_assoc]
  rw [this, nb_at (by rw [List.length_append, head_len, words4_len])]
  have := p.profile.toNat_lt
  omega
theorem drop_ext {p : Pkt} (he : p.hasExt = true) : p.bytes.drop (12 + 4 * p.csrc.length + 4) = p.ext ++ (p.payload ++ p.pad) := by
  have : p.bytes = (p.head ++ words4 p.csrc ++ beN p.profile.toNat 2 ++ beN (p.ext.length / 4 % 65536) 2) ++ (p.ext ++ (p.payload ++ p.pad)) := by
    simp [Pkt.bytes, Pkt.extBytes, he, List.append_assoc]
  rw [this, List.drop_left' (by rw [List.length_append, List.length_append, List.length_append, head_len, words4_len, beN_len, beN_len])]
theorem padN_append (a : List UInt8) {b : List UInt8} (h : 0 < b.length) : padN (a ++ b) = padN b := by
  unfold padN
  rw [List.getLast?_append]
  have hb : b ≠ [] := by intro e; subst e; simp at h
  rw [List.getLast?_eq_some_getLast hb]
  rfl

/-- A written packet is parsed as itself. -/
theorem parse_bytes {p : Pkt} (hw : p.wrong = 0) : parseR p.bytes = .ok p := by
  have F := Pkt.fit hw
  have hcs := F.csrc
  obtain ⟨f0, f1, f2, f3, f4⟩ := first_facts hcs
  have hb := bytes_len p
  have hsz := F.size
  have hss := p.size_hs
  have h12 : 12 + 4 * p.csrc.length ≤ p.hs := by unfold Pkt.hs; omega
  have n0 := nb0 p hcs
  have n1 := nb1 F.pt0 F.pt1
  have hx := F.ext
  unfold Pkt.extOk at hx
  have hk : (if (p.first / 16 % 2 == 1) = true then 12 + 4 * p.csrc.length + 4 + 4 * nb p.bytes (12 + 4 * p.csrc.length + 2) 2 else 12 + 4 * p.csrc.length) = p.hs := by
    rw [f3]
    unfold Pkt.hs
    cases he : p.hasExt with
    | false => simp
    | true =>
      rw [he] at hx
      simp at hx
      simp only [if_true]
      rw [nbExt he]
      omega
  have e0 : (nb p.bytes 1 1 / 128 % 2 == 1) = p.marker := by
    unfold Pkt.second at n1
    have := F.pt0; have := F.pt1
    cases hm : p.marker <;> rw [hm] at n1 <;> simp at n1 ⊢ <;> omega
  have e1 : ((nb p.bytes 1 1 % 128 : Nat) : Int) = p.pt := by
    unfold Pkt.second at n1
    have := F.pt0; have := F.pt1
    split at n1 <;> omega
  have e7 : (if p.hasExt = true then UInt16.ofNat (nb p.bytes (12 + 4 * p.csrc.length) 2) else 0) = p.profile := by
    cases he : p.hasExt with
    | false =>
      rw [he] at hx
      simp at hx
      simp [hx.1]
    | true =>
      rw [if_pos rfl, nbProf he]
      simp
  have e8 : (if p.hasExt = true then (p.bytes.drop (12 + 4 * p.csrc.length + 4)).take (4 * nb p.bytes (12 + 4 * p.csrc.length + 2) 2) else []) = p.ext := by
    cases he : p.hasExt with
    | false =>
      rw [he] at hx
      simp at hx
      simp [hx.2]
    | true =>
      rw [he] at hx
      simp at hx
      rw [if_pos rfl, nbExt he, drop_ext he, List.take_left' (by omega)]
  have hd := drop_hs p
  unfold parseR
  rw [if_neg (by omega)]
  unfold parseP
  rw [if_neg (by omega), n0, f1, if_neg (by simp), if_neg (by omega)]
  simp only [f2]
  rw [if_neg (by omega), hk, if_neg (by omega), f4, f3]
  by_cases hp : 0 < p.pad.length
  · have hpad := F.pad
    unfold padOk at hpad
    have hpn : padN p.pad = p.pad.length := by
      simp at hpad
      rcases hpad with h | h
      · rw [h] at hp; simp at hp
      · exact h.2
    rw [if_pos (by simpa using hp), hd, padN_append _ hp, hpn, List.length_append, if_neg (by omega)]
    congr 1
    rw [show p.payload.length + p.pad.length - p.pad.length = p.payload.length by omega, List.take_left' rfl, List.drop_left' rfl]
    simp only [hdr, n0, f2, e0, e1, nb2, nb4, nb8, w32s_bytes, e7, e8]
    simp
  · have hp0 : p.pad = [] := List.eq_nil_of_length_eq_zero (by omega)
    rw [if_neg (by simpa using hp)]
    congr 1
    simp only [hdr, n0, f2, e0, e1, nb2, nb4, nb8, w32s_bytes, e7, e8, hd, hp0, List.append_nil]
    cases p
    simp_all

theorem beN_be : ∀ (m : Nat) (x : List UInt8), x.length = m → beN (be x) m = x
  | 0, x, h => by rw [List.eq_nil_of_length_eq_zero h]; rfl
  | m + 1, x, h => by
    have hne : x ≠ [] := by intro e; subst e; simp at h
    have hx := List.dropLast_concat_getLast hne
    rw [← hx, be_snoc, beN_succ]
    have hl := (x.getLast hne).toNat_lt
    have h1 : (be x.dropLast * 256 + (x.getLast hne).toNat) / 256 = be x.dropLast := by omega
    have h2 : UInt8.ofNat (be x.dropLast * 256 + (x.getLast hne).toNat) = x.getLast hne := by
      apply UInt8.toNat_inj.1
      rw [UInt8.toNat_ofNat']
      omega
    rw [h1, h2, beN_be m x.dropLast (by rw [List.length_dropLast]; omega)]
theorem beN_nb {l : List UInt8} {k m : Nat} (h : k + m ≤ l.length) : beN (nb l k m) m = (l.drop k).take m :=
  beN_be m _ (by rw [List.length_take, List.length_drop]; omega)
theorem take_step (l : List UInt8) (a b : Nat) : l.take (a + b) = l.take a ++ (l.drop a).take b := List.take_add
theorem words4_w32s (l : List UInt8) : ∀ n, 12 + 4 * n ≤ l.length → words4 (w32s l 12 n) = (l.drop 12).take (4 * n)
  | 0, _ => rfl
  | n + 1, h => by
    rw [w32s_snoc, words4_append, words4_w32s l n (by omega), show 4 * (n + 1) = 4 * n + 4 by omega, take_step, List.drop_drop]
    congr 1
    show beN _ 4 ++ [] = _
    rw [List.append_nil, u32_nb, beN_nb (by omega)]

/-- What is parsed is written as the same bytes. -/
theorem parse_back {l : List UInt8} {q : Pkt} (h : parseR l = .ok q) : q.wrong = 0 ∧ q.bytes = l := by
  unfold parseR at h
  split at h
  · cases h
  rename_i h15
  unfold parseP at h
  split at h
  · cases h
  split at h
  · cases h
  rename_i h64
  split at h
  · cases h
  rename_i h12
  simp only at h
  split at h
  · cases h
  rename_i hk1
  generalize hk : (if (nb l 0 1 / 16 % 2 == 1) = true then 12 + 4 * (nb l 0 1 % 16) + 4 + 4 * nb l (12 + 4 * (nb l 0 1 % 16) + 2) 2 else 12 + 4 * (nb l 0 1 % 16)) = k2 at h
  split at h
  · cases h
  rename_i hk2
  have hb0 : nb l 0 1 < 256 := by have := nb_lt l 0 1; simpa using this
  have hb1 : nb l 1 1 < 256 := by have := nb_lt l 1 1; simpa using this
  have main : ∀ q : Pkt, q.marker = (nb l 1 1 / 128 % 2 == 1) → q.pt = ((nb l 1 1 % 128 : Nat) : Int) → q.seq = UInt16.ofNat (nb l 2 2) → q.ts = UInt32.ofNat (nb l 4 4) → q.ssrc = UInt32.ofNat (nb l 8 4) → q.csrc = w32s l 12 (nb l 0 1 % 16) →
      q.hasExt = (nb l 0 1 / 16 % 2 == 1) → q.profile = (if (nb l 0 1 / 16 % 2 == 1) = true then UInt16.ofNat (nb l (12 + 4 * (nb l 0 1 % 16)) 2) else 0) →
      q.ext = (if (nb l 0 1 / 16 % 2 == 1) = true then (l.drop (12 + 4 * (nb l 0 1 % 16) + 4)).take (4 * nb l (12 + 4 * (nb l 0 1 % 16) + 2) 2) else []) →
      q.payload ++ q.pad = l.drop k2 → (nb l 0 1 / 32 % 2 == 1) = decide (0 < q.pad.length) → padOk q.pad = true → q.wrong = 0 ∧ q.bytes = l := by
    intro q m0 m1 m2 m3 m4 m5 m6 m7 m8 m9 m10 m11
    have hcl : q.csrc.length = nb l 0 1 % 16 := by rw [m5, w32s_len]
    have hfst : q.first = nb l 0 1 := by
      unfold Pkt.first
      rw [hcl, m6]
      have hd : decide (0 < q.pad.length) = (nb l 0 1 / 32 % 2 == 1) := m10.symm
      have h64' : nb l 0 1 / 64 = 2 := Classical.byContradiction h64
      by_cases c1 : 0 < q.pad.length <;> by_cases c2 : nb l 0 1 / 16 % 2 = 1 <;> simp [c1] at hd <;> simp [c1, c2] <;> omega
    have hsnd : q.second = (nb l 1 1 : Nat) := by
      unfold Pkt.second
      rw [m0, m1]
      by_cases c1 : nb l 1 1 / 128 % 2 = 1 <;> simp [c1] <;> omega
    have hhead : q.head = l.take 12 := by
      unfold Pkt.head
      rw [hfst, hsnd, m2, m3, m4, u16_nb, u32_nb, u32_nb, beN_nb (by omega), beN_nb (by omega), beN_nb (by omega)]
      have i0 : [ib ((nb l 0 1 : Nat) : Int)] = (l.drop 0).take 1 := by
        rw [← beN_nb (by omega)]
        simp only [beN, List.range_succ, List.range_zero, List.nil_append, List.map_cons, List.map_nil, Nat.sub_self, Nat.pow_zero, Nat.div_one, ib]
        congr 2
        omega
      have i1 : [ib ((nb l 1 1 : Nat) : Int)] = (l.drop 1).take 1 := by
        rw [← beN_nb (by omega)]
        simp only [beN, List.range_succ, List.range_zero, List.nil_append, List.map_cons, List.map_nil, Nat.sub_self, Nat.pow_zero, Nat.div_one, ib]
        congr 2
        omega
      rw [i0, i1, show (12 : Nat) = 1 + 1 + 2 + 4 + 4 from rfl, take_step l (1 + 1 + 2 + 4) 4, take_step l (1 + 1 + 2) 4, take_step l (1 + 1) 2, take_step l 1 1, List.drop_zero]
    have hwords : words4 q.csrc = (l.drop 12).take (4 * (nb l 0 1 % 16)) := by rw [m5, words4_w32s _ _ (by omega)]
    have hext : q.extBytes = (l.drop (12 + 4 * (nb l 0 1 % 16))).take (k2 - (12 + 4 * (nb l 0 1 % 16))) ∧ 12 + 4 * (nb l 0 1 % 16) ≤ k2 ∧ q.extOk = true := by
      unfold Pkt.extBytes Pkt.extOk
      rw [m6]
      cases he : (nb l 0 1 / 16 % 2 == 1) with
      | false =>
        rw [he] at hk m7 m8
        simp at hk m7 m8
        subst hk
        simp [m7, m8]
      | true =>
        rw [he] at hk m7 m8
        simp only [if_true] at hk m7 m8
        have hn := nb_lt l (12 + 4 * (nb l 0 1 % 16) + 2) 2
        generalize hkk : 12 + 4 * (nb l 0 1 % 16) = k1 at *
        generalize hnn : nb l (k1 + 2) 2 = n at *
        have hel : q.ext.length = 4 * n := by rw [m8, List.length_take, List.length_drop]; omega
        refine ⟨?_, by omega, ?_⟩
        · rw [if_pos rfl, m7, u16_nb, hel, show 4 * n / 4 % 65536 = n by omega, m8, ← hnn, beN_nb (by omega), beN_nb (by omega), hnn, show k2 - k1 = 2 + 2 + 4 * n by omega, take_step _ (2 + 2), take_step _ 2 2, List.drop_drop, List.drop_drop]
        · simp [hel]; omega
    obtain ⟨hext, hk12, hxok⟩ := hext
    have hbytes : q.bytes = l := by
      unfold Pkt.bytes
      rw [hhead, hwords, hext, List.append_assoc _ q.payload, m9, ← take_step, show l.drop (12 + 4 * (nb l 0 1 % 16)) = l.drop (12 + 4 * (nb l 0 1 % 16)) from rfl, ← take_step, show 12 + 4 * (nb l 0 1 % 16) + (k2 - (12 + 4 * (nb l 0 1 % 16))) = k2 by omega, List.take_append_drop]
    refine ⟨?_, hbytes⟩
    have hsz : q.size = l.length := by rw [← bytes_len, hbytes]
    unfold Pkt.wrong
    rw [if_neg, if_neg (by omega), if_neg (by omega)]
    rintro (h | h | h | h)
    · rw [m1] at h; omega
    · rw [m1] at h; omega
    · rw [hxok] at h; cases h
    · rw [m11] at h; cases h
  split at h
  · rename_i hpb
    split at h
    · cases h
    rename_i hpn
    cases h
    generalize hrr : l.drop k2 = r at *
    have hn0 : padN r ≠ 0 ∧ padN r ≤ r.length := by
      refine ⟨fun e => hpn (.inl e), Nat.le_of_not_lt fun e => hpn (.inr e)⟩
    have hpl : (r.drop (r.length - padN r)).length = padN r := by rw [List.length_drop]; omega
    refine main _ rfl rfl rfl rfl rfl rfl rfl rfl rfl (List.take_append_drop _ _) ?_ ?_
    · rw [hpb]
      symm
      simp only [decide_eq_true_eq]
      rw [hpl]
      omega
    · have hpp : padN (r.drop (r.length - padN r)) = padN r := by
        have := padN_append (r.take (r.length - padN r)) (b := r.drop (r.length - padN r)) (by rw [hpl]; omega)
        rw [List.take_append_drop] at this
        exact this.symm
      have h255 : padN r ≤ 255 := by
        unfold padN
        cases r.getLast? with
        | none => simp
        | some c => have := c.toNat_lt; simp; omega
      unfold padOk
      rw [hpl, hpp]
      simp
      omega
  · rename_i hpb
    cases h
    refine main _ rfl rfl rfl rfl rfl rfl rfl rfl rfl (List.append_nil _) ?_ rfl
    simp at hpb
    simp [hdr, hpb]
end Go.Proofs.Ytcmpjkopdjncdaa

/- Plain laws on rows held against each other and on imprints. No program in sight. -/
namespace Go.Proofs.Ytcmpjkopdjncdaa
open Go.RowKit

/-- Two rows held against each other. -/
def xb (a b : List UInt8) : List UInt8 := (List.range (max a.length b.length)).map fun i => a.getD i 0 ^^^ b.getD i 0
theorem xb_len (a b : List UInt8) : (xb a b).length = max a.length b.length := by simp [xb]
theorem xb_get (a b : List UInt8) (i : Nat) : (xb a b).getD i 0 = a.getD i 0 ^^^ b.getD i 0 := by
  by_cases h : i < max a.length b.length
  · simp [xb, List.getD_eq_getElem?_getD, h]
  · have h1 : a.length ≤ i := by omega
    have h2 : b.length ≤ i := by omega
    simp [List.getD_eq_getElem?_getD, List.getElem?_eq_none_iff.2 h1, List.getElem?_eq_none_iff.2 h2, xb_len, List.getElem?_eq_none_iff.2 (show (xb a b).length ≤ i by rw [xb_len]; omega)]
theorem ext_getD {a b : List UInt8} (hl : a.length = b.length) (h : ∀ i, a.getD i 0 = b.getD i 0) : a = b := by
  refine List.ext_getElem hl fun i h1 h2 => ?_
  have := h i
  rw [List.getD_eq_getElem?_getD, List.getD_eq_getElem?_getD, List.getElem?_eq_getElem h1, List.getElem?_eq_getElem h2] at this
  exact this
theorem xb_nil_left (a : List UInt8) : xb [] a = a := ext_getD (by simp [xb_len]) fun i => by rw [xb_get]; simp
theorem xb_nil_right (a : List UInt8) : xb a [] = a := ext_getD (by simp [xb_len]) fun i => by rw [xb_get]; simp
/-- Have they the same bytes, but for zeros behind? -/
def gap0 (a b : List UInt8) : Bool := (xb a b).all (· == 0)
theorem xor_zero_iff : ∀ a b : UInt8, (a ^^^ b = 0) ↔ a = b := by
  intro a b
  constructor
  · intro h
    have : a ^^^ b ^^^ b = 0 ^^^ b := by rw [h]
    simpa [UInt8.xor_assoc] using this
  · rintro rfl; simp
theorem gap0_iff (a b : List UInt8) : gap0 a b = true ↔ ∀ i, a.getD i 0 = b.getD i 0 := by
  unfold gap0
  rw [List.all_eq_true]
  constructor
  · intro h i
    have h2 := xb_get a b i
    by_cases hi : i < (xb a b).length
    · have h1 := h _ (List.getElem_mem hi)
      rw [List.getD_eq_getElem?_getD, List.getElem?_eq_getElem hi, Option.getD_some] at h2
      rw [beq_iff_eq] at h1
      exact (xor_zero_iff _ _).1 (h2.symm.trans h1)
    · rw [xb_len] at hi
      have h1 : a.length ≤ i := by omega
      have h3 : b.length ≤ i := by omega
      simp [List.getD_eq_getElem?_getD, List.getElem?_eq_none_iff.2 h1, List.getElem?_eq_none_iff.2 h3]
  · intro h x hx
    obtain ⟨i, hi, rfl⟩ := List.getElem_of_mem hx
    have h2 := xb_get a b i
    rw [List.getD_eq_getElem?_getD, List.getElem?_eq_getElem hi, Option.getD_some, h i] at h2
    rw [beq_iff_eq, h2]
    simp

/-- The imprint of a packet. -/
structure Bt where
  h0 : UInt8
  h1 : UInt8
  h2 : UInt8
  h3 : UInt8
  h4 : UInt8
  h5 : UInt8
  h6 : UInt8
  h7 : UInt8
  body : List UInt8
namespace Bt
def head (x : Bt) : List UInt8 := [x.h0, x.h1, x.h2, x.h3, x.h4, x.h5, x.h6, x.h7]
def zero : Bt := ⟨0, 0, 0, 0, 0, 0, 0, 0, []⟩
def add (x y : Bt) : Bt := ⟨x.h0 ^^^ y.h0, x.h1 ^^^ y.h1, x.h2 ^^^ y.h2, x.h3 ^^^ y.h3, x.h4 ^^^ y.h4, x.h5 ^^^ y.h5, x.h6 ^^^ y.h6, x.h7 ^^^ y.h7, xb x.body y.body⟩
def same (x y : Bt) : Bool := x.head == y.head && gap0 x.body y.body
def len (x : Bt) : Nat := x.h6.toNat * 256 + x.h7.toNat
def out (x : Bt) (s : UInt16) (t : UInt32) : List UInt8 := [128 ||| (x.h0 &&& 63), x.h1] ++ beN s.toNat 2 ++ [x.h2, x.h3, x.h4, x.h5] ++ beN t.toNat 4 ++ x.body.take x.len
def pack (x : Bt) (s : UInt16) (t : UInt32) : Except Int (List UInt8) :=
  if x.body.length < x.len ∨ 1488 < x.len then .error 42
  else match parseR (x.out s t) with
    | .ok _ => .ok (x.out s t)
    | .error _ => .error 42
theorem len_lt (x : Bt) : x.len < 65536 := by have := x.h6.toNat_lt; have := x.h7.toNat_lt; unfold len; omega
theorem head_add (x y : Bt) : (x.add y).head = xb x.head y.head := by simp [add, head, xb, List.range_succ]
theorem same_iff (x y : Bt) : x.same y = true ↔ x.head = y.head ∧ ∀ i, x.body.getD i 0 = y.body.getD i 0 := by
  unfold same
  rw [Bool.and_eq_true, beq_iff_eq, gap0_iff]
theorem same_refl (x : Bt) : x.same x = true := (x.same_iff x).2 ⟨rfl, fun _ => rfl⟩
theorem add_self (x : Bt) : (x.add x).same zero = true := by
  rw [same_iff]
  refine ⟨by simp [add, head, zero], fun i => ?_⟩
  show (xb x.body x.body).getD i 0 = _
  rw [xb_get]
  simp [zero]
end Bt
/-- The imprint of bytes. -/
def imp (l : List UInt8) : Bt := ⟨l.getD 0 0 &&& 63, l.getD 1 0, l.getD 4 0, l.getD 5 0, l.getD 6 0, l.getD 7 0, UInt8.ofNat ((l.length - 12) / 256), UInt8.ofNat (l.length - 12), l.drop 12⟩
def impR (l : List UInt8) : Except Int Bt := match parseR l with | .ok _ => .ok (imp l) | .error k => .error k

/-- What stands behind a packet's first twelve bytes. -/
def Pkt.tail (p : Pkt) : List UInt8 := words4 p.csrc ++ p.extBytes ++ p.payload ++ p.pad
theorem beN2 (n : Nat) : beN n 2 = [UInt8.ofNat (n / 256), UInt8.ofNat n] := by simp [beN, List.range_succ]
theorem beN4 (n : Nat) : beN n 4 = [UInt8.ofNat (n / 16777216), UInt8.ofNat (n / 65536), UInt8.ofNat (n / 256), UInt8.ofNat n] := by simp [beN, List.range_succ]
theorem Pkt.bytes12 (p : Pkt) : p.bytes = ib p.first :: ib p.second :: (beN p.seq.toNat 2 ++ (beN p.ts.toNat 4 ++ (beN p.ssrc.toNat 4 ++ p.tail))) := by
  simp [Pkt.bytes, Pkt.head, Pkt.tail, List.append_assoc]
/-- The packet with another number and source. -/
def Pkt.put (p : Pkt) (s : UInt16) (t : UInt32) : Pkt := { p with seq := s, ssrc := t }
theorem Pkt.put_wrong (p : Pkt) (s : UInt16) (t : UInt32) : (p.put s t).wrong = p.wrong := rfl
theorem top_bits : ∀ n < 256, n / 64 = 2 → (128 ||| (UInt8.ofNat n &&& 63 &&& 63)) = UInt8.ofNat n := by decide +kernel
theorem imp_bytes (p : Pkt) : imp p.bytes = ⟨ib p.first &&& 63, ib p.second, UInt8.ofNat (p.ts.toNat / 16777216), UInt8.ofNat (p.ts.toNat / 65536), UInt8.ofNat (p.ts.toNat / 256), UInt8.ofNat p.ts.toNat, UInt8.ofNat (p.tail.length / 256), UInt8.ofNat p.tail.length, p.tail⟩ := by
  rw [p.bytes12]
  simp [imp, beN2, beN4]
theorem tail_len {p : Pkt} (hw : p.wrong = 0) : p.tail.length ≤ 1488 ∧ p.bytes.length = 12 + p.tail.length := by
  have h1 := bytes_len p
  have h2 := (Pkt.fit hw).size
  have h3 : p.bytes.length = 12 + p.tail.length := by rw [p.bytes12]; simp [beN_len]; omega
  omega
theorem ofNat_len {n : Nat} (h : n ≤ 1488) : (UInt8.ofNat (n / 256)).toNat * 256 + (UInt8.ofNat n).toNat = n := by
  rw [UInt8.toNat_ofNat', UInt8.toNat_ofNat']
  omega
theorem first_ib {p : Pkt} (hw : p.wrong = 0) : (128 ||| (ib p.first &&& 63 &&& 63)) = ib p.first := by
  have h := first_facts (Pkt.fit hw).csrc
  have e : ib p.first = UInt8.ofNat p.first := by unfold ib; congr 1; have := h.1; omega
  rw [e]
  exact top_bits _ h.1 h.2.1
theorem imp_len {p : Pkt} (hw : p.wrong = 0) : (imp p.bytes).len = p.tail.length := by
  rw [imp_bytes]
  exact ofNat_len (tail_len hw).1
/-- A packet's imprint, whatever stands behind its body, with a number and a source, is the packet's bytes with these. -/
theorem out_bytes {p : Pkt} (hw : p.wrong = 0) (more : List UInt8) (s : UInt16) (t : UInt32) : ({ imp p.bytes with body := (imp p.bytes).body ++ more } : Bt).out s t = (p.put s t).bytes := by
  have h1 : ({ imp p.bytes with body := (imp p.bytes).body ++ more } : Bt).len = p.tail.length := imp_len hw
  unfold Bt.out
  rw [h1, (p.put s t).bytes12, imp_bytes]
  have h2 := first_ib hw
  show [128 ||| (ib p.first &&& 63 &&& 63), ib p.second] ++ _ ++ _ ++ _ ++ _ = ib p.first :: ib p.second :: (beN s.toNat 2 ++ (beN p.ts.toNat 4 ++ (beN t.toNat 4 ++ p.tail)))
  rw [h2]
  simp [beN4]
theorem pack_bytes {p : Pkt} (hw : p.wrong = 0) (more : List UInt8) (s : UInt16) (t : UInt32) : ({ imp p.bytes with body := (imp p.bytes).body ++ more } : Bt).pack s t = .ok (p.put s t).bytes := by
  have h1 : ({ imp p.bytes with body := (imp p.bytes).body ++ more } : Bt).len = p.tail.length := imp_len hw
  have h2 : ({ imp p.bytes with body := (imp p.bytes).body ++ more } : Bt).body.length = p.tail.length + more.length := by
    show ((imp p.bytes).body ++ more).length = _
    rw [imp_bytes, List.length_append]
  have h3 := (tail_len hw).1
  unfold Bt.pack
  rw [h1, h2, if_neg (by omega), out_bytes hw, parse_bytes ((p.put_wrong s t).trans hw)]
theorem pack_bytes0 {p : Pkt} (hw : p.wrong = 0) (s : UInt16) (t : UInt32) : (imp p.bytes).pack s t = .ok (p.put s t).bytes := by
  have := pack_bytes hw [] s t
  rwa [List.append_nil] at this
theorem imp_put (p : Pkt) (s : UInt16) (t : UInt32) : imp (p.put s t).bytes = imp p.bytes := by
  rw [imp_bytes, imp_bytes]
  rfl
theorem Pkt.put_same (p : Pkt) : p.put p.seq p.ssrc = p := rfl

/-! ### one bit of a packet turned -/
theorem and_xor1 : ∀ a : UInt8, ((a ^^^ 1) &&& 63) ≠ a &&& 63 := by
  intro a h
  have h2 : ((a ^^^ 1) &&& 63) &&& 1 = (a &&& 63) &&& 1 := by rw [h]
  have h3 : ∀ n < 256, ((UInt8.ofNat n ^^^ 1) &&& 63) &&& 1 ≠ (UInt8.ofNat n &&& 63) &&& 1 := by decide +kernel
  have h4 := h3 a.toNat a.toNat_lt
  rw [UInt8.ofNat_toNat] at h4
  exact h4 h2
theorem xor1_ne (a : UInt8) : a ^^^ 1 ≠ a := by
  intro h
  exact and_xor1 a (by rw [h])
theorem imp_turn {l : List UInt8} {k : Nat} (hk : k < l.length) (hp : k < 2 ∨ 4 ≤ k ∧ k < 8 ∨ 12 ≤ k) : (imp l).same (imp (l.set k (l.getD k 0 ^^^ 1))) = false := by
  rw [← Bool.not_eq_true, Bt.same_iff]
  rintro ⟨h1, h2⟩
  have hg : (l.set k (l.getD k 0 ^^^ 1)).getD k 0 = l.getD k 0 ^^^ 1 := by simp [List.getD_eq_getElem?_getD, hk]
  have hne := xor1_ne (l.getD k 0)
  have hne2 := and_xor1 (l.getD k 0)
  unfold Bt.head imp at h1
  simp only [List.cons.injEq, and_true, List.length_set] at h1
  obtain ⟨e0, e1, e2, e3, e4, e5⟩ := h1
  rcases hp with hp | hp | hp
  · have hk01 : k = 0 ∨ k = 1 := by omega
    rcases hk01 with rfl | rfl
    · rw [hg] at e0; exact hne2 e0.symm
    · rw [hg] at e1; exact hne e1.symm
  · have hk47 : k = 4 ∨ k = 5 ∨ k = 6 ∨ k = 7 := by omega
    rcases hk47 with rfl | rfl | rfl | rfl
    · rw [hg] at e2; exact hne e2.symm
    · rw [hg] at e3; exact hne e3.symm
    · rw [hg] at e4; exact hne e4.symm
    · rw [hg] at e5; exact hne e5.symm
  · have := h2 (k - 12)
    have e1 : ∀ m : List UInt8, (imp m).body.getD (k - 12) 0 = m.getD k 0 := fun m => by
      show (m.drop 12).getD (k - 12) 0 = _
      rw [List.getD_eq_getElem?_getD, List.getD_eq_getElem?_getD, List.getElem?_drop]
      congr 2
      omega
    rw [e1, e1, hg] at this
    exact hne this.symm

/-! ### many imprints -/
def Bt.byte (x : Bt) (i : Nat) : UInt8 := (x.head ++ x.body).getD i 0
theorem Bt.head_len (x : Bt) : x.head.length = 8 := rfl
theorem Bt.byte_head (x : Bt) {i : Nat} (h : i < 8) : x.byte i = x.head.getD i 0 := by
  unfold byte
  rw [List.getD_eq_getElem?_getD, List.getD_eq_getElem?_getD, List.getElem?_append_left (by rw [x.head_len]; exact h)]
theorem Bt.byte_body (x : Bt) (i : Nat) : x.byte (8 + i) = x.body.getD i 0 := by
  unfold byte
  rw [List.getD_eq_getElem?_getD, List.getD_eq_getElem?_getD, List.getElem?_append_right (by rw [x.head_len]; omega)]
  congr 2
  rw [x.head_len]
  omega
theorem Bt.byte_add (x y : Bt) (i : Nat) : (x.add y).byte i = x.byte i ^^^ y.byte i := by
  by_cases h : i < 8
  · rw [byte_head _ h, byte_head _ h, byte_head _ h, head_add, xb_get]
  · obtain ⟨j, rfl⟩ : ∃ j, i = 8 + j := ⟨i - 8, by omega⟩
    rw [byte_body, byte_body, byte_body]
    exact xb_get _ _ _
theorem Bt.same_byte (x y : Bt) : x.same y = true ↔ ∀ i, x.byte i = y.byte i := by
  rw [same_iff]
  constructor
  · rintro ⟨h1, h2⟩ i
    by_cases h : i < 8
    · rw [byte_head _ h, byte_head _ h, h1]
    · obtain ⟨j, rfl⟩ : ∃ j, i = 8 + j := ⟨i - 8, by omega⟩
      rw [byte_body, byte_body, h2]
  · intro h
    refine ⟨ext_getD rfl fun i => ?_, fun i => by rw [← byte_body, ← byte_body, h]⟩
    by_cases hi : i < 8
    · rw [← byte_head _ hi, ← byte_head _ hi, h]
    · rw [List.getD_eq_getElem?_getD, List.getD_eq_getElem?_getD, List.getElem?_eq_none_iff.2 (by rw [head_len]; omega), List.getElem?_eq_none_iff.2 (by rw [head_len]; omega)]
/-- All imprints held against each other; all but one more once. -/
def Bt.all (xs : List Bt) : Bt := xs.foldl Bt.add Bt.zero
def Bt.skip (at_ : Nat) : Nat → List Bt → Bt → Bt
  | _, [], r => r
  | i, x :: xs, r => Bt.skip at_ (i + 1) xs (if i = at_ then r else r.add x)
theorem Bt.zero_byte (i : Nat) : Bt.zero.byte i = 0 := by
  by_cases h : i < 8
  · rw [byte_head _ h]
    rcases (by omega : i = 0 ∨ i = 1 ∨ i = 2 ∨ i = 3 ∨ i = 4 ∨ i = 5 ∨ i = 6 ∨ i = 7) with rfl | rfl | rfl | rfl | rfl | rfl | rfl | rfl <;> rfl
  · obtain ⟨j, rfl⟩ : ∃ j, i = 8 + j := ⟨i - 8, by omega⟩
    rw [byte_body]
    rfl
def xorAll (f : Bt → UInt8) (xs : List Bt) : UInt8 := xs.foldl (fun a x => a ^^^ f x) 0
theorem foldl_xor (f : Bt → UInt8) (xs : List Bt) : ∀ z, xs.foldl (fun a x => a ^^^ f x) z = z ^^^ xorAll f xs := by
  induction xs with
  | nil => intro z; simp [xorAll]
  | cons x xs ih =>
    intro z
    unfold xorAll
    rw [List.foldl_cons, List.foldl_cons, ih, ih (0 ^^^ f x)]
    simp [UInt8.xor_assoc]
theorem xorAll_cons (f : Bt → UInt8) (x : Bt) (xs : List Bt) : xorAll f (x :: xs) = f x ^^^ xorAll f xs := by
  have h := foldl_xor f xs (f x)
  unfold xorAll at h ⊢
  rw [List.foldl_cons, UInt8.zero_xor]
  exact h
theorem Bt.fold_byte (xs : List Bt) (i : Nat) : ∀ z : Bt, (xs.foldl Bt.add z).byte i = z.byte i ^^^ xorAll (·.byte i) xs := by
  induction xs with
  | nil => intro z; simp [xorAll]
  | cons x xs ih =>
    intro z
    rw [List.foldl_cons, ih, byte_add, UInt8.xor_assoc, xorAll_cons]
theorem Bt.skip_past {at_ : Nat} {i : Nat} (h : at_ < i) : ∀ (xs : List Bt) (r : Bt) (k : Nat), i ≤ k → Bt.skip at_ k xs r = xs.foldl Bt.add r
  | [], _, _, _ => rfl
  | x :: xs, r, k, hk => by
    unfold skip
    rw [if_neg (by omega), skip_past h xs _ (k + 1) (by omega)]
    rfl
theorem Bt.skip_byte {at_ : Nat} (i : Nat) : ∀ (xs : List Bt) (r : Bt) (k : Nat), k ≤ at_ → (h : at_ - k < xs.length) → (Bt.skip at_ k xs r).byte i = r.byte i ^^^ xorAll (·.byte i) xs ^^^ (xs[at_ - k]).byte i
  | [], _, _, _, h => by simp at h
  | x :: xs, r, k, hk, h => by
    have hx : xorAll (·.byte i) (x :: xs) = x.byte i ^^^ xorAll (·.byte i) xs := xorAll_cons _ _ _
    unfold skip
    by_cases e : k = at_
    · subst e
      rw [if_pos rfl, skip_past (i := k + 1) (by omega) _ _ _ (Nat.le_refl _), fold_byte, hx]
      simp only [Nat.sub_self, List.getElem_cons_zero]
      rw [UInt8.xor_comm (x.byte i), UInt8.xor_assoc, UInt8.xor_assoc, UInt8.xor_self, UInt8.xor_zero]
    · rw [if_neg e, skip_byte i xs _ (k + 1) (by omega) (by simp at h; omega), byte_add, hx]
      have e1 : at_ - k = (at_ - (k + 1)) + 1 := by omega
      simp only [e1, List.getElem_cons_succ]
      rw [UInt8.xor_assoc (r.byte i)]
theorem Bt.rest_same {xs : List Bt} {at_ : Nat} (h : at_ < xs.length) : (Bt.skip at_ 0 xs (Bt.all xs)).same xs[at_] = true := by
  rw [same_byte]
  intro i
  rw [skip_byte i xs _ 0 (Nat.zero_le _) (by simpa using h)]
  unfold all
  rw [fold_byte, zero_byte]
  simp
theorem Bt.add_body_len (x y : Bt) : (x.add y).body.length = max x.body.length y.body.length := xb_len _ _
theorem Bt.fold_len (xs : List Bt) : ∀ z : Bt, z.body.length ≤ (xs.foldl Bt.add z).body.length ∧ ∀ x ∈ xs, x.body.length ≤ (xs.foldl Bt.add z).body.length := by
  induction xs with
  | nil => intro z; exact ⟨Nat.le_refl _, fun _ h => by cases h⟩
  | cons x xs ih =>
    intro z
    rw [List.foldl_cons]
    have h := ih (z.add x)
    rw [add_body_len] at h
    refine ⟨by omega, fun y hy => ?_⟩
    rcases List.mem_cons.1 hy with rfl | hy
    · omega
    · exact h.2 y hy
theorem Bt.fold_small (xs : List Bt) (n : Nat) : ∀ z : Bt, z.body.length ≤ n → (∀ x ∈ xs, x.body.length ≤ n) → (xs.foldl Bt.add z).body.length ≤ n := by
  induction xs with
  | nil => intro z h _; exact h
  | cons x xs ih =>
    intro z h hx
    rw [List.foldl_cons]
    refine ih _ ?_ (fun y hy => hx y (by simp [hy]))
    rw [add_body_len]
    have := hx x (by simp)
    omega
theorem Bt.skip_len {at_ : Nat} : ∀ (xs : List Bt) (r : Bt) (k : Nat), r.body.length ≤ (Bt.skip at_ k xs r).body.length
  | [], _, _ => Nat.le_refl _
  | x :: xs, r, k => by
    unfold skip
    refine Nat.le_trans ?_ (skip_len xs _ (k + 1))
    split
    · exact Nat.le_refl _
    · rw [add_body_len]; omega
/-- What has the imprint's bytes, zeros behind or not, and is no shorter, is packed alike. -/
theorem Bt.pack_same {x y : Bt} (h : x.same y = true) (hl : y.body.length ≤ x.body.length) (hy : y.len = y.body.length) (s : UInt16) (t : UInt32) : x.pack s t = y.pack s t := by
  rw [same_iff] at h
  obtain ⟨h1, h2⟩ := h
  unfold head at h1
  simp only [List.cons.injEq, and_true] at h1
  obtain ⟨e0, e1, e2, e3, e4, e5, e6, e7⟩ := h1
  have el : x.len = y.len := by unfold len; rw [e6, e7]
  have et : x.body.take x.len = y.body.take y.len := by
    rw [el, hy]
    refine ext_getD (by simp; omega) fun i => ?_
    rw [List.getD_eq_getElem?_getD, List.getD_eq_getElem?_getD, List.getElem?_take, List.getElem?_take]
    split
    · rw [← List.getD_eq_getElem?_getD, ← List.getD_eq_getElem?_getD, h2]
    · rfl
  have eo : x.out s t = y.out s t := by
    unfold out
    rw [et, e0, e1, e2, e3, e4, e5]
  unfold pack
  rw [eo, el]
  have c1 : ¬ x.body.length < y.len := by omega
  have c2 : ¬ y.body.length < y.len := by omega
  simp only [c1, c2, false_or]
end Go.Proofs.Ytcmpjkopdjncdaa

/- The walks of rtp.Same, Clone, Seq, SSRC, PT, IsRTCP and the library's functions beneath. -/
namespace Go.Proofs.Ytcmpjkopdjncdaa
open Go.RowKit

theorem conv_bytes {w : World} {v : Value} {l : List UInt8} (h : Bytes w v l) : (convert 22 9 v).run Try.prog w = .ok (.string ⟨l.toArray⟩) w := by
  obtain ⟨a, cap, rfl⟩ := h.shape
  simp only [List.length_map] at h ⊢
  cases a with
  | none =>
    obtain ⟨_, h2, _, h4⟩ := h.len
    have := h4 rfl
    have hl : l = [] := List.eq_nil_of_length_eq_zero (by omega)
    subst hl
    exact run_convert_bytes_nil w 22 5 Try.underlying22 Try.underlying5 _ _ 9 Try.underlying9
  | some p =>
    refine run_convert_bytes_back w 22 9 5 p cap l Try.underlying22 Try.underlying5 Try.underlying9 (fun j hj => ?_)
    obtain ⟨b, o, e, hb, hc⟩ := h.at_ hj
    simp only [Option.some.injEq] at e
    subst e
    have := hc j (B8 l[j]) (by rw [List.getElem?_map, List.getElem?_eq_getElem hj]; rfl)
    have hadd : (⟨b, o, none⟩ : Addr).add j = ⟨b, o + j, none⟩ := by unfold Addr.add; split <;> simp_all
    rw [hadd]
    exact this

set_option maxHeartbeats 400000 in
theorem equalW_any {w : World} {v1 v2 : Value} {l1 l2 : List UInt32} (h1 : Words w v1 l1) (h2 : Words w v2 l2) (hl1 : l1.length ≤ 1099511627776) (hl2 : l2.length ≤ 1099511627776) :
    Calls Try.prog 43 #[v1, v2] w fun e w' => e = .returned (.bool (l1 == l2)) ∧ Fr [] w w' := by
  obtain ⟨a1, c1, rfl⟩ := h1.shape
  obtain ⟨a2, c2, rfl⟩ := h2.shape
  simp only [List.length_map] at h1 h2 ⊢
  have H1 := Lib.hid h1; have H2 := Lib.hid h2
  clear h1 h2
  by_cases hn : l1.length = l2.length
  · have HN := Lib.hid hn
    have t0 : (((l1.length : Nat) : Int) != ((l2.length : Nat) : Int)) = false := by rw [hn]; simp
    clear hn
    go_enter Try.func43, Try.ntmps43
    go_wp2_with fail
    clear t0
    go_loopw [13] (fun i wr => ∃ j : Nat, j ≤ l1.length ∧ i = .int .i64 j ∧ l1.take j = l2.take j ∧ Fr [] w wr) (fun i _ => l1.length - (intOf i).toNat)
    case atStart => exact ⟨0, Nat.zero_le _, rfl, rfl, Fr.refl _ _⟩
    case round =>
      obtain ⟨j, hj, rfl, htk, hF⟩ := hrel
      have HT := Lib.hid htk; have HF := Lib.hid hF
      clear htk hF
      by_cases hlt : j < l1.length
      · have hlt2 : j < l2.length := by have := HN.out; omega
        obtain ⟨b1, o1, ea, hb1, hc1⟩ := H1.out.at_ hlt
        obtain ⟨b2, o2, eb, hb2, hc2⟩ := H2.out.at_ hlt2
        subst ea eb
        have d1 := HF.out.cellSome (hc1 j (W32 l1[j]) (by rw [List.getElem?_map, List.getElem?_eq_getElem hlt]; rfl)) (by simp)
        have d2 := HF.out.cellSome (hc2 j (W32 l2[j]) (by rw [List.getElem?_map, List.getElem?_eq_getElem hlt2]; rfl)) (by simp)
        unfold W32 at d1 d2
        clear hc1 hc2 hb1 hb2
        by_cases he : l1[j] = l2[j]
        · have t1 : (((l1[j].toNat : Nat) : Int) != ((l2[j].toNat : Nat) : Int)) = false := by rw [he]; simp
          have HE := Lib.hid he
          clear he
          generalize hq1 : l1[j].toNat = q1 at *
          generalize hq2 : l2[j].toNat = q2 at *
          clear hq1 hq2
          go_wp2_with fail
          go_quiet (fail)
          go_wp2_with fail
          go_roundw
          case rel => exact ⟨j + 1, by omega, by go_num, by rw [List.take_succ_eq_append_getElem hlt, List.take_succ_eq_append_getElem hlt2, HT.out, HE.out], HF.out.drewN _⟩
          case measure => simp [intOf]; omega
        · have t1 : (((l1[j].toNat : Nat) : Int) != ((l2[j].toNat : Nat) : Int)) = true := by
            simp only [bne_iff_ne, ne_eq, Int.natCast_inj]
            exact fun h => he (UInt32.toNat_inj.1 h)
          have HE := Lib.hid he
          clear he
          generalize hq1 : l1[j].toNat = q1 at *
          generalize hq2 : l2[j].toNat = q2 at *
          clear hq1 hq2
          go_wp2_with fail
          go_quiet (fail)
          go_wp2_with fail
          go_ret
          refine ⟨ret_bool ?_, HF.out.drewN _⟩
          symm
          simp only [beq_eq_false_iff_ne, ne_eq]
          intro h
          subst h
          exact HE.out rfl
      · go_wp2_with fail
        go_ret
        refine ⟨ret_bool ?_, HF.out⟩
        symm
        have := HT.out
        rw [List.take_of_length_le (by omega), List.take_of_length_le (by have := HN.out; omega)] at this
        rw [this]
        simp
  · have t0 : (((l1.length : Nat) : Int) != ((l2.length : Nat) : Int)) = true := by simp; omega
    have HN := Lib.hid hn
    clear hn
    go_enter Try.func43, Try.ntmps43
    go_wp2_with fail
    go_ret
    refine ⟨ret_bool ?_, Fr.refl _ _⟩
    symm
    simp only [beq_eq_false_iff_ne, ne_eq]
    intro h
    subst h
    exact HN.out rfl
end Go.Proofs.Ytcmpjkopdjncdaa

/- The walk of rtp.Same. -/
namespace Go.Proofs.Ytcmpjkopdjncdaa
open Go.RowKit

theorem nat_int_beq {a b : Nat} (h : a ≠ b) : (((a : Nat) : Int) == ((b : Nat) : Int)) = false := by
  simp only [beq_eq_false_iff_ne, ne_eq, Int.natCast_inj]; exact h

end Go.Proofs.Ytcmpjkopdjncdaa

/- The walk of confluxref01.Big. -/
namespace Go.Proofs.Ytcmpjkopdjncdaa
open Go.RowKit

theorem beN_cons (n m : Nat) : beN n (m + 1) = UInt8.ofNat (n / 256 ^ m) :: beN n m := by
  unfold beN
  rw [List.range_succ_eq_map, List.map_cons, List.map_map]
  congr 1
  refine List.map_congr_left fun j hj => ?_
  simp only [Function.comp]
  rw [show m + 1 - 1 - (j + 1) = m - 1 - j by omega]
theorem Sl_none {w : World} {g : Nat} {t : TypeId} (h : Box w g t #[]) : Sl w (.slice (some ⟨g, 0, none⟩) 0 0) [] :=
  ⟨some ⟨g, 0, none⟩, 0, rfl, Nat.le_refl _, by unfold maxLen; omega, fun h => (by cases h), fun p hp _ => by cases hp; exact ⟨rfl, h.lt, fun i x hx => by simp at hx⟩⟩
theorem oneOwn {w w' : World} {x : Value} {t : TypeId} (h : w.alloc (.cells #[x] t) = w') : w'.ownsRow w.heap.size t 1 (.slice (some ⟨w.heap.size, 0, none⟩) 1 1) 1 [x] := by
  subst h
  exact ⟨rfl, .inr ⟨w.heap.size, 1, #[x], rfl, Nat.le_refl _, Box.new w t #[x], Nat.le_refl _, by unfold maxLen; omega, rfl, rfl⟩⟩

theorem wrap_div (q : Nat) (h : q < 18446744073709551616) : IntKind.u64.wrap ((q : Int) / 256) = ((q / 256 : Nat) : Int) := by
  rw [IntWalk.u64_in _ (by omega)]; omega

set_option maxHeartbeats 1000000 in
theorem Big_any {w : World} (n m : Nat) (hn : n < 18446744073709551616) (hm : m ≤ 8) :
    Calls Try.prog 69 #[.int .u64 n, .int .i64 m] w fun e w' => ∃ v', e = .returned v' ∧ Bytes w' v' (beN n m) ∧ Fr [] w w' := by
  have HN := Lib.hid hn
  clear hn
  obtain ⟨w1, e1, hF1, hB1, hs1⟩ := one_new w #[] 5
  have H1 : Hid (Bytes w1 (.slice (some ⟨w.heap.size, 0, none⟩) 0 0) []) := Lib.hid (Sl_none hB1)
  have E1 := Lib.hid e1; have HF1 := Lib.hid hF1
  clear e1 hF1 hB1 hs1
  go_enter Try.func69, Try.ntmps69
  go_upto_region 3 with (fail)
  try rw [E1.out]
  clear E1
  go_loopw [0, 5, 6] (fun nv out iv wr => ∃ j : Nat, j ≤ m ∧ nv = .int .u64 (n / 256 ^ j : Nat) ∧ iv = .int .i64 j ∧ Bytes wr out (beN n j) ∧ Fr [] w wr) (fun _ _ iv _ => m - (intOf iv).toNat)
  case atStart => exact ⟨0, Nat.zero_le _, by simp, rfl, H1.out, HF1.out⟩
  case round =>
    obtain ⟨j, hj, rfl, rfl, hB, hF⟩ := hrel
    have HB := Lib.hid hB; have HF := Lib.hid hF
    by_cases hlt : j < m
    · have hq1 := wrap_u8_nat (n / 256 ^ j)
      have hq3 := wrap_div (n / 256 ^ j) (Nat.lt_of_le_of_lt (Nat.div_le_self _ _) HN.out)
      have hqd : n / 256 ^ j / 256 = n / 256 ^ (j + 1) := by rw [Nat.div_div_eq_div_mul, Nat.pow_succ]
      have HQD := Lib.hid hqd
      have HBC := Lib.hid (beN_cons n j)
      clear hB hF hqd
      generalize n / 256 ^ j = q at *
      obtain ⟨ao, co, ho⟩ := HB.out.shape
      rw [List.length_map, beN_len] at ho
      subst ho
      have A1 : Hid (1 + ((beN n j).map B8).length ≤ maxLen) := Lib.hid (by rw [List.length_map, beN_len]; unfold maxLen; omega)
      have A2 : Hid ((1 + ((beN n j).map B8).length) * 1 ≤ 140737488355328) := Lib.hid (by rw [List.length_map, beN_len]; omega)
      have A4 : Hid (wr.heap.size ≤ (wr.alloc (.cells #[.int .u8 ((q : Int) % 256)] 5)).heap.size) := Lib.hid (by simp)
      have A3 := Lib.hid (Sl.keep HB.out ((Fr.refl [] wr).alloc (.cells #[.int .u8 ((q : Int) % 256)] 5)))
      have A5 : Hid ((wr.alloc (.cells #[.int .u8 ((q : Int) % 256)] 5)).ownsRow wr.heap.size 5 1 (.slice (some ⟨wr.heap.size, 0, none⟩) 1 1) 1 [.int .u8 ((q : Int) % 256)]) := Lib.hid (oneOwn rfl)
      have hB8 : B8 (UInt8.ofNat q) = .int .u8 ((q : Int) % 256) := by unfold B8; simp
      have HB8 := Lib.hid hB8
      clear hB8
      go_wp2_with (at_builtin; refine wpList_append_slf rfl (.tmp 16) (.tmp 17) 22 rfl wr.heap.size 5 (.int .u8 0) 1 Try.underlying22 info_u8 rfl (.slice (some ⟨wr.heap.size, 0, none⟩) 1 1) 1 [.int .u8 ((q : Int) % 256)] rfl A5.out (.slice ao j co) ((beN n j).map B8) rfl A3.out (oneCell_B8 _) A1.out A2.out A4.out ?_; intro v' w2 ho hg hfr; have HO := Lib.hid (Sl.ofOwn ho); have HG := Lib.hid hg; clear ho hg hfr)
      have hN : Bytes w2 v' (beN n (j + 1)) := by
        have := HO.out
        rw [HBC.out]
        unfold Bytes
        rw [List.map_cons, HB8.out]
        exact this
      have hF2 : Fr [] w w2 := HF.out.trans (((Fr.refl [] wr).alloc _).step HG.out (fun x hx => by simp [blockOf] at hx; subst hx; exact .inr (Nat.le_refl _)))
      have HN2 := Lib.hid hN; have HF2 := Lib.hid hF2
      clear hN hF2
      go_roundw
      case rel => exact ⟨j + 1, by omega, by rw [HQD.out.symm]; go_num, by go_num, HN2.out, HF2.out⟩
      case measure => simp [intOf]; omega
    · obtain rfl : j = m := by omega
      clear hB hF
      go_wp2_with fail
      go_ret
      exact ⟨_, rfl, HB.out, HF.out⟩
end Go.Proofs.Ytcmpjkopdjncdaa

/- The walks of confluxref01.Copy and Number. -/
namespace Go.Proofs.Ytcmpjkopdjncdaa
open Go.RowKit

set_option maxHeartbeats 1000000 in
theorem RCopy_any {w : World} {v : Value} {l : List UInt8} (h : Bytes w v l) (hl : l.length ≤ 1099511627776) :
    Calls Try.prog 9 #[v] w fun e w' => ∃ v', e = .returned v' ∧ OwnB w' w.heap.size v' l ∧ Fr [] w w' := by
  obtain ⟨av, cv, rfl⟩ := h.shape
  simp only [List.length_map] at h ⊢
  have H := Lib.hid h
  obtain ⟨w1, e1, hF1, hB1, hs1⟩ := one_new w #[] 5
  have H1 : Hid (OwnB w1 w.heap.size (.slice (some ⟨w.heap.size, 0, none⟩) 0 0) []) := Lib.hid (by subst e1; exact World.ownsRow_made w #[] 0 (Nat.le_refl _) (by unfold maxLen; omega) (by simp))
  have E1 := Lib.hid e1; have HF1 := Lib.hid hF1
  clear e1 hF1 hB1 hs1 h
  go_enter Try.func9, Try.ntmps9
  go_upto_region 3 with (fail)
  try rw [E1.out]
  clear E1
  go_loopw [3, 4] (fun out jv wr => ∃ j : Nat, j ≤ l.length ∧ jv = .int .i64 j ∧ OwnB wr w.heap.size out (l.take j) ∧ Fr [] w wr) (fun _ jv _ => l.length - (intOf jv).toNat)
  case atStart => exact ⟨0, Nat.zero_le _, rfl, H1.out, HF1.out⟩
  case round =>
    obtain ⟨j, hj, rfl, hO2, hF2⟩ := hrel
    obtain ⟨ao, no, co, rfl⟩ := hO2.isSlice
    have HO2 := Lib.hid hO2; have HF2 := Lib.hid hF2
    clear hO2 hF2
    by_cases hjl : j < l.length
    · obtain ⟨bp, op, ea, hbp, hcp⟩ := H.out.at_ hjl
      subst ea
      have e2 := HF2.out.cellSome (hcp j (B8 l[j]) (by rw [List.getElem?_map, List.getElem?_eq_getElem hjl]; rfl)) (by simp)
      unfold B8 at e2
      have hc : l[j].toNat < 256 := l[j].toNat_lt
      have HC : Hid (l.take (j + 1) = l.take j ++ [l[j]]) := Lib.hid (List.take_succ_eq_append_getElem hjl)
      have HBJ : Hid (B8 l[j] = .int .u8 (l[j].toNat : Nat)) := Lib.hid rfl
      have hlo : (l.take j).length ≤ 1099511627776 := by rw [List.length_take]; omega
      have HLO := Lib.hid hlo
      clear hcp hbp hlo
      generalize hcc : l[j].toNat = c at *
      clear hcc
      have A0 : Hid ((wr.alloc (.cells #[.int .u8 (c : Int)] 5)).ownsRow w.heap.size 5 1 (.slice ao no co) (l.take j).length ((l.take j).map B8)) := Lib.hid (Own.keep HO2.out ((Fr.refl [] wr).alloc _))
      have A1 : Hid ((l.take j).length + [Value.int .u8 (c : Int)].length ≤ maxLen) := Lib.hid (by have := HLO.out; unfold maxLen; simp only [List.length_singleton]; omega)
      have A2 : Hid (((l.take j).length + [Value.int .u8 (c : Int)].length) * 1 ≤ 140737488355328) := Lib.hid (by have := HLO.out; simp only [List.length_singleton]; omega)
      have A3 : Hid (Sl (wr.alloc (.cells #[.int .u8 (c : Int)] 5)) (.slice (some ⟨wr.heap.size, 0, none⟩) 1 1) [.int .u8 (c : Int)]) := Lib.hid (Sl.one wr _ _)
      have A4 : Hid (w.heap.size ≤ (wr.alloc (.cells #[.int .u8 (c : Int)] 5)).heap.size) := Lib.hid (by have := HF2.out.size; simp; omega)
      go_wp2_with (at_builtin; refine wpList_append_slf rfl (.tmp 12) (.tmp 17) 22 rfl w.heap.size 5 (.int .u8 0) 1 Try.underlying22 info_u8 rfl (.slice ao no co) (l.take j).length ((l.take j).map B8) rfl A0.out (.slice (some ⟨wr.heap.size, 0, none⟩) 1 1) [.int .u8 (c : Int)] rfl A3.out (oneCell_int .u8 (c : Int)) A1.out A2.out A4.out ?_; intro v' w3 ho hg hfr; have HO3 := Lib.hid ho; have HG := Lib.hid hg; clear ho hg hfr)
      have hN : OwnB w3 w.heap.size v' (l.take (j + 1)) := by
        have := HO3.out
        unfold OwnB
        rw [HC.out, List.map_append, List.length_append, List.map_cons, List.map_nil, HBJ.out]
        exact this
      have hF3 : Fr [] w w3 := (HF2.out.alloc _).step HG.out (fun x hx => .inr (HO2.out.block x (by simpa using hx)).1)
      have HN := Lib.hid hN; have HF3 := Lib.hid hF3
      clear hN hF3 e2
      go_roundw
      case rel => exact ⟨j + 1, by omega, by go_num, HN.out, HF3.out⟩
      case measure => simp [intOf]; omega
    · obtain rfl : j = l.length := by omega
      go_wp2_with fail
      go_ret
      refine ⟨_, rfl, ?_, HF2.out⟩
      have := HO2.out
      rwa [List.take_of_length_le (Nat.le_refl _)] at this

theorem u64_step (n c : Nat) (h : n * 256 + c < 18446744073709551616) : IntKind.u64.wrap (IntKind.u64.wrap ((n : Int) * 256) + (c : Int)) = ((n * 256 + c : Nat) : Int) := by
  have e : (n : Int) * 256 = ((n * 256 : Nat) : Int) := by simp
  have h2 : n * 256 < 18446744073709551616 := Nat.lt_of_le_of_lt (Nat.le_add_right _ _) h
  rw [e, wrap_u64_nat _ h2]
  have e2 : ((n * 256 : Nat) : Int) + (c : Int) = ((n * 256 + c : Nat) : Int) := by simp
  rw [e2, wrap_u64_nat _ h]
set_option maxHeartbeats 1000000 in
theorem RNumber_any {w : World} {v : Value} {l : List UInt8} (h : Bytes w v l) (hl : l.length ≤ 8) :
    Calls Try.prog 26 #[v] w fun e w' => e = .returned (.int .u64 (be l : Nat)) ∧ Fr [] w w' := by
  obtain ⟨av, cv, rfl⟩ := h.shape
  simp only [List.length_map] at h ⊢
  have H := Lib.hid h
  clear h
  go_enter Try.func26, Try.ntmps26
  go_wp2_with fail
  go_loopw [3, 4] (fun out jv wr => ∃ j : Nat, j ≤ l.length ∧ jv = .int .i64 j ∧ out = .int .u64 (be (l.take j) : Nat) ∧ Fr [] w wr) (fun _ jv _ => l.length - (intOf jv).toNat)
  case atStart => exact ⟨0, Nat.zero_le _, rfl, rfl, Fr.refl _ _⟩
  case round =>
    obtain ⟨j, hj, rfl, rfl, hF2⟩ := hrel
    have HF2 := Lib.hid hF2
    clear hF2
    by_cases hjl : j < l.length
    · obtain ⟨bp, op, ea, hbp, hcp⟩ := H.out.at_ hjl
      subst ea
      have e2 := HF2.out.cellSome (hcp j (B8 l[j]) (by rw [List.getElem?_map, List.getElem?_eq_getElem hjl]; rfl)) (by simp)
      unfold B8 at e2
      have hc : l[j].toNat < 256 := l[j].toNat_lt
      have HC := Lib.hid (be_take l j hjl)
      have hlt := be_lt (l.take (j + 1))
      have hp : 256 ^ (l.take (j + 1)).length ≤ 256 ^ 8 := Nat.pow_le_pow_right (by omega) (by rw [List.length_take]; omega)
      have hst := u64_step (be (l.take j)) l[j].toNat (by rw [HC.out] at hlt; omega)
      have hw0 := IntWalk.u64_in (l[j].toNat : Int) (by omega)
      clear hcp hbp hlt hp
      generalize l[j].toNat = c at *
      generalize be (l.take j) = n at *
      have HST := Lib.hid hst
      clear hst
      go_wp2_with fail
      go_roundw
      case rel => exact ⟨j + 1, by omega, by go_num, by rw [HST.out, HC.out], HF2.out⟩
      case measure => simp [intOf]; omega
    · obtain rfl : j = l.length := by omega
      go_wp2_with fail
      go_ret
      exact ⟨by rw [List.take_of_length_le (Nat.le_refl _)]; rfl, HF2.out⟩
end Go.Proofs.Ytcmpjkopdjncdaa

/- The walk of confluxref01.Join. -/
namespace Go.Proofs.Ytcmpjkopdjncdaa
open Go.RowKit

set_option maxHeartbeats 2000000 in
theorem Join_own {w : World} {vs : Value} {vx : List Value} {ls : List (List UInt8)} (h : Sl w vs vx) (hlen : vx.length = ls.length)
    (hb : ∀ (i : Nat) (x : Value) (l : List UInt8), vx[i]? = some x → ls[i]? = some l → Bytes w x l) (hsz : ls.flatten.length ≤ 1099511627776) (hcnt : ls.length ≤ 1099511627776) :
    Calls Try.prog 22 #[vs] w fun e w' => ∃ v', e = .returned v' ∧ OwnB w' w.heap.size v' ls.flatten ∧ Fr [] w w' := by
  obtain ⟨avs, cvs, rfl⟩ := h.shape
  rw [hlen] at h ⊢
  have H := Lib.hid h; have HBY := Lib.hid hb; have HSZ := Lib.hid hsz; have HLN := Lib.hid hlen
  obtain ⟨w1, e1, hF1, hB1, hs1⟩ := one_new w #[] 5
  have H1 : Hid (OwnB w1 w.heap.size (.slice (some ⟨w.heap.size, 0, none⟩) 0 0) []) := Lib.hid (by subst e1; exact World.ownsRow_made w #[] 0 (Nat.le_refl _) (by unfold maxLen; omega) (by simp))
  have E1 := Lib.hid e1; have HF1 := Lib.hid hF1
  clear e1 hF1 hB1 hs1 h hb hsz hlen
  go_enter Try.func22, Try.ntmps22
  go_upto_region 3 with (fail)
  try rw [E1.out]
  clear E1
  go_loopw [3, 4, 5] (fun out iv _ wr => ∃ i : Nat, i ≤ ls.length ∧ iv = .int .i64 i ∧ OwnB wr w.heap.size out (ls.take i).flatten ∧ Fr [] w wr) (fun _ iv _ _ => ls.length - (intOf iv).toNat)
  case atStart => exact ⟨0, Nat.zero_le _, rfl, H1.out, HF1.out⟩
  case round =>
    obtain ⟨i, hi, rfl, hO, hF⟩ := hrel
    have HO := Lib.hid hO; have HF := Lib.hid hF
    clear hO hF
    by_cases hlt : i < ls.length
    · obtain ⟨b, o, ea, hbl, hcl⟩ := H.out.at_ hlt
      subst ea
      have hx : vx[i]? = some (vx[i]'(by have := HLN.out; omega)) := List.getElem?_eq_getElem _
      have hL : ls[i]? = some ls[i] := List.getElem?_eq_getElem _
      have hp := HBY.out i _ _ hx hL
      have d1 := hcl i _ hx
      generalize hli : ls[i] = li at *
      generalize (vx[i]'(by have := HLN.out; omega)) = px at *
      obtain ⟨ap, cp, rfl⟩ := hp.shape
      simp only [List.length_map] at hp d1
      have HP := Lib.hid hp; have D1 := Lib.hid d1
      have hfl : (ls.take (i + 1)).flatten = (ls.take i).flatten ++ li := by
        rw [List.take_succ_eq_append_getElem hlt, List.flatten_append, hli]
        simp
      have htot : (ls.take i).flatten.length + li.length ≤ 1099511627776 := by
        have h1 := HSZ.out
        have h2 : ls.flatten = (ls.take (i + 1)).flatten ++ (ls.drop (i + 1)).flatten := by rw [← List.flatten_append, List.take_append_drop]
        rw [h2, hfl, List.length_append, List.length_append] at h1
        omega
      have HFL := Lib.hid hfl; have HTOT := Lib.hid htot; have HLI := Lib.hid hli
      clear hx hL hp d1 hcl hbl hfl htot hli
      generalize (ls.take i).flatten = acc at *
      go_upto_region 6 with (fail)
      go_loopw [3, 5] (fun out jv wr => ∃ j : Nat, j ≤ li.length ∧ jv = .int .i64 j ∧ OwnB wr w.heap.size out (acc ++ li.take j) ∧ Fr [] w wr) (fun _ jv _ => li.length - (intOf jv).toNat)
      case atStart => exact ⟨0, Nat.zero_le _, rfl, by simpa using HO.out, HF.out⟩
      case round =>
        obtain ⟨j, hj, rfl, hO2, hF2⟩ := hrel
        obtain ⟨ao, no, co, rfl⟩ := hO2.isSlice
        have HO2 := Lib.hid hO2; have HF2 := Lib.hid hF2
        have e1 := hF2.cellSome D1.out (by simp)
        clear hO2 hF2
        by_cases hjl : j < li.length
        · obtain ⟨bp, op, ea, hbp, hcp⟩ := HP.out.at_ hjl
          subst ea
          have e2 := HF2.out.cellSome (hcp j (B8 li[j]) (by rw [List.getElem?_map, List.getElem?_eq_getElem hjl]; rfl)) (by simp)
          unfold B8 at e2
          have hc : li[j].toNat < 256 := li[j].toNat_lt
          have HC : Hid (acc ++ li.take (j + 1) = (acc ++ li.take j) ++ [li[j]]) := Lib.hid (by rw [List.append_assoc, List.take_succ_eq_append_getElem hjl])
          have HBJ : Hid (B8 li[j] = .int .u8 (li[j].toNat : Nat)) := Lib.hid rfl
          have hlo : (acc ++ li.take j).length ≤ 1099511627776 := by rw [List.length_append, List.length_take]; have := HTOT.out; omega
          have HLO := Lib.hid hlo
          clear hcp hbp hlo
          generalize hcc : li[j].toNat = c at *
          clear hcc
          have hj64 : li.length ≤ 1099511627776 := by have := HTOT.out; omega
          have A0 : Hid ((wr.alloc (.cells #[.int .u8 (c : Int)] 5)).ownsRow w.heap.size 5 1 (.slice ao no co) (acc ++ li.take j).length ((acc ++ li.take j).map B8)) := Lib.hid (Own.keep HO2.out ((Fr.refl [] wr).alloc _))
          have A1 : Hid ((acc ++ li.take j).length + [Value.int .u8 (c : Int)].length ≤ maxLen) := Lib.hid (by have := HLO.out; unfold maxLen; simp only [List.length_singleton]; omega)
          have A2 : Hid (((acc ++ li.take j).length + [Value.int .u8 (c : Int)].length) * 1 ≤ 140737488355328) := Lib.hid (by have := HLO.out; simp only [List.length_singleton]; omega)
          have A3 : Hid (Sl (wr.alloc (.cells #[.int .u8 (c : Int)] 5)) (.slice (some ⟨wr.heap.size, 0, none⟩) 1 1) [.int .u8 (c : Int)]) := Lib.hid (Sl.one wr _ _)
          have A4 : Hid (w.heap.size ≤ (wr.alloc (.cells #[.int .u8 (c : Int)] 5)).heap.size) := Lib.hid (by have := HF2.out.size; simp; omega)
          go_wp2_with (at_builtin; refine wpList_append_slf rfl (.tmp 22) (.tmp 30) 22 rfl w.heap.size 5 (.int .u8 0) 1 Try.underlying22 info_u8 rfl (.slice ao no co) (acc ++ li.take j).length ((acc ++ li.take j).map B8) rfl A0.out (.slice (some ⟨wr.heap.size, 0, none⟩) 1 1) [.int .u8 (c : Int)] rfl A3.out (oneCell_int .u8 (c : Int)) A1.out A2.out A4.out ?_; intro v' w3 ho hg hfr; have HO3 := Lib.hid ho; have HG := Lib.hid hg; clear ho hg hfr)
          have hN : OwnB w3 w.heap.size v' (acc ++ li.take (j + 1)) := by
            have := HO3.out
            unfold OwnB
            rw [HC.out, List.map_append, List.length_append, List.map_cons, List.map_nil, HBJ.out]
            exact this
          have hF3 : Fr [] w w3 := (HF2.out.alloc _).step HG.out (fun x hx => .inr (HO2.out.block x (by simpa using hx)).1)
          have HN := Lib.hid hN; have HF3 := Lib.hid hF3
          clear hN hF3 e1 e2
          go_roundw
          case rel => exact ⟨j + 1, by omega, by go_num, HN.out, HF3.out⟩
          case measure => simp [intOf]; omega
        · obtain rfl : j = li.length := by omega
          go_wp2_with fail
          clear e1
          go_roundw
          case rel =>
            refine ⟨i + 1, by omega, by go_num, ?_, HF2.out⟩
            have := HO2.out
            rw [List.take_of_length_le (Nat.le_refl _)] at this
            rw [HFL.out]
            exact this
          case measure => simp [intOf]; omega
    · obtain rfl : i = ls.length := by omega
      go_wp2_with fail
      go_ret
      refine ⟨_, rfl, ?_, HF.out⟩
      have := HO.out
      rwa [List.take_of_length_le (Nat.le_refl _)] at this
theorem Join_any {w : World} {vs : Value} {vx : List Value} {ls : List (List UInt8)} (h : Sl w vs vx) (hlen : vx.length = ls.length)
    (hb : ∀ (i : Nat) (x : Value) (l : List UInt8), vx[i]? = some x → ls[i]? = some l → Bytes w x l) (hsz : ls.flatten.length ≤ 1099511627776) (hcnt : ls.length ≤ 1099511627776) :
    Calls Try.prog 22 #[vs] w fun e w' => ∃ v', e = .returned v' ∧ Bytes w' v' ls.flatten ∧ Fr [] w w' :=
  (Join_own h hlen hb hsz hcnt).mono fun _ _ ⟨v, h1, h2, h3⟩ => ⟨v, h1, h2.bytes, h3⟩
end Go.Proofs.Ytcmpjkopdjncdaa

/- The walks of confluxref01.Same, confluxref05.Few, rtp.IsRTCP and rtp.Write's error. -/
namespace Go.Proofs.Ytcmpjkopdjncdaa
open Go.RowKit

set_option maxHeartbeats 400000 in
theorem RSame_any {w : World} {v1 v2 : Value} {l1 l2 : List UInt8} (h1 : Bytes w v1 l1) (h2 : Bytes w v2 l2) (hl1 : l1.length ≤ 1099511627776) (hl2 : l2.length ≤ 1099511627776) :
    Calls Try.prog 14 #[v1, v2] w fun e w' => e = .returned (.bool (l1 == l2)) ∧ Fr [] w w' := by
  obtain ⟨a1, c1, rfl⟩ := h1.shape
  obtain ⟨a2, c2, rfl⟩ := h2.shape
  simp only [List.length_map] at h1 h2 ⊢
  have H1 := Lib.hid h1; have H2 := Lib.hid h2
  clear h1 h2
  by_cases hn : l1.length = l2.length
  · have HN := Lib.hid hn
    have t0 : (((l1.length : Nat) : Int) != ((l2.length : Nat) : Int)) = false := by rw [hn]; simp
    clear hn
    go_enter Try.func14, Try.ntmps14
    go_wp2_with fail
    clear t0
    go_loopw [5] (fun i wr => ∃ j : Nat, j ≤ l1.length ∧ i = .int .i64 j ∧ l1.take j = l2.take j ∧ Fr [] w wr) (fun i _ => l1.length - (intOf i).toNat)
    case atStart => exact ⟨0, Nat.zero_le _, rfl, rfl, Fr.refl _ _⟩
    case round =>
      obtain ⟨j, hj, rfl, htk, hF⟩ := hrel
      have HT := Lib.hid htk; have HF := Lib.hid hF
      clear htk hF
      by_cases hlt : j < l1.length
      · have hlt2 : j < l2.length := by have := HN.out; omega
        obtain ⟨b1, o1, ea, hb1, hc1⟩ := H1.out.at_ hlt
        obtain ⟨b2, o2, eb, hb2, hc2⟩ := H2.out.at_ hlt2
        subst ea eb
        have d1 := HF.out.cellSome (hc1 j (B8 l1[j]) (by rw [List.getElem?_map, List.getElem?_eq_getElem hlt]; rfl)) (by simp)
        have d2 := HF.out.cellSome (hc2 j (B8 l2[j]) (by rw [List.getElem?_map, List.getElem?_eq_getElem hlt2]; rfl)) (by simp)
        unfold B8 at d1 d2
        clear hc1 hc2 hb1 hb2
        by_cases he : l1[j] = l2[j]
        · have t1 : (((l1[j].toNat : Nat) : Int) != ((l2[j].toNat : Nat) : Int)) = false := by rw [he]; simp
          have HE := Lib.hid he
          clear he
          generalize hq1 : l1[j].toNat = q1 at *
          generalize hq2 : l2[j].toNat = q2 at *
          clear hq1 hq2
          go_wp2_with fail
          go_quiet (fail)
          go_wp2_with fail
          go_roundw
          case rel => exact ⟨j + 1, by omega, by go_num, by rw [List.take_succ_eq_append_getElem hlt, List.take_succ_eq_append_getElem hlt2, HT.out, HE.out], HF.out.drewN _⟩
          case measure => simp [intOf]; omega
        · have t1 : (((l1[j].toNat : Nat) : Int) != ((l2[j].toNat : Nat) : Int)) = true := by
            simp only [bne_iff_ne, ne_eq, Int.natCast_inj]
            exact fun h => he (UInt8.toNat_inj.1 h)
          have HE := Lib.hid he
          clear he
          generalize hq1 : l1[j].toNat = q1 at *
          generalize hq2 : l2[j].toNat = q2 at *
          clear hq1 hq2
          go_wp2_with fail
          go_quiet (fail)
          go_wp2_with fail
          go_ret
          refine ⟨ret_bool ?_, HF.out.drewN _⟩
          symm
          simp only [beq_eq_false_iff_ne, ne_eq]
          intro h
          subst h
          exact HE.out rfl
      · go_wp2_with fail
        go_ret
        refine ⟨ret_bool ?_, HF.out⟩
        symm
        have := HT.out
        rw [List.take_of_length_le (by omega), List.take_of_length_le (by have := HN.out; omega)] at this
        rw [this]
        simp
  · have t0 : (((l1.length : Nat) : Int) != ((l2.length : Nat) : Int)) = true := by simp; omega
    have HN := Lib.hid hn
    clear hn
    go_enter Try.func14, Try.ntmps14
    go_wp2_with fail
    go_ret
    refine ⟨ret_bool ?_, Fr.refl _ _⟩
    symm
    simp only [beq_eq_false_iff_ne, ne_eq]
    intro h
    subst h
    exact HN.out rfl

def few4 (a b c d : Nat) : Bool := decide (a ≤ 30) && decide (b ≤ 2000) && decide (c ≤ 2000) && decide (d ≤ 400)
theorem few4_true {a b c d : Nat} (h : a ≤ 30 ∧ b ≤ 2000 ∧ c ≤ 2000 ∧ d ≤ 400) : few4 a b c d = true := by
  obtain ⟨h1, h2, h3, h4⟩ := h; unfold few4; rw [decide_eq_true h1, decide_eq_true h2, decide_eq_true h3, decide_eq_true h4]; rfl
theorem few4_false {a b c d : Nat} (h : ¬ (a ≤ 30 ∧ b ≤ 2000 ∧ c ≤ 2000 ∧ d ≤ 400)) : few4 a b c d = false := by
  cases hc : few4 a b c d with
  | false => rfl
  | true => unfold few4 at hc; simp only [Bool.and_eq_true, decide_eq_true_eq] at hc; exact absurd ⟨hc.1.1.1, hc.1.1.2, hc.1.2, hc.2⟩ h
def Pkt.few (p : Pkt) : Bool := few4 p.csrc.length p.ext.length p.payload.length p.pad.length
theorem Pkt.few_lens {p : Pkt} (h : p.few = true) : p.csrc.length ≤ 30 ∧ p.ext.length ≤ 2000 ∧ p.payload.length ≤ 2000 ∧ p.pad.length ≤ 400 := by
  unfold Pkt.few few4 at h; simp at h; omega
theorem Pkt.few_small {p : Pkt} (h : p.few = true) : p.Small := by have := Pkt.few_lens h; unfold Pkt.Small; omega

theorem cell_of {w : World} {b o cap : Nat} {l : List UInt8} (hs : Bytes w (.slice (some ⟨b, o, none⟩) l.length cap) l) (j : Nat) (hj : j < l.length) : w.cell? ⟨b, o + j, none⟩ = some (.int .u8 (l[j].toNat : Nat)) := by
  obtain ⟨b1, o1, ea, hb1, hc1⟩ := hs.at_ hj
  simp only [Option.some.injEq, Addr.mk.injEq] at ea
  obtain ⟨rfl, rfl, -⟩ := ea
  exact hc1 j (B8 l[j]) (by rw [List.getElem?_map, List.getElem?_eq_getElem hj]; rfl)

def rtcpN (a b : Nat) : Bool := a / 64 == 2 && decide (192 ≤ b) && decide (b ≤ 223)
def rtcpB (l : List UInt8) : Bool := match l with | a :: b :: _ => rtcpN a.toNat b.toNat | _ => false
theorem shr6 (n : Nat) : (n : Int) / 2 ^ (6 : Int).toNat = ((n / 64 : Nat) : Int) := by
  rw [show (6 : Int).toNat = 6 from rfl]; norm_cast

end Go.Proofs.Ytcmpjkopdjncdaa

/- What the maps of package remap are, as plain data. No program in sight. -/
namespace Go.Proofs.Ytcmpjkopdjncdaa
open Go.RowKit

/-- A map of packets, as plain data. -/
structure RMap where
  ssrc : UInt32
  pt : Int
  next : UInt16
  last : UInt32
  step : Int
  shift : UInt32
  opn : Bool
  segs : Nat
  cnt : Nat
/-- The cells of a map. -/
def mc (m : RMap) : Array Value :=
  #[.int .u32 (m.ssrc.toNat : Nat), .int .i64 m.pt, .int .u16 (m.next.toNat : Nat), .int .u32 (m.last.toNat : Nat), .int .i64 m.step, .int .u32 (m.shift.toNat : Nat), .bool m.opn, .int .i64 (m.segs : Nat), .int .i64 (m.cnt : Nat)]
/-- What holds of every map. -/
structure RMap.Ok (m : RMap) : Prop where
  pt0 : 0 ≤ m.pt
  pt1 : m.pt ≤ 127
  st0 : 0 ≤ m.step
  st1 : m.step ≤ 2147483647
  sg : m.segs ≤ 1099511627776
  ct : m.cnt ≤ 1099511627776
def clampI (n lo hi : Int) : Int := if n < lo then lo else if hi < n then hi else n
def RMap.new (ssrc : UInt32) (pt : Int) (first : UInt16) (ts : UInt32) (step : Int) : RMap :=
  { ssrc := ssrc, pt := clampI pt 0 127, next := first, last := ts, step := clampI step 0 2147483647, shift := 0, opn := false, segs := 0, cnt := 0 }
theorem RMap.new_ok (ssrc : UInt32) (pt : Int) (first : UInt16) (ts : UInt32) (step : Int) : (RMap.new ssrc pt first ts step).Ok := by
  constructor <;> simp only [RMap.new, clampI] <;> (try split) <;> (try split) <;> omega
/-- A number some ahead. -/
def add32 (a : UInt32) (n : Int) : UInt32 := UInt32.ofNat (((a.toNat : Int) + n) % 4294967296).toNat
def add16 (a : UInt16) (n : Int) : UInt16 := UInt16.ofNat (((a.toNat : Int) + n) % 65536).toNat
/-- A sum that the walk leaves alone. -/
def sum32 (a b : UInt32) : UInt32 := a + b
def RMap.start (m : RMap) : UInt32 := if 0 < m.segs then add32 m.last m.step else m.last
def RMap.begin_ (m : RMap) (ts : UInt32) : RMap := { m with shift := m.start - ts, opn := true, segs := m.segs + 1 }
def RMap.ready (m : RMap) (ts : UInt32) : RMap := if m.opn then m else m.begin_ ts
/-- The map behind a packet, and the packet as it goes out. -/
def RMap.out (m : RMap) (p : Pkt) : Pkt := { p with ssrc := m.ssrc, pt := m.pt, seq := m.next, ts := sum32 p.ts (m.ready p.ts).shift }
def RMap.step_ (m : RMap) (p : Pkt) : RMap := { m.ready p.ts with next := add16 m.next 1, last := (m.out p).ts, cnt := m.cnt + 1 }
def RMap.shut (m : RMap) : RMap := { m with opn := false }
theorem RMap.ready_same (m : RMap) (ts : UInt32) : (m.ready ts).pt = m.pt ∧ (m.ready ts).ssrc = m.ssrc ∧ (m.ready ts).next = m.next ∧ (m.ready ts).cnt = m.cnt ∧ (m.ready ts).step = m.step := by
  unfold RMap.ready; split <;> exact ⟨rfl, rfl, rfl, rfl, rfl⟩
theorem wrong_fit {p : Pkt} (h0 : 0 ≤ p.pt) (h1 : p.pt < 128) (h2 : p.extOk = true) (h3 : padOk p.pad = true) (h4 : p.csrc.length ≤ 15) (h5 : p.size ≤ 1500) : p.wrong = 0 := by
  unfold Pkt.wrong
  rw [if_neg (by rw [h2, h3]; simp; omega), if_neg (by omega), if_neg (by omega)]
/-- The packet with another number, time, source and kind. -/
def Pkt.turn (p : Pkt) (sq : UInt16) (ts ss : UInt32) (pt : Int) : Pkt := { p with seq := sq, ts := ts, ssrc := ss, pt := pt }
theorem Pkt.turn_wrong {p : Pkt} (h : p.wrong = 0) (sq : UInt16) (ts ss : UInt32) {pt : Int} (h0 : 0 ≤ pt) (h1 : pt < 128) : (p.turn sq ts ss pt).wrong = 0 := by
  have F := Pkt.fit h
  exact wrong_fit (p := p.turn sq ts ss pt) h0 h1 F.ext F.pad F.csrc F.size
theorem Pkt.turn_bad (p : Pkt) (sq : UInt16) (ts ss : UInt32) {pt : Int} (h1 : 128 ≤ pt) : (p.turn sq ts ss pt).wrong = 1 := by
  unfold Pkt.wrong
  rw [if_pos (.inr (.inl h1))]
theorem Pkt.turn_small {p : Pkt} (h : p.Small) (sq : UInt16) (ts ss : UInt32) (pt : Int) : (p.turn sq ts ss pt).Small := h
theorem RMap.out_turn (m : RMap) (p : Pkt) : m.out p = p.turn m.next (sum32 p.ts (m.ready p.ts).shift) m.ssrc m.pt := rfl
theorem RMap.out_wrong {m : RMap} (hm : m.Ok) {p : Pkt} (h : p.wrong = 0) : (m.out p).wrong = 0 :=
  Pkt.turn_wrong h _ _ _ hm.pt0 (by have := hm.pt1; omega)
theorem Pkt.turn_back (p : Pkt) (sq : UInt16) (ts ss : UInt32) (pt : Int) : (p.turn sq ts ss pt).turn p.seq p.ts p.ssrc p.pt = p := rfl
theorem add16_nat (a : UInt16) (n : Int) : ((add16 a n).toNat : Int) = ((a.toNat : Int) + n) % 65536 := by
  unfold add16
  rw [UInt16.toNat_ofNat']
  omega
theorem add32_nat (a : UInt32) (n : Int) : ((add32 a n).toNat : Int) = ((a.toNat : Int) + n) % 4294967296 := by
  unfold add32
  rw [UInt32.toNat_ofNat']
  omega
theorem add16_one (a : UInt16) : add16 a 1 = a + 1 := by
  apply UInt16.toNat_inj.1
  have h := add16_nat a 1
  rw [UInt16.toNat_add]
  simp only [UInt16.reduceToNat]
  omega
theorem u32_add_nat (a b : UInt32) : (((a + b).toNat : Nat) : Int) = ((a.toNat : Int) + (b.toNat : Int)) % 4294967296 := by
  rw [UInt32.toNat_add]; omega
theorem u32_sub_nat (a b : UInt32) : (((a - b).toNat : Nat) : Int) = ((a.toNat : Int) - (b.toNat : Int)) % 4294967296 := by
  rw [UInt32.toNat_sub]
  have := a.toNat_lt
  have := b.toNat_lt
  omega
theorem wrap_u32_mod (n : Int) : IntKind.u32.wrap n = n % 4294967296 := by
  simp [IntKind.wrap, IntKind.min, IntKind.max, IntKind.signed, IntKind.bits]
theorem wrap_u16_mod (n : Int) : IntKind.u16.wrap n = n % 65536 := by
  simp [IntKind.wrap, IntKind.min, IntKind.max, IntKind.signed, IntKind.bits]
end Go.Proofs.Ytcmpjkopdjncdaa

/- The walks of serial.Add, Add32 and of remap's small functions (printed by gen_remap1.py). -/
namespace Go.Proofs.Ytcmpjkopdjncdaa
open Go.RowKit

theorem oneCell_mc (m : RMap) : ∀ u ∈ (mc m).toList, u.oneCell' = true := by
  intro u hu
  simp only [mc, List.mem_cons, List.not_mem_nil, or_false] at hu
  rcases hu with rfl | rfl | rfl | rfl | rfl | rfl | rfl | rfl | rfl <;> rfl
end Go.Proofs.Ytcmpjkopdjncdaa

/- The walks of rtp.Seq, SSRC, PT and IsRTCP. -/
namespace Go.Proofs.Ytcmpjkopdjncdaa
open Go.RowKit

end Go.Proofs.Ytcmpjkopdjncdaa

/- The walks of confluxref01.Add, SameWords and confluxref05.Same (printed by gen_r5same.py). -/
namespace Go.Proofs.Ytcmpjkopdjncdaa
open Go.RowKit

set_option maxHeartbeats 400000 in
theorem RSameWords_any {w : World} {v1 v2 : Value} {l1 l2 : List UInt32} (h1 : Words w v1 l1) (h2 : Words w v2 l2) (hl1 : l1.length ≤ 1099511627776) (hl2 : l2.length ≤ 1099511627776) :
    Calls Try.prog 44 #[v1, v2] w fun e w' => e = .returned (.bool (l1 == l2)) ∧ Fr [] w w' := by
  obtain ⟨a1, c1, rfl⟩ := h1.shape
  obtain ⟨a2, c2, rfl⟩ := h2.shape
  simp only [List.length_map] at h1 h2 ⊢
  have H1 := Lib.hid h1; have H2 := Lib.hid h2
  clear h1 h2
  by_cases hn : l1.length = l2.length
  · have HN := Lib.hid hn
    have t0 : (((l1.length : Nat) : Int) != ((l2.length : Nat) : Int)) = false := by rw [hn]; simp
    clear hn
    go_enter Try.func44, Try.ntmps44
    go_wp2_with fail
    clear t0
    go_loopw [5] (fun i wr => ∃ j : Nat, j ≤ l1.length ∧ i = .int .i64 j ∧ l1.take j = l2.take j ∧ Fr [] w wr) (fun i _ => l1.length - (intOf i).toNat)
    case atStart => exact ⟨0, Nat.zero_le _, rfl, rfl, Fr.refl _ _⟩
    case round =>
      obtain ⟨j, hj, rfl, htk, hF⟩ := hrel
      have HT := Lib.hid htk; have HF := Lib.hid hF
      clear htk hF
      by_cases hlt : j < l1.length
      · have hlt2 : j < l2.length := by have := HN.out; omega
        obtain ⟨b1, o1, ea, hb1, hc1⟩ := H1.out.at_ hlt
        obtain ⟨b2, o2, eb, hb2, hc2⟩ := H2.out.at_ hlt2
        subst ea eb
        have d1 := HF.out.cellSome (hc1 j (W32 l1[j]) (by rw [List.getElem?_map, List.getElem?_eq_getElem hlt]; rfl)) (by simp)
        have d2 := HF.out.cellSome (hc2 j (W32 l2[j]) (by rw [List.getElem?_map, List.getElem?_eq_getElem hlt2]; rfl)) (by simp)
        unfold W32 at d1 d2
        clear hc1 hc2 hb1 hb2
        by_cases he : l1[j] = l2[j]
        · have t1 : (((l1[j].toNat : Nat) : Int) != ((l2[j].toNat : Nat) : Int)) = false := by rw [he]; simp
          have HE := Lib.hid he
          clear he
          generalize hq1 : l1[j].toNat = q1 at *
          generalize hq2 : l2[j].toNat = q2 at *
          clear hq1 hq2
          go_wp2_with fail
          go_quiet (fail)
          go_wp2_with fail
          go_roundw
          case rel => exact ⟨j + 1, by omega, by go_num, by rw [List.take_succ_eq_append_getElem hlt, List.take_succ_eq_append_getElem hlt2, HT.out, HE.out], HF.out.drewN _⟩
          case measure => simp [intOf]; omega
        · have t1 : (((l1[j].toNat : Nat) : Int) != ((l2[j].toNat : Nat) : Int)) = true := by
            simp only [bne_iff_ne, ne_eq, Int.natCast_inj]
            exact fun h => he (UInt32.toNat_inj.1 h)
          have HE := Lib.hid he
          clear he
          generalize hq1 : l1[j].toNat = q1 at *
          generalize hq2 : l2[j].toNat = q2 at *
          clear hq1 hq2
          go_wp2_with fail
          go_quiet (fail)
          go_wp2_with fail
          go_ret
          refine ⟨ret_bool ?_, HF.out.drewN _⟩
          symm
          simp only [beq_eq_false_iff_ne, ne_eq]
          intro h
          subst h
          exact HE.out rfl
      · go_wp2_with fail
        go_ret
        refine ⟨ret_bool ?_, HF.out⟩
        symm
        have := HT.out
        rw [List.take_of_length_le (by omega), List.take_of_length_le (by have := HN.out; omega)] at this
        rw [this]
        simp
  · have t0 : (((l1.length : Nat) : Int) != ((l2.length : Nat) : Int)) = true := by simp; omega
    have HN := Lib.hid hn
    clear hn
    go_enter Try.func44, Try.ntmps44
    go_wp2_with fail
    go_ret
    refine ⟨ret_bool ?_, Fr.refl _ _⟩
    symm
    simp only [beq_eq_false_iff_ne, ne_eq]
    intro h
    subst h
    exact HN.out rfl

end Go.Proofs.Ytcmpjkopdjncdaa
