import Derived.Lib.SlBytesConst
import Derived.Test.YtcmpjkopdjncdaaMw17
import Derived.Test.YtcmpjkopdjncdaaMw19
/- The walk of confluxlaw05.alive. -/
namespace Go.Proofs.Ytcmpjkopdjncdaa
open Go.RowKit

def bL : List UInt8 := [128, 96, 0, 1, 0, 0, 0, 2, 0, 0, 0, 3, 65]
def p0 : Pkt := { marker := false, pt := 96, seq := 1, ts := 2, ssrc := 3, csrc := [], hasExt := false, profile := 0, ext := [], payload := [65], pad := [] }
def pE : Pkt := { marker := false, pt := 128, seq := 0, ts := 0, ssrc := 0, csrc := [], hasExt := false, profile := 0, ext := [], payload := [], pad := [] }
theorem parse_bL : parseR bL = .ok p0 := by unfold parseR parseP; rfl
theorem parse_64 : parseR [64] = .error 21 := by unfold parseR parseP; rfl
theorem parse_128 : parseR [128] = .error 20 := by unfold parseR parseP; rfl
theorem parse_nil : parseR [] = .error 20 := by unfold parseR parseP; rfl
theorem bytes_p0 : p0.bytes = bL := by decide +kernel
theorem wrong_p0 : p0.wrong = 0 := by decide +kernel
theorem wrong_pE : pE.wrong = 1 := by decide +kernel
theorem small_p0 : p0.Small := by unfold Pkt.Small p0; simp
theorem small_pE : pE.Small := by unfold Pkt.Small pE; simp

theorem Sl_nil_fr {w w' : World} {v : Value} (h : Sl w v []) (hs : w.heap.size ≤ w'.heap.size) : Sl w' v [] := by
  obtain ⟨a, cap, rfl, h1, h2, h3, h4⟩ := h
  exact ⟨a, cap, rfl, h1, h2, h3, fun p hp hc => ⟨(h4 p hp hc).1, Nat.lt_of_lt_of_le (h4 p hp hc).2.1 hs, fun i x hx => by simp at hx⟩⟩
/-- A whole new block of bytes. -/
theorem Sl_block {w : World} {g n : Nat} {t : TypeId} {c : Array Value} (h : Box w g t c) (hn : c.size = n) (hm : n ≤ maxLen) : Sl w (.slice (some ⟨g, 0, none⟩) n n) c.toList := by
  subst hn
  refine ⟨some ⟨g, 0, none⟩, c.size, by simp, by simp, hm, by simp, fun p hp _ => ?_⟩
  cases hp
  refine ⟨rfl, h.lt, fun i x hx => ?_⟩
  have := h.cell i
  simp only [Nat.zero_add]
  rw [this]
  simpa using hx

theorem PktV_p0 {w : World} {base : Nat} {v : Value} (h : PktV w base v p0) : ∃ a1 c1 a2 c2 a3 c3 a4 c4, v = .agg (pc false 96 1 2 3 (.slice a1 0 c1) false 0 (.slice a2 0 c2) (.slice a3 1 c3) (.slice a4 0 c4)) ∧ Bytes w (.slice a3 1 c3) [65] := by
  obtain ⟨a1, c1, a2, c2, a3, c3, a4, c4, rfl, hcs, hex, hpl, hpd⟩ := h.open_
  exact ⟨a1, c1, a2, c2, a3, c3, a4, c4, rfl, hpl⟩
/-- A zero packet's cells. -/
def pzc : Array Value := #[.bool false, .int .i64 0, .int .u16 0, .int .u32 0, .int .u32 0, .slice none 0 0, .bool false, .int .u16 0, .slice none 0 0, .slice none 0 0, .slice none 0 0]
/-- The literal's cells. -/
def bC : Array Value := #[.int .u8 128, .int .u8 96, .int .u8 0, .int .u8 1, .int .u8 0, .int .u8 0, .int .u8 0, .int .u8 2, .int .u8 0, .int .u8 0, .int .u8 0, .int .u8 3, .int .u8 65]
theorem const_block (w : World) (c : Array Value) (t : TypeId) (fr : Nat × Nat) (n : Nat) (hn : c.size = n) (hm : n ≤ maxLen) :
    ∃ w1, w.alloc (.cells c t fr) = w1 ∧ Fr [] w w1 ∧ Sl w1 (.slice (some ⟨w.heap.size, 0, none⟩) n n) c.toList := by
  subst hn
  refine ⟨_, rfl, (Fr.refl [] w).alloc _, some ⟨w.heap.size, 0, none⟩, c.size, by simp, by simp, hm, by simp, fun p hp _ => ?_⟩
  cases hp
  refine ⟨rfl, by simp, fun i x hx => ?_⟩
  simp only [Nat.zero_add]
  rw [World.cell?_alloc_mark]
  simpa using hx

theorem own_one {w : World} {base : Nat} {v : Value} {x : UInt8} (h : OwnB w base v [x]) : ∃ g cap cur, v = .slice (some ⟨g, 0, none⟩) 1 cap ∧ base ≤ g ∧ Box w g 5 cur ∧ cur[0]? = some (.int .u8 (x.toNat : Nat)) ∧ 1 ≤ cap ∧ cap ≤ maxLen ∧ cur.size = cap := by
  rcases h.2 with ⟨_, h0⟩ | ⟨g, cap, cur, rfl, hb, hg, h1, h2, h3, h4⟩
  · simp at h0
  · refine ⟨g, cap, cur, rfl, hb, hg, ?_, h1, h2, by simpa using h3⟩
    have h5 : (cur.toList.take (1 * 1))[0]? = ([x].map B8)[0]? := by simp only [List.length_singleton] at h4; rw [h4]
    rw [List.getElem?_take_of_lt (by omega)] at h5
    simpa [B8] using h5
def q0 : Pkt := { p0 with payload := [66] }
theorem small_q0 : q0.Small := by unfold Pkt.Small q0 p0; simp
theorem ne_pq : decide (p0 = q0) = false := by decide +kernel
theorem eq_pp : decide (p0 = p0) = true := by decide +kernel
theorem size_p0 : p0.size = 13 := by rfl
theorem rtcp_1 : rtcpB [128, 200] = true := by decide +kernel
theorem rtcp_b : rtcpB bL = false := by decide +kernel

end Go.Proofs.Ytcmpjkopdjncdaa
