/- The walks of package rtp that write. -/
import Derived.Test.YtchbgiindfoepaaPart
import Derived.Test.YtchbgiindfoepaaWrite
namespace Go.Proofs.Ytchbgiindfoepaa
open Go.RowKit

/-- The lists of a packet are no longer than a machine can hold. -/
def Pkt.Small (p : Pkt) : Prop := p.csrc.length ≤ 1099511627776 ∧ p.ext.length ≤ 1099511627776 ∧ p.payload.length ≤ 1099511627776 ∧ p.pad.length ≤ 1099511627776
def Pkt.size (p : Pkt) : Nat := 12 + 4 * p.csrc.length + p.payload.length + p.pad.length + if p.hasExt then 4 + p.ext.length else 0
def Pkt.extOk (p : Pkt) : Bool := if p.hasExt then p.ext.length % 4 == 0 && decide (p.ext.length ≤ 262140) else p.profile == 0 && p.ext.length == 0
def padOk (l : List UInt8) : Bool := l.length == 0 || (decide (l.length ≤ 255) && padN l == l.length)
def Pkt.wrong (p : Pkt) : Int :=
  if p.pt < 0 ∨ 128 ≤ p.pt ∨ p.extOk = false ∨ padOk p.pad = false then 1 else if 15 < p.csrc.length then 3 else if 1500 < p.size then 2 else 0
def Pkt.first (p : Pkt) : Nat := 128 + p.csrc.length + (if 0 < p.pad.length then 32 else 0) + if p.hasExt then 16 else 0

theorem PktV.open_ {w : World} {base : Nat} {v : Value} {p : Pkt} (h : PktV w base v p) :
    ∃ a1 c1 a2 c2 a3 c3 a4 c4, v = .agg (pc p.marker p.pt p.seq.toNat p.ts.toNat p.ssrc.toNat (.slice a1 p.csrc.length c1) p.hasExt p.profile.toNat (.slice a2 p.ext.length c2) (.slice a3 p.payload.length c3) (.slice a4 p.pad.length c4)) ∧
      Words w (.slice a1 p.csrc.length c1) p.csrc ∧ Bytes w (.slice a2 p.ext.length c2) p.ext ∧ Bytes w (.slice a3 p.payload.length c3) p.payload ∧ Bytes w (.slice a4 p.pad.length c4) p.pad := by
  obtain ⟨cs, ex, pl, pd, rfl, h1, h2, h3, h4, h5⟩ := h
  obtain ⟨a1, c1, rfl⟩ := h1.shape
  obtain ⟨a2, c2, rfl⟩ := h2.shape
  obtain ⟨a3, c3, rfl⟩ := h3.shape
  obtain ⟨a4, c4, rfl⟩ := h4.shape
  simp only [List.length_map] at *
  exact ⟨a1, c1, a2, c2, a3, c3, a4, c4, rfl, h1, h2, h3, h4⟩

theorem ret_bool {a b : Bool} (h : a = b) : Ending.returned (.bool a) = .returned (.bool b) := by rw [h]
theorem int_nat_beq0 (n : Nat) : (((n : Nat) : Int) == 0) = (n == 0) := by
  rw [Bool.eq_iff_iff]; simp

theorem Box.pcells {w : World} {g : Nat} {t : TypeId} {m : Bool} {pt : Int} {sq ts ss : Nat} {cs : Value} {he : Bool} {pf : Nat} {ex pl pd : Value} (h : Box w g t (pc m pt sq ts ss cs he pf ex pl pd)) :
    w.cell? ⟨g, 0, none⟩ = some (.bool m) ∧ w.cell? ⟨g, 1, none⟩ = some (.int .i64 pt) ∧ w.cell? ⟨g, 2, none⟩ = some (.int .u16 sq) ∧ w.cell? ⟨g, 3, none⟩ = some (.int .u32 ts) ∧ w.cell? ⟨g, 4, none⟩ = some (.int .u32 ss) ∧ w.cell? ⟨g, 5, none⟩ = some cs ∧ w.cell? ⟨g, 6, none⟩ = some (.bool he) ∧ w.cell? ⟨g, 7, none⟩ = some (.int .u16 pf) ∧ w.cell? ⟨g, 8, none⟩ = some ex ∧ w.cell? ⟨g, 9, none⟩ = some pl ∧ w.cell? ⟨g, 10, none⟩ = some pd :=
  ⟨h.cell 0, h.cell 1, h.cell 2, h.cell 3, h.cell 4, h.cell 5, h.cell 6, h.cell 7, h.cell 8, h.cell 9, h.cell 10⟩

/-- A byte at the end. -/
theorem last_cell {w : World} {b o cap : Nat} {l : List UInt8} (hs : Bytes w (.slice (some ⟨b, o, none⟩) l.length cap) l) (hne : 0 < l.length) : w.cell? ⟨b, o + (l.length - 1), none⟩ = some (.int .u8 (padN l)) ∧ padN l ≤ 255 := by
  obtain ⟨b', o', e, hb, hcell⟩ := hs.at_ hne
  simp only [Option.some.injEq, Addr.mk.injEq, and_true] at e
  obtain ⟨rfl, rfl⟩ := e
  have hlast : l[l.length - 1]? = some (l[l.length - 1]'(by omega)) := List.getElem?_eq_getElem _
  have hc := hcell (l.length - 1) (B8 (l[l.length - 1]'(by omega))) (by rw [List.getElem?_map, hlast]; rfl)
  have hp : padN l = (l[l.length - 1]'(by omega)).toNat := by
    unfold padN
    rw [List.getLast?_eq_getElem?, hlast]
    rfl
  unfold B8 at hc
  rw [← hp] at hc
  exact ⟨hc, by rw [hp]; have := (l[l.length - 1]'(by omega)).toNat_lt; omega⟩

theorem or128 (n : Nat) (h : n < 16) : bits .or .i64 128 (n : Int) = ((128 + n : Nat) : Int) := by
  rw [show (128 : Int) = ((128 : Nat) : Int) from rfl, i64_or_nat _ _ (by omega) (by omega)]
  have := Nat.two_pow_add_eq_or_of_lt (i := 7) (b := n) (by omega) 1
  rw [← this]
theorem or_tests : ∀ n < 16, ((128 + n) ||| 32 = 128 + n + 32 ∧ (128 + n) ||| 16 = 128 + n + 16 ∧ (128 + n + 32) ||| 16 = 128 + n + 32 + 16) := by decide +kernel

end Go.Proofs.Ytchbgiindfoepaa
