import Derived.Test.YtcmpjkopdjncdaaMw17
import Derived.Test.YtcmpjkopdjncdaaMw12
import Derived.Test.YtcmpjkopdjncdaaMw16
import Derived.Test.YtcmpjkopdjncdaaMw9
/- The walk of confluxref05.Parse (printed by gen_r5parse.py). -/
namespace Go.Proofs.Ytcmpjkopdjncdaa
open Go.RowKit

theorem nb_one {l : List UInt8} {k : Nat} (h : k < l.length) : nb l k 1 = l[k].toNat := by
  unfold nb
  have : (l.drop k).take 1 = [l[k]] := by
    rw [List.drop_eq_getElem_cons h]
    simp only [List.take_succ_cons, List.take_zero]
  rw [this]
  simp [be]
theorem RNum_at {w : World} {b o : Nat} {cap : Nat} {l : List UInt8} (h : Bytes w (.slice (some ⟨b, o, none⟩) l.length cap) l) (k m : Nat) (hk : k + m ≤ l.length) (hm : m ≤ 8) (hc : k < cap) :
    Calls Try.prog 26 #[.slice (some ⟨b, o + k, none⟩) m (cap - k)] w fun e w' => e = .returned (.int .u64 (nb l k m : Nat)) ∧ Fr [] w w' := by
  have hs := Sl.sub' h k m hk
  rw [if_neg (by omega), ← List.map_drop, ← List.map_take] at hs
  exact RNumber_any (l := (l.drop k).take m) hs (by rw [List.length_take]; omega)
theorem RCopy_if {w : World} {b o : Nat} {cap : Nat} {l : List UInt8} (h : Bytes w (.slice (some ⟨b, o, none⟩) l.length cap) l) (k m : Nat) (hk : k + m ≤ l.length) (hl : l.length ≤ 1500) :
    Calls Try.prog 9 #[.slice (if cap = k then some ⟨b, o, none⟩ else some ⟨b, o + k, none⟩) m (cap - k)] w fun e w' => ∃ v', e = .returned v' ∧ OwnB w' w.heap.size v' ((l.drop k).take m) ∧ Fr [] w w' := by
  have hs := Sl.sub' h k m hk
  rw [← List.map_drop, ← List.map_take] at hs
  exact RCopy_any (l := (l.drop k).take m) hs (by rw [List.length_take]; omega)
theorem padN_last {l : List UInt8} {k : Nat} (h : k < l.length) : padN (l.drop k) = nb l (l.length - 1) 1 := by
  rw [nb_one (by omega)]
  unfold padN
  rw [List.getLast?_drop, if_neg (by omega), List.getLast?_eq_getElem?, List.getElem?_eq_getElem (by omega)]
  rfl
theorem padN_none {l : List UInt8} {k : Nat} (h : l.length ≤ k) : padN (l.drop k) = 0 := by
  rw [List.drop_of_length_le h]; rfl
/-- What parseP gives, way by way. -/
def pk2 (l : List UInt8) (he : Bool) : Nat := if he then 12 + 4 * (nb l 0 1 % 16) + 4 + 4 * nb l (12 + 4 * (nb l 0 1 % 16) + 2) 2 else 12 + 4 * (nb l 0 1 % 16)
theorem parseP_long {l : List UInt8} {he : Bool} (h2 : ¬ nb l 0 1 / 64 ≠ 2) (h12 : ¬ l.length < 12) (hk : ¬ l.length < 12 + 4 * (nb l 0 1 % 16)) (hhe : (nb l 0 1 / 16 % 2 == 1) = he) :
    parseP l = if l.length < pk2 l he then .error 20 else if nb l 0 1 / 32 % 2 == 1 then
      if padN (l.drop (pk2 l he)) = 0 ∨ (l.drop (pk2 l he)).length < padN (l.drop (pk2 l he)) then .error 21
      else .ok { hdr l (12 + 4 * (nb l 0 1 % 16)) (pk2 l he) he with payload := (l.drop (pk2 l he)).take ((l.drop (pk2 l he)).length - padN (l.drop (pk2 l he))), pad := (l.drop (pk2 l he)).drop ((l.drop (pk2 l he)).length - padN (l.drop (pk2 l he))) }
      else .ok (hdr l (12 + 4 * (nb l 0 1 % 16)) (pk2 l he) he) := by
  subst hhe
  unfold parseP pk2
  rw [if_neg (by omega), if_neg h2, if_neg h12]
  simp only []
  rw [if_neg hk]
theorem parse_pad {l : List UInt8} {he : Bool} {kk kt y : Nat} (hP : parseP l = if l.length < pk2 l he then .error 20 else if nb l 0 1 / 32 % 2 == 1 then
      if padN (l.drop (pk2 l he)) = 0 ∨ (l.drop (pk2 l he)).length < padN (l.drop (pk2 l he)) then .error 21
      else .ok { hdr l (12 + 4 * (nb l 0 1 % 16)) (pk2 l he) he with payload := (l.drop (pk2 l he)).take ((l.drop (pk2 l he)).length - padN (l.drop (pk2 l he))), pad := (l.drop (pk2 l he)).drop ((l.drop (pk2 l he)).length - padN (l.drop (pk2 l he))) }
      else .ok (hdr l (12 + 4 * (nb l 0 1 % 16)) (pk2 l he) he)) (hk2 : pk2 l he = kt) (hkN : 12 + 4 * (nb l 0 1 % 16) = kk) (hkt : kt < l.length) (hpd : (nb l 0 1 / 32 % 2 == 1) = true) (hy : padN (l.drop kt) = y) (hbad : ¬ (y = 0 ∨ l.length - kt < y)) {en : Nat} (hen : en = l.length - y) :
    parseP l = .ok { hdr l kk kt he with payload := (l.drop kt).take (en - kt), pad := (l.drop en).take y } := by
  subst hen
  have e1 : (l.drop (l.length - y)).take y = l.drop (l.length - y) := List.take_of_length_le (by rw [List.length_drop]; omega)
  have e2 : (l.drop kt).length = l.length - kt := List.length_drop
  rw [hP, hk2, hkN, if_neg (by omega), if_pos hpd, hy, e2, if_neg hbad, List.drop_drop, e1]
  have e3 : l.length - kt - y = l.length - y - kt := by omega
  have e4 : kt + (l.length - y - kt) = l.length - y := by omega
  rw [e3, e4]
theorem parse_nopad {l : List UInt8} {he : Bool} {kk kt : Nat} (hP : parseP l = if l.length < pk2 l he then .error 20 else if nb l 0 1 / 32 % 2 == 1 then
      if padN (l.drop (pk2 l he)) = 0 ∨ (l.drop (pk2 l he)).length < padN (l.drop (pk2 l he)) then .error 21
      else .ok { hdr l (12 + 4 * (nb l 0 1 % 16)) (pk2 l he) he with payload := (l.drop (pk2 l he)).take ((l.drop (pk2 l he)).length - padN (l.drop (pk2 l he))), pad := (l.drop (pk2 l he)).drop ((l.drop (pk2 l he)).length - padN (l.drop (pk2 l he))) }
      else .ok (hdr l (12 + 4 * (nb l 0 1 % 16)) (pk2 l he) he)) (hk2 : pk2 l he = kt) (hkN : 12 + 4 * (nb l 0 1 % 16) = kk) (hkt : kt ≤ l.length) (hpd : ¬ (nb l 0 1 / 32 % 2 == 1) = true) :
    parseP l = .ok { hdr l kk kt he with payload := (l.drop kt).take (l.length - kt), pad := [] } := by
  have e1 : (l.drop kt).take (l.length - kt) = l.drop kt := List.take_of_length_le (by rw [List.length_drop]; omega)
  rw [hP, hk2, hkN, if_neg (by omega), if_neg hpd, e1]
  rfl
theorem PktV_hdr {w : World} {base : Nat} {cs ex pl pd : Value} {l payload pad : List UInt8} {k1 k2 pf : Nat} {he : Bool} (hpf : pf = if he then nb l k1 2 else 0) (h1 : OwnW w base cs (w32s l 12 (nb l 0 1 % 16)))
    (h2 : OwnB w base ex (if he then (l.drop (k1 + 4)).take (4 * nb l (k1 + 2) 2) else [])) (h3 : OwnB w base pl payload) (h4 : OwnB w base pd pad) :
    PktV w base (.agg (pc (nb l 1 1 / 128 % 2 == 1) ((nb l 1 1 % 128 : Nat) : Int) (nb l 2 2) (nb l 4 4) (nb l 8 4) cs he pf ex pl pd)) { hdr l k1 k2 he with payload := payload, pad := pad } := by
  refine ⟨cs, ex, pl, pd, ?_, h1.words, h2.bytes, h3.bytes, h4.bytes, fun b hb => ?_⟩
  · unfold hdr
    simp only [u16_nb, u32_nb]
    subst hpf
    cases he
    · rfl
    · simp only [if_true, u16_nb]
  · rcases hb with hb | hb | hb | hb
    · exact (h1.block b hb).1
    · exact (h2.block b hb).1
    · exact (h3.block b hb).1
    · exact (h4.block b hb).1
theorem one_cells' (w : World) (u : Value) (t : TypeId) : ∀ (j : Nat) (x : Value), [u][j]? = some x → (w.alloc (.cells #[u] t)).cell? ((⟨w.heap.size, 0, none⟩ : Addr).add j) = some x := by
  intro j x hx
  match j, hx with
  | 0, hx => simp at hx; subst hx; simp [Addr.add]
  | j + 1, hx => simp at hx
/-- The byte at a place, as a cell. -/
theorem byte_cell {w : World} {b o : Nat} {cap : Nat} {l : List UInt8} (h : Bytes w (.slice (some ⟨b, o, none⟩) l.length cap) l) {k : Nat} (hk : k < l.length) : w.cell? ⟨b, o + k, none⟩ = some (.int .u8 (nb l k 1 : Nat)) := by
  obtain ⟨b', o', e, _, hc⟩ := Sl.at_ h hk
  simp only [Option.some.injEq, Addr.mk.injEq, and_true] at e
  obtain ⟨rfl, rfl⟩ := e
  rw [hc k (B8 l[k]) (by rw [List.getElem?_map, List.getElem?_eq_getElem hk]; rfl), nb_one hk]
  rfl

end Go.Proofs.Ytcmpjkopdjncdaa

/- The walk of rtp.Clone (printed by gen_clone.py). -/
namespace Go.Proofs.Ytcmpjkopdjncdaa
open Go.RowKit

end Go.Proofs.Ytcmpjkopdjncdaa
