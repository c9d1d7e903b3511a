import Derived.Laws.IdiomStrings
import Derived.Laws.BytesArg
import Derived.Test.YtcmpjkopdjncdaaMw28
/- The walk of rtcp's readReason; bytes as a string (printed by gen_7reason.py). -/
namespace Go.Proofs.Ytcmpjkopdjncdaa
open Go.RowKit

/-- Bytes as a string. -/
def strB (l : List UInt8) : ByteArray := ⟨l.toArray⟩
set_option maxRecDepth 100000 in
theorem str_of {w : World} {v : Value} {l : List UInt8} (h : Bytes w v l) : (Go.convert 22 9 v).run Try.prog w = .ok (.string (strB l)) w := by
  obtain ⟨a, cap, rfl⟩ := h.shape
  cases a with
  | none =>
    have h0 := Sl.len h
    rw [List.length_map] at h0 ⊢
    have hc := h0.2.2.2 rfl
    have : l = [] := List.eq_nil_of_length_eq_zero (by omega)
    subst this
    exact run_convert_bytes_nil w _ _ Try.underlying22 Try.underlying5 _ _ _ Try.underlying9
  | some p =>
    rw [List.length_map]
    refine Go.run_convert_bytes_back w _ _ _ p cap l Try.underlying22 Try.underlying5 Try.underlying9 (fun j hj => ?_)
    rw [List.length_map] at h
    obtain ⟨b, o, e, -, hc⟩ := Sl.at_ h (k := j) (by omega)
    cases e
    have := hc j (B8 l[j]) (by rw [List.getElem?_map, List.getElem?_eq_getElem hj]; rfl)
    rw [Addr.add_mid]
    exact this
set_option maxRecDepth 100000 in
set_option maxHeartbeats 4000000 in
theorem tReason_any {w : World} {R : Nat} {v : Value} {k : Nat} {l : List UInt8} (hR : Rd w R v k l) :
    Calls Try.prog 82 #[.pointer (some ⟨R, 0, none⟩)] w fun e w' => (∃ s k', reasonR l k = some (s, k') ∧ e = .returned (.string (strB s)) ∧ Rd w' R v k' l ∧ Fr [R] w w') ∨ (reasonR l k = none ∧ Ends e ∧ Fr [R] w w') := by
  obtain ⟨a, cap, rfl, -⟩ := hR.sl.shape
  simp only [List.length_map] at hR ⊢
  have HLF := Lib.hid (left_any R a l.length cap k w hR.c0 hR.c1 hR.place hR.small)
  have hpl := hR.place
  have hsm := hR.small
  have HR := Lib.hid hR
  clear hR
  go_enter Try.func82, Try.ntmps82
  go_wp2_with fail
  refine HLF.out.mono ?_
  rintro e w1 ⟨rfl, n1, rfl⟩
  clear HLF
  have hF1 : Fr [] w (w.drewN n1) := (Fr.refl _ _).drewN _
  have HR := Lib.hid (HR.out.keep hF1); have HF : Hid (Fr [R] w (w.drewN n1)) := Lib.hid hF1.any
  clear hF1
  generalize w.drewN n1 = w1 at *
  by_cases h0 : k = l.length
  · have HS : Hid (reasonR l k = some ([], k)) := Lib.hid (by unfold reasonR; rw [if_pos h0])
    have hb : (((l.length : Nat) : Int) - (k : Int) == 0) = true := beq_iff_eq.2 (by omega)
    clear h0
    go_wp2_with fail
    go_ret
    exact .inl ⟨[], k, HS.out, rfl, HR.out, HF.out⟩
  have hb : (((l.length : Nat) : Int) - (k : Int) == 0) = false := beq_eq_false_iff_ne.2 (by omega)
  have HS : Hid (reasonR l k = if nb l k 1 = 0 then none else if k + 1 + nb l k 1 ≤ l.length then if zerosR l (padOf (nb l k 1 + 1)) (k + 1 + nb l k 1) then some ((l.drop (k + 1)).take (nb l k 1), k + 1 + nb l k 1 + padOf (nb l k 1 + 1)) else none else none) := Lib.hid (by unfold reasonR; rw [if_neg h0])
  have hlt : k < l.length := by omega
  clear h0
  go_wp2_with fail
  refine (rbyte_or HR.out).mono ?_
  rintro e w2 (⟨hk, rfl, hR, hF⟩ | ⟨hk, rfl, hF⟩)
  rotate_left
  · exact absurd hk (by omega)
  have HR := Lib.hid hR; have HF := Lib.hid (HF.out.trans hF)
  clear hR hF hk hb
  have hb1 := nb_lt l k 1
  obtain ⟨m, hm⟩ : ∃ m, nb l k 1 = m := ⟨_, rfl⟩
  rw [hm] at HS hb1 ⊢
  clear hm
  by_cases hz : m = 0
  · subst hz
    go_wp2_with fail
    refine (fail_any _ 21 (by decide) _).mono ?_
    rintro e w3 ⟨rfl, rfl⟩
    exact ⟨rfl, .inr ⟨by rw [HS.out]; simp, ⟨21, by decide, rfl⟩, HF.out⟩⟩
  have hzb : ((m : Int) == 0) = false := beq_eq_false_iff_ne.2 (by omega)
  have hzb2 : (m == 0) = false := beq_eq_false_iff_ne.2 hz
  have HS : Hid (reasonR l k = if k + 1 + m ≤ l.length then if zerosR l (padOf (m + 1)) (k + 1 + m) then some ((l.drop (k + 1)).take m, k + 1 + m + padOf (m + 1)) else none else none) := Lib.hid (by rw [HS.out, if_neg hz])
  have hmb : m < 256 := by omega
  clear hz hb1
  go_wp2_with fail
  refine (take_or HR.out m).mono ?_
  rintro e w3 (⟨hk, vb, rfl, hO, hR, hF⟩ | ⟨hk, rfl, hF⟩)
  rotate_left
  · exact ⟨rfl, .inr ⟨by rw [HS.out, if_neg (by omega)], ⟨20, by decide, rfl⟩, HF.out.trans hF.any⟩⟩
  have HS : Hid (reasonR l k = if zerosR l (padOf (m + 1)) (k + 1 + m) then some ((l.drop (k + 1)).take m, k + 1 + m + padOf (m + 1)) else none) := Lib.hid (by rw [HS.out, if_pos hk])
  have HR := Lib.hid hR; have HF := Lib.hid (HF.out.trans hF)
  have hst := str_of hO.bytes
  obtain ⟨ab, nb', cb, rfl⟩ := hO.isSlice
  clear hR hF hO hk hzb hzb2
  obtain ⟨m1, hm1e⟩ : ∃ m1, m + 1 = m1 := ⟨_, rfl⟩
  rw [hm1e] at HS
  have HM1 := Lib.hid hm1e
  have hm1 : ((m : Int) + 1) = ((m1 : Nat) : Int) := by omega
  clear hm1e
  have HZZ := Lib.hid (tZeros_any HR.out m1 (by have := HM1.out; omega))
  go_wp2_with fail
  refine HZZ.out.mono ?_
  rintro e w4 (⟨hz, rfl, hR, hF⟩ | ⟨hz, he, hF⟩)
  · have HSS : Hid (reasonR l k = some ((l.drop (k + 1)).take m, k + 1 + m + padOf m1)) := Lib.hid (by rw [HS.out, if_pos hz])
    have HR := Lib.hid hR; have HF := Lib.hid (HF.out.trans hF)
    clear hR hF hz hst hm1
    go_wp2_with fail
    go_ret
    exact .inl ⟨_, _, HSS.out, rfl, HR.out, HF.out⟩
  · obtain ⟨c, hc, rfl⟩ := he
    exact ⟨rfl, .inr ⟨by rw [HS.out, hz]; rfl, ⟨c, hc, rfl⟩, HF.out.trans hF⟩⟩
end Go.Proofs.Ytcmpjkopdjncdaa
