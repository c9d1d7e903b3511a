/- The walk of confluxref13.Few. -/
import Derived.Test.YticoongkfhkjgaaRows2
import Derived.Test.YticoongkfhkjgaaRef1
namespace Go.Proofs.Yticoongkfhkjgaa
open Go.RowKit

def few13 (ls : List (List UInt8)) (n sz : Nat) : Bool := decide (ls.length ≤ n) && ls.all fun l => decide (l.length ≤ sz)
theorem few13_true {ls : List (List UInt8)} {n sz : Nat} (h : few13 ls n sz = true) : ls.length ≤ n ∧ ∀ l ∈ ls, l.length ≤ sz := by
  unfold few13 at h
  simpa using h
theorem few13_long {ls : List (List UInt8)} {n sz j : Nat} {l : List UInt8} (h : ls[j]? = some l) (hl : sz < l.length) : few13 ls n sz = false := by
  have hm := List.mem_of_getElem? h
  cases hc : few13 ls n sz with
  | false => rfl
  | true => have := (few13_true hc).2 l hm; omega
theorem few13_end {ls : List (List UInt8)} {n sz j : Nat} (h : ∀ x ∈ ls.take j, x.length ≤ sz) (hj : ls.length ≤ j ∨ n < j) (hjl : j ≤ ls.length) : few13 ls n sz = decide (ls.length ≤ n) := by
  unfold few13
  by_cases hn : ls.length ≤ n
  · have hall : ls.all (fun l => decide (l.length ≤ sz)) = true := by
      rw [List.all_eq_true]
      intro x hx
      have : ls.take j = ls := List.take_of_length_le (by omega)
      rw [this] at h
      simpa using h x hx
    rw [hall]
    simp
  · simp [hn]

set_option maxHeartbeats 1000000 in
theorem RFew13_any {w : World} {v : Value} {ls : List (List UInt8)} (h : BRows w v ls) (n sz : Nat) (hn : n ≤ 1000000) (hs : sz ≤ 1000000) :
    Calls Try.prog 60 #[v, .int .i64 n, .int .i64 sz] w fun e w' => e = .returned (.bool (few13 ls n sz)) ∧ Fr [] w w' := by
  obtain ⟨a, c, rfl⟩ := h.shape
  have HL := Lib.hid h
  have hlen := h.len.2
  unfold maxLen at hlen
  clear h
  go_enter Try.func60, Try.ntmps60
  go_wp2_with fail
  go_loopw [7] (fun i wr => ∃ j : Nat, j ≤ ls.length ∧ i = .int .i64 j ∧ j ≤ n + 1 ∧ (∀ x ∈ ls.take j, x.length ≤ sz) ∧ Fr [] w wr) (fun i _ => ls.length - (intOf i).toNat)
  case atStart => exact ⟨0, Nat.zero_le _, rfl, by omega, by simp, Fr.refl _ _⟩
  case round =>
    obtain ⟨j, hj, rfl, hjn, hall, hF⟩ := hrel
    have HALL := Lib.hid hall; have HF := Lib.hid hF
    clear hall hF
    by_cases hlt : j < ls.length
    · by_cases hn2 : j ≤ n
      · obtain ⟨b, o, x, l, rfl, hb, hl, hx, hR⟩ := HL.out.at_ hlt
        obtain ⟨al, cl, rfl⟩ := Sl.shape hR
        simp only [List.length_map] at hx
        have d := HF.out.cellSome hx (by simp)
        have hll := (Sl.len hR).2
        simp only [List.length_map] at hll
        unfold maxLen at hll
        have HLJ := Lib.hid hl
        clear hx hl hR hb
        by_cases hbig : sz < l.length
        · have HB := Lib.hid (few13_long (n := n) HLJ.out hbig)
          go_wp2_with fail
          go_ret
          exact ⟨by rw [HB.out]; rfl, HF.out⟩
        · have HB := Lib.hid hbig
          clear hbig
          have hnb : ¬ (sz : Int) < (l.length : Int) := by have := HB.out; omega
          go_wp2_with fail
          go_roundw
          case rel =>
            refine ⟨j + 1, by omega, by go_num, by omega, ?_, HF.out⟩
            intro y hy
            rw [List.take_add_one, HLJ.out] at hy
            rcases List.mem_append.1 hy with h | h
            · exact HALL.out y h
            · simp at h; subst h; have := HB.out; omega
          case measure => simp [intOf]; omega
      · have HE := Lib.hid (few13_end HALL.out (n := n) (.inr (by omega)) hj)
        go_wp2_with fail
        go_ret
        exact ⟨by rw [HE.out]; simp, HF.out⟩
    · have HE := Lib.hid (few13_end HALL.out (n := n) (.inl (by omega)) hj)
      go_wp2_with fail
      all_goals
        go_ret
        exact ⟨by rw [HE.out]; simp, HF.out⟩
end Go.Proofs.Yticoongkfhkjgaa
