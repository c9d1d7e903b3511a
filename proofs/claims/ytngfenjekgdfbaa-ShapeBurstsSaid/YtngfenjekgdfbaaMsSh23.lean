/- The walk of confluxlaw18.ShapeBursts (printed by gen_sh22.py). -/
import Derived.Test.YtngfenjekgdfbaaMs22
import Derived.Test.YtngfenjekgdfbaaMs13
namespace Go.Proofs.Ytngfenjekgdfbaa
open Go.RowKit

set_option maxRecDepth 100000 in
set_option maxHeartbeats 8000000 in
theorem ShapeBursts_any {w : World} {v : Value} {s : List (List Int)} (h : IRows w v s) (hi : ∀ r ∈ s, ∀ x ∈ r, In64 x) (k : Int) :
    Calls Try.prog 4 #[v, .int .i64 k] w fun e w' => e = .returned (.bool true) ∧ Fr [] w w' := by
  obtain ⟨a, c, rfl⟩ := SlOf.shape h
  have hlen := h.len
  have HS := Lib.hid h; have HI := Lib.hid hi
  clear h hi
  go_enter Try.func4, Try.ntmps4
  go_wp2_with fail
  refine (l18alive_any (w := w)).mono ?_
  rintro e w1 ⟨rfl, hF⟩
  have HF := Lib.hid hF; have HS := Lib.hid (HS.out.keep hF)
  clear hF
  by_cases h12 : 12 < s.length
  · go_wp2_with fail
    go_ret
    exact ⟨rfl, HF.out⟩
  have h12i : ¬ (12 : Int) < (s.length : Int) := by omega
  go_wp2_with fail
  refine (eFew_any (xs := []) (show Ints w1 (.slice none 0 0) [] from Sl.nil w1) HS.out).mono ?_
  rintro e w2 ⟨⟨bb, rfl, hfew⟩, hF⟩
  have HF := Lib.hid (HF.out.trans hF); have HS := Lib.hid (HS.out.keep hF); have HFEW := Lib.hid hfew
  clear hF hfew
  cases bb with
  | false =>
    go_wp2_with fail
    go_ret
    exact ⟨rfl, HF.out⟩
  | true =>
    have HSZ : Hid (sumLen s ≤ 300 ∧ s.length ≤ 30) := Lib.hid ⟨(HFEW.out rfl).2, (HFEW.out rfl).1⟩
    clear HFEW
    by_cases hk : 16 < k ∧ k ≤ 48
    · obtain ⟨hk1, hk2⟩ := hk
      go_wp2_with fail
      go_ret
      exact ⟨rfl, HF.out⟩
    · have HTS : Hid (∀ j, sumLen (s.take j) ≤ 300) := Lib.hid (fun j => by
        have h1 : sumLen s = sumLen (s.take j) + sumLen (s.drop j) := by unfold sumLen; rw [← List.sum_append, ← List.map_append, List.take_append_drop]
        have := HSZ.out.1
        omega)
      have HZS : Hid (SzS [] s) := Lib.hid ⟨by simp, by have := HSZ.out.2; omega, fun r hr => by
        have h1 : r.length ≤ sumLen s := by
          obtain ⟨j, hj, rfl⟩ := List.getElem_of_mem hr
          have h2 : sumLen s = sumLen (s.take (j + 1)) + sumLen (s.drop (j + 1)) := by unfold sumLen; rw [← List.sum_append, ← List.map_append, List.take_append_drop]
          rw [List.take_succ_eq_append_getElem hj, sumLen_snoc] at h2
          omega
        have := HSZ.out.1
        omega⟩
      have HK := Lib.hid hk
      have main : True := trivial
      rcases (by omega : k ≤ 16 ∨ (16 < k ∧ 48 < k)) with hk1 | ⟨hk1, hk2⟩
      all_goals
        clear hk
        try (have hk3 : ¬ (16 : Int) < k := by omega)
        try (have hk4 : ¬ k ≤ 48 := by omega)
        go_upto_region 7 with fail
        go_loopw [5, 28] (fun nv iv wr => ∃ j m : Nat, j ≤ s.length ∧ iv = .int .i64 j ∧ nv = .int .i64 m ∧ m = sumLen (s.take j) ∧ Fr [] w wr ∧ IRows wr (.slice a s.length c) s) (fun _ iv _ => s.length - (intOf iv).toNat)
        case atStart => exact ⟨0, 0, Nat.zero_le _, rfl, rfl, rfl, HF.out, HS.out⟩
        case round =>
          clear HF HS
          obtain ⟨j, m, hj, rfl, rfl, hm, hF, hS⟩ := hrel
          have hm0 : m ≤ 300 := by rw [hm]; exact HTS.out j
          have HM := Lib.hid hm; have HF := Lib.hid hF; have HS := Lib.hid hS
          clear hm hF hS
          by_cases hlt : j < s.length
          · obtain ⟨b, o, al, cl, ea, hb, hcell, hR⟩ := IRows.at_ HS.out j hlt
            subst ea
            have d := hcell
            have HT : Hid (s.take (j + 1) = s.take j ++ [s[j]]) := Lib.hid (List.take_succ_eq_append_getElem hlt)
            have hs2 : m + s[j].length ≤ 300 := by have h1 := HTS.out (j + 1); rw [HT.out, sumLen_snoc, ← HM.out] at h1; exact h1
            have HSM : Hid (m + s[j].length = sumLen (s.take (j + 1))) := Lib.hid (by rw [HT.out, sumLen_snoc, HM.out])
            clear hcell hR
            generalize s[j].length = nr at *
            go_wp2_with fail
            exact ⟨⟨j + 1, m + nr, by omega, by go_num, by go_num, HSM.out, HF.out, HS.out⟩, by simp [intOf]; omega⟩
          · by_cases h100 : 100 < m
            · go_wp2_with fail
              go_ret
              exact ⟨rfl, HF.out⟩
            · have h100i : ¬ (100 : Int) < (m : Int) := by omega
              have HCZ : Hid (sumLen s ≤ 1073741824) := Lib.hid (by have := HSZ.out.1; omega)
              go_wp2_with fail
              refine (shCovers_any HS.out k HCZ.out).mono ?_
              rintro e w4 ⟨rfl, hF⟩
              have HF := Lib.hid (HF.out.trans hF); have HS := Lib.hid (HS.out.keep hF)
              clear hF
              go_wp2_with fail
              refine (r18Covers_any HS.out k).mono ?_
              rintro e w5 ⟨rfl, hF⟩
              have HF := Lib.hid (HF.out.trans hF); have HS := Lib.hid (HS.out.keep hF)
              clear hF
              generalize coversS s k = cv at *
              have hcv : (cv == cv) = true := by simp
              go_wp2_with fail
              refine (shBurst_any HS.out HI.out HZS.out k).mono ?_
              rintro e w6 ⟨rfl, hF⟩
              have HF := Lib.hid (HF.out.trans hF); have HS := Lib.hid (HS.out.keep hF)
              clear hF
              go_wp2_with fail
              refine (r18Burst_any HS.out k HZS.out).mono ?_
              rintro e w7 ⟨rfl, hF⟩
              have HF := Lib.hid (HF.out.trans hF)
              clear hF
              generalize burstI s k = bt at *
              go_wp2_with fail
              go_ret
              exact ⟨rfl, HF.out⟩
end Go.Proofs.Ytngfenjekgdfbaa
