/- The walk of confluxlaw18.ShapeOf (printed by gen_sh22.py). -/
import Derived.Test.YtngfenjekgdfbaaMs22
import Derived.Test.YtngfenjekgdfbaaMs19
namespace Go.Proofs.Ytngfenjekgdfbaa
open Go.RowKit

theorem rows_self (a : List (List Int)) : (a == a) = true := by simp
set_option maxRecDepth 100000 in
set_option maxHeartbeats 8000000 in
theorem ShapeOf_any {w : World} (kind : Int) (s : UInt64) (k n : Int) :
    Calls Try.prog 3 #[.int .i64 kind, .int .u64 (s.toNat : Nat), .int .i64 k, .int .i64 n] w fun e w' => e = .returned (.bool true) ∧ Fr [] w w' := by
  go_enter Try.func3, Try.ntmps3
  go_wp2_with fail
  refine (l18alive_any (w := w)).mono ?_
  rintro e w1 ⟨rfl, hF⟩
  have HF := Lib.hid hF
  clear hF
  obtain ⟨w2, e2, hF2, hB2, hs2⟩ := one_new w1 #[.int .u64 (s.toNat : Nat)] 25
  have E2 := Lib.hid e2; have HB := Lib.hid hB2; have HF := Lib.hid (HF.out.trans hF2)
  clear e2 hF2 hB2 hs2
  go_upto_region 4 with fail
  rw [E2.out]
  clear E2
  obtain ⟨g, hg⟩ : ∃ g, w1.heap.size = g := ⟨_, rfl⟩
  rw [hg] at HB ⊢
  clear hg
  go_wp2_with fail
  refine (shOf_any (w := w2) kind s k n).mono ?_
  rintro e w2a ⟨v1, rfl, hR, hF⟩
  obtain ⟨sh1, hsh1⟩ : ∃ sh, ofS kind s k n = sh := ⟨_, rfl⟩
  rw [hsh1] at hR
  obtain ⟨a1, c1, rfl⟩ := hR.shape
  have HI1 := Lib.hid hR.irows; have HSH1 := Lib.hid hsh1
  have HF := Lib.hid (HF.out.trans hF); have HB := Lib.hid (HB.out.keep hF)
  clear hR hF hsh1
  go_wp2_with fail
  refine (r18Of_any (w := w2a) kind s k n).mono ?_
  rintro e w2b ⟨v2, rfl, hR, hF⟩
  obtain ⟨sh2, hsh2⟩ : ∃ sh, ofS kind s k n = sh := ⟨_, rfl⟩
  rw [hsh2] at hR
  obtain ⟨a2, c2, rfl⟩ := hR.shape
  have HI2 := Lib.hid hR.irows; have HSH2 := Lib.hid hsh2
  have HI1 := Lib.hid (HI1.out.keep hF)
  have HF := Lib.hid (HF.out.trans hF); have HB := Lib.hid (HB.out.keep hF)
  clear hR hF hsh2
  go_wp2_with fail
  refine (l18same_any HI1.out HI2.out).mono ?_
  rintro e w2c ⟨rfl, hF⟩
  have hEQ : (sh1 == sh2) = true := by rw [← HSH1.out, ← HSH2.out]; exact rows_self _
  rw [hEQ]
  have HF := Lib.hid (HF.out.trans hF); have HB := Lib.hid (HB.out.keep hF)
  clear hF hEQ HI1 HI2
  go_wp2_with fail
  refine (shNext_any (w := w2c) s).mono ?_
  rintro e w3 ⟨rfl, hF⟩
  have HF := Lib.hid (HF.out.trans hF); have HB := Lib.hid (HB.out.keep hF)
  clear hF
  go_wp2_with fail
  refine (r18Next_any (w := w3) s).mono ?_
  rintro e w4 ⟨rfl, hF⟩
  have HF := Lib.hid (HF.out.trans hF); have HB := Lib.hid (HB.out.keep hF)
  clear hF
  have x0 := HB.out.cell 0
  simp only [List.getElem?_toArray, List.getElem?_cons_zero] at x0
  go_wp2_with (refine wpList_load_row_w rfl 25 (.tmp 9) rfl g rfl 25 _ _ HB.out Try.underlying25 rfl (by kernel_rfl) ?_)
  clear x0
  refine (shRun_any (w := w4) s k n).mono ?_
  rintro e w4a ⟨v3, rfl, hR, hF⟩
  obtain ⟨sh3, hsh3⟩ : ∃ sh, ofS 0 s k n = sh := ⟨_, rfl⟩
  rw [hsh3] at hR
  obtain ⟨a3, c3, rfl⟩ := hR.shape
  have HI3 := Lib.hid hR.irows; have HSH3 := Lib.hid hsh3
  have HF := Lib.hid (HF.out.trans hF); have HB := Lib.hid (HB.out.keep hF)
  clear hR hF hsh3
  go_wp2_with fail
  refine (r18Of_any (w := w4a) 0 s k n).mono ?_
  rintro e w4b ⟨v4, rfl, hR, hF⟩
  obtain ⟨sh4, hsh4⟩ : ∃ sh, ofS 0 s k n = sh := ⟨_, rfl⟩
  rw [hsh4] at hR
  obtain ⟨a4, c4, rfl⟩ := hR.shape
  have HI4 := Lib.hid hR.irows; have HSH4 := Lib.hid hsh4
  have HI3 := Lib.hid (HI3.out.keep hF)
  have HF := Lib.hid (HF.out.trans hF); have HB := Lib.hid (HB.out.keep hF)
  clear hR hF hsh4
  go_wp2_with fail
  refine (l18same_any HI3.out HI4.out).mono ?_
  rintro e w4c ⟨rfl, hF⟩
  have hEQ : (sh3 == sh4) = true := by rw [← HSH3.out, ← HSH4.out]; exact rows_self _
  rw [hEQ]
  have HF := Lib.hid (HF.out.trans hF); have HB := Lib.hid (HB.out.keep hF)
  clear hF hEQ HI3 HI4
  have x0 := HB.out.cell 0
  simp only [List.getElem?_toArray, List.getElem?_cons_zero] at x0
  go_wp2_with (refine wpList_load_row_w rfl 25 (.tmp 9) rfl g rfl 25 _ _ HB.out Try.underlying25 rfl (by kernel_rfl) ?_)
  clear x0
  refine (shSpread_any (w := w4c) s k n).mono ?_
  rintro e w4ca ⟨v5, rfl, hR, hF⟩
  obtain ⟨sh5, hsh5⟩ : ∃ sh, ofS 1 s k n = sh := ⟨_, rfl⟩
  rw [hsh5] at hR
  obtain ⟨a5, c5, rfl⟩ := hR.shape
  have HI5 := Lib.hid hR.irows; have HSH5 := Lib.hid hsh5
  have HF := Lib.hid (HF.out.trans hF); have HB := Lib.hid (HB.out.keep hF)
  clear hR hF hsh5
  go_wp2_with fail
  refine (r18Of_any (w := w4ca) 1 s k n).mono ?_
  rintro e w4cb ⟨v6, rfl, hR, hF⟩
  obtain ⟨sh6, hsh6⟩ : ∃ sh, ofS 1 s k n = sh := ⟨_, rfl⟩
  rw [hsh6] at hR
  obtain ⟨a6, c6, rfl⟩ := hR.shape
  have HI6 := Lib.hid hR.irows; have HSH6 := Lib.hid hsh6
  have HI5 := Lib.hid (HI5.out.keep hF)
  have HF := Lib.hid (HF.out.trans hF); have HB := Lib.hid (HB.out.keep hF)
  clear hR hF hsh6
  go_wp2_with fail
  refine (l18same_any HI5.out HI6.out).mono ?_
  rintro e w4cc ⟨rfl, hF⟩
  have hEQ : (sh5 == sh6) = true := by rw [← HSH5.out, ← HSH6.out]; exact rows_self _
  rw [hEQ]
  have HF := Lib.hid (HF.out.trans hF); have HB := Lib.hid (HB.out.keep hF)
  clear hF hEQ HI5 HI6
  have x0 := HB.out.cell 0
  simp only [List.getElem?_toArray, List.getElem?_cons_zero] at x0
  go_wp2_with (refine wpList_load_row_w rfl 25 (.tmp 9) rfl g rfl 25 _ _ HB.out Try.underlying25 rfl (by kernel_rfl) ?_)
  clear x0
  refine (shRandom_any (w := w4cc) s k n).mono ?_
  rintro e w4cca ⟨v7, rfl, hR, hF⟩
  obtain ⟨sh7, hsh7⟩ : ∃ sh, ofS 2 s k n = sh := ⟨_, rfl⟩
  rw [hsh7] at hR
  obtain ⟨a7, c7, rfl⟩ := hR.shape
  have HI7 := Lib.hid hR.irows; have HSH7 := Lib.hid hsh7
  have HF := Lib.hid (HF.out.trans hF); have HB := Lib.hid (HB.out.keep hF)
  clear hR hF hsh7
  go_wp2_with fail
  refine (r18Of_any (w := w4cca) 2 s k n).mono ?_
  rintro e w4ccb ⟨v8, rfl, hR, hF⟩
  obtain ⟨sh8, hsh8⟩ : ∃ sh, ofS 2 s k n = sh := ⟨_, rfl⟩
  rw [hsh8] at hR
  obtain ⟨a8, c8, rfl⟩ := hR.shape
  have HI8 := Lib.hid hR.irows; have HSH8 := Lib.hid hsh8
  have HI7 := Lib.hid (HI7.out.keep hF)
  have HF := Lib.hid (HF.out.trans hF); have HB := Lib.hid (HB.out.keep hF)
  clear hR hF hsh8
  go_wp2_with fail
  refine (l18same_any HI7.out HI8.out).mono ?_
  rintro e w4ccc ⟨rfl, hF⟩
  have hEQ : (sh7 == sh8) = true := by rw [← HSH7.out, ← HSH8.out]; exact rows_self _
  rw [hEQ]
  have HF := Lib.hid (HF.out.trans hF); have HB := Lib.hid (HB.out.keep hF)
  clear hF hEQ HI7 HI8
  have x0 := HB.out.cell 0
  simp only [List.getElem?_toArray, List.getElem?_cons_zero] at x0
  go_wp2_with fail
  go_ret
  exact ⟨rfl, HF.out⟩
end Go.Proofs.Ytngfenjekgdfbaa
