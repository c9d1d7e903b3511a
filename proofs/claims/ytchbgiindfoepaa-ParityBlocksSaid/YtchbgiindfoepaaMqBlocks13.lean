/- The walk of confluxlaw13.ParityBlocks (printed by gen_blocks13.py). -/
import Derived.Test.YtchbgiindfoepaaMqR13c
import Derived.Test.YtchbgiindfoepaaMq36
import Derived.Test.YtchbgiindfoepaaMqMakes
namespace Go.Proofs.Ytchbgiindfoepaa
open Go.RowKit

theorem fr_range {w w' : World} {b o : Nat} {c : List Value} (hf : Fr [] w w') (h : w.rangeAt b o c) : w'.rangeAt b o c := fun j u hj => hf.cellSome (h j u hj) (by simp)
/-- What a call that makes a block hands back, as repairs and an error's number. -/
def resB : Except Int (List Rep_) → List Rep_ × Int
  | .ok rs => (rs, 0)
  | .error k => ([], k)
theorem MadeB.uni {x : Except Int (List Rep_)} {n : Nat} {e : Ending} {w' : World} (h : MadeB x n e w') : ∃ v' B, e = .returned (.tuple #[v', .int .i64 (resB x).2]) ∧ OwnEls 12 RpR w' n 58 v' (resB x).1 B := by
  rcases h with ⟨rs, v', B, rfl, rfl, h, -⟩ | ⟨k, rfl, -, rfl⟩
  · exact ⟨v', B, rfl, h⟩
  · exact ⟨.slice none 0 0, [], rfl, OwnEls.nil _ _ _⟩
theorem blockL_all (ls : List (List UInt8)) : ∀ (sh : List (List Int)) (acc rs : List Rep_), blockL ls sh acc = .ok rs → (∀ r ∈ acc, r.bt.body.length ≤ 1500) → rs.length = acc.length + sh.length ∧ ∀ r ∈ rs, r.bt.body.length ≤ 1500
  | [], acc, rs, h, ha => by cases h; exact ⟨rfl, ha⟩
  | xs :: sh, acc, rs, h, ha => by
    unfold blockL at h
    cases hs : someR ls xs with
    | error k => rw [hs] at h; cases h
    | ok r =>
      rw [hs] at h
      obtain ⟨h1, h2⟩ := blockL_all ls sh (acc ++ [r]) rs h (fun q hq => by
        rcases List.mem_append.1 hq with hq | hq
        · exact ha q hq
        · simp at hq; subst hq; exact someR_1500 hs)
      refine ⟨?_, h2⟩
      rw [h1, List.length_append, List.length_cons, List.length_cons, List.length_nil]
      omega
theorem resB_small (ls : List (List UInt8)) (sh : List (List Int)) : (resB (blockL ls sh [])).1.length ≤ sh.length ∧ ∀ r ∈ (resB (blockL ls sh [])).1, r.bt.body.length ≤ 1500 := by
  cases h : blockL ls sh [] with
  | ok rs =>
    obtain ⟨h1, h2⟩ := blockL_all ls sh [] rs h (by simp)
    exact ⟨by show rs.length ≤ _; simp at h1; omega, h2⟩
  | error k => exact ⟨by simp [resB], by simp [resB]⟩
set_option maxRecDepth 100000 in
set_option maxHeartbeats 16000000 in
theorem ParityBlocks_any {w : World} {v v2 : Value} {ls : List (List UInt8)} {sh : List (List Int)} (hl : BRows w v ls) (hx : SlOf Ints w v2 sh) :
    Calls Try.prog 5 #[v, v2] w fun e w' => e = .returned (.bool true) ∧ Fr [] w w' := by
  obtain ⟨av, cv, rfl⟩ := hl.shape
  obtain ⟨ax, cx, rfl⟩ := hx.shape
  have hlen := hl.len
  have hlen2 := hx.len
  unfold maxLen at hlen hlen2
  have HB := Lib.hid hl; have HX := Lib.hid hx; have HF : Hid (Fr [] w w) := Lib.hid (Fr.refl _ _)
  clear hl hx
  go_enter Try.func5, Try.ntmps5
  go_wp2_with fail
  refine l13alive_any.mono ?_
  rintro e w1 ⟨rfl, hF⟩
  have HF := Lib.hid (HF.out.trans hF)
  have HB := Lib.hid (HB.out.keep hF)
  have HX := Lib.hid (HX.out.keepI hF)
  clear hF
  go_wp2_with fail
  refine (RFew13_any HB.out 20 400 (by omega) (by omega)).mono ?_
  rintro e w2 ⟨rfl, hF⟩
  have HF := Lib.hid (HF.out.trans hF)
  have HB := Lib.hid (HB.out.keep hF)
  have HX := Lib.hid (HX.out.keepI hF)
  clear hF
  by_cases hfew : few13 ls 20 400 = true
  rotate_left
  · have hfew2 : few13 ls 20 400 = false := by simpa using hfew
    rw [hfew2]
    go_wp2_with fail
    go_ret
    first | exact ⟨rfl, HF.out⟩ | exact ⟨ret_bool (by simp), HF.out⟩
  rw [hfew]
  obtain ⟨hn20, hsz⟩ := few13_true hfew
  have HSZ := Lib.hid hsz
  clear hfew hsz
  by_cases hx20 : 20 < sh.length
  · have hd : decide (20 < (sh.length : Int)) = true := decide_eq_true (by omega)
    go_wp2_with fail
    go_ret
    first | exact ⟨rfl, HF.out⟩ | exact ⟨ret_bool (by simp), HF.out⟩
  have hd : decide (20 < (sh.length : Int)) = false := decide_eq_false (by omega)
  go_upto_region 6 with fail
  go_loopw [25] (fun iv wr => ∃ (k : Nat), k ≤ sh.length ∧ iv = .int .i64 k ∧ (∀ xs ∈ sh.take k, xs.length ≤ 30) ∧ Fr [] w2 wr) (fun iv _ => sh.length - (intOf iv).toNat)
  case atStart => exact ⟨0, Nat.zero_le _, rfl, by simp, Fr.refl _ _⟩
  case round =>
    obtain ⟨k, hk, rfl, hsm, hF⟩ := hrel
    have HSM := Lib.hid hsm; have HF2 := Lib.hid hF
    clear hsm
    have HF := Lib.hid (HF.out.trans hF)
    have HB := Lib.hid (HB.out.keep hF)
    have HX := Lib.hid (HX.out.keepI hF)
    clear hF
    by_cases hlt : k < sh.length
    · obtain ⟨b, o, x, y, ea, hb, hy, hc, hx⟩ := HX.out.at_ hlt
      subst ea
      have HT : Hid (sh.take (k + 1) = sh.take k ++ [y]) := Lib.hid (by rw [List.take_add_one, hy]; rfl)
      obtain ⟨al, cl, rfl⟩ := Sl.shape hx
      rw [List.length_map] at hx hc
      have hyl := (Sl.len hx).2
      unfold maxLen at hyl
      clear hb hy hx
      by_cases h30 : 30 < y.length
      · have hd2 : decide (30 < (y.length : Int)) = true := decide_eq_true (by omega)
        go_wp2_with fail
        go_ret
        first | exact ⟨rfl, HF.out⟩ | exact ⟨ret_bool (by simp), HF.out⟩
      have hd2 : decide (30 < (y.length : Int)) = false := decide_eq_false (by omega)
      go_wp2_with fail
      exact ⟨⟨k + 1, by omega, by go_num, fun z hz => by rw [HT.out] at hz; rcases List.mem_append.1 hz with hz | hz; exact HSM.out z hz; (simp at hz; subst hz; omega), HF2.out⟩, by simp [intOf]; omega⟩
    obtain rfl : k = sh.length := by omega
    rw [List.take_length] at HSM
    have HSM2 : Hid (∀ xs ∈ sh, xs.length ≤ 1000) := Lib.hid (fun xs h => Nat.le_trans (HSM.out xs h) (by omega))
    obtain ⟨q, hq⟩ : ∃ q, resB (blockL ls sh []) = q := ⟨_, rfl⟩
    have HQ := Lib.hid hq
    have HQS : Hid (q.1.length ≤ sh.length ∧ ∀ r ∈ q.1, r.bt.body.length ≤ 1500) := Lib.hid (by rw [← hq]; exact resB_small ls sh)
    obtain ⟨rs, k1⟩ := q
    have hrn : rs.length ≤ 20 := by have := HQS.out.1; simp only at this; omega
    clear hq HF2 HSM
    go_wp2_with fail
    refine (pBlock_any HB.out HX.out (by omega) (by omega) HSM2.out).mono ?_
    rintro e w10 ⟨hF, hm⟩
    obtain ⟨v10, B10, rfl, hown⟩ := hm.uni
    rw [HQ.out] at hown ⊢
    simp only at hown ⊢
    obtain ⟨a10, c10, rfl⟩ := hown.shape
    clear hm
    have HF := Lib.hid (HF.out.trans hF)
    have HB := Lib.hid (HB.out.keep hF)
    have HX := Lib.hid (HX.out.keepI hF)
    have HE10 := Lib.hid hown.sl
    clear hown hF
    go_wp2_with fail
    refine (r13Block_any HB.out HX.out (by omega) (by omega) HSM2.out).mono ?_
    rintro e w11 ⟨hF, hm⟩
    obtain ⟨v11, B11, rfl, hown⟩ := hm.uni
    rw [HQ.out] at hown ⊢
    simp only at hown ⊢
    obtain ⟨a11, c11, rfl⟩ := hown.shape
    clear hm
    have HF := Lib.hid (HF.out.trans hF)
    have HB := Lib.hid (HB.out.keep hF)
    have HX := Lib.hid (HX.out.keepI hF)
    have HE10 := Lib.hid (HE10.out.keep Rep.rp hF)
    have HE11 := Lib.hid hown.sl
    clear hown hF
    go_wp2_with fail
    refine (pNumbers_any HE10.out (by omega)).mono ?_
    rintro e w12 ⟨v12, B12, rfl, hown, hF⟩
    obtain ⟨a12, c12, rfl⟩ := hown.shape
    have HN12 := Lib.hid hown.sl
    clear hown
    have HF := Lib.hid (HF.out.trans hF)
    have HB := Lib.hid (HB.out.keep hF)
    have HX := Lib.hid (HX.out.keepI hF)
    have HE10 := Lib.hid (HE10.out.keep Rep.rp hF)
    have HE11 := Lib.hid (HE11.out.keep Rep.rp hF)
    clear hF
    have hnl : (rs.map nmb).length = rs.length := List.length_map _
    rw [hnl]
    clear hnl
    go_upto_region 17 with fail
    go_loopw [66] (fun iv wr => ∃ (k : Nat), k ≤ rs.length ∧ iv = .int .i64 k ∧ Fr [] w12 wr) (fun iv _ => rs.length - (intOf iv).toNat)
    case atStart => exact ⟨0, Nat.zero_le _, rfl, Fr.refl _ _⟩
    case round =>
      obtain ⟨k, hk, rfl, hF⟩ := hrel
      have HFK := Lib.hid hF
      have HF := Lib.hid (HF.out.trans hF)
      have HB := Lib.hid (HB.out.keep hF)
      have HX := Lib.hid (HX.out.keepI hF)
      have HE10 := Lib.hid (HE10.out.keep Rep.rp hF)
      have HE11 := Lib.hid (HE11.out.keep Rep.rp hF)
      have HN12 := Lib.hid (HN12.out.keep Rep.seq hF)
      clear hF
      by_cases hlt : k < rs.length
      · obtain ⟨b1, o1, cc1, y, B1, ea, -, hy, ⟨vb1, rfl, hbb1, -⟩, -, hrg1⟩ := HE10.out.at_ Rep.rp hlt
        subst ea
        obtain ⟨b2, o2, cc2, y2, B2, ea, -, hy2, ⟨vb2, rfl, hbb2, -⟩, -, hrg2⟩ := HE11.out.at_ Rep.rp hlt
        subst ea
        obtain rfl : y = y2 := by rw [hy] at hy2; exact Option.some.inj hy2
        obtain ⟨b3, o3, cc3, z, B3, ea, -, hz, ⟨vb3, rfl, hbb3, -⟩, -, hrg3⟩ := HN12.out.at_ Rep.seq (by rw [List.length_map]; exact hlt)
        subst ea
        obtain rfl : nmb y = z := by rw [List.getElem?_map, hy] at hz; exact Option.some.inj hz
        obtain ⟨x1, n1, d1, rfl⟩ := Sl.isSlice hbb1
        obtain ⟨x2, n2, d2, rfl⟩ := Sl.isSlice hbb2
        obtain ⟨x3, n3, d3, rfl⟩ := Sl.isSlice hbb3
        have HRG1 := Lib.hid hrg1; have HRG2 := Lib.hid hrg2; have HC3 := Lib.hid (hrg3 0 _ rfl); have HY1 := Lib.hid hbb1; have HY2 := Lib.hid hbb2; have HY3 := Lib.hid hbb3
        have HYS : Hid (y.bt.body.length ≤ 1099511627776) := Lib.hid (by have := HQS.out.2 y (List.mem_of_getElem? hy); omega)
        clear hy hy2 hz hbb1 hbb2 hbb3 hrg1 hrg2 hrg3
        go_upto_region 19 with fail
        refine wp_region_T (fun w' => Fr [] wr.drew w') [] 23 #[false, false, false, false, false, false, false, false, false, false, false, false, false, false, false, false, false, false, false, false, false, false, false] (by kernel_rfl) rfl rfl ?_
        try simp only [List.append_eq, List.cons_append, List.nil_append]
        have hF := (Fr.refl [] wr).drew
        have HF := Lib.hid (HF.out.trans hF)
        have HB := Lib.hid (HB.out.keep hF)
        have HX := Lib.hid (HX.out.keepI hF)
        have HE10 := Lib.hid (HE10.out.keep Rep.rp hF)
        have HE11 := Lib.hid (HE11.out.keep Rep.rp hF)
        have HN12 := Lib.hid (HN12.out.keep Rep.seq hF)
        have HFK := Lib.hid (HFK.out.trans hF)
        have HY1 := Lib.hid (Sl.keep HY1.out hF)
        have HY2 := Lib.hid (Sl.keep HY2.out hF)
        have HY3 := Lib.hid (Sl.keep HY3.out hF)
        have HRG1 : Hid (World.rangeAt _ _ _ _) := Lib.hid (fr_range hF HRG1.out)
        have HRG2 : Hid (World.rangeAt _ _ _ _) := Lib.hid (fr_range hF HRG2.out)
        have HC3 := Lib.hid (hF.cellSome HC3.out (by simp))
        clear hF
        have HSS : Hid (Fr [] wr.drew wr.drew) := Lib.hid (Fr.refl _ _)
        generalize wr.drew = wd at *
        refine wpAnyT_load (i := 0) (v := ?_) rfl (by kernel_rfl) (by kernel_rfl) (by kernel_rfl) (by kernel_rfl) (by kernel_rfl) (fun _ _ _ h => h) HSS.out (by rfl) ?_ ?_
        rotate_left
        · intro w hSw; skip; go_simp; try with_reducible rfl
        simp only [Act.put, List.getElem_toArray, List.getElem_cons_zero, List.getElem_cons_succ, List.setIfInBounds_toArray, List.set_cons_zero, List.set_cons_succ]
        refine wpAnyT_load (i := 1) (v := ?_) rfl (by kernel_rfl) (by kernel_rfl) (by kernel_rfl) (by kernel_rfl) (by kernel_rfl) (fun _ _ _ h => h) HSS.out (by rfl) ?_ ?_
        rotate_left
        · intro w hSw; skip; go_simp; try with_reducible rfl
        simp only [Act.put, List.getElem_toArray, List.getElem_cons_zero, List.getElem_cons_succ, List.setIfInBounds_toArray, List.set_cons_zero, List.set_cons_succ]
        refine wpAnyT_load (i := 2) (v := ?_) rfl (by kernel_rfl) (by kernel_rfl) (by kernel_rfl) (by kernel_rfl) (by kernel_rfl) (fun _ _ _ h => h) HSS.out (by rfl) ?_ ?_
        rotate_left
        · intro w hSw; skip; go_simp; try with_reducible rfl
        simp only [Act.put, List.getElem_toArray, List.getElem_cons_zero, List.getElem_cons_succ, List.setIfInBounds_toArray, List.set_cons_zero, List.set_cons_succ]
        refine wpAnyT_load (i := 3) (v := ?_) rfl (by kernel_rfl) (by kernel_rfl) (by kernel_rfl) (by kernel_rfl) (by kernel_rfl) (fun _ _ _ h => h) HSS.out (by rfl) ?_ ?_
        rotate_left
        · intro w' hSw; refine run_load_mid_op 58 (.tmp 71) ?_ b1 (o1 + k * 12) ?_ (rpc y (.slice x1 n1 d1)) _ (fr_range hSw HRG1.out) Try.underlying58 rfl (by kernel_rfl) <;> rfl
        simp only [Act.put, List.getElem_toArray, List.getElem_cons_zero, List.getElem_cons_succ, List.setIfInBounds_toArray, List.set_cons_zero, List.set_cons_succ]
        refine wpAnyT_load (i := 4) (v := ?_) rfl (by kernel_rfl) (by kernel_rfl) (by kernel_rfl) (by kernel_rfl) (by kernel_rfl) (fun _ _ _ h => h) HSS.out (by rfl) ?_ ?_
        rotate_left
        · intro w hSw; skip; go_simp; try with_reducible rfl
        simp only [Act.put, List.getElem_toArray, List.getElem_cons_zero, List.getElem_cons_succ, List.setIfInBounds_toArray, List.set_cons_zero, List.set_cons_succ]
        refine wpAnyT_load (i := 5) (v := ?_) rfl (by kernel_rfl) (by kernel_rfl) (by kernel_rfl) (by kernel_rfl) (by kernel_rfl) (fun _ _ _ h => h) HSS.out (by rfl) ?_ ?_
        rotate_left
        · intro w hSw; skip; go_simp; try with_reducible rfl
        simp only [Act.put, List.getElem_toArray, List.getElem_cons_zero, List.getElem_cons_succ, List.setIfInBounds_toArray, List.set_cons_zero, List.set_cons_succ]
        refine wpAnyT_load (i := 6) (v := ?_) rfl (by kernel_rfl) (by kernel_rfl) (by kernel_rfl) (by kernel_rfl) (by kernel_rfl) (fun _ _ _ h => h) HSS.out (by rfl) ?_ ?_
        rotate_left
        · intro w hSw; skip; go_simp; try with_reducible rfl
        simp only [Act.put, List.getElem_toArray, List.getElem_cons_zero, List.getElem_cons_succ, List.setIfInBounds_toArray, List.set_cons_zero, List.set_cons_succ]
        refine wpAnyT_load (i := 7) (v := ?_) rfl (by kernel_rfl) (by kernel_rfl) (by kernel_rfl) (by kernel_rfl) (by kernel_rfl) (fun _ _ _ h => h) HSS.out (by rfl) ?_ ?_
        rotate_left
        · intro w' hSw; refine run_load_mid_op 58 (.tmp 75) ?_ b2 (o2 + k * 12) ?_ (rpc y (.slice x2 n2 d2)) _ (fr_range hSw HRG2.out) Try.underlying58 rfl (by kernel_rfl) <;> rfl
        simp only [Act.put, List.getElem_toArray, List.getElem_cons_zero, List.getElem_cons_succ, List.setIfInBounds_toArray, List.set_cons_zero, List.set_cons_succ]
        refine wpAnyT_one (i := 8) (by kernel_rfl) rfl (fun K hK => ?_)
        rw [if_pos (by rfl)]
        go_simp
        refine (r09Same_eq (r := y) ⟨_, rfl, Sl.keep HY1.out HSS.out⟩ ⟨_, rfl, Sl.keep HY2.out HSS.out⟩ HYS.out).mono ?_
        rintro e w20 ⟨rfl, hF⟩
        go_simp
        have HSS := Lib.hid (HSS.out.trans hF)
        clear hF
        refine hK.out _ _ (fun _ => HSS.out) ?_
        clear hK K
        simp only [Act.put, List.getElem_toArray, List.getElem_cons_zero, List.getElem_cons_succ, List.setIfInBounds_toArray, List.set_cons_zero, List.set_cons_succ]
        refine wpAnyT_load (i := 9) (v := ?_) rfl (by kernel_rfl) (by kernel_rfl) (by kernel_rfl) (by kernel_rfl) (by kernel_rfl) (fun _ _ _ h => h) HSS.out (by rfl) ?_ ?_
        rotate_left
        · intro w hSw; skip; go_simp; try with_reducible rfl
        simp only [Act.put, List.getElem_toArray, List.getElem_cons_zero, List.getElem_cons_succ, List.setIfInBounds_toArray, List.set_cons_zero, List.set_cons_succ]
        refine wpAnyT_load (i := 10) (v := ?_) rfl (by kernel_rfl) (by kernel_rfl) (by kernel_rfl) (by kernel_rfl) (by kernel_rfl) (fun _ _ _ h => h) HSS.out (by rfl) ?_ ?_
        rotate_left
        · intro w hSw; skip; go_simp; try with_reducible rfl
        simp only [Act.put, List.getElem_toArray, List.getElem_cons_zero, List.getElem_cons_succ, List.setIfInBounds_toArray, List.set_cons_zero, List.set_cons_succ]
        refine wpAnyT_load (i := 11) (v := ?_) rfl (by kernel_rfl) (by kernel_rfl) (by kernel_rfl) (by kernel_rfl) (by kernel_rfl) (fun _ _ _ h => h) HSS.out (by rfl) ?_ ?_
        rotate_left
        · intro w hSw; skip; go_simp; try with_reducible rfl
        simp only [Act.put, List.getElem_toArray, List.getElem_cons_zero, List.getElem_cons_succ, List.setIfInBounds_toArray, List.set_cons_zero, List.set_cons_succ]
        refine wpAnyT_load (i := 12) (v := ?_) rfl (by kernel_rfl) (by kernel_rfl) (by kernel_rfl) (by kernel_rfl) (by kernel_rfl) (fun _ _ _ h => h) HSS.out (by rfl) ?_ ?_
        rotate_left
        · intro w hSw; skip; go_simp; try with_reducible rfl
        simp only [Act.put, List.getElem_toArray, List.getElem_cons_zero, List.getElem_cons_succ, List.setIfInBounds_toArray, List.set_cons_zero, List.set_cons_succ]
        refine wpAnyT_load (i := 13) (v := ?_) rfl (by kernel_rfl) (by kernel_rfl) (by kernel_rfl) (by kernel_rfl) (by kernel_rfl) (fun _ _ _ h => h) HSS.out (by rfl) ?_ ?_
        rotate_left
        · intro w hSw; skip; go_simp; try with_reducible rfl
        simp only [Act.put, List.getElem_toArray, List.getElem_cons_zero, List.getElem_cons_succ, List.setIfInBounds_toArray, List.set_cons_zero, List.set_cons_succ]
        refine wpAnyT_load (i := 14) (v := ?_) rfl (by kernel_rfl) (by kernel_rfl) (by kernel_rfl) (by kernel_rfl) (by kernel_rfl) (fun _ _ _ h => h) HSS.out (by rfl) ?_ ?_
        rotate_left
        · intro w hSw; have n0 := hSw.cellSome HC3.out (by simp); rw [Nat.mul_one, Nat.add_zero] at n0; go_simp; try with_reducible rfl
        simp only [Act.put, List.getElem_toArray, List.getElem_cons_zero, List.getElem_cons_succ, List.setIfInBounds_toArray, List.set_cons_zero, List.set_cons_succ]
        refine wpAnyT_load (i := 15) (v := ?_) rfl (by kernel_rfl) (by kernel_rfl) (by kernel_rfl) (by kernel_rfl) (by kernel_rfl) (fun _ _ _ h => h) HSS.out (by rfl) ?_ ?_
        rotate_left
        · intro w hSw; skip; go_simp; try with_reducible rfl
        simp only [Act.put, List.getElem_toArray, List.getElem_cons_zero, List.getElem_cons_succ, List.setIfInBounds_toArray, List.set_cons_zero, List.set_cons_succ]
        refine wpAnyT_load (i := 16) (v := ?_) rfl (by kernel_rfl) (by kernel_rfl) (by kernel_rfl) (by kernel_rfl) (by kernel_rfl) (fun _ _ _ h => h) HSS.out (by rfl) ?_ ?_
        rotate_left
        · intro w hSw; skip; go_simp; try with_reducible rfl
        simp only [Act.put, List.getElem_toArray, List.getElem_cons_zero, List.getElem_cons_succ, List.setIfInBounds_toArray, List.set_cons_zero, List.set_cons_succ]
        refine wpAnyT_load (i := 17) (v := ?_) rfl (by kernel_rfl) (by kernel_rfl) (by kernel_rfl) (by kernel_rfl) (by kernel_rfl) (fun _ _ _ h => h) HSS.out (by rfl) ?_ ?_
        rotate_left
        · intro w hSw; skip; go_simp; try with_reducible rfl
        simp only [Act.put, List.getElem_toArray, List.getElem_cons_zero, List.getElem_cons_succ, List.setIfInBounds_toArray, List.set_cons_zero, List.set_cons_succ]
        refine wpAnyT_load (i := 18) (v := ?_) rfl (by kernel_rfl) (by kernel_rfl) (by kernel_rfl) (by kernel_rfl) (by kernel_rfl) (fun _ _ _ h => h) HSS.out (by rfl) ?_ ?_
        rotate_left
        · intro w' hSw; refine run_load_mid_op 58 (.tmp 86) ?_ b2 (o2 + k * 12) ?_ (rpc y (.slice x2 n2 d2)) _ (fr_range hSw HRG2.out) Try.underlying58 rfl (by kernel_rfl) <;> rfl
        simp only [Act.put, List.getElem_toArray, List.getElem_cons_zero, List.getElem_cons_succ, List.setIfInBounds_toArray, List.set_cons_zero, List.set_cons_succ]
        refine wpAnyT_one (i := 19) (by kernel_rfl) rfl (fun K hK => ?_)
        rw [if_pos (by rfl)]
        go_simp
        refine (r11Repair_any (r := y) ⟨_, rfl, Sl.keep HY2.out HSS.out⟩).mono ?_
        rintro e w21 ⟨v21, rfl, hO, hF⟩
        obtain ⟨a21, c21, rfl⟩ := hO.shape
        have HSS := Lib.hid (HSS.out.trans hF); have H21 := Lib.hid hO.sl
        clear hF hO
        go_simp
        refine hK.out _ _ (fun _ => HSS.out) ?_
        clear hK K
        simp only [Act.put, List.getElem_toArray, List.getElem_cons_zero, List.getElem_cons_succ, List.setIfInBounds_toArray, List.set_cons_zero, List.set_cons_succ]
        refine wpAnyT_one (i := 20) (by kernel_rfl) rfl (fun K hK => ?_)
        rw [if_pos (by rfl)]
        go_simp
        refine (r01SameSeqs_eq (l := nmb y) (Sl.keep HY3.out HSS.out) H21.out).mono ?_
        rintro e w22 ⟨rfl, hF⟩
        have HSS := Lib.hid (HSS.out.trans hF)
        clear hF
        go_simp
        refine hK.out _ _ (fun _ => HSS.out) ?_
        clear hK K
        simp only [Act.put, List.getElem_toArray, List.getElem_cons_zero, List.getElem_cons_succ, List.setIfInBounds_toArray, List.set_cons_zero, List.set_cons_succ]
        refine wpAnyT_load (i := 21) (v := ?_) rfl (by kernel_rfl) (by kernel_rfl) (by kernel_rfl) (by kernel_rfl) (by kernel_rfl) (fun _ _ _ h => h) HSS.out (by rfl) ?_ ?_
        rotate_left
        · intro w hSw; skip; go_simp; try with_reducible rfl
        simp only [Act.put, List.getElem_toArray, List.getElem_cons_zero, List.getElem_cons_succ, List.setIfInBounds_toArray, List.set_cons_zero, List.set_cons_succ]
        refine wpAnyT_load (i := 22) (v := ?_) rfl (by kernel_rfl) (by kernel_rfl) (by kernel_rfl) (by kernel_rfl) (by kernel_rfl) (fun _ _ _ h => h) HSS.out (by rfl) ?_ ?_
        rotate_left
        · intro w hSw; skip; go_simp; try with_reducible rfl
        simp only [Act.put, List.getElem_toArray, List.getElem_cons_zero, List.getElem_cons_succ, List.setIfInBounds_toArray, List.set_cons_zero, List.set_cons_succ]
        refine wpAnyT_done (by kernel_rfl) ?_ _
        have hF := HSS.out
        have HFK := Lib.hid (HFK.out.trans hF)
        clear hF
        go_wp2_with fail
        exact ⟨⟨k + 1, by omega, by go_num, HFK.out⟩, by simp [intOf]; omega⟩
      obtain rfl : k = rs.length := by omega
      go_wp2_with fail
      go_ret
      first | exact ⟨rfl, HF.out⟩ | exact ⟨ret_bool (by simp), HF.out⟩
end Go.Proofs.Ytchbgiindfoepaa
