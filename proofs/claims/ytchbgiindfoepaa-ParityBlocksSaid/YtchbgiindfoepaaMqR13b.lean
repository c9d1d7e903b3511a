/- The walk of confluxref13.Some (printed by gen_r13b.py). -/
import Derived.Test.YtchbgiindfoepaaMqR13
import Derived.Test.YtchbgiindfoepaaMq34
namespace Go.Proofs.Ytchbgiindfoepaa
open Go.RowKit

set_option maxRecDepth 100000 in
set_option maxHeartbeats 16000000 in
theorem r13Some_any {w : World} {v1 v2 : Value} {ls : List (List UInt8)} {xs : List Int} (hl : BRows w v1 ls) (hx : Ints w v2 xs) (hsz : ls.length ≤ 1000) (hsx : xs.length ≤ 1000) :
    Calls Try.prog 32 #[v1, v2] w fun e w' => Fr [] w w' ∧ Made (someR ls xs) w.heap.size e w' := by
  obtain ⟨av, cv, rfl⟩ := hl.shape
  obtain ⟨ax, cx, rfl⟩ := Sl.shape hx
  rw [List.length_map] at hx ⊢
  obtain ⟨w1, e1, hF1, hB1, hs1⟩ := one_new w rpz 58
  obtain ⟨w2, e2, hF2, hB2, hs2⟩ := one_new w1 #[] 25
  have HO : Hid (OwnEls 1 BytesR w2 w1.heap.size 25 (.slice (some ⟨w1.heap.size, 0, none⟩) 0 0) [] []) := Lib.hid (by rw [← e2]; exact OwnEls.made w1 w1.heap.size _ (Nat.le_refl _))
  have HL := Lib.hid (hl.keep hF1); have HX := Lib.hid (Sl.keep hx hF1); have HF := Lib.hid hF1; have HR := Lib.hid hB1; have E1 := Lib.hid e1; have E2 := Lib.hid e2
  have HF2 := Lib.hid hF2; have HG2 : Hid (w.heap.size < w1.heap.size) := Lib.hid hB1.lt
  clear hl hx hF1 hB1 e1 hs1 hF2 hB2 hs2 e2
  go_enter Try.func32, Try.ntmps32
  go_upto_region 1 with fail
  rw [E1.out]
  clear E1
  go_upto_region 2 with fail
  rw [E2.out]
  clear E2
  go_upto_region 3 with fail
  go_loopw [6, 7] (fun sv iv wr => ∃ (k : Nat) (Bs : List Nat), k ≤ xs.length ∧ iv = .int .i64 k ∧ pickOk ls.length (xs.take k) ∧ OwnEls 1 BytesR wr w1.heap.size 25 sv (pick ls (xs.take k)) Bs ∧ Fr [] w1 wr ∧ ∀ b ∈ Bs, b < w1.heap.size) (fun _ iv _ => xs.length - (intOf iv).toNat)
  case atStart => exact ⟨0, [], Nat.zero_le _, rfl, ⟨by simp, by simp⟩, HO.out, HF2.out, by simp⟩
  case round =>
    clear HO HF2
    obtain ⟨k, Bs, hk, rfl, hP, hO, hF, hBs⟩ := hrel
    obtain ⟨as_, cs, rfl⟩ := hO.shape
    have HP := Lib.hid hP; have HO := Lib.hid hO; have HFQ := Lib.hid hF; have HBS := Lib.hid hBs
    clear hP hO hF hBs
    by_cases hlt : k < xs.length
    · obtain ⟨b, o, ea, hb, -⟩ := Sl.at_ HX.out hlt
      subst ea
      have HC := Lib.hid (HFQ.out.cellSome (Ints.at_ HX.out k hlt) (by simp))
      have HT : Hid (xs.take (k + 1) = xs.take k ++ [xs[k]]) := Lib.hid (List.take_succ_eq_append_getElem hlt)
      have HTF : Hid (xs = xs.take k ++ xs[k] :: xs.drop (k + 1)) := Lib.hid (by rw [List.getElem_cons_drop, List.take_append_drop])
      generalize xs[k] = x at *
      have HRW := Lib.hid (HR.out.keep HFQ.out)
      have d0 := HC.out
      by_cases h0 : x < 0
      · have HE : Hid (someR ls xs = .error 1) := Lib.hid (by unfold someR; rw [HTF.out, if_neg (pickOk_bad (.inl (by omega)))])
        go_wp2_with (refine wpList_store_row rfl 58 (.tmp 4) (.tmp 30) rfl w.heap.size rfl _ _ rfl 58 HRW.out (by kernel_rfl) rfl (by simp [Value.oneCell']) ?_; intro w9 hY hG; have HY := Lib.hid hY; have HGn := Lib.hid hG; clear hY hG)
        refine bodyPost_ret (results_row_1 rfl _ _ w.heap.size 58 _ _ rfl HY.out Try.underlying58 rfl (by kernel_rfl)) rfl ⟨(HF.out.trans HFQ.out).step HGn.out (by simp), .inr ⟨1, HE.out, by omega, rfl⟩⟩
      have hn0 : decide (x < 0) = false := decide_eq_false h0
      by_cases h1 : (ls.length : Int) ≤ x
      · have HE : Hid (someR ls xs = .error 1) := Lib.hid (by unfold someR; rw [HTF.out, if_neg (pickOk_bad (.inl (by omega)))])
        have hn1 : decide ((ls.length : Int) ≤ x) = true := decide_eq_true h1
        go_wp2_with (refine wpList_store_row rfl 58 (.tmp 4) (.tmp 30) rfl w.heap.size rfl _ _ rfl 58 HRW.out (by kernel_rfl) rfl (by simp [Value.oneCell']) ?_; intro w9 hY hG; have HY := Lib.hid hY; have HGn := Lib.hid hG; clear hY hG)
        refine bodyPost_ret (results_row_1 rfl _ _ w.heap.size 58 _ _ rfl HY.out Try.underlying58 rfl (by kernel_rfl)) rfl ⟨(HF.out.trans HFQ.out).step HGn.out (by simp), .inr ⟨1, HE.out, by omega, rfl⟩⟩
      have hn1 : decide ((ls.length : Int) ≤ x) = false := decide_eq_false h1
      clear hb
      go_upto_region 8 with fail
      clear d0
      go_loopw [8] (fun mv wz => ∃ (m : Nat), m ≤ k ∧ mv = .int .i64 m ∧ (∀ y ∈ xs.take m, y ≠ x) ∧ Fr [] wr wz) (fun mv _ => k - (intOf mv).toNat)
      case atStart => exact ⟨0, by omega, rfl, by simp, Fr.refl _ _⟩
      case round =>
        obtain ⟨m, hm, rfl, hne, hFz⟩ := hrel
        have HNE := Lib.hid hne
        have HO := Lib.hid (HO.out.keep Rep.bytes hFz); have HFQ := Lib.hid (HFQ.out.trans hFz); have HRW := Lib.hid (HRW.out.keep hFz); have HC := Lib.hid (hFz.cellSome HC.out (by simp)); have HFZ := Lib.hid hFz
        clear hne hFz
        by_cases hmk : m < k
        · have HCM := Lib.hid (HFQ.out.cellSome (Ints.at_ HX.out m (by omega)) (by simp))
          have HTM : Hid (xs.take (m + 1) = xs.take m ++ [xs[m]]) := Lib.hid (List.take_succ_eq_append_getElem (by omega))
          have HMI : Hid (xs[m] ∈ xs.take k) := Lib.hid (by
            have h1 : (xs.take k)[m]'(by rw [List.length_take]; omega) = xs[m] := List.getElem_take
            rw [← h1]
            exact List.getElem_mem _)
          generalize xs[m] = y at *
          have hmx : (m : Int) < (xs.length : Int) := by omega
          by_cases he : y = x
          · subst he
            have HE : Hid (someR ls xs = .error 1) := Lib.hid (by unfold someR; rw [HTF.out, if_neg (pickOk_bad (.inr HMI.out))])
            go_upto_region 10 with fail
            refine wp_region_T (fun w' => Fr [] wr.drew w') [] 9 #[false, false, false, false, false, false, false, false, false] (by kernel_rfl) rfl rfl ?_
            try simp only [List.append_eq, List.cons_append, List.nil_append]
            have hF := (Fr.refl [] wr).drew
            have HO := Lib.hid (HO.out.keep Rep.bytes hF)
            have HFQ := Lib.hid (HFQ.out.trans hF)
            have HRW := Lib.hid (HRW.out.keep hF)
            have HC := Lib.hid (hF.cellSome HC.out (by simp))
            have HCM := Lib.hid (hF.cellSome HCM.out (by simp))
            have HFZ := Lib.hid (HFZ.out.trans hF)
            clear hF
            have HSS : Hid (Fr [] wr.drew wr.drew) := Lib.hid (Fr.refl _ _)
            generalize wr.drew = wd at *
            refine wpAnyT_load (i := 0) (v := ?_) rfl (by kernel_rfl) (by kernel_rfl) (by kernel_rfl) (by kernel_rfl) (by kernel_rfl) (fun _ _ _ h => h) HSS.out (by rfl) ?_ ?_
            rotate_left
            · intro w hSw; skip; go_simp; try with_reducible rfl
            simp only [Act.put, List.getElem_toArray, List.getElem_cons_zero, List.getElem_cons_succ, List.setIfInBounds_toArray, List.set_cons_zero, List.set_cons_succ]
            refine wpAnyT_load (i := 1) (v := ?_) rfl (by kernel_rfl) (by kernel_rfl) (by kernel_rfl) (by kernel_rfl) (by kernel_rfl) (fun _ _ _ h => h) HSS.out (by rfl) ?_ ?_
            rotate_left
            · intro w hSw; skip; go_simp; try with_reducible rfl
            simp only [Act.put, List.getElem_toArray, List.getElem_cons_zero, List.getElem_cons_succ, List.setIfInBounds_toArray, List.set_cons_zero, List.set_cons_succ]
            refine wpAnyT_load (i := 2) (v := ?_) rfl (by kernel_rfl) (by kernel_rfl) (by kernel_rfl) (by kernel_rfl) (by kernel_rfl) (fun _ _ _ h => h) HSS.out (by rfl) ?_ ?_
            rotate_left
            · intro w hSw; skip; go_simp; try with_reducible rfl
            simp only [Act.put, List.getElem_toArray, List.getElem_cons_zero, List.getElem_cons_succ, List.setIfInBounds_toArray, List.set_cons_zero, List.set_cons_succ]
            refine wpAnyT_load (i := 3) (v := ?_) rfl (by kernel_rfl) (by kernel_rfl) (by kernel_rfl) (by kernel_rfl) (by kernel_rfl) (fun _ _ _ h => h) HSS.out (by rfl) ?_ ?_
            rotate_left
            · intro w hSw; have n0 := hSw.cellSome HCM.out (by simp); go_simp; try with_reducible rfl
            simp only [Act.put, List.getElem_toArray, List.getElem_cons_zero, List.getElem_cons_succ, List.setIfInBounds_toArray, List.set_cons_zero, List.set_cons_succ]
            refine wpAnyT_load (i := 4) (v := ?_) rfl (by kernel_rfl) (by kernel_rfl) (by kernel_rfl) (by kernel_rfl) (by kernel_rfl) (fun _ _ _ h => h) HSS.out (by rfl) ?_ ?_
            rotate_left
            · intro w hSw; skip; go_simp; try with_reducible rfl
            simp only [Act.put, List.getElem_toArray, List.getElem_cons_zero, List.getElem_cons_succ, List.setIfInBounds_toArray, List.set_cons_zero, List.set_cons_succ]
            refine wpAnyT_load (i := 5) (v := ?_) rfl (by kernel_rfl) (by kernel_rfl) (by kernel_rfl) (by kernel_rfl) (by kernel_rfl) (fun _ _ _ h => h) HSS.out (by rfl) ?_ ?_
            rotate_left
            · intro w hSw; skip; go_simp; try with_reducible rfl
            simp only [Act.put, List.getElem_toArray, List.getElem_cons_zero, List.getElem_cons_succ, List.setIfInBounds_toArray, List.set_cons_zero, List.set_cons_succ]
            refine wpAnyT_load (i := 6) (v := ?_) rfl (by kernel_rfl) (by kernel_rfl) (by kernel_rfl) (by kernel_rfl) (by kernel_rfl) (fun _ _ _ h => h) HSS.out (by rfl) ?_ ?_
            rotate_left
            · intro w hSw; skip; go_simp; try with_reducible rfl
            simp only [Act.put, List.getElem_toArray, List.getElem_cons_zero, List.getElem_cons_succ, List.setIfInBounds_toArray, List.set_cons_zero, List.set_cons_succ]
            refine wpAnyT_load (i := 7) (v := ?_) rfl (by kernel_rfl) (by kernel_rfl) (by kernel_rfl) (by kernel_rfl) (by kernel_rfl) (fun _ _ _ h => h) HSS.out (by rfl) ?_ ?_
            rotate_left
            · intro w hSw; have n0 := hSw.cellSome HC.out (by simp); go_simp; try with_reducible rfl
            simp only [Act.put, List.getElem_toArray, List.getElem_cons_zero, List.getElem_cons_succ, List.setIfInBounds_toArray, List.set_cons_zero, List.set_cons_succ]
            refine wpAnyT_load (i := 8) (v := ?_) rfl (by kernel_rfl) (by kernel_rfl) (by kernel_rfl) (by kernel_rfl) (by kernel_rfl) (fun _ _ _ h => h) HSS.out (by rfl) ?_ ?_
            rotate_left
            · intro w hSw; skip; go_simp; try with_reducible rfl
            simp only [Act.put, List.getElem_toArray, List.getElem_cons_zero, List.getElem_cons_succ, List.setIfInBounds_toArray, List.set_cons_zero, List.set_cons_succ]
            refine wpAnyT_done (by kernel_rfl) ?_ _
            go_wp2_with (refine wpList_store_row rfl 58 (.tmp 4) (.tmp 45) rfl w.heap.size rfl _ _ rfl 58 HRW.out (by kernel_rfl) rfl (by simp [Value.oneCell']) ?_; intro w9 hY hG; have HY := Lib.hid hY; have HGn := Lib.hid hG; clear hY hG)
            refine bodyPost_ret (results_row_1 rfl _ _ w.heap.size 58 _ _ rfl HY.out Try.underlying58 rfl (by kernel_rfl)) rfl ⟨(HF.out.trans HFQ.out).step HGn.out (by simp), .inr ⟨1, HE.out, by omega, rfl⟩⟩
          have hye : (y == x) = false := beq_eq_false_iff_ne.2 he
          have HYE := Lib.hid he
          clear he
          go_upto_region 10 with fail
          refine wp_region_T (fun w' => Fr [] wr.drew w') [] 9 #[false, false, false, false, false, false, false, false, false] (by kernel_rfl) rfl rfl ?_
          try simp only [List.append_eq, List.cons_append, List.nil_append]
          have hF := (Fr.refl [] wr).drew
          have HO := Lib.hid (HO.out.keep Rep.bytes hF)
          have HFQ := Lib.hid (HFQ.out.trans hF)
          have HRW := Lib.hid (HRW.out.keep hF)
          have HC := Lib.hid (hF.cellSome HC.out (by simp))
          have HCM := Lib.hid (hF.cellSome HCM.out (by simp))
          have HFZ := Lib.hid (HFZ.out.trans hF)
          clear hF
          have HSS : Hid (Fr [] wr.drew wr.drew) := Lib.hid (Fr.refl _ _)
          generalize wr.drew = wd at *
          refine wpAnyT_load (i := 0) (v := ?_) rfl (by kernel_rfl) (by kernel_rfl) (by kernel_rfl) (by kernel_rfl) (by kernel_rfl) (fun _ _ _ h => h) HSS.out (by rfl) ?_ ?_
          rotate_left
          · intro w hSw; skip; go_simp; try with_reducible rfl
          simp only [Act.put, List.getElem_toArray, List.getElem_cons_zero, List.getElem_cons_succ, List.setIfInBounds_toArray, List.set_cons_zero, List.set_cons_succ]
          refine wpAnyT_load (i := 1) (v := ?_) rfl (by kernel_rfl) (by kernel_rfl) (by kernel_rfl) (by kernel_rfl) (by kernel_rfl) (fun _ _ _ h => h) HSS.out (by rfl) ?_ ?_
          rotate_left
          · intro w hSw; skip; go_simp; try with_reducible rfl
          simp only [Act.put, List.getElem_toArray, List.getElem_cons_zero, List.getElem_cons_succ, List.setIfInBounds_toArray, List.set_cons_zero, List.set_cons_succ]
          refine wpAnyT_load (i := 2) (v := ?_) rfl (by kernel_rfl) (by kernel_rfl) (by kernel_rfl) (by kernel_rfl) (by kernel_rfl) (fun _ _ _ h => h) HSS.out (by rfl) ?_ ?_
          rotate_left
          · intro w hSw; skip; go_simp; try with_reducible rfl
          simp only [Act.put, List.getElem_toArray, List.getElem_cons_zero, List.getElem_cons_succ, List.setIfInBounds_toArray, List.set_cons_zero, List.set_cons_succ]
          refine wpAnyT_load (i := 3) (v := ?_) rfl (by kernel_rfl) (by kernel_rfl) (by kernel_rfl) (by kernel_rfl) (by kernel_rfl) (fun _ _ _ h => h) HSS.out (by rfl) ?_ ?_
          rotate_left
          · intro w hSw; have n0 := hSw.cellSome HCM.out (by simp); go_simp; try with_reducible rfl
          simp only [Act.put, List.getElem_toArray, List.getElem_cons_zero, List.getElem_cons_succ, List.setIfInBounds_toArray, List.set_cons_zero, List.set_cons_succ]
          refine wpAnyT_load (i := 4) (v := ?_) rfl (by kernel_rfl) (by kernel_rfl) (by kernel_rfl) (by kernel_rfl) (by kernel_rfl) (fun _ _ _ h => h) HSS.out (by rfl) ?_ ?_
          rotate_left
          · intro w hSw; skip; go_simp; try with_reducible rfl
          simp only [Act.put, List.getElem_toArray, List.getElem_cons_zero, List.getElem_cons_succ, List.setIfInBounds_toArray, List.set_cons_zero, List.set_cons_succ]
          refine wpAnyT_load (i := 5) (v := ?_) rfl (by kernel_rfl) (by kernel_rfl) (by kernel_rfl) (by kernel_rfl) (by kernel_rfl) (fun _ _ _ h => h) HSS.out (by rfl) ?_ ?_
          rotate_left
          · intro w hSw; skip; go_simp; try with_reducible rfl
          simp only [Act.put, List.getElem_toArray, List.getElem_cons_zero, List.getElem_cons_succ, List.setIfInBounds_toArray, List.set_cons_zero, List.set_cons_succ]
          refine wpAnyT_load (i := 6) (v := ?_) rfl (by kernel_rfl) (by kernel_rfl) (by kernel_rfl) (by kernel_rfl) (by kernel_rfl) (fun _ _ _ h => h) HSS.out (by rfl) ?_ ?_
          rotate_left
          · intro w hSw; skip; go_simp; try with_reducible rfl
          simp only [Act.put, List.getElem_toArray, List.getElem_cons_zero, List.getElem_cons_succ, List.setIfInBounds_toArray, List.set_cons_zero, List.set_cons_succ]
          refine wpAnyT_load (i := 7) (v := ?_) rfl (by kernel_rfl) (by kernel_rfl) (by kernel_rfl) (by kernel_rfl) (by kernel_rfl) (fun _ _ _ h => h) HSS.out (by rfl) ?_ ?_
          rotate_left
          · intro w hSw; have n0 := hSw.cellSome HC.out (by simp); go_simp; try with_reducible rfl
          simp only [Act.put, List.getElem_toArray, List.getElem_cons_zero, List.getElem_cons_succ, List.setIfInBounds_toArray, List.set_cons_zero, List.set_cons_succ]
          refine wpAnyT_load (i := 8) (v := ?_) rfl (by kernel_rfl) (by kernel_rfl) (by kernel_rfl) (by kernel_rfl) (by kernel_rfl) (fun _ _ _ h => h) HSS.out (by rfl) ?_ ?_
          rotate_left
          · intro w hSw; skip; go_simp; try with_reducible rfl
          simp only [Act.put, List.getElem_toArray, List.getElem_cons_zero, List.getElem_cons_succ, List.setIfInBounds_toArray, List.set_cons_zero, List.set_cons_succ]
          refine wpAnyT_done (by kernel_rfl) ?_ _
          go_wp2_with fail
          exact ⟨⟨m + 1, by omega, by go_num, fun z hz => by rw [HTM.out] at hz; rcases List.mem_append.1 hz with hz | hz; exact HNE.out z hz; (simp at hz; subst hz; exact HYE.out), HFZ.out⟩, by simp [intOf]; omega⟩
        · obtain rfl : m = k := by omega
          have HN2 : Hid (¬ x ∈ xs.take m) := Lib.hid (fun h => HNE.out x h rfl)
          obtain ⟨i, rfl⟩ := Int.eq_ofNat_of_zero_le (by omega : 0 ≤ x)
          have hil : i < ls.length := by omega
          have HPK : Hid (pick ls (xs.take (m + 1)) = pick ls (xs.take m) ++ [ls[i]]) := Lib.hid (by rw [HT.out, pick_snoc]; congr 2; simp [List.getD_eq_getElem?_getD, List.getElem?_eq_getElem hil])
          have HPO : Hid (pickOk ls.length (xs.take (m + 1))) := Lib.hid (by rw [HT.out]; exact pickOk_snoc HP.out (by omega) (by omega) HN2.out)
          obtain ⟨bl, ol, al, cl, ea, hbl, hcl, hyl⟩ := BRows.at_ HL.out i hil
          subst ea
          have HYL := Lib.hid hyl
          have HYB : Hid (∀ b ∈ (liveOf (.slice al ls[i].length cl)).toList, b < w1.heap.size) := Lib.hid (fun b hb => Sl.lt HYL.out b (mem_toList.1 hb))
          have HKL : Hid (List.length (pick ls (xs.take m)) = m) := Lib.hid (by unfold pick; rw [List.length_map, List.length_take]; omega)
          generalize ls[i] = y at *
          have d1 := HFQ.out.cellSome hcl (by simp)
          have d0 := HC.out
          clear hyl hcl
          generalize hps : pick ls (xs.take m) = ps at *
          have HPS := Lib.hid hps
          clear hps
          obtain ⟨w4, e4, hF4, hB4, hs4⟩ := one_new wr #[.slice al y.length cl] 25
          have E4 := Lib.hid e4; have HF4 := Lib.hid hF4; have HB4 := Lib.hid hB4
          clear e4 hF4 hB4 hs4
          have HD : Hid (∀ b, blockOf (.slice as_ ps.length cs) = some b → b ∉ (liveOf (.slice al y.length cl)).toList) := Lib.hid (fun b hb hm => by have h1 := HYB.out b hm; have h2 := (HO.out.block b hb).1; omega)
          have HL1 : Hid (ps.length + 1 ≤ maxLen) := Lib.hid (by have := HKL.out; unfold maxLen; omega)
          have HL2 : Hid ((ps.length + 1) * 24 ≤ 140737488355328) := Lib.hid (by have := HKL.out; omega)
          have HL3 : Hid (w1.heap.size ≤ w4.heap.size) := Lib.hid (by have := HFQ.out.size; have := HF4.out.size; omega)
          have hii : (i : Int) < (ls.length : Int) := by omega
          go_wp2_with (at_builtin; (rw [E4.out]); refine wpList_append_el Rep.bytes (by decide) rfl (.tmp 46) (.tmp 54) 22 rfl w1.heap.size 25 (.slice none 0 0) 24 Try.underlying22 info_bs rfl (.slice as_ ps.length cs) ps Bs rfl (HO.out.keep Rep.bytes HF4.out) wr.heap.size 0 1 rfl [.slice al y.length cl] y (liveOf (.slice al y.length cl)).toList (box_range HB4.out) ⟨_, rfl, Sl.keep HYL.out (HFQ.out.trans HF4.out), rfl⟩ HD.out HL1.out HL2.out HL3.out ?_; intro vs1 w5 hown1 hfr1 hbl1; have HV1 := Lib.hid hown1; have HF5 := Lib.hid hfr1; obtain ⟨as1, cs1, rfl⟩ := hown1.shape; clear hown1 hfr1 hbl1)
          exact ⟨⟨m + 1, _, by omega, by go_num, HPO.out, by rw [HPK.out]; have h1 := HV1.out; rw [List.length_append] at h1; exact h1,
            (HFQ.out.trans HF4.out).step HF5.out (fun b hb => .inr (HO.out.block b (mem_toList.1 hb)).1),
            fun b hb => by
              rcases List.mem_append.1 hb with hb | hb
              · exact HBS.out b hb
              · exact HYB.out b hb⟩, by simp [intOf]; omega⟩
    · obtain rfl : k = xs.length := by omega
      rw [List.take_length] at HP
      have HE : Hid (someR ls xs = mkP (pick ls xs)) := Lib.hid (by unfold someR; rw [if_pos HP.out])
      have HB3 : Hid (BRows wr (.slice as_ (pick ls (xs.take xs.length)).length cs) (pick ls xs)) := Lib.hid (by have h1 := HO.out.sl.rows; rw [List.take_length] at h1 ⊢; exact h1)
      have HRW := Lib.hid (HR.out.keep HFQ.out)
      generalize List.length (pick ls (xs.take xs.length)) = pn at *
      go_wp2_with fail
      refine (r13Make_any HB3.out).mono ?_
      rintro e w3 ⟨hF, ⟨r, v', hm, rfl, hv⟩ | ⟨kk, hm, hk0, rfl⟩⟩
      · obtain ⟨vb, rfl, hb, hd⟩ := hv
        obtain ⟨ab, nb, cb, rfl⟩ := Sl.isSlice hb
        have HE2 : Hid (someR ls xs = .ok r) := Lib.hid (by rw [HE.out, hm])
        have HB := Lib.hid hb; have HD := Lib.hid hd; have HRR := Lib.hid (HRW.out.keep hF); have HFR := Lib.hid (HFQ.out.trans hF); have HZR := Lib.hid HFQ.out.size
        clear hm hb hd hF
        go_wp2_with (refine wpList_store_row rfl 58 (.tmp 4) (.tmp 58) rfl w.heap.size rfl _ _ rfl 58 HRR.out (by kernel_rfl) rfl (by simp [Value.oneCell']) ?_; intro w9 hY hG; have HY := Lib.hid hY; have HGn := Lib.hid hG; clear hY hG)
        have HPO : Hid (RpO w9 w.heap.size (.agg (rpc r (.slice ab nb cb))) r) := Lib.hid ⟨_, rfl, Sl.frL HB.out HGn.out (fun b hb hm => by have := HD.out b hb; have := HG2.out; have := HZR.out; simp at hm; omega), fun b hb => by have := HD.out b hb; have := HG2.out; have := HZR.out; omega⟩
        refine bodyPost_ret (results_row_1 rfl _ _ w.heap.size 58 _ _ rfl HY.out Try.underlying58 rfl (by kernel_rfl)) rfl ⟨(HF.out.trans HFR.out).step HGn.out (by simp), .inl ⟨_, _, HE2.out, rfl, HPO.out⟩⟩
      · have HE2 : Hid (someR ls xs = .error kk) := Lib.hid (by rw [HE.out, hm])
        have HK0 := Lib.hid hk0; have HRR := Lib.hid (HRW.out.keep hF); have HFR := Lib.hid (HFQ.out.trans hF)
        clear hm hk0 hF
        go_wp2_with (refine wpList_store_row rfl 58 (.tmp 4) (.tmp 58) rfl w.heap.size rfl _ _ rfl 58 HRR.out (by kernel_rfl) rfl (by simp [Value.oneCell']) ?_; intro w9 hY hG; have HY := Lib.hid hY; have HGn := Lib.hid hG; clear hY hG)
        refine bodyPost_ret (results_row_1 rfl _ _ w.heap.size 58 _ _ rfl HY.out Try.underlying58 rfl (by kernel_rfl)) rfl ⟨(HF.out.trans HFR.out).step HGn.out (by simp), .inr ⟨kk, HE2.out, HK0.out, rfl⟩⟩
end Go.Proofs.Ytchbgiindfoepaa
