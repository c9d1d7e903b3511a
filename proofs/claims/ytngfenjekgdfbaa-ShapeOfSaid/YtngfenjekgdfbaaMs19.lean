import Derived.Test.YtngfenjekgdfbaaMs18
/- The walk of confluxref18.Of at the kind by lot; at every kind (printed by gen_sh18.py). -/
namespace Go.Proofs.Ytngfenjekgdfbaa
open Go.RowKit

set_option maxRecDepth 100000 in
set_option maxHeartbeats 8000000 in
theorem r18Of_two {w : World}  (s : UInt64) (K N : Nat) (n : Int) (hK1 : 1 ≤ K) (hK2 : K ≤ 48) (hN1 : 1 ≤ N) (hN2 : N ≤ K) (hn1 : 1 ≤ n) (hmn : min n (K : Int) = (N : Int)) :
    Calls Try.prog 10 #[.int .i64 2, .int .u64 (s.toNat : Nat), .int .i64 (K : Nat), .int .i64 n] w fun e w' => ∃ v, e = .returned v ∧ RowsO w' w.heap.size v (randomS s K N) ∧ Fr [] w w' := by
  obtain ⟨w1, e1, hF1, hB1, hs1⟩ := one_new w #[] 33
  have HR0 : Hid (RowsO w1 w.heap.size (.slice (some ⟨w.heap.size, 0, none⟩) 0 0) []) := Lib.hid (by subst e1; exact RowsO.made w w.heap.size (Nat.le_refl _))
  have E1 := Lib.hid e1; have HF := Lib.hid hF1
  have h48 : ¬ (48 : Int) < (K : Int) := by omega
  have hk0 : ¬ (K : Int) < 1 := by omega
  have hn0 : ¬ n < 1 := by omega
  have hN48 : N ≤ 48 := by omega
  clear hF1 hB1 hs1 e1
  go_enter Try.func10, Try.ntmps10
  go_upto_region 2 with fail
  rw [E1.out]
  clear E1
  have HMN := Lib.hid hmn
  clear hmn
  go_upto_if 30 with fail
  go_cut [3] (fun nv wx => nv = .int .i64 (N : Nat) ∧ w1 = wx)
  case first =>
    by_cases hgt : (K : Int) < n
    · have HNK : Hid ((K : Int) = (N : Int)) := Lib.hid (by have := HMN.out; omega)
      go_wp2_with fail
      go_meet
      exact ⟨by rw [HNK.out], rfl⟩
    · have HNK : Hid (n = (N : Int)) := Lib.hid (by have := HMN.out; omega)
      go_wp2_with fail
      go_meet
      exact ⟨by rw [HNK.out], rfl⟩
  case rest =>
  obtain ⟨rfl, rfl⟩ := hcut
  clear HMN hn0
  go_upto_region 7 with fail
  go_loopw [1, 9, 10] (fun zv ov iv wr => ∃ (i : Nat) (rows : List (List Int)) (st : UInt64), i ≤ N ∧ iv = .int .i64 i ∧ zv = .int .u64 (st.toNat : Nat) ∧ fillF lotStep K i s = (rows, st) ∧ RowsO wr w.heap.size ov rows ∧ Fr [] w wr) (fun _ _ iv _ => N - (intOf iv).toNat)
  case atStart => exact ⟨0, [], s, Nat.zero_le _, rfl, rfl, rfl, HR0.out, HF.out⟩
  case round =>
    clear HR0 HF
    obtain ⟨i, rows, st, hi, rfl, rfl, hr, hO, hF⟩ := hrel
    obtain ⟨ao, co, rfl⟩ := hO.shape
    have HLR : Hid (rows.length = i) := Lib.hid (by have := fillF_len lotStep K s i; rw [hr] at this; exact this)
    have HR := Lib.hid hr; have HO := Lib.hid hO; have HF := Lib.hid hF
    clear hr hO hF
    by_cases hlt : i < N
    · have HFS : Hid (fillF lotStep K (i + 1) s = (rows ++ [(rowF lotStep i K st).1], (rowF lotStep i K st).2)) := Lib.hid (by show (_, _) = _; rw [HR.out])
      obtain ⟨wo1, e2, hF2, hB2, hs2⟩ := one_new wr #[] 3
      have HP1 : Hid (OwnV wo1 wr.heap.size 3 (Value.int .i64) (.slice (some ⟨wr.heap.size, 0, none⟩) 0 0) []) := Lib.hid (by subst e2; exact OwnV.made wr wr.heap.size _ _ (Nat.le_refl _))
      have E2 := Lib.hid e2
      generalize wr = wo at *
      have HWO : Hid (wo1.heap.size = wo.heap.size + 1) := Lib.hid hs2
      have HFO := Lib.hid hF2
      clear e2 hF2 hB2 hs2
      go_upto_region 11 with fail
      rw [E2.out]
      clear E2
      go_loopw [1, 11, 12] (fun zv pv iv wr => ∃ (p : Nat) (ys : List Int) (sp : UInt64), p ≤ K ∧ iv = .int .i64 p ∧ zv = .int .u64 (sp.toNat : Nat) ∧ rowF lotStep i p st = (ys, sp) ∧ OwnV wr wo.heap.size 3 (Value.int .i64) pv ys ∧ Fr [wo.heap.size] wo1 wr) (fun _ _ iv _ => K - (intOf iv).toNat)
      case atStart => exact ⟨0, [], st, Nat.zero_le _, rfl, rfl, rfl, HP1.out, Fr.refl _ _⟩
      case round =>
        clear HP1
        obtain ⟨p, ys, sp, hp, rfl, rfl, hrp, hP, hFq⟩ := hrel
        obtain ⟨ap, cp, rfl⟩ := hP.shape
        have HLO : Hid (ys.length ≤ 1099511627776) := Lib.hid (by have := rowF_len lotStep i st p; rw [hrp] at this; simp at this; omega)
        have HRP := Lib.hid hrp; have HP := Lib.hid hP; have HFQ := Lib.hid hFq
        clear hrp hP hFq
        by_cases hpk : p < K
        · have HRS : Hid (rowF lotStep i (p + 1) st = (if (lotStep sp i p).1 then ys ++ [(p : Int)] else ys, (lotStep sp i p).2)) := Lib.hid (by show (_, _) = _; rw [HRP.out])
          have hm0 : i * K ≤ 48 * 48 := Nat.mul_le_mul (by omega) hK2
          have hm1 : (i + 1) * K ≤ 48 * 48 := Nat.mul_le_mul (by omega) hK2
          obtain ⟨m, hm⟩ : ∃ m, i * K = m := ⟨_, rfl⟩
          obtain ⟨m2, hm2⟩ : ∃ m, (i + 1) * K = m := ⟨_, rfl⟩
          rw [hm] at hm0
          rw [hm2] at hm1
          obtain ⟨q, hq⟩ : ∃ q, m / N = q := ⟨_, rfl⟩
          obtain ⟨q2, hq2⟩ : ∃ q, m2 / N = q := ⟨_, rfl⟩
          have hq0 : q ≤ m := by rw [← hq]; exact Nat.div_le_self _ _
          have hq1 : q2 ≤ m2 := by rw [← hq2]; exact Nat.div_le_self _ _
          have hw1 : wrap64 ((i : Int) * (K : Int)) = (m : Int) := by
            have e : (i : Int) * (K : Int) = (m : Int) := by rw [← hm, Int.natCast_mul]
            rw [e]
            exact IntWalk.wrap64_in _ ⟨by omega, by omega⟩
          have hw2 : wrap64 (((i : Int) + 1) * (K : Int)) = (m2 : Int) := by
            have e : ((i : Int) + 1) * (K : Int) = (m2 : Int) := by rw [← hm2, Int.natCast_mul, Int.natCast_add]; simp
            rw [e]
            exact IntWalk.wrap64_in _ ⟨by omega, by omega⟩
          have hw3 : wrap64 ((m : Int) / (N : Int)) = (q : Int) := by
            have e : (m : Int) / (N : Int) = (q : Int) := by rw [← hq, Int.natCast_ediv]
            rw [e]
            exact IntWalk.wrap64_in _ ⟨by clear hq hq2 hm hm2 e hw1 hw2; omega, by clear hq hq2 hm hm2 e hw1 hw2; omega⟩
          have hw4 : wrap64 ((m2 : Int) / (N : Int)) = (q2 : Int) := by
            have e : (m2 : Int) / (N : Int) = (q2 : Int) := by rw [← hq2, Int.natCast_ediv]
            rw [e]
            exact IntWalk.wrap64_in _ ⟨by clear hq hq2 hm hm2 e hw1 hw2 hw3; omega, by clear hq hq2 hm hm2 e hw1 hw2 hw3; omega⟩
          have HQ : Hid (i * K / N = q ∧ (i + 1) * K / N = q2) := Lib.hid ⟨by rw [hm]; exact hq, by rw [hm2]; exact hq2⟩
          clear hm hm2 hq hq2 hm0 hm1 hq0 hq1
          by_cases h1 : q ≤ p
          · have h1n : (q : Int) ≤ (p : Int) := Int.ofNat_le.2 h1
            by_cases h2 : p < q2
            · have h2n : (p : Int) < (q2 : Int) := Int.ofNat_lt.2 h2
              clear h1 h2
              go_wp2_with fail
              refine (r18Next_any sp).mono ?_
              rintro e w6 ⟨rfl, hF6⟩
              have HP := Lib.hid (HP.out.keep hF6); have HFQ := Lib.hid (HFQ.out.quiet hF6)
              clear hF6
              have HSP : Hid ((lotStep sp i p).2 = nextS sp) := Lib.hid (by simp only [lotStep])
              have HSB : Hid ((lotStep sp i p).1 = decide (9223372036854775808 ≤ (nextS sp).toNat)) := Lib.hid (by simp only [lotStep])
              rw [HSP.out, HSB.out] at HRS
              generalize nextS sp = sq at *
              clear HSP HSB
              by_cases h5 : 9223372036854775808 ≤ sq.toNat
              · rw [decide_eq_true h5] at HRS
                have h5n : decide ((9223372036854775808 : Int) ≤ ((sq.toNat : Nat) : Int)) = true := decide_eq_true (Int.ofNat_le.2 h5)
                clear h5
                go_upto_region 20 with fail
                have A0 : Hid ((w6.alloc (.cells #[Value.int .i64 (p : Int)] 3)).ownsRow wo.heap.size 3 1 (.slice ap ys.length cp) (ys).length ((ys).map (Value.int .i64))) := Lib.hid (Own.keep HP.out ((Fr.refl [] w6).alloc _))
                have A1 : Hid ((ys).length + [Value.int .i64 (p : Int)].length ≤ maxLen) := Lib.hid (by have := HLO.out; unfold maxLen; simp only [List.length_singleton]; omega)
                have A2 : Hid (((ys).length + [Value.int .i64 (p : Int)].length) * 8 ≤ 140737488355328) := Lib.hid (by have := HLO.out; simp only [List.length_singleton]; omega)
                have A3 : Hid (Sl (w6.alloc (.cells #[Value.int .i64 (p : Int)] 3)) (.slice (some ⟨w6.heap.size, 0, none⟩) 1 1) [Value.int .i64 (p : Int)]) := Lib.hid (Sl.one w6 _ _)
                have A4 : Hid (wo.heap.size ≤ (w6.alloc (.cells #[Value.int .i64 (p : Int)] 3)).heap.size) := Lib.hid (by have := HFQ.out.size; have := HWO.out; simp; omega)
                go_wp2_with (at_builtin; refine wpList_append_slf rfl (.tmp 74) (.tmp 76) 33 rfl wo.heap.size 3 (.int .i64 0) 8 Try.underlying33 info_int rfl (.slice ap ys.length cp) (ys).length ((ys).map (Value.int .i64)) rfl A0.out (.slice (some ⟨w6.heap.size, 0, none⟩) 1 1) [Value.int .i64 (p : Int)] rfl A3.out (by simp [Value.oneCell']) A1.out A2.out A4.out ?_; intro v8 w8 ho hg hfr; have HO3 := Lib.hid ho; have HG := Lib.hid hg; have HBL := Lib.hid hfr; clear ho hg hfr)
                have HN : Hid (OwnV w8 wo.heap.size 3 (Value.int .i64) v8 (ys ++ [(p : Int)])) := Lib.hid (by
                  have := HO3.out
                  unfold OwnV
                  rw [List.map_append, List.length_append]
                  exact this)
                have HF3 : Hid (Fr [wo.heap.size] wo1 w8) := Lib.hid ((HFQ.out.alloc _).step HG.out (fun x hx => by have h1 := (HP.out.block x (mem_toList.1 hx)).1; have h2 := HWO.out; by_cases e : x = wo.heap.size; (· exact .inl (by simp [e])); (· exact .inr (by omega))))
                go_wp2_with fail
                exact ⟨⟨p + 1, ys ++ [(p : Int)], sq, by clear hw1 hw2 hw3 hw4; omega, by go_num, rfl, HRS.out, HN.out, HF3.out⟩, by simp [intOf]; clear hw1 hw2 hw3 hw4; omega⟩
              · rw [decide_eq_false h5] at HRS
                have h5n : decide ((9223372036854775808 : Int) ≤ ((sq.toNat : Nat) : Int)) = false := decide_eq_false (fun h => h5 (Int.ofNat_le.1 h))
                clear h5
                go_wp2_with fail
                exact ⟨⟨p + 1, ys, sq, by clear hw1 hw2 hw3 hw4; omega, by go_num, rfl, HRS.out, HP.out, HFQ.out⟩, by simp [intOf]; clear hw1 hw2 hw3 hw4; omega⟩
            · have h2n : ¬ (p : Int) < (q2 : Int) := fun h => h2 (Int.ofNat_lt.1 h)
              clear h1 h2
              go_wp2_with fail
              refine (r18Next_any sp).mono ?_
              rintro e w6 ⟨rfl, hF6⟩
              have HP := Lib.hid (HP.out.keep hF6); have HFQ := Lib.hid (HFQ.out.quiet hF6)
              clear hF6
              have HSP : Hid ((lotStep sp i p).2 = nextS sp) := Lib.hid (by simp only [lotStep])
              have HSB : Hid ((lotStep sp i p).1 = decide (9223372036854775808 ≤ (nextS sp).toNat)) := Lib.hid (by simp only [lotStep])
              rw [HSP.out, HSB.out] at HRS
              generalize nextS sp = sq at *
              clear HSP HSB
              by_cases h5 : 9223372036854775808 ≤ sq.toNat
              · rw [decide_eq_true h5] at HRS
                have h5n : decide ((9223372036854775808 : Int) ≤ ((sq.toNat : Nat) : Int)) = true := decide_eq_true (Int.ofNat_le.2 h5)
                clear h5
                go_upto_region 20 with fail
                have A0 : Hid ((w6.alloc (.cells #[Value.int .i64 (p : Int)] 3)).ownsRow wo.heap.size 3 1 (.slice ap ys.length cp) (ys).length ((ys).map (Value.int .i64))) := Lib.hid (Own.keep HP.out ((Fr.refl [] w6).alloc _))
                have A1 : Hid ((ys).length + [Value.int .i64 (p : Int)].length ≤ maxLen) := Lib.hid (by have := HLO.out; unfold maxLen; simp only [List.length_singleton]; omega)
                have A2 : Hid (((ys).length + [Value.int .i64 (p : Int)].length) * 8 ≤ 140737488355328) := Lib.hid (by have := HLO.out; simp only [List.length_singleton]; omega)
                have A3 : Hid (Sl (w6.alloc (.cells #[Value.int .i64 (p : Int)] 3)) (.slice (some ⟨w6.heap.size, 0, none⟩) 1 1) [Value.int .i64 (p : Int)]) := Lib.hid (Sl.one w6 _ _)
                have A4 : Hid (wo.heap.size ≤ (w6.alloc (.cells #[Value.int .i64 (p : Int)] 3)).heap.size) := Lib.hid (by have := HFQ.out.size; have := HWO.out; simp; omega)
                go_wp2_with (at_builtin; refine wpList_append_slf rfl (.tmp 74) (.tmp 76) 33 rfl wo.heap.size 3 (.int .i64 0) 8 Try.underlying33 info_int rfl (.slice ap ys.length cp) (ys).length ((ys).map (Value.int .i64)) rfl A0.out (.slice (some ⟨w6.heap.size, 0, none⟩) 1 1) [Value.int .i64 (p : Int)] rfl A3.out (by simp [Value.oneCell']) A1.out A2.out A4.out ?_; intro v8 w8 ho hg hfr; have HO3 := Lib.hid ho; have HG := Lib.hid hg; have HBL := Lib.hid hfr; clear ho hg hfr)
                have HN : Hid (OwnV w8 wo.heap.size 3 (Value.int .i64) v8 (ys ++ [(p : Int)])) := Lib.hid (by
                  have := HO3.out
                  unfold OwnV
                  rw [List.map_append, List.length_append]
                  exact this)
                have HF3 : Hid (Fr [wo.heap.size] wo1 w8) := Lib.hid ((HFQ.out.alloc _).step HG.out (fun x hx => by have h1 := (HP.out.block x (mem_toList.1 hx)).1; have h2 := HWO.out; by_cases e : x = wo.heap.size; (· exact .inl (by simp [e])); (· exact .inr (by omega))))
                go_wp2_with fail
                exact ⟨⟨p + 1, ys ++ [(p : Int)], sq, by clear hw1 hw2 hw3 hw4; omega, by go_num, rfl, HRS.out, HN.out, HF3.out⟩, by simp [intOf]; clear hw1 hw2 hw3 hw4; omega⟩
              · rw [decide_eq_false h5] at HRS
                have h5n : decide ((9223372036854775808 : Int) ≤ ((sq.toNat : Nat) : Int)) = false := decide_eq_false (fun h => h5 (Int.ofNat_le.1 h))
                clear h5
                go_wp2_with fail
                exact ⟨⟨p + 1, ys, sq, by clear hw1 hw2 hw3 hw4; omega, by go_num, rfl, HRS.out, HP.out, HFQ.out⟩, by simp [intOf]; clear hw1 hw2 hw3 hw4; omega⟩
          · have h1n : ¬ (q : Int) ≤ (p : Int) := fun h => h1 (Int.ofNat_le.1 h)
            clear h1
            go_wp2_with fail
            refine (r18Next_any sp).mono ?_
            rintro e w6 ⟨rfl, hF6⟩
            have HP := Lib.hid (HP.out.keep hF6); have HFQ := Lib.hid (HFQ.out.quiet hF6)
            clear hF6
            have HSP : Hid ((lotStep sp i p).2 = nextS sp) := Lib.hid (by simp only [lotStep])
            have HSB : Hid ((lotStep sp i p).1 = decide (9223372036854775808 ≤ (nextS sp).toNat)) := Lib.hid (by simp only [lotStep])
            rw [HSP.out, HSB.out] at HRS
            generalize nextS sp = sq at *
            clear HSP HSB
            by_cases h5 : 9223372036854775808 ≤ sq.toNat
            · rw [decide_eq_true h5] at HRS
              have h5n : decide ((9223372036854775808 : Int) ≤ ((sq.toNat : Nat) : Int)) = true := decide_eq_true (Int.ofNat_le.2 h5)
              clear h5
              go_upto_region 20 with fail
              have A0 : Hid ((w6.alloc (.cells #[Value.int .i64 (p : Int)] 3)).ownsRow wo.heap.size 3 1 (.slice ap ys.length cp) (ys).length ((ys).map (Value.int .i64))) := Lib.hid (Own.keep HP.out ((Fr.refl [] w6).alloc _))
              have A1 : Hid ((ys).length + [Value.int .i64 (p : Int)].length ≤ maxLen) := Lib.hid (by have := HLO.out; unfold maxLen; simp only [List.length_singleton]; omega)
              have A2 : Hid (((ys).length + [Value.int .i64 (p : Int)].length) * 8 ≤ 140737488355328) := Lib.hid (by have := HLO.out; simp only [List.length_singleton]; omega)
              have A3 : Hid (Sl (w6.alloc (.cells #[Value.int .i64 (p : Int)] 3)) (.slice (some ⟨w6.heap.size, 0, none⟩) 1 1) [Value.int .i64 (p : Int)]) := Lib.hid (Sl.one w6 _ _)
              have A4 : Hid (wo.heap.size ≤ (w6.alloc (.cells #[Value.int .i64 (p : Int)] 3)).heap.size) := Lib.hid (by have := HFQ.out.size; have := HWO.out; simp; omega)
              go_wp2_with (at_builtin; refine wpList_append_slf rfl (.tmp 74) (.tmp 76) 33 rfl wo.heap.size 3 (.int .i64 0) 8 Try.underlying33 info_int rfl (.slice ap ys.length cp) (ys).length ((ys).map (Value.int .i64)) rfl A0.out (.slice (some ⟨w6.heap.size, 0, none⟩) 1 1) [Value.int .i64 (p : Int)] rfl A3.out (by simp [Value.oneCell']) A1.out A2.out A4.out ?_; intro v8 w8 ho hg hfr; have HO3 := Lib.hid ho; have HG := Lib.hid hg; have HBL := Lib.hid hfr; clear ho hg hfr)
              have HN : Hid (OwnV w8 wo.heap.size 3 (Value.int .i64) v8 (ys ++ [(p : Int)])) := Lib.hid (by
                have := HO3.out
                unfold OwnV
                rw [List.map_append, List.length_append]
                exact this)
              have HF3 : Hid (Fr [wo.heap.size] wo1 w8) := Lib.hid ((HFQ.out.alloc _).step HG.out (fun x hx => by have h1 := (HP.out.block x (mem_toList.1 hx)).1; have h2 := HWO.out; by_cases e : x = wo.heap.size; (· exact .inl (by simp [e])); (· exact .inr (by omega))))
              go_wp2_with fail
              exact ⟨⟨p + 1, ys ++ [(p : Int)], sq, by clear hw1 hw2 hw3 hw4; omega, by go_num, rfl, HRS.out, HN.out, HF3.out⟩, by simp [intOf]; clear hw1 hw2 hw3 hw4; omega⟩
            · rw [decide_eq_false h5] at HRS
              have h5n : decide ((9223372036854775808 : Int) ≤ ((sq.toNat : Nat) : Int)) = false := decide_eq_false (fun h => h5 (Int.ofNat_le.1 h))
              clear h5
              go_wp2_with fail
              exact ⟨⟨p + 1, ys, sq, by clear hw1 hw2 hw3 hw4; omega, by go_num, rfl, HRS.out, HP.out, HFQ.out⟩, by simp [intOf]; clear hw1 hw2 hw3 hw4; omega⟩
        · obtain rfl : p = K := by omega
          obtain ⟨vs, hvs⟩ := HO.out
          have hvs2 := (hvs.keep HFO.out)
          have hvs3 : RowsAt wr w.heap.size (.slice ao rows.length co) rows vs := by
            have hlow : ∀ b ∈ [wo.heap.size], b < wo.heap.size + 1 := by simp
            have hbl := fun b hb => (hvs.block b hb).2
            refine ⟨hvs2.len, Own.fr hvs2.own HFQ.out (fun b hb hm => by have := (hvs.block b hb).2; simp at hm; omega), fun j x zs hx hy => Own.fr (hvs2.row j x zs hx hy) HFQ.out (fun b hb hm => by have := (hvs.rowBlock j x hx b hb).2; simp at hm; omega), hvs2.apart, hvs2.off⟩
          obtain ⟨w5, e5, hF5, hB5, hs5⟩ := one_new wr #[.slice ap ys.length cp] 33
          have E5 := Lib.hid e5
          have HV5 := Lib.hid (hvs3.keep hF5)
          have A0 := Lib.hid HV5.out.own
          have A3 : Hid (Sl w5 (.slice (some ⟨wr.heap.size, 0, none⟩) 1 1) [.slice ap ys.length cp]) := Lib.hid (by subst e5; exact Sl.one wr _ _)
          have A1 : Hid (rows.length + [Value.slice ap ys.length cp].length ≤ maxLen) := Lib.hid (by have := HLR.out; unfold maxLen; simp only [List.length_singleton]; omega)
          have A2 : Hid ((rows.length + [Value.slice ap ys.length cp].length) * 24 ≤ 140737488355328) := Lib.hid (by have := HLR.out; simp only [List.length_singleton]; omega)
          have A4 : Hid (w.heap.size ≤ w5.heap.size) := Lib.hid (by have h1 := HF.out.size; have h2 := HFQ.out.size; have h3 := HWO.out; omega)
          have HP5 : Hid (OwnV w5 wo.heap.size 3 (Value.int .i64) (.slice ap ys.length cp) ys) := Lib.hid (Own.keep HP.out hF5)
          have HF5 : Hid (Fr [] w w5) := Lib.hid ((HF.out.trans HFO.out).step (HFQ.out.quiet hF5) (fun x hx => .inr (by have h1 := HF.out.size; simp at hx; omega)))
          have HRB : Hid (∀ (k : Nat) (y : Value) (b : Nat), vs[k]? = some y → blockOf y = some b → blockOf (.slice ap ys.length cp) ≠ some b) := Lib.hid (fun k y b hy hb hp => by
            have h1 := (hvs.rowBlock k y hy b hb).2
            have h2 := (HP.out.block b hp).1
            omega)
          have HVB : Hid (∀ b, blockOf (.slice ao rows.length co) = some b → blockOf (.slice ap ys.length cp) ≠ some b) := Lib.hid (fun b hb hp => by
            have h1 := (hvs.block b hb).2
            have h2 := (HP.out.block b hp).1
            omega)
          have HBB : Hid (∀ b, blockOf (.slice ao rows.length co) = some b → w.heap.size ≤ b) := Lib.hid (fun b hb => (hvs.block b hb).1)
          have HSZ : Hid (w.heap.size ≤ wo.heap.size) := Lib.hid HF.out.size
          clear e5 hF5 hB5 hs5 hvs hvs2 hvs3
          go_wp2_with (at_builtin; (rw [E5.out]); refine wpList_append_slf rfl (.tmp 78) (.tmp 80) 27 rfl w.heap.size 33 (.slice none 0 0) 24 Try.underlying27 info_ints rfl (.slice ao rows.length co) rows.length vs rfl A0.out (.slice (some ⟨wr.heap.size, 0, none⟩) 1 1) [.slice ap ys.length cp] rfl A3.out (by simp [Value.oneCell']) A1.out A2.out A4.out ?_; intro v6 w6 ho hg hfr; have HO6 := Lib.hid ho; have HG := Lib.hid hg; have HBL := Lib.hid hfr; clear ho hg hfr)
          have HR6 : Hid (RowsO w6 w.heap.size v6 (rows ++ [ys])) := Lib.hid ⟨_, RowsAt.snoc HV5.out (Own.mono HP5.out HSZ.out) HRB.out HVB.out HO6.out HG.out HBL.out⟩
          have HF6 : Hid (Fr [] w w6) := Lib.hid (HF5.out.step HG.out (fun b hb => .inr (HBB.out b (mem_toList.1 hb))))
          rw [HRP.out] at HFS
          exact ⟨⟨i + 1, rows ++ [ys], sp, by omega, by go_num, rfl, HFS.out, HR6.out, HF6.out⟩, by simp [intOf]; omega⟩
    · obtain rfl : i = N := by omega
      have HG0 : Hid (GoodS K i rows) := Lib.hid (by have h := lots_good s K i; rw [← fillF_lot, HR.out] at h; exact h)
      have HRD : Hid (randomS s K i = noneS K (fullS i rows K) i) := Lib.hid (by rw [randomS.eq_1, ← fillF_lot, HR.out])
      rw [HLR.out] at HO
      have hli := HLR.out
      rw [HLR.out]
      have HOX := HO
      have HFX := HF
      clear HO HF HR HLR hli hlt
      go_upto_region 25 with fail
      go_loopw [14] (fun iv wr => ∃ p : Nat, p ≤ K ∧ iv = .int .i64 p ∧ RowsO wr w.heap.size (.slice ao i co) (fullS i rows p) ∧ Fr [] w wr) (fun iv _ => K - (intOf iv).toNat)
      case atStart => exact ⟨0, Nat.zero_le _, rfl, HOX.out, HFX.out⟩
      case round =>
        clear HOX HFX
        obtain ⟨p, hp, rfl, hR, hFq⟩ := hrel
        have HRq := Lib.hid hR; have HFQ := Lib.hid hFq
        have HGP := Lib.hid (full_good HG0.out (by omega) p hp).1
        clear hR hFq
        by_cases hlt : p < K
        · have HNX := Lib.hid (full_next i rows p)
          generalize fullS i rows p = sp at *
          go_wp2_with fail
          refine (r18Has_any HRq.out.irows ((p : Nat) : Int)).mono ?_
          rintro e w5 ⟨rfl, hF5⟩
          have HR5 := Lib.hid (HRq.out.keep hF5); have HFW := Lib.hid (HFQ.out.trans hF5)
          clear hF5 HRq HFQ
          cases hc : hasS sp ((p : Nat) : Int) with
          | true =>
            rw [hc, if_pos rfl] at HNX
            clear hc
            go_wp2_with fail
            exact ⟨⟨p + 1, by omega, by go_num, by rw [HNX.out]; exact HR5.out, HFW.out⟩, by simp [intOf]; omega⟩
          | false =>
            rw [hc, if_neg (by simp)] at HNX
            clear hc
            obtain ⟨q, hq⟩ : ∃ q, p % i = q := ⟨_, rfl⟩
            have hpm : (p : Int) % (i : Int) = (q : Int) := by omega
            have hpt : (p : Int).tmod (i : Int) = (q : Int) := by rw [Int.tmod_eq_emod_of_nonneg (by omega)]; exact hpm
            have hmod : q < i := by rw [← hq]; exact Nat.mod_lt _ (by omega)
            rw [hq] at HNX
            clear hq
            have hmi : (q : Int) < (i : Int) := by clear hpt hpm; omega
            have HNL : Hid (i = sp.length) := Lib.hid HGP.out.len.symm
            obtain ⟨r, hr⟩ : ∃ r, sp[q]? = some r := ⟨_, List.getElem?_eq_getElem (by rw [HGP.out.len]; exact hmod)⟩
            have HGR := Lib.hid (HGP.out.rows r (List.mem_of_getElem? hr))
            have HRL : Hid (r.length ≤ 1099511627775) := Lib.hid (by have := HGR.out.len; omega)
            obtain ⟨vs, hvs⟩ := HR5.out
            obtain ⟨xv, hxv⟩ : ∃ xv, vs[q]? = some xv := ⟨_, List.getElem?_eq_getElem (by rw [hvs.len, HGP.out.len]; exact hmod)⟩
            obtain ⟨g, cg, eg, hc, hf⟩ := World.ownsRow.at0 hvs.own hxv
            have hO := hvs.row q xv r hxv hr
            obtain ⟨ax, cx, rfl⟩ := hO.shape
            injection eg with eg1 eg2 eg3
            subst eg1
            have HV := Lib.hid hvs; have HIR : Hid (Ints w5 (.slice ax r.length cx) r) := Lib.hid hO.sl
            have HC : Hid (w5.cell? ⟨g, q, none⟩ = some (.slice ax r.length cx) ∧ w5.frozen? ⟨g, q, none⟩ = false) := Lib.hid ⟨hc, hf⟩
            have HXV := Lib.hid hxv
            have HGV : Hid (giveS sp q ((p : Nat) : Int) = sp.set q (insI r ((p : Nat) : Int))) := Lib.hid (by unfold giveS; rw [List.getD_eq_getElem?_getD, hr]; rfl)
            clear hr hvs hxv hc hf hO eg2 eg3
            go_upto_region 28 with fail
            refine wp_region_T (fun w' => Fr [] w5.drew w') [13] 14 #[false, false, false, false, false, false, false, false, false, false, false, false, false, false] (by kernel_rfl) rfl rfl ?_
            try simp only [List.append_eq, List.cons_append, List.nil_append]
            have hF := (Fr.refl [] w5).drew
            have HV := Lib.hid (HV.out.keep hF)
            have HIR := Lib.hid (HIR.out.keep hF)
            have HFW := Lib.hid (HFW.out.trans hF)
            have HC : Hid (w5.drew.cell? ⟨g, q, none⟩ = some (.slice ax r.length cx) ∧ w5.drew.frozen? ⟨g, q, none⟩ = false) := Lib.hid HC.out
            have HGW : Hid (g < w5.drew.heap.size) := Lib.hid (HV.out.block g rfl).2
            have HBW : Hid (w.heap.size ≤ w5.drew.heap.size) := Lib.hid HFW.out.size
            clear hF
            have HSS : Hid (Fr [] w5.drew w5.drew) := Lib.hid (Fr.refl _ _)
            generalize w5.drew = wd at *
            refine wpAnyT_load (i := 0) (v := ?_) rfl (by kernel_rfl) (by kernel_rfl) (by kernel_rfl) (by kernel_rfl) (by kernel_rfl) (fun _ _ _ h => h) HSS.out (by rfl) ?_ ?_
            rotate_left
            · intro w hSw; have x0 := hSw.cellSome HC.out.1 (by simp); go_simp; try with_reducible rfl
            simp only [Act.put, List.getElem_toArray, List.getElem_cons_zero, List.getElem_cons_succ, List.setIfInBounds_toArray, List.set_cons_zero, List.set_cons_succ]
            refine wpAnyT_load (i := 1) (v := ?_) rfl (by kernel_rfl) (by kernel_rfl) (by kernel_rfl) (by kernel_rfl) (by kernel_rfl) (fun _ _ _ h => h) HSS.out (by rfl) ?_ ?_
            rotate_left
            · intro w hSw; have x0 := hSw.cellSome HC.out.1 (by simp); go_simp; try with_reducible rfl
            simp only [Act.put, List.getElem_toArray, List.getElem_cons_zero, List.getElem_cons_succ, List.setIfInBounds_toArray, List.set_cons_zero, List.set_cons_succ]
            refine wpAnyT_load (i := 2) (v := ?_) rfl (by kernel_rfl) (by kernel_rfl) (by kernel_rfl) (by kernel_rfl) (by kernel_rfl) (fun _ _ _ h => h) HSS.out (by rfl) ?_ ?_
            rotate_left
            · intro w hSw; have x0 := hSw.cellSome HC.out.1 (by simp); go_simp; try with_reducible rfl
            simp only [Act.put, List.getElem_toArray, List.getElem_cons_zero, List.getElem_cons_succ, List.setIfInBounds_toArray, List.set_cons_zero, List.set_cons_succ]
            refine wpAnyT_load (i := 3) (v := .int .i64 (q : Nat)) rfl (by kernel_rfl) (by kernel_rfl) (by kernel_rfl) (by kernel_rfl) (by kernel_rfl) (fun _ _ _ h => h) HSS.out (by rfl) ?_ ?_
            · intro w hSw; have x0 := hSw.cellSome HC.out.1 (by simp); go_simp; exact fun h0 => by clear hpt hpm; omega
            simp only [Act.put, List.getElem_toArray, List.getElem_cons_zero, List.getElem_cons_succ, List.setIfInBounds_toArray, List.set_cons_zero, List.set_cons_succ]
            refine wpAnyT_load (i := 4) (v := ?_) rfl (by kernel_rfl) (by kernel_rfl) (by kernel_rfl) (by kernel_rfl) (by kernel_rfl) (fun _ _ _ h => h) HSS.out (by rfl) ?_ ?_
            rotate_left
            · intro w hSw; have x0 := hSw.cellSome HC.out.1 (by simp); go_simp; try with_reducible rfl
            simp only [Act.put, List.getElem_toArray, List.getElem_cons_zero, List.getElem_cons_succ, List.setIfInBounds_toArray, List.set_cons_zero, List.set_cons_succ]
            refine wpAnyT_load (i := 5) (v := ?_) rfl (by kernel_rfl) (by kernel_rfl) (by kernel_rfl) (by kernel_rfl) (by kernel_rfl) (fun _ _ _ h => h) HSS.out (by rfl) ?_ ?_
            rotate_left
            · intro w hSw; have x0 := hSw.cellSome HC.out.1 (by simp); go_simp; try with_reducible rfl
            simp only [Act.put, List.getElem_toArray, List.getElem_cons_zero, List.getElem_cons_succ, List.setIfInBounds_toArray, List.set_cons_zero, List.set_cons_succ]
            refine wpAnyT_load (i := 6) (v := ?_) rfl (by kernel_rfl) (by kernel_rfl) (by kernel_rfl) (by kernel_rfl) (by kernel_rfl) (fun _ _ _ h => h) HSS.out (by rfl) ?_ ?_
            rotate_left
            · intro w hSw; have x0 := hSw.cellSome HC.out.1 (by simp); go_simp; try with_reducible rfl
            simp only [Act.put, List.getElem_toArray, List.getElem_cons_zero, List.getElem_cons_succ, List.setIfInBounds_toArray, List.set_cons_zero, List.set_cons_succ]
            refine wpAnyT_load (i := 7) (v := .int .i64 (q : Nat)) rfl (by kernel_rfl) (by kernel_rfl) (by kernel_rfl) (by kernel_rfl) (by kernel_rfl) (fun _ _ _ h => h) HSS.out (by rfl) ?_ ?_
            · intro w hSw; have x0 := hSw.cellSome HC.out.1 (by simp); go_simp; exact fun h0 => by clear hpt hpm; omega
            simp only [Act.put, List.getElem_toArray, List.getElem_cons_zero, List.getElem_cons_succ, List.setIfInBounds_toArray, List.set_cons_zero, List.set_cons_succ]
            refine wpAnyT_load (i := 8) (v := ?_) rfl (by kernel_rfl) (by kernel_rfl) (by kernel_rfl) (by kernel_rfl) (by kernel_rfl) (fun _ _ _ h => h) HSS.out (by rfl) ?_ ?_
            rotate_left
            · intro w hSw; have x0 := hSw.cellSome HC.out.1 (by simp); go_simp; try with_reducible rfl
            simp only [Act.put, List.getElem_toArray, List.getElem_cons_zero, List.getElem_cons_succ, List.setIfInBounds_toArray, List.set_cons_zero, List.set_cons_succ]
            refine wpAnyT_load (i := 9) (v := ?_) rfl (by kernel_rfl) (by kernel_rfl) (by kernel_rfl) (by kernel_rfl) (by kernel_rfl) (fun _ _ _ h => h) HSS.out (by rfl) ?_ ?_
            rotate_left
            · intro w hSw; have x0 := hSw.cellSome HC.out.1 (by simp); go_simp; try with_reducible rfl
            simp only [Act.put, List.getElem_toArray, List.getElem_cons_zero, List.getElem_cons_succ, List.setIfInBounds_toArray, List.set_cons_zero, List.set_cons_succ]
            refine wpAnyT_load (i := 10) (v := ?_) rfl (by kernel_rfl) (by kernel_rfl) (by kernel_rfl) (by kernel_rfl) (by kernel_rfl) (fun _ _ _ h => h) HSS.out (by rfl) ?_ ?_
            rotate_left
            · intro w hSw; have x0 := hSw.cellSome HC.out.1 (by simp); go_simp; try with_reducible rfl
            simp only [Act.put, List.getElem_toArray, List.getElem_cons_zero, List.getElem_cons_succ, List.setIfInBounds_toArray, List.set_cons_zero, List.set_cons_succ]
            refine wpAnyT_one (i := 11) (by kernel_rfl) rfl (fun K hK => ?_)
            rw [if_pos (by rfl)]
            go_simp
            refine (r18insert_any (Ints.keep HIR.out HSS.out) ((p : Nat) : Int) (by have := HRL.out; omega)).mono ?_
            rintro e w6 ⟨v6, rfl, hO6, hF6⟩
            have HSS := Lib.hid (HSS.out.trans hF6)
            have HO6 : Hid (OwnV w6 wd.heap.size 3 (Value.int .i64) v6 (insI r ((p : Nat) : Int))) := Lib.hid (hO6.mono (by have := HSS.out.size; first | exact this | (have h2 := hF6.size; exact Nat.le_refl _) | omega))
            obtain ⟨a6, n6, c6, rfl⟩ := hO6.isSlice
            clear hO6 hF6
            go_simp
            refine hK.out _ _ (fun _ => HSS.out) ?_
            clear hK K
            simp only [Act.put, List.getElem_toArray, List.getElem_cons_zero, List.getElem_cons_succ, List.setIfInBounds_toArray, List.set_cons_zero, List.set_cons_succ]
            refine wpAnyT_load (i := 12) (v := ?_) rfl (by kernel_rfl) (by kernel_rfl) (by kernel_rfl) (by kernel_rfl) (by kernel_rfl) (fun _ _ _ h => h) HSS.out (by rfl) ?_ ?_
            rotate_left
            · intro w hSw; have x0 := hSw.cellSome HC.out.1 (by simp); go_simp; try with_reducible rfl
            simp only [Act.put, List.getElem_toArray, List.getElem_cons_zero, List.getElem_cons_succ, List.setIfInBounds_toArray, List.set_cons_zero, List.set_cons_succ]
            have x0 : w6.cell? ⟨g, q, none⟩ = some (.slice ax r.length cx) := HSS.out.cellSome HC.out.1 (by simp)
            have f0 : w6.frozen? ⟨g, q, none⟩ = false := (HSS.out.frozen (p := ⟨g, q, none⟩) HGW.out (by simp)).trans HC.out.2
            obtain ⟨w7, e7⟩ : ∃ w7, w6.setCell ⟨g, q, none⟩ (.slice a6 n6 c6) = w7 := ⟨_, rfl⟩
            obtain ⟨hR7, hB7⟩ := RowsAt.put HV.out HNL.out HXV.out HSS.out HO6.out HBW.out e7
            have HR7 := Lib.hid hR7
            have HF7 : Hid (Fr [] w w7) := Lib.hid (hB7.fr HFW.out (Nat.le_refl _))
            have E7 := Lib.hid e7
            clear hR7 hB7 e7
            refine wpAnyT_one (i := 13) (by kernel_rfl) rfl (fun K hK => ?_)
            rw [if_pos (by rfl)]
            go_simp
            rw [E7.out]
            refine hK.out _ _ (fun h => (h (by simp)).elim) ?_
            clear hK K x0 f0
            simp only [Act.put, List.getElem_toArray, List.getElem_cons_zero, List.getElem_cons_succ, List.setIfInBounds_toArray, List.set_cons_zero, List.set_cons_succ]
            refine wpAnyT_done (by kernel_rfl) ?_ _
            rw [HGV.out] at HNX
            go_wp2_with fail
            exact ⟨⟨p + 1, by omega, by go_num, by rw [HNX.out]; exact HR7.out, HF7.out⟩, by simp [intOf]; omega⟩
        · obtain rfl : p = K := by omega
          have HG1 := Lib.hid (full_good HG0.out (by omega) p (Nat.le_refl _))
          have HN0 : Hid (noneS p (fullS i rows p) 0 = fullS i rows p) := Lib.hid rfl
          generalize fullS i rows p = s1 at *
          clear hlt
          go_upto_region 30 with fail
          go_loopw [15] (fun iv wr => ∃ j : Nat, j ≤ i ∧ iv = .int .i64 j ∧ RowsO wr w.heap.size (.slice ao i co) (noneS p s1 j) ∧ Fr [] w wr) (fun iv _ => i - (intOf iv).toNat)
          case atStart => exact ⟨0, Nat.zero_le _, rfl, by rw [HN0.out]; exact HRq.out, HFQ.out⟩
          case round =>
            clear HRq HFQ
            obtain ⟨j, hj, rfl, hR, hFq⟩ := hrel
            have HR5 := Lib.hid hR; have HFW := Lib.hid hFq
            have HGN := Lib.hid (none_good HG1.out.1 (by omega) HG1.out.2 j hj).1
            clear hR hFq
            by_cases hlt : j < i
            · have HNX := Lib.hid (none_next p s1 j)
              generalize noneS p s1 j = sp at *
              have hil : j < sp.length := by rw [HGN.out.len]; exact hlt
              have hr : sp[j]? = some sp[j] := List.getElem?_eq_getElem hil
              have HGD : Hid (sp.getD j [] = sp[j]) := Lib.hid (by rw [List.getD_eq_getElem?_getD, hr]; rfl)
              rw [HGD.out] at HNX
              clear HGD
              generalize sp[j] = r at *
              have HNL : Hid (i = sp.length) := Lib.hid HGN.out.len.symm
              have HGR := Lib.hid (HGN.out.rows r (List.mem_of_getElem? hr))
              have HRL : Hid (r.length ≤ 1099511627775) := Lib.hid (by have := HGR.out.len; omega)
              have hzr := HGR.out.len
              obtain ⟨vs, hvs⟩ := HR5.out
              obtain ⟨xv, hxv⟩ : ∃ xv, vs[j]? = some xv := ⟨_, List.getElem?_eq_getElem (by rw [hvs.len]; exact hil)⟩
              obtain ⟨g, cg, eg, hc, hf⟩ := World.ownsRow.at0 hvs.own hxv
              have hO := hvs.row j xv r hxv hr
              obtain ⟨ax, cx, rfl⟩ := hO.shape
              injection eg with eg1 eg2 eg3
              subst eg1
              have HV := Lib.hid hvs; have HIR : Hid (Ints wr (.slice ax r.length cx) r) := Lib.hid hO.sl
              have HC : Hid (wr.cell? ⟨g, j, none⟩ = some (.slice ax r.length cx) ∧ wr.frozen? ⟨g, j, none⟩ = false) := Lib.hid ⟨hc, hf⟩
              have HXV := Lib.hid hxv
              have d := hc
              clear hvs hxv hc hf hO eg2 eg3
              by_cases hz : r.length = 0
              · have hre : r = [] := List.eq_nil_of_length_eq_zero hz
                rw [if_pos (by rw [hre]; rfl)] at HNX
                obtain ⟨q, hq⟩ : ∃ q, j % p = q := ⟨_, rfl⟩
                have hpm : (j : Int) % (p : Int) = (q : Int) := by omega
                have hpt : (j : Int).tmod (p : Int) = (q : Int) := by rw [Int.tmod_eq_emod_of_nonneg (by omega)]; exact hpm
                rw [hq] at HNX
                clear hq
                have HGV : Hid (giveS sp j ((q : Nat) : Int) = sp.set j (insI r ((q : Nat) : Int))) := Lib.hid (by unfold giveS; rw [List.getD_eq_getElem?_getD, hr]; rfl)
                have hr0 : ((r.length : Nat) : Int) = 0 := by omega
                have hji : (j : Int) < (i : Int) := by clear hpt hpm; omega
                clear hre hr hz
                go_upto_region 33 with fail
                refine wp_region_T (fun w' => Fr [] wr.drew w') [11] 12 #[false, false, false, false, false, false, false, false, false, false, false, false] (by kernel_rfl) rfl rfl ?_
                try simp only [List.append_eq, List.cons_append, List.nil_append]
                have hF := (Fr.refl [] wr).drew
                have HV := Lib.hid (HV.out.keep hF)
                have HIR := Lib.hid (HIR.out.keep hF)
                have HFW := Lib.hid (HFW.out.trans hF)
                have HC : Hid (wr.drew.cell? ⟨g, j, none⟩ = some (.slice ax r.length cx) ∧ wr.drew.frozen? ⟨g, j, none⟩ = false) := Lib.hid HC.out
                have HGW : Hid (g < wr.drew.heap.size) := Lib.hid (HV.out.block g rfl).2
                have HBW : Hid (w.heap.size ≤ wr.drew.heap.size) := Lib.hid HFW.out.size
                clear hF
                have HSS : Hid (Fr [] wr.drew wr.drew) := Lib.hid (Fr.refl _ _)
                generalize wr.drew = wd at *
                refine wpAnyT_load (i := 0) (v := ?_) rfl (by kernel_rfl) (by kernel_rfl) (by kernel_rfl) (by kernel_rfl) (by kernel_rfl) (fun _ _ _ h => h) HSS.out (by rfl) ?_ ?_
                rotate_left
                · intro w hSw; have x0 := hSw.cellSome HC.out.1 (by simp); go_simp; try with_reducible rfl
                simp only [Act.put, List.getElem_toArray, List.getElem_cons_zero, List.getElem_cons_succ, List.setIfInBounds_toArray, List.set_cons_zero, List.set_cons_succ]
                refine wpAnyT_load (i := 1) (v := ?_) rfl (by kernel_rfl) (by kernel_rfl) (by kernel_rfl) (by kernel_rfl) (by kernel_rfl) (fun _ _ _ h => h) HSS.out (by rfl) ?_ ?_
                rotate_left
                · intro w hSw; have x0 := hSw.cellSome HC.out.1 (by simp); go_simp; try with_reducible rfl
                simp only [Act.put, List.getElem_toArray, List.getElem_cons_zero, List.getElem_cons_succ, List.setIfInBounds_toArray, List.set_cons_zero, List.set_cons_succ]
                refine wpAnyT_load (i := 2) (v := ?_) rfl (by kernel_rfl) (by kernel_rfl) (by kernel_rfl) (by kernel_rfl) (by kernel_rfl) (fun _ _ _ h => h) HSS.out (by rfl) ?_ ?_
                rotate_left
                · intro w hSw; have x0 := hSw.cellSome HC.out.1 (by simp); go_simp; try with_reducible rfl
                simp only [Act.put, List.getElem_toArray, List.getElem_cons_zero, List.getElem_cons_succ, List.setIfInBounds_toArray, List.set_cons_zero, List.set_cons_succ]
                refine wpAnyT_load (i := 3) (v := ?_) rfl (by kernel_rfl) (by kernel_rfl) (by kernel_rfl) (by kernel_rfl) (by kernel_rfl) (fun _ _ _ h => h) HSS.out (by rfl) ?_ ?_
                rotate_left
                · intro w hSw; have x0 := hSw.cellSome HC.out.1 (by simp); go_simp; try with_reducible rfl
                simp only [Act.put, List.getElem_toArray, List.getElem_cons_zero, List.getElem_cons_succ, List.setIfInBounds_toArray, List.set_cons_zero, List.set_cons_succ]
                refine wpAnyT_load (i := 4) (v := ?_) rfl (by kernel_rfl) (by kernel_rfl) (by kernel_rfl) (by kernel_rfl) (by kernel_rfl) (fun _ _ _ h => h) HSS.out (by rfl) ?_ ?_
                rotate_left
                · intro w hSw; have x0 := hSw.cellSome HC.out.1 (by simp); go_simp; try with_reducible rfl
                simp only [Act.put, List.getElem_toArray, List.getElem_cons_zero, List.getElem_cons_succ, List.setIfInBounds_toArray, List.set_cons_zero, List.set_cons_succ]
                refine wpAnyT_load (i := 5) (v := ?_) rfl (by kernel_rfl) (by kernel_rfl) (by kernel_rfl) (by kernel_rfl) (by kernel_rfl) (fun _ _ _ h => h) HSS.out (by rfl) ?_ ?_
                rotate_left
                · intro w hSw; have x0 := hSw.cellSome HC.out.1 (by simp); go_simp; try with_reducible rfl
                simp only [Act.put, List.getElem_toArray, List.getElem_cons_zero, List.getElem_cons_succ, List.setIfInBounds_toArray, List.set_cons_zero, List.set_cons_succ]
                refine wpAnyT_load (i := 6) (v := ?_) rfl (by kernel_rfl) (by kernel_rfl) (by kernel_rfl) (by kernel_rfl) (by kernel_rfl) (fun _ _ _ h => h) HSS.out (by rfl) ?_ ?_
                rotate_left
                · intro w hSw; have x0 := hSw.cellSome HC.out.1 (by simp); go_simp; try with_reducible rfl
                simp only [Act.put, List.getElem_toArray, List.getElem_cons_zero, List.getElem_cons_succ, List.setIfInBounds_toArray, List.set_cons_zero, List.set_cons_succ]
                refine wpAnyT_load (i := 7) (v := ?_) rfl (by kernel_rfl) (by kernel_rfl) (by kernel_rfl) (by kernel_rfl) (by kernel_rfl) (fun _ _ _ h => h) HSS.out (by rfl) ?_ ?_
                rotate_left
                · intro w hSw; have x0 := hSw.cellSome HC.out.1 (by simp); go_simp; try with_reducible rfl
                simp only [Act.put, List.getElem_toArray, List.getElem_cons_zero, List.getElem_cons_succ, List.setIfInBounds_toArray, List.set_cons_zero, List.set_cons_succ]
                refine wpAnyT_load (i := 8) (v := .int .i64 (q : Nat)) rfl (by kernel_rfl) (by kernel_rfl) (by kernel_rfl) (by kernel_rfl) (by kernel_rfl) (fun _ _ _ h => h) HSS.out (by rfl) ?_ ?_
                · intro w hSw; have x0 := hSw.cellSome HC.out.1 (by simp); go_simp; exact fun h0 => by clear hpt hpm; omega
                simp only [Act.put, List.getElem_toArray, List.getElem_cons_zero, List.getElem_cons_succ, List.setIfInBounds_toArray, List.set_cons_zero, List.set_cons_succ]
                refine wpAnyT_one (i := 9) (by kernel_rfl) rfl (fun K hK => ?_)
                rw [if_pos (by rfl)]
                go_simp
                refine (r18insert_any (Ints.keep HIR.out HSS.out) ((q : Nat) : Int) (by have := HRL.out; omega)).mono ?_
                rintro e w6 ⟨v6, rfl, hO6, hF6⟩
                have HSS := Lib.hid (HSS.out.trans hF6)
                have HO6 : Hid (OwnV w6 wd.heap.size 3 (Value.int .i64) v6 (insI r ((q : Nat) : Int))) := Lib.hid (hO6.mono (by have := HSS.out.size; first | exact this | (have h2 := hF6.size; exact Nat.le_refl _) | omega))
                obtain ⟨a6, n6, c6, rfl⟩ := hO6.isSlice
                clear hO6 hF6
                go_simp
                refine hK.out _ _ (fun _ => HSS.out) ?_
                clear hK K
                simp only [Act.put, List.getElem_toArray, List.getElem_cons_zero, List.getElem_cons_succ, List.setIfInBounds_toArray, List.set_cons_zero, List.set_cons_succ]
                refine wpAnyT_load (i := 10) (v := ?_) rfl (by kernel_rfl) (by kernel_rfl) (by kernel_rfl) (by kernel_rfl) (by kernel_rfl) (fun _ _ _ h => h) HSS.out (by rfl) ?_ ?_
                rotate_left
                · intro w hSw; have x0 := hSw.cellSome HC.out.1 (by simp); go_simp; try with_reducible rfl
                simp only [Act.put, List.getElem_toArray, List.getElem_cons_zero, List.getElem_cons_succ, List.setIfInBounds_toArray, List.set_cons_zero, List.set_cons_succ]
                have x0 : w6.cell? ⟨g, j, none⟩ = some (.slice ax r.length cx) := HSS.out.cellSome HC.out.1 (by simp)
                have f0 : w6.frozen? ⟨g, j, none⟩ = false := (HSS.out.frozen (p := ⟨g, j, none⟩) HGW.out (by simp)).trans HC.out.2
                obtain ⟨w7, e7⟩ : ∃ w7, w6.setCell ⟨g, j, none⟩ (.slice a6 n6 c6) = w7 := ⟨_, rfl⟩
                obtain ⟨hR7, hB7⟩ := RowsAt.put HV.out HNL.out HXV.out HSS.out HO6.out HBW.out e7
                have HR7 := Lib.hid hR7
                have HF7 : Hid (Fr [] w w7) := Lib.hid (hB7.fr HFW.out (Nat.le_refl _))
                have E7 := Lib.hid e7
                clear hR7 hB7 e7
                refine wpAnyT_one (i := 11) (by kernel_rfl) rfl (fun K hK => ?_)
                rw [if_pos (by rfl)]
                go_simp
                rw [E7.out]
                refine hK.out _ _ (fun h => (h (by simp)).elim) ?_
                clear hK K x0 f0
                simp only [Act.put, List.getElem_toArray, List.getElem_cons_zero, List.getElem_cons_succ, List.setIfInBounds_toArray, List.set_cons_zero, List.set_cons_succ]
                refine wpAnyT_done (by kernel_rfl) ?_ _
                rw [HGV.out] at HNX
                go_wp2_with fail
                exact ⟨⟨j + 1, by clear hpt hpm; omega, by go_num, by rw [HNX.out]; exact HR7.out, HF7.out⟩, by simp [intOf]; clear hpt hpm; omega⟩
              · rw [if_neg (by intro h; exact hz (by rw [List.isEmpty_iff] at h; rw [h]; rfl))] at HNX
                have hr0 : ¬ ((r.length : Nat) : Int) = 0 := by omega
                have hr1 : (((r.length : Nat) : Int) == 0) = false := beq_eq_false_iff_ne.2 hr0
                go_wp2_with fail
                exact ⟨⟨j + 1, by omega, by go_num, by rw [HNX.out]; exact HR5.out, HFW.out⟩, by simp [intOf]; omega⟩
            · obtain rfl : j = i := by omega
              go_wp2_with fail
              go_ret
              exact ⟨_, rfl, by rw [HRD.out]; exact HR5.out, HFW.out⟩
theorem r18Of_any {w : World} (kind : Int) (s : UInt64) (k n : Int) :
    Calls Try.prog 10 #[.int .i64 kind, .int .u64 (s.toNat : Nat), .int .i64 k, .int .i64 n] w fun e w' => ∃ v, e = .returned v ∧ RowsO w' w.heap.size v (ofS kind s k n) ∧ Fr [] w w' := by
  cases hok : okS k n with
  | false => rw [ofS_no hok]; exact r18Of_none kind s k n hok
  | true =>
    obtain ⟨K, N, hk, hn, hK1, hK2, hN1, hN2, hn1⟩ := okS_yes hok
    rw [ofS_yes hk hn hK1 hK2 hn1]
    subst hk
    by_cases h1 : kind = 1
    · subst h1; exact r18Of_one s K N n hK1 hK2 hN1 hN2 hn1 hn
    · by_cases h2 : kind = 2
      · subst h2; exact r18Of_two s K N n hK1 hK2 hN1 hN2 hn1 hn
      · rw [if_neg h1, if_neg h2]; exact r18Of_other h1 h2 s K N n hK1 hK2 hN1 hN2 hn1 hn
end Go.Proofs.Ytngfenjekgdfbaa
