/- The walk of confluxlaw18.ShapeParts, to the end (printed by gen_sh26.py). -/
import Derived.Maps.OwnSet
import Derived.Test.YtngfenjekgdfbaaMuSh25
import Derived.Test.YtngfenjekgdfbaaMu9
namespace Go.Proofs.Ytngfenjekgdfbaa
open Go.RowKit Go.Maps

set_option maxRecDepth 100000 in
set_option maxHeartbeats 8000000 in
theorem ShapeParts_any {w : World} (s : UInt64) (k n : Int) :
    Calls Try.prog 6 #[.int .u64 (s.toNat : Nat), .int .i64 k, .int .i64 n] w fun e w' => e = .returned (.bool true) ∧ Fr [] w w' := by
  obtain ⟨ck, hck0, hkl⟩ := and_mask k 63 (by omega)
  obtain ⟨cn, hcn0, hnl⟩ := and_mask n 63 (by omega)
  have hck : bits .and .i64 k 63 = (ck : Int) := hck0
  have hcn : bits .and .i64 n 63 = (cn : Int) := hcn0
  clear hck0 hcn0
  obtain ⟨K, hK⟩ : ∃ K, K = 1 + ck % 48 := ⟨_, rfl⟩
  have hKK : (1 : Int) + (ck : Int) % 48 = (K : Int) := by omega
  have hK1 : 1 ≤ K := by omega
  have hK2 : K ≤ 48 := by omega
  obtain ⟨q, hq0⟩ : ∃ q, q = cn % K := ⟨_, rfl⟩
  have hqk : (cn : Int) % (K : Int) = (q : Int) := by rw [hq0, Int.natCast_emod]
  have hql : q < K := by rw [hq0]; exact Nat.mod_lt _ (by omega)
  clear hq0 hK
  obtain ⟨N, hN⟩ : ∃ N, N = 1 + q := ⟨_, rfl⟩
  have hNN : (1 : Int) + (q : Int) = (N : Int) := by omega
  have hN1 : 1 ≤ N := by omega
  have hN2 : N ≤ K := by omega
  clear hN
  have hmn : min (N : Int) (K : Int) = (N : Int) := by omega
  have E0 : Hid (ofS 0 s (K : Int) (N : Int) = runS K N) := Lib.hid (by rw [ofS_yes rfl hmn hK1 hK2 (by omega)]; rfl)
  have E7 : Hid (ofS 7 s (K : Int) (N : Int) = runS K N) := Lib.hid (by rw [ofS_yes rfl hmn hK1 hK2 (by omega)]; rfl)
  have E1S : Hid (ofS 1 s (K : Int) (N : Int) = spreadS K N) := Lib.hid (by rw [ofS_yes rfl hmn hK1 hK2 (by omega)]; rfl)
  have E2 : Hid (ofS 2 s (K : Int) (N : Int) = randomS s K N) := Lib.hid (by rw [ofS_yes rfl hmn hK1 hK2 (by omega)]; rfl)
  have LEN1 : Hid ((runS K N).length = N) := Lib.hid (part_run (K := K) (N := N) (by omega)).len
  have LEN2 : Hid ((spreadS K N).length = N) := Lib.hid (part_spread (K := K) (N := N) (by omega)).len
  have LEN3 : Hid ((randomS s K N).length = N) := Lib.hid (random_full s (by omega) (by omega)).good.len
  have LEN4 := LEN3; have LEN5 := LEN1; have LEN6 := LEN1
  have BE0 : Hid ((runS K N == runS K N) = true) := Lib.hid (by simp)
  have BE2 : Hid ((randomS s K N == randomS s K N) = true) := Lib.hid (by simp)
  have PR := Lib.hid (part_run (K := K) (N := N) (by omega))
  have PS := Lib.hid (part_spread (K := K) (N := N) (by omega))
  clear hmn
  go_enter Try.func6, Try.ntmps6
  go_wp2_with fail
  refine (l18alive_any (w := w)).mono ?_
  rintro e w1 ⟨rfl, hF⟩
  have HF := Lib.hid hF
  clear hF
  obtain ⟨w2, e2, hF2, hB2, hs2⟩ := one_new w1 #[.int .u64 (s.toNat : Nat)] 25
  have EW := Lib.hid e2; have HB := Lib.hid hB2; have HF := Lib.hid (HF.out.trans hF2)
  clear e2 hF2 hB2 hs2
  go_upto_region 6 with fail
  rw [EW.out]
  clear EW
  obtain ⟨g, hg⟩ : ∃ g, w1.heap.size = g := ⟨_, rfl⟩
  rw [hg] at HB ⊢
  clear hg hck hcn hKK hqk hNN
  generalize runS K N = sr at *
  generalize spreadS K N = ss at *
  generalize randomS s K N = sn at *
  go_upto_region 6 with fail
  refine wp_region_T (fun w' => Fr [] w2.drew w') [] 11 #[false, false, false, false, false, false, false, false, false, false, false] (by kernel_rfl) rfl rfl ?_
  try simp only [List.append_eq, List.cons_append, List.nil_append]
  have hF := (Fr.refl [] w2).drew
  have HB := Lib.hid (HB.out.keep hF)
  have HF := Lib.hid (HF.out.trans hF)
  clear hF
  have HSS : Hid (Fr [] w2.drew w2.drew) := Lib.hid (Fr.refl _ _)
  generalize w2.drew = wd at *
  refine wpAnyT_load (i := 0) (v := ?_) rfl (by kernel_rfl) (by kernel_rfl) (by kernel_rfl) (by kernel_rfl) (by kernel_rfl) (fun _ _ _ h => h) HSS.out (by rfl) ?_ ?_
  rotate_left
  · intro w' hSw; refine run_load_row 25 (.tmp 7) ?_ g ?_ 25 _ _ (HB.out.keep hSw) Try.underlying25 rfl (by kernel_rfl) <;> rfl
  simp only [Act.put, List.getElem_toArray, List.getElem_cons_zero, List.getElem_cons_succ, List.setIfInBounds_toArray, List.set_cons_zero, List.set_cons_succ]
  refine wpAnyT_load (i := 1) (v := ?_) rfl (by kernel_rfl) (by kernel_rfl) (by kernel_rfl) (by kernel_rfl) (by kernel_rfl) (fun _ _ _ h => h) HSS.out (by rfl) ?_ ?_
  rotate_left
  · intro w hSw; skip; go_simp; try with_reducible rfl
  simp only [Act.put, List.getElem_toArray, List.getElem_cons_zero, List.getElem_cons_succ, List.setIfInBounds_toArray, List.set_cons_zero, List.set_cons_succ]
  refine wpAnyT_load (i := 2) (v := ?_) rfl (by kernel_rfl) (by kernel_rfl) (by kernel_rfl) (by kernel_rfl) (by kernel_rfl) (fun _ _ _ h => h) HSS.out (by rfl) ?_ ?_
  rotate_left
  · intro w hSw; skip; go_simp; try with_reducible rfl
  simp only [Act.put, List.getElem_toArray, List.getElem_cons_zero, List.getElem_cons_succ, List.setIfInBounds_toArray, List.set_cons_zero, List.set_cons_succ]
  refine wpAnyT_load (i := 4) (v := ?_) rfl (by kernel_rfl) (by kernel_rfl) (by kernel_rfl) (by kernel_rfl) (by kernel_rfl) (fun _ _ _ h => h) HSS.out (by rfl) ?_ ?_
  rotate_left
  · intro w' hSw; refine run_load_row 25 (.tmp 7) ?_ g ?_ 25 _ _ (HB.out.keep hSw) Try.underlying25 rfl (by kernel_rfl) <;> rfl
  simp only [Act.put, List.getElem_toArray, List.getElem_cons_zero, List.getElem_cons_succ, List.setIfInBounds_toArray, List.set_cons_zero, List.set_cons_succ]
  refine wpAnyT_load (i := 5) (v := ?_) rfl (by kernel_rfl) (by kernel_rfl) (by kernel_rfl) (by kernel_rfl) (by kernel_rfl) (fun _ _ _ h => h) HSS.out (by rfl) ?_ ?_
  rotate_left
  · intro w hSw; skip; go_simp; try with_reducible rfl
  simp only [Act.put, List.getElem_toArray, List.getElem_cons_zero, List.getElem_cons_succ, List.setIfInBounds_toArray, List.set_cons_zero, List.set_cons_succ]
  refine wpAnyT_load (i := 6) (v := ?_) rfl (by kernel_rfl) (by kernel_rfl) (by kernel_rfl) (by kernel_rfl) (by kernel_rfl) (fun _ _ _ h => h) HSS.out (by rfl) ?_ ?_
  rotate_left
  · intro w hSw; skip; go_simp; try with_reducible rfl
  simp only [Act.put, List.getElem_toArray, List.getElem_cons_zero, List.getElem_cons_succ, List.setIfInBounds_toArray, List.set_cons_zero, List.set_cons_succ]
  refine wpAnyT_load (i := 10) (v := ?_) rfl (by kernel_rfl) (by kernel_rfl) (by kernel_rfl) (by kernel_rfl) (by kernel_rfl) (fun _ _ _ h => h) HSS.out (by rfl) ?_ ?_
  rotate_left
  · intro w hSw; skip; go_simp; try with_reducible rfl
  simp only [Act.put, List.getElem_toArray, List.getElem_cons_zero, List.getElem_cons_succ, List.setIfInBounds_toArray, List.set_cons_zero, List.set_cons_succ]
  refine wpAnyT_one (i := 3) (by kernel_rfl) rfl (fun KZ hK => ?_)
  rw [if_pos (by rfl)]
  go_simp
  refine (shRun_any (w := wd) s (K : Int) (N : Int)).mono ?_
  rintro e w3 ⟨v1, rfl, hR, hF⟩
  rw [E0.out] at hR
  obtain ⟨a1, c1, rfl⟩ := hR.shape
  simp only [LEN1.out] at hR ⊢
  have HI1 := Lib.hid hR.irows
  have HSS := Lib.hid (HSS.out.trans hF)
  clear hR hF
  go_simp
  refine hK.out _ _ (fun _ => HSS.out) ?_
  clear hK KZ
  simp only [Act.put, List.getElem_toArray, List.getElem_cons_zero, List.getElem_cons_succ, List.setIfInBounds_toArray, List.set_cons_zero, List.set_cons_succ]
  refine wpAnyT_one (i := 7) (by kernel_rfl) rfl (fun KZ hK => ?_)
  rw [if_pos (by rfl)]
  go_simp
  refine (shSpread_any (w := w3) s (K : Int) (N : Int)).mono ?_
  rintro e w4 ⟨v2, rfl, hR, hF⟩
  rw [E1S.out] at hR
  obtain ⟨a2, c2, rfl⟩ := hR.shape
  simp only [LEN2.out] at hR ⊢
  have HI2 := Lib.hid hR.irows
  have HSS := Lib.hid (HSS.out.trans hF)
  have HI1 := Lib.hid (HI1.out.keep hF)
  clear hR hF
  go_simp
  refine hK.out _ _ (fun _ => HSS.out) ?_
  clear hK KZ
  simp only [Act.put, List.getElem_toArray, List.getElem_cons_zero, List.getElem_cons_succ, List.setIfInBounds_toArray, List.set_cons_zero, List.set_cons_succ]
  obtain ⟨w5, e5, hF5, hB5, hs5⟩ := one_new w4 #[.slice a1 N c1, .slice a2 N c2] 27
  refine wpAnyT_one (i := 8) (by kernel_rfl) rfl (fun KZ hK => ?_)
  rw [if_pos (by rfl)]
  go_simp
  refine hK.out _ _ (fun _ => HSS.out.trans hF5) ?_
  clear hK KZ
  simp only [Act.put, List.getElem_toArray, List.getElem_cons_zero, List.getElem_cons_succ, List.setIfInBounds_toArray, List.set_cons_zero, List.set_cons_succ]
  have HI1 := Lib.hid (HI1.out.keep hF5); have HI2 := Lib.hid (HI2.out.keep hF5); have HSS := Lib.hid (HSS.out.trans hF5); have HBL := Lib.hid hB5
  clear e5 hF5 hB5 hs5
  refine wpAnyT_load (i := 9) (v := ?_) rfl (by kernel_rfl) (by kernel_rfl) (by kernel_rfl) (by kernel_rfl) (by kernel_rfl) (fun _ _ _ h => h) HSS.out (by rfl) ?_ ?_
  rotate_left
  · intro w hSw; skip; go_simp; try with_reducible rfl
  simp only [Act.put, List.getElem_toArray, List.getElem_cons_zero, List.getElem_cons_succ, List.setIfInBounds_toArray, List.set_cons_zero, List.set_cons_succ]
  refine wpAnyT_done (by kernel_rfl) ?_ _
  have HF := Lib.hid (HF.out.trans HSS.out); have HB := Lib.hid (HB.out.keep HSS.out)
  clear HSS
  obtain ⟨L, hL⟩ : ∃ L, w4.heap.size = L := ⟨_, rfl⟩
  rw [hL] at HBL ⊢
  clear hL
  generalize w5 = wB at *
  go_upto_region 7 with fail
  go_loopw [42] (fun tv wr => ∃ t : Nat, t ≤ 2 ∧ tv = .int .i64 t ∧ Fr [] wB wr) (fun tv _ => 2 - (intOf tv).toNat)
  case atStart => exact ⟨0, by omega, rfl, Fr.refl _ _⟩
  case round =>
    obtain ⟨t, ht, rfl, hFr⟩ := hrel
    have HFR := Lib.hid hFr
    clear hFr
    by_cases ht2 : t < 2
    · have HSH : Hid (∃ sa sc sh, wr.cell? ⟨L, t, none⟩ = some (.slice sa N sc) ∧ IRows wr (.slice sa N sc) sh ∧ PartS K N t sh) := Lib.hid (by
        rcases (by omega : t = 0 ∨ t = 1) with rfl | rfl
        · exact ⟨a1, c1, sr, (HBL.out.keep HFR.out).cell 0, HI1.out.keep HFR.out, PR.out⟩
        · exact ⟨a2, c2, ss, (HBL.out.keep HFR.out).cell 1, HI2.out.keep HFR.out, PS.out⟩)
      obtain ⟨sa, sc, sh, hcell, hI, hP⟩ := HSH.out
      have HI := Lib.hid hI; have HP := Lib.hid hP
      have d := hcell
      clear hcell hI hP HSH
      have HFL : Hid (sh.flatten.length = K) := Lib.hid (by rw [HP.out.perm.length_eq, upto_len])
      obtain ⟨wM, hwM⟩ : ∃ wM, wr.alloc (.map #[] 0) = wM := ⟨_, rfl⟩
      have hFM : Fr [] wr wM := by rw [← hwM]; exact (Fr.refl _ _).alloc _
      have hMM : OneI wM wr.heap.size 0 [] := by rw [← hwM]; exact World.ownsMap_made _ _ _ _
      have EM := Lib.hid hwM; have HFM := Lib.hid hFM; have HMM := Lib.hid hMM
      have hmm := @run_makeMap Try.prog
      clear hwM hFM hMM
      go_upto_region 10 with fail
      rw [EM.out]
      clear EM hmm d
      generalize wr = wo at *
      obtain ⟨mb, hmb⟩ : ∃ mb, wo.heap.size = mb := ⟨_, rfl⟩
      have HMB := Lib.hid hmb
      rw [hmb] at HMM ⊢
      clear hmb
      obtain ⟨dv, hdv⟩ : ∃ dv, K / N = dv := ⟨_, rfl⟩
      have HDV := Lib.hid hdv
      have hdl : dv ≤ K := by rw [← hdv]; exact Nat.div_le_self _ _
      clear hdv
      go_upto_region 12 with fail
      go_loopw [11, 12, 13, 51] (fun lov hiv lv jv wr => ∃ (j : Nat) (lo hi l : Int), j ≤ N ∧ jv = .int .i64 j ∧ lov = .int .i64 lo ∧ hiv = .int .i64 hi ∧ lv = .int .i64 l ∧ (dv : Int) ≤ lo ∧ lo ≤ 100 ∧ 0 ≤ hi ∧ hi ≤ (dv : Int) + 1 ∧ -1 ≤ l ∧ l ≤ 100 ∧ (t = 0 → l = ((sh.take j).flatten.length : Int) - 1) ∧ OneI wr mb (sh.take j).flatten.length (sh.take j).flatten ∧ Fr [] wo wr) (fun _ _ _ jv _ => N - (intOf jv).toNat)
      case atStart => exact ⟨0, (K : Int), 0, -1, Nat.zero_le _, rfl, rfl, rfl, rfl, by omega, by omega, by omega, by omega, by omega, by omega, by simp, by simpa using HMM.out, HFM.out⟩
      case round =>
        clear HMM HFM
        obtain ⟨j, lo, hi, l, hj, rfl, rfl, rfl, rfl, hlo1, hlo2, hhi1, hhi2, hl1, hl2, hlt0, hO, hF⟩ := hrel
        have HL0 := Lib.hid hlt0; have HO := Lib.hid hO; have HFW := Lib.hid hF
        clear hlt0 hO hF
        by_cases hjN : j < N
        · have k1 : j < sh.length := by rw [HP.out.len]; exact hjN
          obtain ⟨b, o, al, cl, ea, hb, hcell, hR⟩ := IRows.at_ HI.out j k1
          subst ea
          have d := HFW.out.cellSome hcell (by simp)
          have HRI := Lib.hid hR
          have HRJ : Hid (sh[j]? = some sh[j]) := Lib.hid (List.getElem?_eq_getElem k1)
          have HRS := Lib.hid (HP.out.size _ (List.getElem_mem k1))
          have HTK : Hid ((sh.take (j + 1)).flatten = (sh.take j).flatten ++ sh[j]) := Lib.hid (by rw [List.take_succ_eq_append_getElem k1, List.flatten_append]; simp only [List.flatten_cons, List.flatten_nil, List.append_nil])
          have HPL : Hid ((sh.take j).flatten.length + sh[j].length ≤ K) := Lib.hid (by
            have h1 := congrArg List.length HTK.out
            rw [List.length_append] at h1
            have h2 : (sh.take (j + 1)).flatten.length ≤ sh.flatten.length := by
              have h3 := congrArg (fun x => (List.flatten x).length) (List.take_append_drop (j + 1) sh)
              simp only [List.flatten_append, List.length_append] at h3
              omega
            rw [HFL.out] at h2
            omega)
          clear hcell hR
          generalize sh[j] = r at *
          obtain ⟨m, hm⟩ : ∃ m, r.length = m := ⟨_, rfl⟩
          have HRM := Lib.hid hm
          rw [hm] at HRS HPL d HRI
          rw [HDV.out] at HRS
          have hm1 := HRS.out.1; have hm2 := HRS.out.2
          have hmK : m ≤ 48 := by have := HPL.out; omega
          clear hm
          generalize hpre : (sh.take j).flatten = pre at *
          have HPRE := Lib.hid hpre
          clear hpre
          go_upto_region 16 with fail
          generalize wr = wq at *
          go_loopw [13, 65] (fun lv iv wr => ∃ (i : Nat) (l : Int), i ≤ m ∧ iv = .int .i64 i ∧ lv = .int .i64 l ∧ -1 ≤ l ∧ l ≤ 100 ∧ (t = 0 → l = ((pre.length + i : Nat) : Int) - 1) ∧ OneI wr mb (pre.length + i) (pre ++ r.take i) ∧ Fr [] wo wr) (fun _ iv _ => m - (intOf iv).toNat)
          case atStart => exact ⟨0, l, Nat.zero_le _, rfl, rfl, hl1, hl2, by simpa using HL0.out, by simpa using HO.out, HFW.out⟩
          case round =>
            clear HO HFW HL0
            obtain ⟨i, l, hi', rfl, rfl, hl1, hl2, hlt0, hO, hF⟩ := hrel
            have HL0 := Lib.hid hlt0; have HO := Lib.hid hO; have HFW := Lib.hid hF
            clear hlt0 hO hF
            by_cases him : i < m
            · have k2 : i < r.length := by rw [HRM.out]; exact him
              obtain ⟨b2, o2, ea, hb2, -⟩ := Sl.at_ HRI.out (k := i) (by simpa using him)
              subst ea
              have d2 := HFW.out.cellSome (Ints.at_ HRI.out i k2) (by simp)
              have HPX := Lib.hid (HP.out.pre HRJ.out (List.getElem?_eq_getElem k2))
              rw [HPRE.out] at HPX
              have HRT : Hid (r.take (i + 1) = r.take i ++ [r[i]]) := Lib.hid (List.take_succ_eq_append_getElem k2)
              have HPT : Hid ((pre ++ r.take i).length = pre.length + i) := Lib.hid (by rw [List.length_append, List.length_take]; omega)
              generalize r[i] = p at *
              have hp0 := HPX.out.2.1.1; have hpK := HPX.out.2.1.2
              have HWF : Hid ((Lit.int .i64 p).wf = true) := Lib.hid (In64.wf ⟨by omega, by omega⟩)
              have hrun := one_run HO.out HWF.out
              rw [if_neg HPX.out.1] at hrun
              have HPM : Hid (pre.length + i < maxLen) := Lib.hid (by have := HPL.out; unfold maxLen; omega)
              obtain ⟨w9, hup, hm9, hg9⟩ := World.ownsMap.update HO.out keyInt Try.underlying38 HPM.out (key := .int .i64 p) (val := .int .i64 1) (keyOf_int_mk Try.underlying3 HWF.out) (plainElem_int Try.underlying3 (by decide))
              have HM9 : Hid (OneI w9 mb (pre.length + (i + 1)) (pre ++ r.take (i + 1))) := Lib.hid (by unfold OneI; rw [HRT.out, ← List.append_assoc, ← oneD_snoc]; exact hm9)
              have HG9 := Lib.hid (Fr.ofGrownB hg9)
              have HF9 : Hid (Fr [] wo w9) := Lib.hid (HFW.out.step HG9.out (fun x hx => .inr (by simp at hx; have := HMB.out; omega)))
              have HPR : Hid (t = 0 → p = ((pre.length + i : Nat) : Int)) := Lib.hid (fun h => by rw [HPX.out.2.2 h, HPT.out])
              clear hm9 hg9 HPX HRT
              by_cases ht0 : t = 0
              · have hpl : p = l + 1 := by rw [HPR.out ht0, HL0.out ht0]; omega
                have ht1 : ((t : Int) == 0) = true := by rw [ht0]; rfl
                have hpb : (p == l + 1) = true := beq_iff_eq.2 hpl
                clear ht0 hpl
                go_wp2_with fail
                exact ⟨⟨i + 1, p, by omega, by go_num, rfl, by omega, by omega, (fun h => by rw [HPR.out h]; push_cast; omega), HM9.out, HF9.out⟩, by simp [intOf]; omega⟩
              · have ht1 : ((t : Int) == 0) = false := beq_eq_false_iff_ne.2 (by omega)
                go_wp2_with fail
                exact ⟨⟨i + 1, p, by omega, by go_num, rfl, by omega, by omega, (fun h => absurd h ht0), HM9.out, HF9.out⟩, by simp [intOf]; omega⟩
            · obtain rfl : i = m := by omega
              have HRT : Hid (r.take i = r) := Lib.hid (List.take_of_length_le (by rw [HRM.out]; exact Nat.le_refl _))
              have HTL : Hid ((sh.take (j + 1)).flatten.length = pre.length + i) := Lib.hid (by rw [HTK.out, List.length_append, HRM.out])
              have HO9 : Hid (OneI wr mb (sh.take (j + 1)).flatten.length (sh.take (j + 1)).flatten) := Lib.hid (by rw [HTL.out, HTK.out]; have := HO.out; rwa [HRT.out] at this)
              clear HO HRT
              go_wp2_with fail
              exact ⟨⟨j + 1, _, _, l, by omega, by go_num, rfl, rfl, rfl, by omega, by omega, by omega, by omega, by omega, by omega, (fun h => by rw [HTL.out]; exact HL0.out h), HO9.out, HFW.out⟩, by simp [intOf]; omega⟩
        · obtain rfl : j = N := by omega
          have HTA : Hid (sh.take j = sh) := Lib.hid (List.take_of_length_le (by rw [HP.out.len]; exact Nat.le_refl _))
          rw [HTA.out, HFL.out] at HO
          have HND := Lib.hid HP.out.nodup
          have HME : Hid (∀ p : Nat, p < K → ((p : Nat) : Int) ∈ sh.flatten) := Lib.hid (fun p hp => HP.out.perm.mem_iff.2 (mem_upto.2 ⟨by omega, by omega⟩))
          clear HTA HL0
          generalize sh.flatten = xs at *
          have HOZ : Hid (Maps.size (oneD xs) = K) := Lib.hid (by rw [one_size HND.out, HFL.out])
          go_upto_region 25 with fail
          go_loopw [85] (fun pv wz => ∃ p : Nat, p ≤ K ∧ pv = .int .i64 p ∧ wr = wz) (fun pv _ => K - (intOf pv).toNat)
          case atStart => exact ⟨0, Nat.zero_le _, rfl, rfl⟩
          case round =>
            obtain ⟨p, hp, rfl, rfl⟩ := hrel
            by_cases hpK : p < K
            · have hrun := one_run HO.out (y := ((p : Nat) : Int)) (In64.wf ⟨by omega, by omega⟩)
              rw [if_pos (HME.out p hpK)] at hrun
              go_wp2_with fail
              exact ⟨⟨p + 1, by omega, by go_num, trivial⟩, by simp [intOf]; omega⟩
            · obtain rfl : p = K := by omega
              have hlen : ∀ ty, (Builtin.len_ #[38] ty #[.map (some mb)]).run Try.prog wr = .ok (.int .i64 (p : Nat)) wr := fun ty => by rw [World.ownsMap.len HO.out Try.underlying38 ty, HOZ.out]
              have hhl : ¬ lo + 1 < hi := by omega
              go_wp2_with fail
              exact ⟨⟨t + 1, by omega, by go_num, HFR.out.trans HFW.out⟩, by simp [intOf]; omega⟩
    · have HF := Lib.hid (HF.out.trans HFR.out); have HB := Lib.hid (HB.out.keep HFR.out)
      clear HFR
      go_upto_region 33 with fail
      refine wp_region_T (fun w' => Fr [] wr.drew w') [] 21 #[false, false, false, false, false, false, false, false, false, false, false, false, false, false, false, false, false, false, false, false, false] (by kernel_rfl) rfl rfl ?_
      try simp only [List.append_eq, List.cons_append, List.nil_append]
      have hF := (Fr.refl [] wr).drew
      have HB := Lib.hid (HB.out.keep hF)
      have HF := Lib.hid (HF.out.trans hF)
      clear hF
      have HSS : Hid (Fr [] wr.drew wr.drew) := Lib.hid (Fr.refl _ _)
      generalize wr.drew = wd2 at *
      refine wpAnyT_load (i := 0) (v := ?_) rfl (by kernel_rfl) (by kernel_rfl) (by kernel_rfl) (by kernel_rfl) (by kernel_rfl) (fun _ _ _ h => h) HSS.out (by rfl) ?_ ?_
      rotate_left
      · intro w' hSw; refine run_load_row 25 (.tmp 7) ?_ g ?_ 25 _ _ (HB.out.keep hSw) Try.underlying25 rfl (by kernel_rfl) <;> rfl
      simp only [Act.put, List.getElem_toArray, List.getElem_cons_zero, List.getElem_cons_succ, List.setIfInBounds_toArray, List.set_cons_zero, List.set_cons_succ]
      refine wpAnyT_load (i := 1) (v := ?_) rfl (by kernel_rfl) (by kernel_rfl) (by kernel_rfl) (by kernel_rfl) (by kernel_rfl) (fun _ _ _ h => h) HSS.out (by rfl) ?_ ?_
      rotate_left
      · intro w hSw; skip; go_simp; try with_reducible rfl
      simp only [Act.put, List.getElem_toArray, List.getElem_cons_zero, List.getElem_cons_succ, List.setIfInBounds_toArray, List.set_cons_zero, List.set_cons_succ]
      refine wpAnyT_load (i := 2) (v := ?_) rfl (by kernel_rfl) (by kernel_rfl) (by kernel_rfl) (by kernel_rfl) (by kernel_rfl) (fun _ _ _ h => h) HSS.out (by rfl) ?_ ?_
      rotate_left
      · intro w hSw; skip; go_simp; try with_reducible rfl
      simp only [Act.put, List.getElem_toArray, List.getElem_cons_zero, List.getElem_cons_succ, List.setIfInBounds_toArray, List.set_cons_zero, List.set_cons_succ]
      refine wpAnyT_load (i := 4) (v := ?_) rfl (by kernel_rfl) (by kernel_rfl) (by kernel_rfl) (by kernel_rfl) (by kernel_rfl) (fun _ _ _ h => h) HSS.out (by rfl) ?_ ?_
      rotate_left
      · intro w hSw; skip; go_simp; try with_reducible rfl
      simp only [Act.put, List.getElem_toArray, List.getElem_cons_zero, List.getElem_cons_succ, List.setIfInBounds_toArray, List.set_cons_zero, List.set_cons_succ]
      refine wpAnyT_load (i := 5) (v := ?_) rfl (by kernel_rfl) (by kernel_rfl) (by kernel_rfl) (by kernel_rfl) (by kernel_rfl) (fun _ _ _ h => h) HSS.out (by rfl) ?_ ?_
      rotate_left
      · intro w hSw; skip; go_simp; try with_reducible rfl
      simp only [Act.put, List.getElem_toArray, List.getElem_cons_zero, List.getElem_cons_succ, List.setIfInBounds_toArray, List.set_cons_zero, List.set_cons_succ]
      refine wpAnyT_load (i := 6) (v := ?_) rfl (by kernel_rfl) (by kernel_rfl) (by kernel_rfl) (by kernel_rfl) (by kernel_rfl) (fun _ _ _ h => h) HSS.out (by rfl) ?_ ?_
      rotate_left
      · intro w hSw; skip; go_simp; try with_reducible rfl
      simp only [Act.put, List.getElem_toArray, List.getElem_cons_zero, List.getElem_cons_succ, List.setIfInBounds_toArray, List.set_cons_zero, List.set_cons_succ]
      refine wpAnyT_one (i := 3) (by kernel_rfl) rfl (fun KZ hK => ?_)
      rw [if_pos (by rfl)]
      go_simp
      refine (shRandom_any (w := wd2) s (K : Int) (N : Int)).mono ?_
      rintro e w13 ⟨v3, rfl, hR, hF⟩
      rw [E2.out] at hR
      obtain ⟨a3, c3, rfl⟩ := hR.shape
      simp only [LEN3.out] at hR ⊢
      have HI3 := Lib.hid hR.irows
      have HSS := Lib.hid (HSS.out.trans hF)
      clear hR hF
      go_simp
      refine hK.out _ _ (fun _ => HSS.out) ?_
      clear hK KZ
      simp only [Act.put, List.getElem_toArray, List.getElem_cons_zero, List.getElem_cons_succ, List.setIfInBounds_toArray, List.set_cons_zero, List.set_cons_succ]
      refine wpAnyT_one (i := 7) (by kernel_rfl) rfl (fun KZ hK => ?_)
      rw [if_pos (by rfl)]
      go_simp
      refine (shOf_any (w := w13) 2 s (K : Int) (N : Int)).mono ?_
      rintro e w14 ⟨v4, rfl, hR, hF⟩
      rw [E2.out] at hR
      obtain ⟨a4, c4, rfl⟩ := hR.shape
      simp only [LEN4.out] at hR ⊢
      have HI4 := Lib.hid hR.irows
      have HSS := Lib.hid (HSS.out.trans hF)
      have HI3 := Lib.hid (HI3.out.keep hF)
      clear hR hF
      go_simp
      refine hK.out _ _ (fun _ => HSS.out) ?_
      clear hK KZ
      simp only [Act.put, List.getElem_toArray, List.getElem_cons_zero, List.getElem_cons_succ, List.setIfInBounds_toArray, List.set_cons_zero, List.set_cons_succ]
      refine wpAnyT_one (i := 8) (by kernel_rfl) rfl (fun KZ hK => ?_)
      rw [if_pos (by rfl)]
      go_simp
      refine (l18same_any HI3.out HI4.out).mono ?_
      rintro e w15 ⟨rfl, hF⟩
      rw [BE2.out]
      have HSS := Lib.hid (HSS.out.trans hF)
      clear hF
      go_simp
      refine hK.out _ _ (fun _ => HSS.out) ?_
      clear hK KZ
      simp only [Act.put, List.getElem_toArray, List.getElem_cons_zero, List.getElem_cons_succ, List.setIfInBounds_toArray, List.set_cons_zero, List.set_cons_succ]
      refine wpAnyT_load (i := 9) (v := ?_) rfl (by kernel_rfl) (by kernel_rfl) (by kernel_rfl) (by kernel_rfl) (by kernel_rfl) (fun _ _ _ h => h) HSS.out (by rfl) ?_ ?_
      rotate_left
      · intro w hSw; skip; go_simp; try with_reducible rfl
      simp only [Act.put, List.getElem_toArray, List.getElem_cons_zero, List.getElem_cons_succ, List.setIfInBounds_toArray, List.set_cons_zero, List.set_cons_succ]
      refine wpAnyT_load (i := 10) (v := ?_) rfl (by kernel_rfl) (by kernel_rfl) (by kernel_rfl) (by kernel_rfl) (by kernel_rfl) (fun _ _ _ h => h) HSS.out (by rfl) ?_ ?_
      rotate_left
      · intro w hSw; skip; go_simp; try with_reducible rfl
      simp only [Act.put, List.getElem_toArray, List.getElem_cons_zero, List.getElem_cons_succ, List.setIfInBounds_toArray, List.set_cons_zero, List.set_cons_succ]
      refine wpAnyT_load (i := 11) (v := ?_) rfl (by kernel_rfl) (by kernel_rfl) (by kernel_rfl) (by kernel_rfl) (by kernel_rfl) (fun _ _ _ h => h) HSS.out (by rfl) ?_ ?_
      rotate_left
      · intro w hSw; skip; go_simp; try with_reducible rfl
      simp only [Act.put, List.getElem_toArray, List.getElem_cons_zero, List.getElem_cons_succ, List.setIfInBounds_toArray, List.set_cons_zero, List.set_cons_succ]
      refine wpAnyT_load (i := 12) (v := ?_) rfl (by kernel_rfl) (by kernel_rfl) (by kernel_rfl) (by kernel_rfl) (by kernel_rfl) (fun _ _ _ h => h) HSS.out (by rfl) ?_ ?_
      rotate_left
      · intro w hSw; skip; go_simp; try with_reducible rfl
      simp only [Act.put, List.getElem_toArray, List.getElem_cons_zero, List.getElem_cons_succ, List.setIfInBounds_toArray, List.set_cons_zero, List.set_cons_succ]
      refine wpAnyT_load (i := 14) (v := ?_) rfl (by kernel_rfl) (by kernel_rfl) (by kernel_rfl) (by kernel_rfl) (by kernel_rfl) (fun _ _ _ h => h) HSS.out (by rfl) ?_ ?_
      rotate_left
      · intro w' hSw; refine run_load_row 25 (.tmp 7) ?_ g ?_ 25 _ _ (HB.out.keep hSw) Try.underlying25 rfl (by kernel_rfl) <;> rfl
      simp only [Act.put, List.getElem_toArray, List.getElem_cons_zero, List.getElem_cons_succ, List.setIfInBounds_toArray, List.set_cons_zero, List.set_cons_succ]
      refine wpAnyT_load (i := 15) (v := ?_) rfl (by kernel_rfl) (by kernel_rfl) (by kernel_rfl) (by kernel_rfl) (by kernel_rfl) (fun _ _ _ h => h) HSS.out (by rfl) ?_ ?_
      rotate_left
      · intro w hSw; skip; go_simp; try with_reducible rfl
      simp only [Act.put, List.getElem_toArray, List.getElem_cons_zero, List.getElem_cons_succ, List.setIfInBounds_toArray, List.set_cons_zero, List.set_cons_succ]
      refine wpAnyT_load (i := 16) (v := ?_) rfl (by kernel_rfl) (by kernel_rfl) (by kernel_rfl) (by kernel_rfl) (by kernel_rfl) (fun _ _ _ h => h) HSS.out (by rfl) ?_ ?_
      rotate_left
      · intro w hSw; skip; go_simp; try with_reducible rfl
      simp only [Act.put, List.getElem_toArray, List.getElem_cons_zero, List.getElem_cons_succ, List.setIfInBounds_toArray, List.set_cons_zero, List.set_cons_succ]
      refine wpAnyT_one (i := 13) (by kernel_rfl) rfl (fun KZ hK => ?_)
      rw [if_pos (by rfl)]
      go_simp
      refine (shOf_any (w := w15) 7 s (K : Int) (N : Int)).mono ?_
      rintro e w16 ⟨v5, rfl, hR, hF⟩
      rw [E7.out] at hR
      obtain ⟨a5, c5, rfl⟩ := hR.shape
      simp only [LEN5.out] at hR ⊢
      have HI5 := Lib.hid hR.irows
      have HSS := Lib.hid (HSS.out.trans hF)
      clear hR hF
      go_simp
      refine hK.out _ _ (fun _ => HSS.out) ?_
      clear hK KZ
      simp only [Act.put, List.getElem_toArray, List.getElem_cons_zero, List.getElem_cons_succ, List.setIfInBounds_toArray, List.set_cons_zero, List.set_cons_succ]
      refine wpAnyT_one (i := 17) (by kernel_rfl) rfl (fun KZ hK => ?_)
      rw [if_pos (by rfl)]
      go_simp
      refine (shRun_any (w := w16) s (K : Int) (N : Int)).mono ?_
      rintro e w17 ⟨v6, rfl, hR, hF⟩
      rw [E0.out] at hR
      obtain ⟨a6, c6, rfl⟩ := hR.shape
      simp only [LEN6.out] at hR ⊢
      have HI6 := Lib.hid hR.irows
      have HSS := Lib.hid (HSS.out.trans hF)
      have HI5 := Lib.hid (HI5.out.keep hF)
      clear hR hF
      go_simp
      refine hK.out _ _ (fun _ => HSS.out) ?_
      clear hK KZ
      simp only [Act.put, List.getElem_toArray, List.getElem_cons_zero, List.getElem_cons_succ, List.setIfInBounds_toArray, List.set_cons_zero, List.set_cons_succ]
      refine wpAnyT_one (i := 18) (by kernel_rfl) rfl (fun KZ hK => ?_)
      rw [if_pos (by rfl)]
      go_simp
      refine (l18same_any HI5.out HI6.out).mono ?_
      rintro e w18 ⟨rfl, hF⟩
      rw [BE0.out]
      have HSS := Lib.hid (HSS.out.trans hF)
      clear hF
      go_simp
      refine hK.out _ _ (fun _ => HSS.out) ?_
      clear hK KZ
      simp only [Act.put, List.getElem_toArray, List.getElem_cons_zero, List.getElem_cons_succ, List.setIfInBounds_toArray, List.set_cons_zero, List.set_cons_succ]
      refine wpAnyT_load (i := 19) (v := ?_) rfl (by kernel_rfl) (by kernel_rfl) (by kernel_rfl) (by kernel_rfl) (by kernel_rfl) (fun _ _ _ h => h) HSS.out (by rfl) ?_ ?_
      rotate_left
      · intro w hSw; skip; go_simp; try with_reducible rfl
      simp only [Act.put, List.getElem_toArray, List.getElem_cons_zero, List.getElem_cons_succ, List.setIfInBounds_toArray, List.set_cons_zero, List.set_cons_succ]
      refine wpAnyT_load (i := 20) (v := ?_) rfl (by kernel_rfl) (by kernel_rfl) (by kernel_rfl) (by kernel_rfl) (by kernel_rfl) (fun _ _ _ h => h) HSS.out (by rfl) ?_ ?_
      rotate_left
      · intro w hSw; skip; go_simp; try with_reducible rfl
      simp only [Act.put, List.getElem_toArray, List.getElem_cons_zero, List.getElem_cons_succ, List.setIfInBounds_toArray, List.set_cons_zero, List.set_cons_succ]
      refine wpAnyT_done (by kernel_rfl) ?_ _
      go_wp2_with fail
      go_ret
      exact ⟨rfl, HF.out.trans HSS.out⟩
end Go.Proofs.Ytngfenjekgdfbaa
