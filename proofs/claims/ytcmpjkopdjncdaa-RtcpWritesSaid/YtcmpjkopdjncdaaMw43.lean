import Derived.Test.YtcmpjkopdjncdaaMw42
/- The walk of confluxref07.one at kind 200 (printed by gen_7one2.py). -/
namespace Go.Proofs.Ytcmpjkopdjncdaa
open Go.RowKit

set_option maxRecDepth 100000 in
set_option maxHeartbeats 16000000 in
theorem r07one_200 {w : World} {x : Itm} {vr vc vs : Value} {Bc : List Nat} (hr : SlEls 7 RptR w vr x.reps []) (hc : SlEls 2 ChkR w vc x.chks Bc) (hs : SlEls 1 SrcR w vs x.srcs []) (hz : Sz7 x) (hR : right7 x = true) (hk : x.kind = 200) :
    Calls Try.prog 38 #[.agg (itc x vr vc vs)] w fun e w' => ∃ v', e = .returned v' ∧ Bytes w' v' (itemW x) ∧ Fr [] w w' := by
  obtain ⟨ar, cr, rfl⟩ := hr.shape
  obtain ⟨ac, cc, rfl⟩ := hc.shape
  obtain ⟨as_, cs, rfl⟩ := hs.shape
  obtain ⟨nr, hnr⟩ : ∃ n, x.reps.length = n := ⟨_, rfl⟩
  obtain ⟨nc, hnc⟩ : ∃ n, x.chks.length = n := ⟨_, rfl⟩
  obtain ⟨ns, hns⟩ : ∃ n, x.srcs.length = n := ⟨_, rfl⟩
  have HNR := Lib.hid hnr; have HNC := Lib.hid hnc; have HNS := Lib.hid hns
  have HCT := Lib.hid (count_doc hR)
  have HZ := Lib.hid hz; have HRT := Lib.hid hR
  rw [hnr] at hr
  rw [hnc] at hc
  rw [hns] at hs
  rw [hnr, hnc, hns] at HCT ⊢
  obtain ⟨ec, es, er⟩ := right_rep hR (.inl hk)
  have hnc0 : nc = 0 := by rw [← hnc, ec]; rfl
  have hns0 : ns = 0 := by rw [← hns, es]; rfl
  have HK : Hid (x.kind = 200) := Lib.hid hk
  have HEC : Hid (x.chks = []) := Lib.hid ec
  have HES : Hid (x.srcs = []) := Lib.hid es
  have HER : Hid (x.reason = []) := Lib.hid er
  subst hnc0
  subst hns0
  clear hk ec es er
  clear hnr hnc hns hz hR
  obtain ⟨w1, e1, hF1, hB1, hs1⟩ := one_new w (itc x (.slice ar nr cr) (.slice ac 0 cc) (.slice as_ 0 cs)) 52
  obtain ⟨w2, e2, hF2, hB2, hs2⟩ := one_new w1 #[] 5
  have HB0 : Hid (Bytes w2 (.slice (some ⟨w1.heap.size, 0, none⟩) 0 0) []) := Lib.hid (Sl_none hB2)
  have E1 := Lib.hid e1; have E2 := Lib.hid e2
  have hF := hF1.trans hF2
  have HB := Lib.hid (hB1.keep hF2); have HR := Lib.hid (hr.keep Rep.rpt hF); have HC := Lib.hid (hc.keep Rep.chk hF); have HS := Lib.hid (hs.keep Rep.src hF); have HF := Lib.hid hF
  clear hF1 hB1 hs1 e1 hF2 hB2 hs2 e2 hF hr hc hs
  have hnr31 : nr ≤ 31 := by have := HCT.out; omega
  have hnc31 : 0 ≤ 31 := by have := HCT.out; omega
  have hns31 : 0 ≤ 31 := by have := HCT.out; omega
  go_enter Try.func38, Try.ntmps38
  go_upto_region 1 with fail
  rw [E1.out]
  clear E1
  go_upto_region 2 with fail
  rw [E2.out]
  clear E2
  generalize w1.heap.size = g1 at *
  obtain ⟨g0, hg0⟩ : ∃ g, w.heap.size = g := ⟨_, rfl⟩
  rw [hg0] at HB ⊢
  clear hg0
  have x0 := HB.out.cell 0; have x1 := HB.out.cell 1
  simp only [itc, List.getElem?_toArray, List.getElem?_cons_succ, List.getElem?_cons_zero] at x0 x1
  rw [HK.out] at x0
  have hq := x.ssrc.toNat_lt
  have hwu : IntKind.u64.wrap ((x.ssrc.toNat : Nat) : Int) = (x.ssrc.toNat : Nat) := wrap_u64_nat _ (by omega)
  go_wp2_with fail
  refine (Big_own x.ssrc.toNat 4 (by omega) (by omega)).mono ?_
  rintro e w3 ⟨vb, rfl, hb, hF⟩
  obtain ⟨ha, hn, hk, rfl⟩ := hb.isSlice
  have HVB := Lib.hid hb.bytes
  have HB := Lib.hid (HB.out.keep hF); have HR := Lib.hid (HR.out.keep Rep.rpt hF); have HC := Lib.hid (HC.out.keep Rep.chk hF); have HS := Lib.hid (HS.out.keep Rep.src hF); have HF := Lib.hid (HF.out.trans hF)
  clear hb hF x0 x1 hwu hq HB0
  have x0 := HB.out.cell 0
  simp only [itc, List.getElem?_toArray, List.getElem?_cons_succ, List.getElem?_cons_zero] at x0
  rw [HK.out] at x0
  have HE : Hid (hd7 x = [beN x.ssrc.toNat 4, beN x.ntp.toNat 8, beN x.ts.toNat 4, beN x.pks.toNat 4, beN x.ocs.toNat 4].flatten) := Lib.hid (by unfold hd7; rw [if_pos HK.out]; simp)
  go_upto_region 5 with fail
  clear x0
  refine wp_region_rules (fun w' => Fr [] w3.drew w') (Fr []) [isV (.slice ha hn hk), isV ?p4x1, isV (.int .u64 (x.ntp.toNat : Nat)), fun v w' => Bytes w' v (beN x.ntp.toNat 8), isV ?p4x4, isV ?p4x5, isV (.int .u64 (x.ts.toNat : Nat)), fun v w' => Bytes w' v (beN x.ts.toNat 4), isV ?p4x8, isV ?p4x9, isV (.int .u64 (x.pks.toNat : Nat)), fun v w' => Bytes w' v (beN x.pks.toNat 4), isV ?p4x12, isV ?p4x13, isV (.int .u64 (x.ocs.toNat : Nat)), fun v w' => Bytes w' v (beN x.ocs.toNat 4), fun v w' => BRows w' v [beN x.ssrc.toNat 4, beN x.ntp.toNat 8, beN x.ts.toNat 4, beN x.pks.toNat 4, beN x.ocs.toNat 4], fun v w' => Bytes w' v (hd7 x), fun v w' => Bytes w' v (hd7 x)] [[], [], [(1, 30)], [(2, 31)], [], [(4, 33)], [(5, 34)], [(6, 35)], [], [(8, 37)], [(9, 38)], [(10, 39)], [], [(12, 41)], [(13, 42)], [(14, 43)], [(0, 29), (3, 32), (7, 36), (11, 40), (15, 44)], [(16, 45)], [(17, 46)]] 210 [0, 1, 2, 3, 4, 5, 6, 7, 8, 9, 10, 11, 12, 13, 14, 15, 16, 17, 18] [(0, 29), (1, 30), (2, 31), (3, 32), (4, 33), (5, 34), (6, 35), (7, 36), (8, 37), (9, 38), (10, 39), (11, 40), (12, 41), (13, 42), (14, 43), (15, 44), (16, 45), (17, 46), (18, 3)] (by as_aux_lemma => kernel_rfl) (by as_aux_lemma => kernel_rfl) rfl (by as_aux_lemma => kernel_rfl) (by as_aux_lemma => kernel_rfl) (by as_aux_lemma => kernel_rfl) (by as_aux_lemma => kernel_rfl) (by intro c a a' W h hq; cases a; cases a'; cases h; exact hq) (fun w => Fr.refl _ w) (Fr.refl _ _) ⟨isV_stab, isV_stab, isV_stab, fun _ _ _ h1 h2 => Sl.keep h2 h1, isV_stab, isV_stab, isV_stab, fun _ _ _ h1 h2 => Sl.keep h2 h1, isV_stab, isV_stab, isV_stab, fun _ _ _ h1 h2 => Sl.keep h2 h1, isV_stab, isV_stab, isV_stab, fun _ _ _ h1 h2 => Sl.keep h2 h1, fun _ _ _ h1 h2 => h2.keep h1, fun _ _ _ h1 h2 => Sl.keep h2 h1, fun _ _ _ h1 h2 => Sl.keep h2 h1, trivial⟩ ⟨?_, ?_, ?_, ?_, ?_, ?_, ?_, ?_, ?_, ?_, ?_, ?_, ?_, ?_, ?_, ?_, ?_, ?_, ?_, trivial⟩ ?_
  rotate_left 7
  · intro vs w' hG hd K hK
    clear hd
    simp only [canonD, Act.put, List.getElem_toArray, List.getElem_cons_zero, List.getElem_cons_succ, List.setIfInBounds_toArray, List.set_cons_zero, List.set_cons_succ] at hK ⊢
    refine Eq.mpr (if_pos (by rfl)) ?_
    go_simp
    refine hK.out _ _ (Fr.refl _ _) hG ?_
    show _ = _
    rfl
  · intro vs w' hG hd K hK
    clear hd
    simp only [canonD, Act.put, List.getElem_toArray, List.getElem_cons_zero, List.getElem_cons_succ, List.setIfInBounds_toArray, List.set_cons_zero, List.set_cons_succ] at hK ⊢
    refine Eq.mpr (if_pos (by rfl)) ?_
    go_simp
    refine hK.out _ _ (Fr.refl _ _) hG ?_
    show _ = _
    rfl
  · intro vs w' hG hd K hK
    obtain ⟨h1, -⟩ := hd
    replace h1 : vs 1 = _ := h1
    simp only [canonD, Act.put, List.getElem_toArray, List.getElem_cons_zero, List.getElem_cons_succ, List.setIfInBounds_toArray, List.set_cons_zero, List.set_cons_succ, h1] at hK ⊢
    have hW : Fr [] w3 w' := (Fr.refl [] w3).drew.trans hG
    have x2 := (HB.out.keep hW).cell 2
    simp only [itc, List.getElem?_toArray, List.getElem?_cons_succ, List.getElem?_cons_zero] at x2
    refine Eq.mpr (if_pos (by rfl)) ?_
    go_simp
    refine hK.out _ _ (Fr.refl _ _) hG ?_
    show _ = _
    rfl
  · intro vs w' hG hd K hK
    obtain ⟨h2, -⟩ := hd
    replace h2 : vs 2 = _ := h2
    simp only [canonD, Act.put, List.getElem_toArray, List.getElem_cons_zero, List.getElem_cons_succ, List.setIfInBounds_toArray, List.set_cons_zero, List.set_cons_succ, h2] at hK ⊢
    refine Eq.mpr (if_pos (by rfl)) ?_
    go_simp
    have q1 := x.ntp.toNat_lt; have q2 := x.ts.toNat_lt; have q3 := x.pks.toNat_lt; have q4 := x.ocs.toNat_lt
    refine (Big_own x.ntp.toNat 8 (by omega) (by omega)).mono ?_
    rintro e wz ⟨vz, rfl, hO, hF⟩
    go_simp
    exact hK.out _ _ hF (hG.trans hF) hO.bytes
  · intro vs w' hG hd K hK
    clear hd
    simp only [canonD, Act.put, List.getElem_toArray, List.getElem_cons_zero, List.getElem_cons_succ, List.setIfInBounds_toArray, List.set_cons_zero, List.set_cons_succ] at hK ⊢
    refine Eq.mpr (if_pos (by rfl)) ?_
    go_simp
    refine hK.out _ _ (Fr.refl _ _) hG ?_
    show _ = _
    rfl
  · intro vs w' hG hd K hK
    obtain ⟨h4, -⟩ := hd
    replace h4 : vs 4 = _ := h4
    simp only [canonD, Act.put, List.getElem_toArray, List.getElem_cons_zero, List.getElem_cons_succ, List.setIfInBounds_toArray, List.set_cons_zero, List.set_cons_succ, h4] at hK ⊢
    have hW : Fr [] w3 w' := (Fr.refl [] w3).drew.trans hG
    have x3 := (HB.out.keep hW).cell 3
    simp only [itc, List.getElem?_toArray, List.getElem?_cons_succ, List.getElem?_cons_zero] at x3
    refine Eq.mpr (if_pos (by rfl)) ?_
    go_simp
    refine hK.out _ _ (Fr.refl _ _) hG ?_
    show _ = _
    rfl
  · intro vs w' hG hd K hK
    obtain ⟨h5, -⟩ := hd
    replace h5 : vs 5 = _ := h5
    simp only [canonD, Act.put, List.getElem_toArray, List.getElem_cons_zero, List.getElem_cons_succ, List.setIfInBounds_toArray, List.set_cons_zero, List.set_cons_succ, h5] at hK ⊢
    have q1 := x.ntp.toNat_lt; have q2 := x.ts.toNat_lt; have q3 := x.pks.toNat_lt; have q4 := x.ocs.toNat_lt
    refine Eq.mpr (if_pos (by rfl)) ?_
    go_simp
    refine hK.out _ _ (Fr.refl _ _) hG ?_
    show _ = _
    first | rfl | exact congrArg (Value.int .u64) (wrap_u64_nat _ (by omega)) | (simp; exact wrap_u64_nat _ (by omega))
  · intro vs w' hG hd K hK
    obtain ⟨h6, -⟩ := hd
    replace h6 : vs 6 = _ := h6
    simp only [canonD, Act.put, List.getElem_toArray, List.getElem_cons_zero, List.getElem_cons_succ, List.setIfInBounds_toArray, List.set_cons_zero, List.set_cons_succ, h6] at hK ⊢
    refine Eq.mpr (if_pos (by rfl)) ?_
    go_simp
    have q1 := x.ntp.toNat_lt; have q2 := x.ts.toNat_lt; have q3 := x.pks.toNat_lt; have q4 := x.ocs.toNat_lt
    refine (Big_own x.ts.toNat 4 (by omega) (by omega)).mono ?_
    rintro e wz ⟨vz, rfl, hO, hF⟩
    go_simp
    exact hK.out _ _ hF (hG.trans hF) hO.bytes
  · intro vs w' hG hd K hK
    clear hd
    simp only [canonD, Act.put, List.getElem_toArray, List.getElem_cons_zero, List.getElem_cons_succ, List.setIfInBounds_toArray, List.set_cons_zero, List.set_cons_succ] at hK ⊢
    refine Eq.mpr (if_pos (by rfl)) ?_
    go_simp
    refine hK.out _ _ (Fr.refl _ _) hG ?_
    show _ = _
    rfl
  · intro vs w' hG hd K hK
    obtain ⟨h8, -⟩ := hd
    replace h8 : vs 8 = _ := h8
    simp only [canonD, Act.put, List.getElem_toArray, List.getElem_cons_zero, List.getElem_cons_succ, List.setIfInBounds_toArray, List.set_cons_zero, List.set_cons_succ, h8] at hK ⊢
    have hW : Fr [] w3 w' := (Fr.refl [] w3).drew.trans hG
    have x4 := (HB.out.keep hW).cell 4
    simp only [itc, List.getElem?_toArray, List.getElem?_cons_succ, List.getElem?_cons_zero] at x4
    refine Eq.mpr (if_pos (by rfl)) ?_
    go_simp
    refine hK.out _ _ (Fr.refl _ _) hG ?_
    show _ = _
    rfl
  · intro vs w' hG hd K hK
    obtain ⟨h9, -⟩ := hd
    replace h9 : vs 9 = _ := h9
    simp only [canonD, Act.put, List.getElem_toArray, List.getElem_cons_zero, List.getElem_cons_succ, List.setIfInBounds_toArray, List.set_cons_zero, List.set_cons_succ, h9] at hK ⊢
    have q1 := x.ntp.toNat_lt; have q2 := x.ts.toNat_lt; have q3 := x.pks.toNat_lt; have q4 := x.ocs.toNat_lt
    refine Eq.mpr (if_pos (by rfl)) ?_
    go_simp
    refine hK.out _ _ (Fr.refl _ _) hG ?_
    show _ = _
    first | rfl | exact congrArg (Value.int .u64) (wrap_u64_nat _ (by omega)) | (simp; exact wrap_u64_nat _ (by omega))
  · intro vs w' hG hd K hK
    obtain ⟨h10, -⟩ := hd
    replace h10 : vs 10 = _ := h10
    simp only [canonD, Act.put, List.getElem_toArray, List.getElem_cons_zero, List.getElem_cons_succ, List.setIfInBounds_toArray, List.set_cons_zero, List.set_cons_succ, h10] at hK ⊢
    refine Eq.mpr (if_pos (by rfl)) ?_
    go_simp
    have q1 := x.ntp.toNat_lt; have q2 := x.ts.toNat_lt; have q3 := x.pks.toNat_lt; have q4 := x.ocs.toNat_lt
    refine (Big_own x.pks.toNat 4 (by omega) (by omega)).mono ?_
    rintro e wz ⟨vz, rfl, hO, hF⟩
    go_simp
    exact hK.out _ _ hF (hG.trans hF) hO.bytes
  · intro vs w' hG hd K hK
    clear hd
    simp only [canonD, Act.put, List.getElem_toArray, List.getElem_cons_zero, List.getElem_cons_succ, List.setIfInBounds_toArray, List.set_cons_zero, List.set_cons_succ] at hK ⊢
    refine Eq.mpr (if_pos (by rfl)) ?_
    go_simp
    refine hK.out _ _ (Fr.refl _ _) hG ?_
    show _ = _
    rfl
  · intro vs w' hG hd K hK
    obtain ⟨h12, -⟩ := hd
    replace h12 : vs 12 = _ := h12
    simp only [canonD, Act.put, List.getElem_toArray, List.getElem_cons_zero, List.getElem_cons_succ, List.setIfInBounds_toArray, List.set_cons_zero, List.set_cons_succ, h12] at hK ⊢
    have hW : Fr [] w3 w' := (Fr.refl [] w3).drew.trans hG
    have x5 := (HB.out.keep hW).cell 5
    simp only [itc, List.getElem?_toArray, List.getElem?_cons_succ, List.getElem?_cons_zero] at x5
    refine Eq.mpr (if_pos (by rfl)) ?_
    go_simp
    refine hK.out _ _ (Fr.refl _ _) hG ?_
    show _ = _
    rfl
  · intro vs w' hG hd K hK
    obtain ⟨h13, -⟩ := hd
    replace h13 : vs 13 = _ := h13
    simp only [canonD, Act.put, List.getElem_toArray, List.getElem_cons_zero, List.getElem_cons_succ, List.setIfInBounds_toArray, List.set_cons_zero, List.set_cons_succ, h13] at hK ⊢
    have q1 := x.ntp.toNat_lt; have q2 := x.ts.toNat_lt; have q3 := x.pks.toNat_lt; have q4 := x.ocs.toNat_lt
    refine Eq.mpr (if_pos (by rfl)) ?_
    go_simp
    refine hK.out _ _ (Fr.refl _ _) hG ?_
    show _ = _
    first | rfl | exact congrArg (Value.int .u64) (wrap_u64_nat _ (by omega)) | (simp; exact wrap_u64_nat _ (by omega))
  · intro vs w' hG hd K hK
    obtain ⟨h14, -⟩ := hd
    replace h14 : vs 14 = _ := h14
    simp only [canonD, Act.put, List.getElem_toArray, List.getElem_cons_zero, List.getElem_cons_succ, List.setIfInBounds_toArray, List.set_cons_zero, List.set_cons_succ, h14] at hK ⊢
    refine Eq.mpr (if_pos (by rfl)) ?_
    go_simp
    have q1 := x.ntp.toNat_lt; have q2 := x.ts.toNat_lt; have q3 := x.pks.toNat_lt; have q4 := x.ocs.toNat_lt
    refine (Big_own x.ocs.toNat 4 (by omega) (by omega)).mono ?_
    rintro e wz ⟨vz, rfl, hO, hF⟩
    go_simp
    exact hK.out _ _ hF (hG.trans hF) hO.bytes
  · intro vs w' hG hd K hK
    obtain ⟨h0, h3, h7, h11, h15, -⟩ := hd
    replace h0 : vs 0 = _ := h0
    replace h3 : Bytes w' (vs 3) (beN x.ntp.toNat 8) := h3
    replace h7 : Bytes w' (vs 7) (beN x.ts.toNat 4) := h7
    replace h11 : Bytes w' (vs 11) (beN x.pks.toNat 4) := h11
    replace h15 : Bytes w' (vs 15) (beN x.ocs.toNat 4) := h15
    simp only [canonD, Act.put, List.getElem_toArray, List.getElem_cons_zero, List.getElem_cons_succ, List.setIfInBounds_toArray, List.set_cons_zero, List.set_cons_succ, h0] at hK ⊢
    generalize vs 3 = v3 at *
    generalize vs 7 = v7 at *
    generalize vs 11 = v11 at *
    generalize vs 15 = v15 at *
    obtain ⟨pa3, pn3, pk3, rfl⟩ := Sl.isSlice h3
    obtain ⟨pa7, pn7, pk7, rfl⟩ := Sl.isSlice h7
    obtain ⟨pa11, pn11, pk11, rfl⟩ := Sl.isSlice h11
    obtain ⟨pa15, pn15, pk15, rfl⟩ := Sl.isSlice h15
    have hW : Fr [] w3 w' := (Fr.refl [] w3).drew.trans hG
    refine Eq.mpr (if_pos (by rfl)) ?_
    go_simp
    exact hK.out _ _ ((Fr.refl _ _).alloc _) (hG.trans ((Fr.refl _ _).alloc _)) (brows_made (vs := [_, _, _, _, _]) (ls := [beN x.ssrc.toNat 4, beN x.ntp.toNat 8, beN x.ts.toNat 4, beN x.pks.toNat 4, beN x.ocs.toNat 4]) _ 5 ⟨Sl.keep HVB.out hW, h3, h7, h11, h15, trivial⟩ rfl (by unfold maxLen; omega))
  · intro vs w' hG hd K hK
    obtain ⟨h16, -⟩ := hd
    replace h16 : BRows w' (vs 16) [beN x.ssrc.toNat 4, beN x.ntp.toNat 8, beN x.ts.toNat 4, beN x.pks.toNat 4, beN x.ocs.toNat 4] := h16
    simp only [canonD, Act.put, List.getElem_toArray, List.getElem_cons_zero, List.getElem_cons_succ, List.setIfInBounds_toArray, List.set_cons_zero, List.set_cons_succ] at hK ⊢
    generalize vs 16 = v16 at *
    refine Eq.mpr (if_pos (by rfl)) ?_
    go_simp
    refine (Join_rows h16 (by simp [beN_len]) (by simp)).mono ?_
    rintro e wz ⟨vz, rfl, hO, hF⟩
    go_simp
    refine hK.out _ _ hF (hG.trans hF) ?_
    show Bytes wz vz (hd7 x)
    rw [HE.out]
    exact hO
  · intro vs w' hG hd K hK
    obtain ⟨h17, -⟩ := hd
    replace h17 : Bytes w' (vs 17) (hd7 x) := h17
    simp only [canonD, Act.put, List.getElem_toArray, List.getElem_cons_zero, List.getElem_cons_succ, List.setIfInBounds_toArray, List.set_cons_zero, List.set_cons_succ] at hK ⊢
    generalize vs 17 = v17 at *
    refine Eq.mpr (if_pos (by rfl)) ?_
    go_simp
    exact hK.out _ _ (Fr.refl _ _) hG h17
  intro vs w' hG hP
  obtain ⟨h0, h1, h2, h3, h4, h5, h6, h7, h8, h9, h10, h11, h12, h13, h14, h15, h16, h17, h18, -⟩ := hP
  replace h0 : vs 0 = _ := h0
  replace h1 : vs 1 = _ := h1
  replace h2 : vs 2 = _ := h2
  replace h3 : Bytes w' (vs 3) (beN x.ntp.toNat 8) := h3
  replace h4 : vs 4 = _ := h4
  replace h5 : vs 5 = _ := h5
  replace h6 : vs 6 = _ := h6
  replace h7 : Bytes w' (vs 7) (beN x.ts.toNat 4) := h7
  replace h8 : vs 8 = _ := h8
  replace h9 : vs 9 = _ := h9
  replace h10 : vs 10 = _ := h10
  replace h11 : Bytes w' (vs 11) (beN x.pks.toNat 4) := h11
  replace h12 : vs 12 = _ := h12
  replace h13 : vs 13 = _ := h13
  replace h14 : vs 14 = _ := h14
  replace h15 : Bytes w' (vs 15) (beN x.ocs.toNat 4) := h15
  replace h16 : BRows w' (vs 16) [beN x.ssrc.toNat 4, beN x.ntp.toNat 8, beN x.ts.toNat 4, beN x.pks.toNat 4, beN x.ocs.toNat 4] := h16
  replace h17 : Bytes w' (vs 17) (hd7 x) := h17
  replace h18 : Bytes w' (vs 18) (hd7 x) := h18
  simp only [canonD, Act.put, List.getElem_toArray, List.getElem_cons_zero, List.getElem_cons_succ, List.setIfInBounds_toArray, List.set_cons_zero, List.set_cons_succ, h0, h1, h2, h4, h5, h6, h8, h9, h10, h12, h13, h14]
  generalize vs 3 = v3 at *
  generalize vs 7 = v7 at *
  generalize vs 11 = v11 at *
  generalize vs 15 = v15 at *
  generalize vs 16 = v16 at *
  generalize vs 17 = v17 at *
  generalize vs 18 = v18 at *
  clear h0 h1 h2 h4 h5 h6 h8 h9 h10 h12 h13 h14
  have hF := (Fr.refl [] w3).drew.trans hG
  rename World => wc
  obtain ⟨ha, hn, hk, e18⟩ := Sl.isSlice h18
  have HVB := Lib.hid h18
  subst e18
  have HB := Lib.hid (HB.out.keep hF); have HR := Lib.hid (HR.out.keep Rep.rpt hF); have HC := Lib.hid (HC.out.keep Rep.chk hF); have HS := Lib.hid (HS.out.keep Rep.src hF); have HF := Lib.hid (HF.out.trans hF)
  clear h3 h7 h11 h15 h16 h17 h18 hG hF
  have hrb := HZ.out.n
  go_upto_region 7 with fail
  go_loopw [3, 4] (fun b i wr => ∃ j : Nat, j ≤ nr ∧ i = .int .i64 j ∧ Bytes wr b (hd7 x ++ (x.reps.take j).flatMap rptW) ∧ Fr [] wc wr) (fun _ i _ => nr - (intOf i).toNat)
  case atStart => exact ⟨0, Nat.zero_le _, rfl, by simpa using HVB.out, Fr.refl _ _⟩
  case round =>
    clear HVB
    obtain ⟨j, hj, rfl, hb, hF⟩ := hrel
    have HVB := Lib.hid hb; have HFW := Lib.hid hF
    obtain ⟨ha, hn, hk, rfl⟩ := Sl.isSlice hb
    have HB := Lib.hid (HB.out.keep hF); have HR := Lib.hid (HR.out.keep Rep.rpt hF); have HC := Lib.hid (HC.out.keep Rep.chk hF); have HS := Lib.hid (HS.out.keep Rep.src hF); have HF := Lib.hid (HF.out.trans hF)
    clear hF hb
    have x6 := HB.out.cell 6
    simp only [itc, List.getElem?_toArray, List.getElem?_cons_succ, List.getElem?_cons_zero] at x6
    by_cases hlt : j < nr
    · obtain ⟨b, o, k, y, B1, ea, -, hy, ⟨rfl, -⟩, -, hrg⟩ := HR.out.at_ Rep.rpt (i := j) hlt
      have HEA := Lib.hid ea
      rw [ea] at x6
      have HRG := Lib.hid hrg; have HY := Lib.hid hy
      have HTK : Hid (hd7 x ++ (x.reps.take (j + 1)).flatMap rptW = [hd7 x ++ (x.reps.take j).flatMap rptW, beN y.ssrc.toNat 4, [ib y.loss], beN (y.lost % 16777216).toNat 3, beN y.hi.toNat 4, beN y.jit.toNat 4, beN y.lsr.toNat 4, beN y.dly.toNat 4].flatten) := Lib.hid (by
        rw [List.take_add_one, hy, List.flatMap_append]
        simp only [Option.toList_some, List.flatMap_cons, List.flatMap_nil, List.append_nil]
        rw [rptW_doc]
        simp [rptB])
      have HSZ : Hid ((hd7 x ++ (x.reps.take (j + 1)).flatMap rptW).length ≤ 1099511000000) := Lib.hid (by
        have h1 := HZ.out.body
        have h2 := flat_take_le rptW hy
        have h3 : (rptW y).length = 24 := rptW_len y
        have h4 : (hd7 x ++ x.reps.flatMap rptW).length ≤ (body3 x).length := by unfold body3; simp only [List.length_append]; omega
        rw [List.take_add_one, hy, List.flatMap_append]
        simp only [Option.toList_some, List.flatMap_cons, List.flatMap_nil, List.append_nil]
        simp only [List.length_append] at h4 ⊢
        omega)
      have HRP : Hid (-8388608 ≤ y.lost ∧ y.lost < 8388608) := Lib.hid (by
        have h1 := HRT.out
        rw [right7_doc] at h1
        simp only [Bool.and_eq_true, List.all_eq_true] at h1
        have h2 := h1.1.2 y (List.mem_of_getElem? hy)
        unfold rightRp at h2
        simp only [Bool.and_eq_true, decide_eq_true_eq] at h2
        exact ⟨h2.1.2, h2.2⟩)
      clear ea hrg hy
      obtain ⟨wy, ey, hFy, hBy, hsy⟩ := one_new wr (rpc7 y) 57
      have EY := Lib.hid ey; have HY5 := Lib.hid hBy; have HFY := Lib.hid hFy
      have y2 := hBy.cell 2
      simp only [rpc7, List.getElem?_toArray, List.getElem?_cons_succ, List.getElem?_cons_zero] at y2
      clear ey hFy hBy hsy
      obtain ⟨gy, hgy⟩ : ∃ g, wr.heap.size = g := ⟨_, rfl⟩
      have HGY := Lib.hid hgy
      clear hgy
      go_upto_region 10 with (refine wpList_load_midA rfl 57 (.tmp 57) rfl b (o + j * 7) rfl (rpc7 y) _ HRG.out Try.underlying57 rfl (by kernel_rfl) ?_)
      rw [EY.out]
      have hgy := HGY.out
      try simp only [hgy]
      rw [hgy] at HY5 y2
      clear hgy HGY EY HRG x6
      have hlo := HRP.out
      have hw0 : IntKind.i64.wrap y.lost = y.lost := IntWalk.i64_in _ (by omega)
      obtain ⟨L, hL⟩ : ∃ L : Nat, (y.lost % 16777216).toNat = L := ⟨_, rfl⟩
      have HL := Lib.hid hL
      rw [hL] at HTK
      go_upto_if 63 with fail
      clear y2 hw0
      go_cut [6] (fun s wx => s = .int .i64 (L : Nat) ∧ wy = wx)
      case first =>
        clear HB HR HC HS HF HVB HFW HCT HZ HRT HY HTK HSZ HRP HY5 HFY HEA
        by_cases hneg : y.lost < 0
        · have b1 : decide (y.lost < 0) = true := decide_eq_true hneg
          have hw2 : IntKind.i64.wrap (y.lost + 16777216) = ((L : Nat) : Int) := by rw [IntWalk.i64_in _ (by omega)]; omega
          clear hL
          go_wp2_with fail
          go_meet
          exact ⟨rfl, rfl⟩
        · have b1 : decide (y.lost < 0) = false := decide_eq_false hneg
          have hw2 : y.lost = ((L : Nat) : Int) := by omega
          clear hL
          go_wp2_with fail
          go_meet
          exact ⟨rfl, rfl⟩
      case rest =>
        obtain ⟨rfl, ew⟩ := hcut
        subst ew
        have HLB : Hid (L < 16777216) := Lib.hid (by omega)
        have HVB := Lib.hid (Sl.keep HVB.out HFY.out)
        clear hlo hL
        go_upto_region 13 with fail
        refine wp_region_rules (fun w' => Fr [] wy.drew w') (Fr []) [isV (.slice ha hn hk), isV ?p2x1, isV ?p2x2, isV (.int .u64 (y.ssrc.toNat : Nat)), fun v w' => Bytes w' v (beN y.ssrc.toNat 4), isV ?p2x5, isV ?p2x6, isV (.int .u8 ((ib y.loss).toNat : Nat)), fun v w' => Bytes w' v [ib y.loss], isV (.int .i64 (L : Nat)), isV (.int .u64 (L : Nat)), fun v w' => Bytes w' v (beN L 3), isV ?p2x12, isV ?p2x13, isV (.int .u64 (y.hi.toNat : Nat)), fun v w' => Bytes w' v (beN y.hi.toNat 4), isV ?p2x16, isV ?p2x17, isV (.int .u64 (y.jit.toNat : Nat)), fun v w' => Bytes w' v (beN y.jit.toNat 4), isV ?p2x20, isV ?p2x21, isV (.int .u64 (y.lsr.toNat : Nat)), fun v w' => Bytes w' v (beN y.lsr.toNat 4), isV ?p2x24, isV ?p2x25, isV (.int .u64 (y.dly.toNat : Nat)), fun v w' => Bytes w' v (beN y.dly.toNat 4), fun v w' => BRows w' v [hd7 x ++ (x.reps.take j).flatMap rptW, beN y.ssrc.toNat 4, [ib y.loss], beN L 3, beN y.hi.toNat 4, beN y.jit.toNat 4, beN y.lsr.toNat 4, beN y.dly.toNat 4], fun v w' => Bytes w' v (hd7 x ++ (x.reps.take (j + 1)).flatMap rptW), fun v w' => Bytes w' v (hd7 x ++ (x.reps.take (j + 1)).flatMap rptW)] [[], [], [(1, 67)], [(2, 68)], [(3, 69)], [], [(5, 71)], [(6, 72)], [(7, 73)], [], [(9, 75)], [(10, 76)], [], [(12, 78)], [(13, 79)], [(14, 80)], [], [(16, 82)], [(17, 83)], [(18, 84)], [], [(20, 86)], [(21, 87)], [(22, 88)], [], [(24, 90)], [(25, 91)], [(26, 92)], [(0, 66), (4, 70), (8, 74), (11, 77), (15, 81), (19, 85), (23, 89), (27, 93)], [(28, 94)], [(29, 95)]] 210 [0, 1, 2, 3, 4, 5, 6, 7, 8, 9, 10, 11, 12, 13, 14, 15, 16, 17, 18, 19, 20, 21, 22, 23, 24, 25, 26, 27, 28, 29, 30] [(0, 66), (1, 67), (2, 68), (3, 69), (4, 70), (5, 71), (6, 72), (7, 73), (8, 74), (9, 75), (10, 76), (11, 77), (12, 78), (13, 79), (14, 80), (15, 81), (16, 82), (17, 83), (18, 84), (19, 85), (20, 86), (21, 87), (22, 88), (23, 89), (24, 90), (25, 91), (26, 92), (27, 93), (28, 94), (29, 95), (30, 3)] (by as_aux_lemma => kernel_rfl) (by as_aux_lemma => kernel_rfl) rfl (by as_aux_lemma => kernel_rfl) (by as_aux_lemma => kernel_rfl) (by as_aux_lemma => kernel_rfl) (by as_aux_lemma => kernel_rfl) (by intro c a a' W h hq; cases a; cases a'; cases h; exact hq) (fun w => Fr.refl _ w) (Fr.refl _ _) ⟨isV_stab, isV_stab, isV_stab, isV_stab, fun _ _ _ h1 h2 => Sl.keep h2 h1, isV_stab, isV_stab, isV_stab, fun _ _ _ h1 h2 => Sl.keep h2 h1, isV_stab, isV_stab, fun _ _ _ h1 h2 => Sl.keep h2 h1, isV_stab, isV_stab, isV_stab, fun _ _ _ h1 h2 => Sl.keep h2 h1, isV_stab, isV_stab, isV_stab, fun _ _ _ h1 h2 => Sl.keep h2 h1, isV_stab, isV_stab, isV_stab, fun _ _ _ h1 h2 => Sl.keep h2 h1, isV_stab, isV_stab, isV_stab, fun _ _ _ h1 h2 => Sl.keep h2 h1, fun _ _ _ h1 h2 => h2.keep h1, fun _ _ _ h1 h2 => Sl.keep h2 h1, fun _ _ _ h1 h2 => Sl.keep h2 h1, trivial⟩ ⟨?_, ?_, ?_, ?_, ?_, ?_, ?_, ?_, ?_, ?_, ?_, ?_, ?_, ?_, ?_, ?_, ?_, ?_, ?_, ?_, ?_, ?_, ?_, ?_, ?_, ?_, ?_, ?_, ?_, ?_, ?_, trivial⟩ ?_
        rotate_left 12
        · intro vs w' hG hd K hK
          clear hd
          simp only [canonD, Act.put, List.getElem_toArray, List.getElem_cons_zero, List.getElem_cons_succ, List.setIfInBounds_toArray, List.set_cons_zero, List.set_cons_succ] at hK ⊢
          refine Eq.mpr (if_pos (by rfl)) ?_
          go_simp
          refine hK.out _ _ (Fr.refl _ _) hG ?_
          show _ = _
          rfl
        · intro vs w' hG hd K hK
          clear hd
          simp only [canonD, Act.put, List.getElem_toArray, List.getElem_cons_zero, List.getElem_cons_succ, List.setIfInBounds_toArray, List.set_cons_zero, List.set_cons_succ] at hK ⊢
          refine Eq.mpr (if_pos (by rfl)) ?_
          go_simp
          refine hK.out _ _ (Fr.refl _ _) hG ?_
          show _ = _
          rfl
        · intro vs w' hG hd K hK
          obtain ⟨h1, -⟩ := hd
          replace h1 : vs 1 = _ := h1
          simp only [canonD, Act.put, List.getElem_toArray, List.getElem_cons_zero, List.getElem_cons_succ, List.setIfInBounds_toArray, List.set_cons_zero, List.set_cons_succ, h1] at hK ⊢
          have hW : Fr [] wy w' := (Fr.refl [] wy).drew.trans hG
          have x0 := (HY5.out.keep hW).cell 0
          simp only [rpc7, List.getElem?_toArray, List.getElem?_cons_succ, List.getElem?_cons_zero] at x0
          refine Eq.mpr (if_pos (by rfl)) ?_
          go_simp
          refine hK.out _ _ (Fr.refl _ _) hG ?_
          show _ = _
          rfl
        · intro vs w' hG hd K hK
          obtain ⟨h2, -⟩ := hd
          replace h2 : vs 2 = _ := h2
          simp only [canonD, Act.put, List.getElem_toArray, List.getElem_cons_zero, List.getElem_cons_succ, List.setIfInBounds_toArray, List.set_cons_zero, List.set_cons_succ, h2] at hK ⊢
          have q1 := y.ssrc.toNat_lt; have q2 := y.hi.toNat_lt; have q3 := y.jit.toNat_lt; have q4 := y.lsr.toNat_lt; have q5 := y.dly.toNat_lt; have q6 := HLB.out
          refine Eq.mpr (if_pos (by rfl)) ?_
          go_simp
          refine hK.out _ _ (Fr.refl _ _) hG ?_
          show _ = _
          first | rfl | exact congrArg (Value.int .u64) (wrap_u64_nat _ (by omega)) | (simp; exact wrap_u64_nat _ (by omega))
        · intro vs w' hG hd K hK
          obtain ⟨h3, -⟩ := hd
          replace h3 : vs 3 = _ := h3
          simp only [canonD, Act.put, List.getElem_toArray, List.getElem_cons_zero, List.getElem_cons_succ, List.setIfInBounds_toArray, List.set_cons_zero, List.set_cons_succ, h3] at hK ⊢
          refine Eq.mpr (if_pos (by rfl)) ?_
          go_simp
          have q1 := y.ssrc.toNat_lt; have q2 := y.hi.toNat_lt; have q3 := y.jit.toNat_lt; have q4 := y.lsr.toNat_lt; have q5 := y.dly.toNat_lt; have q6 := HLB.out
          refine (Big_own y.ssrc.toNat 4 (by omega) (by omega)).mono ?_
          rintro e wz ⟨vz, rfl, hO, hF⟩
          go_simp
          exact hK.out _ _ hF (hG.trans hF) hO.bytes
        · intro vs w' hG hd K hK
          clear hd
          simp only [canonD, Act.put, List.getElem_toArray, List.getElem_cons_zero, List.getElem_cons_succ, List.setIfInBounds_toArray, List.set_cons_zero, List.set_cons_succ] at hK ⊢
          refine Eq.mpr (if_pos (by rfl)) ?_
          go_simp
          refine hK.out _ _ (Fr.refl _ _) hG ?_
          show _ = _
          rfl
        · intro vs w' hG hd K hK
          obtain ⟨h5, -⟩ := hd
          replace h5 : vs 5 = _ := h5
          simp only [canonD, Act.put, List.getElem_toArray, List.getElem_cons_zero, List.getElem_cons_succ, List.setIfInBounds_toArray, List.set_cons_zero, List.set_cons_succ, h5] at hK ⊢
          have hW : Fr [] wy w' := (Fr.refl [] wy).drew.trans hG
          have x1 := (HY5.out.keep hW).cell 1
          simp only [rpc7, List.getElem?_toArray, List.getElem?_cons_succ, List.getElem?_cons_zero] at x1
          refine Eq.mpr (if_pos (by rfl)) ?_
          go_simp
          refine hK.out _ _ (Fr.refl _ _) hG ?_
          show _ = _
          rfl
        · intro vs w' hG hd K hK
          obtain ⟨h6, -⟩ := hd
          replace h6 : vs 6 = _ := h6
          simp only [canonD, Act.put, List.getElem_toArray, List.getElem_cons_zero, List.getElem_cons_succ, List.setIfInBounds_toArray, List.set_cons_zero, List.set_cons_succ, h6] at hK ⊢
          refine Eq.mpr (if_pos (by rfl)) ?_
          go_simp
          refine hK.out _ _ (Fr.refl _ _) hG ?_
          show _ = _
          first | rfl | exact congrArg (Value.int .u8) (ib_wrap _)
        · intro vs w' hG hd K hK
          obtain ⟨h7, -⟩ := hd
          replace h7 : vs 7 = _ := h7
          simp only [canonD, Act.put, List.getElem_toArray, List.getElem_cons_zero, List.getElem_cons_succ, List.setIfInBounds_toArray, List.set_cons_zero, List.set_cons_succ, h7] at hK ⊢
          refine Eq.mpr (if_pos (by rfl)) ?_
          go_simp
          exact hK.out _ _ ((Fr.refl _ _).alloc _) (hG.trans ((Fr.refl _ _).alloc _)) (sl_made w' [.int .u8 ((ib y.loss).toNat : Nat)] _ 1 rfl (by unfold maxLen; omega))
        · intro vs w' hG hd K hK
          clear hd
          simp only [canonD, Act.put, List.getElem_toArray, List.getElem_cons_zero, List.getElem_cons_succ, List.setIfInBounds_toArray, List.set_cons_zero, List.set_cons_succ] at hK ⊢
          refine Eq.mpr (if_pos (by rfl)) ?_
          go_simp
          refine hK.out _ _ (Fr.refl _ _) hG ?_
          show _ = _
          rfl
        · intro vs w' hG hd K hK
          obtain ⟨h9, -⟩ := hd
          replace h9 : vs 9 = _ := h9
          simp only [canonD, Act.put, List.getElem_toArray, List.getElem_cons_zero, List.getElem_cons_succ, List.setIfInBounds_toArray, List.set_cons_zero, List.set_cons_succ, h9] at hK ⊢
          have q1 := y.ssrc.toNat_lt; have q2 := y.hi.toNat_lt; have q3 := y.jit.toNat_lt; have q4 := y.lsr.toNat_lt; have q5 := y.dly.toNat_lt; have q6 := HLB.out
          refine Eq.mpr (if_pos (by rfl)) ?_
          go_simp
          refine hK.out _ _ (Fr.refl _ _) hG ?_
          show _ = _
          first | rfl | exact congrArg (Value.int .u64) (wrap_u64_nat _ (by omega)) | (simp; exact wrap_u64_nat _ (by omega))
        · intro vs w' hG hd K hK
          obtain ⟨h10, -⟩ := hd
          replace h10 : vs 10 = _ := h10
          simp only [canonD, Act.put, List.getElem_toArray, List.getElem_cons_zero, List.getElem_cons_succ, List.setIfInBounds_toArray, List.set_cons_zero, List.set_cons_succ, h10] at hK ⊢
          refine Eq.mpr (if_pos (by rfl)) ?_
          go_simp
          have q1 := y.ssrc.toNat_lt; have q2 := y.hi.toNat_lt; have q3 := y.jit.toNat_lt; have q4 := y.lsr.toNat_lt; have q5 := y.dly.toNat_lt; have q6 := HLB.out
          refine (Big_own L 3 (by omega) (by omega)).mono ?_
          rintro e wz ⟨vz, rfl, hO, hF⟩
          go_simp
          exact hK.out _ _ hF (hG.trans hF) hO.bytes
        · intro vs w' hG hd K hK
          clear hd
          simp only [canonD, Act.put, List.getElem_toArray, List.getElem_cons_zero, List.getElem_cons_succ, List.setIfInBounds_toArray, List.set_cons_zero, List.set_cons_succ] at hK ⊢
          refine Eq.mpr (if_pos (by rfl)) ?_
          go_simp
          refine hK.out _ _ (Fr.refl _ _) hG ?_
          show _ = _
          rfl
        · intro vs w' hG hd K hK
          obtain ⟨h12, -⟩ := hd
          replace h12 : vs 12 = _ := h12
          simp only [canonD, Act.put, List.getElem_toArray, List.getElem_cons_zero, List.getElem_cons_succ, List.setIfInBounds_toArray, List.set_cons_zero, List.set_cons_succ, h12] at hK ⊢
          have hW : Fr [] wy w' := (Fr.refl [] wy).drew.trans hG
          have x3 := (HY5.out.keep hW).cell 3
          simp only [rpc7, List.getElem?_toArray, List.getElem?_cons_succ, List.getElem?_cons_zero] at x3
          refine Eq.mpr (if_pos (by rfl)) ?_
          go_simp
          refine hK.out _ _ (Fr.refl _ _) hG ?_
          show _ = _
          rfl
        · intro vs w' hG hd K hK
          obtain ⟨h13, -⟩ := hd
          replace h13 : vs 13 = _ := h13
          simp only [canonD, Act.put, List.getElem_toArray, List.getElem_cons_zero, List.getElem_cons_succ, List.setIfInBounds_toArray, List.set_cons_zero, List.set_cons_succ, h13] at hK ⊢
          have q1 := y.ssrc.toNat_lt; have q2 := y.hi.toNat_lt; have q3 := y.jit.toNat_lt; have q4 := y.lsr.toNat_lt; have q5 := y.dly.toNat_lt; have q6 := HLB.out
          refine Eq.mpr (if_pos (by rfl)) ?_
          go_simp
          refine hK.out _ _ (Fr.refl _ _) hG ?_
          show _ = _
          first | rfl | exact congrArg (Value.int .u64) (wrap_u64_nat _ (by omega)) | (simp; exact wrap_u64_nat _ (by omega))
        · intro vs w' hG hd K hK
          obtain ⟨h14, -⟩ := hd
          replace h14 : vs 14 = _ := h14
          simp only [canonD, Act.put, List.getElem_toArray, List.getElem_cons_zero, List.getElem_cons_succ, List.setIfInBounds_toArray, List.set_cons_zero, List.set_cons_succ, h14] at hK ⊢
          refine Eq.mpr (if_pos (by rfl)) ?_
          go_simp
          have q1 := y.ssrc.toNat_lt; have q2 := y.hi.toNat_lt; have q3 := y.jit.toNat_lt; have q4 := y.lsr.toNat_lt; have q5 := y.dly.toNat_lt; have q6 := HLB.out
          refine (Big_own y.hi.toNat 4 (by omega) (by omega)).mono ?_
          rintro e wz ⟨vz, rfl, hO, hF⟩
          go_simp
          exact hK.out _ _ hF (hG.trans hF) hO.bytes
        · intro vs w' hG hd K hK
          clear hd
          simp only [canonD, Act.put, List.getElem_toArray, List.getElem_cons_zero, List.getElem_cons_succ, List.setIfInBounds_toArray, List.set_cons_zero, List.set_cons_succ] at hK ⊢
          refine Eq.mpr (if_pos (by rfl)) ?_
          go_simp
          refine hK.out _ _ (Fr.refl _ _) hG ?_
          show _ = _
          rfl
        · intro vs w' hG hd K hK
          obtain ⟨h16, -⟩ := hd
          replace h16 : vs 16 = _ := h16
          simp only [canonD, Act.put, List.getElem_toArray, List.getElem_cons_zero, List.getElem_cons_succ, List.setIfInBounds_toArray, List.set_cons_zero, List.set_cons_succ, h16] at hK ⊢
          have hW : Fr [] wy w' := (Fr.refl [] wy).drew.trans hG
          have x4 := (HY5.out.keep hW).cell 4
          simp only [rpc7, List.getElem?_toArray, List.getElem?_cons_succ, List.getElem?_cons_zero] at x4
          refine Eq.mpr (if_pos (by rfl)) ?_
          go_simp
          refine hK.out _ _ (Fr.refl _ _) hG ?_
          show _ = _
          rfl
        · intro vs w' hG hd K hK
          obtain ⟨h17, -⟩ := hd
          replace h17 : vs 17 = _ := h17
          simp only [canonD, Act.put, List.getElem_toArray, List.getElem_cons_zero, List.getElem_cons_succ, List.setIfInBounds_toArray, List.set_cons_zero, List.set_cons_succ, h17] at hK ⊢
          have q1 := y.ssrc.toNat_lt; have q2 := y.hi.toNat_lt; have q3 := y.jit.toNat_lt; have q4 := y.lsr.toNat_lt; have q5 := y.dly.toNat_lt; have q6 := HLB.out
          refine Eq.mpr (if_pos (by rfl)) ?_
          go_simp
          refine hK.out _ _ (Fr.refl _ _) hG ?_
          show _ = _
          first | rfl | exact congrArg (Value.int .u64) (wrap_u64_nat _ (by omega)) | (simp; exact wrap_u64_nat _ (by omega))
        · intro vs w' hG hd K hK
          obtain ⟨h18, -⟩ := hd
          replace h18 : vs 18 = _ := h18
          simp only [canonD, Act.put, List.getElem_toArray, List.getElem_cons_zero, List.getElem_cons_succ, List.setIfInBounds_toArray, List.set_cons_zero, List.set_cons_succ, h18] at hK ⊢
          refine Eq.mpr (if_pos (by rfl)) ?_
          go_simp
          have q1 := y.ssrc.toNat_lt; have q2 := y.hi.toNat_lt; have q3 := y.jit.toNat_lt; have q4 := y.lsr.toNat_lt; have q5 := y.dly.toNat_lt; have q6 := HLB.out
          refine (Big_own y.jit.toNat 4 (by omega) (by omega)).mono ?_
          rintro e wz ⟨vz, rfl, hO, hF⟩
          go_simp
          exact hK.out _ _ hF (hG.trans hF) hO.bytes
        · intro vs w' hG hd K hK
          clear hd
          simp only [canonD, Act.put, List.getElem_toArray, List.getElem_cons_zero, List.getElem_cons_succ, List.setIfInBounds_toArray, List.set_cons_zero, List.set_cons_succ] at hK ⊢
          refine Eq.mpr (if_pos (by rfl)) ?_
          go_simp
          refine hK.out _ _ (Fr.refl _ _) hG ?_
          show _ = _
          rfl
        · intro vs w' hG hd K hK
          obtain ⟨h20, -⟩ := hd
          replace h20 : vs 20 = _ := h20
          simp only [canonD, Act.put, List.getElem_toArray, List.getElem_cons_zero, List.getElem_cons_succ, List.setIfInBounds_toArray, List.set_cons_zero, List.set_cons_succ, h20] at hK ⊢
          have hW : Fr [] wy w' := (Fr.refl [] wy).drew.trans hG
          have x5 := (HY5.out.keep hW).cell 5
          simp only [rpc7, List.getElem?_toArray, List.getElem?_cons_succ, List.getElem?_cons_zero] at x5
          refine Eq.mpr (if_pos (by rfl)) ?_
          go_simp
          refine hK.out _ _ (Fr.refl _ _) hG ?_
          show _ = _
          rfl
        · intro vs w' hG hd K hK
          obtain ⟨h21, -⟩ := hd
          replace h21 : vs 21 = _ := h21
          simp only [canonD, Act.put, List.getElem_toArray, List.getElem_cons_zero, List.getElem_cons_succ, List.setIfInBounds_toArray, List.set_cons_zero, List.set_cons_succ, h21] at hK ⊢
          have q1 := y.ssrc.toNat_lt; have q2 := y.hi.toNat_lt; have q3 := y.jit.toNat_lt; have q4 := y.lsr.toNat_lt; have q5 := y.dly.toNat_lt; have q6 := HLB.out
          refine Eq.mpr (if_pos (by rfl)) ?_
          go_simp
          refine hK.out _ _ (Fr.refl _ _) hG ?_
          show _ = _
          first | rfl | exact congrArg (Value.int .u64) (wrap_u64_nat _ (by omega)) | (simp; exact wrap_u64_nat _ (by omega))
        · intro vs w' hG hd K hK
          obtain ⟨h22, -⟩ := hd
          replace h22 : vs 22 = _ := h22
          simp only [canonD, Act.put, List.getElem_toArray, List.getElem_cons_zero, List.getElem_cons_succ, List.setIfInBounds_toArray, List.set_cons_zero, List.set_cons_succ, h22] at hK ⊢
          refine Eq.mpr (if_pos (by rfl)) ?_
          go_simp
          have q1 := y.ssrc.toNat_lt; have q2 := y.hi.toNat_lt; have q3 := y.jit.toNat_lt; have q4 := y.lsr.toNat_lt; have q5 := y.dly.toNat_lt; have q6 := HLB.out
          refine (Big_own y.lsr.toNat 4 (by omega) (by omega)).mono ?_
          rintro e wz ⟨vz, rfl, hO, hF⟩
          go_simp
          exact hK.out _ _ hF (hG.trans hF) hO.bytes
        · intro vs w' hG hd K hK
          clear hd
          simp only [canonD, Act.put, List.getElem_toArray, List.getElem_cons_zero, List.getElem_cons_succ, List.setIfInBounds_toArray, List.set_cons_zero, List.set_cons_succ] at hK ⊢
          refine Eq.mpr (if_pos (by rfl)) ?_
          go_simp
          refine hK.out _ _ (Fr.refl _ _) hG ?_
          show _ = _
          rfl
        · intro vs w' hG hd K hK
          obtain ⟨h24, -⟩ := hd
          replace h24 : vs 24 = _ := h24
          simp only [canonD, Act.put, List.getElem_toArray, List.getElem_cons_zero, List.getElem_cons_succ, List.setIfInBounds_toArray, List.set_cons_zero, List.set_cons_succ, h24] at hK ⊢
          have hW : Fr [] wy w' := (Fr.refl [] wy).drew.trans hG
          have x6 := (HY5.out.keep hW).cell 6
          simp only [rpc7, List.getElem?_toArray, List.getElem?_cons_succ, List.getElem?_cons_zero] at x6
          refine Eq.mpr (if_pos (by rfl)) ?_
          go_simp
          refine hK.out _ _ (Fr.refl _ _) hG ?_
          show _ = _
          rfl
        · intro vs w' hG hd K hK
          obtain ⟨h25, -⟩ := hd
          replace h25 : vs 25 = _ := h25
          simp only [canonD, Act.put, List.getElem_toArray, List.getElem_cons_zero, List.getElem_cons_succ, List.setIfInBounds_toArray, List.set_cons_zero, List.set_cons_succ, h25] at hK ⊢
          have q1 := y.ssrc.toNat_lt; have q2 := y.hi.toNat_lt; have q3 := y.jit.toNat_lt; have q4 := y.lsr.toNat_lt; have q5 := y.dly.toNat_lt; have q6 := HLB.out
          refine Eq.mpr (if_pos (by rfl)) ?_
          go_simp
          refine hK.out _ _ (Fr.refl _ _) hG ?_
          show _ = _
          first | rfl | exact congrArg (Value.int .u64) (wrap_u64_nat _ (by omega)) | (simp; exact wrap_u64_nat _ (by omega))
        · intro vs w' hG hd K hK
          obtain ⟨h26, -⟩ := hd
          replace h26 : vs 26 = _ := h26
          simp only [canonD, Act.put, List.getElem_toArray, List.getElem_cons_zero, List.getElem_cons_succ, List.setIfInBounds_toArray, List.set_cons_zero, List.set_cons_succ, h26] at hK ⊢
          refine Eq.mpr (if_pos (by rfl)) ?_
          go_simp
          have q1 := y.ssrc.toNat_lt; have q2 := y.hi.toNat_lt; have q3 := y.jit.toNat_lt; have q4 := y.lsr.toNat_lt; have q5 := y.dly.toNat_lt; have q6 := HLB.out
          refine (Big_own y.dly.toNat 4 (by omega) (by omega)).mono ?_
          rintro e wz ⟨vz, rfl, hO, hF⟩
          go_simp
          exact hK.out _ _ hF (hG.trans hF) hO.bytes
        · intro vs w' hG hd K hK
          obtain ⟨h0, h4, h8, h11, h15, h19, h23, h27, -⟩ := hd
          replace h0 : vs 0 = _ := h0
          replace h4 : Bytes w' (vs 4) (beN y.ssrc.toNat 4) := h4
          replace h8 : Bytes w' (vs 8) [ib y.loss] := h8
          replace h11 : Bytes w' (vs 11) (beN L 3) := h11
          replace h15 : Bytes w' (vs 15) (beN y.hi.toNat 4) := h15
          replace h19 : Bytes w' (vs 19) (beN y.jit.toNat 4) := h19
          replace h23 : Bytes w' (vs 23) (beN y.lsr.toNat 4) := h23
          replace h27 : Bytes w' (vs 27) (beN y.dly.toNat 4) := h27
          simp only [canonD, Act.put, List.getElem_toArray, List.getElem_cons_zero, List.getElem_cons_succ, List.setIfInBounds_toArray, List.set_cons_zero, List.set_cons_succ, h0] at hK ⊢
          generalize vs 4 = v4 at *
          generalize vs 8 = v8 at *
          generalize vs 11 = v11 at *
          generalize vs 15 = v15 at *
          generalize vs 19 = v19 at *
          generalize vs 23 = v23 at *
          generalize vs 27 = v27 at *
          obtain ⟨pa4, pn4, pk4, rfl⟩ := Sl.isSlice h4
          obtain ⟨pa8, pn8, pk8, rfl⟩ := Sl.isSlice h8
          obtain ⟨pa11, pn11, pk11, rfl⟩ := Sl.isSlice h11
          obtain ⟨pa15, pn15, pk15, rfl⟩ := Sl.isSlice h15
          obtain ⟨pa19, pn19, pk19, rfl⟩ := Sl.isSlice h19
          obtain ⟨pa23, pn23, pk23, rfl⟩ := Sl.isSlice h23
          obtain ⟨pa27, pn27, pk27, rfl⟩ := Sl.isSlice h27
          have hW : Fr [] wy w' := (Fr.refl [] wy).drew.trans hG
          refine Eq.mpr (if_pos (by rfl)) ?_
          go_simp
          exact hK.out _ _ ((Fr.refl _ _).alloc _) (hG.trans ((Fr.refl _ _).alloc _)) (brows_made (vs := [_, _, _, _, _, _, _, _]) (ls := [hd7 x ++ (x.reps.take j).flatMap rptW, beN y.ssrc.toNat 4, [ib y.loss], beN L 3, beN y.hi.toNat 4, beN y.jit.toNat 4, beN y.lsr.toNat 4, beN y.dly.toNat 4]) _ 8 ⟨Sl.keep HVB.out hW, h4, h8, h11, h15, h19, h23, h27, trivial⟩ rfl (by unfold maxLen; omega))
        · intro vs w' hG hd K hK
          obtain ⟨h28, -⟩ := hd
          replace h28 : BRows w' (vs 28) [hd7 x ++ (x.reps.take j).flatMap rptW, beN y.ssrc.toNat 4, [ib y.loss], beN L 3, beN y.hi.toNat 4, beN y.jit.toNat 4, beN y.lsr.toNat 4, beN y.dly.toNat 4] := h28
          simp only [canonD, Act.put, List.getElem_toArray, List.getElem_cons_zero, List.getElem_cons_succ, List.setIfInBounds_toArray, List.set_cons_zero, List.set_cons_succ] at hK ⊢
          generalize vs 28 = v28 at *
          refine Eq.mpr (if_pos (by rfl)) ?_
          go_simp
          refine (Join_rows h28 (by rw [← HTK.out]; have := HSZ.out; omega) (by simp)).mono ?_
          rintro e wz ⟨vz, rfl, hO, hF⟩
          go_simp
          refine hK.out _ _ hF (hG.trans hF) ?_
          show Bytes wz vz (hd7 x ++ (x.reps.take (j + 1)).flatMap rptW)
          rw [HTK.out]
          exact hO
        · intro vs w' hG hd K hK
          obtain ⟨h29, -⟩ := hd
          replace h29 : Bytes w' (vs 29) (hd7 x ++ (x.reps.take (j + 1)).flatMap rptW) := h29
          simp only [canonD, Act.put, List.getElem_toArray, List.getElem_cons_zero, List.getElem_cons_succ, List.setIfInBounds_toArray, List.set_cons_zero, List.set_cons_succ] at hK ⊢
          generalize vs 29 = v29 at *
          refine Eq.mpr (if_pos (by rfl)) ?_
          go_simp
          exact hK.out _ _ (Fr.refl _ _) hG h29
        intro vs w' hG hP
        obtain ⟨h0, h1, h2, h3, h4, h5, h6, h7, h8, h9, h10, h11, h12, h13, h14, h15, h16, h17, h18, h19, h20, h21, h22, h23, h24, h25, h26, h27, h28, h29, h30, -⟩ := hP
        replace h0 : vs 0 = _ := h0
        replace h1 : vs 1 = _ := h1
        replace h2 : vs 2 = _ := h2
        replace h3 : vs 3 = _ := h3
        replace h4 : Bytes w' (vs 4) (beN y.ssrc.toNat 4) := h4
        replace h5 : vs 5 = _ := h5
        replace h6 : vs 6 = _ := h6
        replace h7 : vs 7 = _ := h7
        replace h8 : Bytes w' (vs 8) [ib y.loss] := h8
        replace h9 : vs 9 = _ := h9
        replace h10 : vs 10 = _ := h10
        replace h11 : Bytes w' (vs 11) (beN L 3) := h11
        replace h12 : vs 12 = _ := h12
        replace h13 : vs 13 = _ := h13
        replace h14 : vs 14 = _ := h14
        replace h15 : Bytes w' (vs 15) (beN y.hi.toNat 4) := h15
        replace h16 : vs 16 = _ := h16
        replace h17 : vs 17 = _ := h17
        replace h18 : vs 18 = _ := h18
        replace h19 : Bytes w' (vs 19) (beN y.jit.toNat 4) := h19
        replace h20 : vs 20 = _ := h20
        replace h21 : vs 21 = _ := h21
        replace h22 : vs 22 = _ := h22
        replace h23 : Bytes w' (vs 23) (beN y.lsr.toNat 4) := h23
        replace h24 : vs 24 = _ := h24
        replace h25 : vs 25 = _ := h25
        replace h26 : vs 26 = _ := h26
        replace h27 : Bytes w' (vs 27) (beN y.dly.toNat 4) := h27
        replace h28 : BRows w' (vs 28) [hd7 x ++ (x.reps.take j).flatMap rptW, beN y.ssrc.toNat 4, [ib y.loss], beN L 3, beN y.hi.toNat 4, beN y.jit.toNat 4, beN y.lsr.toNat 4, beN y.dly.toNat 4] := h28
        replace h29 : Bytes w' (vs 29) (hd7 x ++ (x.reps.take (j + 1)).flatMap rptW) := h29
        replace h30 : Bytes w' (vs 30) (hd7 x ++ (x.reps.take (j + 1)).flatMap rptW) := h30
        simp only [canonD, Act.put, List.getElem_toArray, List.getElem_cons_zero, List.getElem_cons_succ, List.setIfInBounds_toArray, List.set_cons_zero, List.set_cons_succ, h0, h1, h2, h3, h5, h6, h7, h9, h10, h12, h13, h14, h16, h17, h18, h20, h21, h22, h24, h25, h26]
        generalize vs 4 = v4 at *
        generalize vs 8 = v8 at *
        generalize vs 11 = v11 at *
        generalize vs 15 = v15 at *
        generalize vs 19 = v19 at *
        generalize vs 23 = v23 at *
        generalize vs 27 = v27 at *
        generalize vs 28 = v28 at *
        generalize vs 29 = v29 at *
        generalize vs 30 = v30 at *
        clear h0 h1 h2 h3 h5 h6 h7 h9 h10 h12 h13 h14 h16 h17 h18 h20 h21 h22 h24 h25 h26
        have hF := HFY.out.trans ((Fr.refl [] wy).drew.trans hG)
        have HQ := Lib.hid h30
        have HFW := Lib.hid (HFW.out.trans hF)
        clear h4 h8 h11 h15 h19 h23 h27 h28 h29 h30 hG hF
        go_wp2_with fail
        go_roundw
        case rel => exact ⟨j + 1, by omega, by go_num, HQ.out, HFW.out⟩
        case measure => simp [intOf]; omega
    · obtain rfl : nr = j := by omega
      have hbb := HVB.out
      rw [List.take_of_length_le (by rw [HNR.out]; exact Nat.le_refl _)] at hbb
      have HVB := Lib.hid hbb
      clear hbb hlt hj HR HFW
      have HVB : Hid (Bytes wr (.slice ha hn hk) (bodyW x)) := Lib.hid (by
        unfold bodyW
        rw [if_pos HER.out]
        unfold body3
        rw [HEC.out, HES.out]
        simpa using HVB.out)
      have st : (strB x.reason).toList.isEmpty = true := by rw [strB_list, HER.out]; rfl
      have x7 := HB.out.cell 7; have x8 := HB.out.cell 8; have x9 := HB.out.cell 9
      simp only [itc, List.getElem?_toArray, List.getElem?_cons_succ, List.getElem?_cons_zero] at x7 x8 x9
      have e10 : hn = (bodyW x).length := by
        obtain ⟨a9, c9, e9⟩ := Sl.shape HVB.out
        rw [List.length_map] at e9
        cases e9
        rfl
      subst e10
      have HBD : Hid ((bodyW x).length ≤ 1099511000010) := Lib.hid (by
        have := HZ.out.body
        unfold bodyW
        split
        · omega
        · unfold padW padOf; simp only [List.length_append, List.length_replicate, List.length_singleton]; omega)
      obtain ⟨bl, hbl⟩ : ∃ n, (bodyW x).length = n := ⟨_, rfl⟩
      rw [hbl] at HVB HBD ⊢
      have HBLN := Lib.hid hbl
      clear hbl
      have HN2 : Hid ((count7 x).1 = nr ∧ nr ≤ 31) := Lib.hid (by have := HCT.out; omega)
      have hwn : wrap64 ((nr : Nat) : Int) = ((nr : Nat) : Int) := IntWalk.wrap64_in _ ⟨by omega, by omega⟩
      go_upto_region 15 with fail
      go_loopw [3, 7] (fun b i wq => b = (.slice ha bl hk) ∧ i = .int .i64 0 ∧ wr = wq) (fun _ _ _ => 0)
      case atStart => exact ⟨rfl, rfl, rfl⟩
      case round =>
        obtain ⟨rfl, rfl, ew⟩ := hrel
        subst ew
        go_upto_region 25 with fail
        go_loopw [3, 11] (fun b i wq => b = (.slice ha bl hk) ∧ i = .int .i64 0 ∧ wr = wq) (fun _ _ _ => 0)
        case atStart => exact ⟨rfl, rfl, rfl⟩
        case round =>
          obtain ⟨rfl, rfl, ew⟩ := hrel
          subst ew
          go_upto_region 31 with fail
          try simp only [hwn]
          clear x6 x7 x8 x9 st hwn
          refine wp_region_rules (fun w' => Fr [] wr.drew w') (Fr []) [isV (.int .i64 (nr : Nat)), isV (.int .i64 ((128 + nr : Nat) : Int)), isV (.int .u8 ((ib ((128 + nr : Nat) : Int)).toNat : Nat)), isV ?p5x3, isV ?p5x4, isV (.int .u8 ((ib x.kind).toNat : Nat)), fun v w' => Bytes w' v [ib ((128 + nr : Nat) : Int), ib x.kind], isV (.slice ha bl hk), isV ?p5x8, isV (.int .i64 ((bl / 4 : Nat) : Int)), isV (.int .u64 ((bl / 4 : Nat) : Int)), fun v w' => Bytes w' v (beN (bl / 4) 2), isV (.slice ha bl hk), fun v w' => BRows w' v [[ib ((128 + nr : Nat) : Int), ib x.kind], beN (bl / 4) 2, bodyW x], fun v w' => Bytes w' v (itemW x), fun v w' => Bytes w' v (itemW x)] [[], [(0, 195)], [(1, 196)], [], [(3, 198)], [(4, 199)], [(2, 197), (5, 200)], [], [(7, 202)], [(8, 203)], [(9, 204)], [(10, 205)], [], [(6, 201), (11, 206), (12, 207)], [(13, 208)], [(14, 209)]] 210 [0, 1, 2, 3, 4, 5, 6, 7, 8, 9, 10, 11, 12, 13, 14, 15] [(0, 195), (1, 196), (2, 197), (3, 198), (4, 199), (5, 200), (6, 201), (7, 202), (8, 203), (9, 204), (10, 205), (11, 206), (12, 207), (13, 208), (14, 209), (15, 2)] (by as_aux_lemma => kernel_rfl) (by as_aux_lemma => kernel_rfl) rfl (by as_aux_lemma => kernel_rfl) (by as_aux_lemma => kernel_rfl) (by as_aux_lemma => kernel_rfl) (by as_aux_lemma => kernel_rfl) (by intro c a a' W h hq; cases a; cases a'; cases h; exact hq) (fun w => Fr.refl _ w) (Fr.refl _ _) ⟨isV_stab, isV_stab, isV_stab, isV_stab, isV_stab, isV_stab, fun _ _ _ h1 h2 => Sl.keep h2 h1, isV_stab, isV_stab, isV_stab, isV_stab, fun _ _ _ h1 h2 => Sl.keep h2 h1, isV_stab, fun _ _ _ h1 h2 => h2.keep h1, fun _ _ _ h1 h2 => Sl.keep h2 h1, fun _ _ _ h1 h2 => Sl.keep h2 h1, trivial⟩ ⟨?_, ?_, ?_, ?_, ?_, ?_, ?_, ?_, ?_, ?_, ?_, ?_, ?_, ?_, ?_, ?_, trivial⟩ ?_
          rotate_left 3
          · intro vs w' hG hd K hK
            clear hd
            simp only [canonD, Act.put, List.getElem_toArray, List.getElem_cons_zero, List.getElem_cons_succ, List.setIfInBounds_toArray, List.set_cons_zero, List.set_cons_succ] at hK ⊢
            refine Eq.mpr (if_pos (by rfl)) ?_
            go_simp
            refine hK.out _ _ (Fr.refl _ _) hG ?_
            show _ = _
            rfl
          · intro vs w' hG hd K hK
            obtain ⟨h0, -⟩ := hd
            replace h0 : vs 0 = _ := h0
            simp only [canonD, Act.put, List.getElem_toArray, List.getElem_cons_zero, List.getElem_cons_succ, List.setIfInBounds_toArray, List.set_cons_zero, List.set_cons_succ, h0] at hK ⊢
            refine Eq.mpr (if_pos (by rfl)) ?_
            go_simp
            refine hK.out _ _ (Fr.refl _ _) hG ?_
            show _ = _
            first | rfl | (have h9 := HN2.out.2; exact congrArg (Value.int .i64) (by rw [IntWalk.i64_in _ (by omega)]; omega)) | (have h9 := HN2.out.2; simp; rw [IntWalk.i64_in _ (by omega)])
          · intro vs w' hG hd K hK
            obtain ⟨h1, -⟩ := hd
            replace h1 : vs 1 = _ := h1
            simp only [canonD, Act.put, List.getElem_toArray, List.getElem_cons_zero, List.getElem_cons_succ, List.setIfInBounds_toArray, List.set_cons_zero, List.set_cons_succ, h1] at hK ⊢
            refine Eq.mpr (if_pos (by rfl)) ?_
            go_simp
            refine hK.out _ _ (Fr.refl _ _) hG ?_
            show _ = _
            first | rfl | exact congrArg (Value.int .u8) (ib_wrap _)
          · intro vs w' hG hd K hK
            clear hd
            simp only [canonD, Act.put, List.getElem_toArray, List.getElem_cons_zero, List.getElem_cons_succ, List.setIfInBounds_toArray, List.set_cons_zero, List.set_cons_succ] at hK ⊢
            refine Eq.mpr (if_pos (by rfl)) ?_
            go_simp
            refine hK.out _ _ (Fr.refl _ _) hG ?_
            show _ = _
            rfl
          · intro vs w' hG hd K hK
            obtain ⟨h3, -⟩ := hd
            replace h3 : vs 3 = _ := h3
            simp only [canonD, Act.put, List.getElem_toArray, List.getElem_cons_zero, List.getElem_cons_succ, List.setIfInBounds_toArray, List.set_cons_zero, List.set_cons_succ, h3] at hK ⊢
            have hW : Fr [] wr w' := (Fr.refl [] wr).drew.trans hG
            have x0 := (HB.out.keep hW).cell 0
            simp only [itc, List.getElem?_toArray, List.getElem?_cons_succ, List.getElem?_cons_zero] at x0
            refine Eq.mpr (if_pos (by rfl)) ?_
            go_simp
            refine hK.out _ _ (Fr.refl _ _) hG ?_
            show _ = _
            rfl
          · intro vs w' hG hd K hK
            obtain ⟨h4, -⟩ := hd
            replace h4 : vs 4 = _ := h4
            simp only [canonD, Act.put, List.getElem_toArray, List.getElem_cons_zero, List.getElem_cons_succ, List.setIfInBounds_toArray, List.set_cons_zero, List.set_cons_succ, h4] at hK ⊢
            refine Eq.mpr (if_pos (by rfl)) ?_
            go_simp
            refine hK.out _ _ (Fr.refl _ _) hG ?_
            show _ = _
            first | rfl | exact congrArg (Value.int .u8) (ib_wrap _)
          · intro vs w' hG hd K hK
            obtain ⟨h2, h5, -⟩ := hd
            replace h2 : vs 2 = _ := h2
            replace h5 : vs 5 = _ := h5
            simp only [canonD, Act.put, List.getElem_toArray, List.getElem_cons_zero, List.getElem_cons_succ, List.setIfInBounds_toArray, List.set_cons_zero, List.set_cons_succ, h2, h5] at hK ⊢
            refine Eq.mpr (if_pos (by rfl)) ?_
            go_simp
            exact hK.out _ _ ((Fr.refl _ _).alloc _) (hG.trans ((Fr.refl _ _).alloc _)) (bytes2_made _ _ _ _)
          · intro vs w' hG hd K hK
            clear hd
            simp only [canonD, Act.put, List.getElem_toArray, List.getElem_cons_zero, List.getElem_cons_succ, List.setIfInBounds_toArray, List.set_cons_zero, List.set_cons_succ] at hK ⊢
            refine Eq.mpr (if_pos (by rfl)) ?_
            go_simp
            refine hK.out _ _ (Fr.refl _ _) hG ?_
            show _ = _
            rfl
          · intro vs w' hG hd K hK
            obtain ⟨h7, -⟩ := hd
            replace h7 : vs 7 = _ := h7
            simp only [canonD, Act.put, List.getElem_toArray, List.getElem_cons_zero, List.getElem_cons_succ, List.setIfInBounds_toArray, List.set_cons_zero, List.set_cons_succ, h7] at hK ⊢
            refine Eq.mpr (if_pos (by rfl)) ?_
            go_simp
            refine hK.out _ _ (Fr.refl _ _) hG ?_
            show _ = _
            rfl
          · intro vs w' hG hd K hK
            obtain ⟨h8, -⟩ := hd
            replace h8 : vs 8 = _ := h8
            simp only [canonD, Act.put, List.getElem_toArray, List.getElem_cons_zero, List.getElem_cons_succ, List.setIfInBounds_toArray, List.set_cons_zero, List.set_cons_succ, h8] at hK ⊢
            have hb1 := HBD.out
            have e4 : IntKind.i64.wrap ((bl : Int) / 4) = ((bl : Int) / 4) := IntWalk.i64_in _ (by omega)
            refine Eq.mpr (if_pos (by rfl)) ?_
            go_simp
            refine hK.out _ _ (Fr.refl _ _) hG ?_
            show _ = _
            first | rfl | (simp; done) | (simp; omega)
          · intro vs w' hG hd K hK
            obtain ⟨h9, -⟩ := hd
            replace h9 : vs 9 = _ := h9
            simp only [canonD, Act.put, List.getElem_toArray, List.getElem_cons_zero, List.getElem_cons_succ, List.setIfInBounds_toArray, List.set_cons_zero, List.set_cons_succ, h9] at hK ⊢
            have hb1 := HBD.out
            have e4 : IntKind.u64.wrap ((bl : Int) / 4) = ((bl : Int) / 4) := by have := wrap_u64_nat (bl / 4) (by omega); simpa using this
            refine Eq.mpr (if_pos (by rfl)) ?_
            go_simp
            refine hK.out _ _ (Fr.refl _ _) hG ?_
            show _ = _
            first | rfl | (simp; done) | (simp; omega)
          · intro vs w' hG hd K hK
            obtain ⟨h10, -⟩ := hd
            replace h10 : vs 10 = _ := h10
            simp only [canonD, Act.put, List.getElem_toArray, List.getElem_cons_zero, List.getElem_cons_succ, List.setIfInBounds_toArray, List.set_cons_zero, List.set_cons_succ, h10] at hK ⊢
            refine Eq.mpr (if_pos (by rfl)) ?_
            go_simp
            have hb1 := HBD.out
            refine (Big_own (bl / 4) 2 (by omega) (by omega)).mono ?_
            rintro e wz ⟨vz, rfl, hO, hF⟩
            go_simp
            exact hK.out _ _ hF (hG.trans hF) hO.bytes
          · intro vs w' hG hd K hK
            clear hd
            simp only [canonD, Act.put, List.getElem_toArray, List.getElem_cons_zero, List.getElem_cons_succ, List.setIfInBounds_toArray, List.set_cons_zero, List.set_cons_succ] at hK ⊢
            refine Eq.mpr (if_pos (by rfl)) ?_
            go_simp
            refine hK.out _ _ (Fr.refl _ _) hG ?_
            show _ = _
            rfl
          · intro vs w' hG hd K hK
            obtain ⟨h6, h11, h12, -⟩ := hd
            replace h6 : Bytes w' (vs 6) [ib ((128 + nr : Nat) : Int), ib x.kind] := h6
            replace h11 : Bytes w' (vs 11) (beN (bl / 4) 2) := h11
            replace h12 : vs 12 = _ := h12
            simp only [canonD, Act.put, List.getElem_toArray, List.getElem_cons_zero, List.getElem_cons_succ, List.setIfInBounds_toArray, List.set_cons_zero, List.set_cons_succ, h12] at hK ⊢
            generalize vs 6 = v6 at *
            generalize vs 11 = v11 at *
            obtain ⟨pa6, pn6, pk6, rfl⟩ := Sl.isSlice h6
            obtain ⟨pa11, pn11, pk11, rfl⟩ := Sl.isSlice h11
            have hW : Fr [] wr w' := (Fr.refl [] wr).drew.trans hG
            refine Eq.mpr (if_pos (by rfl)) ?_
            go_simp
            exact hK.out _ _ ((Fr.refl _ _).alloc _) (hG.trans ((Fr.refl _ _).alloc _)) (brows_made (vs := [_, _, _]) (ls := [[ib ((128 + nr : Nat) : Int), ib x.kind], beN (bl / 4) 2, bodyW x]) _ 3 ⟨h6, h11, Sl.keep HVB.out hW, trivial⟩ rfl (by unfold maxLen; omega))
          · intro vs w' hG hd K hK
            obtain ⟨h13, -⟩ := hd
            replace h13 : BRows w' (vs 13) [[ib ((128 + nr : Nat) : Int), ib x.kind], beN (bl / 4) 2, bodyW x] := h13
            simp only [canonD, Act.put, List.getElem_toArray, List.getElem_cons_zero, List.getElem_cons_succ, List.setIfInBounds_toArray, List.set_cons_zero, List.set_cons_succ] at hK ⊢
            generalize vs 13 = v13 at *
            refine Eq.mpr (if_pos (by rfl)) ?_
            go_simp
            refine (Join_rows h13 (by have := HBD.out; have := HBLN.out; simp only [List.flatten_cons, List.flatten_nil, List.length_append, List.length_nil, List.length_cons, beN_len]; omega) (by simp)).mono ?_
            rintro e wz ⟨vz, rfl, hO, hF⟩
            go_simp
            refine hK.out _ _ hF (hG.trans hF) ?_
            show Bytes wz vz (itemW x)
            unfold itemW
            rw [HN2.out.1, HBLN.out, beN2_mod]
            simpa using hO
          · intro vs w' hG hd K hK
            obtain ⟨h14, -⟩ := hd
            replace h14 : Bytes w' (vs 14) (itemW x) := h14
            simp only [canonD, Act.put, List.getElem_toArray, List.getElem_cons_zero, List.getElem_cons_succ, List.setIfInBounds_toArray, List.set_cons_zero, List.set_cons_succ] at hK ⊢
            generalize vs 14 = v14 at *
            refine Eq.mpr (if_pos (by rfl)) ?_
            go_simp
            exact hK.out _ _ (Fr.refl _ _) hG h14
          intro vs w' hG hP
          obtain ⟨h0, h1, h2, h3, h4, h5, h6, h7, h8, h9, h10, h11, h12, h13, h14, h15, -⟩ := hP
          replace h0 : vs 0 = _ := h0
          replace h1 : vs 1 = _ := h1
          replace h2 : vs 2 = _ := h2
          replace h3 : vs 3 = _ := h3
          replace h4 : vs 4 = _ := h4
          replace h5 : vs 5 = _ := h5
          replace h6 : Bytes w' (vs 6) [ib ((128 + nr : Nat) : Int), ib x.kind] := h6
          replace h7 : vs 7 = _ := h7
          replace h8 : vs 8 = _ := h8
          replace h9 : vs 9 = _ := h9
          replace h10 : vs 10 = _ := h10
          replace h11 : Bytes w' (vs 11) (beN (bl / 4) 2) := h11
          replace h12 : vs 12 = _ := h12
          replace h13 : BRows w' (vs 13) [[ib ((128 + nr : Nat) : Int), ib x.kind], beN (bl / 4) 2, bodyW x] := h13
          replace h14 : Bytes w' (vs 14) (itemW x) := h14
          replace h15 : Bytes w' (vs 15) (itemW x) := h15
          simp only [canonD, Act.put, List.getElem_toArray, List.getElem_cons_zero, List.getElem_cons_succ, List.setIfInBounds_toArray, List.set_cons_zero, List.set_cons_succ, h0, h1, h2, h3, h4, h5, h7, h8, h9, h10, h12]
          generalize vs 6 = v6 at *
          generalize vs 11 = v11 at *
          generalize vs 13 = v13 at *
          generalize vs 14 = v14 at *
          generalize vs 15 = v15 at *
          clear h0 h1 h2 h3 h4 h5 h7 h8 h9 h10 h12
          have hF := (Fr.refl [] wr).drew.trans hG
          have HQ := Lib.hid h15
          have HF := Lib.hid (HF.out.trans hF)
          clear h6 h11 h13 h14 h15 hG hF
          go_wp2_with fail
          go_ret
          exact ⟨_, rfl, HQ.out, HF.out⟩
end Go.Proofs.Ytcmpjkopdjncdaa
