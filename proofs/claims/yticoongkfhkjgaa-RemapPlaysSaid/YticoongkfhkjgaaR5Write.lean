/- The walks of confluxref05.Size and of Write's good way (printed by gen_r5write.py). -/
import Derived.Test.YticoongkfhkjgaaRtpWrite2
import Derived.Test.YticoongkfhkjgaaBrows
import Derived.Test.YticoongkfhkjgaaCutPlain
import Derived.Test.YticoongkfhkjgaaBackPlain
namespace Go.Proofs.Yticoongkfhkjgaa
open Go.RowKit

set_option maxHeartbeats 400000 in
theorem R5Size_any {w : World} {base : Nat} {v : Value} {p : Pkt} (hV : PktV w base v p) (hS : p.Small) :
    Calls Try.prog 114 #[v] w fun e w' => e = .returned (.int .i64 p.size) ∧ Fr [] w w' := by
  obtain ⟨a1, c1, a2, c2, a3, c3, a4, c4, rfl, -, -, -, -⟩ := hV.open_
  obtain ⟨h1, h2, h3, h4⟩ := hS
  unfold pc Pkt.size
  have hF := Lib.hid ((Fr.refl [] w).alloc (.cells (pc p.marker p.pt p.seq.toNat p.ts.toNat p.ssrc.toNat (.slice a1 p.csrc.length c1) p.hasExt p.profile.toNat (.slice a2 p.ext.length c2) (.slice a3 p.payload.length c3) (.slice a4 p.pad.length c4)) 67))
  clear hV
  generalize p.csrc.length = n1 at *
  generalize p.ext.length = n2 at *
  generalize p.payload.length = n3 at *
  generalize p.pad.length = n4 at *
  cases hx : p.hasExt
  all_goals
    rw [hx] at hF
    clear hx
    go_enter Try.func114, Try.ntmps114
    go_wp2
    go_ret
    refine ⟨ret_int ?_, hF.out⟩
    first | (simp; done) | omega | (simp; omega)

theorem words4_snoc (l : List UInt32) (j : Nat) (h : j < l.length) : words4 (l.take (j + 1)) = words4 (l.take j) ++ beN l[j].toNat 4 := by
  rw [List.take_succ_eq_append_getElem h]
  unfold words4
  rw [List.flatMap_append, List.flatMap_cons, List.flatMap_nil, List.append_nil]
set_option maxRecDepth 100000 in
set_option maxHeartbeats 8000000 in
theorem R5Write_ok {w : World} {base : Nat} {v : Value} {p : Pkt} (hV : PktV w base v p) (hS : p.Small) (hwr : p.wrong = 0) :
    Calls Try.prog 92 #[v] w fun e w' => ∃ v', e = .returned (.tuple #[v', .int .i64 0]) ∧ OwnB w' w.heap.size v' p.bytes ∧ Fr [] w w' := by
  have HV0 := Lib.hid hV; have HS := Lib.hid hS
  have hfit := Pkt.fit hwr
  have HFIT := Lib.hid hfit
  obtain ⟨a1, c1, a2, c2, a3, c3, a4, c4, rfl, hcs, hex, hpl, hpd⟩ := hV.open_
  obtain ⟨w1, e1, hF1, hB1, hs1⟩ := one_new w (pc p.marker p.pt p.seq.toNat p.ts.toNat p.ssrc.toNat (.slice a1 p.csrc.length c1) p.hasExt p.profile.toNat (.slice a2 p.ext.length c2) (.slice a3 p.payload.length c3) (.slice a4 p.pad.length c4)) 67
  have HF := Lib.hid hF1; have HB := Lib.hid hB1; have HV := Lib.hid (HV0.out.keep hF1)
  have HCS := Lib.hid (Sl.keep hcs hF1); have HEX := Lib.hid (Sl.keep hex hF1); have HPL := Lib.hid (Sl.keep hpl hF1); have HPD := Lib.hid (Sl.keep hpd hF1)
  have E1 := Lib.hid e1
  clear hV hS hF1 hB1 hs1 e1 HV0 hcs hex hpl hpd
  go_enter Try.func92, Try.ntmps92
  go_upto_region 1 with (fail)
  rw [E1.out]
  clear E1
  generalize hHW : w.heap.size = W at *
  have HHW := Lib.hid hHW
  clear hHW
  obtain ⟨x0, x1, x2, x3, x4, x5, x6, x7, x8, x9, x10⟩ := HB.out.pcells
  have f1 := hfit.pt0; have f2 := hfit.pt1
  have hex1 := hfit.ext
  unfold Pkt.extOk at hex1
  have hpo := hfit.pad
  unfold padOk at hpo
  simp at hpo
  have f3 := hfit.csrc
  have f4 : p.pad.length ≤ 255 := by
    rcases hpo with h | h
    · rw [h]; simp
    · omega
  clear hfit
  have g3 : ¬ (255 : Int) < (p.pad.length : Nat) := by omega
  have t0 : decide (p.pt < 0) = false := by simp; omega
  have t1 : decide (127 < p.pt) = false := by simp; omega
  go_cut [50] (fun s wx => s = .bool false ∧ w1 = wx)
  case first =>
    by_cases he : p.hasExt = true
    · rw [he] at hex1 x6
      simp at hex1
      have g1 : ((p.ext.length : Nat) : Int).tmod 4 = 0 := by rw [Int.tmod_eq_emod_of_nonneg (by omega)]; omega
      have g2 : ¬ (262140 : Int) < (p.ext.length : Nat) := by omega
      clear he
      go_wp2_with fail
      go_meet
      exact ⟨rfl, rfl⟩
    · rw [Bool.not_eq_true] at he
      rw [he] at hex1 x6
      simp at hex1
      obtain ⟨k1, k2⟩ := hex1
      have g1 : p.profile.toNat = 0 := by rw [k1]; rfl
      have g2 : p.ext.length = 0 := by rw [k2]; rfl
      clear he k1 k2
      have x7' := x7
      rw [g1] at x7'
      have g4 : ((p.ext.length : Nat) : Int).tmod 4 = 0 := by rw [g2]; rfl
      have g5 : ¬ (262140 : Int) < (p.ext.length : Nat) := by omega
      have g6 : decide ((0 : Int) < (p.ext.length : Nat)) = false := by rw [decide_eq_false_iff_not]; omega
      have g7 : decide (0 < p.ext.length) = false := by rw [decide_eq_false_iff_not]; omega
      clear g1 g2 x7
      go_wp2_with fail
      go_meet
      exact ⟨rfl, rfl⟩
  case rest =>
    obtain ⟨rfl, ew⟩ := hcut
    subst ew
    clear t0 t1 x0 x1 x2 x3 x4 x5 x6 x7 x8 x9 x10 hex1
    go_upto_region 3 with fail
    go_cut [69] (fun s wx => s = .bool false ∧ Fr [] w1 wx)
    case first =>
      by_cases hpe : p.pad.length = 0
      · have hd : decide (0 < p.pad.length) = false := by rw [hpe]; rfl
        have HD := Lib.hid hd
        clear hpe hpo hd
        refine wp_region_rules (fun w' => Fr [] w1.drew w') (Fr []) [isV ?p1x0, isV ?p1x1, isV ?p1x2, isV (.bool false), isV ?p1x4, isV undef, isV undef, isV undef, isV undef, isV undef, isV undef, isV undef, isV undef, isV undef, isV undef, isV undef, isV undef, isV undef, isV ?p1x18] [[], [(0, 51)], [(1, 52)], [(2, 53)], [(3, 54)], [(4, 55)], [(4, 55), (5, 56)], [(4, 55)], [(4, 55), (7, 58)], [(4, 55), (8, 59)], [(4, 55), (9, 60)], [(4, 55), (6, 57), (10, 61)], [(4, 55), (11, 62)], [(4, 55), (12, 63)], [(4, 55)], [(4, 55), (14, 65)], [(4, 55), (15, 66)], [(4, 55), (13, 64), (16, 67)], [(4, 55), (17, 68)]] 157 [0, 1, 2, 3, 4, 5, 6, 7, 8, 9, 10, 11, 12, 13, 14, 15, 16, 17, 18] [(0, 51), (1, 52), (2, 53), (3, 54), (4, 55), (5, 56), (6, 57), (7, 58), (8, 59), (9, 60), (10, 61), (11, 62), (12, 63), (13, 64), (14, 65), (15, 66), (16, 67), (17, 68), (18, 69)] (by kernel_rfl) (by kernel_rfl) rfl (by kernel_rfl) (by kernel_rfl) (by kernel_rfl) (by kernel_rfl) (by intro c a a' W h hq; cases a; cases a'; cases h; exact hq) (fun w => Fr.refl _ w) (Fr.refl _ _) ⟨isV_stab, isV_stab, isV_stab, isV_stab, isV_stab, isV_stab, isV_stab, isV_stab, isV_stab, isV_stab, isV_stab, isV_stab, isV_stab, isV_stab, isV_stab, isV_stab, isV_stab, isV_stab, isV_stab, trivial⟩ ⟨?_, ?_, ?_, ?_, ?_, ?_, ?_, ?_, ?_, ?_, ?_, ?_, ?_, ?_, ?_, ?_, ?_, ?_, ?_, trivial⟩ ?_
        rotate_left 5
        · intro vs w' hG hd K hK
          clear hd
          simp only [canonD, Act.put, List.getElem_toArray, List.getElem_cons_zero, List.getElem_cons_succ, List.setIfInBounds_toArray, List.set_cons_zero, List.set_cons_succ] at hK ⊢
          refine Eq.mpr (if_pos (by rfl)) ?_
          go_simp
          refine hK.out _ _ (Fr.refl _ _) hG ?_
          show _ = _
          rfl
        · intro vs w' hG hd K hK
          obtain ⟨h0, -⟩ := hd
          replace h0 : vs 0 = _ := h0
          simp only [canonD, Act.put, List.getElem_toArray, List.getElem_cons_zero, List.getElem_cons_succ, List.setIfInBounds_toArray, List.set_cons_zero, List.set_cons_succ, h0] at hK ⊢
          have hW : Fr [] w1 w' := (Fr.refl [] w1).drew.trans hG
          obtain ⟨x0, x1, x2, x3, x4, x5, x6, x7, x8, x9, x10⟩ := (HB.out.keep hW).pcells
          refine Eq.mpr (if_pos (by rfl)) ?_
          go_simp
          refine hK.out _ _ (Fr.refl _ _) hG ?_
          show _ = _
          rfl
        · intro vs w' hG hd K hK
          obtain ⟨h1, -⟩ := hd
          replace h1 : vs 1 = _ := h1
          simp only [canonD, Act.put, List.getElem_toArray, List.getElem_cons_zero, List.getElem_cons_succ, List.setIfInBounds_toArray, List.set_cons_zero, List.set_cons_succ, h1] at hK ⊢
          refine Eq.mpr (if_pos (by rfl)) ?_
          go_simp
          refine hK.out _ _ (Fr.refl _ _) hG ?_
          show _ = _
          rfl
        · intro vs w' hG hd K hK
          obtain ⟨h2, -⟩ := hd
          replace h2 : vs 2 = _ := h2
          simp only [canonD, Act.put, List.getElem_toArray, List.getElem_cons_zero, List.getElem_cons_succ, List.setIfInBounds_toArray, List.set_cons_zero, List.set_cons_succ, h2] at hK ⊢
          refine Eq.mpr (if_pos (by rfl)) ?_
          go_simp
          refine hK.out _ _ (Fr.refl _ _) hG ?_
          show _ = _
          exact congrArg Value.bool (by simpa using HD.out)
        · intro vs w' hG hd K hK
          obtain ⟨h3, -⟩ := hd
          replace h3 : vs 3 = _ := h3
          simp only [canonD, Act.put, List.getElem_toArray, List.getElem_cons_zero, List.getElem_cons_succ, List.setIfInBounds_toArray, List.set_cons_zero, List.set_cons_succ, h3] at hK ⊢
          refine Eq.mpr (if_pos (by rfl)) ?_
          go_simp
          refine hK.out _ _ (Fr.refl _ _) hG ?_
          show _ = _
          rfl
        · intro vs w' hG hd K hK
          obtain ⟨h4, -⟩ := hd
          replace h4 : vs 4 = _ := h4
          simp only [canonD, Act.put, List.getElem_toArray, List.getElem_cons_zero, List.getElem_cons_succ, List.setIfInBounds_toArray, List.set_cons_zero, List.set_cons_succ, h4] at hK ⊢
          refine Eq.mpr (if_neg (fun h => Bool.noConfusion (show false = true from h))) ?_
          rfl
        · intro vs w' hG hd K hK
          obtain ⟨h4, h5, -⟩ := hd
          replace h4 : vs 4 = _ := h4
          replace h5 : vs 5 = _ := h5
          simp only [canonD, Act.put, List.getElem_toArray, List.getElem_cons_zero, List.getElem_cons_succ, List.setIfInBounds_toArray, List.set_cons_zero, List.set_cons_succ, h4, h5] at hK ⊢
          refine Eq.mpr (if_neg (fun h => Bool.noConfusion (show false = true from h))) ?_
          rfl
        · intro vs w' hG hd K hK
          obtain ⟨h4, -⟩ := hd
          replace h4 : vs 4 = _ := h4
          simp only [canonD, Act.put, List.getElem_toArray, List.getElem_cons_zero, List.getElem_cons_succ, List.setIfInBounds_toArray, List.set_cons_zero, List.set_cons_succ, h4] at hK ⊢
          refine Eq.mpr (if_neg (fun h => Bool.noConfusion (show false = true from h))) ?_
          rfl
        · intro vs w' hG hd K hK
          obtain ⟨h4, h7, -⟩ := hd
          replace h4 : vs 4 = _ := h4
          replace h7 : vs 7 = _ := h7
          simp only [canonD, Act.put, List.getElem_toArray, List.getElem_cons_zero, List.getElem_cons_succ, List.setIfInBounds_toArray, List.set_cons_zero, List.set_cons_succ, h4, h7] at hK ⊢
          refine Eq.mpr (if_neg (fun h => Bool.noConfusion (show false = true from h))) ?_
          rfl
        · intro vs w' hG hd K hK
          obtain ⟨h4, h8, -⟩ := hd
          replace h4 : vs 4 = _ := h4
          replace h8 : vs 8 = _ := h8
          simp only [canonD, Act.put, List.getElem_toArray, List.getElem_cons_zero, List.getElem_cons_succ, List.setIfInBounds_toArray, List.set_cons_zero, List.set_cons_succ, h4, h8] at hK ⊢
          refine Eq.mpr (if_neg (fun h => Bool.noConfusion (show false = true from h))) ?_
          rfl
        · intro vs w' hG hd K hK
          obtain ⟨h4, h9, -⟩ := hd
          replace h4 : vs 4 = _ := h4
          replace h9 : vs 9 = _ := h9
          simp only [canonD, Act.put, List.getElem_toArray, List.getElem_cons_zero, List.getElem_cons_succ, List.setIfInBounds_toArray, List.set_cons_zero, List.set_cons_succ, h4, h9] at hK ⊢
          refine Eq.mpr (if_neg (fun h => Bool.noConfusion (show false = true from h))) ?_
          rfl
        · intro vs w' hG hd K hK
          obtain ⟨h4, h6, h10, -⟩ := hd
          replace h4 : vs 4 = _ := h4
          replace h6 : vs 6 = _ := h6
          replace h10 : vs 10 = _ := h10
          simp only [canonD, Act.put, List.getElem_toArray, List.getElem_cons_zero, List.getElem_cons_succ, List.setIfInBounds_toArray, List.set_cons_zero, List.set_cons_succ, h4, h6, h10] at hK ⊢
          refine Eq.mpr (if_neg (fun h => Bool.noConfusion (show false = true from h))) ?_
          rfl
        · intro vs w' hG hd K hK
          obtain ⟨h4, h11, -⟩ := hd
          replace h4 : vs 4 = _ := h4
          replace h11 : vs 11 = _ := h11
          simp only [canonD, Act.put, List.getElem_toArray, List.getElem_cons_zero, List.getElem_cons_succ, List.setIfInBounds_toArray, List.set_cons_zero, List.set_cons_succ, h4, h11] at hK ⊢
          refine Eq.mpr (if_neg (fun h => Bool.noConfusion (show false = true from h))) ?_
          rfl
        · intro vs w' hG hd K hK
          obtain ⟨h4, h12, -⟩ := hd
          replace h4 : vs 4 = _ := h4
          replace h12 : vs 12 = _ := h12
          simp only [canonD, Act.put, List.getElem_toArray, List.getElem_cons_zero, List.getElem_cons_succ, List.setIfInBounds_toArray, List.set_cons_zero, List.set_cons_succ, h4, h12] at hK ⊢
          refine Eq.mpr (if_neg (fun h => Bool.noConfusion (show false = true from h))) ?_
          rfl
        · intro vs w' hG hd K hK
          obtain ⟨h4, -⟩ := hd
          replace h4 : vs 4 = _ := h4
          simp only [canonD, Act.put, List.getElem_toArray, List.getElem_cons_zero, List.getElem_cons_succ, List.setIfInBounds_toArray, List.set_cons_zero, List.set_cons_succ, h4] at hK ⊢
          refine Eq.mpr (if_neg (fun h => Bool.noConfusion (show false = true from h))) ?_
          rfl
        · intro vs w' hG hd K hK
          obtain ⟨h4, h14, -⟩ := hd
          replace h4 : vs 4 = _ := h4
          replace h14 : vs 14 = _ := h14
          simp only [canonD, Act.put, List.getElem_toArray, List.getElem_cons_zero, List.getElem_cons_succ, List.setIfInBounds_toArray, List.set_cons_zero, List.set_cons_succ, h4, h14] at hK ⊢
          refine Eq.mpr (if_neg (fun h => Bool.noConfusion (show false = true from h))) ?_
          rfl
        · intro vs w' hG hd K hK
          obtain ⟨h4, h15, -⟩ := hd
          replace h4 : vs 4 = _ := h4
          replace h15 : vs 15 = _ := h15
          simp only [canonD, Act.put, List.getElem_toArray, List.getElem_cons_zero, List.getElem_cons_succ, List.setIfInBounds_toArray, List.set_cons_zero, List.set_cons_succ, h4, h15] at hK ⊢
          refine Eq.mpr (if_neg (fun h => Bool.noConfusion (show false = true from h))) ?_
          rfl
        · intro vs w' hG hd K hK
          obtain ⟨h4, h13, h16, -⟩ := hd
          replace h4 : vs 4 = _ := h4
          replace h13 : vs 13 = _ := h13
          replace h16 : vs 16 = _ := h16
          simp only [canonD, Act.put, List.getElem_toArray, List.getElem_cons_zero, List.getElem_cons_succ, List.setIfInBounds_toArray, List.set_cons_zero, List.set_cons_succ, h4, h13, h16] at hK ⊢
          refine Eq.mpr (if_neg (fun h => Bool.noConfusion (show false = true from h))) ?_
          rfl
        · intro vs w' hG hd K hK
          obtain ⟨h4, h17, -⟩ := hd
          replace h4 : vs 4 = _ := h4
          replace h17 : vs 17 = _ := h17
          simp only [canonD, Act.put, List.getElem_toArray, List.getElem_cons_zero, List.getElem_cons_succ, List.setIfInBounds_toArray, List.set_cons_zero, List.set_cons_succ, h4, h17] at hK ⊢
          refine Eq.mpr (if_pos (by rfl)) ?_
          go_simp
          refine hK.out _ _ (Fr.refl _ _) hG ?_
          show _ = _
          rfl
        intro vs w' hG hP
        obtain ⟨h0, h1, h2, h3, h4, h5, h6, h7, h8, h9, h10, h11, h12, h13, h14, h15, h16, h17, h18, -⟩ := hP
        replace h0 : vs 0 = _ := h0
        replace h1 : vs 1 = _ := h1
        replace h2 : vs 2 = _ := h2
        replace h3 : vs 3 = _ := h3
        replace h4 : vs 4 = _ := h4
        replace h5 : vs 5 = _ := h5
        replace h6 : vs 6 = _ := h6
        replace h7 : vs 7 = _ := h7
        replace h8 : vs 8 = _ := h8
        replace h9 : vs 9 = _ := h9
        replace h10 : vs 10 = _ := h10
        replace h11 : vs 11 = _ := h11
        replace h12 : vs 12 = _ := h12
        replace h13 : vs 13 = _ := h13
        replace h14 : vs 14 = _ := h14
        replace h15 : vs 15 = _ := h15
        replace h16 : vs 16 = _ := h16
        replace h17 : vs 17 = _ := h17
        replace h18 : vs 18 = _ := h18
        simp only [canonD, Act.put, List.getElem_toArray, List.getElem_cons_zero, List.getElem_cons_succ, List.setIfInBounds_toArray, List.set_cons_zero, List.set_cons_succ, h0, h1, h2, h3, h4, h5, h6, h7, h8, h9, h10, h11, h12, h13, h14, h15, h16, h17, h18]
        clear h0 h1 h2 h3 h4 h5 h6 h7 h8 h9 h10 h11 h12 h13 h14 h15 h16 h17 h18
        have hW : Fr [] w1 w' := (Fr.refl [] w1).drew.trans hG
        go_wp2_with fail
        go_meet
        exact ⟨rfl, hW⟩
      · have hd : decide (0 < p.pad.length) = true := by simp; omega
        have HD := Lib.hid hd
        have hlt : p.pad.length - 1 < p.pad.length := by omega
        have hN : (p.pad[p.pad.length - 1]).toNat = p.pad.length := by
          rcases hpo with h | h
          · exact absurd (by rw [h]; rfl) hpe
          · have := h.2
            unfold padN at this
            rw [List.getLast?_eq_getElem?, List.getElem?_eq_getElem hlt] at this
            simpa using this
        have HN := Lib.hid hN
        have hw1 : IntKind.i64.wrap ((p.pad.length : Int) - 1) = ((p.pad.length - 1 : Nat) : Int) := by rw [IntWalk.i64_in _ (by omega)]; omega
        have HW1 := Lib.hid hw1
        clear hpo hd hw1 hN
        obtain ⟨pb, po, rfl, -, hcp⟩ := Sl.at_ HPD.out (k := p.pad.length - 1) (by omega)
        have HCP : Hid (w1.cell? ⟨pb, po + (p.pad.length - 1), none⟩ = some (.int .u8 (p.pad.length : Nat))) := Lib.hid (by
          have := hcp (p.pad.length - 1) (B8 p.pad[p.pad.length - 1]) (by rw [List.getElem?_map, List.getElem?_eq_getElem hlt]; rfl)
          unfold B8 at this
          rw [HN.out] at this
          exact this)
        clear hcp
        refine wp_region_rules (fun w' => Fr [] w1.drew w') (Fr []) [isV ?p2x0, isV ?p2x1, isV ?p2x2, isV (.bool true), isV ?p2x4, isV ?p2x5, isV ?p2x6, isV ?p2x7, isV ?p2x8, isV ?p2x9, isV (.int .i64 ((p.pad.length - 1 : Nat) : Int)), isV ?p2x11, isV (.int .u8 (p.pad.length : Nat)), isV (.int .i64 (p.pad.length : Nat)), isV ?p2x14, isV ?p2x15, isV ?p2x16, isV (.bool false), isV ?p2x18] [[], [(0, 51)], [(1, 52)], [(2, 53)], [(3, 54)], [(4, 55)], [(4, 55), (5, 56)], [(4, 55)], [(4, 55), (7, 58)], [(4, 55), (8, 59)], [(4, 55), (9, 60)], [(4, 55), (6, 57), (10, 61)], [(4, 55), (11, 62)], [(4, 55), (12, 63)], [(4, 55)], [(4, 55), (14, 65)], [(4, 55), (15, 66)], [(4, 55), (13, 64), (16, 67)], [(4, 55), (17, 68)]] 157 [0, 1, 2, 3, 4, 5, 6, 7, 8, 9, 10, 11, 12, 13, 14, 15, 16, 17, 18] [(0, 51), (1, 52), (2, 53), (3, 54), (4, 55), (5, 56), (6, 57), (7, 58), (8, 59), (9, 60), (10, 61), (11, 62), (12, 63), (13, 64), (14, 65), (15, 66), (16, 67), (17, 68), (18, 69)] (by kernel_rfl) (by kernel_rfl) rfl (by kernel_rfl) (by kernel_rfl) (by kernel_rfl) (by kernel_rfl) (by intro c a a' W h hq; cases a; cases a'; cases h; exact hq) (fun w => Fr.refl _ w) (Fr.refl _ _) ⟨isV_stab, isV_stab, isV_stab, isV_stab, isV_stab, isV_stab, isV_stab, isV_stab, isV_stab, isV_stab, isV_stab, isV_stab, isV_stab, isV_stab, isV_stab, isV_stab, isV_stab, isV_stab, isV_stab, trivial⟩ ⟨?_, ?_, ?_, ?_, ?_, ?_, ?_, ?_, ?_, ?_, ?_, ?_, ?_, ?_, ?_, ?_, ?_, ?_, ?_, trivial⟩ ?_
        rotate_left 14
        · intro vs w' hG hd K hK
          clear hd
          simp only [canonD, Act.put, List.getElem_toArray, List.getElem_cons_zero, List.getElem_cons_succ, List.setIfInBounds_toArray, List.set_cons_zero, List.set_cons_succ] at hK ⊢
          refine Eq.mpr (if_pos (by rfl)) ?_
          go_simp
          refine hK.out _ _ (Fr.refl _ _) hG ?_
          show _ = _
          rfl
        · intro vs w' hG hd K hK
          obtain ⟨h0, -⟩ := hd
          replace h0 : vs 0 = _ := h0
          simp only [canonD, Act.put, List.getElem_toArray, List.getElem_cons_zero, List.getElem_cons_succ, List.setIfInBounds_toArray, List.set_cons_zero, List.set_cons_succ, h0] at hK ⊢
          have hW : Fr [] w1 w' := (Fr.refl [] w1).drew.trans hG
          obtain ⟨x0, x1, x2, x3, x4, x5, x6, x7, x8, x9, x10⟩ := (HB.out.keep hW).pcells
          refine Eq.mpr (if_pos (by rfl)) ?_
          go_simp
          refine hK.out _ _ (Fr.refl _ _) hG ?_
          show _ = _
          rfl
        · intro vs w' hG hd K hK
          obtain ⟨h1, -⟩ := hd
          replace h1 : vs 1 = _ := h1
          simp only [canonD, Act.put, List.getElem_toArray, List.getElem_cons_zero, List.getElem_cons_succ, List.setIfInBounds_toArray, List.set_cons_zero, List.set_cons_succ, h1] at hK ⊢
          refine Eq.mpr (if_pos (by rfl)) ?_
          go_simp
          refine hK.out _ _ (Fr.refl _ _) hG ?_
          show _ = _
          rfl
        · intro vs w' hG hd K hK
          obtain ⟨h2, -⟩ := hd
          replace h2 : vs 2 = _ := h2
          simp only [canonD, Act.put, List.getElem_toArray, List.getElem_cons_zero, List.getElem_cons_succ, List.setIfInBounds_toArray, List.set_cons_zero, List.set_cons_succ, h2] at hK ⊢
          refine Eq.mpr (if_pos (by rfl)) ?_
          go_simp
          refine hK.out _ _ (Fr.refl _ _) hG ?_
          show _ = _
          exact congrArg Value.bool (by simpa using HD.out)
        · intro vs w' hG hd K hK
          obtain ⟨h3, -⟩ := hd
          replace h3 : vs 3 = _ := h3
          simp only [canonD, Act.put, List.getElem_toArray, List.getElem_cons_zero, List.getElem_cons_succ, List.setIfInBounds_toArray, List.set_cons_zero, List.set_cons_succ, h3] at hK ⊢
          refine Eq.mpr (if_pos (by rfl)) ?_
          go_simp
          refine hK.out _ _ (Fr.refl _ _) hG ?_
          show _ = _
          rfl
        · intro vs w' hG hd K hK
          obtain ⟨h4, -⟩ := hd
          replace h4 : vs 4 = _ := h4
          simp only [canonD, Act.put, List.getElem_toArray, List.getElem_cons_zero, List.getElem_cons_succ, List.setIfInBounds_toArray, List.set_cons_zero, List.set_cons_succ, h4] at hK ⊢
          refine Eq.mpr (if_pos (by rfl)) ?_
          go_simp
          refine hK.out _ _ (Fr.refl _ _) hG ?_
          show _ = _
          rfl
        · intro vs w' hG hd K hK
          obtain ⟨h4, h5, -⟩ := hd
          replace h4 : vs 4 = _ := h4
          replace h5 : vs 5 = _ := h5
          simp only [canonD, Act.put, List.getElem_toArray, List.getElem_cons_zero, List.getElem_cons_succ, List.setIfInBounds_toArray, List.set_cons_zero, List.set_cons_succ, h4, h5] at hK ⊢
          have hW : Fr [] w1 w' := (Fr.refl [] w1).drew.trans hG
          obtain ⟨x0, x1, x2, x3, x4, x5, x6, x7, x8, x9, x10⟩ := (HB.out.keep hW).pcells
          refine Eq.mpr (if_pos (by rfl)) ?_
          go_simp
          refine hK.out _ _ (Fr.refl _ _) hG ?_
          show _ = _
          rfl
        · intro vs w' hG hd K hK
          obtain ⟨h4, -⟩ := hd
          replace h4 : vs 4 = _ := h4
          simp only [canonD, Act.put, List.getElem_toArray, List.getElem_cons_zero, List.getElem_cons_succ, List.setIfInBounds_toArray, List.set_cons_zero, List.set_cons_succ, h4] at hK ⊢
          refine Eq.mpr (if_pos (by rfl)) ?_
          go_simp
          refine hK.out _ _ (Fr.refl _ _) hG ?_
          show _ = _
          rfl
        · intro vs w' hG hd K hK
          obtain ⟨h4, h7, -⟩ := hd
          replace h4 : vs 4 = _ := h4
          replace h7 : vs 7 = _ := h7
          simp only [canonD, Act.put, List.getElem_toArray, List.getElem_cons_zero, List.getElem_cons_succ, List.setIfInBounds_toArray, List.set_cons_zero, List.set_cons_succ, h4, h7] at hK ⊢
          have hW : Fr [] w1 w' := (Fr.refl [] w1).drew.trans hG
          obtain ⟨x0, x1, x2, x3, x4, x5, x6, x7, x8, x9, x10⟩ := (HB.out.keep hW).pcells
          refine Eq.mpr (if_pos (by rfl)) ?_
          go_simp
          refine hK.out _ _ (Fr.refl _ _) hG ?_
          show _ = _
          rfl
        · intro vs w' hG hd K hK
          obtain ⟨h4, h8, -⟩ := hd
          replace h4 : vs 4 = _ := h4
          replace h8 : vs 8 = _ := h8
          simp only [canonD, Act.put, List.getElem_toArray, List.getElem_cons_zero, List.getElem_cons_succ, List.setIfInBounds_toArray, List.set_cons_zero, List.set_cons_succ, h4, h8] at hK ⊢
          refine Eq.mpr (if_pos (by rfl)) ?_
          go_simp
          refine hK.out _ _ (Fr.refl _ _) hG ?_
          show _ = _
          rfl
        · intro vs w' hG hd K hK
          obtain ⟨h4, h9, -⟩ := hd
          replace h4 : vs 4 = _ := h4
          replace h9 : vs 9 = _ := h9
          simp only [canonD, Act.put, List.getElem_toArray, List.getElem_cons_zero, List.getElem_cons_succ, List.setIfInBounds_toArray, List.set_cons_zero, List.set_cons_succ, h4, h9] at hK ⊢
          have hq := HW1.out
          refine Eq.mpr (if_pos (by rfl)) ?_
          go_simp
          refine hK.out _ _ (Fr.refl _ _) hG ?_
          show _ = _
          first | rfl | exact congrArg (Value.int .i64) (IntWalk.i64_in _ (by omega)) | (simp; exact IntWalk.i64_in _ (by omega))
        · intro vs w' hG hd K hK
          obtain ⟨h4, h6, h10, -⟩ := hd
          replace h4 : vs 4 = _ := h4
          replace h6 : vs 6 = _ := h6
          replace h10 : vs 10 = _ := h10
          simp only [canonD, Act.put, List.getElem_toArray, List.getElem_cons_zero, List.getElem_cons_succ, List.setIfInBounds_toArray, List.set_cons_zero, List.set_cons_succ, h4, h6, h10] at hK ⊢
          refine Eq.mpr (if_pos (by rfl)) ?_
          go_simp
          refine hK.out _ _ (Fr.refl _ _) hG ?_
          show _ = _
          rfl
        · intro vs w' hG hd K hK
          obtain ⟨h4, h11, -⟩ := hd
          replace h4 : vs 4 = _ := h4
          replace h11 : vs 11 = _ := h11
          simp only [canonD, Act.put, List.getElem_toArray, List.getElem_cons_zero, List.getElem_cons_succ, List.setIfInBounds_toArray, List.set_cons_zero, List.set_cons_succ, h4, h11] at hK ⊢
          have hW : Fr [] w1 w' := (Fr.refl [] w1).drew.trans hG
          have hc := hW.cellSome HCP.out (by simp)
          refine Eq.mpr (if_pos (by rfl)) ?_
          go_simp
          refine hK.out _ _ (Fr.refl _ _) hG ?_
          show _ = _
          rfl
        · intro vs w' hG hd K hK
          obtain ⟨h4, h12, -⟩ := hd
          replace h4 : vs 4 = _ := h4
          replace h12 : vs 12 = _ := h12
          simp only [canonD, Act.put, List.getElem_toArray, List.getElem_cons_zero, List.getElem_cons_succ, List.setIfInBounds_toArray, List.set_cons_zero, List.set_cons_succ, h4, h12] at hK ⊢
          refine Eq.mpr (if_pos (by rfl)) ?_
          go_simp
          refine hK.out _ _ (Fr.refl _ _) hG ?_
          show _ = _
          first | rfl | exact congrArg (Value.int .i64) (IntWalk.i64_in _ (by omega)) | (simp; exact IntWalk.i64_in _ (by omega))
        · intro vs w' hG hd K hK
          obtain ⟨h4, -⟩ := hd
          replace h4 : vs 4 = _ := h4
          simp only [canonD, Act.put, List.getElem_toArray, List.getElem_cons_zero, List.getElem_cons_succ, List.setIfInBounds_toArray, List.set_cons_zero, List.set_cons_succ, h4] at hK ⊢
          refine Eq.mpr (if_pos (by rfl)) ?_
          go_simp
          refine hK.out _ _ (Fr.refl _ _) hG ?_
          show _ = _
          rfl
        · intro vs w' hG hd K hK
          obtain ⟨h4, h14, -⟩ := hd
          replace h4 : vs 4 = _ := h4
          replace h14 : vs 14 = _ := h14
          simp only [canonD, Act.put, List.getElem_toArray, List.getElem_cons_zero, List.getElem_cons_succ, List.setIfInBounds_toArray, List.set_cons_zero, List.set_cons_succ, h4, h14] at hK ⊢
          have hW : Fr [] w1 w' := (Fr.refl [] w1).drew.trans hG
          obtain ⟨x0, x1, x2, x3, x4, x5, x6, x7, x8, x9, x10⟩ := (HB.out.keep hW).pcells
          refine Eq.mpr (if_pos (by rfl)) ?_
          go_simp
          refine hK.out _ _ (Fr.refl _ _) hG ?_
          show _ = _
          rfl
        · intro vs w' hG hd K hK
          obtain ⟨h4, h15, -⟩ := hd
          replace h4 : vs 4 = _ := h4
          replace h15 : vs 15 = _ := h15
          simp only [canonD, Act.put, List.getElem_toArray, List.getElem_cons_zero, List.getElem_cons_succ, List.setIfInBounds_toArray, List.set_cons_zero, List.set_cons_succ, h4, h15] at hK ⊢
          refine Eq.mpr (if_pos (by rfl)) ?_
          go_simp
          refine hK.out _ _ (Fr.refl _ _) hG ?_
          show _ = _
          rfl
        · intro vs w' hG hd K hK
          obtain ⟨h4, h13, h16, -⟩ := hd
          replace h4 : vs 4 = _ := h4
          replace h13 : vs 13 = _ := h13
          replace h16 : vs 16 = _ := h16
          simp only [canonD, Act.put, List.getElem_toArray, List.getElem_cons_zero, List.getElem_cons_succ, List.setIfInBounds_toArray, List.set_cons_zero, List.set_cons_succ, h4, h13, h16] at hK ⊢
          refine Eq.mpr (if_pos (by rfl)) ?_
          go_simp
          refine hK.out _ _ (Fr.refl _ _) hG ?_
          show _ = _
          exact congrArg Value.bool (by simp)
        · intro vs w' hG hd K hK
          obtain ⟨h4, h17, -⟩ := hd
          replace h4 : vs 4 = _ := h4
          replace h17 : vs 17 = _ := h17
          simp only [canonD, Act.put, List.getElem_toArray, List.getElem_cons_zero, List.getElem_cons_succ, List.setIfInBounds_toArray, List.set_cons_zero, List.set_cons_succ, h4, h17] at hK ⊢
          refine Eq.mpr (if_pos (by rfl)) ?_
          go_simp
          refine hK.out _ _ (Fr.refl _ _) hG ?_
          show _ = _
          rfl
        intro vs w' hG hP
        obtain ⟨h0, h1, h2, h3, h4, h5, h6, h7, h8, h9, h10, h11, h12, h13, h14, h15, h16, h17, h18, -⟩ := hP
        replace h0 : vs 0 = _ := h0
        replace h1 : vs 1 = _ := h1
        replace h2 : vs 2 = _ := h2
        replace h3 : vs 3 = _ := h3
        replace h4 : vs 4 = _ := h4
        replace h5 : vs 5 = _ := h5
        replace h6 : vs 6 = _ := h6
        replace h7 : vs 7 = _ := h7
        replace h8 : vs 8 = _ := h8
        replace h9 : vs 9 = _ := h9
        replace h10 : vs 10 = _ := h10
        replace h11 : vs 11 = _ := h11
        replace h12 : vs 12 = _ := h12
        replace h13 : vs 13 = _ := h13
        replace h14 : vs 14 = _ := h14
        replace h15 : vs 15 = _ := h15
        replace h16 : vs 16 = _ := h16
        replace h17 : vs 17 = _ := h17
        replace h18 : vs 18 = _ := h18
        simp only [canonD, Act.put, List.getElem_toArray, List.getElem_cons_zero, List.getElem_cons_succ, List.setIfInBounds_toArray, List.set_cons_zero, List.set_cons_succ, h0, h1, h2, h3, h4, h5, h6, h7, h8, h9, h10, h11, h12, h13, h14, h15, h16, h17, h18]
        clear h0 h1 h2 h3 h4 h5 h6 h7 h8 h9 h10 h11 h12 h13 h14 h15 h16 h17 h18
        have hW : Fr [] w1 w' := (Fr.refl [] w1).drew.trans hG
        go_wp2_with fail
        go_meet
        exact ⟨rfl, hW⟩
    case rest =>
      obtain ⟨rfl, hF⟩ := hcut
      have HF := Lib.hid (HF.out.trans hF)
      have HB := Lib.hid (HB.out.keep hF)
      have HV := Lib.hid (HV.out.keep hF)
      have HCS := Lib.hid (Sl.keep HCS.out hF)
      have HEX := Lib.hid (Sl.keep HEX.out hF)
      have HPL := Lib.hid (Sl.keep HPL.out hF)
      have HPD := Lib.hid (Sl.keep HPD.out hF)
      clear hF
      clear g3 hpo
      have hsz : p.size ≤ 1500 := HFIT.out.size
      obtain ⟨x0, x1, x2, x3, x4, x5, x6, x7, x8, x9, x10⟩ := HB.out.pcells
      go_wp2_with (refine wpList_load_row rfl 67 (.tmp 1) rfl W rfl 67 _ _ _ HB.out Try.underlying67 rfl (by kernel_rfl) ?_)
      refine (R5Size_any HV.out HS.out).mono ?_
      rintro e w2 ⟨rfl, hF⟩
      clear x0 x1 x2 x3 x4 x5 x6 x7 x8 x9 x10
      have HF := Lib.hid (HF.out.trans hF)
      have HB := Lib.hid (HB.out.keep hF)
      have HV := Lib.hid (HV.out.keep hF)
      have HCS := Lib.hid (Sl.keep HCS.out hF)
      have HEX := Lib.hid (Sl.keep HEX.out hF)
      have HPL := Lib.hid (Sl.keep HPL.out hF)
      have HPD := Lib.hid (Sl.keep HPD.out hF)
      clear hF
      obtain ⟨x0, x1, x2, x3, x4, x5, x6, x7, x8, x9, x10⟩ := HB.out.pcells
      go_upto_region 9 with (fail)
      go_quiet (fail)
      go_upto_if 86 with fail
      go_cut [4] (fun s wx => s = .int .i64 ((128 + p.csrc.length + (if 0 < p.pad.length then 32 else 0) : Nat) : Int) ∧ Fr [] w2 wx)
      case first =>
        by_cases hpe : 0 < p.pad.length
        all_goals
          go_wp2_with fail
          go_meet
          refine ⟨congrArg (Value.int .i64) ?_, (Fr.refl [] w2).drewN _⟩
          first | rw [if_pos hpe] | rw [if_neg hpe]
          omega
      case rest =>
        obtain ⟨rfl, hF⟩ := hcut
        have HF := Lib.hid (HF.out.trans hF)
        have HB := Lib.hid (HB.out.keep hF)
        have HV := Lib.hid (HV.out.keep hF)
        have HCS := Lib.hid (Sl.keep HCS.out hF)
        have HEX := Lib.hid (Sl.keep HEX.out hF)
        have HPL := Lib.hid (Sl.keep HPL.out hF)
        have HPD := Lib.hid (Sl.keep HPD.out hF)
        clear hF x0 x1 x2 x3 x4 x5 x6 x7 x8 x9 x10
        obtain ⟨x0, x1, x2, x3, x4, x5, x6, x7, x8, x9, x10⟩ := HB.out.pcells
        have f3 := HFIT.out.csrc
        have b1 : 128 + p.csrc.length + (if 0 < p.pad.length then 32 else 0) ≤ 175 := by split <;> omega
        have HFST : Hid (p.first = 128 + p.csrc.length + (if 0 < p.pad.length then 32 else 0) + if p.hasExt then 16 else 0) := Lib.hid rfl
        generalize (128 + p.csrc.length + if 0 < p.pad.length then 32 else 0) = m at *
        go_upto_if 90 with fail
        go_cut [4] (fun s wx => s = .int .i64 (p.first : Nat) ∧ Fr [] wc wx)
        case first =>
          go_wp2_with fail
          all_goals
            go_meet
            rename_i he
            refine ⟨congrArg (Value.int .i64) ?_, Fr.refl _ _⟩
            have hfs := HFST.out
            rw [he] at hfs
            simp at hfs
            omega
        case rest =>
          obtain ⟨rfl, hF⟩ := hcut
          have HF := Lib.hid (HF.out.trans hF)
          have HB := Lib.hid (HB.out.keep hF)
          have HV := Lib.hid (HV.out.keep hF)
          have HCS := Lib.hid (Sl.keep HCS.out hF)
          have HEX := Lib.hid (Sl.keep HEX.out hF)
          have HPL := Lib.hid (Sl.keep HPL.out hF)
          have HPD := Lib.hid (Sl.keep HPD.out hF)
          clear hF b1 HFST x0 x1 x2 x3 x4 x5 x6 x7 x8 x9 x10
          obtain ⟨x0, x1, x2, x3, x4, x5, x6, x7, x8, x9, x10⟩ := HB.out.pcells
          have f1 := HFIT.out.pt0; have f2 := HFIT.out.pt1
          go_upto_if 94 with fail
          go_cut [5] (fun s wy => s = .int .i64 p.second ∧ Fr [] wc wy)
          case first =>
            go_wp2_with fail
            all_goals
              go_meet
              rename_i he
              refine ⟨congrArg (Value.int .i64) ?_, Fr.refl _ _⟩
              unfold Pkt.second
              rw [he]
              simp
          case rest =>
            obtain ⟨rfl, hF⟩ := hcut
            have HF := Lib.hid (HF.out.trans hF)
            have HB := Lib.hid (HB.out.keep hF)
            have HV := Lib.hid (HV.out.keep hF)
            have HCS := Lib.hid (Sl.keep HCS.out hF)
            have HEX := Lib.hid (Sl.keep HEX.out hF)
            have HPL := Lib.hid (Sl.keep HPL.out hF)
            have HPD := Lib.hid (Sl.keep HPD.out hF)
            clear hF x0 x1 x2 x3 x4 x5 x6 x7 x8 x9 x10
            have HB16 : Hid (wc = wc) := Lib.hid rfl
            go_upto_region 16 with fail
            refine wp_region_rules (fun w' => Fr [] wc.drew w') (Fr []) [isV ?p3x0, isV (.int .u8 ((ib (p.first : Nat)).toNat : Nat)), isV ?p3x2, isV (.int .u8 ((ib p.second).toNat : Nat)), fun v w' => Bytes w' v [ib (p.first : Nat), ib p.second], isV ?p3x5, isV ?p3x6, isV (.int .u64 (p.seq.toNat : Nat)), fun v w' => Bytes w' v (beN p.seq.toNat 2), isV ?p3x9, isV ?p3x10, isV (.int .u64 (p.ts.toNat : Nat)), fun v w' => Bytes w' v (beN p.ts.toNat 4), isV ?p3x13, isV ?p3x14, isV (.int .u64 (p.ssrc.toNat : Nat)), fun v w' => Bytes w' v (beN p.ssrc.toNat 4), fun v w' => BRows w' v [[ib (p.first : Nat), ib p.second], beN p.seq.toNat 2, beN p.ts.toNat 4, beN p.ssrc.toNat 4], fun v w' => Bytes w' v p.head, fun v w' => Bytes w' v p.head] [[], [(0, 97)], [], [(2, 99)], [(1, 98), (3, 100)], [], [(5, 102)], [(6, 103)], [(7, 104)], [], [(9, 106)], [(10, 107)], [(11, 108)], [], [(13, 110)], [(14, 111)], [(15, 112)], [(4, 101), (8, 105), (12, 109), (16, 113)], [(17, 114)], [(18, 115)]] 157 [0, 1, 2, 3, 4, 5, 6, 7, 8, 9, 10, 11, 12, 13, 14, 15, 16, 17, 18, 19] [(0, 97), (1, 98), (2, 99), (3, 100), (4, 101), (5, 102), (6, 103), (7, 104), (8, 105), (9, 106), (10, 107), (11, 108), (12, 109), (13, 110), (14, 111), (15, 112), (16, 113), (17, 114), (18, 115), (19, 6)] (by kernel_rfl) (by kernel_rfl) rfl (by kernel_rfl) (by kernel_rfl) (by kernel_rfl) (by kernel_rfl) (by intro c a a' W h hq; cases a; cases a'; cases h; exact hq) (fun w => Fr.refl _ w) (Fr.refl _ _) ⟨isV_stab, isV_stab, isV_stab, isV_stab, fun _ _ _ h1 h2 => Sl.keep h2 h1, isV_stab, isV_stab, isV_stab, fun _ _ _ h1 h2 => Sl.keep h2 h1, isV_stab, isV_stab, isV_stab, fun _ _ _ h1 h2 => Sl.keep h2 h1, isV_stab, isV_stab, isV_stab, fun _ _ _ h1 h2 => Sl.keep h2 h1, fun _ _ _ h1 h2 => h2.keep h1, fun _ _ _ h1 h2 => Sl.keep h2 h1, fun _ _ _ h1 h2 => Sl.keep h2 h1, trivial⟩ ⟨?_, ?_, ?_, ?_, ?_, ?_, ?_, ?_, ?_, ?_, ?_, ?_, ?_, ?_, ?_, ?_, ?_, ?_, ?_, ?_, trivial⟩ ?_
            rotate_left 8
            · intro vs w' hG hd K hK
              clear hd
              simp only [canonD, Act.put, List.getElem_toArray, List.getElem_cons_zero, List.getElem_cons_succ, List.setIfInBounds_toArray, List.set_cons_zero, List.set_cons_succ] at hK ⊢
              refine Eq.mpr (if_pos (by rfl)) ?_
              go_simp
              refine hK.out _ _ (Fr.refl _ _) hG ?_
              show _ = _
              rfl
            · intro vs w' hG hd K hK
              obtain ⟨h0, -⟩ := hd
              replace h0 : vs 0 = _ := h0
              simp only [canonD, Act.put, List.getElem_toArray, List.getElem_cons_zero, List.getElem_cons_succ, List.setIfInBounds_toArray, List.set_cons_zero, List.set_cons_succ, h0] at hK ⊢
              refine Eq.mpr (if_pos (by rfl)) ?_
              go_simp
              refine hK.out _ _ (Fr.refl _ _) hG ?_
              show _ = _
              first | rfl | exact congrArg (Value.int .u8) (ib_wrap _)
            · intro vs w' hG hd K hK
              clear hd
              simp only [canonD, Act.put, List.getElem_toArray, List.getElem_cons_zero, List.getElem_cons_succ, List.setIfInBounds_toArray, List.set_cons_zero, List.set_cons_succ] at hK ⊢
              refine Eq.mpr (if_pos (by rfl)) ?_
              go_simp
              refine hK.out _ _ (Fr.refl _ _) hG ?_
              show _ = _
              rfl
            · intro vs w' hG hd K hK
              obtain ⟨h2, -⟩ := hd
              replace h2 : vs 2 = _ := h2
              simp only [canonD, Act.put, List.getElem_toArray, List.getElem_cons_zero, List.getElem_cons_succ, List.setIfInBounds_toArray, List.set_cons_zero, List.set_cons_succ, h2] at hK ⊢
              refine Eq.mpr (if_pos (by rfl)) ?_
              go_simp
              refine hK.out _ _ (Fr.refl _ _) hG ?_
              show _ = _
              first | rfl | exact congrArg (Value.int .u8) (ib_wrap _)
            · intro vs w' hG hd K hK
              obtain ⟨h1, h3, -⟩ := hd
              replace h1 : vs 1 = _ := h1
              replace h3 : vs 3 = _ := h3
              simp only [canonD, Act.put, List.getElem_toArray, List.getElem_cons_zero, List.getElem_cons_succ, List.setIfInBounds_toArray, List.set_cons_zero, List.set_cons_succ, h1, h3] at hK ⊢
              refine Eq.mpr (if_pos (by rfl)) ?_
              go_simp
              exact hK.out _ _ ((Fr.refl _ _).alloc _) (hG.trans ((Fr.refl _ _).alloc _)) (bytes2_made _ _ _ _)
            · intro vs w' hG hd K hK
              clear hd
              simp only [canonD, Act.put, List.getElem_toArray, List.getElem_cons_zero, List.getElem_cons_succ, List.setIfInBounds_toArray, List.set_cons_zero, List.set_cons_succ] at hK ⊢
              refine Eq.mpr (if_pos (by rfl)) ?_
              go_simp
              refine hK.out _ _ (Fr.refl _ _) hG ?_
              show _ = _
              rfl
            · intro vs w' hG hd K hK
              obtain ⟨h5, -⟩ := hd
              replace h5 : vs 5 = _ := h5
              simp only [canonD, Act.put, List.getElem_toArray, List.getElem_cons_zero, List.getElem_cons_succ, List.setIfInBounds_toArray, List.set_cons_zero, List.set_cons_succ, h5] at hK ⊢
              have hW : Fr [] wc w' := (Fr.refl [] wc).drew.trans hG
              obtain ⟨x0, x1, x2, x3, x4, x5, x6, x7, x8, x9, x10⟩ := (HB.out.keep hW).pcells
              refine Eq.mpr (if_pos (by rfl)) ?_
              go_simp
              refine hK.out _ _ (Fr.refl _ _) hG ?_
              show _ = _
              rfl
            · intro vs w' hG hd K hK
              obtain ⟨h6, -⟩ := hd
              replace h6 : vs 6 = _ := h6
              simp only [canonD, Act.put, List.getElem_toArray, List.getElem_cons_zero, List.getElem_cons_succ, List.setIfInBounds_toArray, List.set_cons_zero, List.set_cons_succ, h6] at hK ⊢
              have hq := p.seq.toNat_lt; have ht := p.ts.toNat_lt; have hs := p.ssrc.toNat_lt
              refine Eq.mpr (if_pos (by rfl)) ?_
              go_simp
              refine hK.out _ _ (Fr.refl _ _) hG ?_
              show _ = _
              first | rfl | exact congrArg (Value.int .u64) (wrap_u64_nat _ (by omega)) | (simp; exact wrap_u64_nat _ (by omega))
            · intro vs w' hG hd K hK
              obtain ⟨h7, -⟩ := hd
              replace h7 : vs 7 = _ := h7
              simp only [canonD, Act.put, List.getElem_toArray, List.getElem_cons_zero, List.getElem_cons_succ, List.setIfInBounds_toArray, List.set_cons_zero, List.set_cons_succ, h7] at hK ⊢
              refine Eq.mpr (if_pos (by rfl)) ?_
              go_simp
              have hq := p.seq.toNat_lt; have ht := p.ts.toNat_lt; have hs := p.ssrc.toNat_lt
              refine (Big_any p.seq.toNat 2 (by omega) (by omega)).mono ?_
              rintro e wz ⟨vz, rfl, hO, hF⟩
              go_simp
              exact hK.out _ _ hF (hG.trans hF) hO
            · intro vs w' hG hd K hK
              clear hd
              simp only [canonD, Act.put, List.getElem_toArray, List.getElem_cons_zero, List.getElem_cons_succ, List.setIfInBounds_toArray, List.set_cons_zero, List.set_cons_succ] at hK ⊢
              refine Eq.mpr (if_pos (by rfl)) ?_
              go_simp
              refine hK.out _ _ (Fr.refl _ _) hG ?_
              show _ = _
              rfl
            · intro vs w' hG hd K hK
              obtain ⟨h9, -⟩ := hd
              replace h9 : vs 9 = _ := h9
              simp only [canonD, Act.put, List.getElem_toArray, List.getElem_cons_zero, List.getElem_cons_succ, List.setIfInBounds_toArray, List.set_cons_zero, List.set_cons_succ, h9] at hK ⊢
              have hW : Fr [] wc w' := (Fr.refl [] wc).drew.trans hG
              obtain ⟨x0, x1, x2, x3, x4, x5, x6, x7, x8, x9, x10⟩ := (HB.out.keep hW).pcells
              refine Eq.mpr (if_pos (by rfl)) ?_
              go_simp
              refine hK.out _ _ (Fr.refl _ _) hG ?_
              show _ = _
              rfl
            · intro vs w' hG hd K hK
              obtain ⟨h10, -⟩ := hd
              replace h10 : vs 10 = _ := h10
              simp only [canonD, Act.put, List.getElem_toArray, List.getElem_cons_zero, List.getElem_cons_succ, List.setIfInBounds_toArray, List.set_cons_zero, List.set_cons_succ, h10] at hK ⊢
              have hq := p.seq.toNat_lt; have ht := p.ts.toNat_lt; have hs := p.ssrc.toNat_lt
              refine Eq.mpr (if_pos (by rfl)) ?_
              go_simp
              refine hK.out _ _ (Fr.refl _ _) hG ?_
              show _ = _
              first | rfl | exact congrArg (Value.int .u64) (wrap_u64_nat _ (by omega)) | (simp; exact wrap_u64_nat _ (by omega))
            · intro vs w' hG hd K hK
              obtain ⟨h11, -⟩ := hd
              replace h11 : vs 11 = _ := h11
              simp only [canonD, Act.put, List.getElem_toArray, List.getElem_cons_zero, List.getElem_cons_succ, List.setIfInBounds_toArray, List.set_cons_zero, List.set_cons_succ, h11] at hK ⊢
              refine Eq.mpr (if_pos (by rfl)) ?_
              go_simp
              have hq := p.seq.toNat_lt; have ht := p.ts.toNat_lt; have hs := p.ssrc.toNat_lt
              refine (Big_any p.ts.toNat 4 (by omega) (by omega)).mono ?_
              rintro e wz ⟨vz, rfl, hO, hF⟩
              go_simp
              exact hK.out _ _ hF (hG.trans hF) hO
            · intro vs w' hG hd K hK
              clear hd
              simp only [canonD, Act.put, List.getElem_toArray, List.getElem_cons_zero, List.getElem_cons_succ, List.setIfInBounds_toArray, List.set_cons_zero, List.set_cons_succ] at hK ⊢
              refine Eq.mpr (if_pos (by rfl)) ?_
              go_simp
              refine hK.out _ _ (Fr.refl _ _) hG ?_
              show _ = _
              rfl
            · intro vs w' hG hd K hK
              obtain ⟨h13, -⟩ := hd
              replace h13 : vs 13 = _ := h13
              simp only [canonD, Act.put, List.getElem_toArray, List.getElem_cons_zero, List.getElem_cons_succ, List.setIfInBounds_toArray, List.set_cons_zero, List.set_cons_succ, h13] at hK ⊢
              have hW : Fr [] wc w' := (Fr.refl [] wc).drew.trans hG
              obtain ⟨x0, x1, x2, x3, x4, x5, x6, x7, x8, x9, x10⟩ := (HB.out.keep hW).pcells
              refine Eq.mpr (if_pos (by rfl)) ?_
              go_simp
              refine hK.out _ _ (Fr.refl _ _) hG ?_
              show _ = _
              rfl
            · intro vs w' hG hd K hK
              obtain ⟨h14, -⟩ := hd
              replace h14 : vs 14 = _ := h14
              simp only [canonD, Act.put, List.getElem_toArray, List.getElem_cons_zero, List.getElem_cons_succ, List.setIfInBounds_toArray, List.set_cons_zero, List.set_cons_succ, h14] at hK ⊢
              have hq := p.seq.toNat_lt; have ht := p.ts.toNat_lt; have hs := p.ssrc.toNat_lt
              refine Eq.mpr (if_pos (by rfl)) ?_
              go_simp
              refine hK.out _ _ (Fr.refl _ _) hG ?_
              show _ = _
              first | rfl | exact congrArg (Value.int .u64) (wrap_u64_nat _ (by omega)) | (simp; exact wrap_u64_nat _ (by omega))
            · intro vs w' hG hd K hK
              obtain ⟨h15, -⟩ := hd
              replace h15 : vs 15 = _ := h15
              simp only [canonD, Act.put, List.getElem_toArray, List.getElem_cons_zero, List.getElem_cons_succ, List.setIfInBounds_toArray, List.set_cons_zero, List.set_cons_succ, h15] at hK ⊢
              refine Eq.mpr (if_pos (by rfl)) ?_
              go_simp
              have hq := p.seq.toNat_lt; have ht := p.ts.toNat_lt; have hs := p.ssrc.toNat_lt
              refine (Big_any p.ssrc.toNat 4 (by omega) (by omega)).mono ?_
              rintro e wz ⟨vz, rfl, hO, hF⟩
              go_simp
              exact hK.out _ _ hF (hG.trans hF) hO
            · intro vs w' hG hd K hK
              obtain ⟨h4, h8, h12, h16, -⟩ := hd
              replace h4 : Bytes w' (vs 4) [ib (p.first : Nat), ib p.second] := h4
              replace h8 : Bytes w' (vs 8) (beN p.seq.toNat 2) := h8
              replace h12 : Bytes w' (vs 12) (beN p.ts.toNat 4) := h12
              replace h16 : Bytes w' (vs 16) (beN p.ssrc.toNat 4) := h16
              simp only [canonD, Act.put, List.getElem_toArray, List.getElem_cons_zero, List.getElem_cons_succ, List.setIfInBounds_toArray, List.set_cons_zero, List.set_cons_succ] at hK ⊢
              generalize vs 4 = v4 at *
              generalize vs 8 = v8 at *
              generalize vs 12 = v12 at *
              generalize vs 16 = v16 at *
              obtain ⟨pa4, pn4, pk4, rfl⟩ := Sl.isSlice h4
              obtain ⟨pa8, pn8, pk8, rfl⟩ := Sl.isSlice h8
              obtain ⟨pa12, pn12, pk12, rfl⟩ := Sl.isSlice h12
              obtain ⟨pa16, pn16, pk16, rfl⟩ := Sl.isSlice h16
              refine Eq.mpr (if_pos (by rfl)) ?_
              go_simp
              exact hK.out _ _ ((Fr.refl _ _).alloc _) (hG.trans ((Fr.refl _ _).alloc _)) (brows_made (vs := [_, _, _, _]) _ 4 ⟨h4, h8, h12, h16, trivial⟩ rfl (by unfold maxLen; omega))
            · intro vs w' hG hd K hK
              obtain ⟨h17, -⟩ := hd
              replace h17 : BRows w' (vs 17) [[ib (p.first : Nat), ib p.second], beN p.seq.toNat 2, beN p.ts.toNat 4, beN p.ssrc.toNat 4] := h17
              simp only [canonD, Act.put, List.getElem_toArray, List.getElem_cons_zero, List.getElem_cons_succ, List.setIfInBounds_toArray, List.set_cons_zero, List.set_cons_succ] at hK ⊢
              generalize vs 17 = v17 at *
              refine Eq.mpr (if_pos (by rfl)) ?_
              go_simp
              refine (Join_rows h17 (by simp [beN_len]) (by simp)).mono ?_
              rintro e wz ⟨vz, rfl, hO, hF⟩
              go_simp
              refine hK.out _ _ hF (hG.trans hF) ?_
              show Bytes wz vz p.head
              unfold Pkt.head
              simpa using hO
            · intro vs w' hG hd K hK
              obtain ⟨h18, -⟩ := hd
              replace h18 : Bytes w' (vs 18) p.head := h18
              simp only [canonD, Act.put, List.getElem_toArray, List.getElem_cons_zero, List.getElem_cons_succ, List.setIfInBounds_toArray, List.set_cons_zero, List.set_cons_succ] at hK ⊢
              generalize vs 18 = v18 at *
              refine Eq.mpr (if_pos (by rfl)) ?_
              go_simp
              exact hK.out _ _ (Fr.refl _ _) hG h18
            intro vs w' hG hP
            obtain ⟨h0, h1, h2, h3, h4, h5, h6, h7, h8, h9, h10, h11, h12, h13, h14, h15, h16, h17, h18, h19, -⟩ := hP
            replace h0 : vs 0 = _ := h0
            replace h1 : vs 1 = _ := h1
            replace h2 : vs 2 = _ := h2
            replace h3 : vs 3 = _ := h3
            replace h4 : Bytes w' (vs 4) [ib (p.first : Nat), ib p.second] := h4
            replace h5 : vs 5 = _ := h5
            replace h6 : vs 6 = _ := h6
            replace h7 : vs 7 = _ := h7
            replace h8 : Bytes w' (vs 8) (beN p.seq.toNat 2) := h8
            replace h9 : vs 9 = _ := h9
            replace h10 : vs 10 = _ := h10
            replace h11 : vs 11 = _ := h11
            replace h12 : Bytes w' (vs 12) (beN p.ts.toNat 4) := h12
            replace h13 : vs 13 = _ := h13
            replace h14 : vs 14 = _ := h14
            replace h15 : vs 15 = _ := h15
            replace h16 : Bytes w' (vs 16) (beN p.ssrc.toNat 4) := h16
            replace h17 : BRows w' (vs 17) [[ib (p.first : Nat), ib p.second], beN p.seq.toNat 2, beN p.ts.toNat 4, beN p.ssrc.toNat 4] := h17
            replace h18 : Bytes w' (vs 18) p.head := h18
            replace h19 : Bytes w' (vs 19) p.head := h19
            simp only [canonD, Act.put, List.getElem_toArray, List.getElem_cons_zero, List.getElem_cons_succ, List.setIfInBounds_toArray, List.set_cons_zero, List.set_cons_succ, h0, h1, h2, h3, h5, h6, h7, h9, h10, h11, h13, h14, h15]
            generalize vs 4 = v4 at *
            generalize vs 8 = v8 at *
            generalize vs 12 = v12 at *
            generalize vs 16 = v16 at *
            generalize vs 17 = v17 at *
            generalize vs 18 = v18 at *
            generalize vs 19 = v19 at *
            clear h0 h1 h2 h3 h5 h6 h7 h9 h10 h11 h13 h14 h15
            have hF := (Fr.refl [] wc).drew.trans hG
            have HF := Lib.hid (HF.out.trans hF)
            have HB := Lib.hid (HB.out.keep hF)
            have HV := Lib.hid (HV.out.keep hF)
            have HCS := Lib.hid (Sl.keep HCS.out hF)
            have HEX := Lib.hid (Sl.keep HEX.out hF)
            have HPL := Lib.hid (Sl.keep HPL.out hF)
            have HPD := Lib.hid (Sl.keep HPD.out hF)
            have HA := Lib.hid h19
            clear hF hG h4 h8 h12 h16 h17 h18 h19
            have HLC : Hid (p.csrc.length ≤ 15) := Lib.hid HFIT.out.csrc
            go_wp2_with fail
            go_loopw [6, 7] (fun acc iv wr => ∃ j : Nat, j ≤ p.csrc.length ∧ iv = .int .i64 j ∧ Bytes wr acc (p.head ++ words4 (p.csrc.take j)) ∧ Box wr W 67 (pc p.marker p.pt p.seq.toNat p.ts.toNat p.ssrc.toNat (.slice a1 p.csrc.length c1) p.hasExt p.profile.toNat (.slice a2 p.ext.length c2) (.slice a3 p.payload.length c3) (.slice a4 p.pad.length c4)) ∧ Words wr (.slice a1 p.csrc.length c1) p.csrc ∧ Bytes wr (.slice a2 p.ext.length c2) p.ext ∧ Bytes wr (.slice a3 p.payload.length c3) p.payload ∧ Bytes wr (.slice a4 p.pad.length c4) p.pad ∧ Fr [] w wr) (fun _ iv _ => p.csrc.length - (intOf iv).toNat)
            case atStart =>
              exact ⟨0, Nat.zero_le _, rfl, by simpa [words4] using HA.out, HB.out, HCS.out, HEX.out, HPL.out, HPD.out, HF.out⟩
            case round =>
              clear HF HB HV HCS HEX HPL HPD HA
              obtain ⟨j, hj, rfl, hA, hB, hCS, hEX, hPL, hPD, hF⟩ := hrel
              have HB := Lib.hid hB; have HCS := Lib.hid hCS; have HEX := Lib.hid hEX; have HPL := Lib.hid hPL; have HPD := Lib.hid hPD; have HF := Lib.hid hF; have HA := Lib.hid hA
              obtain ⟨ha, hn, hc, rfl⟩ := Sl.isSlice hA
              clear hB hCS hEX hPL hPD hF hA
              obtain ⟨x0, x1, x2, x3, x4, x5, x6, x7, x8, x9, x10⟩ := HB.out.pcells
              have hlc := HLC.out
              by_cases hjl : j < p.csrc.length
              · obtain ⟨cb, co, rfl, -, hcc⟩ := Sl.at_ HCS.out hjl
                have d1 := hcc j (W32 p.csrc[j]) (by rw [List.getElem?_map, List.getElem?_eq_getElem hjl]; rfl)
                unfold W32 at d1
                clear hcc
                have hw := p.csrc[j].toNat_lt
                have hwu : IntKind.u64.wrap ((p.csrc[j].toNat : Nat) : Int) = (p.csrc[j].toNat : Nat) := wrap_u64_nat _ (by omega)
                go_wp2_with fail
                refine (Big_any p.csrc[j].toNat 4 (by omega) (by omega)).mono ?_
                rintro e w3 ⟨vb, rfl, hb, hF⟩
                obtain ⟨ba, bn, bk, rfl⟩ := Sl.isSlice hb
                have HVB := Lib.hid hb
                have HF := Lib.hid (HF.out.trans hF)
                have HB := Lib.hid (HB.out.keep hF)
                have HCS := Lib.hid (Sl.keep HCS.out hF)
                have HEX := Lib.hid (Sl.keep HEX.out hF)
                have HPL := Lib.hid (Sl.keep HPL.out hF)
                have HPD := Lib.hid (Sl.keep HPD.out hF)
                have HA := Lib.hid (Sl.keep HA.out hF)
                clear hF hb d1 hwu x0 x1 x2 x3 x4 x5 x6 x7 x8 x9 x10
                go_wp2_with fail
                have hwl := words4_len (p.csrc.take j)
                rw [List.length_take] at hwl
                refine (Join_rows (brows_made (vs := [_, _]) (ls := [p.head ++ words4 (p.csrc.take j), beN p.csrc[j].toNat 4]) _ 2 ⟨HA.out, HVB.out, trivial⟩ rfl (by unfold maxLen; omega)) (by simp [head_len, beN_len]; omega) (by simp)).mono ?_
                rintro e w4 ⟨v4, rfl, hO, hF1⟩
                have hF := ((Fr.refl [] w3).alloc _).trans hF1
                have HF := Lib.hid (HF.out.trans hF)
                have HB := Lib.hid (HB.out.keep hF)
                have HCS := Lib.hid (Sl.keep HCS.out hF)
                have HEX := Lib.hid (Sl.keep HEX.out hF)
                have HPL := Lib.hid (Sl.keep HPL.out hF)
                have HPD := Lib.hid (Sl.keep HPD.out hF)
                have HA' : Hid (Bytes w4 v4 (p.head ++ words4 (p.csrc.take (j + 1)))) := Lib.hid (by rw [words4_snoc _ _ hjl, ← List.append_assoc]; simpa using hO)
                clear hF hF1 hO HA HVB hwl
                go_wp2_with fail
                go_roundw
                case rel => exact ⟨j + 1, by omega, by go_num, HA'.out, HB.out, HCS.out, HEX.out, HPL.out, HPD.out, HF.out⟩
                case measure => simp [intOf]; omega
              · obtain rfl : j = p.csrc.length := by omega
                rw [List.take_length] at HA
                go_upto_if 134 with fail
                go_cut [6] (fun s wx => Bytes wx s (p.head ++ words4 p.csrc ++ p.extBytes) ∧ Fr [] wr wx)
                case first =>
                  go_wp2_with fail
                  · rename_i he
                    have HELN : Hid (p.ext.length ≤ 1500) := Lib.hid (by have := HFIT.out.size; unfold Pkt.size at this; rw [he] at this; simp at this; omega)
                    have HEB : Hid (p.extBytes = beN p.profile.toNat 2 ++ beN (p.ext.length / 4) 2 ++ p.ext) := Lib.hid (by
                      unfold Pkt.extBytes
                      rw [if_pos he, Nat.mod_eq_of_lt (by have := HELN.out; omega)])
                    clear he x0 x1 x2 x3 x4 x5 x6 x7 x8 x9 x10
                    refine wp_region_rules (fun w' => Fr [] wr.drew w') (Fr []) [isV (.slice ha hn hc), isV ?p4x1, isV ?p4x2, isV (.int .u64 (p.profile.toNat : Nat)), fun v w' => Bytes w' v (beN p.profile.toNat 2), isV ?p4x5, isV ?p4x6, isV ?p4x7, isV (.int .i64 ((p.ext.length / 4 : Nat) : Int)), isV (.int .u64 ((p.ext.length / 4 : Nat) : Int)), fun v w' => Bytes w' v (beN (p.ext.length / 4) 2), isV ?p4x11, isV (.slice a2 p.ext.length c2), fun v w' => BRows w' v [p.head ++ words4 p.csrc, beN p.profile.toNat 2, beN (p.ext.length / 4) 2, p.ext], fun v w' => Bytes w' v (p.head ++ words4 p.csrc ++ p.extBytes), fun v w' => Bytes w' v (p.head ++ words4 p.csrc ++ p.extBytes)] [[], [], [(1, 136)], [(2, 137)], [(3, 138)], [], [(5, 140)], [(6, 141)], [(7, 142)], [(8, 143)], [(9, 144)], [], [(11, 146)], [(0, 135), (4, 139), (10, 145), (12, 147)], [(13, 148)], [(14, 149)]] 157 [0, 1, 2, 3, 4, 5, 6, 7, 8, 9, 10, 11, 12, 13, 14, 15] [(0, 135), (1, 136), (2, 137), (3, 138), (4, 139), (5, 140), (6, 141), (7, 142), (8, 143), (9, 144), (10, 145), (11, 146), (12, 147), (13, 148), (14, 149), (15, 6)] (by kernel_rfl) (by kernel_rfl) rfl (by kernel_rfl) (by kernel_rfl) (by kernel_rfl) (by kernel_rfl) (by intro c a a' W h hq; cases a; cases a'; cases h; exact hq) (fun w => Fr.refl _ w) (Fr.refl _ _) ⟨isV_stab, isV_stab, isV_stab, isV_stab, fun _ _ _ h1 h2 => Sl.keep h2 h1, isV_stab, isV_stab, isV_stab, isV_stab, isV_stab, fun _ _ _ h1 h2 => Sl.keep h2 h1, isV_stab, isV_stab, fun _ _ _ h1 h2 => h2.keep h1, fun _ _ _ h1 h2 => Sl.keep h2 h1, fun _ _ _ h1 h2 => Sl.keep h2 h1, trivial⟩ ⟨?_, ?_, ?_, ?_, ?_, ?_, ?_, ?_, ?_, ?_, ?_, ?_, ?_, ?_, ?_, ?_, trivial⟩ ?_
                    rotate_left 6
                    · intro vs w' hG hd K hK
                      clear hd
                      simp only [canonD, Act.put, List.getElem_toArray, List.getElem_cons_zero, List.getElem_cons_succ, List.setIfInBounds_toArray, List.set_cons_zero, List.set_cons_succ] at hK ⊢
                      refine Eq.mpr (if_pos (by rfl)) ?_
                      go_simp
                      refine hK.out _ _ (Fr.refl _ _) hG ?_
                      show _ = _
                      rfl
                    · intro vs w' hG hd K hK
                      clear hd
                      simp only [canonD, Act.put, List.getElem_toArray, List.getElem_cons_zero, List.getElem_cons_succ, List.setIfInBounds_toArray, List.set_cons_zero, List.set_cons_succ] at hK ⊢
                      refine Eq.mpr (if_pos (by rfl)) ?_
                      go_simp
                      refine hK.out _ _ (Fr.refl _ _) hG ?_
                      show _ = _
                      rfl
                    · intro vs w' hG hd K hK
                      obtain ⟨h1, -⟩ := hd
                      replace h1 : vs 1 = _ := h1
                      simp only [canonD, Act.put, List.getElem_toArray, List.getElem_cons_zero, List.getElem_cons_succ, List.setIfInBounds_toArray, List.set_cons_zero, List.set_cons_succ, h1] at hK ⊢
                      have hW : Fr [] wr w' := (Fr.refl [] wr).drew.trans hG
                      obtain ⟨x0, x1, x2, x3, x4, x5, x6, x7, x8, x9, x10⟩ := (HB.out.keep hW).pcells
                      refine Eq.mpr (if_pos (by rfl)) ?_
                      go_simp
                      refine hK.out _ _ (Fr.refl _ _) hG ?_
                      show _ = _
                      rfl
                    · intro vs w' hG hd K hK
                      obtain ⟨h2, -⟩ := hd
                      replace h2 : vs 2 = _ := h2
                      simp only [canonD, Act.put, List.getElem_toArray, List.getElem_cons_zero, List.getElem_cons_succ, List.setIfInBounds_toArray, List.set_cons_zero, List.set_cons_succ, h2] at hK ⊢
                      have hq := p.profile.toNat_lt
                      refine Eq.mpr (if_pos (by rfl)) ?_
                      go_simp
                      refine hK.out _ _ (Fr.refl _ _) hG ?_
                      show _ = _
                      first | rfl | exact congrArg (Value.int .u64) (wrap_u64_nat _ (by omega)) | (simp; exact wrap_u64_nat _ (by omega))
                    · intro vs w' hG hd K hK
                      obtain ⟨h3, -⟩ := hd
                      replace h3 : vs 3 = _ := h3
                      simp only [canonD, Act.put, List.getElem_toArray, List.getElem_cons_zero, List.getElem_cons_succ, List.setIfInBounds_toArray, List.set_cons_zero, List.set_cons_succ, h3] at hK ⊢
                      refine Eq.mpr (if_pos (by rfl)) ?_
                      go_simp
                      have hq := p.profile.toNat_lt
                      refine (Big_any p.profile.toNat 2 (by omega) (by omega)).mono ?_
                      rintro e wz ⟨vz, rfl, hO, hF⟩
                      go_simp
                      exact hK.out _ _ hF (hG.trans hF) hO
                    · intro vs w' hG hd K hK
                      clear hd
                      simp only [canonD, Act.put, List.getElem_toArray, List.getElem_cons_zero, List.getElem_cons_succ, List.setIfInBounds_toArray, List.set_cons_zero, List.set_cons_succ] at hK ⊢
                      refine Eq.mpr (if_pos (by rfl)) ?_
                      go_simp
                      refine hK.out _ _ (Fr.refl _ _) hG ?_
                      show _ = _
                      rfl
                    · intro vs w' hG hd K hK
                      obtain ⟨h5, -⟩ := hd
                      replace h5 : vs 5 = _ := h5
                      simp only [canonD, Act.put, List.getElem_toArray, List.getElem_cons_zero, List.getElem_cons_succ, List.setIfInBounds_toArray, List.set_cons_zero, List.set_cons_succ, h5] at hK ⊢
                      have hW : Fr [] wr w' := (Fr.refl [] wr).drew.trans hG
                      obtain ⟨x0, x1, x2, x3, x4, x5, x6, x7, x8, x9, x10⟩ := (HB.out.keep hW).pcells
                      refine Eq.mpr (if_pos (by rfl)) ?_
                      go_simp
                      refine hK.out _ _ (Fr.refl _ _) hG ?_
                      show _ = _
                      rfl
                    · intro vs w' hG hd K hK
                      obtain ⟨h6, -⟩ := hd
                      replace h6 : vs 6 = _ := h6
                      simp only [canonD, Act.put, List.getElem_toArray, List.getElem_cons_zero, List.getElem_cons_succ, List.setIfInBounds_toArray, List.set_cons_zero, List.set_cons_succ, h6] at hK ⊢
                      refine Eq.mpr (if_pos (by rfl)) ?_
                      go_simp
                      refine hK.out _ _ (Fr.refl _ _) hG ?_
                      show _ = _
                      rfl
                    · intro vs w' hG hd K hK
                      obtain ⟨h7, -⟩ := hd
                      replace h7 : vs 7 = _ := h7
                      simp only [canonD, Act.put, List.getElem_toArray, List.getElem_cons_zero, List.getElem_cons_succ, List.setIfInBounds_toArray, List.set_cons_zero, List.set_cons_succ, h7] at hK ⊢
                      have hel := HELN.out
                      have e4 : IntKind.i64.wrap ((p.ext.length : Int) / 4) = ((p.ext.length : Int) / 4) := IntWalk.i64_in _ (by omega)
                      refine Eq.mpr (if_pos (by rfl)) ?_
                      go_simp
                      refine hK.out _ _ (Fr.refl _ _) hG ?_
                      show _ = _
                      first | rfl | (simp; done) | (simp; omega)
                    · intro vs w' hG hd K hK
                      obtain ⟨h8, -⟩ := hd
                      replace h8 : vs 8 = _ := h8
                      simp only [canonD, Act.put, List.getElem_toArray, List.getElem_cons_zero, List.getElem_cons_succ, List.setIfInBounds_toArray, List.set_cons_zero, List.set_cons_succ, h8] at hK ⊢
                      have hel := HELN.out
                      have e4 : IntKind.u64.wrap ((p.ext.length : Int) / 4) = ((p.ext.length : Int) / 4) := by have := wrap_u64_nat (p.ext.length / 4) (by omega); simpa using this
                      refine Eq.mpr (if_pos (by rfl)) ?_
                      go_simp
                      refine hK.out _ _ (Fr.refl _ _) hG ?_
                      show _ = _
                      first | rfl | (simp; done) | (simp; omega)
                    · intro vs w' hG hd K hK
                      obtain ⟨h9, -⟩ := hd
                      replace h9 : vs 9 = _ := h9
                      simp only [canonD, Act.put, List.getElem_toArray, List.getElem_cons_zero, List.getElem_cons_succ, List.setIfInBounds_toArray, List.set_cons_zero, List.set_cons_succ, h9] at hK ⊢
                      refine Eq.mpr (if_pos (by rfl)) ?_
                      go_simp
                      have hel := HELN.out
                      refine (Big_any (p.ext.length / 4) 2 (by omega) (by omega)).mono ?_
                      rintro e wz ⟨vz, rfl, hO, hF⟩
                      go_simp
                      exact hK.out _ _ hF (hG.trans hF) hO
                    · intro vs w' hG hd K hK
                      clear hd
                      simp only [canonD, Act.put, List.getElem_toArray, List.getElem_cons_zero, List.getElem_cons_succ, List.setIfInBounds_toArray, List.set_cons_zero, List.set_cons_succ] at hK ⊢
                      refine Eq.mpr (if_pos (by rfl)) ?_
                      go_simp
                      refine hK.out _ _ (Fr.refl _ _) hG ?_
                      show _ = _
                      rfl
                    · intro vs w' hG hd K hK
                      obtain ⟨h11, -⟩ := hd
                      replace h11 : vs 11 = _ := h11
                      simp only [canonD, Act.put, List.getElem_toArray, List.getElem_cons_zero, List.getElem_cons_succ, List.setIfInBounds_toArray, List.set_cons_zero, List.set_cons_succ, h11] at hK ⊢
                      have hW : Fr [] wr w' := (Fr.refl [] wr).drew.trans hG
                      obtain ⟨x0, x1, x2, x3, x4, x5, x6, x7, x8, x9, x10⟩ := (HB.out.keep hW).pcells
                      refine Eq.mpr (if_pos (by rfl)) ?_
                      go_simp
                      refine hK.out _ _ (Fr.refl _ _) hG ?_
                      show _ = _
                      rfl
                    · intro vs w' hG hd K hK
                      obtain ⟨h0, h4, h10, h12, -⟩ := hd
                      replace h0 : vs 0 = _ := h0
                      replace h4 : Bytes w' (vs 4) (beN p.profile.toNat 2) := h4
                      replace h10 : Bytes w' (vs 10) (beN (p.ext.length / 4) 2) := h10
                      replace h12 : vs 12 = _ := h12
                      simp only [canonD, Act.put, List.getElem_toArray, List.getElem_cons_zero, List.getElem_cons_succ, List.setIfInBounds_toArray, List.set_cons_zero, List.set_cons_succ, h0, h12] at hK ⊢
                      generalize vs 4 = v4 at *
                      generalize vs 10 = v10 at *
                      have hW : Fr [] wr w' := (Fr.refl [] wr).drew.trans hG
                      obtain ⟨pa4, pn4, pk4, rfl⟩ := Sl.isSlice h4
                      obtain ⟨pa10, pn10, pk10, rfl⟩ := Sl.isSlice h10
                      refine Eq.mpr (if_pos (by rfl)) ?_
                      go_simp
                      exact hK.out _ _ ((Fr.refl _ _).alloc _) (hG.trans ((Fr.refl _ _).alloc _)) (brows_made (vs := [_, _, _, _]) (ls := [p.head ++ words4 p.csrc, beN p.profile.toNat 2, beN (p.ext.length / 4) 2, p.ext]) _ 4 ⟨Sl.keep HA.out hW, h4, h10, Sl.keep HEX.out hW, trivial⟩ rfl (by unfold maxLen; omega))
                    · intro vs w' hG hd K hK
                      obtain ⟨h13, -⟩ := hd
                      replace h13 : BRows w' (vs 13) [p.head ++ words4 p.csrc, beN p.profile.toNat 2, beN (p.ext.length / 4) 2, p.ext] := h13
                      simp only [canonD, Act.put, List.getElem_toArray, List.getElem_cons_zero, List.getElem_cons_succ, List.setIfInBounds_toArray, List.set_cons_zero, List.set_cons_succ] at hK ⊢
                      generalize vs 13 = v13 at *
                      refine Eq.mpr (if_pos (by rfl)) ?_
                      go_simp
                      have hel := HELN.out
                      have hwl := words4_len p.csrc
                      refine (Join_rows h13 (by simp [head_len, beN_len]; omega) (by simp)).mono ?_
                      rintro e wz ⟨vz, rfl, hO, hF⟩
                      go_simp
                      refine hK.out _ _ hF (hG.trans hF) ?_
                      show Bytes wz vz (p.head ++ words4 p.csrc ++ p.extBytes)
                      rw [HEB.out]
                      simpa using hO
                    · intro vs w' hG hd K hK
                      obtain ⟨h14, -⟩ := hd
                      replace h14 : Bytes w' (vs 14) (p.head ++ words4 p.csrc ++ p.extBytes) := h14
                      simp only [canonD, Act.put, List.getElem_toArray, List.getElem_cons_zero, List.getElem_cons_succ, List.setIfInBounds_toArray, List.set_cons_zero, List.set_cons_succ] at hK ⊢
                      generalize vs 14 = v14 at *
                      refine Eq.mpr (if_pos (by rfl)) ?_
                      go_simp
                      exact hK.out _ _ (Fr.refl _ _) hG h14
                    intro vs w' hG hP
                    obtain ⟨h0, h1, h2, h3, h4, h5, h6, h7, h8, h9, h10, h11, h12, h13, h14, h15, -⟩ := hP
                    replace h0 : vs 0 = _ := h0
                    replace h1 : vs 1 = _ := h1
                    replace h2 : vs 2 = _ := h2
                    replace h3 : vs 3 = _ := h3
                    replace h4 : Bytes w' (vs 4) (beN p.profile.toNat 2) := h4
                    replace h5 : vs 5 = _ := h5
                    replace h6 : vs 6 = _ := h6
                    replace h7 : vs 7 = _ := h7
                    replace h8 : vs 8 = _ := h8
                    replace h9 : vs 9 = _ := h9
                    replace h10 : Bytes w' (vs 10) (beN (p.ext.length / 4) 2) := h10
                    replace h11 : vs 11 = _ := h11
                    replace h12 : vs 12 = _ := h12
                    replace h13 : BRows w' (vs 13) [p.head ++ words4 p.csrc, beN p.profile.toNat 2, beN (p.ext.length / 4) 2, p.ext] := h13
                    replace h14 : Bytes w' (vs 14) (p.head ++ words4 p.csrc ++ p.extBytes) := h14
                    replace h15 : Bytes w' (vs 15) (p.head ++ words4 p.csrc ++ p.extBytes) := h15
                    simp only [canonD, Act.put, List.getElem_toArray, List.getElem_cons_zero, List.getElem_cons_succ, List.setIfInBounds_toArray, List.set_cons_zero, List.set_cons_succ, h0, h1, h2, h3, h5, h6, h7, h8, h9, h11, h12]
                    generalize vs 4 = v4 at *
                    generalize vs 10 = v10 at *
                    generalize vs 13 = v13 at *
                    generalize vs 14 = v14 at *
                    generalize vs 15 = v15 at *
                    clear h0 h1 h2 h3 h5 h6 h7 h8 h9 h11 h12
                    have hF := (Fr.refl [] wr).drew.trans hG
                    have HQ := Lib.hid h15
                    clear h4 h10 h13 h14 h15
                    go_wp2_with fail
                    go_meet
                    exact ⟨HQ.out, hF⟩
                  · rename_i he
                    go_meet
                    refine ⟨?_, Fr.refl _ _⟩
                    unfold Pkt.extBytes
                    rw [he]
                    simpa using HA.out
                case rest =>
                  obtain ⟨hA, hF⟩ := hcut
                  have HA := Lib.hid hA
                  obtain ⟨ha, hn, hc, rfl⟩ := Sl.isSlice hA
                  clear hA
                  have HF := Lib.hid (HF.out.trans hF)
                  have HB := Lib.hid (HB.out.keep hF)
                  have HCS := Lib.hid (Sl.keep HCS.out hF)
                  have HEX := Lib.hid (Sl.keep HEX.out hF)
                  have HPL := Lib.hid (Sl.keep HPL.out hF)
                  have HPD := Lib.hid (Sl.keep HPD.out hF)
                  clear hF x0 x1 x2 x3 x4 x5 x6 x7 x8 x9 x10
                  obtain ⟨x0, x1, x2, x3, x4, x5, x6, x7, x8, x9, x10⟩ := HB.out.pcells
                  go_wp2_with fail
                  refine (Join_rowsO (brows_made (vs := [_, _, _]) (ls := [p.head ++ words4 p.csrc ++ p.extBytes, p.payload, p.pad]) _ 3 ⟨HA.out, HPL.out, HPD.out, trivial⟩ rfl (by unfold maxLen; omega)) ?_ (by simp)).mono ?_
                  · have h1 := bytes_len p
                    have h2 := HFIT.out.size
                    have h3 : [p.head ++ words4 p.csrc ++ p.extBytes, p.payload, p.pad].flatten = p.bytes := by simp [Pkt.bytes]
                    rw [h3]
                    omega
                  have HFW : Hid (w.heap.size ≤ wc.heap.size) := Lib.hid HF.out.size
                  rintro e w4 ⟨v4, rfl, hO, hF1⟩
                  have hF := ((Fr.refl [] wc).alloc _).trans hF1
                  have HF := Lib.hid (HF.out.trans hF)
                  have HP : Hid (OwnB w4 w.heap.size v4 p.bytes) := Lib.hid (by have h3 : [p.head ++ words4 p.csrc ++ p.extBytes, p.payload, p.pad].flatten = p.bytes := by simp [Pkt.bytes]
                                                                                rw [h3] at hO; exact hO.mono (by have := HFW.out; simp; omega))
                  clear hF hF1 hO HA
                  go_wp2_with fail
                  go_ret2
                  exact ⟨v4, rfl, HP.out, HF.out⟩
end Go.Proofs.Yticoongkfhkjgaa
