/- The walk of confluxlaw13.ParityParts (printed by gen_parts.py). -/
import Derived.Test.YtchbgiindfoepaaMg33
import Derived.Test.YtchbgiindfoepaaMg30
import Derived.Test.YtchbgiindfoepaaMg23
namespace Go.Proofs.Ytchbgiindfoepaa
open Go.RowKit

theorem rp_one {w : World} {g : Nat} {vb : Value} {r : Rep_} (h : Box w g 58 (rpc r vb)) (hb : Bytes w vb r.bt.body) : SlEls 12 RpR w (.slice (some ⟨g, 0, none⟩) 1 1) [r] (liveOf vb).toList :=
  ⟨(rpc r vb).toList, some ⟨g, 0, none⟩, 1, rfl, by simp, by unfold maxLen; omega, by simp, ⟨(rpc r vb).toList, [], (liveOf vb).toList, [], by simp, by simp, ⟨vb, rfl, hb, rfl⟩, rfl, rfl⟩, fun p hp _ => by
    cases hp
    exact ⟨rfl, h.lt, fun i x hx => box_range h i x hx⟩⟩
theorem one_some {ls : List (List UInt8)} {r : Rep_} (h : mkP ls = .ok r) {i : Nat} (hi : i < ls.length) : ∃ q, mkP [ls[i]] = .ok q ∧ someR ls [(i : Int)] = .ok q := by
  obtain ⟨q, hq⟩ := mkP_sub h (List.singleton_sublist.2 (List.getElem_mem hi)) (by simp)
  refine ⟨q, hq, ?_⟩
  unfold someR
  rw [if_pos ⟨fun x hx => by rw [List.mem_singleton] at hx; subst hx; omega, by simp⟩]
  unfold pick
  rw [List.map_cons, List.map_nil, Int.toNat_natCast, List.getD_eq_getElem?_getD, List.getElem?_eq_getElem hi]
  exact hq
theorem two_block {ls : List (List UInt8)} {qa qb : Rep_} {i j : Int} (h1 : someR ls [i] = .ok qa) (h2 : someR ls [j] = .ok qb) : blockL ls [[i], [j]] [] = .ok [qa, qb] := by
  unfold blockL
  rw [h1]
  show blockL ls [[j]] [qa] = _
  unfold blockL
  rw [h2]
  rfl
theorem take_one {ls : List (List UInt8)} (h : 0 < ls.length) : ls.take 1 = [ls[0]] := by
  cases ls with
  | nil => simp at h
  | cons x l => rfl
theorem drop_last {ls : List (List UInt8)} {n : Nat} (h : n < ls.length) (hn : ls.length - n = 1) : ls.drop n = [ls[n]] := by
  rw [List.drop_eq_getElem_cons h, List.drop_of_length_le (by omega)]
set_option maxRecDepth 100000 in
set_option maxHeartbeats 16000000 in
theorem ParityParts_any {w : World} {v : Value} {ls : List (List UInt8)} (hl : BRows w v ls) (c : Int) :
    Calls Try.prog 7 #[v, .int .i64 c] w fun e w' => e = .returned (.bool true) ∧ Fr [] w w' := by
  obtain ⟨av, cv, rfl⟩ := hl.shape
  have hlen := hl.len
  unfold maxLen at hlen
  have HB := Lib.hid hl; have HF : Hid (Fr [] w w) := Lib.hid (Fr.refl _ _)
  clear hl
  go_enter Try.func7, Try.ntmps7
  go_wp2_with fail
  refine l13alive_any.mono ?_
  rintro e w1 ⟨rfl, hF⟩
  have HF := Lib.hid (HF.out.trans hF)
  have HB := Lib.hid (HB.out.keep hF)
  clear hF
  go_wp2_with fail
  refine (RFew13_any HB.out 48 400 (by omega) (by omega)).mono ?_
  rintro e w2 ⟨rfl, hF⟩
  have HF := Lib.hid (HF.out.trans hF)
  have HB := Lib.hid (HB.out.keep hF)
  clear hF
  by_cases hfew : few13 ls 48 400 = true
  rotate_left
  · have hfew2 : few13 ls 48 400 = false := by simpa using hfew
    rw [hfew2]
    go_wp2_with fail
    go_ret
    first | exact ⟨rfl, HF.out⟩ | exact ⟨ret_bool (by simp), HF.out⟩
  rw [hfew]
  obtain ⟨hn40, -⟩ := few13_true hfew
  clear hfew
  go_wp2_with fail
  refine (pMake_any HB.out).mono ?_
  rintro e w3 ⟨hF, ⟨r, v', hm, rfl, hv⟩ | ⟨kk, hm, hk0, rfl⟩⟩
  rotate_left
  · have hkb : (kk != 0) = true := bne_iff_ne.2 hk0
    have HF := Lib.hid (HF.out.trans hF)
    have HB := Lib.hid (HB.out.keep hF)
    clear hm hk0 hF
    go_upto_region 6 with (refine wpList_store_row rfl 58 (.tmp 5) (.tmp 24) rfl w3.heap.size rfl _ _ rfl 58 (Box.new w3 58 rpz) (by kernel_rfl) rfl (by simp [Value.oneCell']) ?_; intro w4 hY hG; have hFn := ((Fr.refl [] w3).alloc _).step hG (by simp); have HFn := Lib.hid hFn; have HY := Lib.hid hY; clear hG hFn hY)
    have hF := HFn.out
    have HF := Lib.hid (HF.out.trans hF)
    have HB := Lib.hid (HB.out.keep hF)
    have x11 := HY.out.cell 11
    simp only [List.getElem?_toArray, List.getElem?_cons_succ, List.getElem?_cons_zero] at x11
    clear hF HFn HY
    go_wp2_with fail
    go_ret
    first | exact ⟨rfl, HF.out⟩ | exact ⟨ret_bool (by simp), HF.out⟩
  obtain ⟨vb, rfl, hb, -⟩ := hv
  obtain ⟨a2, c2, rfl⟩ := Sl.shape hb
  rw [List.length_map] at hb ⊢
  have HM := Lib.hid hm
  have HF := Lib.hid (HF.out.trans hF)
  have HB := Lib.hid (HB.out.keep hF)
  have HBD := Lib.hid hb
  have HSM : Hid (r.bt.body.length ≤ 1099511627776) := Lib.hid (mkP_small hm)
  clear hb hF hm
  go_upto_region 6 with (refine wpList_store_row rfl 58 (.tmp 5) (.tmp 24) rfl w3.heap.size rfl _ _ rfl 58 (Box.new w3 58 rpz) (by kernel_rfl) rfl (by simp [Value.oneCell']) ?_; intro w4 hY hG; have hFn := ((Fr.refl [] w3).alloc _).step hG (by simp); have HFn := Lib.hid hFn; have HY := Lib.hid hY; clear hG hFn hY)
  have hF := HFn.out
  have HF := Lib.hid (HF.out.trans hF)
  have HB := Lib.hid (HB.out.keep hF)
  have HBD := Lib.hid (Sl.keep HBD.out hF)
  have HR := HY
  clear hF HFn HY
  generalize hg5 : w3.heap.size = g5 at *
  clear hg5
  obtain ⟨w5, e5, hF, hB5, hs5⟩ := one_new w4 (rpc r (.slice a2 r.bt.body.length c2)) 58
  unfold rpc at e5
  have E5 := Lib.hid e5
  clear e5 hs5
  have HRO : Hid (SlEls 12 RpR w5 (.slice (some ⟨w4.heap.size, 0, none⟩) 1 1) [r] (liveOf (.slice a2 r.bt.body.length c2)).toList) := Lib.hid (rp_one hB5 (Sl.keep HBD.out hF))
  clear hB5
  have HR4 := HR
  have HF := Lib.hid (HF.out.trans hF)
  have HB := Lib.hid (HB.out.keep hF)
  have HBD := Lib.hid (Sl.keep HBD.out hF)
  have HR := Lib.hid (HR.out.keep hF)
  clear hF
  have hrl := HR4.out
  unfold rpc at hrl
  have HRL := Lib.hid hrl
  clear hrl
  go_wp2_with (refine wpList_load_row_w rfl 58 (.tmp 5) rfl g5 rfl 58 _ _ HRL.out Try.underlying58 rfl (by kernel_rfl) ?_)
  rw [E5.out]
  clear E5 HRL HR4
  refine (pNumbers_any HRO.out (by simp)).mono ?_
  rintro e w6 ⟨v6, B6, rfl, hN, hF⟩
  obtain ⟨a6, c6, rfl⟩ := hN.shape
  have hN2 := hN.sl
  obtain ⟨b16, o16, x16, y16, B17, e16, -, hy16, ⟨vn, rfl, hnq, -⟩, -, hrg⟩ := hN2.at_ Rep.seq (i := 0) (by simp)
  subst e16
  cases hy16
  obtain ⟨an, cn, rfl⟩ : ∃ a c, vn = .slice a ls.length c := by
    have := Sl.shape hnq
    rw [List.length_map, show (nmb r).length = ls.length from mkP_count HM.out] at this
    exact this
  have HC16 : Hid (w6.cell? ⟨b16, o16, none⟩ = some (.slice an ls.length cn)) := Lib.hid (by have := hrg 0 _ rfl; simpa using this)
  clear hnq hrg hN hN2 HRO
  have HF := Lib.hid (HF.out.trans hF)
  have HB := Lib.hid (HB.out.keep hF)
  have HBD := Lib.hid (Sl.keep HBD.out hF)
  have HR := Lib.hid (HR.out.keep hF)
  clear hF
  simp only [List.length_map, List.length_cons, List.length_nil, Nat.zero_add]
  have d0 := HC16.out
  go_upto_region 11 with fail
  clear d0 HC16
  have hpos : 0 < ls.length := List.length_pos_iff.2 (mkP_iff.1 HM.out).ne
  by_cases h1 : ls.length = 1
  · obtain ⟨p, hp⟩ := (mkP_iff.1 HM.out).ok ls[0] (List.getElem_mem hpos)
    have HONE := Lib.hid (one_ok HM.out h1 hpos)
    have HP := Lib.hid hp
    have HIS : Hid ((imp ls[0]).body.length ≤ 1099511627776) := Lib.hid (by have := (parse_len hp).2; show (ls[0].drop 12).length ≤ _; rw [List.length_drop]; omega)
    obtain ⟨b, o, al, cl, ea, -, hc, hx⟩ := HB.out.at_ 0 hpos
    subst ea
    have HX := Lib.hid hx
    rw [Nat.add_zero] at hc
    have d0 := hc
    clear hp hx hc
    go_upto_region 12 with fail
    clear h1
    go_wp2_with fail
    refine (impOf_any HX.out).mono ?_
    rintro e w8 (⟨v', p', hp', rfl, ⟨vi, rfl, hO⟩, hF⟩ | ⟨k, hp', -, -⟩)
    rotate_left
    · exact absurd (HP.out.symm.trans hp') (by simp)
    obtain ⟨ax, nx, cx, rfl⟩ := hO.isSlice
    have HXI := Lib.hid hO.bytes
    clear hO hp' d0 HX
    have HF := Lib.hid (HF.out.trans hF)
    have HB := Lib.hid (HB.out.keep hF)
    have HBD := Lib.hid (Sl.keep HBD.out hF)
    have HR := Lib.hid (HR.out.keep hF)
    clear hF
    go_upto_region 13 with (refine wpList_store_row rfl 28 (.tmp 8) (.tmp 55) rfl w8.heap.size rfl _ _ rfl 28 (Box.new w8 28 (bc Bt.zero (.slice none 0 0))) (by kernel_rfl) rfl (by simp [bc, Value.oneCell']) ?_; intro w9 hY hG; have hFn := ((Fr.refl [] w8).alloc _).step hG (by simp); have HFn := Lib.hid hFn; have HY := Lib.hid hY; clear hG hFn hY)
    have hF := HFn.out
    have HF := Lib.hid (HF.out.trans hF)
    have HB := Lib.hid (HB.out.keep hF)
    have HBD := Lib.hid (Sl.keep HBD.out hF)
    have HR := Lib.hid (HR.out.keep hF)
    have HXI := Lib.hid (Sl.keep HXI.out hF)
    have HXB := HY
    clear hF HFn HY
    generalize hg8 : w8.heap.size = g8 at *
    clear hg8
    refine wp_region_rules (fun w' => Fr [] w9.drew w') (Fr []) [isV (.agg (bc (imp ls[0]) (.slice ax nx cx))), isV (.agg (rpc r (.slice a2 r.bt.body.length c2))), fun v w' => BtV w' v r.bt.cut, isV (.bool true), isV ?p1x4, isV ?p1x5, isV (.int .u64 9223372036854775808), isV ?p1x7, isV ?p1x8, isV ?p1x9, isV ?p1x10, isV (.int .u64 0), isV ?p1x12, isV ?p1x13, isV ?p1x14] [[], [], [(1, 58)], [(0, 57), (2, 59)], [(3, 60)], [(4, 61)], [(4, 61), (5, 62)], [(4, 61), (6, 63)], [(4, 61), (7, 64)], [(8, 65)], [(9, 66)], [(9, 66), (10, 67)], [(9, 66), (11, 68)], [(9, 66), (12, 69)], [(13, 70)]] 158 [0, 1, 2, 3, 4, 5, 6, 7, 8, 9, 10, 11, 12, 13, 14] [(0, 57), (1, 58), (2, 59), (3, 60), (4, 61), (5, 62), (6, 63), (7, 64), (8, 65), (9, 66), (10, 67), (11, 68), (12, 69), (13, 70), (14, 4)] (by kernel_rfl) (by kernel_rfl) rfl (by kernel_rfl) (by kernel_rfl) (by kernel_rfl) (by kernel_rfl) (by intro c a a' W h hq; cases a; cases a'; cases h; exact hq) (fun w => Fr.refl _ w) (Fr.refl _ _) ⟨isV_stab, isV_stab, fun _ _ _ h1 h2 => h2.keep h1, isV_stab, isV_stab, isV_stab, isV_stab, isV_stab, isV_stab, isV_stab, isV_stab, isV_stab, isV_stab, isV_stab, isV_stab, trivial⟩ ⟨?_, ?_, ?_, ?_, ?_, ?_, ?_, ?_, ?_, ?_, ?_, ?_, ?_, ?_, ?_, trivial⟩ ?_
    rotate_left 9
    · intro vs w' hG hd K hK
      clear hd
      simp only [canonD, Act.put, List.getElem_toArray, List.getElem_cons_zero, List.getElem_cons_succ, List.setIfInBounds_toArray, List.set_cons_zero, List.set_cons_succ] at hK ⊢
      have hW : Fr [] w9 w' := (Fr.refl [] w9).drew.trans hG
      refine Eq.mpr (if_pos (by rfl)) ?_
      refine wp_load_row 28 (.tmp 8) rfl (g8) rfl 28 _ _ (HXB.out.keep hW) Try.underlying28 rfl (by kernel_rfl) ?_
      refine hK.out _ _ (Fr.refl _ _) hG ?_
      show _ = _
      rfl
    · intro vs w' hG hd K hK
      clear hd
      simp only [canonD, Act.put, List.getElem_toArray, List.getElem_cons_zero, List.getElem_cons_succ, List.setIfInBounds_toArray, List.set_cons_zero, List.set_cons_succ] at hK ⊢
      have hW : Fr [] w9 w' := (Fr.refl [] w9).drew.trans hG
      refine Eq.mpr (if_pos (by rfl)) ?_
      refine wp_load_row 58 (.tmp 5) rfl (g5) rfl 58 _ _ (HR.out.keep hW) Try.underlying58 rfl (by kernel_rfl) ?_
      refine hK.out _ _ (Fr.refl _ _) hG ?_
      show _ = _
      rfl
    · intro vs w' hG hd K hK
      obtain ⟨h1, -⟩ := hd
      replace h1 : vs 1 = _ := h1
      simp only [canonD, Act.put, List.getElem_toArray, List.getElem_cons_zero, List.getElem_cons_succ, List.setIfInBounds_toArray, List.set_cons_zero, List.set_cons_succ, h1] at hK ⊢
      have hW : Fr [] w9 w' := (Fr.refl [] w9).drew.trans hG
      refine Eq.mpr (if_pos (by rfl)) ?_
      go_simp
      refine (pBytes_any (r := r) ⟨_, rfl, Sl.keep HBD.out hW⟩ HSM.out).mono ?_
      rintro e wz ⟨vz, rfl, hO, hF⟩
      go_simp
      exact hK.out _ _ hF (hG.trans hF) hO.v
    · intro vs w' hG hd K hK
      obtain ⟨h0, h2, -⟩ := hd
      replace h0 : vs 0 = _ := h0
      replace h2 : BtV w' (vs 2) r.bt.cut := h2
      simp only [canonD, Act.put, List.getElem_toArray, List.getElem_cons_zero, List.getElem_cons_succ, List.setIfInBounds_toArray, List.set_cons_zero, List.set_cons_succ, h0] at hK ⊢
      generalize vs 2 = v2 at *
      have hW : Fr [] w9 w' := (Fr.refl [] w9).drew.trans hG
      refine Eq.mpr (if_pos (by rfl)) ?_
      go_simp
      refine (impSame_any (x := imp ls[0]) (y := r.bt.cut) ⟨_, rfl, Sl.keep HXI.out hW⟩ h2 HIS.out HSM.out).mono ?_
      rintro e wz ⟨rfl, hF⟩
      go_simp
      exact hK.out _ _ hF (hG.trans hF) (by show Value.bool _ = _; rw [HONE.out.1, Bt.same_refl])
    · intro vs w' hG hd K hK
      obtain ⟨h3, -⟩ := hd
      replace h3 : vs 3 = _ := h3
      simp only [canonD, Act.put, List.getElem_toArray, List.getElem_cons_zero, List.getElem_cons_succ, List.setIfInBounds_toArray, List.set_cons_zero, List.set_cons_succ, h3] at hK ⊢
      refine Eq.mpr (if_pos (by rfl)) ?_
      go_simp
      refine hK.out _ _ (Fr.refl _ _) hG ?_
      show _ = _
      rfl
    · intro vs w' hG hd K hK
      obtain ⟨h4, -⟩ := hd
      replace h4 : vs 4 = _ := h4
      simp only [canonD, Act.put, List.getElem_toArray, List.getElem_cons_zero, List.getElem_cons_succ, List.setIfInBounds_toArray, List.set_cons_zero, List.set_cons_succ, h4] at hK ⊢
      refine Eq.mpr (if_pos (by rfl)) ?_
      go_simp
      refine hK.out _ _ (Fr.refl _ _) hG ?_
      show _ = _
      rfl
    · intro vs w' hG hd K hK
      obtain ⟨h4, h5, -⟩ := hd
      replace h4 : vs 4 = _ := h4
      replace h5 : vs 5 = _ := h5
      simp only [canonD, Act.put, List.getElem_toArray, List.getElem_cons_zero, List.getElem_cons_succ, List.setIfInBounds_toArray, List.set_cons_zero, List.set_cons_succ, h4, h5] at hK ⊢
      have hW : Fr [] w9 w' := (Fr.refl [] w9).drew.trans hG
      have x9 : w'.cell? ⟨g5, 9, none⟩ = some (.int .u64 9223372036854775808) := by
        have h := (HR.out.keep hW).cell 9
        rw [show (rpc r (.slice a2 r.bt.body.length c2))[9]? = some (.int .u64 ((r.m.hi.toNat : Nat) : Int)) from rfl, HONE.out.2] at h
        exact h
      refine Eq.mpr (if_pos (by rfl)) ?_
      go_simp
      refine hK.out _ _ (Fr.refl _ _) hG ?_
      show _ = _
      rfl
    · intro vs w' hG hd K hK
      obtain ⟨h4, h6, -⟩ := hd
      replace h4 : vs 4 = _ := h4
      replace h6 : vs 6 = _ := h6
      simp only [canonD, Act.put, List.getElem_toArray, List.getElem_cons_zero, List.getElem_cons_succ, List.setIfInBounds_toArray, List.set_cons_zero, List.set_cons_succ, h4, h6] at hK ⊢
      refine Eq.mpr (if_pos (by rfl)) ?_
      go_simp
      refine hK.out _ _ (Fr.refl _ _) hG ?_
      show _ = _
      rfl
    · intro vs w' hG hd K hK
      obtain ⟨h4, h7, -⟩ := hd
      replace h4 : vs 4 = _ := h4
      replace h7 : vs 7 = _ := h7
      simp only [canonD, Act.put, List.getElem_toArray, List.getElem_cons_zero, List.getElem_cons_succ, List.setIfInBounds_toArray, List.set_cons_zero, List.set_cons_succ, h4, h7] at hK ⊢
      refine Eq.mpr (if_pos (by rfl)) ?_
      go_simp
      refine hK.out _ _ (Fr.refl _ _) hG ?_
      show _ = _
      rfl
    · intro vs w' hG hd K hK
      obtain ⟨h8, -⟩ := hd
      replace h8 : vs 8 = _ := h8
      simp only [canonD, Act.put, List.getElem_toArray, List.getElem_cons_zero, List.getElem_cons_succ, List.setIfInBounds_toArray, List.set_cons_zero, List.set_cons_succ, h8] at hK ⊢
      refine Eq.mpr (if_pos (by rfl)) ?_
      go_simp
      refine hK.out _ _ (Fr.refl _ _) hG ?_
      show _ = _
      rfl
    · intro vs w' hG hd K hK
      obtain ⟨h9, -⟩ := hd
      replace h9 : vs 9 = _ := h9
      simp only [canonD, Act.put, List.getElem_toArray, List.getElem_cons_zero, List.getElem_cons_succ, List.setIfInBounds_toArray, List.set_cons_zero, List.set_cons_succ, h9] at hK ⊢
      refine Eq.mpr (if_pos (by rfl)) ?_
      go_simp
      refine hK.out _ _ (Fr.refl _ _) hG ?_
      show _ = _
      rfl
    · intro vs w' hG hd K hK
      obtain ⟨h9, h10, -⟩ := hd
      replace h9 : vs 9 = _ := h9
      replace h10 : vs 10 = _ := h10
      simp only [canonD, Act.put, List.getElem_toArray, List.getElem_cons_zero, List.getElem_cons_succ, List.setIfInBounds_toArray, List.set_cons_zero, List.set_cons_succ, h9, h10] at hK ⊢
      have hW : Fr [] w9 w' := (Fr.refl [] w9).drew.trans hG
      have x10 : w'.cell? ⟨g5, 10, none⟩ = some (.int .u64 0) := by
        have h := (HR.out.keep hW).cell 10
        rw [show (rpc r (.slice a2 r.bt.body.length c2))[10]? = some (.int .u64 ((r.m.lo.toNat : Nat) : Int)) from rfl, HONE.out.2] at h
        exact h
      refine Eq.mpr (if_pos (by rfl)) ?_
      go_simp
      refine hK.out _ _ (Fr.refl _ _) hG ?_
      show _ = _
      rfl
    · intro vs w' hG hd K hK
      obtain ⟨h9, h11, -⟩ := hd
      replace h9 : vs 9 = _ := h9
      replace h11 : vs 11 = _ := h11
      simp only [canonD, Act.put, List.getElem_toArray, List.getElem_cons_zero, List.getElem_cons_succ, List.setIfInBounds_toArray, List.set_cons_zero, List.set_cons_succ, h9, h11] at hK ⊢
      refine Eq.mpr (if_pos (by rfl)) ?_
      go_simp
      refine hK.out _ _ (Fr.refl _ _) hG ?_
      show _ = _
      rfl
    · intro vs w' hG hd K hK
      obtain ⟨h9, h12, -⟩ := hd
      replace h9 : vs 9 = _ := h9
      replace h12 : vs 12 = _ := h12
      simp only [canonD, Act.put, List.getElem_toArray, List.getElem_cons_zero, List.getElem_cons_succ, List.setIfInBounds_toArray, List.set_cons_zero, List.set_cons_succ, h9, h12] at hK ⊢
      refine Eq.mpr (if_pos (by rfl)) ?_
      go_simp
      refine hK.out _ _ (Fr.refl _ _) hG ?_
      show _ = _
      rfl
    · intro vs w' hG hd K hK
      obtain ⟨h13, -⟩ := hd
      replace h13 : vs 13 = _ := h13
      simp only [canonD, Act.put, List.getElem_toArray, List.getElem_cons_zero, List.getElem_cons_succ, List.setIfInBounds_toArray, List.set_cons_zero, List.set_cons_succ, h13] at hK ⊢
      refine Eq.mpr (if_pos (by rfl)) ?_
      go_simp
      refine hK.out _ _ (Fr.refl _ _) hG ?_
      show _ = _
      rfl
    intro vs w' hG hP
    obtain ⟨h0, h1, h2, h3, h4, h5, h6, h7, h8, h9, h10, h11, h12, h13, h14, -⟩ := hP
    replace h0 : vs 0 = _ := h0
    replace h1 : vs 1 = _ := h1
    replace h2 : BtV w' (vs 2) r.bt.cut := h2
    replace h3 : vs 3 = _ := h3
    replace h4 : vs 4 = _ := h4
    replace h5 : vs 5 = _ := h5
    replace h6 : vs 6 = _ := h6
    replace h7 : vs 7 = _ := h7
    replace h8 : vs 8 = _ := h8
    replace h9 : vs 9 = _ := h9
    replace h10 : vs 10 = _ := h10
    replace h11 : vs 11 = _ := h11
    replace h12 : vs 12 = _ := h12
    replace h13 : vs 13 = _ := h13
    replace h14 : vs 14 = _ := h14
    simp only [canonD, Act.put, List.getElem_toArray, List.getElem_cons_zero, List.getElem_cons_succ, List.setIfInBounds_toArray, List.set_cons_zero, List.set_cons_succ, h0, h1, h3, h4, h5, h6, h7, h8, h9, h10, h11, h12, h13, h14]
    generalize vs 2 = v2 at *
    clear h0 h1 h3 h4 h5 h6 h7 h8 h9 h10 h11 h12 h13 h14
    have hF := (Fr.refl [] w9).drew.trans hG
    have HF := Lib.hid (HF.out.trans hF)
    clear hF hG h2
    go_wp2_with fail
    go_ret
    first | exact ⟨rfl, HF.out⟩ | exact ⟨ret_bool (by simp), HF.out⟩
  · obtain ⟨cn, hcn, hcl⟩ := and1023 c
    obtain ⟨n1, hn1⟩ : ∃ n1, n1 = ls.length - 1 := ⟨_, rfl⟩
    have hn1p : 0 < n1 := by omega
    have hN1 : (ls.length : Int) - 1 = (n1 : Int) := by omega
    obtain ⟨kk, hkk⟩ : ∃ kk, kk = cn % n1 := ⟨_, rfl⟩
    have hkl : kk < n1 := by rw [hkk]; exact Nat.mod_lt _ hn1p
    have hKK : ((cn : Int) % (n1 : Int)) = (kk : Int) := by rw [hkk]; omega
    obtain ⟨k, hk⟩ : ∃ k, k = kk + 1 := ⟨_, rfl⟩
    have hK1 : (1 + (kk : Int)) = (k : Int) := by omega
    have hk0 : 0 < k := by omega
    have hkn : k < ls.length := by omega
    have hkc : k ≤ cv := by omega
    have hn1l : n1 < ls.length := by omega
    have HN1L : Hid (ls.length - n1 = 1) := Lib.hid (by omega)
    clear hkk hk hn1 h1
    obtain ⟨a, b_, ha, hb_, hab, hmx⟩ := parts_ok HM.out hk0 hkn
    have HA := Lib.hid ha; have HB_ := Lib.hid hb_; have HAB := Lib.hid hab; have HMX := Lib.hid hmx
    have HAS : Hid (a.bt.body.length ≤ 1099511627776) := Lib.hid (mkP_small ha)
    have HBS : Hid (b_.bt.body.length ≤ 1099511627776) := Lib.hid (mkP_small hb_)
    obtain ⟨qa, hqa, hsa⟩ := one_some HM.out hpos
    obtain ⟨qb, hqb, hsb⟩ := one_some HM.out hn1l
    have HQA := Lib.hid hqa; have HQB := Lib.hid hqb
    have HBL := Lib.hid (two_block hsa hsb)
    clear ha hb_ hab hmx hqa hqb hsa hsb
    obtain ⟨b, o, al, cl, ea, -, -, -⟩ := HB.out.at_ 0 hpos
    subst ea
    go_wp2_with fail
    refine (pMake_any (HB.out.pre k (by omega) cv (by omega) (Nat.le_refl _))).mono ?_
    rintro e w8 ⟨hF, ⟨r', v', hm, rfl, hv⟩ | ⟨k', hm, -, -⟩⟩
    rotate_left
    · rw [HA.out] at hm; cases hm
    obtain rfl : a = r' := by rw [HA.out] at hm; cases hm; rfl
    obtain ⟨vb, rfl, hb, -⟩ := hv
    obtain ⟨a3, c3, rfl⟩ := Sl.shape hb
    rw [List.length_map] at hb ⊢
    clear hm
    have HF := Lib.hid (HF.out.trans hF)
    have HB := Lib.hid (HB.out.keep hF)
    have HBD := Lib.hid (Sl.keep HBD.out hF)
    have HR := Lib.hid (HR.out.keep hF)
    have HAD := Lib.hid hb
    clear hb hF
    go_upto_region 16 with (refine wpList_store_row rfl 58 (.tmp 10) (.tmp 83) rfl w8.heap.size rfl _ _ rfl 58 (Box.new w8 58 rpz) (by kernel_rfl) rfl (by simp [Value.oneCell']) ?_; intro w9 hY hG; have hFn := ((Fr.refl [] w8).alloc _).step hG (by simp); have HFn := Lib.hid hFn; have HY := Lib.hid hY; clear hG hFn hY)
    have hF := HFn.out
    have HF := Lib.hid (HF.out.trans hF)
    have HB := Lib.hid (HB.out.keep hF)
    have HBD := Lib.hid (Sl.keep HBD.out hF)
    have HR := Lib.hid (HR.out.keep hF)
    have HAD := Lib.hid (Sl.keep HAD.out hF)
    have HAR := HY
    clear hF HFn HY
    generalize hg10 : w8.heap.size = g10 at *
    clear hg10
    obtain ⟨q, hq⟩ : ∃ q, (if cv = k then some (⟨b, o, none⟩ : Addr) else some ⟨b, o + k, none⟩) = q := ⟨_, rfl⟩
    have HFROM := Lib.hid (HB.out.from_ k (ls.length - k) (by omega))
    rw [hq] at HFROM
    go_wp2_with fail
    refine (pMake_any HFROM.out).mono ?_
    rintro e w10 ⟨hF, ⟨r', v', hm, rfl, hv⟩ | ⟨k', hm, -, -⟩⟩
    rotate_left
    · rw [HB_.out] at hm; cases hm
    obtain rfl : b_ = r' := by rw [HB_.out] at hm; cases hm; rfl
    obtain ⟨vb, rfl, hb, -⟩ := hv
    obtain ⟨a4, c4, rfl⟩ := Sl.shape hb
    rw [List.length_map] at hb ⊢
    clear hm HFROM hq
    have HF := Lib.hid (HF.out.trans hF)
    have HB := Lib.hid (HB.out.keep hF)
    have HBD := Lib.hid (Sl.keep HBD.out hF)
    have HR := Lib.hid (HR.out.keep hF)
    have HAD := Lib.hid (Sl.keep HAD.out hF)
    have HAR := Lib.hid (HAR.out.keep hF)
    have HBB := Lib.hid hb
    clear hb hF
    go_upto_region 17 with (refine wpList_store_row rfl 58 (.tmp 12) (.tmp 90) rfl w10.heap.size rfl _ _ rfl 58 (Box.new w10 58 rpz) (by kernel_rfl) rfl (by simp [Value.oneCell']) ?_; intro w11 hY hG; have hFn := ((Fr.refl [] w10).alloc _).step hG (by simp); have HFn := Lib.hid hFn; have HY := Lib.hid hY; clear hG hFn hY)
    have hF := HFn.out
    have HF := Lib.hid (HF.out.trans hF)
    have HB := Lib.hid (HB.out.keep hF)
    have HBD := Lib.hid (Sl.keep HBD.out hF)
    have HR := Lib.hid (HR.out.keep hF)
    have HAD := Lib.hid (Sl.keep HAD.out hF)
    have HAR := Lib.hid (HAR.out.keep hF)
    have HBB := Lib.hid (Sl.keep HBB.out hF)
    have HBR := HY
    clear hF HFn HY
    generalize hg12 : w10.heap.size = g12 at *
    clear hg12
    obtain ⟨w12, e6, hF, hB6, hs6⟩ := one_new w11 #[.int .i64 0] 3
    have HI6 : Hid (Ints w12 (.slice (some ⟨w11.heap.size, 0, none⟩) 1 1) [0]) := Lib.hid (Sl_block hB6 (n := 1) rfl (by unfold maxLen; omega))
    have E6 := Lib.hid e6
    have HF := Lib.hid (HF.out.trans hF)
    have HB := Lib.hid (HB.out.keep hF)
    have HBD := Lib.hid (Sl.keep HBD.out hF)
    have HR := Lib.hid (HR.out.keep hF)
    have HAD := Lib.hid (Sl.keep HAD.out hF)
    have HAR := Lib.hid (HAR.out.keep hF)
    have HBB := Lib.hid (Sl.keep HBB.out hF)
    have HBR := Lib.hid (HBR.out.keep hF)
    clear hF e6 hB6
    have HS6 := Lib.hid hs6
    clear hs6
    obtain ⟨w13, e7, hF, hB7, hs7⟩ := one_new w12 #[.int .i64 (n1 : Int)] 3
    have HI7 : Hid (Ints w13 (.slice (some ⟨w12.heap.size, 0, none⟩) 1 1) [(n1 : Int)]) := Lib.hid (Sl_block hB7 (n := 1) rfl (by unfold maxLen; omega))
    have E7 := Lib.hid e7
    have HF := Lib.hid (HF.out.trans hF)
    have HB := Lib.hid (HB.out.keep hF)
    have HBD := Lib.hid (Sl.keep HBD.out hF)
    have HR := Lib.hid (HR.out.keep hF)
    have HAD := Lib.hid (Sl.keep HAD.out hF)
    have HAR := Lib.hid (HAR.out.keep hF)
    have HBB := Lib.hid (Sl.keep HBB.out hF)
    have HBR := Lib.hid (HBR.out.keep hF)
    have HI6 := Lib.hid (Sl.keep HI6.out hF)
    rw [HS6.out] at HI7
    rw [HS6.out] at hs7
    have HS7 := Lib.hid hs7
    clear hF e7 hB7 hs7
    obtain ⟨w14, e8, hF, hB8, -⟩ := one_new w13 #[.slice (some ⟨w11.heap.size, 0, none⟩) 1 1, .slice (some ⟨w11.heap.size + 1, 0, none⟩) 1 1] 53
    have HSH : Hid (SlOf Ints w14 (.slice (some ⟨w13.heap.size, 0, none⟩) 2 2) [[((0 : Nat) : Int)], [(n1 : Int)]]) := Lib.hid (by
      refine ⟨_, Sl_block hB8 (n := 2) rfl (by unfold maxLen; omega), rfl, fun i x y hx hy => ?_⟩
      have hi : i < 2 := (List.getElem?_eq_some_iff.1 hy).1
      rcases (by omega : i = 0 ∨ i = 1) with rfl | rfl
      · cases hx; cases hy; exact Sl.keep HI6.out hF
      · cases hx; cases hy; exact Sl.keep HI7.out hF)
    rw [HS7.out] at HSH
    have E8 := Lib.hid e8
    have HF := Lib.hid (HF.out.trans hF)
    have HB := Lib.hid (HB.out.keep hF)
    have HBD := Lib.hid (Sl.keep HBD.out hF)
    have HR := Lib.hid (HR.out.keep hF)
    have HAD := Lib.hid (Sl.keep HAD.out hF)
    have HAR := Lib.hid (HAR.out.keep hF)
    have HBB := Lib.hid (Sl.keep HBB.out hF)
    have HBR := Lib.hid (HBR.out.keep hF)
    clear hF e8 hB8
    go_wp2_with fail
    rw [E6.out, E7.out, E8.out]
    clear E6 E7 E8
    refine (pBlock_any HB.out HSH.out (by omega) (by simp) (by simp)).mono ?_
    rintro e w15 ⟨hF, ⟨rs, v', B, hm, rfl, hO, hBB⟩ | ⟨k', hm, -, -⟩⟩
    rotate_left
    · rw [HBL.out] at hm; cases hm
    obtain rfl : [qa, qb] = rs := by rw [HBL.out] at hm; cases hm; rfl
    obtain ⟨a15, c15, rfl⟩ := hO.shape
    have hOs := hO.sl
    obtain ⟨b20, o20, x0, y0, B0, e20, -, hy0, ⟨va, rfl, hqa, -⟩, -, hr0⟩ := hOs.at_ Rep.rp (i := 0) (by simp)
    obtain ⟨b21, o21, x1, y1, B1, e21, -, hy1, ⟨vb, rfl, hqb, -⟩, -, hr1⟩ := hOs.at_ Rep.rp (i := 1) (by simp)
    subst e20
    simp only [Option.some.injEq, Addr.mk.injEq, and_true] at e21
    obtain ⟨rfl, rfl⟩ := e21
    cases hy0
    cases hy1
    obtain ⟨aa, na, ca, rfl⟩ := Sl.isSlice hqa
    obtain ⟨ab, nb, cb, rfl⟩ := Sl.isSlice hqb
    simp only [Nat.zero_mul, Nat.one_mul, Nat.add_zero] at hr0 hr1
    have HRA := Lib.hid hr0; have HRB := Lib.hid hr1; have HQAB := Lib.hid hqa; have HQBB := Lib.hid hqb
    have HQAS : Hid (qa.bt.body.length ≤ 1099511627776) := Lib.hid (mkP_small HQA.out)
    have HQBS : Hid (qb.bt.body.length ≤ 1099511627776) := Lib.hid (mkP_small HQB.out)
    clear hO hBB HSH HI6 HI7 hm hOs hr0 hr1 hqa hqb
    have HF := Lib.hid (HF.out.trans hF)
    have HB := Lib.hid (HB.out.keep hF)
    have HBD := Lib.hid (Sl.keep HBD.out hF)
    have HR := Lib.hid (HR.out.keep hF)
    have HAD := Lib.hid (Sl.keep HAD.out hF)
    have HAR := Lib.hid (HAR.out.keep hF)
    have HBB := Lib.hid (Sl.keep HBB.out hF)
    have HBR := Lib.hid (HBR.out.keep hF)
    clear hF
    have hwn : IntKind.i64.wrap (n1 : Int) = (n1 : Int) := IntWalk.i64_in _ (by omega)
    have hn1c : n1 ≤ cv := by omega
    have h1c : 1 ≤ cv := by omega
    have h1i : (1 : Int) ≤ (cv : Int) := by omega
    have h1n : 1 ≤ ls.length := by omega
    have hn1n : n1 ≤ ls.length := by omega
    obtain ⟨q2, hq2⟩ : ∃ q2, (if cv = n1 then some (⟨b, o, none⟩ : Addr) else some ⟨b, o + n1, none⟩) = q2 := ⟨_, rfl⟩
    have HLAST := Lib.hid (HB.out.from_ n1 1 (by have := HN1L.out; omega))
    rw [hq2, drop_last hn1l HN1L.out] at HLAST
    have HFST := Lib.hid (HB.out.pre 1 (by omega) cv (by omega) (Nat.le_refl _))
    rw [take_one hpos] at HFST
    go_upto_region 20 with fail
    have hl1 := HN1L.out
    refine wp_region_rules (fun w' => Fr [] w15.drew w') (Fr []) [isV (.agg (rpc a (.slice a3 a.bt.body.length c3))), fun v w' => BtV w' v a.bt.cut, isV (.agg (rpc b_ (.slice a4 b_.bt.body.length c4))), fun v w' => BtV w' v b_.bt.cut, fun v w' => BtV w' v r.bt.cut, isV (.agg (rpc r (.slice a2 r.bt.body.length c2))), fun v w' => BtV w' v r.bt.cut, isV (.bool true), isV ?p2x8, isV ?p2x9, isV (.slice a2 r.bt.body.length c2), isV ?p2x11, isV ?p2x12, isV (.slice a3 a.bt.body.length c3), isV ?p2x14, isV ?p2x15, isV (.slice a4 b_.bt.body.length c4), isV ?p2x17, isV ?p2x18, isV (.bool true), isV ?p2x20, isV ?p2x21, isV ?p2x22, isV ?p2x23, isV ?p2x24, isV ?p2x25, isV ?p2x26, isV ?p2x27, isV ?p2x28, isV ?p2x29, isV ?p2x30, isV ?p2x31, isV (.pointer (some ⟨b20, o20, none⟩)), isV (.agg (rpc qa (.slice aa na ca))), isV ?p2x34, isV (.slice (some ⟨b, o, none⟩) 1 cv), isV (.bool true), isV ?p2x37, isV ?p2x38, isV ?p2x39, isV (.pointer (some ⟨b20, o20 + 12, none⟩)), isV (.agg (rpc qb (.slice ab nb cb))), isV ?p2x42, isV ?p2x43, isV ?p2x44, isV ?p2x45, isV (.slice q2 1 (cv - n1)), isV (.bool true), isV ?p2x48, isV ?p2x49] [[], [(0, 109)], [], [(2, 111)], [(1, 110), (3, 112)], [], [(5, 114)], [(4, 113), (6, 115)], [(7, 116)], [(8, 117)], [(8, 117), (9, 118)], [(8, 117), (10, 119)], [(8, 117)], [(8, 117), (12, 121)], [(8, 117), (13, 122)], [(8, 117)], [(8, 117), (15, 124)], [(8, 117), (16, 125)], [(8, 117), (14, 123), (17, 126)], [(8, 117), (11, 120), (18, 127)], [(8, 117), (19, 128)], [(20, 129)], [(21, 130)], [(21, 130), (22, 131)], [(21, 130), (23, 132)], [(24, 133)], [(25, 134)], [(25, 134), (26, 135)], [(25, 134), (27, 136)], [(25, 134), (28, 137)], [(29, 138)], [(30, 139)], [(30, 139), (31, 140)], [(30, 139), (32, 141)], [(30, 139)], [(30, 139), (34, 143)], [(30, 139), (33, 142), (35, 144)], [(30, 139), (36, 145)], [(37, 146)], [(38, 147)], [(38, 147), (39, 148)], [(38, 147), (40, 149)], [(38, 147)], [(38, 147)], [(38, 147), (43, 152)], [(38, 147), (44, 153)], [(38, 147), (42, 151), (45, 154)], [(38, 147), (41, 150), (46, 155)], [(38, 147), (47, 156)], [(48, 157)]] 158 [0, 1, 2, 3, 4, 5, 6, 7, 8, 9, 10, 11, 12, 13, 14, 15, 16, 17, 18, 19, 20, 21, 22, 23, 24, 25, 26, 27, 28, 29, 30, 31, 32, 33, 34, 35, 36, 37, 38, 39, 40, 41, 42, 43, 44, 45, 46, 47, 48, 49] [(0, 109), (1, 110), (2, 111), (3, 112), (4, 113), (5, 114), (6, 115), (7, 116), (8, 117), (9, 118), (10, 119), (11, 120), (12, 121), (13, 122), (14, 123), (15, 124), (16, 125), (17, 126), (18, 127), (19, 128), (20, 129), (21, 130), (22, 131), (23, 132), (24, 133), (25, 134), (26, 135), (27, 136), (28, 137), (29, 138), (30, 139), (31, 140), (32, 141), (33, 142), (34, 143), (35, 144), (36, 145), (37, 146), (38, 147), (39, 148), (40, 149), (41, 150), (42, 151), (43, 152), (44, 153), (45, 154), (46, 155), (47, 156), (48, 157), (49, 4)] (by kernel_rfl) (by kernel_rfl) rfl (by kernel_rfl) (by kernel_rfl) (by kernel_rfl) (by kernel_rfl) (by intro c a a' W h hq; cases a; cases a'; cases h; exact hq) (fun w => Fr.refl _ w) (Fr.refl _ _) ⟨isV_stab, fun _ _ _ h1 h2 => h2.keep h1, isV_stab, fun _ _ _ h1 h2 => h2.keep h1, fun _ _ _ h1 h2 => h2.keep h1, isV_stab, fun _ _ _ h1 h2 => h2.keep h1, isV_stab, isV_stab, isV_stab, isV_stab, isV_stab, isV_stab, isV_stab, isV_stab, isV_stab, isV_stab, isV_stab, isV_stab, isV_stab, isV_stab, isV_stab, isV_stab, isV_stab, isV_stab, isV_stab, isV_stab, isV_stab, isV_stab, isV_stab, isV_stab, isV_stab, isV_stab, isV_stab, isV_stab, isV_stab, isV_stab, isV_stab, isV_stab, isV_stab, isV_stab, isV_stab, isV_stab, isV_stab, isV_stab, isV_stab, isV_stab, isV_stab, isV_stab, isV_stab, trivial⟩ ⟨?_, ?_, ?_, ?_, ?_, ?_, ?_, ?_, ?_, ?_, ?_, ?_, ?_, ?_, ?_, ?_, ?_, ?_, ?_, ?_, ?_, ?_, ?_, ?_, ?_, ?_, ?_, ?_, ?_, ?_, ?_, ?_, ?_, ?_, ?_, ?_, ?_, ?_, ?_, ?_, ?_, ?_, ?_, ?_, ?_, ?_, ?_, ?_, ?_, ?_, trivial⟩ ?_
    rotate_left 30
    · intro vs w' hG hd K hK
      clear hd
      simp only [canonD, Act.put, List.getElem_toArray, List.getElem_cons_zero, List.getElem_cons_succ, List.setIfInBounds_toArray, List.set_cons_zero, List.set_cons_succ] at hK ⊢
      have hW : Fr [] w15 w' := (Fr.refl [] w15).drew.trans hG
      refine Eq.mpr (if_pos (by rfl)) ?_
      refine wp_load_row 58 (.tmp 10) rfl (g10) rfl 58 _ _ (HAR.out.keep hW) Try.underlying58 rfl (by kernel_rfl) ?_
      refine hK.out _ _ (Fr.refl _ _) hG ?_
      show _ = _
      rfl
    · intro vs w' hG hd K hK
      obtain ⟨h0, -⟩ := hd
      replace h0 : vs 0 = _ := h0
      simp only [canonD, Act.put, List.getElem_toArray, List.getElem_cons_zero, List.getElem_cons_succ, List.setIfInBounds_toArray, List.set_cons_zero, List.set_cons_succ, h0] at hK ⊢
      have hW : Fr [] w15 w' := (Fr.refl [] w15).drew.trans hG
      refine Eq.mpr (if_pos (by rfl)) ?_
      go_simp
      refine (pBytes_any (r := a) ⟨_, rfl, Sl.keep HAD.out hW⟩ HAS.out).mono ?_
      rintro e wz ⟨vz, rfl, hO, hF⟩
      go_simp
      exact hK.out _ _ hF (hG.trans hF) hO.v
    · intro vs w' hG hd K hK
      clear hd
      simp only [canonD, Act.put, List.getElem_toArray, List.getElem_cons_zero, List.getElem_cons_succ, List.setIfInBounds_toArray, List.set_cons_zero, List.set_cons_succ] at hK ⊢
      have hW : Fr [] w15 w' := (Fr.refl [] w15).drew.trans hG
      refine Eq.mpr (if_pos (by rfl)) ?_
      refine wp_load_row 58 (.tmp 12) rfl (g12) rfl 58 _ _ (HBR.out.keep hW) Try.underlying58 rfl (by kernel_rfl) ?_
      refine hK.out _ _ (Fr.refl _ _) hG ?_
      show _ = _
      rfl
    · intro vs w' hG hd K hK
      obtain ⟨h2, -⟩ := hd
      replace h2 : vs 2 = _ := h2
      simp only [canonD, Act.put, List.getElem_toArray, List.getElem_cons_zero, List.getElem_cons_succ, List.setIfInBounds_toArray, List.set_cons_zero, List.set_cons_succ, h2] at hK ⊢
      have hW : Fr [] w15 w' := (Fr.refl [] w15).drew.trans hG
      refine Eq.mpr (if_pos (by rfl)) ?_
      go_simp
      refine (pBytes_any (r := b_) ⟨_, rfl, Sl.keep HBB.out hW⟩ HBS.out).mono ?_
      rintro e wz ⟨vz, rfl, hO, hF⟩
      go_simp
      exact hK.out _ _ hF (hG.trans hF) hO.v
    · intro vs w' hG hd K hK
      obtain ⟨h1, h3, -⟩ := hd
      replace h1 : BtV w' (vs 1) a.bt.cut := h1
      replace h3 : BtV w' (vs 3) b_.bt.cut := h3
      simp only [canonD, Act.put, List.getElem_toArray, List.getElem_cons_zero, List.getElem_cons_succ, List.setIfInBounds_toArray, List.set_cons_zero, List.set_cons_succ] at hK ⊢
      generalize vs 1 = v1 at *
      generalize vs 3 = v3 at *
      refine Eq.mpr (if_pos (by rfl)) ?_
      go_simp
      refine (impAdd_any (x := a.bt.cut) (y := b_.bt.cut) h1 h3 HAS.out HBS.out).mono ?_
      rintro e wz ⟨vz, rfl, hO, hF⟩
      go_simp
      rw [HAB.out] at hO
      exact hK.out _ _ hF (hG.trans hF) hO.v
    · intro vs w' hG hd K hK
      clear hd
      simp only [canonD, Act.put, List.getElem_toArray, List.getElem_cons_zero, List.getElem_cons_succ, List.setIfInBounds_toArray, List.set_cons_zero, List.set_cons_succ] at hK ⊢
      have hW : Fr [] w15 w' := (Fr.refl [] w15).drew.trans hG
      refine Eq.mpr (if_pos (by rfl)) ?_
      refine wp_load_row 58 (.tmp 5) rfl (g5) rfl 58 _ _ (HR.out.keep hW) Try.underlying58 rfl (by kernel_rfl) ?_
      refine hK.out _ _ (Fr.refl _ _) hG ?_
      show _ = _
      rfl
    · intro vs w' hG hd K hK
      obtain ⟨h5, -⟩ := hd
      replace h5 : vs 5 = _ := h5
      simp only [canonD, Act.put, List.getElem_toArray, List.getElem_cons_zero, List.getElem_cons_succ, List.setIfInBounds_toArray, List.set_cons_zero, List.set_cons_succ, h5] at hK ⊢
      have hW : Fr [] w15 w' := (Fr.refl [] w15).drew.trans hG
      refine Eq.mpr (if_pos (by rfl)) ?_
      go_simp
      refine (pBytes_any (r := r) ⟨_, rfl, Sl.keep HBD.out hW⟩ HSM.out).mono ?_
      rintro e wz ⟨vz, rfl, hO, hF⟩
      go_simp
      exact hK.out _ _ hF (hG.trans hF) hO.v
    · intro vs w' hG hd K hK
      obtain ⟨h4, h6, -⟩ := hd
      replace h4 : BtV w' (vs 4) r.bt.cut := h4
      replace h6 : BtV w' (vs 6) r.bt.cut := h6
      simp only [canonD, Act.put, List.getElem_toArray, List.getElem_cons_zero, List.getElem_cons_succ, List.setIfInBounds_toArray, List.set_cons_zero, List.set_cons_succ] at hK ⊢
      generalize vs 4 = v4 at *
      generalize vs 6 = v6 at *
      refine Eq.mpr (if_pos (by rfl)) ?_
      go_simp
      refine (impSame_any (x := r.bt.cut) (y := r.bt.cut) h4 h6 HSM.out HSM.out).mono ?_
      rintro e wz ⟨rfl, hF⟩
      go_simp
      exact hK.out _ _ hF (hG.trans hF) (by show Value.bool _ = _; rw [Bt.same_refl])
    · intro vs w' hG hd K hK
      obtain ⟨h7, -⟩ := hd
      replace h7 : vs 7 = _ := h7
      simp only [canonD, Act.put, List.getElem_toArray, List.getElem_cons_zero, List.getElem_cons_succ, List.setIfInBounds_toArray, List.set_cons_zero, List.set_cons_succ, h7] at hK ⊢
      refine Eq.mpr (if_pos (by rfl)) ?_
      go_simp
      refine hK.out _ _ (Fr.refl _ _) hG ?_
      show _ = _
      rfl
    · intro vs w' hG hd K hK
      obtain ⟨h8, -⟩ := hd
      replace h8 : vs 8 = _ := h8
      simp only [canonD, Act.put, List.getElem_toArray, List.getElem_cons_zero, List.getElem_cons_succ, List.setIfInBounds_toArray, List.set_cons_zero, List.set_cons_succ, h8] at hK ⊢
      refine Eq.mpr (if_pos (by rfl)) ?_
      go_simp
      refine hK.out _ _ (Fr.refl _ _) hG ?_
      show _ = _
      rfl
    · intro vs w' hG hd K hK
      obtain ⟨h8, h9, -⟩ := hd
      replace h8 : vs 8 = _ := h8
      replace h9 : vs 9 = _ := h9
      simp only [canonD, Act.put, List.getElem_toArray, List.getElem_cons_zero, List.getElem_cons_succ, List.setIfInBounds_toArray, List.set_cons_zero, List.set_cons_succ, h8, h9] at hK ⊢
      have hW : Fr [] w15 w' := (Fr.refl [] w15).drew.trans hG
      have x11 := (HR.out.keep hW).cell 11
      simp only [rpc, List.getElem?_toArray, List.getElem?_cons_succ, List.getElem?_cons_zero] at x11
      refine Eq.mpr (if_pos (by rfl)) ?_
      go_simp
      refine hK.out _ _ (Fr.refl _ _) hG ?_
      show _ = _
      rfl
    · intro vs w' hG hd K hK
      obtain ⟨h8, h10, -⟩ := hd
      replace h8 : vs 8 = _ := h8
      replace h10 : vs 10 = _ := h10
      simp only [canonD, Act.put, List.getElem_toArray, List.getElem_cons_zero, List.getElem_cons_succ, List.setIfInBounds_toArray, List.set_cons_zero, List.set_cons_succ, h8, h10] at hK ⊢
      refine Eq.mpr (if_pos (by rfl)) ?_
      go_simp
      refine hK.out _ _ (Fr.refl _ _) hG ?_
      show _ = _
      rfl
    · intro vs w' hG hd K hK
      obtain ⟨h8, -⟩ := hd
      replace h8 : vs 8 = _ := h8
      simp only [canonD, Act.put, List.getElem_toArray, List.getElem_cons_zero, List.getElem_cons_succ, List.setIfInBounds_toArray, List.set_cons_zero, List.set_cons_succ, h8] at hK ⊢
      refine Eq.mpr (if_pos (by rfl)) ?_
      go_simp
      refine hK.out _ _ (Fr.refl _ _) hG ?_
      show _ = _
      rfl
    · intro vs w' hG hd K hK
      obtain ⟨h8, h12, -⟩ := hd
      replace h8 : vs 8 = _ := h8
      replace h12 : vs 12 = _ := h12
      simp only [canonD, Act.put, List.getElem_toArray, List.getElem_cons_zero, List.getElem_cons_succ, List.setIfInBounds_toArray, List.set_cons_zero, List.set_cons_succ, h8, h12] at hK ⊢
      have hW : Fr [] w15 w' := (Fr.refl [] w15).drew.trans hG
      have x11 := (HAR.out.keep hW).cell 11
      simp only [rpc, List.getElem?_toArray, List.getElem?_cons_succ, List.getElem?_cons_zero] at x11
      refine Eq.mpr (if_pos (by rfl)) ?_
      go_simp
      refine hK.out _ _ (Fr.refl _ _) hG ?_
      show _ = _
      rfl
    · intro vs w' hG hd K hK
      obtain ⟨h8, h13, -⟩ := hd
      replace h8 : vs 8 = _ := h8
      replace h13 : vs 13 = _ := h13
      simp only [canonD, Act.put, List.getElem_toArray, List.getElem_cons_zero, List.getElem_cons_succ, List.setIfInBounds_toArray, List.set_cons_zero, List.set_cons_succ, h8, h13] at hK ⊢
      refine Eq.mpr (if_pos (by rfl)) ?_
      go_simp
      refine hK.out _ _ (Fr.refl _ _) hG ?_
      show _ = _
      rfl
    · intro vs w' hG hd K hK
      obtain ⟨h8, -⟩ := hd
      replace h8 : vs 8 = _ := h8
      simp only [canonD, Act.put, List.getElem_toArray, List.getElem_cons_zero, List.getElem_cons_succ, List.setIfInBounds_toArray, List.set_cons_zero, List.set_cons_succ, h8] at hK ⊢
      refine Eq.mpr (if_pos (by rfl)) ?_
      go_simp
      refine hK.out _ _ (Fr.refl _ _) hG ?_
      show _ = _
      rfl
    · intro vs w' hG hd K hK
      obtain ⟨h8, h15, -⟩ := hd
      replace h8 : vs 8 = _ := h8
      replace h15 : vs 15 = _ := h15
      simp only [canonD, Act.put, List.getElem_toArray, List.getElem_cons_zero, List.getElem_cons_succ, List.setIfInBounds_toArray, List.set_cons_zero, List.set_cons_succ, h8, h15] at hK ⊢
      have hW : Fr [] w15 w' := (Fr.refl [] w15).drew.trans hG
      have x11 := (HBR.out.keep hW).cell 11
      simp only [rpc, List.getElem?_toArray, List.getElem?_cons_succ, List.getElem?_cons_zero] at x11
      refine Eq.mpr (if_pos (by rfl)) ?_
      go_simp
      refine hK.out _ _ (Fr.refl _ _) hG ?_
      show _ = _
      rfl
    · intro vs w' hG hd K hK
      obtain ⟨h8, h16, -⟩ := hd
      replace h8 : vs 8 = _ := h8
      replace h16 : vs 16 = _ := h16
      simp only [canonD, Act.put, List.getElem_toArray, List.getElem_cons_zero, List.getElem_cons_succ, List.setIfInBounds_toArray, List.set_cons_zero, List.set_cons_succ, h8, h16] at hK ⊢
      refine Eq.mpr (if_pos (by rfl)) ?_
      go_simp
      refine hK.out _ _ (Fr.refl _ _) hG ?_
      show _ = _
      rfl
    · intro vs w' hG hd K hK
      obtain ⟨h8, h14, h17, -⟩ := hd
      replace h8 : vs 8 = _ := h8
      replace h14 : vs 14 = _ := h14
      replace h17 : vs 17 = _ := h17
      simp only [canonD, Act.put, List.getElem_toArray, List.getElem_cons_zero, List.getElem_cons_succ, List.setIfInBounds_toArray, List.set_cons_zero, List.set_cons_succ, h8, h14, h17] at hK ⊢
      refine Eq.mpr (if_pos (by rfl)) ?_
      go_simp
      refine hK.out _ _ (Fr.refl _ _) hG ?_
      show _ = _
      rfl
    · intro vs w' hG hd K hK
      obtain ⟨h8, h11, h18, -⟩ := hd
      replace h8 : vs 8 = _ := h8
      replace h11 : vs 11 = _ := h11
      replace h18 : vs 18 = _ := h18
      simp only [canonD, Act.put, List.getElem_toArray, List.getElem_cons_zero, List.getElem_cons_succ, List.setIfInBounds_toArray, List.set_cons_zero, List.set_cons_succ, h8, h11, h18] at hK ⊢
      refine Eq.mpr (if_pos (by rfl)) ?_
      go_simp
      refine hK.out _ _ (Fr.refl _ _) hG ?_
      show Value.bool _ = _
      rw [HMX.out]
      simp
      omega
    · intro vs w' hG hd K hK
      obtain ⟨h8, h19, -⟩ := hd
      replace h8 : vs 8 = _ := h8
      replace h19 : vs 19 = _ := h19
      simp only [canonD, Act.put, List.getElem_toArray, List.getElem_cons_zero, List.getElem_cons_succ, List.setIfInBounds_toArray, List.set_cons_zero, List.set_cons_succ, h8, h19] at hK ⊢
      refine Eq.mpr (if_pos (by rfl)) ?_
      go_simp
      refine hK.out _ _ (Fr.refl _ _) hG ?_
      show _ = _
      rfl
    · intro vs w' hG hd K hK
      obtain ⟨h20, -⟩ := hd
      replace h20 : vs 20 = _ := h20
      simp only [canonD, Act.put, List.getElem_toArray, List.getElem_cons_zero, List.getElem_cons_succ, List.setIfInBounds_toArray, List.set_cons_zero, List.set_cons_succ, h20] at hK ⊢
      refine Eq.mpr (if_pos (by rfl)) ?_
      go_simp
      refine hK.out _ _ (Fr.refl _ _) hG ?_
      show _ = _
      rfl
    · intro vs w' hG hd K hK
      obtain ⟨h21, -⟩ := hd
      replace h21 : vs 21 = _ := h21
      simp only [canonD, Act.put, List.getElem_toArray, List.getElem_cons_zero, List.getElem_cons_succ, List.setIfInBounds_toArray, List.set_cons_zero, List.set_cons_succ, h21] at hK ⊢
      refine Eq.mpr (if_pos (by rfl)) ?_
      go_simp
      refine hK.out _ _ (Fr.refl _ _) hG ?_
      show _ = _
      rfl
    · intro vs w' hG hd K hK
      obtain ⟨h21, h22, -⟩ := hd
      replace h21 : vs 21 = _ := h21
      replace h22 : vs 22 = _ := h22
      simp only [canonD, Act.put, List.getElem_toArray, List.getElem_cons_zero, List.getElem_cons_succ, List.setIfInBounds_toArray, List.set_cons_zero, List.set_cons_succ, h21, h22] at hK ⊢
      refine Eq.mpr (if_pos (by rfl)) ?_
      go_simp
      refine hK.out _ _ (Fr.refl _ _) hG ?_
      show _ = _
      rfl
    · intro vs w' hG hd K hK
      obtain ⟨h21, h23, -⟩ := hd
      replace h21 : vs 21 = _ := h21
      replace h23 : vs 23 = _ := h23
      simp only [canonD, Act.put, List.getElem_toArray, List.getElem_cons_zero, List.getElem_cons_succ, List.setIfInBounds_toArray, List.set_cons_zero, List.set_cons_succ, h21, h23] at hK ⊢
      refine Eq.mpr (if_pos (by rfl)) ?_
      go_simp
      refine hK.out _ _ (Fr.refl _ _) hG ?_
      show _ = _
      rfl
    · intro vs w' hG hd K hK
      obtain ⟨h24, -⟩ := hd
      replace h24 : vs 24 = _ := h24
      simp only [canonD, Act.put, List.getElem_toArray, List.getElem_cons_zero, List.getElem_cons_succ, List.setIfInBounds_toArray, List.set_cons_zero, List.set_cons_succ, h24] at hK ⊢
      refine Eq.mpr (if_pos (by rfl)) ?_
      go_simp
      refine hK.out _ _ (Fr.refl _ _) hG ?_
      show _ = _
      rfl
    · intro vs w' hG hd K hK
      obtain ⟨h25, -⟩ := hd
      replace h25 : vs 25 = _ := h25
      simp only [canonD, Act.put, List.getElem_toArray, List.getElem_cons_zero, List.getElem_cons_succ, List.setIfInBounds_toArray, List.set_cons_zero, List.set_cons_succ, h25] at hK ⊢
      refine Eq.mpr (if_pos (by rfl)) ?_
      go_simp
      refine hK.out _ _ (Fr.refl _ _) hG ?_
      show _ = _
      rfl
    · intro vs w' hG hd K hK
      obtain ⟨h25, h26, -⟩ := hd
      replace h25 : vs 25 = _ := h25
      replace h26 : vs 26 = _ := h26
      simp only [canonD, Act.put, List.getElem_toArray, List.getElem_cons_zero, List.getElem_cons_succ, List.setIfInBounds_toArray, List.set_cons_zero, List.set_cons_succ, h25, h26] at hK ⊢
      refine Eq.mpr (if_pos (by rfl)) ?_
      go_simp
      refine hK.out _ _ (Fr.refl _ _) hG ?_
      show _ = _
      rfl
    · intro vs w' hG hd K hK
      obtain ⟨h25, h27, -⟩ := hd
      replace h25 : vs 25 = _ := h25
      replace h27 : vs 27 = _ := h27
      simp only [canonD, Act.put, List.getElem_toArray, List.getElem_cons_zero, List.getElem_cons_succ, List.setIfInBounds_toArray, List.set_cons_zero, List.set_cons_succ, h25, h27] at hK ⊢
      refine Eq.mpr (if_pos (by rfl)) ?_
      go_simp
      refine hK.out _ _ (Fr.refl _ _) hG ?_
      show _ = _
      rfl
    · intro vs w' hG hd K hK
      obtain ⟨h25, h28, -⟩ := hd
      replace h25 : vs 25 = _ := h25
      replace h28 : vs 28 = _ := h28
      simp only [canonD, Act.put, List.getElem_toArray, List.getElem_cons_zero, List.getElem_cons_succ, List.setIfInBounds_toArray, List.set_cons_zero, List.set_cons_succ, h25, h28] at hK ⊢
      refine Eq.mpr (if_pos (by rfl)) ?_
      go_simp
      refine hK.out _ _ (Fr.refl _ _) hG ?_
      show _ = _
      rfl
    · intro vs w' hG hd K hK
      obtain ⟨h29, -⟩ := hd
      replace h29 : vs 29 = _ := h29
      simp only [canonD, Act.put, List.getElem_toArray, List.getElem_cons_zero, List.getElem_cons_succ, List.setIfInBounds_toArray, List.set_cons_zero, List.set_cons_succ, h29] at hK ⊢
      refine Eq.mpr (if_pos (by rfl)) ?_
      go_simp
      refine hK.out _ _ (Fr.refl _ _) hG ?_
      show _ = _
      rfl
    · intro vs w' hG hd K hK
      obtain ⟨h30, -⟩ := hd
      replace h30 : vs 30 = _ := h30
      simp only [canonD, Act.put, List.getElem_toArray, List.getElem_cons_zero, List.getElem_cons_succ, List.setIfInBounds_toArray, List.set_cons_zero, List.set_cons_succ, h30] at hK ⊢
      refine Eq.mpr (if_pos (by rfl)) ?_
      go_simp
      refine hK.out _ _ (Fr.refl _ _) hG ?_
      show _ = _
      rfl
    · intro vs w' hG hd K hK
      obtain ⟨h30, h31, -⟩ := hd
      replace h30 : vs 30 = _ := h30
      replace h31 : vs 31 = _ := h31
      simp only [canonD, Act.put, List.getElem_toArray, List.getElem_cons_zero, List.getElem_cons_succ, List.setIfInBounds_toArray, List.set_cons_zero, List.set_cons_succ, h30, h31] at hK ⊢
      refine Eq.mpr (if_pos (by rfl)) ?_
      go_simp
      refine hK.out _ _ (Fr.refl _ _) hG ?_
      show _ = _
      rfl
    · intro vs w' hG hd K hK
      obtain ⟨h30, h32, -⟩ := hd
      replace h30 : vs 30 = _ := h30
      replace h32 : vs 32 = _ := h32
      simp only [canonD, Act.put, List.getElem_toArray, List.getElem_cons_zero, List.getElem_cons_succ, List.setIfInBounds_toArray, List.set_cons_zero, List.set_cons_succ, h30, h32] at hK ⊢
      have hW : Fr [] w15 w' := (Fr.refl [] w15).drew.trans hG
      refine Eq.mpr (if_pos (by rfl)) ?_
      refine wp_load_mid 58 (.tmp 141) rfl b20 (o20) rfl (rpc qa (.slice aa na ca)).toList _ (fun j u hj => (hW.cellSome (HRA.out j u hj) (by simp))) Try.underlying58 rfl (by kernel_rfl) ?_
      refine hK.out _ _ (Fr.refl _ _) hG ?_
      show _ = _
      rfl
    · intro vs w' hG hd K hK
      obtain ⟨h30, -⟩ := hd
      replace h30 : vs 30 = _ := h30
      simp only [canonD, Act.put, List.getElem_toArray, List.getElem_cons_zero, List.getElem_cons_succ, List.setIfInBounds_toArray, List.set_cons_zero, List.set_cons_succ, h30] at hK ⊢
      refine Eq.mpr (if_pos (by rfl)) ?_
      go_simp
      refine hK.out _ _ (Fr.refl _ _) hG ?_
      show _ = _
      rfl
    · intro vs w' hG hd K hK
      obtain ⟨h30, h34, -⟩ := hd
      replace h30 : vs 30 = _ := h30
      replace h34 : vs 34 = _ := h34
      simp only [canonD, Act.put, List.getElem_toArray, List.getElem_cons_zero, List.getElem_cons_succ, List.setIfInBounds_toArray, List.set_cons_zero, List.set_cons_succ, h30, h34] at hK ⊢
      refine Eq.mpr (if_pos (by rfl)) ?_
      go_simp
      refine hK.out _ _ (Fr.refl _ _) hG ?_
      show _ = _
      rfl
    · intro vs w' hG hd K hK
      obtain ⟨h30, h33, h35, -⟩ := hd
      replace h30 : vs 30 = _ := h30
      replace h33 : vs 33 = _ := h33
      replace h35 : vs 35 = _ := h35
      simp only [canonD, Act.put, List.getElem_toArray, List.getElem_cons_zero, List.getElem_cons_succ, List.setIfInBounds_toArray, List.set_cons_zero, List.set_cons_succ, h30, h33, h35] at hK ⊢
      have hW : Fr [] w15 w' := (Fr.refl [] w15).drew.trans hG
      refine Eq.mpr (if_pos (by rfl)) ?_
      go_simp
      refine (pHolds_any (r := qa) ⟨_, rfl, Sl.keep HQAB.out hW⟩ (HFST.out.keep hW) HQAS.out).mono ?_
      rintro e wz ⟨rfl, hF⟩
      go_simp
      exact hK.out _ _ hF (hG.trans hF) (by show Value.bool _ = _; rw [holds_self HQA.out])
    · intro vs w' hG hd K hK
      obtain ⟨h30, h36, -⟩ := hd
      replace h30 : vs 30 = _ := h30
      replace h36 : vs 36 = _ := h36
      simp only [canonD, Act.put, List.getElem_toArray, List.getElem_cons_zero, List.getElem_cons_succ, List.setIfInBounds_toArray, List.set_cons_zero, List.set_cons_succ, h30, h36] at hK ⊢
      refine Eq.mpr (if_pos (by rfl)) ?_
      go_simp
      refine hK.out _ _ (Fr.refl _ _) hG ?_
      show _ = _
      rfl
    · intro vs w' hG hd K hK
      obtain ⟨h37, -⟩ := hd
      replace h37 : vs 37 = _ := h37
      simp only [canonD, Act.put, List.getElem_toArray, List.getElem_cons_zero, List.getElem_cons_succ, List.setIfInBounds_toArray, List.set_cons_zero, List.set_cons_succ, h37] at hK ⊢
      refine Eq.mpr (if_pos (by rfl)) ?_
      go_simp
      refine hK.out _ _ (Fr.refl _ _) hG ?_
      show _ = _
      rfl
    · intro vs w' hG hd K hK
      obtain ⟨h38, -⟩ := hd
      replace h38 : vs 38 = _ := h38
      simp only [canonD, Act.put, List.getElem_toArray, List.getElem_cons_zero, List.getElem_cons_succ, List.setIfInBounds_toArray, List.set_cons_zero, List.set_cons_succ, h38] at hK ⊢
      refine Eq.mpr (if_pos (by rfl)) ?_
      go_simp
      refine hK.out _ _ (Fr.refl _ _) hG ?_
      show _ = _
      rfl
    · intro vs w' hG hd K hK
      obtain ⟨h38, h39, -⟩ := hd
      replace h38 : vs 38 = _ := h38
      replace h39 : vs 39 = _ := h39
      simp only [canonD, Act.put, List.getElem_toArray, List.getElem_cons_zero, List.getElem_cons_succ, List.setIfInBounds_toArray, List.set_cons_zero, List.set_cons_succ, h38, h39] at hK ⊢
      refine Eq.mpr (if_pos (by rfl)) ?_
      go_simp
      refine hK.out _ _ (Fr.refl _ _) hG ?_
      show _ = _
      rfl
    · intro vs w' hG hd K hK
      obtain ⟨h38, h40, -⟩ := hd
      replace h38 : vs 38 = _ := h38
      replace h40 : vs 40 = _ := h40
      simp only [canonD, Act.put, List.getElem_toArray, List.getElem_cons_zero, List.getElem_cons_succ, List.setIfInBounds_toArray, List.set_cons_zero, List.set_cons_succ, h38, h40] at hK ⊢
      have hW : Fr [] w15 w' := (Fr.refl [] w15).drew.trans hG
      refine Eq.mpr (if_pos (by rfl)) ?_
      refine wp_load_mid 58 (.tmp 149) rfl b20 (o20 + 12) rfl (rpc qb (.slice ab nb cb)).toList _ (fun j u hj => (hW.cellSome (HRB.out j u hj) (by simp))) Try.underlying58 rfl (by kernel_rfl) ?_
      refine hK.out _ _ (Fr.refl _ _) hG ?_
      show _ = _
      rfl
    · intro vs w' hG hd K hK
      obtain ⟨h38, -⟩ := hd
      replace h38 : vs 38 = _ := h38
      simp only [canonD, Act.put, List.getElem_toArray, List.getElem_cons_zero, List.getElem_cons_succ, List.setIfInBounds_toArray, List.set_cons_zero, List.set_cons_succ, h38] at hK ⊢
      refine Eq.mpr (if_pos (by rfl)) ?_
      go_simp
      refine hK.out _ _ (Fr.refl _ _) hG ?_
      show _ = _
      rfl
    · intro vs w' hG hd K hK
      obtain ⟨h38, -⟩ := hd
      replace h38 : vs 38 = _ := h38
      simp only [canonD, Act.put, List.getElem_toArray, List.getElem_cons_zero, List.getElem_cons_succ, List.setIfInBounds_toArray, List.set_cons_zero, List.set_cons_succ, h38] at hK ⊢
      refine Eq.mpr (if_pos (by rfl)) ?_
      go_simp
      refine hK.out _ _ (Fr.refl _ _) hG ?_
      show _ = _
      rfl
    · intro vs w' hG hd K hK
      obtain ⟨h38, h43, -⟩ := hd
      replace h38 : vs 38 = _ := h38
      replace h43 : vs 43 = _ := h43
      simp only [canonD, Act.put, List.getElem_toArray, List.getElem_cons_zero, List.getElem_cons_succ, List.setIfInBounds_toArray, List.set_cons_zero, List.set_cons_succ, h38, h43] at hK ⊢
      refine Eq.mpr (if_pos (by rfl)) ?_
      go_simp
      refine hK.out _ _ (Fr.refl _ _) hG ?_
      show _ = _
      rfl
    · intro vs w' hG hd K hK
      obtain ⟨h38, h44, -⟩ := hd
      replace h38 : vs 38 = _ := h38
      replace h44 : vs 44 = _ := h44
      simp only [canonD, Act.put, List.getElem_toArray, List.getElem_cons_zero, List.getElem_cons_succ, List.setIfInBounds_toArray, List.set_cons_zero, List.set_cons_succ, h38, h44] at hK ⊢
      refine Eq.mpr (if_pos (by rfl)) ?_
      go_simp
      refine hK.out _ _ (Fr.refl _ _) hG ?_
      show _ = _
      rfl
    · intro vs w' hG hd K hK
      obtain ⟨h38, h42, h45, -⟩ := hd
      replace h38 : vs 38 = _ := h38
      replace h42 : vs 42 = _ := h42
      replace h45 : vs 45 = _ := h45
      simp only [canonD, Act.put, List.getElem_toArray, List.getElem_cons_zero, List.getElem_cons_succ, List.setIfInBounds_toArray, List.set_cons_zero, List.set_cons_succ, h38, h42, h45] at hK ⊢
      refine Eq.mpr (if_pos (by rfl)) ?_
      go_simp
      refine hK.out _ _ (Fr.refl _ _) hG ?_
      show _ = _
      rfl
    · intro vs w' hG hd K hK
      obtain ⟨h38, h41, h46, -⟩ := hd
      replace h38 : vs 38 = _ := h38
      replace h41 : vs 41 = _ := h41
      replace h46 : vs 46 = _ := h46
      simp only [canonD, Act.put, List.getElem_toArray, List.getElem_cons_zero, List.getElem_cons_succ, List.setIfInBounds_toArray, List.set_cons_zero, List.set_cons_succ, h38, h41, h46] at hK ⊢
      have hW : Fr [] w15 w' := (Fr.refl [] w15).drew.trans hG
      refine Eq.mpr (if_pos (by rfl)) ?_
      go_simp
      refine (pHolds_any (r := qb) ⟨_, rfl, Sl.keep HQBB.out hW⟩ (HLAST.out.keep hW) HQBS.out).mono ?_
      rintro e wz ⟨rfl, hF⟩
      go_simp
      exact hK.out _ _ hF (hG.trans hF) (by show Value.bool _ = _; rw [holds_self HQB.out])
    · intro vs w' hG hd K hK
      obtain ⟨h38, h47, -⟩ := hd
      replace h38 : vs 38 = _ := h38
      replace h47 : vs 47 = _ := h47
      simp only [canonD, Act.put, List.getElem_toArray, List.getElem_cons_zero, List.getElem_cons_succ, List.setIfInBounds_toArray, List.set_cons_zero, List.set_cons_succ, h38, h47] at hK ⊢
      refine Eq.mpr (if_pos (by rfl)) ?_
      go_simp
      refine hK.out _ _ (Fr.refl _ _) hG ?_
      show _ = _
      rfl
    · intro vs w' hG hd K hK
      obtain ⟨h48, -⟩ := hd
      replace h48 : vs 48 = _ := h48
      simp only [canonD, Act.put, List.getElem_toArray, List.getElem_cons_zero, List.getElem_cons_succ, List.setIfInBounds_toArray, List.set_cons_zero, List.set_cons_succ, h48] at hK ⊢
      refine Eq.mpr (if_pos (by rfl)) ?_
      go_simp
      refine hK.out _ _ (Fr.refl _ _) hG ?_
      show _ = _
      rfl
    intro vs w' hG hP
    obtain ⟨h0, h1, h2, h3, h4, h5, h6, h7, h8, h9, h10, h11, h12, h13, h14, h15, h16, h17, h18, h19, h20, h21, h22, h23, h24, h25, h26, h27, h28, h29, h30, h31, h32, h33, h34, h35, h36, h37, h38, h39, h40, h41, h42, h43, h44, h45, h46, h47, h48, h49, -⟩ := hP
    replace h0 : vs 0 = _ := h0
    replace h1 : BtV w' (vs 1) a.bt.cut := h1
    replace h2 : vs 2 = _ := h2
    replace h3 : BtV w' (vs 3) b_.bt.cut := h3
    replace h4 : BtV w' (vs 4) r.bt.cut := h4
    replace h5 : vs 5 = _ := h5
    replace h6 : BtV w' (vs 6) r.bt.cut := h6
    replace h7 : vs 7 = _ := h7
    replace h8 : vs 8 = _ := h8
    replace h9 : vs 9 = _ := h9
    replace h10 : vs 10 = _ := h10
    replace h11 : vs 11 = _ := h11
    replace h12 : vs 12 = _ := h12
    replace h13 : vs 13 = _ := h13
    replace h14 : vs 14 = _ := h14
    replace h15 : vs 15 = _ := h15
    replace h16 : vs 16 = _ := h16
    replace h17 : vs 17 = _ := h17
    replace h18 : vs 18 = _ := h18
    replace h19 : vs 19 = _ := h19
    replace h20 : vs 20 = _ := h20
    replace h21 : vs 21 = _ := h21
    replace h22 : vs 22 = _ := h22
    replace h23 : vs 23 = _ := h23
    replace h24 : vs 24 = _ := h24
    replace h25 : vs 25 = _ := h25
    replace h26 : vs 26 = _ := h26
    replace h27 : vs 27 = _ := h27
    replace h28 : vs 28 = _ := h28
    replace h29 : vs 29 = _ := h29
    replace h30 : vs 30 = _ := h30
    replace h31 : vs 31 = _ := h31
    replace h32 : vs 32 = _ := h32
    replace h33 : vs 33 = _ := h33
    replace h34 : vs 34 = _ := h34
    replace h35 : vs 35 = _ := h35
    replace h36 : vs 36 = _ := h36
    replace h37 : vs 37 = _ := h37
    replace h38 : vs 38 = _ := h38
    replace h39 : vs 39 = _ := h39
    replace h40 : vs 40 = _ := h40
    replace h41 : vs 41 = _ := h41
    replace h42 : vs 42 = _ := h42
    replace h43 : vs 43 = _ := h43
    replace h44 : vs 44 = _ := h44
    replace h45 : vs 45 = _ := h45
    replace h46 : vs 46 = _ := h46
    replace h47 : vs 47 = _ := h47
    replace h48 : vs 48 = _ := h48
    replace h49 : vs 49 = _ := h49
    simp only [canonD, Act.put, List.getElem_toArray, List.getElem_cons_zero, List.getElem_cons_succ, List.setIfInBounds_toArray, List.set_cons_zero, List.set_cons_succ, h0, h2, h5, h7, h8, h9, h10, h11, h12, h13, h14, h15, h16, h17, h18, h19, h20, h21, h22, h23, h24, h25, h26, h27, h28, h29, h30, h31, h32, h33, h34, h35, h36, h37, h38, h39, h40, h41, h42, h43, h44, h45, h46, h47, h48, h49]
    generalize vs 1 = v1 at *
    generalize vs 3 = v3 at *
    generalize vs 4 = v4 at *
    generalize vs 6 = v6 at *
    clear h0 h2 h5 h7 h8 h9 h10 h11 h12 h13 h14 h15 h16 h17 h18 h19 h20 h21 h22 h23 h24 h25 h26 h27 h28 h29 h30 h31 h32 h33 h34 h35 h36 h37 h38 h39 h40 h41 h42 h43 h44 h45 h46 h47 h48 h49
    have hF := (Fr.refl [] w15).drew.trans hG
    have HF := Lib.hid (HF.out.trans hF)
    clear hF hG h1 h3 h4 h6
    go_wp2_with fail
    go_ret
    first | exact ⟨rfl, HF.out⟩ | exact ⟨ret_bool (by simp), HF.out⟩
end Go.Proofs.Ytchbgiindfoepaa
