/- The walk of confluxlaw12.ImprintPackets (printed by gen_imp13.py). -/
import Derived.Test.YticoongkfhkjgaaImpAlike
import Derived.Test.YticoongkfhkjgaaRules
import Derived.Test.YticoongkfhkjgaaImp6
namespace Go.Proofs.Yticoongkfhkjgaa
open Go.RowKit

/-- What Packet answers: the code, the bytes. -/
def PK (x : Bt) (s : UInt16) (t : UInt32) (k : Int) (l : List UInt8) : Prop := (x.pack s t = .ok l ∧ k = 0) ∨ (x.pack s t = .error 42 ∧ k = 42 ∧ l = [])
theorem PK.one {x : Bt} {s : UInt16} {t : UInt32} {k k' : Int} {l l' : List UInt8} (h : PK x s t k l) (h' : PK x s t k' l') : k = k' ∧ l = l' := by
  rcases h with ⟨h1, rfl⟩ | ⟨h1, rfl, rfl⟩ <;> rcases h' with ⟨h2, rfl⟩ | ⟨h2, rfl, rfl⟩ <;> rw [h1] at h2 <;> cases h2 <;> exact ⟨rfl, rfl⟩
theorem PK.small {x : Bt} {s : UInt16} {t : UInt32} {k : Int} {l : List UInt8} (h : PK x s t k l) : l.length ≤ 1500 := by
  rcases h with ⟨h1, rfl⟩ | ⟨h1, rfl, rfl⟩
  · unfold Bt.pack at h1
    split at h1
    · cases h1
    · split at h1
      · rename_i hp
        cases h1
        exact (parse_len hp).2
      · cases h1
  · simp
theorem impPacket_pk {w : World} {v : Value} {x : Bt} (h : BtV w v x) (hl : x.body.length ≤ 1099511627776) (s : UInt16) (t : UInt32) :
    Calls Try.prog 22 #[v, .int .u16 (s.toNat : Nat), .int .u32 (t.toNat : Nat)] w fun e w' => ∃ k l v', PK x s t k l ∧ e = .returned (.tuple #[v', .int .i64 k]) ∧ Bytes w' v' l ∧ Fr [] w w' :=
  (impPacket_any h hl s t).mono fun e w' h => by
    rcases h with ⟨l, v', hp, rfl, hO, hF⟩ | ⟨hp, rfl, hF⟩
    · exact ⟨_, _, _, .inl ⟨hp, rfl⟩, rfl, hO.bytes, hF⟩
    · exact ⟨_, _, _, .inr ⟨hp, rfl, rfl⟩, rfl, Sl.nil _, hF⟩
theorem r12Packet_pk {w : World} {v : Value} {x : Bt} (h : RBV w v x.head x.body) (hl : x.body.length ≤ 1099511627776) (s : UInt16) (t : UInt32) :
    Calls Try.prog 23 #[v, .int .u16 (s.toNat : Nat), .int .u32 (t.toNat : Nat)] w fun e w' => ∃ k l v', PK x s t k l ∧ e = .returned (.tuple #[v', .int .i64 k]) ∧ Bytes w' v' l ∧ Fr [] w w' :=
  (r12Packet_any h hl s t).mono fun e w' h => by
    rcases h with ⟨l, v', hp, rfl, hO, hF⟩ | ⟨hp, rfl, hF⟩
    · exact ⟨_, _, _, .inl ⟨hp, rfl⟩, rfl, hO, hF⟩
    · exact ⟨_, _, _, .inr ⟨hp, rfl, rfl⟩, rfl, Sl.nil _, hF⟩
theorem len_wrap (x : Bt) : ((x.len : Nat) : Int) = IntKind.i64.wrap (IntKind.i64.wrap (256 * IntKind.i64.wrap ((x.h6.toNat : Nat) : Int)) + IntKind.i64.wrap ((x.h7.toNat : Nat) : Int)) := by
  have h6 := x.h6.toNat_lt
  have h7 := x.h7.toNat_lt
  have e6 : IntKind.i64.wrap ((x.h6.toNat : Nat) : Int) = x.h6.toNat := IntWalk.i64_in _ (by omega)
  have e7 : IntKind.i64.wrap ((x.h7.toNat : Nat) : Int) = x.h7.toNat := IntWalk.i64_in _ (by omega)
  have e8 : IntKind.i64.wrap (256 * ((x.h6.toNat : Nat) : Int)) = 256 * ((x.h6.toNat : Nat) : Int) := IntWalk.i64_in _ (by omega)
  have e9 : IntKind.i64.wrap (256 * ((x.h6.toNat : Nat) : Int) + ((x.h7.toNat : Nat) : Int)) = 256 * ((x.h6.toNat : Nat) : Int) + ((x.h7.toNat : Nat) : Int) := IntWalk.i64_in _ (by omega)
  rw [e6, e7, e8, e9]
  unfold Bt.len
  omega
theorem like_add (x y : Bt) : (((x.add y).head == xb x.head y.head) && ((x.add y).body == xb x.body y.body)) = true := by
  rw [Bt.head_add]
  simp [Bt.add]
theorem xb_small {a b : List UInt8} {n : Nat} (ha : a.length ≤ n) (hb : b.length ≤ n) : (xb a b).length ≤ n := by rw [xb_len]; omega

set_option maxRecDepth 100000 in
set_option maxHeartbeats 8000000 in
theorem ImprintPackets_any {w : World} {v1 v2 : Value} {x y : Bt} (hx : BtV w v1 x) (hy : BtV w v2 y) (s : UInt16) (t : UInt32) :
    Calls Try.prog 4 #[v1, v2, .int .u16 (s.toNat : Nat), .int .u32 (t.toNat : Nat)] w fun e w' => e = .returned (.bool true) ∧ Fr [] w w' := by
  obtain ⟨a1, c1, rfl, hbx⟩ := hx.open_
  obtain ⟨a2, c2, rfl, hby⟩ := hy.open_
  have hlx := (Sl.len hbx).2; have hly := (Sl.len hby).2
  unfold maxLen at hlx hly
  obtain ⟨w1, e1, hF1, hB1, hB2, hs1⟩ := two_new w (bc x (.slice a1 x.body.length c1)) 27 (bc y (.slice a2 y.body.length c2)) 27
  have HF := Lib.hid hF1; have HX := Lib.hid (hbx.keep hF1); have HY := Lib.hid (hby.keep hF1); have HXB := Lib.hid hB1; have HYB := Lib.hid hB2
  have E1 := Lib.hid e1
  clear hx hy hbx hby hF1 hB1 hB2 hs1 e1
  go_enter Try.func4, Try.ntmps4
  go_upto_region 1 with (fail)
  rw [E1.out]
  clear E1
  generalize hgx : w.heap.size = gx at *
  have HGX := Lib.hid hgx
  clear hgx
  go_wp2_with fail
  refine l12alive_any.mono ?_
  rintro e w2 ⟨rfl, hF⟩
  have HF := Lib.hid (HF.out.trans hF)
  have HX := Lib.hid (Sl.keep HX.out hF)
  have HY := Lib.hid (Sl.keep HY.out hF)
  have HXB := Lib.hid (HXB.out.keep hF)
  have HYB := Lib.hid (HYB.out.keep hF)
  clear hF
  have zx := HXB.out.cell 8; have zy := HYB.out.cell 8
  simp only [bc, List.getElem?_toArray, List.getElem?_cons_succ, List.getElem?_cons_zero] at zx zy
  by_cases hbig : 2000 < x.body.length
  · go_wp2_with fail
    go_ret
    first | exact ⟨rfl, HF.out⟩ | exact ⟨ret_bool (by simp), HF.out⟩
  by_cases hbig2 : 2000 < y.body.length
  · go_wp2_with fail
    go_ret
    first | exact ⟨rfl, HF.out⟩ | exact ⟨ret_bool (by simp), HF.out⟩
  have hsx : x.body.length ≤ 2000 := by omega
  have hsy : y.body.length ≤ 2000 := by omega
  go_upto_region 5 with fail
  clear zx zy
  go_wp2_with (first | (refine wpList_load_row_w rfl 27 (.tmp 4) rfl gx rfl 27 _ _ HXB.out Try.underlying27 rfl (by kernel_rfl) ?_) | (refine wpList_load_row_w rfl 27 (.tmp 5) rfl (gx + 1) rfl 27 _ _ HYB.out Try.underlying27 rfl (by kernel_rfl) ?_))
  refine (impPacket_pk (x := x) ⟨_, rfl, HX.out⟩ (by omega) s t).mono ?_
  rintro e w3 ⟨k1, l1, v3, hp1, rfl, hb, hF⟩
  have HP1 := Lib.hid hp1
  have HL := Lib.hid hb
  clear hp1 hb
  have HF := Lib.hid (HF.out.trans hF)
  have HX := Lib.hid (Sl.keep HX.out hF)
  have HY := Lib.hid (Sl.keep HY.out hF)
  have HXB := Lib.hid (HXB.out.keep hF)
  have HYB := Lib.hid (HYB.out.keep hF)
  clear hF
  go_wp2_with (first | (refine wpList_load_row_w rfl 27 (.tmp 4) rfl gx rfl 27 _ _ HXB.out Try.underlying27 rfl (by kernel_rfl) ?_) | (refine wpList_load_row_w rfl 27 (.tmp 5) rfl (gx + 1) rfl 27 _ _ HYB.out Try.underlying27 rfl (by kernel_rfl) ?_))
  refine (l12as_any (x := x) ⟨_, rfl, HX.out⟩).mono ?_
  rintro e w4 ⟨v4, rfl, hR, hF⟩
  have HR := Lib.hid hR
  clear hR
  have HF := Lib.hid (HF.out.trans hF)
  have HX := Lib.hid (Sl.keep HX.out hF)
  have HY := Lib.hid (Sl.keep HY.out hF)
  have HXB := Lib.hid (HXB.out.keep hF)
  have HYB := Lib.hid (HYB.out.keep hF)
  have HL := Lib.hid (Sl.keep HL.out hF)
  clear hF
  go_wp2_with fail
  refine (r12Packet_pk HR.out (by omega) s t).mono ?_
  rintro e w5 ⟨k2, l2, v5, hp2, rfl, hb, hF⟩
  obtain ⟨rfl, rfl⟩ := HP1.out.one hp2
  have HSM := Lib.hid hp2.small
  have HM := Lib.hid hb
  clear hp2 hb HR
  have HF := Lib.hid (HF.out.trans hF)
  have HX := Lib.hid (Sl.keep HX.out hF)
  have HY := Lib.hid (Sl.keep HY.out hF)
  have HXB := Lib.hid (HXB.out.keep hF)
  have HYB := Lib.hid (HYB.out.keep hF)
  have HL := Lib.hid (Sl.keep HL.out hF)
  clear hF
  go_upto_region 7 with fail
  refine wp_region_rules (fun w' => Fr [] w5.drew w') (Fr []) [isV ?p1x0, isV ?p1x1, isV ?p1x2, isV ?p1x3, isV ?p1x4, isV ?p1x5, isV (.bool true), isV ?p1x7, isV ?p1x8, isV ?p1x9, isV (.agg (bc x (.slice a1 x.body.length c1))), isV (.agg (bc y (.slice a2 y.body.length c2))), fun v w' => BtV w' v (x.add y), isV (.agg (bc x (.slice a1 x.body.length c1))), fun v w' => RBV w' v x.head x.body, isV (.agg (bc y (.slice a2 y.body.length c2))), fun v w' => RBV w' v y.head y.body, fun v w' => RBV w' v (xb x.head y.head) (xb x.body y.body), isV (.bool true), isV ?p1x19, isV ?p1x20] [[], [], [(0, 41), (1, 42)], [(2, 43)], [(3, 44)], [(3, 44)], [(3, 44), (4, 45), (5, 46)], [(3, 44), (6, 47)], [(3, 44), (7, 48)], [(8, 49)], [(9, 50)], [(9, 50)], [(9, 50), (10, 51), (11, 52)], [(9, 50)], [(9, 50), (13, 54)], [(9, 50)], [(9, 50), (15, 56)], [(9, 50), (14, 55), (16, 57)], [(9, 50), (12, 53), (17, 58)], [(9, 50), (18, 59)], [(9, 50), (19, 60)]] 102 [0, 1, 2, 3, 4, 5, 6, 7, 8, 9, 10, 11, 12, 13, 14, 15, 16, 17, 18, 19, 20] [(0, 41), (1, 42), (2, 43), (3, 44), (4, 45), (5, 46), (6, 47), (7, 48), (8, 49), (9, 50), (10, 51), (11, 52), (12, 53), (13, 54), (14, 55), (15, 56), (16, 57), (17, 58), (18, 59), (19, 60), (20, 61)] (by kernel_rfl) (by kernel_rfl) rfl (by kernel_rfl) (by kernel_rfl) (by kernel_rfl) (by kernel_rfl) (by intro c a a' W h hq; cases a; cases a'; cases h; exact hq) (fun w => Fr.refl _ w) (Fr.refl _ _) ⟨isV_stab, isV_stab, isV_stab, isV_stab, isV_stab, isV_stab, isV_stab, isV_stab, isV_stab, isV_stab, isV_stab, isV_stab, fun _ _ _ h1 h2 => h2.keep h1, isV_stab, fun _ _ _ h1 h2 => h2.keep h1, isV_stab, fun _ _ _ h1 h2 => h2.keep h1, fun _ _ _ h1 h2 => h2.keep h1, isV_stab, isV_stab, isV_stab, trivial⟩ ⟨?_, ?_, ?_, ?_, ?_, ?_, ?_, ?_, ?_, ?_, ?_, ?_, ?_, ?_, ?_, ?_, ?_, ?_, ?_, ?_, ?_, trivial⟩ ?_
  rotate_left 11
  · intro vs w' hG hd K hK
    clear hd
    simp only [canonD, Act.put, List.getElem_toArray, List.getElem_cons_zero, List.getElem_cons_succ, List.setIfInBounds_toArray, List.set_cons_zero, List.set_cons_succ] at hK ⊢
    refine Eq.mpr (if_pos (by rfl)) ?_
    go_simp
    refine hK.out _ _ (Fr.refl _ _) hG ?_
    show _ = _
    rfl
  · intro vs w' hG hd K hK
    clear hd
    simp only [canonD, Act.put, List.getElem_toArray, List.getElem_cons_zero, List.getElem_cons_succ, List.setIfInBounds_toArray, List.set_cons_zero, List.set_cons_succ] at hK ⊢
    refine Eq.mpr (if_pos (by rfl)) ?_
    go_simp
    refine hK.out _ _ (Fr.refl _ _) hG ?_
    show _ = _
    rfl
  · intro vs w' hG hd K hK
    obtain ⟨h0, h1, -⟩ := hd
    replace h0 : vs 0 = _ := h0
    replace h1 : vs 1 = _ := h1
    simp only [canonD, Act.put, List.getElem_toArray, List.getElem_cons_zero, List.getElem_cons_succ, List.setIfInBounds_toArray, List.set_cons_zero, List.set_cons_succ, h0, h1] at hK ⊢
    refine Eq.mpr (if_pos (by rfl)) ?_
    go_simp
    refine hK.out _ _ (Fr.refl _ _) hG ?_
    show _ = _
    rfl
  · intro vs w' hG hd K hK
    obtain ⟨h2, -⟩ := hd
    replace h2 : vs 2 = _ := h2
    simp only [canonD, Act.put, List.getElem_toArray, List.getElem_cons_zero, List.getElem_cons_succ, List.setIfInBounds_toArray, List.set_cons_zero, List.set_cons_succ, h2] at hK ⊢
    refine Eq.mpr (if_pos (by rfl)) ?_
    go_simp
    refine hK.out _ _ (Fr.refl _ _) hG ?_
    show _ = _
    rfl
  · intro vs w' hG hd K hK
    obtain ⟨h3, -⟩ := hd
    replace h3 : vs 3 = _ := h3
    simp only [canonD, Act.put, List.getElem_toArray, List.getElem_cons_zero, List.getElem_cons_succ, List.setIfInBounds_toArray, List.set_cons_zero, List.set_cons_succ, h3] at hK ⊢
    refine Eq.mpr (if_pos (by rfl)) ?_
    go_simp
    refine hK.out _ _ (Fr.refl _ _) hG ?_
    show _ = _
    rfl
  · intro vs w' hG hd K hK
    obtain ⟨h3, -⟩ := hd
    replace h3 : vs 3 = _ := h3
    simp only [canonD, Act.put, List.getElem_toArray, List.getElem_cons_zero, List.getElem_cons_succ, List.setIfInBounds_toArray, List.set_cons_zero, List.set_cons_succ, h3] at hK ⊢
    refine Eq.mpr (if_pos (by rfl)) ?_
    go_simp
    refine hK.out _ _ (Fr.refl _ _) hG ?_
    show _ = _
    rfl
  · intro vs w' hG hd K hK
    obtain ⟨h3, h4, h5, -⟩ := hd
    replace h3 : vs 3 = _ := h3
    replace h4 : vs 4 = _ := h4
    replace h5 : vs 5 = _ := h5
    simp only [canonD, Act.put, List.getElem_toArray, List.getElem_cons_zero, List.getElem_cons_succ, List.setIfInBounds_toArray, List.set_cons_zero, List.set_cons_succ, h3, h4, h5] at hK ⊢
    have hW : Fr [] w5 w' := (Fr.refl [] w5).drew.trans hG
    have HL := Sl.keep HL.out hW
    have HM := Sl.keep HM.out hW
    refine Eq.mpr (if_pos (by rfl)) ?_
    go_simp
    refine (RSame_any HL HM (by have := HSM.out; omega) (by have := HSM.out; omega)).mono ?_
    rintro e w6 ⟨rfl, hF⟩
    go_simp
    exact hK.out _ _ hF (hG.trans hF) (by show Value.bool _ = _; simp)
  · intro vs w' hG hd K hK
    obtain ⟨h3, h6, -⟩ := hd
    replace h3 : vs 3 = _ := h3
    replace h6 : vs 6 = _ := h6
    simp only [canonD, Act.put, List.getElem_toArray, List.getElem_cons_zero, List.getElem_cons_succ, List.setIfInBounds_toArray, List.set_cons_zero, List.set_cons_succ, h3, h6] at hK ⊢
    refine Eq.mpr (if_pos (by rfl)) ?_
    go_simp
    refine hK.out _ _ (Fr.refl _ _) hG ?_
    show _ = _
    rfl
  · intro vs w' hG hd K hK
    obtain ⟨h3, h7, -⟩ := hd
    replace h3 : vs 3 = _ := h3
    replace h7 : vs 7 = _ := h7
    simp only [canonD, Act.put, List.getElem_toArray, List.getElem_cons_zero, List.getElem_cons_succ, List.setIfInBounds_toArray, List.set_cons_zero, List.set_cons_succ, h3, h7] at hK ⊢
    refine Eq.mpr (if_pos (by rfl)) ?_
    go_simp
    refine hK.out _ _ (Fr.refl _ _) hG ?_
    show _ = _
    rfl
  · intro vs w' hG hd K hK
    obtain ⟨h8, -⟩ := hd
    replace h8 : vs 8 = _ := h8
    simp only [canonD, Act.put, List.getElem_toArray, List.getElem_cons_zero, List.getElem_cons_succ, List.setIfInBounds_toArray, List.set_cons_zero, List.set_cons_succ, h8] at hK ⊢
    refine Eq.mpr (if_pos (by rfl)) ?_
    go_simp
    refine hK.out _ _ (Fr.refl _ _) hG ?_
    show _ = _
    rfl
  · intro vs w' hG hd K hK
    obtain ⟨h9, -⟩ := hd
    replace h9 : vs 9 = _ := h9
    simp only [canonD, Act.put, List.getElem_toArray, List.getElem_cons_zero, List.getElem_cons_succ, List.setIfInBounds_toArray, List.set_cons_zero, List.set_cons_succ, h9] at hK ⊢
    have hW : Fr [] w5 w' := (Fr.refl [] w5).drew.trans hG
    refine Eq.mpr (if_pos (by rfl)) ?_
    refine wp_load_row 27 (.tmp 4) rfl gx rfl 27 _ _ (HXB.out.keep hW) Try.underlying27 rfl (by kernel_rfl) ?_
    refine hK.out _ _ (Fr.refl _ _) hG ?_
    show _ = _
    rfl
  · intro vs w' hG hd K hK
    obtain ⟨h9, -⟩ := hd
    replace h9 : vs 9 = _ := h9
    simp only [canonD, Act.put, List.getElem_toArray, List.getElem_cons_zero, List.getElem_cons_succ, List.setIfInBounds_toArray, List.set_cons_zero, List.set_cons_succ, h9] at hK ⊢
    have hW : Fr [] w5 w' := (Fr.refl [] w5).drew.trans hG
    refine Eq.mpr (if_pos (by rfl)) ?_
    refine wp_load_row 27 (.tmp 5) rfl (gx + 1) rfl 27 _ _ (HYB.out.keep hW) Try.underlying27 rfl (by kernel_rfl) ?_
    refine hK.out _ _ (Fr.refl _ _) hG ?_
    show _ = _
    rfl
  · intro vs w' hG hd K hK
    obtain ⟨h9, h10, h11, -⟩ := hd
    replace h9 : vs 9 = _ := h9
    replace h10 : vs 10 = _ := h10
    replace h11 : vs 11 = _ := h11
    simp only [canonD, Act.put, List.getElem_toArray, List.getElem_cons_zero, List.getElem_cons_succ, List.setIfInBounds_toArray, List.set_cons_zero, List.set_cons_succ, h9, h10, h11] at hK ⊢
    have hW : Fr [] w5 w' := (Fr.refl [] w5).drew.trans hG
    have HX := Sl.keep HX.out hW
    have HY := Sl.keep HY.out hW
    refine Eq.mpr (if_pos (by rfl)) ?_
    go_simp
    refine (impAdd_any (x := x) (y := y) ⟨_, rfl, HX⟩ ⟨_, rfl, HY⟩ (by omega) (by omega)).mono ?_
    rintro e w6 ⟨vz, rfl, hO, hF⟩
    go_simp
    exact hK.out _ _ hF (hG.trans hF) hO.v
  · intro vs w' hG hd K hK
    obtain ⟨h9, -⟩ := hd
    replace h9 : vs 9 = _ := h9
    simp only [canonD, Act.put, List.getElem_toArray, List.getElem_cons_zero, List.getElem_cons_succ, List.setIfInBounds_toArray, List.set_cons_zero, List.set_cons_succ, h9] at hK ⊢
    have hW : Fr [] w5 w' := (Fr.refl [] w5).drew.trans hG
    refine Eq.mpr (if_pos (by rfl)) ?_
    refine wp_load_row 27 (.tmp 4) rfl gx rfl 27 _ _ (HXB.out.keep hW) Try.underlying27 rfl (by kernel_rfl) ?_
    refine hK.out _ _ (Fr.refl _ _) hG ?_
    show _ = _
    rfl
  · intro vs w' hG hd K hK
    obtain ⟨h9, h13, -⟩ := hd
    replace h9 : vs 9 = _ := h9
    replace h13 : vs 13 = _ := h13
    simp only [canonD, Act.put, List.getElem_toArray, List.getElem_cons_zero, List.getElem_cons_succ, List.setIfInBounds_toArray, List.set_cons_zero, List.set_cons_succ, h9, h13] at hK ⊢
    have hW : Fr [] w5 w' := (Fr.refl [] w5).drew.trans hG
    have HX := Sl.keep HX.out hW
    refine Eq.mpr (if_pos (by rfl)) ?_
    go_simp
    refine (l12as_any (x := x) ⟨_, rfl, HX⟩).mono ?_
    rintro e w6 ⟨vz, rfl, hO, hF⟩
    go_simp
    exact hK.out _ _ hF (hG.trans hF) hO
  · intro vs w' hG hd K hK
    obtain ⟨h9, -⟩ := hd
    replace h9 : vs 9 = _ := h9
    simp only [canonD, Act.put, List.getElem_toArray, List.getElem_cons_zero, List.getElem_cons_succ, List.setIfInBounds_toArray, List.set_cons_zero, List.set_cons_succ, h9] at hK ⊢
    have hW : Fr [] w5 w' := (Fr.refl [] w5).drew.trans hG
    refine Eq.mpr (if_pos (by rfl)) ?_
    refine wp_load_row 27 (.tmp 5) rfl (gx + 1) rfl 27 _ _ (HYB.out.keep hW) Try.underlying27 rfl (by kernel_rfl) ?_
    refine hK.out _ _ (Fr.refl _ _) hG ?_
    show _ = _
    rfl
  · intro vs w' hG hd K hK
    obtain ⟨h9, h15, -⟩ := hd
    replace h9 : vs 9 = _ := h9
    replace h15 : vs 15 = _ := h15
    simp only [canonD, Act.put, List.getElem_toArray, List.getElem_cons_zero, List.getElem_cons_succ, List.setIfInBounds_toArray, List.set_cons_zero, List.set_cons_succ, h9, h15] at hK ⊢
    have hW : Fr [] w5 w' := (Fr.refl [] w5).drew.trans hG
    have HY := Sl.keep HY.out hW
    refine Eq.mpr (if_pos (by rfl)) ?_
    go_simp
    refine (l12as_any (x := y) ⟨_, rfl, HY⟩).mono ?_
    rintro e w6 ⟨vz, rfl, hO, hF⟩
    go_simp
    exact hK.out _ _ hF (hG.trans hF) hO
  · intro vs w' hG hd K hK
    obtain ⟨h9, h14, h16, -⟩ := hd
    replace h9 : vs 9 = _ := h9
    replace h14 : RBV w' (vs 14) x.head x.body := h14
    replace h16 : RBV w' (vs 16) y.head y.body := h16
    simp only [canonD, Act.put, List.getElem_toArray, List.getElem_cons_zero, List.getElem_cons_succ, List.setIfInBounds_toArray, List.set_cons_zero, List.set_cons_succ, h9] at hK ⊢
    generalize vs 14 = v14 at *
    generalize vs 16 = v16 at *
    refine Eq.mpr (if_pos (by rfl)) ?_
    go_simp
    refine (r12Add_any h14 h16 (by simp [Bt.head]) (by simp [Bt.head]) (by omega) (by omega)).mono ?_
    rintro e w6 ⟨vz, rfl, hO, hF⟩
    go_simp
    exact hK.out _ _ hF (hG.trans hF) hO
  · intro vs w' hG hd K hK
    obtain ⟨h9, h12, h17, -⟩ := hd
    replace h9 : vs 9 = _ := h9
    replace h12 : BtV w' (vs 12) (x.add y) := h12
    replace h17 : RBV w' (vs 17) (xb x.head y.head) (xb x.body y.body) := h17
    simp only [canonD, Act.put, List.getElem_toArray, List.getElem_cons_zero, List.getElem_cons_succ, List.setIfInBounds_toArray, List.set_cons_zero, List.set_cons_succ, h9] at hK ⊢
    generalize vs 12 = v12 at *
    generalize vs 17 = v17 at *
    refine Eq.mpr (if_pos (by rfl)) ?_
    go_simp
    refine (l12like_any h12 h17 (by rw [xb_len]; simp [Bt.head]) (by rw [xb_len]; omega) (by rw [Bt.add_body_len]; omega)).mono ?_
    rintro e w6 ⟨rfl, hF⟩
    go_simp
    exact hK.out _ _ hF (hG.trans hF) (by show Value.bool _ = _; rw [like_add])
  · intro vs w' hG hd K hK
    obtain ⟨h9, h18, -⟩ := hd
    replace h9 : vs 9 = _ := h9
    replace h18 : vs 18 = _ := h18
    simp only [canonD, Act.put, List.getElem_toArray, List.getElem_cons_zero, List.getElem_cons_succ, List.setIfInBounds_toArray, List.set_cons_zero, List.set_cons_succ, h9, h18] at hK ⊢
    refine Eq.mpr (if_pos (by rfl)) ?_
    go_simp
    refine hK.out _ _ (Fr.refl _ _) hG ?_
    show _ = _
    rfl
  · intro vs w' hG hd K hK
    obtain ⟨h9, h19, -⟩ := hd
    replace h9 : vs 9 = _ := h9
    replace h19 : vs 19 = _ := h19
    simp only [canonD, Act.put, List.getElem_toArray, List.getElem_cons_zero, List.getElem_cons_succ, List.setIfInBounds_toArray, List.set_cons_zero, List.set_cons_succ, h9, h19] at hK ⊢
    refine Eq.mpr (if_pos (by rfl)) ?_
    go_simp
    refine hK.out _ _ (Fr.refl _ _) hG ?_
    show _ = _
    rfl
  intro vs w' hG hP
  obtain ⟨h0, h1, h2, h3, h4, h5, h6, h7, h8, h9, h10, h11, h12, h13, h14, h15, h16, h17, h18, h19, h20, -⟩ := hP
  replace h0 : vs 0 = _ := h0
  replace h1 : vs 1 = _ := h1
  replace h2 : vs 2 = _ := h2
  replace h3 : vs 3 = _ := h3
  replace h4 : vs 4 = _ := h4
  replace h5 : vs 5 = _ := h5
  replace h6 : vs 6 = _ := h6
  replace h7 : vs 7 = _ := h7
  replace h8 : vs 8 = _ := h8
  replace h9 : vs 9 = _ := h9
  replace h10 : vs 10 = _ := h10
  replace h11 : vs 11 = _ := h11
  replace h12 : BtV w' (vs 12) (x.add y) := h12
  replace h13 : vs 13 = _ := h13
  replace h14 : RBV w' (vs 14) x.head x.body := h14
  replace h15 : vs 15 = _ := h15
  replace h16 : RBV w' (vs 16) y.head y.body := h16
  replace h17 : RBV w' (vs 17) (xb x.head y.head) (xb x.body y.body) := h17
  replace h18 : vs 18 = _ := h18
  replace h19 : vs 19 = _ := h19
  replace h20 : vs 20 = _ := h20
  simp only [canonD, Act.put, List.getElem_toArray, List.getElem_cons_zero, List.getElem_cons_succ, List.setIfInBounds_toArray, List.set_cons_zero, List.set_cons_succ, h0, h1, h2, h3, h4, h5, h6, h7, h8, h9, h10, h11, h13, h15, h18, h19, h20]
  generalize vs 12 = v12 at *
  generalize vs 14 = v14 at *
  generalize vs 16 = v16 at *
  generalize vs 17 = v17 at *
  clear h0 h1 h2 h3 h4 h5 h6 h7 h8 h9 h10 h11 h13 h15 h18 h19 h20
  have hF := (Fr.refl [] w5).drew.trans hG
  have HF := Lib.hid (HF.out.trans hF)
  have HX := Lib.hid (Sl.keep HX.out hF)
  have HY := Lib.hid (Sl.keep HY.out hF)
  have HXB := Lib.hid (HXB.out.keep hF)
  have HYB := Lib.hid (HYB.out.keep hF)
  have HL := Lib.hid (Sl.keep HL.out hF)
  have HM := Lib.hid (Sl.keep HM.out hF)
  clear hF hG
  clear h12 h14 h16 h17
  clear HL HM
  go_upto_region 9 with fail
  have heq : ∀ W, (Op.equalIn 10000 25 (.agg #[.int .u8 x.h0.toNat, .int .u8 x.h1.toNat, .int .u8 x.h2.toNat, .int .u8 x.h3.toNat, .int .u8 x.h4.toNat, .int .u8 x.h5.toNat, .int .u8 x.h6.toNat, .int .u8 x.h7.toNat]) (.agg #[.int .u8 0, .int .u8 0, .int .u8 0, .int .u8 0, .int .u8 0, .int .u8 0, .int .u8 0, .int .u8 0])).run Try.prog W = .ok (x.head == Bt.zero.head) W := fun W => by
    rw [← head_conj]
    exact eq_arr8 x.h0.toNat x.h1.toNat x.h2.toNat x.h3.toNat x.h4.toNat x.h5.toNat x.h6.toNat x.h7.toNat 0 0 0 0 0 0 0 0 W
  have HEQ := Lib.hid heq
  clear heq
  have HSZ : Hid (x.same Bt.zero = (x.head == Bt.zero.head && gap0 x.body [])) := Lib.hid rfl
  go_cut [13] (fun s13 wx => s13 = .bool (x.same Bt.zero) ∧ Fr [] w' wx)
  case first =>
    have zx := HXB.out.cell 8
    simp only [bc, List.getElem?_toArray, List.getElem?_cons_succ, List.getElem?_cons_zero] at zx
    go_wp2_with fail
    refine (r04Gap_any (b := []) HX.out (Sl.nil _) (by omega) (by simp)).mono ?_
    rintro e w6 ⟨n, rfl, hn, hF⟩
    have HN := Lib.hid hn
    clear zx hn
    have HFq := Lib.hid hF
    have HXB := Lib.hid (HXB.out.keep hF)
    clear hF
    cases hg : gap0 x.body [] with
    | false =>
      rw [hg] at HN HSZ
      have hn := HN.out
      rw [Bool.and_false] at HSZ
      go_wp2_with fail
      go_meet
      exact ⟨by rw [HSZ.out], HFq.out⟩
    | true =>
      rw [hg] at HN HSZ
      have hn := HN.out
      rw [Bool.and_true] at HSZ
      obtain ⟨x0, x1, x2, x3, x4, x5, x6, x7, x8⟩ := HXB.out.bcells
      have heq := HEQ.out
      go_wp2_with fail
      go_meet
      exact ⟨by rw [HSZ.out], HFq.out⟩
  case rest =>
    obtain ⟨rfl, hF⟩ := hcut
    have HF := Lib.hid (HF.out.trans hF)
    have HX := Lib.hid (Sl.keep HX.out hF)
    have HY := Lib.hid (Sl.keep HY.out hF)
    have HXB := Lib.hid (HXB.out.keep hF)
    have HYB := Lib.hid (HYB.out.keep hF)
    clear hF HEQ HSZ
    go_upto_region 10 with fail
    refine wp_region_rules (fun w' => Fr [] wc.drew w') (Fr []) [isV (.agg (bc x (.slice a1 x.body.length c1))), isV (.agg (bc y (.slice a2 y.body.length c2))), isV (.bool (x.same y)), isV (.agg (bc x (.slice a1 x.body.length c1))), fun v w' => RBV w' v x.head x.body, isV (.agg (bc y (.slice a2 y.body.length c2))), fun v w' => RBV w' v y.head y.body, isV (.bool (x.same y)), isV ?p2x8, isV ?p2x9, isV (.agg (bc x (.slice a1 x.body.length c1))), isV (.bool (x.same Bt.zero)), isV ?p2x12, isV ?p2x13, isV ?p2x14, isV ?p2x15, isV (.agg (bc x (.slice a1 x.body.length c1))), isV (.int .i64 x.len), isV ?p2x18, isV ?p2x19, isV (.int .u8 x.h6.toNat), isV ?p2x21, isV ?p2x22, isV ?p2x23, isV ?p2x24, isV (.int .u8 x.h7.toNat), isV ?p2x26, isV ?p2x27, isV ?p2x28, isV ?p2x29, isV ?p2x30] [[], [], [(0, 72), (1, 73)], [], [(3, 75)], [], [(5, 77)], [(4, 76), (6, 78)], [(2, 74), (7, 79)], [(8, 80)], [(9, 81)], [(9, 81), (10, 82)], [(9, 81)], [(9, 81), (11, 83), (12, 84)], [(9, 81), (13, 85)], [(14, 86)], [(15, 87)], [(15, 87), (16, 88)], [(15, 87)], [(15, 87), (18, 90)], [(15, 87), (19, 91)], [(15, 87), (20, 92)], [(15, 87), (21, 93)], [(15, 87)], [(15, 87), (23, 95)], [(15, 87), (24, 96)], [(15, 87), (25, 97)], [(15, 87), (22, 94), (26, 98)], [(15, 87), (17, 89), (27, 99)], [(15, 87), (28, 100)], [(29, 101)]] 102 [0, 1, 2, 3, 4, 5, 6, 7, 8, 9, 10, 11, 12, 13, 14, 15, 16, 17, 18, 19, 20, 21, 22, 23, 24, 25, 26, 27, 28, 29, 30] [(0, 72), (1, 73), (2, 74), (3, 75), (4, 76), (5, 77), (6, 78), (7, 79), (8, 80), (9, 81), (10, 82), (11, 83), (12, 84), (13, 85), (14, 86), (15, 87), (16, 88), (17, 89), (18, 90), (19, 91), (20, 92), (21, 93), (22, 94), (23, 95), (24, 96), (25, 97), (26, 98), (27, 99), (28, 100), (29, 101), (30, 8)] (by kernel_rfl) (by kernel_rfl) rfl (by kernel_rfl) (by kernel_rfl) (by kernel_rfl) (by kernel_rfl) (by intro c a a' W h hq; cases a; cases a'; cases h; exact hq) (fun w => Fr.refl _ w) (Fr.refl _ _) ⟨isV_stab, isV_stab, isV_stab, isV_stab, fun _ _ _ h1 h2 => h2.keep h1, isV_stab, fun _ _ _ h1 h2 => h2.keep h1, isV_stab, isV_stab, isV_stab, isV_stab, isV_stab, isV_stab, isV_stab, isV_stab, isV_stab, isV_stab, isV_stab, isV_stab, isV_stab, isV_stab, isV_stab, isV_stab, isV_stab, isV_stab, isV_stab, isV_stab, isV_stab, isV_stab, isV_stab, isV_stab, trivial⟩ ⟨?_, ?_, ?_, ?_, ?_, ?_, ?_, ?_, ?_, ?_, ?_, ?_, ?_, ?_, ?_, ?_, ?_, ?_, ?_, ?_, ?_, ?_, ?_, ?_, ?_, ?_, ?_, ?_, ?_, ?_, ?_, trivial⟩ ?_
    rotate_left 17
    · intro vs w' hG hd K hK
      clear hd
      simp only [canonD, Act.put, List.getElem_toArray, List.getElem_cons_zero, List.getElem_cons_succ, List.setIfInBounds_toArray, List.set_cons_zero, List.set_cons_succ] at hK ⊢
      have hW : Fr [] wc w' := (Fr.refl [] wc).drew.trans hG
      refine Eq.mpr (if_pos (by rfl)) ?_
      refine wp_load_row 27 (.tmp 4) rfl gx rfl 27 _ _ (HXB.out.keep hW) Try.underlying27 rfl (by kernel_rfl) ?_
      refine hK.out _ _ (Fr.refl _ _) hG ?_
      show _ = _
      rfl
    · intro vs w' hG hd K hK
      clear hd
      simp only [canonD, Act.put, List.getElem_toArray, List.getElem_cons_zero, List.getElem_cons_succ, List.setIfInBounds_toArray, List.set_cons_zero, List.set_cons_succ] at hK ⊢
      have hW : Fr [] wc w' := (Fr.refl [] wc).drew.trans hG
      refine Eq.mpr (if_pos (by rfl)) ?_
      refine wp_load_row 27 (.tmp 5) rfl (gx + 1) rfl 27 _ _ (HYB.out.keep hW) Try.underlying27 rfl (by kernel_rfl) ?_
      refine hK.out _ _ (Fr.refl _ _) hG ?_
      show _ = _
      rfl
    · intro vs w' hG hd K hK
      obtain ⟨h0, h1, -⟩ := hd
      replace h0 : vs 0 = _ := h0
      replace h1 : vs 1 = _ := h1
      simp only [canonD, Act.put, List.getElem_toArray, List.getElem_cons_zero, List.getElem_cons_succ, List.setIfInBounds_toArray, List.set_cons_zero, List.set_cons_succ, h0, h1] at hK ⊢
      have hW : Fr [] wc w' := (Fr.refl [] wc).drew.trans hG
      have HX := Sl.keep HX.out hW
      have HY := Sl.keep HY.out hW
      refine Eq.mpr (if_pos (by rfl)) ?_
      go_simp
      refine (impSame_any (x := x) (y := y) ⟨_, rfl, HX⟩ ⟨_, rfl, HY⟩ (by omega) (by omega)).mono ?_
      rintro e w6 ⟨rfl, hF⟩
      go_simp
      exact hK.out _ _ hF (hG.trans hF) (by show _ = _; rfl)
    · intro vs w' hG hd K hK
      clear hd
      simp only [canonD, Act.put, List.getElem_toArray, List.getElem_cons_zero, List.getElem_cons_succ, List.setIfInBounds_toArray, List.set_cons_zero, List.set_cons_succ] at hK ⊢
      have hW : Fr [] wc w' := (Fr.refl [] wc).drew.trans hG
      refine Eq.mpr (if_pos (by rfl)) ?_
      refine wp_load_row 27 (.tmp 4) rfl gx rfl 27 _ _ (HXB.out.keep hW) Try.underlying27 rfl (by kernel_rfl) ?_
      refine hK.out _ _ (Fr.refl _ _) hG ?_
      show _ = _
      rfl
    · intro vs w' hG hd K hK
      obtain ⟨h3, -⟩ := hd
      replace h3 : vs 3 = _ := h3
      simp only [canonD, Act.put, List.getElem_toArray, List.getElem_cons_zero, List.getElem_cons_succ, List.setIfInBounds_toArray, List.set_cons_zero, List.set_cons_succ, h3] at hK ⊢
      have hW : Fr [] wc w' := (Fr.refl [] wc).drew.trans hG
      have HX := Sl.keep HX.out hW
      refine Eq.mpr (if_pos (by rfl)) ?_
      go_simp
      refine (l12as_any (x := x) ⟨_, rfl, HX⟩).mono ?_
      rintro e w6 ⟨vz, rfl, hO, hF⟩
      go_simp
      exact hK.out _ _ hF (hG.trans hF) hO
    · intro vs w' hG hd K hK
      clear hd
      simp only [canonD, Act.put, List.getElem_toArray, List.getElem_cons_zero, List.getElem_cons_succ, List.setIfInBounds_toArray, List.set_cons_zero, List.set_cons_succ] at hK ⊢
      have hW : Fr [] wc w' := (Fr.refl [] wc).drew.trans hG
      refine Eq.mpr (if_pos (by rfl)) ?_
      refine wp_load_row 27 (.tmp 5) rfl (gx + 1) rfl 27 _ _ (HYB.out.keep hW) Try.underlying27 rfl (by kernel_rfl) ?_
      refine hK.out _ _ (Fr.refl _ _) hG ?_
      show _ = _
      rfl
    · intro vs w' hG hd K hK
      obtain ⟨h5, -⟩ := hd
      replace h5 : vs 5 = _ := h5
      simp only [canonD, Act.put, List.getElem_toArray, List.getElem_cons_zero, List.getElem_cons_succ, List.setIfInBounds_toArray, List.set_cons_zero, List.set_cons_succ, h5] at hK ⊢
      have hW : Fr [] wc w' := (Fr.refl [] wc).drew.trans hG
      have HY := Sl.keep HY.out hW
      refine Eq.mpr (if_pos (by rfl)) ?_
      go_simp
      refine (l12as_any (x := y) ⟨_, rfl, HY⟩).mono ?_
      rintro e w6 ⟨vz, rfl, hO, hF⟩
      go_simp
      exact hK.out _ _ hF (hG.trans hF) hO
    · intro vs w' hG hd K hK
      obtain ⟨h4, h6, -⟩ := hd
      replace h4 : RBV w' (vs 4) x.head x.body := h4
      replace h6 : RBV w' (vs 6) y.head y.body := h6
      simp only [canonD, Act.put, List.getElem_toArray, List.getElem_cons_zero, List.getElem_cons_succ, List.setIfInBounds_toArray, List.set_cons_zero, List.set_cons_succ] at hK ⊢
      generalize vs 4 = v4 at *
      generalize vs 6 = v6 at *
      refine Eq.mpr (if_pos (by rfl)) ?_
      go_simp
      refine (r12Same_any h4 h6 (by simp [Bt.head]) (by simp [Bt.head]) (by omega) (by omega)).mono ?_
      rintro e w6 ⟨rfl, hF⟩
      go_simp
      exact hK.out _ _ hF (hG.trans hF) (by show _ = _; rfl)
    · intro vs w' hG hd K hK
      obtain ⟨h2, h7, -⟩ := hd
      replace h2 : vs 2 = _ := h2
      replace h7 : vs 7 = _ := h7
      simp only [canonD, Act.put, List.getElem_toArray, List.getElem_cons_zero, List.getElem_cons_succ, List.setIfInBounds_toArray, List.set_cons_zero, List.set_cons_succ, h2, h7] at hK ⊢
      refine Eq.mpr (if_pos (by rfl)) ?_
      go_simp
      refine hK.out _ _ (Fr.refl _ _) hG ?_
      show _ = _
      rfl
    · intro vs w' hG hd K hK
      obtain ⟨h8, -⟩ := hd
      replace h8 : vs 8 = _ := h8
      simp only [canonD, Act.put, List.getElem_toArray, List.getElem_cons_zero, List.getElem_cons_succ, List.setIfInBounds_toArray, List.set_cons_zero, List.set_cons_succ, h8] at hK ⊢
      refine Eq.mpr (if_pos (by rfl)) ?_
      go_simp
      refine hK.out _ _ (Fr.refl _ _) hG ?_
      show _ = _
      rfl
    · intro vs w' hG hd K hK
      obtain ⟨h9, -⟩ := hd
      replace h9 : vs 9 = _ := h9
      simp only [canonD, Act.put, List.getElem_toArray, List.getElem_cons_zero, List.getElem_cons_succ, List.setIfInBounds_toArray, List.set_cons_zero, List.set_cons_succ, h9] at hK ⊢
      have hW : Fr [] wc w' := (Fr.refl [] wc).drew.trans hG
      refine Eq.mpr (if_pos (by rfl)) ?_
      refine wp_load_row 27 (.tmp 4) rfl gx rfl 27 _ _ (HXB.out.keep hW) Try.underlying27 rfl (by kernel_rfl) ?_
      refine hK.out _ _ (Fr.refl _ _) hG ?_
      show _ = _
      rfl
    · intro vs w' hG hd K hK
      obtain ⟨h9, h10, -⟩ := hd
      replace h9 : vs 9 = _ := h9
      replace h10 : vs 10 = _ := h10
      simp only [canonD, Act.put, List.getElem_toArray, List.getElem_cons_zero, List.getElem_cons_succ, List.setIfInBounds_toArray, List.set_cons_zero, List.set_cons_succ, h9, h10] at hK ⊢
      have hW : Fr [] wc w' := (Fr.refl [] wc).drew.trans hG
      have HX := Sl.keep HX.out hW
      refine Eq.mpr (if_pos (by rfl)) ?_
      go_simp
      refine (impEmpty_any (x := x) ⟨_, rfl, HX⟩ (by omega)).mono ?_
      rintro e w6 ⟨rfl, hF⟩
      go_simp
      exact hK.out _ _ hF (hG.trans hF) (by show _ = _; rfl)
    · intro vs w' hG hd K hK
      obtain ⟨h9, -⟩ := hd
      replace h9 : vs 9 = _ := h9
      simp only [canonD, Act.put, List.getElem_toArray, List.getElem_cons_zero, List.getElem_cons_succ, List.setIfInBounds_toArray, List.set_cons_zero, List.set_cons_succ, h9] at hK ⊢
      refine Eq.mpr (if_pos (by rfl)) ?_
      go_simp
      refine hK.out _ _ (Fr.refl _ _) hG ?_
      show _ = _
      rfl
    · intro vs w' hG hd K hK
      obtain ⟨h9, h11, h12, -⟩ := hd
      replace h9 : vs 9 = _ := h9
      replace h11 : vs 11 = _ := h11
      replace h12 : vs 12 = _ := h12
      simp only [canonD, Act.put, List.getElem_toArray, List.getElem_cons_zero, List.getElem_cons_succ, List.setIfInBounds_toArray, List.set_cons_zero, List.set_cons_succ, h9, h11, h12] at hK ⊢
      refine Eq.mpr (if_pos (by rfl)) ?_
      go_simp
      refine hK.out _ _ (Fr.refl _ _) hG ?_
      show _ = _
      rfl
    · intro vs w' hG hd K hK
      obtain ⟨h9, h13, -⟩ := hd
      replace h9 : vs 9 = _ := h9
      replace h13 : vs 13 = _ := h13
      simp only [canonD, Act.put, List.getElem_toArray, List.getElem_cons_zero, List.getElem_cons_succ, List.setIfInBounds_toArray, List.set_cons_zero, List.set_cons_succ, h9, h13] at hK ⊢
      refine Eq.mpr (if_pos (by rfl)) ?_
      go_simp
      refine hK.out _ _ (Fr.refl _ _) hG ?_
      show _ = _
      rfl
    · intro vs w' hG hd K hK
      obtain ⟨h14, -⟩ := hd
      replace h14 : vs 14 = _ := h14
      simp only [canonD, Act.put, List.getElem_toArray, List.getElem_cons_zero, List.getElem_cons_succ, List.setIfInBounds_toArray, List.set_cons_zero, List.set_cons_succ, h14] at hK ⊢
      refine Eq.mpr (if_pos (by rfl)) ?_
      go_simp
      refine hK.out _ _ (Fr.refl _ _) hG ?_
      show _ = _
      rfl
    · intro vs w' hG hd K hK
      obtain ⟨h15, -⟩ := hd
      replace h15 : vs 15 = _ := h15
      simp only [canonD, Act.put, List.getElem_toArray, List.getElem_cons_zero, List.getElem_cons_succ, List.setIfInBounds_toArray, List.set_cons_zero, List.set_cons_succ, h15] at hK ⊢
      have hW : Fr [] wc w' := (Fr.refl [] wc).drew.trans hG
      refine Eq.mpr (if_pos (by rfl)) ?_
      refine wp_load_row 27 (.tmp 4) rfl gx rfl 27 _ _ (HXB.out.keep hW) Try.underlying27 rfl (by kernel_rfl) ?_
      refine hK.out _ _ (Fr.refl _ _) hG ?_
      show _ = _
      rfl
    · intro vs w' hG hd K hK
      obtain ⟨h15, h16, -⟩ := hd
      replace h15 : vs 15 = _ := h15
      replace h16 : vs 16 = _ := h16
      simp only [canonD, Act.put, List.getElem_toArray, List.getElem_cons_zero, List.getElem_cons_succ, List.setIfInBounds_toArray, List.set_cons_zero, List.set_cons_succ, h15, h16] at hK ⊢
      have hW : Fr [] wc w' := (Fr.refl [] wc).drew.trans hG
      have HX := Sl.keep HX.out hW
      refine Eq.mpr (if_pos (by rfl)) ?_
      go_simp
      refine (impLength_any (x := x) ⟨_, rfl, HX⟩).mono ?_
      rintro e w6 ⟨rfl, hF⟩
      go_simp
      exact hK.out _ _ hF (hG.trans hF) (by show _ = _; rfl)
    · intro vs w' hG hd K hK
      obtain ⟨h15, -⟩ := hd
      replace h15 : vs 15 = _ := h15
      simp only [canonD, Act.put, List.getElem_toArray, List.getElem_cons_zero, List.getElem_cons_succ, List.setIfInBounds_toArray, List.set_cons_zero, List.set_cons_succ, h15] at hK ⊢
      refine Eq.mpr (if_pos (by rfl)) ?_
      go_simp
      refine hK.out _ _ (Fr.refl _ _) hG ?_
      show _ = _
      rfl
    · intro vs w' hG hd K hK
      obtain ⟨h15, h18, -⟩ := hd
      replace h15 : vs 15 = _ := h15
      replace h18 : vs 18 = _ := h18
      simp only [canonD, Act.put, List.getElem_toArray, List.getElem_cons_zero, List.getElem_cons_succ, List.setIfInBounds_toArray, List.set_cons_zero, List.set_cons_succ, h15, h18] at hK ⊢
      refine Eq.mpr (if_pos (by rfl)) ?_
      go_simp
      refine hK.out _ _ (Fr.refl _ _) hG ?_
      show _ = _
      rfl
    · intro vs w' hG hd K hK
      obtain ⟨h15, h19, -⟩ := hd
      replace h15 : vs 15 = _ := h15
      replace h19 : vs 19 = _ := h19
      simp only [canonD, Act.put, List.getElem_toArray, List.getElem_cons_zero, List.getElem_cons_succ, List.setIfInBounds_toArray, List.set_cons_zero, List.set_cons_succ, h15, h19] at hK ⊢
      have hW : Fr [] wc w' := (Fr.refl [] wc).drew.trans hG
      obtain ⟨x0, x1, x2, x3, x4, x5, x6, x7, x8⟩ := (HXB.out.keep hW).bcells
      refine Eq.mpr (if_pos (by rfl)) ?_
      go_simp
      refine hK.out _ _ (Fr.refl _ _) hG ?_
      show _ = _
      rfl
    · intro vs w' hG hd K hK
      obtain ⟨h15, h20, -⟩ := hd
      replace h15 : vs 15 = _ := h15
      replace h20 : vs 20 = _ := h20
      simp only [canonD, Act.put, List.getElem_toArray, List.getElem_cons_zero, List.getElem_cons_succ, List.setIfInBounds_toArray, List.set_cons_zero, List.set_cons_succ, h15, h20] at hK ⊢
      refine Eq.mpr (if_pos (by rfl)) ?_
      go_simp
      refine hK.out _ _ (Fr.refl _ _) hG ?_
      show _ = _
      rfl
    · intro vs w' hG hd K hK
      obtain ⟨h15, h21, -⟩ := hd
      replace h15 : vs 15 = _ := h15
      replace h21 : vs 21 = _ := h21
      simp only [canonD, Act.put, List.getElem_toArray, List.getElem_cons_zero, List.getElem_cons_succ, List.setIfInBounds_toArray, List.set_cons_zero, List.set_cons_succ, h15, h21] at hK ⊢
      refine Eq.mpr (if_pos (by rfl)) ?_
      go_simp
      refine hK.out _ _ (Fr.refl _ _) hG ?_
      show _ = _
      rfl
    · intro vs w' hG hd K hK
      obtain ⟨h15, -⟩ := hd
      replace h15 : vs 15 = _ := h15
      simp only [canonD, Act.put, List.getElem_toArray, List.getElem_cons_zero, List.getElem_cons_succ, List.setIfInBounds_toArray, List.set_cons_zero, List.set_cons_succ, h15] at hK ⊢
      refine Eq.mpr (if_pos (by rfl)) ?_
      go_simp
      refine hK.out _ _ (Fr.refl _ _) hG ?_
      show _ = _
      rfl
    · intro vs w' hG hd K hK
      obtain ⟨h15, h23, -⟩ := hd
      replace h15 : vs 15 = _ := h15
      replace h23 : vs 23 = _ := h23
      simp only [canonD, Act.put, List.getElem_toArray, List.getElem_cons_zero, List.getElem_cons_succ, List.setIfInBounds_toArray, List.set_cons_zero, List.set_cons_succ, h15, h23] at hK ⊢
      refine Eq.mpr (if_pos (by rfl)) ?_
      go_simp
      refine hK.out _ _ (Fr.refl _ _) hG ?_
      show _ = _
      rfl
    · intro vs w' hG hd K hK
      obtain ⟨h15, h24, -⟩ := hd
      replace h15 : vs 15 = _ := h15
      replace h24 : vs 24 = _ := h24
      simp only [canonD, Act.put, List.getElem_toArray, List.getElem_cons_zero, List.getElem_cons_succ, List.setIfInBounds_toArray, List.set_cons_zero, List.set_cons_succ, h15, h24] at hK ⊢
      have hW : Fr [] wc w' := (Fr.refl [] wc).drew.trans hG
      obtain ⟨x0, x1, x2, x3, x4, x5, x6, x7, x8⟩ := (HXB.out.keep hW).bcells
      refine Eq.mpr (if_pos (by rfl)) ?_
      go_simp
      refine hK.out _ _ (Fr.refl _ _) hG ?_
      show _ = _
      rfl
    · intro vs w' hG hd K hK
      obtain ⟨h15, h25, -⟩ := hd
      replace h15 : vs 15 = _ := h15
      replace h25 : vs 25 = _ := h25
      simp only [canonD, Act.put, List.getElem_toArray, List.getElem_cons_zero, List.getElem_cons_succ, List.setIfInBounds_toArray, List.set_cons_zero, List.set_cons_succ, h15, h25] at hK ⊢
      refine Eq.mpr (if_pos (by rfl)) ?_
      go_simp
      refine hK.out _ _ (Fr.refl _ _) hG ?_
      show _ = _
      rfl
    · intro vs w' hG hd K hK
      obtain ⟨h15, h22, h26, -⟩ := hd
      replace h15 : vs 15 = _ := h15
      replace h22 : vs 22 = _ := h22
      replace h26 : vs 26 = _ := h26
      simp only [canonD, Act.put, List.getElem_toArray, List.getElem_cons_zero, List.getElem_cons_succ, List.setIfInBounds_toArray, List.set_cons_zero, List.set_cons_succ, h15, h22, h26] at hK ⊢
      refine Eq.mpr (if_pos (by rfl)) ?_
      go_simp
      refine hK.out _ _ (Fr.refl _ _) hG ?_
      show _ = _
      rfl
    · intro vs w' hG hd K hK
      obtain ⟨h15, h17, h27, -⟩ := hd
      replace h15 : vs 15 = _ := h15
      replace h17 : vs 17 = _ := h17
      replace h27 : vs 27 = _ := h27
      simp only [canonD, Act.put, List.getElem_toArray, List.getElem_cons_zero, List.getElem_cons_succ, List.setIfInBounds_toArray, List.set_cons_zero, List.set_cons_succ, h15, h17, h27] at hK ⊢
      refine Eq.mpr (if_pos (by rfl)) ?_
      go_simp
      refine hK.out _ _ (Fr.refl _ _) hG ?_
      show _ = _
      rfl
    · intro vs w' hG hd K hK
      obtain ⟨h15, h28, -⟩ := hd
      replace h15 : vs 15 = _ := h15
      replace h28 : vs 28 = _ := h28
      simp only [canonD, Act.put, List.getElem_toArray, List.getElem_cons_zero, List.getElem_cons_succ, List.setIfInBounds_toArray, List.set_cons_zero, List.set_cons_succ, h15, h28] at hK ⊢
      refine Eq.mpr (if_pos (by rfl)) ?_
      go_simp
      refine hK.out _ _ (Fr.refl _ _) hG ?_
      show _ = _
      rfl
    · intro vs w' hG hd K hK
      obtain ⟨h29, -⟩ := hd
      replace h29 : vs 29 = _ := h29
      simp only [canonD, Act.put, List.getElem_toArray, List.getElem_cons_zero, List.getElem_cons_succ, List.setIfInBounds_toArray, List.set_cons_zero, List.set_cons_succ, h29] at hK ⊢
      refine Eq.mpr (if_pos (by rfl)) ?_
      go_simp
      refine hK.out _ _ (Fr.refl _ _) hG ?_
      show _ = _
      rfl
    intro vs w' hG hP
    obtain ⟨h0, h1, h2, h3, h4, h5, h6, h7, h8, h9, h10, h11, h12, h13, h14, h15, h16, h17, h18, h19, h20, h21, h22, h23, h24, h25, h26, h27, h28, h29, h30, -⟩ := hP
    replace h0 : vs 0 = _ := h0
    replace h1 : vs 1 = _ := h1
    replace h2 : vs 2 = _ := h2
    replace h3 : vs 3 = _ := h3
    replace h4 : RBV w' (vs 4) x.head x.body := h4
    replace h5 : vs 5 = _ := h5
    replace h6 : RBV w' (vs 6) y.head y.body := h6
    replace h7 : vs 7 = _ := h7
    replace h8 : vs 8 = _ := h8
    replace h9 : vs 9 = _ := h9
    replace h10 : vs 10 = _ := h10
    replace h11 : vs 11 = _ := h11
    replace h12 : vs 12 = _ := h12
    replace h13 : vs 13 = _ := h13
    replace h14 : vs 14 = _ := h14
    replace h15 : vs 15 = _ := h15
    replace h16 : vs 16 = _ := h16
    replace h17 : vs 17 = _ := h17
    replace h18 : vs 18 = _ := h18
    replace h19 : vs 19 = _ := h19
    replace h20 : vs 20 = _ := h20
    replace h21 : vs 21 = _ := h21
    replace h22 : vs 22 = _ := h22
    replace h23 : vs 23 = _ := h23
    replace h24 : vs 24 = _ := h24
    replace h25 : vs 25 = _ := h25
    replace h26 : vs 26 = _ := h26
    replace h27 : vs 27 = _ := h27
    replace h28 : vs 28 = _ := h28
    replace h29 : vs 29 = _ := h29
    replace h30 : vs 30 = _ := h30
    simp only [canonD, Act.put, List.getElem_toArray, List.getElem_cons_zero, List.getElem_cons_succ, List.setIfInBounds_toArray, List.set_cons_zero, List.set_cons_succ, h0, h1, h2, h3, h5, h7, h8, h9, h10, h11, h12, h13, h14, h15, h16, h17, h18, h19, h20, h21, h22, h23, h24, h25, h26, h27, h28, h29, h30]
    generalize vs 4 = v4 at *
    generalize vs 6 = v6 at *
    clear h0 h1 h2 h3 h5 h7 h8 h9 h10 h11 h12 h13 h14 h15 h16 h17 h18 h19 h20 h21 h22 h23 h24 h25 h26 h27 h28 h29 h30
    have hF := (Fr.refl [] wc).drew.trans hG
    have HF := Lib.hid (HF.out.trans hF)
    clear hF hG
    clear h4 h6
    go_wp2_with fail
    go_ret
    exact ⟨ret_bool (by simp; exact len_wrap x), HF.out⟩
end Go.Proofs.Yticoongkfhkjgaa
