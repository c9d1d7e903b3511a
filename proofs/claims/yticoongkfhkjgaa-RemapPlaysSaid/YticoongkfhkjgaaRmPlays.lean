/- The walk of confluxlaw23.RemapPlays (printed by gen_rmplays.py). -/
import Derived.Test.YticoongkfhkjgaaR23Bytes
import Derived.Test.YticoongkfhkjgaaRmTwoPlain
import Derived.Test.YticoongkfhkjgaaZone
import Derived.Test.YticoongkfhkjgaaOps23
import Derived.Test.YticoongkfhkjgaaAlive23
import Derived.Test.YticoongkfhkjgaaRules
import Derived.Test.YticoongkfhkjgaaRef1
import Derived.Test.YticoongkfhkjgaaRef2
namespace Go.Proofs.Yticoongkfhkjgaa
open Go.RowKit

/-- What Bytes answers: the map behind it, the code, the bytes. -/
def PB (M : RMap) (l : List UInt8) (M' : RMap) (k : Int) (lb : List UInt8) : Prop := (∃ p, parseR l = .ok p ∧ M' = M.step_ p ∧ k = 0 ∧ lb = (M.out p).bytes) ∨ (parseR l = .error k ∧ M' = M ∧ lb = [])
theorem PB.one {M : RMap} {l : List UInt8} {M1 M2 : RMap} {k1 k2 : Int} {l1 l2 : List UInt8} (h : PB M l M1 k1 l1) (h' : PB M l M2 k2 l2) : M1 = M2 ∧ k1 = k2 ∧ l1 = l2 := by
  rcases h with ⟨p, h1, rfl, rfl, rfl⟩ | ⟨h1, rfl, rfl⟩ <;> rcases h' with ⟨q, h2, rfl, rfl, rfl⟩ | ⟨h2, rfl, rfl⟩ <;> rw [h1] at h2 <;> cases h2 <;> exact ⟨rfl, rfl, rfl⟩
theorem PB.small {M : RMap} {l : List UInt8} {M1 : RMap} {k1 : Int} {l1 : List UInt8} (hm : M.Ok) (h : PB M l M1 k1 l1) : l1.length ≤ 1500 := by
  rcases h with ⟨p, h1, rfl, rfl, rfl⟩ | ⟨h1, rfl, rfl⟩
  · rw [bytes_len]
    exact (Pkt.fit (RMap.out_wrong hm (parse_back h1).1)).size
  · simp
theorem PB.step {M : RMap} {l : List UInt8} {M1 : RMap} {k1 : Int} {l1 : List UInt8} (h : PB M l M1 k1 l1) {j : Nat} (hm : M.Ok) (hs : M.segs ≤ j) (hc : M.cnt ≤ j) (hj : j ≤ 1000000) : M1.Ok ∧ M1.segs ≤ j + 1 ∧ M1.cnt ≤ j + 1 := by
  rcases h with ⟨p, h1, rfl, rfl, rfl⟩ | ⟨h1, rfl, rfl⟩
  · exact RMap.step_ok hm hs hc hj p
  · exact ⟨hm, by omega, by omega⟩
theorem rmBytes_pb {w : World} {g : Nat} {m : RMap} {v : Value} {l : List UInt8} (hB : Box w g 132 (mc m)) (hm : m.Ok) (hl : Bytes w v l) :
    Calls Try.prog 51 #[.pointer (some ⟨g, 0, none⟩), v] w fun e w' => ∃ M' k lb v', PB m l M' k lb ∧ e = .returned (.tuple #[v', .int .i64 k]) ∧ Zl w' v' (lb.map B8) w.heap.size w'.heap.size ∧ Box w' g 132 (mc M') ∧ Fr [g] w w' :=
  (rmBytes_any hB hm hl).mono fun e w' h => by
    rcases h with ⟨p, v', hp, rfl, hO, hM, hF⟩ | ⟨k, hp, rfl, hM, hF⟩
    · exact ⟨_, _, _, _, .inl ⟨p, hp, rfl, rfl, rfl⟩, rfl, Zl.ofB hO, hM, hF⟩
    · exact ⟨_, _, _, _, .inr ⟨hp, rfl, rfl⟩, rfl, ⟨Sl.nil _, fun b hb => by simp [liveOf] at hb⟩, hM, hF.any⟩
theorem R23Bytes_pb {w : World} {m : RMap} {v : Value} {l : List UInt8} (hm : m.Ok) (hl : Bytes w v l) :
    Calls Try.prog 52 #[.agg (mc m), v] w fun e w' => ∃ M' k lb v', PB m l M' k lb ∧ e = .returned (.tuple #[.agg (mc M'), v', .int .i64 k]) ∧ Zl w' v' (lb.map B8) w.heap.size w'.heap.size ∧ Fr [] w w' :=
  (R23Bytes_any hm hl).mono fun e w' h => by
    rcases h with ⟨p, v', hp, rfl, hO, hF⟩ | ⟨k, hp, rfl, hF⟩
    · exact ⟨_, _, _, _, .inl ⟨p, hp, rfl, rfl, rfl⟩, rfl, Zl.ofB hO, hF⟩
    · exact ⟨_, _, _, _, .inr ⟨hp, rfl, rfl⟩, rfl, ⟨Sl.nil _, fun b hb => by simp [liveOf] at hb⟩, hF⟩

set_option maxRecDepth 100000 in
set_option maxHeartbeats 16000000 in
theorem RemapPlays_any {w : World} {v : Value} {ops : List (Bool × List UInt8)} (ssrc : UInt32) (pt : Int) (first : UInt16) (ts : UInt32) (stp : Int) (hl : Ops23 w v ops) :
    Calls Try.prog 11 #[.int .u32 (ssrc.toNat : Nat), .int .i64 pt, .int .u16 (first.toNat : Nat), .int .u32 (ts.toNat : Nat), .int .i64 stp, v] w fun e w' => e = .returned (.bool true) ∧ Fr [] w w' := by
  obtain ⟨av, cv, rfl⟩ := hl.shape
  have hlen := hl.len.2
  unfold maxLen at hlen
  have HL := Lib.hid hl
  clear hl
  go_enter Try.func11, Try.ntmps11
  go_wp2_with fail
  refine alive23_any.mono ?_
  rintro e w1 ⟨rfl, hF⟩
  have HF := Lib.hid hF
  clear hF
  go_wp2_with fail
  refine (small23_any (HL.out.keep HF.out)).mono ?_
  rintro e w2 ⟨rfl, hF⟩
  have HF := Lib.hid (HF.out.trans hF)
  clear hF
  by_cases hfew : small23 ops = true
  rotate_left
  · have hfew2 : small23 ops = false := by simpa using hfew
    rw [hfew2]
    go_wp2_with fail
    go_ret
    exact ⟨rfl, HF.out⟩
  rw [hfew]
  obtain ⟨hn40, hsz⟩ := small23_true hfew
  have HSZ := Lib.hid hsz
  clear hfew hsz
  go_wp2_with fail
  refine (rmNew_any ssrc pt first ts stp _).mono ?_
  rintro e w3 ⟨g, rfl, hg, hB, hF⟩
  have HG : Hid (w.heap.size ≤ g) := Lib.hid (Nat.le_trans HF.out.size hg)
  have HF := Lib.hid (HF.out.trans hF)
  have HM := Lib.hid hB
  clear hF hg hB
  go_wp2_with fail
  refine (R23New_any ssrc pt first ts stp _).mono ?_
  rintro e w4 ⟨rfl, hF⟩
  have HF := Lib.hid (HF.out.trans hF)
  have HM := Lib.hid (HM.out.keep hF)
  clear hF
  go_upto_region 6 with (refine wpList_store_row rfl 88 (.tmp 14) (.tmp 41) rfl w4.heap.size rfl _ _ rfl 88 (Box.new w4 88 #[.int .u32 0, .int .i64 0, .int .u16 0, .int .u32 0, .int .i64 0, .int .u32 0, .bool false, .int .i64 0, .int .i64 0]) (by kernel_rfl) rfl (oneCell_mc (RMap.new ssrc pt first ts stp)) ?_; intro w5 hY hG; have hFn := ((Fr.refl [] w4).alloc _).step hG (by simp); have HFn := Lib.hid hFn; have HY := Lib.hid hY; clear hG hFn hY)
  have hF := HFn.out
  have hgl := HM.out.lt
  have HAW : Hid (w.heap.size ≤ w4.heap.size) := Lib.hid (by have := HF.out.size; omega)
  have HF := Lib.hid (HF.out.trans hF); have HM := Lib.hid (HM.out.keep hF); have HA := HY
  clear hF HFn HY
  generalize hAA : w4.heap.size = A at *
  have hgA : g < A := by omega
  clear hAA hgl
  go_wp2_with fail
  go_loopw [44] (fun i wr => ∃ (j : Nat) (M : RMap), j ≤ ops.length ∧ i = .int .i64 j ∧ M.Ok ∧ M.segs ≤ j ∧ M.cnt ≤ j ∧ Box wr g 132 (mc M) ∧ Box wr A 88 (mc M) ∧ Fr [] w wr) (fun i _ => ops.length - (intOf i).toNat)
  case atStart => exact ⟨0, RMap.new ssrc pt first ts stp, Nat.zero_le _, rfl, RMap.new_ok _ _ _ _ _, Nat.le_refl _, Nat.le_refl _, HM.out, HA.out, HF.out⟩
  case round =>
    clear HM HA HF
    obtain ⟨j, M, hj, rfl, hok, hsg, hct, hM, hA, hF⟩ := hrel
    have HM := Lib.hid hM; have HA := Lib.hid hA; have HF := Lib.hid hF; have HOK := Lib.hid hok
    have hlw : w.heap.size ≤ g := HG.out
    have hgl := hM.lt; have hal := hA.lt
    clear hM hA hF hok
    by_cases hlt : j < ops.length
    rotate_left
    · go_wp2_with fail
      go_ret
      first | exact ⟨rfl, HF.out⟩ | exact ⟨ret_bool (by simp), HF.out⟩
    obtain ⟨b, o, sw, l, x, rfl, hb, hlj, hx0, hx1, hR⟩ := HL.out.at_ hlt
    obtain ⟨al, cl, rfl⟩ := Sl.shape hR
    simp only [List.length_map] at hx1 hR
    have d0 := HF.out.cellSome hx0 (by simp)
    have d1 := HF.out.cellSome hx1 (by simp)
    have hll := HSZ.out _ (List.mem_of_getElem? hlj)
    simp only at hll
    have HR := Lib.hid hR
    obtain ⟨w4, e4, hF4, hB4, hs4⟩ := one_new wr #[.bool sw, .slice al l.length cl] 91
    have HM := Lib.hid (HM.out.keep hF4); have HA := Lib.hid (HA.out.keep hF4); have HF := Lib.hid (HF.out.trans hF4); have HO := Lib.hid hB4
    have hoz : wr.heap.size < w4.heap.size := by omega
    generalize hOO : wr.heap.size = O at *
    clear hx0 hx1 hlj hb hR hF4 hB4 hs4
    cases sw with
    | true =>
      have o0 := HO.out.cell 0
      simp only [List.getElem?_toArray, List.getElem?_cons_succ, List.getElem?_cons_zero] at o0
      go_upto_region 10 with (fail)
      try rw [e4]
      clear e4 d0 d1 o0 hOO
      go_wp2_with fail
      refine (rmSwitch_any HM.out).mono ?_
      rintro e w5 ⟨rfl, hM, hF⟩
      have HM := Lib.hid hM; have HA := Lib.hid (HA.out.fr hF (by simp; omega)); have HF := Lib.hid (HF.out.step hF (fun x hx => by simp at hx; subst hx; exact .inr (by omega)))
      clear hM hF
      have x6 := HA.out.cell 6; have f6 := HA.out.free 6
      simp only [mc, List.getElem?_toArray, List.getElem?_cons_succ, List.getElem?_cons_zero] at x6
      go_upto_region 18 with (fail)
      clear x6 f6
      obtain ⟨w6, e6, hF6, hB6, hs6⟩ := set_new HA.out 6 (.bool false)
      try rw [e6]
      have HA : Hid (Box w6 A 88 (mc M.shut)) := Lib.hid hB6
      have HM := Lib.hid (HM.out.fr hF6 (by simp; omega)); have HF := Lib.hid (HF.out.step hF6 (fun x hx => by simp at hx; subst hx; exact .inr (by have := HAW.out; omega)))
      clear hF6 hB6 hs6 e6
      go_wp2_with fail
      refine (rmShift_any HM.out).mono ?_
      rintro e wz ⟨rfl, rfl⟩
      have HCA : Hid (Box w6 A 88 (mc M.shut)) := HA
      cases ho : (M.shut).opn
      all_goals have HOP := Lib.hid ho
      all_goals clear ho
      · try simp only [HOP.out, if_true, if_false, Bool.false_eq_true, reduceCtorEq, ite_false, ite_true]
        go_upto_region 19 with fail
        refine wp_region_rules (fun w' => Fr [] w6.drew w') (Fr []) [isV ?p1x0, isV (.int .u16 ((M.shut).next.toNat : Nat)), isV ?p1x2, isV (.int .u16 ((M.shut).next.toNat : Nat)), isV (.bool false), isV ?p1x5, isV ?p1x6, isV (.int .i64 ((M.shut).segs : Nat)), isV ?p1x8, isV (.int .i64 ((M.shut).segs : Nat)), isV (.bool false), isV ?p1x11, isV ?p1x12, isV ?p1x13, isV (.int .i64 ((M.shut).cnt : Nat)), isV ?p1x15, isV (.int .i64 ((M.shut).cnt : Nat)), isV (.bool false), isV ?p1x18, isV ?p1x19, isV (.bool false), isV ?p1x21, isV (.bool false), isV (.bool false), isV ?p1x24, isV ?p1x25, isV (.bool false), isV ?p1x27, isV undef, isV undef, isV undef, isV undef, isV ?p1x32, isV ?p1x33, isV ?p1x34, isV (.bool false), isV ?p1x36, isV ?p1x37, isV ?p1x38, isV (.bool false), isV ?p1x40, isV ?p1x41] [[], [(0, 92)], [], [(2, 94)], [(1, 93), (3, 95)], [(4, 96)], [(5, 97)], [(5, 97), (6, 98)], [(5, 97)], [(5, 97), (8, 100)], [(5, 97), (7, 99), (9, 101)], [(5, 97), (10, 102)], [(11, 103)], [(12, 104)], [(12, 104), (13, 105)], [(12, 104)], [(12, 104), (15, 107)], [(12, 104), (14, 106), (16, 108)], [(12, 104), (17, 109)], [(18, 110)], [(19, 111)], [(19, 111)], [(19, 111), (21, 113)], [(19, 111), (20, 112), (22, 114)], [(19, 111), (23, 115)], [(24, 116)], [(25, 117)], [(25, 117), (26, 118)], [(27, 119)], [(27, 119)], [(27, 119), (29, 121)], [(27, 119), (28, 120), (30, 122)], [(25, 117), (27, 119), (31, 123)], [(25, 117), (32, 124)], [(33, 125)], [(34, 126)], [(34, 126), (35, 127)], [(34, 126), (36, 128)], [(37, 129)], [(37, 129), (38, 130)], [(34, 126), (37, 129), (39, 131)], [(34, 126), (40, 132)]] 135 [0, 1, 2, 3, 4, 5, 6, 7, 8, 9, 10, 11, 12, 13, 14, 15, 16, 17, 18, 19, 20, 21, 22, 23, 24, 25, 26, 27, 28, 29, 30, 31, 32, 33, 34, 35, 36, 37, 38, 39, 40, 41] [(0, 92), (1, 93), (2, 94), (3, 95), (4, 96), (5, 97), (6, 98), (7, 99), (8, 100), (9, 101), (10, 102), (11, 103), (12, 104), (13, 105), (14, 106), (15, 107), (16, 108), (17, 109), (18, 110), (19, 111), (20, 112), (21, 113), (22, 114), (23, 115), (24, 116), (25, 117), (26, 118), (27, 119), (28, 120), (29, 121), (30, 122), (31, 123), (32, 124), (33, 125), (34, 126), (35, 127), (36, 128), (37, 129), (38, 130), (39, 131), (40, 132), (41, 133)] (by kernel_rfl) (by kernel_rfl) rfl (by kernel_rfl) (by kernel_rfl) (by kernel_rfl) (by kernel_rfl) (by intro c a a' W h hq; cases a; cases a'; cases h; exact hq) (fun w => Fr.refl _ w) (Fr.refl _ _) ⟨isV_stab, isV_stab, isV_stab, isV_stab, isV_stab, isV_stab, isV_stab, isV_stab, isV_stab, isV_stab, isV_stab, isV_stab, isV_stab, isV_stab, isV_stab, isV_stab, isV_stab, isV_stab, isV_stab, isV_stab, isV_stab, isV_stab, isV_stab, isV_stab, isV_stab, isV_stab, isV_stab, isV_stab, isV_stab, isV_stab, isV_stab, isV_stab, isV_stab, isV_stab, isV_stab, isV_stab, isV_stab, isV_stab, isV_stab, isV_stab, isV_stab, isV_stab, trivial⟩ ⟨?_, ?_, ?_, ?_, ?_, ?_, ?_, ?_, ?_, ?_, ?_, ?_, ?_, ?_, ?_, ?_, ?_, ?_, ?_, ?_, ?_, ?_, ?_, ?_, ?_, ?_, ?_, ?_, ?_, ?_, ?_, ?_, ?_, ?_, ?_, ?_, ?_, ?_, ?_, ?_, ?_, ?_, trivial⟩ ?_
        rotate_left 23
        · intro vs w' hG hd K hK
          clear hd
          simp only [canonD, Act.put, List.getElem_toArray, List.getElem_cons_zero, List.getElem_cons_succ, List.setIfInBounds_toArray, List.set_cons_zero, List.set_cons_succ] at hK ⊢
          refine Eq.mpr (if_pos (by rfl)) ?_
          go_simp
          refine hK.out _ _ (Fr.refl _ _) hG ?_
          show _ = _
          rfl
        · intro vs w' hG hd K hK
          obtain ⟨h0, -⟩ := hd
          replace h0 : vs 0 = _ := h0
          simp only [canonD, Act.put, List.getElem_toArray, List.getElem_cons_zero, List.getElem_cons_succ, List.setIfInBounds_toArray, List.set_cons_zero, List.set_cons_succ, h0] at hK ⊢
          have hW : Fr [] w6 w' := (Fr.refl [] w6).drew.trans hG
          refine Eq.mpr (if_pos (by rfl)) ?_
          go_simp
          refine (rmNext_any (HM.out.keep hW)).mono ?_
          rintro e wz ⟨rfl, rfl⟩
          go_simp
          refine hK.out _ _ (Fr.refl _ _) hG ?_
          show _ = _
          rfl
        · intro vs w' hG hd K hK
          clear hd
          simp only [canonD, Act.put, List.getElem_toArray, List.getElem_cons_zero, List.getElem_cons_succ, List.setIfInBounds_toArray, List.set_cons_zero, List.set_cons_succ] at hK ⊢
          refine Eq.mpr (if_pos (by rfl)) ?_
          go_simp
          refine hK.out _ _ (Fr.refl _ _) hG ?_
          show _ = _
          rfl
        · intro vs w' hG hd K hK
          obtain ⟨h2, -⟩ := hd
          replace h2 : vs 2 = _ := h2
          simp only [canonD, Act.put, List.getElem_toArray, List.getElem_cons_zero, List.getElem_cons_succ, List.setIfInBounds_toArray, List.set_cons_zero, List.set_cons_succ, h2] at hK ⊢
          have hW : Fr [] w6 w' := (Fr.refl [] w6).drew.trans hG
          have x2 := (HA.out.keep hW).cell 2
          simp only [mc, List.getElem?_toArray, List.getElem?_cons_succ, List.getElem?_cons_zero] at x2
          refine Eq.mpr (if_pos (by rfl)) ?_
          go_simp
          refine hK.out _ _ (Fr.refl _ _) hG ?_
          show _ = _
          rfl
        · intro vs w' hG hd K hK
          obtain ⟨h1, h3, -⟩ := hd
          replace h1 : vs 1 = _ := h1
          replace h3 : vs 3 = _ := h3
          simp only [canonD, Act.put, List.getElem_toArray, List.getElem_cons_zero, List.getElem_cons_succ, List.setIfInBounds_toArray, List.set_cons_zero, List.set_cons_succ, h1, h3] at hK ⊢
          refine Eq.mpr (if_pos (by rfl)) ?_
          go_simp
          refine hK.out _ _ (Fr.refl _ _) hG ?_
          show _ = _
          first | rfl | exact congrArg Value.bool (by simp)
        · intro vs w' hG hd K hK
          obtain ⟨h4, -⟩ := hd
          replace h4 : vs 4 = _ := h4
          simp only [canonD, Act.put, List.getElem_toArray, List.getElem_cons_zero, List.getElem_cons_succ, List.setIfInBounds_toArray, List.set_cons_zero, List.set_cons_succ, h4] at hK ⊢
          refine Eq.mpr (if_pos (by rfl)) ?_
          go_simp
          refine hK.out _ _ (Fr.refl _ _) hG ?_
          show _ = _
          rfl
        · intro vs w' hG hd K hK
          obtain ⟨h5, -⟩ := hd
          replace h5 : vs 5 = _ := h5
          simp only [canonD, Act.put, List.getElem_toArray, List.getElem_cons_zero, List.getElem_cons_succ, List.setIfInBounds_toArray, List.set_cons_zero, List.set_cons_succ, h5] at hK ⊢
          refine Eq.mpr (if_pos (by rfl)) ?_
          go_simp
          refine hK.out _ _ (Fr.refl _ _) hG ?_
          show _ = _
          rfl
        · intro vs w' hG hd K hK
          obtain ⟨h5, h6, -⟩ := hd
          replace h5 : vs 5 = _ := h5
          replace h6 : vs 6 = _ := h6
          simp only [canonD, Act.put, List.getElem_toArray, List.getElem_cons_zero, List.getElem_cons_succ, List.setIfInBounds_toArray, List.set_cons_zero, List.set_cons_succ, h5, h6] at hK ⊢
          have hW : Fr [] w6 w' := (Fr.refl [] w6).drew.trans hG
          refine Eq.mpr (if_pos (by rfl)) ?_
          go_simp
          refine (rmSegs_any (HM.out.keep hW)).mono ?_
          rintro e wz ⟨rfl, rfl⟩
          go_simp
          refine hK.out _ _ (Fr.refl _ _) hG ?_
          show _ = _
          rfl
        · intro vs w' hG hd K hK
          obtain ⟨h5, -⟩ := hd
          replace h5 : vs 5 = _ := h5
          simp only [canonD, Act.put, List.getElem_toArray, List.getElem_cons_zero, List.getElem_cons_succ, List.setIfInBounds_toArray, List.set_cons_zero, List.set_cons_succ, h5] at hK ⊢
          refine Eq.mpr (if_pos (by rfl)) ?_
          go_simp
          refine hK.out _ _ (Fr.refl _ _) hG ?_
          show _ = _
          rfl
        · intro vs w' hG hd K hK
          obtain ⟨h5, h8, -⟩ := hd
          replace h5 : vs 5 = _ := h5
          replace h8 : vs 8 = _ := h8
          simp only [canonD, Act.put, List.getElem_toArray, List.getElem_cons_zero, List.getElem_cons_succ, List.setIfInBounds_toArray, List.set_cons_zero, List.set_cons_succ, h5, h8] at hK ⊢
          have hW : Fr [] w6 w' := (Fr.refl [] w6).drew.trans hG
          have x7 := (HA.out.keep hW).cell 7
          simp only [mc, List.getElem?_toArray, List.getElem?_cons_succ, List.getElem?_cons_zero] at x7
          refine Eq.mpr (if_pos (by rfl)) ?_
          go_simp
          refine hK.out _ _ (Fr.refl _ _) hG ?_
          show _ = _
          rfl
        · intro vs w' hG hd K hK
          obtain ⟨h5, h7, h9, -⟩ := hd
          replace h5 : vs 5 = _ := h5
          replace h7 : vs 7 = _ := h7
          replace h9 : vs 9 = _ := h9
          simp only [canonD, Act.put, List.getElem_toArray, List.getElem_cons_zero, List.getElem_cons_succ, List.setIfInBounds_toArray, List.set_cons_zero, List.set_cons_succ, h5, h7, h9] at hK ⊢
          refine Eq.mpr (if_pos (by rfl)) ?_
          go_simp
          refine hK.out _ _ (Fr.refl _ _) hG ?_
          show _ = _
          first | rfl | exact congrArg Value.bool (by simp)
        · intro vs w' hG hd K hK
          obtain ⟨h5, h10, -⟩ := hd
          replace h5 : vs 5 = _ := h5
          replace h10 : vs 10 = _ := h10
          simp only [canonD, Act.put, List.getElem_toArray, List.getElem_cons_zero, List.getElem_cons_succ, List.setIfInBounds_toArray, List.set_cons_zero, List.set_cons_succ, h5, h10] at hK ⊢
          refine Eq.mpr (if_pos (by rfl)) ?_
          go_simp
          refine hK.out _ _ (Fr.refl _ _) hG ?_
          show _ = _
          rfl
        · intro vs w' hG hd K hK
          obtain ⟨h11, -⟩ := hd
          replace h11 : vs 11 = _ := h11
          simp only [canonD, Act.put, List.getElem_toArray, List.getElem_cons_zero, List.getElem_cons_succ, List.setIfInBounds_toArray, List.set_cons_zero, List.set_cons_succ, h11] at hK ⊢
          refine Eq.mpr (if_pos (by rfl)) ?_
          go_simp
          refine hK.out _ _ (Fr.refl _ _) hG ?_
          show _ = _
          rfl
        · intro vs w' hG hd K hK
          obtain ⟨h12, -⟩ := hd
          replace h12 : vs 12 = _ := h12
          simp only [canonD, Act.put, List.getElem_toArray, List.getElem_cons_zero, List.getElem_cons_succ, List.setIfInBounds_toArray, List.set_cons_zero, List.set_cons_succ, h12] at hK ⊢
          refine Eq.mpr (if_pos (by rfl)) ?_
          go_simp
          refine hK.out _ _ (Fr.refl _ _) hG ?_
          show _ = _
          rfl
        · intro vs w' hG hd K hK
          obtain ⟨h12, h13, -⟩ := hd
          replace h12 : vs 12 = _ := h12
          replace h13 : vs 13 = _ := h13
          simp only [canonD, Act.put, List.getElem_toArray, List.getElem_cons_zero, List.getElem_cons_succ, List.setIfInBounds_toArray, List.set_cons_zero, List.set_cons_succ, h12, h13] at hK ⊢
          have hW : Fr [] w6 w' := (Fr.refl [] w6).drew.trans hG
          refine Eq.mpr (if_pos (by rfl)) ?_
          go_simp
          refine (rmCount_any (HM.out.keep hW)).mono ?_
          rintro e wz ⟨rfl, rfl⟩
          go_simp
          refine hK.out _ _ (Fr.refl _ _) hG ?_
          show _ = _
          rfl
        · intro vs w' hG hd K hK
          obtain ⟨h12, -⟩ := hd
          replace h12 : vs 12 = _ := h12
          simp only [canonD, Act.put, List.getElem_toArray, List.getElem_cons_zero, List.getElem_cons_succ, List.setIfInBounds_toArray, List.set_cons_zero, List.set_cons_succ, h12] at hK ⊢
          refine Eq.mpr (if_pos (by rfl)) ?_
          go_simp
          refine hK.out _ _ (Fr.refl _ _) hG ?_
          show _ = _
          rfl
        · intro vs w' hG hd K hK
          obtain ⟨h12, h15, -⟩ := hd
          replace h12 : vs 12 = _ := h12
          replace h15 : vs 15 = _ := h15
          simp only [canonD, Act.put, List.getElem_toArray, List.getElem_cons_zero, List.getElem_cons_succ, List.setIfInBounds_toArray, List.set_cons_zero, List.set_cons_succ, h12, h15] at hK ⊢
          have hW : Fr [] w6 w' := (Fr.refl [] w6).drew.trans hG
          have x8 := (HA.out.keep hW).cell 8
          simp only [mc, List.getElem?_toArray, List.getElem?_cons_succ, List.getElem?_cons_zero] at x8
          refine Eq.mpr (if_pos (by rfl)) ?_
          go_simp
          refine hK.out _ _ (Fr.refl _ _) hG ?_
          show _ = _
          rfl
        · intro vs w' hG hd K hK
          obtain ⟨h12, h14, h16, -⟩ := hd
          replace h12 : vs 12 = _ := h12
          replace h14 : vs 14 = _ := h14
          replace h16 : vs 16 = _ := h16
          simp only [canonD, Act.put, List.getElem_toArray, List.getElem_cons_zero, List.getElem_cons_succ, List.setIfInBounds_toArray, List.set_cons_zero, List.set_cons_succ, h12, h14, h16] at hK ⊢
          refine Eq.mpr (if_pos (by rfl)) ?_
          go_simp
          refine hK.out _ _ (Fr.refl _ _) hG ?_
          show _ = _
          first | rfl | exact congrArg Value.bool (by simp)
        · intro vs w' hG hd K hK
          obtain ⟨h12, h17, -⟩ := hd
          replace h12 : vs 12 = _ := h12
          replace h17 : vs 17 = _ := h17
          simp only [canonD, Act.put, List.getElem_toArray, List.getElem_cons_zero, List.getElem_cons_succ, List.setIfInBounds_toArray, List.set_cons_zero, List.set_cons_succ, h12, h17] at hK ⊢
          refine Eq.mpr (if_pos (by rfl)) ?_
          go_simp
          refine hK.out _ _ (Fr.refl _ _) hG ?_
          show _ = _
          rfl
        · intro vs w' hG hd K hK
          obtain ⟨h18, -⟩ := hd
          replace h18 : vs 18 = _ := h18
          simp only [canonD, Act.put, List.getElem_toArray, List.getElem_cons_zero, List.getElem_cons_succ, List.setIfInBounds_toArray, List.set_cons_zero, List.set_cons_succ, h18] at hK ⊢
          refine Eq.mpr (if_pos (by rfl)) ?_
          go_simp
          refine hK.out _ _ (Fr.refl _ _) hG ?_
          show _ = _
          rfl
        · intro vs w' hG hd K hK
          obtain ⟨h19, -⟩ := hd
          replace h19 : vs 19 = _ := h19
          simp only [canonD, Act.put, List.getElem_toArray, List.getElem_cons_zero, List.getElem_cons_succ, List.setIfInBounds_toArray, List.set_cons_zero, List.set_cons_succ, h19] at hK ⊢
          refine Eq.mpr (if_pos (by rfl)) ?_
          go_simp
          refine hK.out _ _ (Fr.refl _ _) hG ?_
          show _ = _
          rfl
        · intro vs w' hG hd K hK
          obtain ⟨h19, -⟩ := hd
          replace h19 : vs 19 = _ := h19
          simp only [canonD, Act.put, List.getElem_toArray, List.getElem_cons_zero, List.getElem_cons_succ, List.setIfInBounds_toArray, List.set_cons_zero, List.set_cons_succ, h19] at hK ⊢
          refine Eq.mpr (if_pos (by rfl)) ?_
          go_simp
          refine hK.out _ _ (Fr.refl _ _) hG ?_
          show _ = _
          rfl
        · intro vs w' hG hd K hK
          obtain ⟨h19, h21, -⟩ := hd
          replace h19 : vs 19 = _ := h19
          replace h21 : vs 21 = _ := h21
          simp only [canonD, Act.put, List.getElem_toArray, List.getElem_cons_zero, List.getElem_cons_succ, List.setIfInBounds_toArray, List.set_cons_zero, List.set_cons_succ, h19, h21] at hK ⊢
          have hW : Fr [] w6 w' := (Fr.refl [] w6).drew.trans hG
          have x6 := (HA.out.keep hW).cell 6
          simp only [mc, List.getElem?_toArray, List.getElem?_cons_succ, List.getElem?_cons_zero] at x6
          rw [HOP.out] at x6
          refine Eq.mpr (if_pos (by rfl)) ?_
          go_simp
          refine hK.out _ _ (Fr.refl _ _) hG ?_
          show _ = _
          rfl
        · intro vs w' hG hd K hK
          obtain ⟨h19, h20, h22, -⟩ := hd
          replace h19 : vs 19 = _ := h19
          replace h20 : vs 20 = _ := h20
          replace h22 : vs 22 = _ := h22
          simp only [canonD, Act.put, List.getElem_toArray, List.getElem_cons_zero, List.getElem_cons_succ, List.setIfInBounds_toArray, List.set_cons_zero, List.set_cons_succ, h19, h20, h22] at hK ⊢
          refine Eq.mpr (if_pos (by rfl)) ?_
          go_simp
          refine hK.out _ _ (Fr.refl _ _) hG ?_
          show _ = _
          first | rfl | exact congrArg Value.bool (by simp)
        · intro vs w' hG hd K hK
          obtain ⟨h19, h23, -⟩ := hd
          replace h19 : vs 19 = _ := h19
          replace h23 : vs 23 = _ := h23
          simp only [canonD, Act.put, List.getElem_toArray, List.getElem_cons_zero, List.getElem_cons_succ, List.setIfInBounds_toArray, List.set_cons_zero, List.set_cons_succ, h19, h23] at hK ⊢
          refine Eq.mpr (if_pos (by rfl)) ?_
          go_simp
          refine hK.out _ _ (Fr.refl _ _) hG ?_
          show _ = _
          rfl
        · intro vs w' hG hd K hK
          obtain ⟨h24, -⟩ := hd
          replace h24 : vs 24 = _ := h24
          simp only [canonD, Act.put, List.getElem_toArray, List.getElem_cons_zero, List.getElem_cons_succ, List.setIfInBounds_toArray, List.set_cons_zero, List.set_cons_succ, h24] at hK ⊢
          refine Eq.mpr (if_pos (by rfl)) ?_
          go_simp
          refine hK.out _ _ (Fr.refl _ _) hG ?_
          show _ = _
          rfl
        · intro vs w' hG hd K hK
          obtain ⟨h25, -⟩ := hd
          replace h25 : vs 25 = _ := h25
          simp only [canonD, Act.put, List.getElem_toArray, List.getElem_cons_zero, List.getElem_cons_succ, List.setIfInBounds_toArray, List.set_cons_zero, List.set_cons_succ, h25] at hK ⊢
          refine Eq.mpr (if_pos (by rfl)) ?_
          go_simp
          refine hK.out _ _ (Fr.refl _ _) hG ?_
          show _ = _
          rfl
        · intro vs w' hG hd K hK
          obtain ⟨h25, h26, -⟩ := hd
          replace h25 : vs 25 = _ := h25
          replace h26 : vs 26 = _ := h26
          simp only [canonD, Act.put, List.getElem_toArray, List.getElem_cons_zero, List.getElem_cons_succ, List.setIfInBounds_toArray, List.set_cons_zero, List.set_cons_succ, h25, h26] at hK ⊢
          refine Eq.mpr (if_pos (by rfl)) ?_
          go_simp
          refine hK.out _ _ (Fr.refl _ _) hG ?_
          show _ = _
          rfl
        · intro vs w' hG hd K hK
          obtain ⟨h27, -⟩ := hd
          replace h27 : vs 27 = _ := h27
          simp only [canonD, Act.put, List.getElem_toArray, List.getElem_cons_zero, List.getElem_cons_succ, List.setIfInBounds_toArray, List.set_cons_zero, List.set_cons_succ, h27] at hK ⊢
          refine Eq.mpr (if_neg (fun h => Bool.noConfusion (show false = true from h))) ?_
          rfl
        · intro vs w' hG hd K hK
          obtain ⟨h27, -⟩ := hd
          replace h27 : vs 27 = _ := h27
          simp only [canonD, Act.put, List.getElem_toArray, List.getElem_cons_zero, List.getElem_cons_succ, List.setIfInBounds_toArray, List.set_cons_zero, List.set_cons_succ, h27] at hK ⊢
          refine Eq.mpr (if_neg (fun h => Bool.noConfusion (show false = true from h))) ?_
          rfl
        · intro vs w' hG hd K hK
          obtain ⟨h27, h29, -⟩ := hd
          replace h27 : vs 27 = _ := h27
          replace h29 : vs 29 = _ := h29
          simp only [canonD, Act.put, List.getElem_toArray, List.getElem_cons_zero, List.getElem_cons_succ, List.setIfInBounds_toArray, List.set_cons_zero, List.set_cons_succ, h27, h29] at hK ⊢
          refine Eq.mpr (if_neg (fun h => Bool.noConfusion (show false = true from h))) ?_
          rfl
        · intro vs w' hG hd K hK
          obtain ⟨h27, h28, h30, -⟩ := hd
          replace h27 : vs 27 = _ := h27
          replace h28 : vs 28 = _ := h28
          replace h30 : vs 30 = _ := h30
          simp only [canonD, Act.put, List.getElem_toArray, List.getElem_cons_zero, List.getElem_cons_succ, List.setIfInBounds_toArray, List.set_cons_zero, List.set_cons_succ, h27, h28, h30] at hK ⊢
          refine Eq.mpr (if_neg (fun h => Bool.noConfusion (show false = true from h))) ?_
          rfl
        · intro vs w' hG hd K hK
          obtain ⟨h25, h27, h31, -⟩ := hd
          replace h25 : vs 25 = _ := h25
          replace h27 : vs 27 = _ := h27
          replace h31 : vs 31 = _ := h31
          simp only [canonD, Act.put, List.getElem_toArray, List.getElem_cons_zero, List.getElem_cons_succ, List.setIfInBounds_toArray, List.set_cons_zero, List.set_cons_succ, h25, h27, h31] at hK ⊢
          refine Eq.mpr (if_pos (by rfl)) ?_
          go_simp
          refine hK.out _ _ (Fr.refl _ _) hG ?_
          show _ = _
          rfl
        · intro vs w' hG hd K hK
          obtain ⟨h25, h32, -⟩ := hd
          replace h25 : vs 25 = _ := h25
          replace h32 : vs 32 = _ := h32
          simp only [canonD, Act.put, List.getElem_toArray, List.getElem_cons_zero, List.getElem_cons_succ, List.setIfInBounds_toArray, List.set_cons_zero, List.set_cons_succ, h25, h32] at hK ⊢
          refine Eq.mpr (if_pos (by rfl)) ?_
          go_simp
          refine hK.out _ _ (Fr.refl _ _) hG ?_
          show _ = _
          rfl
        · intro vs w' hG hd K hK
          obtain ⟨h33, -⟩ := hd
          replace h33 : vs 33 = _ := h33
          simp only [canonD, Act.put, List.getElem_toArray, List.getElem_cons_zero, List.getElem_cons_succ, List.setIfInBounds_toArray, List.set_cons_zero, List.set_cons_succ, h33] at hK ⊢
          refine Eq.mpr (if_pos (by rfl)) ?_
          go_simp
          refine hK.out _ _ (Fr.refl _ _) hG ?_
          show _ = _
          rfl
        · intro vs w' hG hd K hK
          obtain ⟨h34, -⟩ := hd
          replace h34 : vs 34 = _ := h34
          simp only [canonD, Act.put, List.getElem_toArray, List.getElem_cons_zero, List.getElem_cons_succ, List.setIfInBounds_toArray, List.set_cons_zero, List.set_cons_succ, h34] at hK ⊢
          refine Eq.mpr (if_pos (by rfl)) ?_
          go_simp
          refine hK.out _ _ (Fr.refl _ _) hG ?_
          show _ = _
          rfl
        · intro vs w' hG hd K hK
          obtain ⟨h34, h35, -⟩ := hd
          replace h34 : vs 34 = _ := h34
          replace h35 : vs 35 = _ := h35
          simp only [canonD, Act.put, List.getElem_toArray, List.getElem_cons_zero, List.getElem_cons_succ, List.setIfInBounds_toArray, List.set_cons_zero, List.set_cons_succ, h34, h35] at hK ⊢
          refine Eq.mpr (if_pos (by rfl)) ?_
          go_simp
          refine hK.out _ _ (Fr.refl _ _) hG ?_
          show _ = _
          rfl
        · intro vs w' hG hd K hK
          obtain ⟨h34, h36, -⟩ := hd
          replace h34 : vs 34 = _ := h34
          replace h36 : vs 36 = _ := h36
          simp only [canonD, Act.put, List.getElem_toArray, List.getElem_cons_zero, List.getElem_cons_succ, List.setIfInBounds_toArray, List.set_cons_zero, List.set_cons_succ, h34, h36] at hK ⊢
          refine Eq.mpr (if_pos (by rfl)) ?_
          go_simp
          refine hK.out _ _ (Fr.refl _ _) hG ?_
          show _ = _
          rfl
        · intro vs w' hG hd K hK
          obtain ⟨h37, -⟩ := hd
          replace h37 : vs 37 = _ := h37
          simp only [canonD, Act.put, List.getElem_toArray, List.getElem_cons_zero, List.getElem_cons_succ, List.setIfInBounds_toArray, List.set_cons_zero, List.set_cons_succ, h37] at hK ⊢
          refine Eq.mpr (if_pos (by rfl)) ?_
          go_simp
          refine hK.out _ _ (Fr.refl _ _) hG ?_
          show _ = _
          rfl
        · intro vs w' hG hd K hK
          obtain ⟨h37, h38, -⟩ := hd
          replace h37 : vs 37 = _ := h37
          replace h38 : vs 38 = _ := h38
          simp only [canonD, Act.put, List.getElem_toArray, List.getElem_cons_zero, List.getElem_cons_succ, List.setIfInBounds_toArray, List.set_cons_zero, List.set_cons_succ, h37, h38] at hK ⊢
          refine Eq.mpr (if_pos (by rfl)) ?_
          go_simp
          refine hK.out _ _ (Fr.refl _ _) hG ?_
          show _ = _
          first | rfl | exact congrArg Value.bool (by simp)
        · intro vs w' hG hd K hK
          obtain ⟨h34, h37, h39, -⟩ := hd
          replace h34 : vs 34 = _ := h34
          replace h37 : vs 37 = _ := h37
          replace h39 : vs 39 = _ := h39
          simp only [canonD, Act.put, List.getElem_toArray, List.getElem_cons_zero, List.getElem_cons_succ, List.setIfInBounds_toArray, List.set_cons_zero, List.set_cons_succ, h34, h37, h39] at hK ⊢
          refine Eq.mpr (if_pos (by rfl)) ?_
          go_simp
          refine hK.out _ _ (Fr.refl _ _) hG ?_
          show _ = _
          rfl
        · intro vs w' hG hd K hK
          obtain ⟨h34, h40, -⟩ := hd
          replace h34 : vs 34 = _ := h34
          replace h40 : vs 40 = _ := h40
          simp only [canonD, Act.put, List.getElem_toArray, List.getElem_cons_zero, List.getElem_cons_succ, List.setIfInBounds_toArray, List.set_cons_zero, List.set_cons_succ, h34, h40] at hK ⊢
          refine Eq.mpr (if_pos (by rfl)) ?_
          go_simp
          refine hK.out _ _ (Fr.refl _ _) hG ?_
          show _ = _
          rfl
        intro vs w' hG hP
        obtain ⟨h0, h1, h2, h3, h4, h5, h6, h7, h8, h9, h10, h11, h12, h13, h14, h15, h16, h17, h18, h19, h20, h21, h22, h23, h24, h25, h26, h27, h28, h29, h30, h31, h32, h33, h34, h35, h36, h37, h38, h39, h40, h41, -⟩ := hP
        replace h0 : vs 0 = _ := h0
        replace h1 : vs 1 = _ := h1
        replace h2 : vs 2 = _ := h2
        replace h3 : vs 3 = _ := h3
        replace h4 : vs 4 = _ := h4
        replace h5 : vs 5 = _ := h5
        replace h6 : vs 6 = _ := h6
        replace h7 : vs 7 = _ := h7
        replace h8 : vs 8 = _ := h8
        replace h9 : vs 9 = _ := h9
        replace h10 : vs 10 = _ := h10
        replace h11 : vs 11 = _ := h11
        replace h12 : vs 12 = _ := h12
        replace h13 : vs 13 = _ := h13
        replace h14 : vs 14 = _ := h14
        replace h15 : vs 15 = _ := h15
        replace h16 : vs 16 = _ := h16
        replace h17 : vs 17 = _ := h17
        replace h18 : vs 18 = _ := h18
        replace h19 : vs 19 = _ := h19
        replace h20 : vs 20 = _ := h20
        replace h21 : vs 21 = _ := h21
        replace h22 : vs 22 = _ := h22
        replace h23 : vs 23 = _ := h23
        replace h24 : vs 24 = _ := h24
        replace h25 : vs 25 = _ := h25
        replace h26 : vs 26 = _ := h26
        replace h27 : vs 27 = _ := h27
        replace h28 : vs 28 = _ := h28
        replace h29 : vs 29 = _ := h29
        replace h30 : vs 30 = _ := h30
        replace h31 : vs 31 = _ := h31
        replace h32 : vs 32 = _ := h32
        replace h33 : vs 33 = _ := h33
        replace h34 : vs 34 = _ := h34
        replace h35 : vs 35 = _ := h35
        replace h36 : vs 36 = _ := h36
        replace h37 : vs 37 = _ := h37
        replace h38 : vs 38 = _ := h38
        replace h39 : vs 39 = _ := h39
        replace h40 : vs 40 = _ := h40
        replace h41 : vs 41 = _ := h41
        simp only [canonD, Act.put, List.getElem_toArray, List.getElem_cons_zero, List.getElem_cons_succ, List.setIfInBounds_toArray, List.set_cons_zero, List.set_cons_succ, h0, h1, h2, h3, h4, h5, h6, h7, h8, h9, h10, h11, h12, h13, h14, h15, h16, h17, h18, h19, h20, h21, h22, h23, h24, h25, h26, h27, h28, h29, h30, h31, h32, h33, h34, h35, h36, h37, h38, h39, h40, h41]
        clear h0 h1 h2 h3 h4 h5 h6 h7 h8 h9 h10 h11 h12 h13 h14 h15 h16 h17 h18 h19 h20 h21 h22 h23 h24 h25 h26 h27 h28 h29 h30 h31 h32 h33 h34 h35 h36 h37 h38 h39 h40 h41
        have hF := (Fr.refl [] w6).drew.trans hG
        have HF := Lib.hid (HF.out.trans hF); have HM := Lib.hid (HM.out.keep hF); have HA := Lib.hid (HA.out.keep hF)
        clear hF hG
        go_wp2_with fail
        go_roundw
        case rel => exact ⟨j + 1, M.shut, by omega, by go_num, (RMap.shut_ok HOK.out), (show M.segs ≤ j + 1 by omega), (show M.cnt ≤ j + 1 by omega), HM.out, HA.out, HF.out⟩
        case measure => simp [intOf]; omega
      · try simp only [HOP.out, if_true, if_false, Bool.false_eq_true, reduceCtorEq, ite_false, ite_true]
        go_upto_region 19 with fail
        refine wp_region_rules (fun w' => Fr [] w6.drew w') (Fr []) [isV ?p2x0, isV (.int .u16 ((M.shut).next.toNat : Nat)), isV ?p2x2, isV (.int .u16 ((M.shut).next.toNat : Nat)), isV (.bool false), isV ?p2x5, isV ?p2x6, isV (.int .i64 ((M.shut).segs : Nat)), isV ?p2x8, isV (.int .i64 ((M.shut).segs : Nat)), isV (.bool false), isV ?p2x11, isV ?p2x12, isV ?p2x13, isV (.int .i64 ((M.shut).cnt : Nat)), isV ?p2x15, isV (.int .i64 ((M.shut).cnt : Nat)), isV (.bool false), isV ?p2x18, isV ?p2x19, isV (.bool true), isV ?p2x21, isV (.bool true), isV (.bool false), isV ?p2x24, isV ?p2x25, isV (.bool true), isV ?p2x27, isV (.int .u32 ((M.shut).shift.toNat : Nat)), isV ?p2x29, isV (.int .u32 ((M.shut).shift.toNat : Nat)), isV (.bool false), isV ?p2x32, isV ?p2x33, isV ?p2x34, isV (.bool true), isV ?p2x36, isV ?p2x37, isV undef, isV undef, isV ?p2x40, isV ?p2x41] [[], [(0, 92)], [], [(2, 94)], [(1, 93), (3, 95)], [(4, 96)], [(5, 97)], [(5, 97), (6, 98)], [(5, 97)], [(5, 97), (8, 100)], [(5, 97), (7, 99), (9, 101)], [(5, 97), (10, 102)], [(11, 103)], [(12, 104)], [(12, 104), (13, 105)], [(12, 104)], [(12, 104), (15, 107)], [(12, 104), (14, 106), (16, 108)], [(12, 104), (17, 109)], [(18, 110)], [(19, 111)], [(19, 111)], [(19, 111), (21, 113)], [(19, 111), (20, 112), (22, 114)], [(19, 111), (23, 115)], [(24, 116)], [(25, 117)], [(25, 117), (26, 118)], [(27, 119)], [(27, 119)], [(27, 119), (29, 121)], [(27, 119), (28, 120), (30, 122)], [(25, 117), (27, 119), (31, 123)], [(25, 117), (32, 124)], [(33, 125)], [(34, 126)], [(34, 126), (35, 127)], [(34, 126), (36, 128)], [(37, 129)], [(37, 129), (38, 130)], [(34, 126), (37, 129), (39, 131)], [(34, 126), (40, 132)]] 135 [0, 1, 2, 3, 4, 5, 6, 7, 8, 9, 10, 11, 12, 13, 14, 15, 16, 17, 18, 19, 20, 21, 22, 23, 24, 25, 26, 27, 28, 29, 30, 31, 32, 33, 34, 35, 36, 37, 38, 39, 40, 41] [(0, 92), (1, 93), (2, 94), (3, 95), (4, 96), (5, 97), (6, 98), (7, 99), (8, 100), (9, 101), (10, 102), (11, 103), (12, 104), (13, 105), (14, 106), (15, 107), (16, 108), (17, 109), (18, 110), (19, 111), (20, 112), (21, 113), (22, 114), (23, 115), (24, 116), (25, 117), (26, 118), (27, 119), (28, 120), (29, 121), (30, 122), (31, 123), (32, 124), (33, 125), (34, 126), (35, 127), (36, 128), (37, 129), (38, 130), (39, 131), (40, 132), (41, 133)] (by kernel_rfl) (by kernel_rfl) rfl (by kernel_rfl) (by kernel_rfl) (by kernel_rfl) (by kernel_rfl) (by intro c a a' W h hq; cases a; cases a'; cases h; exact hq) (fun w => Fr.refl _ w) (Fr.refl _ _) ⟨isV_stab, isV_stab, isV_stab, isV_stab, isV_stab, isV_stab, isV_stab, isV_stab, isV_stab, isV_stab, isV_stab, isV_stab, isV_stab, isV_stab, isV_stab, isV_stab, isV_stab, isV_stab, isV_stab, isV_stab, isV_stab, isV_stab, isV_stab, isV_stab, isV_stab, isV_stab, isV_stab, isV_stab, isV_stab, isV_stab, isV_stab, isV_stab, isV_stab, isV_stab, isV_stab, isV_stab, isV_stab, isV_stab, isV_stab, isV_stab, isV_stab, isV_stab, trivial⟩ ⟨?_, ?_, ?_, ?_, ?_, ?_, ?_, ?_, ?_, ?_, ?_, ?_, ?_, ?_, ?_, ?_, ?_, ?_, ?_, ?_, ?_, ?_, ?_, ?_, ?_, ?_, ?_, ?_, ?_, ?_, ?_, ?_, ?_, ?_, ?_, ?_, ?_, ?_, ?_, ?_, ?_, ?_, trivial⟩ ?_
        rotate_left 23
        · intro vs w' hG hd K hK
          clear hd
          simp only [canonD, Act.put, List.getElem_toArray, List.getElem_cons_zero, List.getElem_cons_succ, List.setIfInBounds_toArray, List.set_cons_zero, List.set_cons_succ] at hK ⊢
          refine Eq.mpr (if_pos (by rfl)) ?_
          go_simp
          refine hK.out _ _ (Fr.refl _ _) hG ?_
          show _ = _
          rfl
        · intro vs w' hG hd K hK
          obtain ⟨h0, -⟩ := hd
          replace h0 : vs 0 = _ := h0
          simp only [canonD, Act.put, List.getElem_toArray, List.getElem_cons_zero, List.getElem_cons_succ, List.setIfInBounds_toArray, List.set_cons_zero, List.set_cons_succ, h0] at hK ⊢
          have hW : Fr [] w6 w' := (Fr.refl [] w6).drew.trans hG
          refine Eq.mpr (if_pos (by rfl)) ?_
          go_simp
          refine (rmNext_any (HM.out.keep hW)).mono ?_
          rintro e wz ⟨rfl, rfl⟩
          go_simp
          refine hK.out _ _ (Fr.refl _ _) hG ?_
          show _ = _
          rfl
        · intro vs w' hG hd K hK
          clear hd
          simp only [canonD, Act.put, List.getElem_toArray, List.getElem_cons_zero, List.getElem_cons_succ, List.setIfInBounds_toArray, List.set_cons_zero, List.set_cons_succ] at hK ⊢
          refine Eq.mpr (if_pos (by rfl)) ?_
          go_simp
          refine hK.out _ _ (Fr.refl _ _) hG ?_
          show _ = _
          rfl
        · intro vs w' hG hd K hK
          obtain ⟨h2, -⟩ := hd
          replace h2 : vs 2 = _ := h2
          simp only [canonD, Act.put, List.getElem_toArray, List.getElem_cons_zero, List.getElem_cons_succ, List.setIfInBounds_toArray, List.set_cons_zero, List.set_cons_succ, h2] at hK ⊢
          have hW : Fr [] w6 w' := (Fr.refl [] w6).drew.trans hG
          have x2 := (HA.out.keep hW).cell 2
          simp only [mc, List.getElem?_toArray, List.getElem?_cons_succ, List.getElem?_cons_zero] at x2
          refine Eq.mpr (if_pos (by rfl)) ?_
          go_simp
          refine hK.out _ _ (Fr.refl _ _) hG ?_
          show _ = _
          rfl
        · intro vs w' hG hd K hK
          obtain ⟨h1, h3, -⟩ := hd
          replace h1 : vs 1 = _ := h1
          replace h3 : vs 3 = _ := h3
          simp only [canonD, Act.put, List.getElem_toArray, List.getElem_cons_zero, List.getElem_cons_succ, List.setIfInBounds_toArray, List.set_cons_zero, List.set_cons_succ, h1, h3] at hK ⊢
          refine Eq.mpr (if_pos (by rfl)) ?_
          go_simp
          refine hK.out _ _ (Fr.refl _ _) hG ?_
          show _ = _
          first | rfl | exact congrArg Value.bool (by simp)
        · intro vs w' hG hd K hK
          obtain ⟨h4, -⟩ := hd
          replace h4 : vs 4 = _ := h4
          simp only [canonD, Act.put, List.getElem_toArray, List.getElem_cons_zero, List.getElem_cons_succ, List.setIfInBounds_toArray, List.set_cons_zero, List.set_cons_succ, h4] at hK ⊢
          refine Eq.mpr (if_pos (by rfl)) ?_
          go_simp
          refine hK.out _ _ (Fr.refl _ _) hG ?_
          show _ = _
          rfl
        · intro vs w' hG hd K hK
          obtain ⟨h5, -⟩ := hd
          replace h5 : vs 5 = _ := h5
          simp only [canonD, Act.put, List.getElem_toArray, List.getElem_cons_zero, List.getElem_cons_succ, List.setIfInBounds_toArray, List.set_cons_zero, List.set_cons_succ, h5] at hK ⊢
          refine Eq.mpr (if_pos (by rfl)) ?_
          go_simp
          refine hK.out _ _ (Fr.refl _ _) hG ?_
          show _ = _
          rfl
        · intro vs w' hG hd K hK
          obtain ⟨h5, h6, -⟩ := hd
          replace h5 : vs 5 = _ := h5
          replace h6 : vs 6 = _ := h6
          simp only [canonD, Act.put, List.getElem_toArray, List.getElem_cons_zero, List.getElem_cons_succ, List.setIfInBounds_toArray, List.set_cons_zero, List.set_cons_succ, h5, h6] at hK ⊢
          have hW : Fr [] w6 w' := (Fr.refl [] w6).drew.trans hG
          refine Eq.mpr (if_pos (by rfl)) ?_
          go_simp
          refine (rmSegs_any (HM.out.keep hW)).mono ?_
          rintro e wz ⟨rfl, rfl⟩
          go_simp
          refine hK.out _ _ (Fr.refl _ _) hG ?_
          show _ = _
          rfl
        · intro vs w' hG hd K hK
          obtain ⟨h5, -⟩ := hd
          replace h5 : vs 5 = _ := h5
          simp only [canonD, Act.put, List.getElem_toArray, List.getElem_cons_zero, List.getElem_cons_succ, List.setIfInBounds_toArray, List.set_cons_zero, List.set_cons_succ, h5] at hK ⊢
          refine Eq.mpr (if_pos (by rfl)) ?_
          go_simp
          refine hK.out _ _ (Fr.refl _ _) hG ?_
          show _ = _
          rfl
        · intro vs w' hG hd K hK
          obtain ⟨h5, h8, -⟩ := hd
          replace h5 : vs 5 = _ := h5
          replace h8 : vs 8 = _ := h8
          simp only [canonD, Act.put, List.getElem_toArray, List.getElem_cons_zero, List.getElem_cons_succ, List.setIfInBounds_toArray, List.set_cons_zero, List.set_cons_succ, h5, h8] at hK ⊢
          have hW : Fr [] w6 w' := (Fr.refl [] w6).drew.trans hG
          have x7 := (HA.out.keep hW).cell 7
          simp only [mc, List.getElem?_toArray, List.getElem?_cons_succ, List.getElem?_cons_zero] at x7
          refine Eq.mpr (if_pos (by rfl)) ?_
          go_simp
          refine hK.out _ _ (Fr.refl _ _) hG ?_
          show _ = _
          rfl
        · intro vs w' hG hd K hK
          obtain ⟨h5, h7, h9, -⟩ := hd
          replace h5 : vs 5 = _ := h5
          replace h7 : vs 7 = _ := h7
          replace h9 : vs 9 = _ := h9
          simp only [canonD, Act.put, List.getElem_toArray, List.getElem_cons_zero, List.getElem_cons_succ, List.setIfInBounds_toArray, List.set_cons_zero, List.set_cons_succ, h5, h7, h9] at hK ⊢
          refine Eq.mpr (if_pos (by rfl)) ?_
          go_simp
          refine hK.out _ _ (Fr.refl _ _) hG ?_
          show _ = _
          first | rfl | exact congrArg Value.bool (by simp)
        · intro vs w' hG hd K hK
          obtain ⟨h5, h10, -⟩ := hd
          replace h5 : vs 5 = _ := h5
          replace h10 : vs 10 = _ := h10
          simp only [canonD, Act.put, List.getElem_toArray, List.getElem_cons_zero, List.getElem_cons_succ, List.setIfInBounds_toArray, List.set_cons_zero, List.set_cons_succ, h5, h10] at hK ⊢
          refine Eq.mpr (if_pos (by rfl)) ?_
          go_simp
          refine hK.out _ _ (Fr.refl _ _) hG ?_
          show _ = _
          rfl
        · intro vs w' hG hd K hK
          obtain ⟨h11, -⟩ := hd
          replace h11 : vs 11 = _ := h11
          simp only [canonD, Act.put, List.getElem_toArray, List.getElem_cons_zero, List.getElem_cons_succ, List.setIfInBounds_toArray, List.set_cons_zero, List.set_cons_succ, h11] at hK ⊢
          refine Eq.mpr (if_pos (by rfl)) ?_
          go_simp
          refine hK.out _ _ (Fr.refl _ _) hG ?_
          show _ = _
          rfl
        · intro vs w' hG hd K hK
          obtain ⟨h12, -⟩ := hd
          replace h12 : vs 12 = _ := h12
          simp only [canonD, Act.put, List.getElem_toArray, List.getElem_cons_zero, List.getElem_cons_succ, List.setIfInBounds_toArray, List.set_cons_zero, List.set_cons_succ, h12] at hK ⊢
          refine Eq.mpr (if_pos (by rfl)) ?_
          go_simp
          refine hK.out _ _ (Fr.refl _ _) hG ?_
          show _ = _
          rfl
        · intro vs w' hG hd K hK
          obtain ⟨h12, h13, -⟩ := hd
          replace h12 : vs 12 = _ := h12
          replace h13 : vs 13 = _ := h13
          simp only [canonD, Act.put, List.getElem_toArray, List.getElem_cons_zero, List.getElem_cons_succ, List.setIfInBounds_toArray, List.set_cons_zero, List.set_cons_succ, h12, h13] at hK ⊢
          have hW : Fr [] w6 w' := (Fr.refl [] w6).drew.trans hG
          refine Eq.mpr (if_pos (by rfl)) ?_
          go_simp
          refine (rmCount_any (HM.out.keep hW)).mono ?_
          rintro e wz ⟨rfl, rfl⟩
          go_simp
          refine hK.out _ _ (Fr.refl _ _) hG ?_
          show _ = _
          rfl
        · intro vs w' hG hd K hK
          obtain ⟨h12, -⟩ := hd
          replace h12 : vs 12 = _ := h12
          simp only [canonD, Act.put, List.getElem_toArray, List.getElem_cons_zero, List.getElem_cons_succ, List.setIfInBounds_toArray, List.set_cons_zero, List.set_cons_succ, h12] at hK ⊢
          refine Eq.mpr (if_pos (by rfl)) ?_
          go_simp
          refine hK.out _ _ (Fr.refl _ _) hG ?_
          show _ = _
          rfl
        · intro vs w' hG hd K hK
          obtain ⟨h12, h15, -⟩ := hd
          replace h12 : vs 12 = _ := h12
          replace h15 : vs 15 = _ := h15
          simp only [canonD, Act.put, List.getElem_toArray, List.getElem_cons_zero, List.getElem_cons_succ, List.setIfInBounds_toArray, List.set_cons_zero, List.set_cons_succ, h12, h15] at hK ⊢
          have hW : Fr [] w6 w' := (Fr.refl [] w6).drew.trans hG
          have x8 := (HA.out.keep hW).cell 8
          simp only [mc, List.getElem?_toArray, List.getElem?_cons_succ, List.getElem?_cons_zero] at x8
          refine Eq.mpr (if_pos (by rfl)) ?_
          go_simp
          refine hK.out _ _ (Fr.refl _ _) hG ?_
          show _ = _
          rfl
        · intro vs w' hG hd K hK
          obtain ⟨h12, h14, h16, -⟩ := hd
          replace h12 : vs 12 = _ := h12
          replace h14 : vs 14 = _ := h14
          replace h16 : vs 16 = _ := h16
          simp only [canonD, Act.put, List.getElem_toArray, List.getElem_cons_zero, List.getElem_cons_succ, List.setIfInBounds_toArray, List.set_cons_zero, List.set_cons_succ, h12, h14, h16] at hK ⊢
          refine Eq.mpr (if_pos (by rfl)) ?_
          go_simp
          refine hK.out _ _ (Fr.refl _ _) hG ?_
          show _ = _
          first | rfl | exact congrArg Value.bool (by simp)
        · intro vs w' hG hd K hK
          obtain ⟨h12, h17, -⟩ := hd
          replace h12 : vs 12 = _ := h12
          replace h17 : vs 17 = _ := h17
          simp only [canonD, Act.put, List.getElem_toArray, List.getElem_cons_zero, List.getElem_cons_succ, List.setIfInBounds_toArray, List.set_cons_zero, List.set_cons_succ, h12, h17] at hK ⊢
          refine Eq.mpr (if_pos (by rfl)) ?_
          go_simp
          refine hK.out _ _ (Fr.refl _ _) hG ?_
          show _ = _
          rfl
        · intro vs w' hG hd K hK
          obtain ⟨h18, -⟩ := hd
          replace h18 : vs 18 = _ := h18
          simp only [canonD, Act.put, List.getElem_toArray, List.getElem_cons_zero, List.getElem_cons_succ, List.setIfInBounds_toArray, List.set_cons_zero, List.set_cons_succ, h18] at hK ⊢
          refine Eq.mpr (if_pos (by rfl)) ?_
          go_simp
          refine hK.out _ _ (Fr.refl _ _) hG ?_
          show _ = _
          rfl
        · intro vs w' hG hd K hK
          obtain ⟨h19, -⟩ := hd
          replace h19 : vs 19 = _ := h19
          simp only [canonD, Act.put, List.getElem_toArray, List.getElem_cons_zero, List.getElem_cons_succ, List.setIfInBounds_toArray, List.set_cons_zero, List.set_cons_succ, h19] at hK ⊢
          refine Eq.mpr (if_pos (by rfl)) ?_
          go_simp
          refine hK.out _ _ (Fr.refl _ _) hG ?_
          show _ = _
          rfl
        · intro vs w' hG hd K hK
          obtain ⟨h19, -⟩ := hd
          replace h19 : vs 19 = _ := h19
          simp only [canonD, Act.put, List.getElem_toArray, List.getElem_cons_zero, List.getElem_cons_succ, List.setIfInBounds_toArray, List.set_cons_zero, List.set_cons_succ, h19] at hK ⊢
          refine Eq.mpr (if_pos (by rfl)) ?_
          go_simp
          refine hK.out _ _ (Fr.refl _ _) hG ?_
          show _ = _
          rfl
        · intro vs w' hG hd K hK
          obtain ⟨h19, h21, -⟩ := hd
          replace h19 : vs 19 = _ := h19
          replace h21 : vs 21 = _ := h21
          simp only [canonD, Act.put, List.getElem_toArray, List.getElem_cons_zero, List.getElem_cons_succ, List.setIfInBounds_toArray, List.set_cons_zero, List.set_cons_succ, h19, h21] at hK ⊢
          have hW : Fr [] w6 w' := (Fr.refl [] w6).drew.trans hG
          have x6 := (HA.out.keep hW).cell 6
          simp only [mc, List.getElem?_toArray, List.getElem?_cons_succ, List.getElem?_cons_zero] at x6
          rw [HOP.out] at x6
          refine Eq.mpr (if_pos (by rfl)) ?_
          go_simp
          refine hK.out _ _ (Fr.refl _ _) hG ?_
          show _ = _
          rfl
        · intro vs w' hG hd K hK
          obtain ⟨h19, h20, h22, -⟩ := hd
          replace h19 : vs 19 = _ := h19
          replace h20 : vs 20 = _ := h20
          replace h22 : vs 22 = _ := h22
          simp only [canonD, Act.put, List.getElem_toArray, List.getElem_cons_zero, List.getElem_cons_succ, List.setIfInBounds_toArray, List.set_cons_zero, List.set_cons_succ, h19, h20, h22] at hK ⊢
          refine Eq.mpr (if_pos (by rfl)) ?_
          go_simp
          refine hK.out _ _ (Fr.refl _ _) hG ?_
          show _ = _
          first | rfl | exact congrArg Value.bool (by simp)
        · intro vs w' hG hd K hK
          obtain ⟨h19, h23, -⟩ := hd
          replace h19 : vs 19 = _ := h19
          replace h23 : vs 23 = _ := h23
          simp only [canonD, Act.put, List.getElem_toArray, List.getElem_cons_zero, List.getElem_cons_succ, List.setIfInBounds_toArray, List.set_cons_zero, List.set_cons_succ, h19, h23] at hK ⊢
          refine Eq.mpr (if_pos (by rfl)) ?_
          go_simp
          refine hK.out _ _ (Fr.refl _ _) hG ?_
          show _ = _
          rfl
        · intro vs w' hG hd K hK
          obtain ⟨h24, -⟩ := hd
          replace h24 : vs 24 = _ := h24
          simp only [canonD, Act.put, List.getElem_toArray, List.getElem_cons_zero, List.getElem_cons_succ, List.setIfInBounds_toArray, List.set_cons_zero, List.set_cons_succ, h24] at hK ⊢
          refine Eq.mpr (if_pos (by rfl)) ?_
          go_simp
          refine hK.out _ _ (Fr.refl _ _) hG ?_
          show _ = _
          rfl
        · intro vs w' hG hd K hK
          obtain ⟨h25, -⟩ := hd
          replace h25 : vs 25 = _ := h25
          simp only [canonD, Act.put, List.getElem_toArray, List.getElem_cons_zero, List.getElem_cons_succ, List.setIfInBounds_toArray, List.set_cons_zero, List.set_cons_succ, h25] at hK ⊢
          refine Eq.mpr (if_pos (by rfl)) ?_
          go_simp
          refine hK.out _ _ (Fr.refl _ _) hG ?_
          show _ = _
          rfl
        · intro vs w' hG hd K hK
          obtain ⟨h25, h26, -⟩ := hd
          replace h25 : vs 25 = _ := h25
          replace h26 : vs 26 = _ := h26
          simp only [canonD, Act.put, List.getElem_toArray, List.getElem_cons_zero, List.getElem_cons_succ, List.setIfInBounds_toArray, List.set_cons_zero, List.set_cons_succ, h25, h26] at hK ⊢
          refine Eq.mpr (if_pos (by rfl)) ?_
          go_simp
          refine hK.out _ _ (Fr.refl _ _) hG ?_
          show _ = _
          rfl
        · intro vs w' hG hd K hK
          obtain ⟨h27, -⟩ := hd
          replace h27 : vs 27 = _ := h27
          simp only [canonD, Act.put, List.getElem_toArray, List.getElem_cons_zero, List.getElem_cons_succ, List.setIfInBounds_toArray, List.set_cons_zero, List.set_cons_succ, h27] at hK ⊢
          refine Eq.mpr (if_pos (by rfl)) ?_
          go_simp
          refine hK.out _ _ (Fr.refl _ _) hG ?_
          show _ = _
          rfl
        · intro vs w' hG hd K hK
          obtain ⟨h27, -⟩ := hd
          replace h27 : vs 27 = _ := h27
          simp only [canonD, Act.put, List.getElem_toArray, List.getElem_cons_zero, List.getElem_cons_succ, List.setIfInBounds_toArray, List.set_cons_zero, List.set_cons_succ, h27] at hK ⊢
          refine Eq.mpr (if_pos (by rfl)) ?_
          go_simp
          refine hK.out _ _ (Fr.refl _ _) hG ?_
          show _ = _
          rfl
        · intro vs w' hG hd K hK
          obtain ⟨h27, h29, -⟩ := hd
          replace h27 : vs 27 = _ := h27
          replace h29 : vs 29 = _ := h29
          simp only [canonD, Act.put, List.getElem_toArray, List.getElem_cons_zero, List.getElem_cons_succ, List.setIfInBounds_toArray, List.set_cons_zero, List.set_cons_succ, h27, h29] at hK ⊢
          have hW : Fr [] w6 w' := (Fr.refl [] w6).drew.trans hG
          have x5 := (HA.out.keep hW).cell 5
          simp only [mc, List.getElem?_toArray, List.getElem?_cons_succ, List.getElem?_cons_zero] at x5
          refine Eq.mpr (if_pos (by rfl)) ?_
          go_simp
          refine hK.out _ _ (Fr.refl _ _) hG ?_
          show _ = _
          rfl
        · intro vs w' hG hd K hK
          obtain ⟨h27, h28, h30, -⟩ := hd
          replace h27 : vs 27 = _ := h27
          replace h28 : vs 28 = _ := h28
          replace h30 : vs 30 = _ := h30
          simp only [canonD, Act.put, List.getElem_toArray, List.getElem_cons_zero, List.getElem_cons_succ, List.setIfInBounds_toArray, List.set_cons_zero, List.set_cons_succ, h27, h28, h30] at hK ⊢
          refine Eq.mpr (if_pos (by rfl)) ?_
          go_simp
          refine hK.out _ _ (Fr.refl _ _) hG ?_
          show _ = _
          first | rfl | exact congrArg Value.bool (by simp)
        · intro vs w' hG hd K hK
          obtain ⟨h25, h27, h31, -⟩ := hd
          replace h25 : vs 25 = _ := h25
          replace h27 : vs 27 = _ := h27
          replace h31 : vs 31 = _ := h31
          simp only [canonD, Act.put, List.getElem_toArray, List.getElem_cons_zero, List.getElem_cons_succ, List.setIfInBounds_toArray, List.set_cons_zero, List.set_cons_succ, h25, h27, h31] at hK ⊢
          refine Eq.mpr (if_pos (by rfl)) ?_
          go_simp
          refine hK.out _ _ (Fr.refl _ _) hG ?_
          show _ = _
          rfl
        · intro vs w' hG hd K hK
          obtain ⟨h25, h32, -⟩ := hd
          replace h25 : vs 25 = _ := h25
          replace h32 : vs 32 = _ := h32
          simp only [canonD, Act.put, List.getElem_toArray, List.getElem_cons_zero, List.getElem_cons_succ, List.setIfInBounds_toArray, List.set_cons_zero, List.set_cons_succ, h25, h32] at hK ⊢
          refine Eq.mpr (if_pos (by rfl)) ?_
          go_simp
          refine hK.out _ _ (Fr.refl _ _) hG ?_
          show _ = _
          rfl
        · intro vs w' hG hd K hK
          obtain ⟨h33, -⟩ := hd
          replace h33 : vs 33 = _ := h33
          simp only [canonD, Act.put, List.getElem_toArray, List.getElem_cons_zero, List.getElem_cons_succ, List.setIfInBounds_toArray, List.set_cons_zero, List.set_cons_succ, h33] at hK ⊢
          refine Eq.mpr (if_pos (by rfl)) ?_
          go_simp
          refine hK.out _ _ (Fr.refl _ _) hG ?_
          show _ = _
          rfl
        · intro vs w' hG hd K hK
          obtain ⟨h34, -⟩ := hd
          replace h34 : vs 34 = _ := h34
          simp only [canonD, Act.put, List.getElem_toArray, List.getElem_cons_zero, List.getElem_cons_succ, List.setIfInBounds_toArray, List.set_cons_zero, List.set_cons_succ, h34] at hK ⊢
          refine Eq.mpr (if_pos (by rfl)) ?_
          go_simp
          refine hK.out _ _ (Fr.refl _ _) hG ?_
          show _ = _
          rfl
        · intro vs w' hG hd K hK
          obtain ⟨h34, h35, -⟩ := hd
          replace h34 : vs 34 = _ := h34
          replace h35 : vs 35 = _ := h35
          simp only [canonD, Act.put, List.getElem_toArray, List.getElem_cons_zero, List.getElem_cons_succ, List.setIfInBounds_toArray, List.set_cons_zero, List.set_cons_succ, h34, h35] at hK ⊢
          refine Eq.mpr (if_pos (by rfl)) ?_
          go_simp
          refine hK.out _ _ (Fr.refl _ _) hG ?_
          show _ = _
          rfl
        · intro vs w' hG hd K hK
          obtain ⟨h34, h36, -⟩ := hd
          replace h34 : vs 34 = _ := h34
          replace h36 : vs 36 = _ := h36
          simp only [canonD, Act.put, List.getElem_toArray, List.getElem_cons_zero, List.getElem_cons_succ, List.setIfInBounds_toArray, List.set_cons_zero, List.set_cons_succ, h34, h36] at hK ⊢
          refine Eq.mpr (if_pos (by rfl)) ?_
          go_simp
          refine hK.out _ _ (Fr.refl _ _) hG ?_
          show _ = _
          rfl
        · intro vs w' hG hd K hK
          obtain ⟨h37, -⟩ := hd
          replace h37 : vs 37 = _ := h37
          simp only [canonD, Act.put, List.getElem_toArray, List.getElem_cons_zero, List.getElem_cons_succ, List.setIfInBounds_toArray, List.set_cons_zero, List.set_cons_succ, h37] at hK ⊢
          refine Eq.mpr (if_neg (fun h => Bool.noConfusion (show false = true from h))) ?_
          rfl
        · intro vs w' hG hd K hK
          obtain ⟨h37, h38, -⟩ := hd
          replace h37 : vs 37 = _ := h37
          replace h38 : vs 38 = _ := h38
          simp only [canonD, Act.put, List.getElem_toArray, List.getElem_cons_zero, List.getElem_cons_succ, List.setIfInBounds_toArray, List.set_cons_zero, List.set_cons_succ, h37, h38] at hK ⊢
          refine Eq.mpr (if_neg (fun h => Bool.noConfusion (show false = true from h))) ?_
          rfl
        · intro vs w' hG hd K hK
          obtain ⟨h34, h37, h39, -⟩ := hd
          replace h34 : vs 34 = _ := h34
          replace h37 : vs 37 = _ := h37
          replace h39 : vs 39 = _ := h39
          simp only [canonD, Act.put, List.getElem_toArray, List.getElem_cons_zero, List.getElem_cons_succ, List.setIfInBounds_toArray, List.set_cons_zero, List.set_cons_succ, h34, h37, h39] at hK ⊢
          refine Eq.mpr (if_pos (by rfl)) ?_
          go_simp
          refine hK.out _ _ (Fr.refl _ _) hG ?_
          show _ = _
          rfl
        · intro vs w' hG hd K hK
          obtain ⟨h34, h40, -⟩ := hd
          replace h34 : vs 34 = _ := h34
          replace h40 : vs 40 = _ := h40
          simp only [canonD, Act.put, List.getElem_toArray, List.getElem_cons_zero, List.getElem_cons_succ, List.setIfInBounds_toArray, List.set_cons_zero, List.set_cons_succ, h34, h40] at hK ⊢
          refine Eq.mpr (if_pos (by rfl)) ?_
          go_simp
          refine hK.out _ _ (Fr.refl _ _) hG ?_
          show _ = _
          rfl
        intro vs w' hG hP
        obtain ⟨h0, h1, h2, h3, h4, h5, h6, h7, h8, h9, h10, h11, h12, h13, h14, h15, h16, h17, h18, h19, h20, h21, h22, h23, h24, h25, h26, h27, h28, h29, h30, h31, h32, h33, h34, h35, h36, h37, h38, h39, h40, h41, -⟩ := hP
        replace h0 : vs 0 = _ := h0
        replace h1 : vs 1 = _ := h1
        replace h2 : vs 2 = _ := h2
        replace h3 : vs 3 = _ := h3
        replace h4 : vs 4 = _ := h4
        replace h5 : vs 5 = _ := h5
        replace h6 : vs 6 = _ := h6
        replace h7 : vs 7 = _ := h7
        replace h8 : vs 8 = _ := h8
        replace h9 : vs 9 = _ := h9
        replace h10 : vs 10 = _ := h10
        replace h11 : vs 11 = _ := h11
        replace h12 : vs 12 = _ := h12
        replace h13 : vs 13 = _ := h13
        replace h14 : vs 14 = _ := h14
        replace h15 : vs 15 = _ := h15
        replace h16 : vs 16 = _ := h16
        replace h17 : vs 17 = _ := h17
        replace h18 : vs 18 = _ := h18
        replace h19 : vs 19 = _ := h19
        replace h20 : vs 20 = _ := h20
        replace h21 : vs 21 = _ := h21
        replace h22 : vs 22 = _ := h22
        replace h23 : vs 23 = _ := h23
        replace h24 : vs 24 = _ := h24
        replace h25 : vs 25 = _ := h25
        replace h26 : vs 26 = _ := h26
        replace h27 : vs 27 = _ := h27
        replace h28 : vs 28 = _ := h28
        replace h29 : vs 29 = _ := h29
        replace h30 : vs 30 = _ := h30
        replace h31 : vs 31 = _ := h31
        replace h32 : vs 32 = _ := h32
        replace h33 : vs 33 = _ := h33
        replace h34 : vs 34 = _ := h34
        replace h35 : vs 35 = _ := h35
        replace h36 : vs 36 = _ := h36
        replace h37 : vs 37 = _ := h37
        replace h38 : vs 38 = _ := h38
        replace h39 : vs 39 = _ := h39
        replace h40 : vs 40 = _ := h40
        replace h41 : vs 41 = _ := h41
        simp only [canonD, Act.put, List.getElem_toArray, List.getElem_cons_zero, List.getElem_cons_succ, List.setIfInBounds_toArray, List.set_cons_zero, List.set_cons_succ, h0, h1, h2, h3, h4, h5, h6, h7, h8, h9, h10, h11, h12, h13, h14, h15, h16, h17, h18, h19, h20, h21, h22, h23, h24, h25, h26, h27, h28, h29, h30, h31, h32, h33, h34, h35, h36, h37, h38, h39, h40, h41]
        clear h0 h1 h2 h3 h4 h5 h6 h7 h8 h9 h10 h11 h12 h13 h14 h15 h16 h17 h18 h19 h20 h21 h22 h23 h24 h25 h26 h27 h28 h29 h30 h31 h32 h33 h34 h35 h36 h37 h38 h39 h40 h41
        have hF := (Fr.refl [] w6).drew.trans hG
        have HF := Lib.hid (HF.out.trans hF); have HM := Lib.hid (HM.out.keep hF); have HA := Lib.hid (HA.out.keep hF)
        clear hF hG
        go_wp2_with fail
        go_roundw
        case rel => exact ⟨j + 1, M.shut, by omega, by go_num, (RMap.shut_ok HOK.out), (show M.segs ≤ j + 1 by omega), (show M.cnt ≤ j + 1 by omega), HM.out, HA.out, HF.out⟩
        case measure => simp [intOf]; omega
    | false =>
      have o1 := HO.out.cell 1; have o0 := HO.out.cell 0
      simp only [List.getElem?_toArray, List.getElem?_cons_succ, List.getElem?_cons_zero] at o1 o0
      go_upto_region 12 with (fail)
      try rw [e4]
      clear e4 d0 d1 hOO
      go_wp2_with fail
      clear o1 o0
      refine (RCopy_any (Sl.keep HR.out HF.out) (by omega)).mono ?_
      rintro e w5 ⟨vm, rfl, hm, hF⟩
      have HMI := Lib.hid hm
      obtain ⟨am, nm, cm, rfl⟩ := hm.isSlice
      have HF := Lib.hid (HF.out.trans hF)
      have HM := Lib.hid (HM.out.keep hF)
      have HA := Lib.hid (HA.out.keep hF)
      have HO := Lib.hid (HO.out.keep hF)
      have hz5 := hF.size
      clear hm hF
      go_wp2_with fail
      refine (rmBytes_pb HM.out HOK.out HMI.out.bytes).mono ?_
      rintro e w6 ⟨M1, k1, lb, vb, hp, rfl, hb, hM, hF⟩
      have HPB := Lib.hid hp
      have HVB := Lib.hid hb
      have hz6 := hF.size
      have HM := Lib.hid hM; have HA := Lib.hid (HA.out.fr hF (by simp; omega)); have HO := Lib.hid (HO.out.fr hF (by simp; omega)); have HMI := Lib.hid (HMI.out.low hF (by simp; omega)); have HF := Lib.hid (HF.out.step hF (fun x hx => by simp at hx; subst hx; exact .inr (by omega)))
      clear hp hb hM hF
      have o1 := HO.out.cell 1
      simp only [List.getElem?_toArray, List.getElem?_cons_succ, List.getElem?_cons_zero] at o1
      go_wp2_with (refine wpList_load_row_w rfl 88 (.tmp 14) rfl A rfl 88 _ _ HA.out Try.underlying88 rfl (by kernel_rfl) ?_)
      clear o1
      refine (R23Bytes_pb HOK.out (Sl.keep HR.out HF.out)).mono ?_
      rintro e w7 ⟨M2, k2, lb2, vw, hp, rfl, hb, hF⟩
      obtain ⟨rfl, rfl, rfl⟩ := HPB.out.one hp
      have HVW := Lib.hid hb
      have hz7 := hF.size
      have HF := Lib.hid (HF.out.trans hF)
      have HM := Lib.hid (HM.out.keep hF)
      have HA := Lib.hid (HA.out.keep hF)
      have HO := Lib.hid (HO.out.keep hF)
      have HMI := Lib.hid (HMI.out.keep hF)
      have HVB := Lib.hid (HVB.out.keep hF)
      clear hp hb hF
      go_upto_region 15 with (refine wpList_store_row rfl 88 (.tmp 20) (.tmp 67) rfl w7.heap.size rfl _ _ rfl 88 (Box.new w7 88 #[.int .u32 0, .int .i64 0, .int .u16 0, .int .u32 0, .int .i64 0, .int .u32 0, .bool false, .int .i64 0, .int .i64 0]) (by kernel_rfl) rfl (oneCell_mc M1) ?_; intro w8 hY hG; have hFn := ((Fr.refl [] w7).alloc _).step hG (by simp); have HFn := Lib.hid hFn; have HY := Lib.hid hY; clear hG hFn hY)
      have hF := HFn.out
      have HF := Lib.hid (HF.out.trans hF)
      have HM := Lib.hid (HM.out.keep hF)
      have HA := Lib.hid (HA.out.keep hF)
      have HO := Lib.hid (HO.out.keep hF)
      have HMI := Lib.hid (HMI.out.keep hF)
      have HVB := Lib.hid (HVB.out.keep hF)
      have HVW := Lib.hid (HVW.out.keep hF)
      have HT := HY
      have hz8 : w7.heap.size < w8.heap.size := HY.out.lt
      clear hF HFn HY
      generalize hTT : w7.heap.size = T at *
      clear hTT
      go_upto_region 16 with (first | (refine wpList_load_row_w rfl 88 (.tmp 20) rfl T rfl 88 _ _ HT.out Try.underlying88 rfl (by kernel_rfl) ?_) | (refine wpList_store_row rfl 88 (.tmp 14) (.tmp 70) rfl A rfl _ _ rfl 88 HA.out (by kernel_rfl) rfl (oneCell_mc M1) ?_; intro w9 hY hG; have HA9 := Lib.hid hY; have HG9 := Lib.hid hG; clear hY hG))
      have HA := HA9
      have hF := HG9.out
      have HM := Lib.hid (HM.out.fr hF (by simp; omega)); have HO := Lib.hid (HO.out.fr hF (by simp; omega)); have HMI := Lib.hid (HMI.out.low hF (by simp; omega)); have HVB := Lib.hid (HVB.out.hit hF (.inl (by omega))); have HVW := Lib.hid (HVW.out.hit hF (.inl (by omega))); have HF := Lib.hid (HF.out.step hF (fun x hx => by simp at hx; subst hx; exact .inr (by have := HAW.out; omega)))
      clear hF HG9 HA9 HT
      have hps := HPB.out.small HOK.out
      have o1 := HO.out.cell 1
      simp only [List.getElem?_toArray, List.getElem?_cons_succ, List.getElem?_cons_zero] at o1
      go_wp2_with fail
      refine (RSame_any HVB.out.sl HVW.out.sl (by omega) (by omega)).mono ?_
      rintro e w10 ⟨rfl, hF⟩
      rw [show (lb == lb) = true by simp]
      have HF := Lib.hid (HF.out.trans hF)
      have HM := Lib.hid (HM.out.keep hF)
      have HA := Lib.hid (HA.out.keep hF)
      have HO := Lib.hid (HO.out.keep hF)
      have HMI := Lib.hid (HMI.out.keep hF)
      clear hF o1 HVB HVW
      have o1 := HO.out.cell 1
      simp only [List.getElem?_toArray, List.getElem?_cons_succ, List.getElem?_cons_zero] at o1
      go_wp2_with fail
      refine (RSame_any HMI.out.bytes (Sl.keep HR.out HF.out) (by omega) (by omega)).mono ?_
      rintro e w11 ⟨rfl, hF⟩
      rw [show (l == l) = true by simp]
      have HF := Lib.hid (HF.out.trans hF)
      have HM := Lib.hid (HM.out.keep hF)
      have HA := Lib.hid (HA.out.keep hF)
      clear hF o1 HMI HO
      have HST := Lib.hid (HPB.out.step HOK.out hsg hct (by omega))
      go_wp2_with fail
      refine (rmShift_any HM.out).mono ?_
      rintro e wz ⟨rfl, rfl⟩
      have HCA : Hid (Box w11 A 88 (mc M1)) := HA
      cases ho : (M1).opn
      all_goals have HOP := Lib.hid ho
      all_goals clear ho
      · try simp only [HOP.out, if_true, if_false, Bool.false_eq_true, reduceCtorEq, ite_false, ite_true]
        go_upto_region 19 with fail
        refine wp_region_rules (fun w' => Fr [] w11.drew w') (Fr []) [isV ?p3x0, isV (.int .u16 ((M1).next.toNat : Nat)), isV ?p3x2, isV (.int .u16 ((M1).next.toNat : Nat)), isV (.bool false), isV ?p3x5, isV ?p3x6, isV (.int .i64 ((M1).segs : Nat)), isV ?p3x8, isV (.int .i64 ((M1).segs : Nat)), isV (.bool false), isV ?p3x11, isV ?p3x12, isV ?p3x13, isV (.int .i64 ((M1).cnt : Nat)), isV ?p3x15, isV (.int .i64 ((M1).cnt : Nat)), isV (.bool false), isV ?p3x18, isV ?p3x19, isV (.bool false), isV ?p3x21, isV (.bool false), isV (.bool false), isV ?p3x24, isV ?p3x25, isV (.bool false), isV ?p3x27, isV undef, isV undef, isV undef, isV undef, isV ?p3x32, isV ?p3x33, isV ?p3x34, isV (.bool false), isV ?p3x36, isV ?p3x37, isV ?p3x38, isV (.bool false), isV ?p3x40, isV ?p3x41] [[], [(0, 92)], [], [(2, 94)], [(1, 93), (3, 95)], [(4, 96)], [(5, 97)], [(5, 97), (6, 98)], [(5, 97)], [(5, 97), (8, 100)], [(5, 97), (7, 99), (9, 101)], [(5, 97), (10, 102)], [(11, 103)], [(12, 104)], [(12, 104), (13, 105)], [(12, 104)], [(12, 104), (15, 107)], [(12, 104), (14, 106), (16, 108)], [(12, 104), (17, 109)], [(18, 110)], [(19, 111)], [(19, 111)], [(19, 111), (21, 113)], [(19, 111), (20, 112), (22, 114)], [(19, 111), (23, 115)], [(24, 116)], [(25, 117)], [(25, 117), (26, 118)], [(27, 119)], [(27, 119)], [(27, 119), (29, 121)], [(27, 119), (28, 120), (30, 122)], [(25, 117), (27, 119), (31, 123)], [(25, 117), (32, 124)], [(33, 125)], [(34, 126)], [(34, 126), (35, 127)], [(34, 126), (36, 128)], [(37, 129)], [(37, 129), (38, 130)], [(34, 126), (37, 129), (39, 131)], [(34, 126), (40, 132)]] 135 [0, 1, 2, 3, 4, 5, 6, 7, 8, 9, 10, 11, 12, 13, 14, 15, 16, 17, 18, 19, 20, 21, 22, 23, 24, 25, 26, 27, 28, 29, 30, 31, 32, 33, 34, 35, 36, 37, 38, 39, 40, 41] [(0, 92), (1, 93), (2, 94), (3, 95), (4, 96), (5, 97), (6, 98), (7, 99), (8, 100), (9, 101), (10, 102), (11, 103), (12, 104), (13, 105), (14, 106), (15, 107), (16, 108), (17, 109), (18, 110), (19, 111), (20, 112), (21, 113), (22, 114), (23, 115), (24, 116), (25, 117), (26, 118), (27, 119), (28, 120), (29, 121), (30, 122), (31, 123), (32, 124), (33, 125), (34, 126), (35, 127), (36, 128), (37, 129), (38, 130), (39, 131), (40, 132), (41, 133)] (by kernel_rfl) (by kernel_rfl) rfl (by kernel_rfl) (by kernel_rfl) (by kernel_rfl) (by kernel_rfl) (by intro c a a' W h hq; cases a; cases a'; cases h; exact hq) (fun w => Fr.refl _ w) (Fr.refl _ _) ⟨isV_stab, isV_stab, isV_stab, isV_stab, isV_stab, isV_stab, isV_stab, isV_stab, isV_stab, isV_stab, isV_stab, isV_stab, isV_stab, isV_stab, isV_stab, isV_stab, isV_stab, isV_stab, isV_stab, isV_stab, isV_stab, isV_stab, isV_stab, isV_stab, isV_stab, isV_stab, isV_stab, isV_stab, isV_stab, isV_stab, isV_stab, isV_stab, isV_stab, isV_stab, isV_stab, isV_stab, isV_stab, isV_stab, isV_stab, isV_stab, isV_stab, isV_stab, trivial⟩ ⟨?_, ?_, ?_, ?_, ?_, ?_, ?_, ?_, ?_, ?_, ?_, ?_, ?_, ?_, ?_, ?_, ?_, ?_, ?_, ?_, ?_, ?_, ?_, ?_, ?_, ?_, ?_, ?_, ?_, ?_, ?_, ?_, ?_, ?_, ?_, ?_, ?_, ?_, ?_, ?_, ?_, ?_, trivial⟩ ?_
        rotate_left 23
        · intro vs w' hG hd K hK
          clear hd
          simp only [canonD, Act.put, List.getElem_toArray, List.getElem_cons_zero, List.getElem_cons_succ, List.setIfInBounds_toArray, List.set_cons_zero, List.set_cons_succ] at hK ⊢
          refine Eq.mpr (if_pos (by rfl)) ?_
          go_simp
          refine hK.out _ _ (Fr.refl _ _) hG ?_
          show _ = _
          rfl
        · intro vs w' hG hd K hK
          obtain ⟨h0, -⟩ := hd
          replace h0 : vs 0 = _ := h0
          simp only [canonD, Act.put, List.getElem_toArray, List.getElem_cons_zero, List.getElem_cons_succ, List.setIfInBounds_toArray, List.set_cons_zero, List.set_cons_succ, h0] at hK ⊢
          have hW : Fr [] w11 w' := (Fr.refl [] w11).drew.trans hG
          refine Eq.mpr (if_pos (by rfl)) ?_
          go_simp
          refine (rmNext_any (HM.out.keep hW)).mono ?_
          rintro e wz ⟨rfl, rfl⟩
          go_simp
          refine hK.out _ _ (Fr.refl _ _) hG ?_
          show _ = _
          rfl
        · intro vs w' hG hd K hK
          clear hd
          simp only [canonD, Act.put, List.getElem_toArray, List.getElem_cons_zero, List.getElem_cons_succ, List.setIfInBounds_toArray, List.set_cons_zero, List.set_cons_succ] at hK ⊢
          refine Eq.mpr (if_pos (by rfl)) ?_
          go_simp
          refine hK.out _ _ (Fr.refl _ _) hG ?_
          show _ = _
          rfl
        · intro vs w' hG hd K hK
          obtain ⟨h2, -⟩ := hd
          replace h2 : vs 2 = _ := h2
          simp only [canonD, Act.put, List.getElem_toArray, List.getElem_cons_zero, List.getElem_cons_succ, List.setIfInBounds_toArray, List.set_cons_zero, List.set_cons_succ, h2] at hK ⊢
          have hW : Fr [] w11 w' := (Fr.refl [] w11).drew.trans hG
          have x2 := (HA.out.keep hW).cell 2
          simp only [mc, List.getElem?_toArray, List.getElem?_cons_succ, List.getElem?_cons_zero] at x2
          refine Eq.mpr (if_pos (by rfl)) ?_
          go_simp
          refine hK.out _ _ (Fr.refl _ _) hG ?_
          show _ = _
          rfl
        · intro vs w' hG hd K hK
          obtain ⟨h1, h3, -⟩ := hd
          replace h1 : vs 1 = _ := h1
          replace h3 : vs 3 = _ := h3
          simp only [canonD, Act.put, List.getElem_toArray, List.getElem_cons_zero, List.getElem_cons_succ, List.setIfInBounds_toArray, List.set_cons_zero, List.set_cons_succ, h1, h3] at hK ⊢
          refine Eq.mpr (if_pos (by rfl)) ?_
          go_simp
          refine hK.out _ _ (Fr.refl _ _) hG ?_
          show _ = _
          first | rfl | exact congrArg Value.bool (by simp)
        · intro vs w' hG hd K hK
          obtain ⟨h4, -⟩ := hd
          replace h4 : vs 4 = _ := h4
          simp only [canonD, Act.put, List.getElem_toArray, List.getElem_cons_zero, List.getElem_cons_succ, List.setIfInBounds_toArray, List.set_cons_zero, List.set_cons_succ, h4] at hK ⊢
          refine Eq.mpr (if_pos (by rfl)) ?_
          go_simp
          refine hK.out _ _ (Fr.refl _ _) hG ?_
          show _ = _
          rfl
        · intro vs w' hG hd K hK
          obtain ⟨h5, -⟩ := hd
          replace h5 : vs 5 = _ := h5
          simp only [canonD, Act.put, List.getElem_toArray, List.getElem_cons_zero, List.getElem_cons_succ, List.setIfInBounds_toArray, List.set_cons_zero, List.set_cons_succ, h5] at hK ⊢
          refine Eq.mpr (if_pos (by rfl)) ?_
          go_simp
          refine hK.out _ _ (Fr.refl _ _) hG ?_
          show _ = _
          rfl
        · intro vs w' hG hd K hK
          obtain ⟨h5, h6, -⟩ := hd
          replace h5 : vs 5 = _ := h5
          replace h6 : vs 6 = _ := h6
          simp only [canonD, Act.put, List.getElem_toArray, List.getElem_cons_zero, List.getElem_cons_succ, List.setIfInBounds_toArray, List.set_cons_zero, List.set_cons_succ, h5, h6] at hK ⊢
          have hW : Fr [] w11 w' := (Fr.refl [] w11).drew.trans hG
          refine Eq.mpr (if_pos (by rfl)) ?_
          go_simp
          refine (rmSegs_any (HM.out.keep hW)).mono ?_
          rintro e wz ⟨rfl, rfl⟩
          go_simp
          refine hK.out _ _ (Fr.refl _ _) hG ?_
          show _ = _
          rfl
        · intro vs w' hG hd K hK
          obtain ⟨h5, -⟩ := hd
          replace h5 : vs 5 = _ := h5
          simp only [canonD, Act.put, List.getElem_toArray, List.getElem_cons_zero, List.getElem_cons_succ, List.setIfInBounds_toArray, List.set_cons_zero, List.set_cons_succ, h5] at hK ⊢
          refine Eq.mpr (if_pos (by rfl)) ?_
          go_simp
          refine hK.out _ _ (Fr.refl _ _) hG ?_
          show _ = _
          rfl
        · intro vs w' hG hd K hK
          obtain ⟨h5, h8, -⟩ := hd
          replace h5 : vs 5 = _ := h5
          replace h8 : vs 8 = _ := h8
          simp only [canonD, Act.put, List.getElem_toArray, List.getElem_cons_zero, List.getElem_cons_succ, List.setIfInBounds_toArray, List.set_cons_zero, List.set_cons_succ, h5, h8] at hK ⊢
          have hW : Fr [] w11 w' := (Fr.refl [] w11).drew.trans hG
          have x7 := (HA.out.keep hW).cell 7
          simp only [mc, List.getElem?_toArray, List.getElem?_cons_succ, List.getElem?_cons_zero] at x7
          refine Eq.mpr (if_pos (by rfl)) ?_
          go_simp
          refine hK.out _ _ (Fr.refl _ _) hG ?_
          show _ = _
          rfl
        · intro vs w' hG hd K hK
          obtain ⟨h5, h7, h9, -⟩ := hd
          replace h5 : vs 5 = _ := h5
          replace h7 : vs 7 = _ := h7
          replace h9 : vs 9 = _ := h9
          simp only [canonD, Act.put, List.getElem_toArray, List.getElem_cons_zero, List.getElem_cons_succ, List.setIfInBounds_toArray, List.set_cons_zero, List.set_cons_succ, h5, h7, h9] at hK ⊢
          refine Eq.mpr (if_pos (by rfl)) ?_
          go_simp
          refine hK.out _ _ (Fr.refl _ _) hG ?_
          show _ = _
          first | rfl | exact congrArg Value.bool (by simp)
        · intro vs w' hG hd K hK
          obtain ⟨h5, h10, -⟩ := hd
          replace h5 : vs 5 = _ := h5
          replace h10 : vs 10 = _ := h10
          simp only [canonD, Act.put, List.getElem_toArray, List.getElem_cons_zero, List.getElem_cons_succ, List.setIfInBounds_toArray, List.set_cons_zero, List.set_cons_succ, h5, h10] at hK ⊢
          refine Eq.mpr (if_pos (by rfl)) ?_
          go_simp
          refine hK.out _ _ (Fr.refl _ _) hG ?_
          show _ = _
          rfl
        · intro vs w' hG hd K hK
          obtain ⟨h11, -⟩ := hd
          replace h11 : vs 11 = _ := h11
          simp only [canonD, Act.put, List.getElem_toArray, List.getElem_cons_zero, List.getElem_cons_succ, List.setIfInBounds_toArray, List.set_cons_zero, List.set_cons_succ, h11] at hK ⊢
          refine Eq.mpr (if_pos (by rfl)) ?_
          go_simp
          refine hK.out _ _ (Fr.refl _ _) hG ?_
          show _ = _
          rfl
        · intro vs w' hG hd K hK
          obtain ⟨h12, -⟩ := hd
          replace h12 : vs 12 = _ := h12
          simp only [canonD, Act.put, List.getElem_toArray, List.getElem_cons_zero, List.getElem_cons_succ, List.setIfInBounds_toArray, List.set_cons_zero, List.set_cons_succ, h12] at hK ⊢
          refine Eq.mpr (if_pos (by rfl)) ?_
          go_simp
          refine hK.out _ _ (Fr.refl _ _) hG ?_
          show _ = _
          rfl
        · intro vs w' hG hd K hK
          obtain ⟨h12, h13, -⟩ := hd
          replace h12 : vs 12 = _ := h12
          replace h13 : vs 13 = _ := h13
          simp only [canonD, Act.put, List.getElem_toArray, List.getElem_cons_zero, List.getElem_cons_succ, List.setIfInBounds_toArray, List.set_cons_zero, List.set_cons_succ, h12, h13] at hK ⊢
          have hW : Fr [] w11 w' := (Fr.refl [] w11).drew.trans hG
          refine Eq.mpr (if_pos (by rfl)) ?_
          go_simp
          refine (rmCount_any (HM.out.keep hW)).mono ?_
          rintro e wz ⟨rfl, rfl⟩
          go_simp
          refine hK.out _ _ (Fr.refl _ _) hG ?_
          show _ = _
          rfl
        · intro vs w' hG hd K hK
          obtain ⟨h12, -⟩ := hd
          replace h12 : vs 12 = _ := h12
          simp only [canonD, Act.put, List.getElem_toArray, List.getElem_cons_zero, List.getElem_cons_succ, List.setIfInBounds_toArray, List.set_cons_zero, List.set_cons_succ, h12] at hK ⊢
          refine Eq.mpr (if_pos (by rfl)) ?_
          go_simp
          refine hK.out _ _ (Fr.refl _ _) hG ?_
          show _ = _
          rfl
        · intro vs w' hG hd K hK
          obtain ⟨h12, h15, -⟩ := hd
          replace h12 : vs 12 = _ := h12
          replace h15 : vs 15 = _ := h15
          simp only [canonD, Act.put, List.getElem_toArray, List.getElem_cons_zero, List.getElem_cons_succ, List.setIfInBounds_toArray, List.set_cons_zero, List.set_cons_succ, h12, h15] at hK ⊢
          have hW : Fr [] w11 w' := (Fr.refl [] w11).drew.trans hG
          have x8 := (HA.out.keep hW).cell 8
          simp only [mc, List.getElem?_toArray, List.getElem?_cons_succ, List.getElem?_cons_zero] at x8
          refine Eq.mpr (if_pos (by rfl)) ?_
          go_simp
          refine hK.out _ _ (Fr.refl _ _) hG ?_
          show _ = _
          rfl
        · intro vs w' hG hd K hK
          obtain ⟨h12, h14, h16, -⟩ := hd
          replace h12 : vs 12 = _ := h12
          replace h14 : vs 14 = _ := h14
          replace h16 : vs 16 = _ := h16
          simp only [canonD, Act.put, List.getElem_toArray, List.getElem_cons_zero, List.getElem_cons_succ, List.setIfInBounds_toArray, List.set_cons_zero, List.set_cons_succ, h12, h14, h16] at hK ⊢
          refine Eq.mpr (if_pos (by rfl)) ?_
          go_simp
          refine hK.out _ _ (Fr.refl _ _) hG ?_
          show _ = _
          first | rfl | exact congrArg Value.bool (by simp)
        · intro vs w' hG hd K hK
          obtain ⟨h12, h17, -⟩ := hd
          replace h12 : vs 12 = _ := h12
          replace h17 : vs 17 = _ := h17
          simp only [canonD, Act.put, List.getElem_toArray, List.getElem_cons_zero, List.getElem_cons_succ, List.setIfInBounds_toArray, List.set_cons_zero, List.set_cons_succ, h12, h17] at hK ⊢
          refine Eq.mpr (if_pos (by rfl)) ?_
          go_simp
          refine hK.out _ _ (Fr.refl _ _) hG ?_
          show _ = _
          rfl
        · intro vs w' hG hd K hK
          obtain ⟨h18, -⟩ := hd
          replace h18 : vs 18 = _ := h18
          simp only [canonD, Act.put, List.getElem_toArray, List.getElem_cons_zero, List.getElem_cons_succ, List.setIfInBounds_toArray, List.set_cons_zero, List.set_cons_succ, h18] at hK ⊢
          refine Eq.mpr (if_pos (by rfl)) ?_
          go_simp
          refine hK.out _ _ (Fr.refl _ _) hG ?_
          show _ = _
          rfl
        · intro vs w' hG hd K hK
          obtain ⟨h19, -⟩ := hd
          replace h19 : vs 19 = _ := h19
          simp only [canonD, Act.put, List.getElem_toArray, List.getElem_cons_zero, List.getElem_cons_succ, List.setIfInBounds_toArray, List.set_cons_zero, List.set_cons_succ, h19] at hK ⊢
          refine Eq.mpr (if_pos (by rfl)) ?_
          go_simp
          refine hK.out _ _ (Fr.refl _ _) hG ?_
          show _ = _
          rfl
        · intro vs w' hG hd K hK
          obtain ⟨h19, -⟩ := hd
          replace h19 : vs 19 = _ := h19
          simp only [canonD, Act.put, List.getElem_toArray, List.getElem_cons_zero, List.getElem_cons_succ, List.setIfInBounds_toArray, List.set_cons_zero, List.set_cons_succ, h19] at hK ⊢
          refine Eq.mpr (if_pos (by rfl)) ?_
          go_simp
          refine hK.out _ _ (Fr.refl _ _) hG ?_
          show _ = _
          rfl
        · intro vs w' hG hd K hK
          obtain ⟨h19, h21, -⟩ := hd
          replace h19 : vs 19 = _ := h19
          replace h21 : vs 21 = _ := h21
          simp only [canonD, Act.put, List.getElem_toArray, List.getElem_cons_zero, List.getElem_cons_succ, List.setIfInBounds_toArray, List.set_cons_zero, List.set_cons_succ, h19, h21] at hK ⊢
          have hW : Fr [] w11 w' := (Fr.refl [] w11).drew.trans hG
          have x6 := (HA.out.keep hW).cell 6
          simp only [mc, List.getElem?_toArray, List.getElem?_cons_succ, List.getElem?_cons_zero] at x6
          rw [HOP.out] at x6
          refine Eq.mpr (if_pos (by rfl)) ?_
          go_simp
          refine hK.out _ _ (Fr.refl _ _) hG ?_
          show _ = _
          rfl
        · intro vs w' hG hd K hK
          obtain ⟨h19, h20, h22, -⟩ := hd
          replace h19 : vs 19 = _ := h19
          replace h20 : vs 20 = _ := h20
          replace h22 : vs 22 = _ := h22
          simp only [canonD, Act.put, List.getElem_toArray, List.getElem_cons_zero, List.getElem_cons_succ, List.setIfInBounds_toArray, List.set_cons_zero, List.set_cons_succ, h19, h20, h22] at hK ⊢
          refine Eq.mpr (if_pos (by rfl)) ?_
          go_simp
          refine hK.out _ _ (Fr.refl _ _) hG ?_
          show _ = _
          first | rfl | exact congrArg Value.bool (by simp)
        · intro vs w' hG hd K hK
          obtain ⟨h19, h23, -⟩ := hd
          replace h19 : vs 19 = _ := h19
          replace h23 : vs 23 = _ := h23
          simp only [canonD, Act.put, List.getElem_toArray, List.getElem_cons_zero, List.getElem_cons_succ, List.setIfInBounds_toArray, List.set_cons_zero, List.set_cons_succ, h19, h23] at hK ⊢
          refine Eq.mpr (if_pos (by rfl)) ?_
          go_simp
          refine hK.out _ _ (Fr.refl _ _) hG ?_
          show _ = _
          rfl
        · intro vs w' hG hd K hK
          obtain ⟨h24, -⟩ := hd
          replace h24 : vs 24 = _ := h24
          simp only [canonD, Act.put, List.getElem_toArray, List.getElem_cons_zero, List.getElem_cons_succ, List.setIfInBounds_toArray, List.set_cons_zero, List.set_cons_succ, h24] at hK ⊢
          refine Eq.mpr (if_pos (by rfl)) ?_
          go_simp
          refine hK.out _ _ (Fr.refl _ _) hG ?_
          show _ = _
          rfl
        · intro vs w' hG hd K hK
          obtain ⟨h25, -⟩ := hd
          replace h25 : vs 25 = _ := h25
          simp only [canonD, Act.put, List.getElem_toArray, List.getElem_cons_zero, List.getElem_cons_succ, List.setIfInBounds_toArray, List.set_cons_zero, List.set_cons_succ, h25] at hK ⊢
          refine Eq.mpr (if_pos (by rfl)) ?_
          go_simp
          refine hK.out _ _ (Fr.refl _ _) hG ?_
          show _ = _
          rfl
        · intro vs w' hG hd K hK
          obtain ⟨h25, h26, -⟩ := hd
          replace h25 : vs 25 = _ := h25
          replace h26 : vs 26 = _ := h26
          simp only [canonD, Act.put, List.getElem_toArray, List.getElem_cons_zero, List.getElem_cons_succ, List.setIfInBounds_toArray, List.set_cons_zero, List.set_cons_succ, h25, h26] at hK ⊢
          refine Eq.mpr (if_pos (by rfl)) ?_
          go_simp
          refine hK.out _ _ (Fr.refl _ _) hG ?_
          show _ = _
          rfl
        · intro vs w' hG hd K hK
          obtain ⟨h27, -⟩ := hd
          replace h27 : vs 27 = _ := h27
          simp only [canonD, Act.put, List.getElem_toArray, List.getElem_cons_zero, List.getElem_cons_succ, List.setIfInBounds_toArray, List.set_cons_zero, List.set_cons_succ, h27] at hK ⊢
          refine Eq.mpr (if_neg (fun h => Bool.noConfusion (show false = true from h))) ?_
          rfl
        · intro vs w' hG hd K hK
          obtain ⟨h27, -⟩ := hd
          replace h27 : vs 27 = _ := h27
          simp only [canonD, Act.put, List.getElem_toArray, List.getElem_cons_zero, List.getElem_cons_succ, List.setIfInBounds_toArray, List.set_cons_zero, List.set_cons_succ, h27] at hK ⊢
          refine Eq.mpr (if_neg (fun h => Bool.noConfusion (show false = true from h))) ?_
          rfl
        · intro vs w' hG hd K hK
          obtain ⟨h27, h29, -⟩ := hd
          replace h27 : vs 27 = _ := h27
          replace h29 : vs 29 = _ := h29
          simp only [canonD, Act.put, List.getElem_toArray, List.getElem_cons_zero, List.getElem_cons_succ, List.setIfInBounds_toArray, List.set_cons_zero, List.set_cons_succ, h27, h29] at hK ⊢
          refine Eq.mpr (if_neg (fun h => Bool.noConfusion (show false = true from h))) ?_
          rfl
        · intro vs w' hG hd K hK
          obtain ⟨h27, h28, h30, -⟩ := hd
          replace h27 : vs 27 = _ := h27
          replace h28 : vs 28 = _ := h28
          replace h30 : vs 30 = _ := h30
          simp only [canonD, Act.put, List.getElem_toArray, List.getElem_cons_zero, List.getElem_cons_succ, List.setIfInBounds_toArray, List.set_cons_zero, List.set_cons_succ, h27, h28, h30] at hK ⊢
          refine Eq.mpr (if_neg (fun h => Bool.noConfusion (show false = true from h))) ?_
          rfl
        · intro vs w' hG hd K hK
          obtain ⟨h25, h27, h31, -⟩ := hd
          replace h25 : vs 25 = _ := h25
          replace h27 : vs 27 = _ := h27
          replace h31 : vs 31 = _ := h31
          simp only [canonD, Act.put, List.getElem_toArray, List.getElem_cons_zero, List.getElem_cons_succ, List.setIfInBounds_toArray, List.set_cons_zero, List.set_cons_succ, h25, h27, h31] at hK ⊢
          refine Eq.mpr (if_pos (by rfl)) ?_
          go_simp
          refine hK.out _ _ (Fr.refl _ _) hG ?_
          show _ = _
          rfl
        · intro vs w' hG hd K hK
          obtain ⟨h25, h32, -⟩ := hd
          replace h25 : vs 25 = _ := h25
          replace h32 : vs 32 = _ := h32
          simp only [canonD, Act.put, List.getElem_toArray, List.getElem_cons_zero, List.getElem_cons_succ, List.setIfInBounds_toArray, List.set_cons_zero, List.set_cons_succ, h25, h32] at hK ⊢
          refine Eq.mpr (if_pos (by rfl)) ?_
          go_simp
          refine hK.out _ _ (Fr.refl _ _) hG ?_
          show _ = _
          rfl
        · intro vs w' hG hd K hK
          obtain ⟨h33, -⟩ := hd
          replace h33 : vs 33 = _ := h33
          simp only [canonD, Act.put, List.getElem_toArray, List.getElem_cons_zero, List.getElem_cons_succ, List.setIfInBounds_toArray, List.set_cons_zero, List.set_cons_succ, h33] at hK ⊢
          refine Eq.mpr (if_pos (by rfl)) ?_
          go_simp
          refine hK.out _ _ (Fr.refl _ _) hG ?_
          show _ = _
          rfl
        · intro vs w' hG hd K hK
          obtain ⟨h34, -⟩ := hd
          replace h34 : vs 34 = _ := h34
          simp only [canonD, Act.put, List.getElem_toArray, List.getElem_cons_zero, List.getElem_cons_succ, List.setIfInBounds_toArray, List.set_cons_zero, List.set_cons_succ, h34] at hK ⊢
          refine Eq.mpr (if_pos (by rfl)) ?_
          go_simp
          refine hK.out _ _ (Fr.refl _ _) hG ?_
          show _ = _
          rfl
        · intro vs w' hG hd K hK
          obtain ⟨h34, h35, -⟩ := hd
          replace h34 : vs 34 = _ := h34
          replace h35 : vs 35 = _ := h35
          simp only [canonD, Act.put, List.getElem_toArray, List.getElem_cons_zero, List.getElem_cons_succ, List.setIfInBounds_toArray, List.set_cons_zero, List.set_cons_succ, h34, h35] at hK ⊢
          refine Eq.mpr (if_pos (by rfl)) ?_
          go_simp
          refine hK.out _ _ (Fr.refl _ _) hG ?_
          show _ = _
          rfl
        · intro vs w' hG hd K hK
          obtain ⟨h34, h36, -⟩ := hd
          replace h34 : vs 34 = _ := h34
          replace h36 : vs 36 = _ := h36
          simp only [canonD, Act.put, List.getElem_toArray, List.getElem_cons_zero, List.getElem_cons_succ, List.setIfInBounds_toArray, List.set_cons_zero, List.set_cons_succ, h34, h36] at hK ⊢
          refine Eq.mpr (if_pos (by rfl)) ?_
          go_simp
          refine hK.out _ _ (Fr.refl _ _) hG ?_
          show _ = _
          rfl
        · intro vs w' hG hd K hK
          obtain ⟨h37, -⟩ := hd
          replace h37 : vs 37 = _ := h37
          simp only [canonD, Act.put, List.getElem_toArray, List.getElem_cons_zero, List.getElem_cons_succ, List.setIfInBounds_toArray, List.set_cons_zero, List.set_cons_succ, h37] at hK ⊢
          refine Eq.mpr (if_pos (by rfl)) ?_
          go_simp
          refine hK.out _ _ (Fr.refl _ _) hG ?_
          show _ = _
          rfl
        · intro vs w' hG hd K hK
          obtain ⟨h37, h38, -⟩ := hd
          replace h37 : vs 37 = _ := h37
          replace h38 : vs 38 = _ := h38
          simp only [canonD, Act.put, List.getElem_toArray, List.getElem_cons_zero, List.getElem_cons_succ, List.setIfInBounds_toArray, List.set_cons_zero, List.set_cons_succ, h37, h38] at hK ⊢
          refine Eq.mpr (if_pos (by rfl)) ?_
          go_simp
          refine hK.out _ _ (Fr.refl _ _) hG ?_
          show _ = _
          first | rfl | exact congrArg Value.bool (by simp)
        · intro vs w' hG hd K hK
          obtain ⟨h34, h37, h39, -⟩ := hd
          replace h34 : vs 34 = _ := h34
          replace h37 : vs 37 = _ := h37
          replace h39 : vs 39 = _ := h39
          simp only [canonD, Act.put, List.getElem_toArray, List.getElem_cons_zero, List.getElem_cons_succ, List.setIfInBounds_toArray, List.set_cons_zero, List.set_cons_succ, h34, h37, h39] at hK ⊢
          refine Eq.mpr (if_pos (by rfl)) ?_
          go_simp
          refine hK.out _ _ (Fr.refl _ _) hG ?_
          show _ = _
          rfl
        · intro vs w' hG hd K hK
          obtain ⟨h34, h40, -⟩ := hd
          replace h34 : vs 34 = _ := h34
          replace h40 : vs 40 = _ := h40
          simp only [canonD, Act.put, List.getElem_toArray, List.getElem_cons_zero, List.getElem_cons_succ, List.setIfInBounds_toArray, List.set_cons_zero, List.set_cons_succ, h34, h40] at hK ⊢
          refine Eq.mpr (if_pos (by rfl)) ?_
          go_simp
          refine hK.out _ _ (Fr.refl _ _) hG ?_
          show _ = _
          rfl
        intro vs w' hG hP
        obtain ⟨h0, h1, h2, h3, h4, h5, h6, h7, h8, h9, h10, h11, h12, h13, h14, h15, h16, h17, h18, h19, h20, h21, h22, h23, h24, h25, h26, h27, h28, h29, h30, h31, h32, h33, h34, h35, h36, h37, h38, h39, h40, h41, -⟩ := hP
        replace h0 : vs 0 = _ := h0
        replace h1 : vs 1 = _ := h1
        replace h2 : vs 2 = _ := h2
        replace h3 : vs 3 = _ := h3
        replace h4 : vs 4 = _ := h4
        replace h5 : vs 5 = _ := h5
        replace h6 : vs 6 = _ := h6
        replace h7 : vs 7 = _ := h7
        replace h8 : vs 8 = _ := h8
        replace h9 : vs 9 = _ := h9
        replace h10 : vs 10 = _ := h10
        replace h11 : vs 11 = _ := h11
        replace h12 : vs 12 = _ := h12
        replace h13 : vs 13 = _ := h13
        replace h14 : vs 14 = _ := h14
        replace h15 : vs 15 = _ := h15
        replace h16 : vs 16 = _ := h16
        replace h17 : vs 17 = _ := h17
        replace h18 : vs 18 = _ := h18
        replace h19 : vs 19 = _ := h19
        replace h20 : vs 20 = _ := h20
        replace h21 : vs 21 = _ := h21
        replace h22 : vs 22 = _ := h22
        replace h23 : vs 23 = _ := h23
        replace h24 : vs 24 = _ := h24
        replace h25 : vs 25 = _ := h25
        replace h26 : vs 26 = _ := h26
        replace h27 : vs 27 = _ := h27
        replace h28 : vs 28 = _ := h28
        replace h29 : vs 29 = _ := h29
        replace h30 : vs 30 = _ := h30
        replace h31 : vs 31 = _ := h31
        replace h32 : vs 32 = _ := h32
        replace h33 : vs 33 = _ := h33
        replace h34 : vs 34 = _ := h34
        replace h35 : vs 35 = _ := h35
        replace h36 : vs 36 = _ := h36
        replace h37 : vs 37 = _ := h37
        replace h38 : vs 38 = _ := h38
        replace h39 : vs 39 = _ := h39
        replace h40 : vs 40 = _ := h40
        replace h41 : vs 41 = _ := h41
        simp only [canonD, Act.put, List.getElem_toArray, List.getElem_cons_zero, List.getElem_cons_succ, List.setIfInBounds_toArray, List.set_cons_zero, List.set_cons_succ, h0, h1, h2, h3, h4, h5, h6, h7, h8, h9, h10, h11, h12, h13, h14, h15, h16, h17, h18, h19, h20, h21, h22, h23, h24, h25, h26, h27, h28, h29, h30, h31, h32, h33, h34, h35, h36, h37, h38, h39, h40, h41]
        clear h0 h1 h2 h3 h4 h5 h6 h7 h8 h9 h10 h11 h12 h13 h14 h15 h16 h17 h18 h19 h20 h21 h22 h23 h24 h25 h26 h27 h28 h29 h30 h31 h32 h33 h34 h35 h36 h37 h38 h39 h40 h41
        have hF := (Fr.refl [] w11).drew.trans hG
        have HF := Lib.hid (HF.out.trans hF); have HM := Lib.hid (HM.out.keep hF); have HA := Lib.hid (HA.out.keep hF)
        clear hF hG
        go_wp2_with fail
        go_roundw
        case rel => exact ⟨j + 1, M1, by omega, by go_num, HST.out.1, HST.out.2.1, HST.out.2.2, HM.out, HA.out, HF.out⟩
        case measure => simp [intOf]; omega
      · try simp only [HOP.out, if_true, if_false, Bool.false_eq_true, reduceCtorEq, ite_false, ite_true]
        go_upto_region 19 with fail
        refine wp_region_rules (fun w' => Fr [] w11.drew w') (Fr []) [isV ?p4x0, isV (.int .u16 ((M1).next.toNat : Nat)), isV ?p4x2, isV (.int .u16 ((M1).next.toNat : Nat)), isV (.bool false), isV ?p4x5, isV ?p4x6, isV (.int .i64 ((M1).segs : Nat)), isV ?p4x8, isV (.int .i64 ((M1).segs : Nat)), isV (.bool false), isV ?p4x11, isV ?p4x12, isV ?p4x13, isV (.int .i64 ((M1).cnt : Nat)), isV ?p4x15, isV (.int .i64 ((M1).cnt : Nat)), isV (.bool false), isV ?p4x18, isV ?p4x19, isV (.bool true), isV ?p4x21, isV (.bool true), isV (.bool false), isV ?p4x24, isV ?p4x25, isV (.bool true), isV ?p4x27, isV (.int .u32 ((M1).shift.toNat : Nat)), isV ?p4x29, isV (.int .u32 ((M1).shift.toNat : Nat)), isV (.bool false), isV ?p4x32, isV ?p4x33, isV ?p4x34, isV (.bool true), isV ?p4x36, isV ?p4x37, isV undef, isV undef, isV ?p4x40, isV ?p4x41] [[], [(0, 92)], [], [(2, 94)], [(1, 93), (3, 95)], [(4, 96)], [(5, 97)], [(5, 97), (6, 98)], [(5, 97)], [(5, 97), (8, 100)], [(5, 97), (7, 99), (9, 101)], [(5, 97), (10, 102)], [(11, 103)], [(12, 104)], [(12, 104), (13, 105)], [(12, 104)], [(12, 104), (15, 107)], [(12, 104), (14, 106), (16, 108)], [(12, 104), (17, 109)], [(18, 110)], [(19, 111)], [(19, 111)], [(19, 111), (21, 113)], [(19, 111), (20, 112), (22, 114)], [(19, 111), (23, 115)], [(24, 116)], [(25, 117)], [(25, 117), (26, 118)], [(27, 119)], [(27, 119)], [(27, 119), (29, 121)], [(27, 119), (28, 120), (30, 122)], [(25, 117), (27, 119), (31, 123)], [(25, 117), (32, 124)], [(33, 125)], [(34, 126)], [(34, 126), (35, 127)], [(34, 126), (36, 128)], [(37, 129)], [(37, 129), (38, 130)], [(34, 126), (37, 129), (39, 131)], [(34, 126), (40, 132)]] 135 [0, 1, 2, 3, 4, 5, 6, 7, 8, 9, 10, 11, 12, 13, 14, 15, 16, 17, 18, 19, 20, 21, 22, 23, 24, 25, 26, 27, 28, 29, 30, 31, 32, 33, 34, 35, 36, 37, 38, 39, 40, 41] [(0, 92), (1, 93), (2, 94), (3, 95), (4, 96), (5, 97), (6, 98), (7, 99), (8, 100), (9, 101), (10, 102), (11, 103), (12, 104), (13, 105), (14, 106), (15, 107), (16, 108), (17, 109), (18, 110), (19, 111), (20, 112), (21, 113), (22, 114), (23, 115), (24, 116), (25, 117), (26, 118), (27, 119), (28, 120), (29, 121), (30, 122), (31, 123), (32, 124), (33, 125), (34, 126), (35, 127), (36, 128), (37, 129), (38, 130), (39, 131), (40, 132), (41, 133)] (by kernel_rfl) (by kernel_rfl) rfl (by kernel_rfl) (by kernel_rfl) (by kernel_rfl) (by kernel_rfl) (by intro c a a' W h hq; cases a; cases a'; cases h; exact hq) (fun w => Fr.refl _ w) (Fr.refl _ _) ⟨isV_stab, isV_stab, isV_stab, isV_stab, isV_stab, isV_stab, isV_stab, isV_stab, isV_stab, isV_stab, isV_stab, isV_stab, isV_stab, isV_stab, isV_stab, isV_stab, isV_stab, isV_stab, isV_stab, isV_stab, isV_stab, isV_stab, isV_stab, isV_stab, isV_stab, isV_stab, isV_stab, isV_stab, isV_stab, isV_stab, isV_stab, isV_stab, isV_stab, isV_stab, isV_stab, isV_stab, isV_stab, isV_stab, isV_stab, isV_stab, isV_stab, isV_stab, trivial⟩ ⟨?_, ?_, ?_, ?_, ?_, ?_, ?_, ?_, ?_, ?_, ?_, ?_, ?_, ?_, ?_, ?_, ?_, ?_, ?_, ?_, ?_, ?_, ?_, ?_, ?_, ?_, ?_, ?_, ?_, ?_, ?_, ?_, ?_, ?_, ?_, ?_, ?_, ?_, ?_, ?_, ?_, ?_, trivial⟩ ?_
        rotate_left 23
        · intro vs w' hG hd K hK
          clear hd
          simp only [canonD, Act.put, List.getElem_toArray, List.getElem_cons_zero, List.getElem_cons_succ, List.setIfInBounds_toArray, List.set_cons_zero, List.set_cons_succ] at hK ⊢
          refine Eq.mpr (if_pos (by rfl)) ?_
          go_simp
          refine hK.out _ _ (Fr.refl _ _) hG ?_
          show _ = _
          rfl
        · intro vs w' hG hd K hK
          obtain ⟨h0, -⟩ := hd
          replace h0 : vs 0 = _ := h0
          simp only [canonD, Act.put, List.getElem_toArray, List.getElem_cons_zero, List.getElem_cons_succ, List.setIfInBounds_toArray, List.set_cons_zero, List.set_cons_succ, h0] at hK ⊢
          have hW : Fr [] w11 w' := (Fr.refl [] w11).drew.trans hG
          refine Eq.mpr (if_pos (by rfl)) ?_
          go_simp
          refine (rmNext_any (HM.out.keep hW)).mono ?_
          rintro e wz ⟨rfl, rfl⟩
          go_simp
          refine hK.out _ _ (Fr.refl _ _) hG ?_
          show _ = _
          rfl
        · intro vs w' hG hd K hK
          clear hd
          simp only [canonD, Act.put, List.getElem_toArray, List.getElem_cons_zero, List.getElem_cons_succ, List.setIfInBounds_toArray, List.set_cons_zero, List.set_cons_succ] at hK ⊢
          refine Eq.mpr (if_pos (by rfl)) ?_
          go_simp
          refine hK.out _ _ (Fr.refl _ _) hG ?_
          show _ = _
          rfl
        · intro vs w' hG hd K hK
          obtain ⟨h2, -⟩ := hd
          replace h2 : vs 2 = _ := h2
          simp only [canonD, Act.put, List.getElem_toArray, List.getElem_cons_zero, List.getElem_cons_succ, List.setIfInBounds_toArray, List.set_cons_zero, List.set_cons_succ, h2] at hK ⊢
          have hW : Fr [] w11 w' := (Fr.refl [] w11).drew.trans hG
          have x2 := (HA.out.keep hW).cell 2
          simp only [mc, List.getElem?_toArray, List.getElem?_cons_succ, List.getElem?_cons_zero] at x2
          refine Eq.mpr (if_pos (by rfl)) ?_
          go_simp
          refine hK.out _ _ (Fr.refl _ _) hG ?_
          show _ = _
          rfl
        · intro vs w' hG hd K hK
          obtain ⟨h1, h3, -⟩ := hd
          replace h1 : vs 1 = _ := h1
          replace h3 : vs 3 = _ := h3
          simp only [canonD, Act.put, List.getElem_toArray, List.getElem_cons_zero, List.getElem_cons_succ, List.setIfInBounds_toArray, List.set_cons_zero, List.set_cons_succ, h1, h3] at hK ⊢
          refine Eq.mpr (if_pos (by rfl)) ?_
          go_simp
          refine hK.out _ _ (Fr.refl _ _) hG ?_
          show _ = _
          first | rfl | exact congrArg Value.bool (by simp)
        · intro vs w' hG hd K hK
          obtain ⟨h4, -⟩ := hd
          replace h4 : vs 4 = _ := h4
          simp only [canonD, Act.put, List.getElem_toArray, List.getElem_cons_zero, List.getElem_cons_succ, List.setIfInBounds_toArray, List.set_cons_zero, List.set_cons_succ, h4] at hK ⊢
          refine Eq.mpr (if_pos (by rfl)) ?_
          go_simp
          refine hK.out _ _ (Fr.refl _ _) hG ?_
          show _ = _
          rfl
        · intro vs w' hG hd K hK
          obtain ⟨h5, -⟩ := hd
          replace h5 : vs 5 = _ := h5
          simp only [canonD, Act.put, List.getElem_toArray, List.getElem_cons_zero, List.getElem_cons_succ, List.setIfInBounds_toArray, List.set_cons_zero, List.set_cons_succ, h5] at hK ⊢
          refine Eq.mpr (if_pos (by rfl)) ?_
          go_simp
          refine hK.out _ _ (Fr.refl _ _) hG ?_
          show _ = _
          rfl
        · intro vs w' hG hd K hK
          obtain ⟨h5, h6, -⟩ := hd
          replace h5 : vs 5 = _ := h5
          replace h6 : vs 6 = _ := h6
          simp only [canonD, Act.put, List.getElem_toArray, List.getElem_cons_zero, List.getElem_cons_succ, List.setIfInBounds_toArray, List.set_cons_zero, List.set_cons_succ, h5, h6] at hK ⊢
          have hW : Fr [] w11 w' := (Fr.refl [] w11).drew.trans hG
          refine Eq.mpr (if_pos (by rfl)) ?_
          go_simp
          refine (rmSegs_any (HM.out.keep hW)).mono ?_
          rintro e wz ⟨rfl, rfl⟩
          go_simp
          refine hK.out _ _ (Fr.refl _ _) hG ?_
          show _ = _
          rfl
        · intro vs w' hG hd K hK
          obtain ⟨h5, -⟩ := hd
          replace h5 : vs 5 = _ := h5
          simp only [canonD, Act.put, List.getElem_toArray, List.getElem_cons_zero, List.getElem_cons_succ, List.setIfInBounds_toArray, List.set_cons_zero, List.set_cons_succ, h5] at hK ⊢
          refine Eq.mpr (if_pos (by rfl)) ?_
          go_simp
          refine hK.out _ _ (Fr.refl _ _) hG ?_
          show _ = _
          rfl
        · intro vs w' hG hd K hK
          obtain ⟨h5, h8, -⟩ := hd
          replace h5 : vs 5 = _ := h5
          replace h8 : vs 8 = _ := h8
          simp only [canonD, Act.put, List.getElem_toArray, List.getElem_cons_zero, List.getElem_cons_succ, List.setIfInBounds_toArray, List.set_cons_zero, List.set_cons_succ, h5, h8] at hK ⊢
          have hW : Fr [] w11 w' := (Fr.refl [] w11).drew.trans hG
          have x7 := (HA.out.keep hW).cell 7
          simp only [mc, List.getElem?_toArray, List.getElem?_cons_succ, List.getElem?_cons_zero] at x7
          refine Eq.mpr (if_pos (by rfl)) ?_
          go_simp
          refine hK.out _ _ (Fr.refl _ _) hG ?_
          show _ = _
          rfl
        · intro vs w' hG hd K hK
          obtain ⟨h5, h7, h9, -⟩ := hd
          replace h5 : vs 5 = _ := h5
          replace h7 : vs 7 = _ := h7
          replace h9 : vs 9 = _ := h9
          simp only [canonD, Act.put, List.getElem_toArray, List.getElem_cons_zero, List.getElem_cons_succ, List.setIfInBounds_toArray, List.set_cons_zero, List.set_cons_succ, h5, h7, h9] at hK ⊢
          refine Eq.mpr (if_pos (by rfl)) ?_
          go_simp
          refine hK.out _ _ (Fr.refl _ _) hG ?_
          show _ = _
          first | rfl | exact congrArg Value.bool (by simp)
        · intro vs w' hG hd K hK
          obtain ⟨h5, h10, -⟩ := hd
          replace h5 : vs 5 = _ := h5
          replace h10 : vs 10 = _ := h10
          simp only [canonD, Act.put, List.getElem_toArray, List.getElem_cons_zero, List.getElem_cons_succ, List.setIfInBounds_toArray, List.set_cons_zero, List.set_cons_succ, h5, h10] at hK ⊢
          refine Eq.mpr (if_pos (by rfl)) ?_
          go_simp
          refine hK.out _ _ (Fr.refl _ _) hG ?_
          show _ = _
          rfl
        · intro vs w' hG hd K hK
          obtain ⟨h11, -⟩ := hd
          replace h11 : vs 11 = _ := h11
          simp only [canonD, Act.put, List.getElem_toArray, List.getElem_cons_zero, List.getElem_cons_succ, List.setIfInBounds_toArray, List.set_cons_zero, List.set_cons_succ, h11] at hK ⊢
          refine Eq.mpr (if_pos (by rfl)) ?_
          go_simp
          refine hK.out _ _ (Fr.refl _ _) hG ?_
          show _ = _
          rfl
        · intro vs w' hG hd K hK
          obtain ⟨h12, -⟩ := hd
          replace h12 : vs 12 = _ := h12
          simp only [canonD, Act.put, List.getElem_toArray, List.getElem_cons_zero, List.getElem_cons_succ, List.setIfInBounds_toArray, List.set_cons_zero, List.set_cons_succ, h12] at hK ⊢
          refine Eq.mpr (if_pos (by rfl)) ?_
          go_simp
          refine hK.out _ _ (Fr.refl _ _) hG ?_
          show _ = _
          rfl
        · intro vs w' hG hd K hK
          obtain ⟨h12, h13, -⟩ := hd
          replace h12 : vs 12 = _ := h12
          replace h13 : vs 13 = _ := h13
          simp only [canonD, Act.put, List.getElem_toArray, List.getElem_cons_zero, List.getElem_cons_succ, List.setIfInBounds_toArray, List.set_cons_zero, List.set_cons_succ, h12, h13] at hK ⊢
          have hW : Fr [] w11 w' := (Fr.refl [] w11).drew.trans hG
          refine Eq.mpr (if_pos (by rfl)) ?_
          go_simp
          refine (rmCount_any (HM.out.keep hW)).mono ?_
          rintro e wz ⟨rfl, rfl⟩
          go_simp
          refine hK.out _ _ (Fr.refl _ _) hG ?_
          show _ = _
          rfl
        · intro vs w' hG hd K hK
          obtain ⟨h12, -⟩ := hd
          replace h12 : vs 12 = _ := h12
          simp only [canonD, Act.put, List.getElem_toArray, List.getElem_cons_zero, List.getElem_cons_succ, List.setIfInBounds_toArray, List.set_cons_zero, List.set_cons_succ, h12] at hK ⊢
          refine Eq.mpr (if_pos (by rfl)) ?_
          go_simp
          refine hK.out _ _ (Fr.refl _ _) hG ?_
          show _ = _
          rfl
        · intro vs w' hG hd K hK
          obtain ⟨h12, h15, -⟩ := hd
          replace h12 : vs 12 = _ := h12
          replace h15 : vs 15 = _ := h15
          simp only [canonD, Act.put, List.getElem_toArray, List.getElem_cons_zero, List.getElem_cons_succ, List.setIfInBounds_toArray, List.set_cons_zero, List.set_cons_succ, h12, h15] at hK ⊢
          have hW : Fr [] w11 w' := (Fr.refl [] w11).drew.trans hG
          have x8 := (HA.out.keep hW).cell 8
          simp only [mc, List.getElem?_toArray, List.getElem?_cons_succ, List.getElem?_cons_zero] at x8
          refine Eq.mpr (if_pos (by rfl)) ?_
          go_simp
          refine hK.out _ _ (Fr.refl _ _) hG ?_
          show _ = _
          rfl
        · intro vs w' hG hd K hK
          obtain ⟨h12, h14, h16, -⟩ := hd
          replace h12 : vs 12 = _ := h12
          replace h14 : vs 14 = _ := h14
          replace h16 : vs 16 = _ := h16
          simp only [canonD, Act.put, List.getElem_toArray, List.getElem_cons_zero, List.getElem_cons_succ, List.setIfInBounds_toArray, List.set_cons_zero, List.set_cons_succ, h12, h14, h16] at hK ⊢
          refine Eq.mpr (if_pos (by rfl)) ?_
          go_simp
          refine hK.out _ _ (Fr.refl _ _) hG ?_
          show _ = _
          first | rfl | exact congrArg Value.bool (by simp)
        · intro vs w' hG hd K hK
          obtain ⟨h12, h17, -⟩ := hd
          replace h12 : vs 12 = _ := h12
          replace h17 : vs 17 = _ := h17
          simp only [canonD, Act.put, List.getElem_toArray, List.getElem_cons_zero, List.getElem_cons_succ, List.setIfInBounds_toArray, List.set_cons_zero, List.set_cons_succ, h12, h17] at hK ⊢
          refine Eq.mpr (if_pos (by rfl)) ?_
          go_simp
          refine hK.out _ _ (Fr.refl _ _) hG ?_
          show _ = _
          rfl
        · intro vs w' hG hd K hK
          obtain ⟨h18, -⟩ := hd
          replace h18 : vs 18 = _ := h18
          simp only [canonD, Act.put, List.getElem_toArray, List.getElem_cons_zero, List.getElem_cons_succ, List.setIfInBounds_toArray, List.set_cons_zero, List.set_cons_succ, h18] at hK ⊢
          refine Eq.mpr (if_pos (by rfl)) ?_
          go_simp
          refine hK.out _ _ (Fr.refl _ _) hG ?_
          show _ = _
          rfl
        · intro vs w' hG hd K hK
          obtain ⟨h19, -⟩ := hd
          replace h19 : vs 19 = _ := h19
          simp only [canonD, Act.put, List.getElem_toArray, List.getElem_cons_zero, List.getElem_cons_succ, List.setIfInBounds_toArray, List.set_cons_zero, List.set_cons_succ, h19] at hK ⊢
          refine Eq.mpr (if_pos (by rfl)) ?_
          go_simp
          refine hK.out _ _ (Fr.refl _ _) hG ?_
          show _ = _
          rfl
        · intro vs w' hG hd K hK
          obtain ⟨h19, -⟩ := hd
          replace h19 : vs 19 = _ := h19
          simp only [canonD, Act.put, List.getElem_toArray, List.getElem_cons_zero, List.getElem_cons_succ, List.setIfInBounds_toArray, List.set_cons_zero, List.set_cons_succ, h19] at hK ⊢
          refine Eq.mpr (if_pos (by rfl)) ?_
          go_simp
          refine hK.out _ _ (Fr.refl _ _) hG ?_
          show _ = _
          rfl
        · intro vs w' hG hd K hK
          obtain ⟨h19, h21, -⟩ := hd
          replace h19 : vs 19 = _ := h19
          replace h21 : vs 21 = _ := h21
          simp only [canonD, Act.put, List.getElem_toArray, List.getElem_cons_zero, List.getElem_cons_succ, List.setIfInBounds_toArray, List.set_cons_zero, List.set_cons_succ, h19, h21] at hK ⊢
          have hW : Fr [] w11 w' := (Fr.refl [] w11).drew.trans hG
          have x6 := (HA.out.keep hW).cell 6
          simp only [mc, List.getElem?_toArray, List.getElem?_cons_succ, List.getElem?_cons_zero] at x6
          rw [HOP.out] at x6
          refine Eq.mpr (if_pos (by rfl)) ?_
          go_simp
          refine hK.out _ _ (Fr.refl _ _) hG ?_
          show _ = _
          rfl
        · intro vs w' hG hd K hK
          obtain ⟨h19, h20, h22, -⟩ := hd
          replace h19 : vs 19 = _ := h19
          replace h20 : vs 20 = _ := h20
          replace h22 : vs 22 = _ := h22
          simp only [canonD, Act.put, List.getElem_toArray, List.getElem_cons_zero, List.getElem_cons_succ, List.setIfInBounds_toArray, List.set_cons_zero, List.set_cons_succ, h19, h20, h22] at hK ⊢
          refine Eq.mpr (if_pos (by rfl)) ?_
          go_simp
          refine hK.out _ _ (Fr.refl _ _) hG ?_
          show _ = _
          first | rfl | exact congrArg Value.bool (by simp)
        · intro vs w' hG hd K hK
          obtain ⟨h19, h23, -⟩ := hd
          replace h19 : vs 19 = _ := h19
          replace h23 : vs 23 = _ := h23
          simp only [canonD, Act.put, List.getElem_toArray, List.getElem_cons_zero, List.getElem_cons_succ, List.setIfInBounds_toArray, List.set_cons_zero, List.set_cons_succ, h19, h23] at hK ⊢
          refine Eq.mpr (if_pos (by rfl)) ?_
          go_simp
          refine hK.out _ _ (Fr.refl _ _) hG ?_
          show _ = _
          rfl
        · intro vs w' hG hd K hK
          obtain ⟨h24, -⟩ := hd
          replace h24 : vs 24 = _ := h24
          simp only [canonD, Act.put, List.getElem_toArray, List.getElem_cons_zero, List.getElem_cons_succ, List.setIfInBounds_toArray, List.set_cons_zero, List.set_cons_succ, h24] at hK ⊢
          refine Eq.mpr (if_pos (by rfl)) ?_
          go_simp
          refine hK.out _ _ (Fr.refl _ _) hG ?_
          show _ = _
          rfl
        · intro vs w' hG hd K hK
          obtain ⟨h25, -⟩ := hd
          replace h25 : vs 25 = _ := h25
          simp only [canonD, Act.put, List.getElem_toArray, List.getElem_cons_zero, List.getElem_cons_succ, List.setIfInBounds_toArray, List.set_cons_zero, List.set_cons_succ, h25] at hK ⊢
          refine Eq.mpr (if_pos (by rfl)) ?_
          go_simp
          refine hK.out _ _ (Fr.refl _ _) hG ?_
          show _ = _
          rfl
        · intro vs w' hG hd K hK
          obtain ⟨h25, h26, -⟩ := hd
          replace h25 : vs 25 = _ := h25
          replace h26 : vs 26 = _ := h26
          simp only [canonD, Act.put, List.getElem_toArray, List.getElem_cons_zero, List.getElem_cons_succ, List.setIfInBounds_toArray, List.set_cons_zero, List.set_cons_succ, h25, h26] at hK ⊢
          refine Eq.mpr (if_pos (by rfl)) ?_
          go_simp
          refine hK.out _ _ (Fr.refl _ _) hG ?_
          show _ = _
          rfl
        · intro vs w' hG hd K hK
          obtain ⟨h27, -⟩ := hd
          replace h27 : vs 27 = _ := h27
          simp only [canonD, Act.put, List.getElem_toArray, List.getElem_cons_zero, List.getElem_cons_succ, List.setIfInBounds_toArray, List.set_cons_zero, List.set_cons_succ, h27] at hK ⊢
          refine Eq.mpr (if_pos (by rfl)) ?_
          go_simp
          refine hK.out _ _ (Fr.refl _ _) hG ?_
          show _ = _
          rfl
        · intro vs w' hG hd K hK
          obtain ⟨h27, -⟩ := hd
          replace h27 : vs 27 = _ := h27
          simp only [canonD, Act.put, List.getElem_toArray, List.getElem_cons_zero, List.getElem_cons_succ, List.setIfInBounds_toArray, List.set_cons_zero, List.set_cons_succ, h27] at hK ⊢
          refine Eq.mpr (if_pos (by rfl)) ?_
          go_simp
          refine hK.out _ _ (Fr.refl _ _) hG ?_
          show _ = _
          rfl
        · intro vs w' hG hd K hK
          obtain ⟨h27, h29, -⟩ := hd
          replace h27 : vs 27 = _ := h27
          replace h29 : vs 29 = _ := h29
          simp only [canonD, Act.put, List.getElem_toArray, List.getElem_cons_zero, List.getElem_cons_succ, List.setIfInBounds_toArray, List.set_cons_zero, List.set_cons_succ, h27, h29] at hK ⊢
          have hW : Fr [] w11 w' := (Fr.refl [] w11).drew.trans hG
          have x5 := (HA.out.keep hW).cell 5
          simp only [mc, List.getElem?_toArray, List.getElem?_cons_succ, List.getElem?_cons_zero] at x5
          refine Eq.mpr (if_pos (by rfl)) ?_
          go_simp
          refine hK.out _ _ (Fr.refl _ _) hG ?_
          show _ = _
          rfl
        · intro vs w' hG hd K hK
          obtain ⟨h27, h28, h30, -⟩ := hd
          replace h27 : vs 27 = _ := h27
          replace h28 : vs 28 = _ := h28
          replace h30 : vs 30 = _ := h30
          simp only [canonD, Act.put, List.getElem_toArray, List.getElem_cons_zero, List.getElem_cons_succ, List.setIfInBounds_toArray, List.set_cons_zero, List.set_cons_succ, h27, h28, h30] at hK ⊢
          refine Eq.mpr (if_pos (by rfl)) ?_
          go_simp
          refine hK.out _ _ (Fr.refl _ _) hG ?_
          show _ = _
          first | rfl | exact congrArg Value.bool (by simp)
        · intro vs w' hG hd K hK
          obtain ⟨h25, h27, h31, -⟩ := hd
          replace h25 : vs 25 = _ := h25
          replace h27 : vs 27 = _ := h27
          replace h31 : vs 31 = _ := h31
          simp only [canonD, Act.put, List.getElem_toArray, List.getElem_cons_zero, List.getElem_cons_succ, List.setIfInBounds_toArray, List.set_cons_zero, List.set_cons_succ, h25, h27, h31] at hK ⊢
          refine Eq.mpr (if_pos (by rfl)) ?_
          go_simp
          refine hK.out _ _ (Fr.refl _ _) hG ?_
          show _ = _
          rfl
        · intro vs w' hG hd K hK
          obtain ⟨h25, h32, -⟩ := hd
          replace h25 : vs 25 = _ := h25
          replace h32 : vs 32 = _ := h32
          simp only [canonD, Act.put, List.getElem_toArray, List.getElem_cons_zero, List.getElem_cons_succ, List.setIfInBounds_toArray, List.set_cons_zero, List.set_cons_succ, h25, h32] at hK ⊢
          refine Eq.mpr (if_pos (by rfl)) ?_
          go_simp
          refine hK.out _ _ (Fr.refl _ _) hG ?_
          show _ = _
          rfl
        · intro vs w' hG hd K hK
          obtain ⟨h33, -⟩ := hd
          replace h33 : vs 33 = _ := h33
          simp only [canonD, Act.put, List.getElem_toArray, List.getElem_cons_zero, List.getElem_cons_succ, List.setIfInBounds_toArray, List.set_cons_zero, List.set_cons_succ, h33] at hK ⊢
          refine Eq.mpr (if_pos (by rfl)) ?_
          go_simp
          refine hK.out _ _ (Fr.refl _ _) hG ?_
          show _ = _
          rfl
        · intro vs w' hG hd K hK
          obtain ⟨h34, -⟩ := hd
          replace h34 : vs 34 = _ := h34
          simp only [canonD, Act.put, List.getElem_toArray, List.getElem_cons_zero, List.getElem_cons_succ, List.setIfInBounds_toArray, List.set_cons_zero, List.set_cons_succ, h34] at hK ⊢
          refine Eq.mpr (if_pos (by rfl)) ?_
          go_simp
          refine hK.out _ _ (Fr.refl _ _) hG ?_
          show _ = _
          rfl
        · intro vs w' hG hd K hK
          obtain ⟨h34, h35, -⟩ := hd
          replace h34 : vs 34 = _ := h34
          replace h35 : vs 35 = _ := h35
          simp only [canonD, Act.put, List.getElem_toArray, List.getElem_cons_zero, List.getElem_cons_succ, List.setIfInBounds_toArray, List.set_cons_zero, List.set_cons_succ, h34, h35] at hK ⊢
          refine Eq.mpr (if_pos (by rfl)) ?_
          go_simp
          refine hK.out _ _ (Fr.refl _ _) hG ?_
          show _ = _
          rfl
        · intro vs w' hG hd K hK
          obtain ⟨h34, h36, -⟩ := hd
          replace h34 : vs 34 = _ := h34
          replace h36 : vs 36 = _ := h36
          simp only [canonD, Act.put, List.getElem_toArray, List.getElem_cons_zero, List.getElem_cons_succ, List.setIfInBounds_toArray, List.set_cons_zero, List.set_cons_succ, h34, h36] at hK ⊢
          refine Eq.mpr (if_pos (by rfl)) ?_
          go_simp
          refine hK.out _ _ (Fr.refl _ _) hG ?_
          show _ = _
          rfl
        · intro vs w' hG hd K hK
          obtain ⟨h37, -⟩ := hd
          replace h37 : vs 37 = _ := h37
          simp only [canonD, Act.put, List.getElem_toArray, List.getElem_cons_zero, List.getElem_cons_succ, List.setIfInBounds_toArray, List.set_cons_zero, List.set_cons_succ, h37] at hK ⊢
          refine Eq.mpr (if_neg (fun h => Bool.noConfusion (show false = true from h))) ?_
          rfl
        · intro vs w' hG hd K hK
          obtain ⟨h37, h38, -⟩ := hd
          replace h37 : vs 37 = _ := h37
          replace h38 : vs 38 = _ := h38
          simp only [canonD, Act.put, List.getElem_toArray, List.getElem_cons_zero, List.getElem_cons_succ, List.setIfInBounds_toArray, List.set_cons_zero, List.set_cons_succ, h37, h38] at hK ⊢
          refine Eq.mpr (if_neg (fun h => Bool.noConfusion (show false = true from h))) ?_
          rfl
        · intro vs w' hG hd K hK
          obtain ⟨h34, h37, h39, -⟩ := hd
          replace h34 : vs 34 = _ := h34
          replace h37 : vs 37 = _ := h37
          replace h39 : vs 39 = _ := h39
          simp only [canonD, Act.put, List.getElem_toArray, List.getElem_cons_zero, List.getElem_cons_succ, List.setIfInBounds_toArray, List.set_cons_zero, List.set_cons_succ, h34, h37, h39] at hK ⊢
          refine Eq.mpr (if_pos (by rfl)) ?_
          go_simp
          refine hK.out _ _ (Fr.refl _ _) hG ?_
          show _ = _
          rfl
        · intro vs w' hG hd K hK
          obtain ⟨h34, h40, -⟩ := hd
          replace h34 : vs 34 = _ := h34
          replace h40 : vs 40 = _ := h40
          simp only [canonD, Act.put, List.getElem_toArray, List.getElem_cons_zero, List.getElem_cons_succ, List.setIfInBounds_toArray, List.set_cons_zero, List.set_cons_succ, h34, h40] at hK ⊢
          refine Eq.mpr (if_pos (by rfl)) ?_
          go_simp
          refine hK.out _ _ (Fr.refl _ _) hG ?_
          show _ = _
          rfl
        intro vs w' hG hP
        obtain ⟨h0, h1, h2, h3, h4, h5, h6, h7, h8, h9, h10, h11, h12, h13, h14, h15, h16, h17, h18, h19, h20, h21, h22, h23, h24, h25, h26, h27, h28, h29, h30, h31, h32, h33, h34, h35, h36, h37, h38, h39, h40, h41, -⟩ := hP
        replace h0 : vs 0 = _ := h0
        replace h1 : vs 1 = _ := h1
        replace h2 : vs 2 = _ := h2
        replace h3 : vs 3 = _ := h3
        replace h4 : vs 4 = _ := h4
        replace h5 : vs 5 = _ := h5
        replace h6 : vs 6 = _ := h6
        replace h7 : vs 7 = _ := h7
        replace h8 : vs 8 = _ := h8
        replace h9 : vs 9 = _ := h9
        replace h10 : vs 10 = _ := h10
        replace h11 : vs 11 = _ := h11
        replace h12 : vs 12 = _ := h12
        replace h13 : vs 13 = _ := h13
        replace h14 : vs 14 = _ := h14
        replace h15 : vs 15 = _ := h15
        replace h16 : vs 16 = _ := h16
        replace h17 : vs 17 = _ := h17
        replace h18 : vs 18 = _ := h18
        replace h19 : vs 19 = _ := h19
        replace h20 : vs 20 = _ := h20
        replace h21 : vs 21 = _ := h21
        replace h22 : vs 22 = _ := h22
        replace h23 : vs 23 = _ := h23
        replace h24 : vs 24 = _ := h24
        replace h25 : vs 25 = _ := h25
        replace h26 : vs 26 = _ := h26
        replace h27 : vs 27 = _ := h27
        replace h28 : vs 28 = _ := h28
        replace h29 : vs 29 = _ := h29
        replace h30 : vs 30 = _ := h30
        replace h31 : vs 31 = _ := h31
        replace h32 : vs 32 = _ := h32
        replace h33 : vs 33 = _ := h33
        replace h34 : vs 34 = _ := h34
        replace h35 : vs 35 = _ := h35
        replace h36 : vs 36 = _ := h36
        replace h37 : vs 37 = _ := h37
        replace h38 : vs 38 = _ := h38
        replace h39 : vs 39 = _ := h39
        replace h40 : vs 40 = _ := h40
        replace h41 : vs 41 = _ := h41
        simp only [canonD, Act.put, List.getElem_toArray, List.getElem_cons_zero, List.getElem_cons_succ, List.setIfInBounds_toArray, List.set_cons_zero, List.set_cons_succ, h0, h1, h2, h3, h4, h5, h6, h7, h8, h9, h10, h11, h12, h13, h14, h15, h16, h17, h18, h19, h20, h21, h22, h23, h24, h25, h26, h27, h28, h29, h30, h31, h32, h33, h34, h35, h36, h37, h38, h39, h40, h41]
        clear h0 h1 h2 h3 h4 h5 h6 h7 h8 h9 h10 h11 h12 h13 h14 h15 h16 h17 h18 h19 h20 h21 h22 h23 h24 h25 h26 h27 h28 h29 h30 h31 h32 h33 h34 h35 h36 h37 h38 h39 h40 h41
        have hF := (Fr.refl [] w11).drew.trans hG
        have HF := Lib.hid (HF.out.trans hF); have HM := Lib.hid (HM.out.keep hF); have HA := Lib.hid (HA.out.keep hF)
        clear hF hG
        go_wp2_with fail
        go_roundw
        case rel => exact ⟨j + 1, M1, by omega, by go_num, HST.out.1, HST.out.2.1, HST.out.2.2, HM.out, HA.out, HF.out⟩
        case measure => simp [intOf]; omega
end Go.Proofs.Yticoongkfhkjgaa
