/- The walk of confluxlaw23.RemapKeeps (printed by gen_rmkeeps.py). -/
import Derived.Test.YticoongkfhkjgaaRmTwoPlain
import Derived.Test.YticoongkfhkjgaaR5Parse
import Derived.Test.YticoongkfhkjgaaR5Same
import Derived.Test.YticoongkfhkjgaaOps23
import Derived.Test.YticoongkfhkjgaaBase4
namespace Go.Proofs.Yticoongkfhkjgaa
open Go.RowKit

/-- What holds of the map, and of the times that went last. -/
structure KRel (M : RMap) (j : Nat) (ssrc : UInt32) (first : UInt16) (ts : UInt32) (stp : Int) (tA tB : UInt32) : Prop where
  ok : M.Ok
  segs : M.segs ≤ j
  cnt : M.cnt ≤ j
  ssrc : M.ssrc = ssrc
  pt : M.pt = 97
  step : M.step = clampI stp 0 2147483647
  next : M.next = add16 first (M.cnt : Nat)
  opn : M.opn = true → M.last = sum32 tA M.shift ∧ tB = M.last ∧ 0 < M.cnt
  more : 0 < M.cnt → tB = M.last ∧ 0 < M.segs
  none : M.cnt = 0 → M.last = ts ∧ M.segs = 0
theorem KRel.start (ssrc : UInt32) (first : UInt16) (ts : UInt32) (stp : Int) (tA tB : UInt32) : KRel (RMap.new ssrc 97 first ts stp) 0 ssrc first ts stp tA tB :=
  ⟨RMap.new_ok _ _ _ _ _, Nat.le_refl _, Nat.le_refl _, rfl, rfl, rfl, by
    show first = add16 first 0
    apply UInt16.toNat_inj.1
    have := add16_nat first 0
    have := first.toNat_lt
    omega, (fun h => by cases h), (fun h => by cases h), fun _ => ⟨rfl, rfl⟩⟩
theorem KRel.shut {M : RMap} {j : Nat} {ssrc : UInt32} {first : UInt16} {ts : UInt32} {stp : Int} {tA tB : UInt32} (h : KRel M j ssrc first ts stp tA tB) : KRel M.shut (j + 1) ssrc first ts stp tA tB :=
  ⟨RMap.shut_ok h.ok, Nat.le_succ_of_le h.segs, Nat.le_succ_of_le h.cnt, h.ssrc, h.pt, h.step, h.next, (fun e => by cases e), h.more, h.none⟩
theorem KRel.later {M : RMap} {j : Nat} {ssrc : UInt32} {first : UInt16} {ts : UInt32} {stp : Int} {tA tB : UInt32} (h : KRel M j ssrc first ts stp tA tB) : KRel M (j + 1) ssrc first ts stp tA tB :=
  ⟨h.ok, Nat.le_succ_of_le h.segs, Nat.le_succ_of_le h.cnt, h.ssrc, h.pt, h.step, h.next, h.opn, h.more, h.none⟩
theorem add16_more (a : UInt16) (n : Nat) : add16 (add16 a (n : Int)) 1 = add16 a ((n + 1 : Nat) : Int) := by
  apply UInt16.toNat_inj.1
  have h1 := add16_nat (add16 a (n : Int)) 1
  have h2 := add16_nat a (n : Int)
  have h3 := add16_nat a ((n + 1 : Nat) : Int)
  omega
theorem KRel.next_ {M : RMap} {j : Nat} {ssrc : UInt32} {first : UInt16} {ts : UInt32} {stp : Int} {tA tB : UInt32} (h : KRel M j ssrc first ts stp tA tB) (hj : j ≤ 1000000) (p : Pkt) : KRel (M.step_ p) (j + 1) ssrc first ts stp p.ts (M.out p).ts := by
  have hs := RMap.step_ok h.ok h.segs h.cnt hj p
  have hr := M.ready_same p.ts
  have hcnt : (M.step_ p).cnt = M.cnt + 1 := rfl
  refine ⟨hs.1, hs.2.1, hs.2.2, (M.step_keep p).1.trans h.ssrc, (M.step_keep p).2.trans h.pt, hr.2.2.2.2.trans h.step, ?_, fun _ => ⟨rfl, rfl, by rw [hcnt]; omega⟩, fun _ => ⟨rfl, ?_⟩, fun e => by rw [hcnt] at e; omega⟩
  · show add16 M.next 1 = add16 first ((M.cnt + 1 : Nat) : Int)
    rw [h.next, add16_more]
  · show 0 < (M.ready p.ts).segs
    cases ho : M.opn with
    | true => rw [RMap.ready_open ho]; exact (h.more (h.opn ho).2.2).2
    | false => rw [RMap.ready_shut ho]; show 0 < M.segs + 1; omega
/-- The tests of the law, as they come out. -/
theorem KRel.far {M : RMap} {j : Nat} {ssrc : UInt32} {first : UInt16} {ts : UInt32} {stp : Int} {tA tB : UInt32} (h : KRel M j ssrc first ts stp tA tB) (ho : M.opn = true) (p : Pkt) :
    (((((M.out p).ts.toNat : Nat) : Int) - ((tB.toNat : Nat) : Int)) % 4294967296 != (((p.ts.toNat : Nat) : Int) - ((tA.toNat : Nat) : Int)) % 4294967296) = false := by
  obtain ⟨h1, h2, _⟩ := h.opn ho
  have e : (M.out p).ts = sum32 p.ts M.shift := by show sum32 p.ts (M.ready p.ts).shift = _; rw [RMap.ready_open ho]
  rw [e, h2, h1]
  have k1 := u32_add_nat p.ts M.shift
  have k2 := u32_add_nat tA M.shift
  have q : ∀ x : UInt32, sum32 x M.shift = x + M.shift := fun _ => rfl
  rw [q, q]
  rw [bne_eq_false_iff_eq]
  omega
theorem KRel.first_ {M : RMap} {j : Nat} {ssrc : UInt32} {first : UInt16} {ts : UInt32} {stp : Int} {tA tB : UInt32} (h : KRel M j ssrc first ts stp tA tB) (h0 : M.cnt = 0) (p : Pkt) : (M.out p).ts = ts ∧ M.opn = false := by
  have ho : M.opn = false := by
    cases ho : M.opn with
    | false => rfl
    | true => have := (h.opn ho).2.2; omega
  refine ⟨?_, ho⟩
  rw [RMap.out_shut ho]
  unfold RMap.start
  rw [if_neg (by have := (h.none h0).2; omega)]
  exact (h.none h0).1
theorem KRel.gap {M : RMap} {j : Nat} {ssrc : UInt32} {first : UInt16} {ts : UInt32} {stp : Int} {tA tB : UInt32} (h : KRel M j ssrc first ts stp tA tB) (h0 : 0 < M.cnt) (ho : M.opn = false) (p : Pkt) :
    ((((M.out p).ts.toNat : Nat) : Int) - ((tB.toNat : Nat) : Int)) % 4294967296 = clampI stp 0 2147483647 := by
  rw [RMap.out_shut ho, (h.more h0).1]
  unfold RMap.start
  rw [if_pos (h.more h0).2]
  have h1 := add32_nat M.last M.step
  have h2 := h.ok.st0
  have h3 := h.ok.st1
  have h4 := h.step
  omega
def Cell3 (c : Array Value) (t : UInt32) : Prop := c.size = 11 ∧ c[3]? = some (.int .u32 (t.toNat : Nat))
set_option maxRecDepth 100000 in
set_option maxHeartbeats 16000000 in
theorem RemapKeeps_any {w : World} {v : Value} {ops : List (Bool × List UInt8)} (ssrc : UInt32) (first : UInt16) (ts : UInt32) (stp : Int) (hl : Ops23 w v ops) :
    Calls Try.prog 12 #[.int .u32 (ssrc.toNat : Nat), .int .u16 (first.toNat : Nat), .int .u32 (ts.toNat : Nat), .int .i64 stp, v] w fun e w' => e = .returned (.bool true) ∧ Fr [] w w' := by
  obtain ⟨av, cv, rfl⟩ := hl.shape
  have hlen := hl.len.2
  unfold maxLen at hlen
  have HL := Lib.hid hl
  clear hl
  go_enter Try.func12, Try.ntmps12
  go_wp2_with fail
  refine alive23_any.mono ?_
  rintro e w1 ⟨rfl, hF⟩
  have HF := Lib.hid hF
  clear hF
  go_wp2_with fail
  refine (small23_any (HL.out.keep HF.out)).mono ?_
  rintro e w2 ⟨rfl, hF⟩
  have HF := Lib.hid (HF.out.trans hF)
  clear hF
  by_cases hfew : small23 ops = true
  rotate_left
  · have hfew2 : small23 ops = false := by simpa using hfew
    rw [hfew2]
    go_wp2_with fail
    go_ret
    exact ⟨rfl, HF.out⟩
  rw [hfew]
  obtain ⟨hn40, hsz⟩ := small23_true hfew
  have HSZ := Lib.hid hsz
  clear hfew hsz
  go_wp2_with fail
  refine (rmNew_any ssrc 97 first ts stp _).mono ?_
  rintro e w3 ⟨g, rfl, hg, hB, hF⟩
  have HG : Hid (w.heap.size ≤ g) := Lib.hid (Nat.le_trans HF.out.size hg)
  have HF := Lib.hid (HF.out.trans hF)
  have hgl := hB.lt
  obtain ⟨hF2, hA0, hB0⟩ := two_boxes w3 #[.bool false, .int .i64 0, .int .u16 0, .int .u32 0, .int .u32 0, .slice none 0 0, .bool false, .int .u16 0, .slice none 0 0, .slice none 0 0, .slice none 0 0] 67 #[.bool false, .int .i64 0, .int .u16 0, .int .u32 0, .int .u32 0, .slice none 0 0, .bool false, .int .u16 0, .slice none 0 0, .slice none 0 0, .slice none 0 0] 67
  have HM := Lib.hid (hB.keep hF2); have HF := Lib.hid (HF.out.trans hF2); have HA := Lib.hid hA0; have HB := Lib.hid hB0
  have hgA : g < w3.heap.size := hgl
  have HAW : Hid (w.heap.size ≤ w3.heap.size) := Lib.hid (by have := HG.out; omega)
  clear hF hB hg hF2 hA0 hB0 hgl
  go_wp2_with fail
  generalize hAA : w3.heap.size = A at *
  have HAA := Lib.hid hAA
  clear hAA
  go_loopw [12, 15, 36] (fun n bg i wr => ∃ (j : Nat) (M : RMap) (cA cB : Array Value) (tA tB : UInt32), j ≤ ops.length ∧ n = .int .i64 (M.cnt : Nat) ∧ bg = .bool M.opn ∧ i = .int .i64 j ∧ KRel M j ssrc first ts stp tA tB ∧ Box wr g 132 (mc M) ∧ Box wr A 67 cA ∧ Cell3 cA tA ∧ Box wr (A + 1) 67 cB ∧ Cell3 cB tB ∧ Fr [] w wr) (fun _ _ i _ => ops.length - (intOf i).toNat)
  case atStart => exact ⟨0, RMap.new ssrc 97 first ts stp, _, _, 0, 0, Nat.zero_le _, rfl, rfl, rfl, KRel.start _ _ _ _ _ _, HM.out, HA.out, ⟨rfl, rfl⟩, HB.out, ⟨rfl, rfl⟩, HF.out⟩
  case round =>
    clear HM HA HB HF
    obtain ⟨j, M, cA, cB, tA, tB, hj, rfl, rfl, rfl, hK, hM, hA, hcA, hB, hcB, hF⟩ := hrel
    have HM := Lib.hid hM; have HA := Lib.hid hA; have HB := Lib.hid hB; have HF := Lib.hid hF; have HK := Lib.hid hK
    have HCA := Lib.hid hcA; have HCB := Lib.hid hcB
    have hlw : w.heap.size ≤ g := HG.out
    have hgl := hM.lt; have hbl := hB.lt
    clear hM hA hB hF hK hcA hcB
    by_cases hlt : j < ops.length
    rotate_left
    · go_wp2_with fail
      refine (rmCount_any HM.out).mono ?_
      rintro e wz ⟨rfl, rfl⟩
      go_wp2_with fail
      go_ret
      first | exact ⟨rfl, HF.out⟩ | exact ⟨ret_bool (by simp), HF.out⟩
    obtain ⟨b, o, sw, l, x, rfl, hb, hlj, hx0, hx1, hR⟩ := HL.out.at_ hlt
    obtain ⟨al, cl, rfl⟩ := Sl.shape hR
    simp only [List.length_map] at hx1 hR
    have d0 := HF.out.cellSome hx0 (by simp)
    have d1 := HF.out.cellSome hx1 (by simp)
    have hll := HSZ.out _ (List.mem_of_getElem? hlj)
    simp only at hll
    have HR := Lib.hid hR
    obtain ⟨w4, e4, hF4, hB4, hs4⟩ := one_new wr #[.bool sw, .slice al l.length cl] 91
    have HM := Lib.hid (HM.out.keep hF4); have HA := Lib.hid (HA.out.keep hF4); have HB := Lib.hid (HB.out.keep hF4); have HF := Lib.hid (HF.out.trans hF4); have HO := Lib.hid hB4
    have hoz : wr.heap.size < w4.heap.size := by omega
    generalize hOO : wr.heap.size = O at *
    clear hx0 hx1 hlj hb hR hF4 hB4 hs4
    cases sw with
    | true =>
      have o0 := HO.out.cell 0
      simp only [List.getElem?_toArray, List.getElem?_cons_succ, List.getElem?_cons_zero] at o0
      go_upto_region 13 with (fail)
      try rw [e4]
      clear e4 d0 d1 o0 hOO
      go_wp2_with fail
      refine (rmSwitch_any HM.out).mono ?_
      rintro e w5 ⟨rfl, hM, hF⟩
      have HM := Lib.hid hM; have HA := Lib.hid (HA.out.fr hF (by simp; omega)); have HB := Lib.hid (HB.out.fr hF (by simp; omega)); have HF := Lib.hid (HF.out.step hF (fun x hx => by simp at hx; subst hx; exact .inr (by omega)))
      clear hM hF
      go_wp2_with fail
      go_roundw
      case rel => exact ⟨j + 1, M.shut, cA, cB, tA, tB, by omega, rfl, rfl, by go_num, HK.out.shut, HM.out, HA.out, HCA.out, HB.out, HCB.out, HF.out⟩
      case measure => simp [intOf]; omega
    | false =>
      have o1 := HO.out.cell 1; have o0 := HO.out.cell 0
      simp only [List.getElem?_toArray, List.getElem?_cons_succ, List.getElem?_cons_zero] at o1 o0
      go_upto_region 15 with (fail)
      try rw [e4]
      clear e4 d0 d1 hOO
      go_wp2_with fail
      clear o1 o0
      cases hpr : parseR l with
      | ok p =>
        have HP := Lib.hid hpr
        have HWQ := Lib.hid (parse_back hpr).1
        have HWO := Lib.hid (RMap.out_wrong HK.out.ok (parse_back hpr).1)
        clear hpr
        refine (rmBytes_any HM.out HK.out.ok (Sl.keep HR.out HF.out)).mono ?_
        rintro e w5 (⟨p2, vr, hp, rfl, hO, hM, hF⟩ | ⟨k, hp, -⟩)
        rotate_left
        · rw [HP.out] at hp; cases hp
        rw [HP.out] at hp
        cases hp
        obtain ⟨ao, co, hvr⟩ := hO.nilOr
        subst hvr
        have HW := Lib.hid hO.bytes
        have HM := Lib.hid hM; have HA := Lib.hid (HA.out.fr hF (by simp; omega)); have HB := Lib.hid (HB.out.fr hF (by simp; omega)); have HO := Lib.hid (HO.out.fr hF (by simp; omega)); have HF := Lib.hid (HF.out.step hF (fun x hx => by simp at hx; subst hx; exact .inr (by omega)))
        have hsz5 := hF.size
        clear hO hM hF
        have o1 := HO.out.cell 1
        simp only [List.getElem?_toArray, List.getElem?_cons_succ, List.getElem?_cons_zero] at o1
        go_wp2_with fail
        clear o1
        refine (R5Parse_any (Sl.keep HR.out HF.out)).mono ?_
        rintro e w6 (⟨vp, p2, hp, rfl, hVp, hF⟩ | ⟨k, hp, -⟩)
        rotate_left
        · rw [HP.out] at hp; cases hp
        rw [HP.out] at hp
        cases hp
        have HM := Lib.hid (HM.out.keep hF); have HA := Lib.hid (HA.out.keep hF); have HB := Lib.hid (HB.out.keep hF); have HO := Lib.hid (HO.out.keep hF); have HF := Lib.hid (HF.out.trans hF); have HW := Lib.hid (Sl.keep HW.out hF)
        obtain ⟨b1, k1, b2, k2, b3, k3, b4, k4, rfl, -, -, -, -⟩ := hVp.open_
        have HVp := Lib.hid hVp
        have HBp := Lib.hid hVp.bound
        have hsz6 := hF.size
        clear hF hVp
        go_wp2_with (refine wpList_store_row rfl 67 (.tmp 20) (.tmp 55) rfl w6.heap.size rfl _ _ rfl 67 (Box.new w6 67 #[.bool false, .int .i64 0, .int .u16 0, .int .u32 0, .int .u32 0, .slice none 0 0, .bool false, .int .u16 0, .slice none 0 0, .slice none 0 0, .slice none 0 0]) (by kernel_rfl) rfl (oneCell_pc _ _ _ _ _ _ _ _ _ _ _ ⟨_, _, _, rfl⟩ ⟨_, _, _, rfl⟩ ⟨_, _, _, rfl⟩ ⟨_, _, _, rfl⟩) ?_; intro w7 hY hG; have hFn := ((Fr.refl [] w6).alloc _).step hG (by simp); have HFn := Lib.hid hFn; have HY := Lib.hid hY; clear hG hFn hY)
        have hF := HFn.out
        have HM := Lib.hid (HM.out.keep hF); have HA := Lib.hid (HA.out.keep hF); have HB := Lib.hid (HB.out.keep hF); have HO := Lib.hid (HO.out.keep hF); have HF := Lib.hid (HF.out.trans hF); have HW := Lib.hid (Sl.keep HW.out hF); have HVp := Lib.hid (HVp.out.keep hF)
        have hsz7 := hF.size
        have HPX := HY
        clear hF HFn HY
        generalize hTT : w6.heap.size = T at *
        have hTl : T < w7.heap.size := HPX.out.lt
        clear hTT
        refine (R5Parse_any HW.out).mono ?_
        rintro e w8 (⟨vq, q, hp, rfl, hVq, hF⟩ | ⟨k, hp, -⟩)
        rotate_left
        · rw [parse_bytes HWO.out] at hp; cases hp
        rw [parse_bytes HWO.out] at hp
        cases hp
        have HM := Lib.hid (HM.out.keep hF); have HA := Lib.hid (HA.out.keep hF); have HB := Lib.hid (HB.out.keep hF); have HO := Lib.hid (HO.out.keep hF); have HF := Lib.hid (HF.out.trans hF); have HVp := Lib.hid (HVp.out.keep hF); have HPX := Lib.hid (HPX.out.keep hF)
        have E1 := Lib.hid (show (M.out p).pt = 97 from HK.out.pt)
        have E2 := Lib.hid (show (M.out p).ssrc = ssrc from HK.out.ssrc)
        have E3 := Lib.hid (show (M.out p).seq = add16 first (M.cnt : Nat) from HK.out.next)
        have HQP := Lib.hid (RMap.out_turn M p)
        obtain ⟨g1, m1, g2, m2, g3, m3, g4, m4, rfl, -, -, -, -⟩ := hVq.open_
        have HVq := Lib.hid hVq
        have hsz8 := hF.size
        clear hF hVq HW
        go_upto_region 21 with (refine wpList_store_row rfl 67 (.tmp 22) (.tmp 67) rfl w8.heap.size rfl _ _ rfl 67 (Box.new w8 67 #[.bool false, .int .i64 0, .int .u16 0, .int .u32 0, .int .u32 0, .slice none 0 0, .bool false, .int .u16 0, .slice none 0 0, .slice none 0 0, .slice none 0 0]) (by kernel_rfl) rfl (oneCell_pc _ _ _ _ _ _ _ _ _ _ _ ⟨_, _, _, rfl⟩ ⟨_, _, _, rfl⟩ ⟨_, _, _, rfl⟩ ⟨_, _, _, rfl⟩) ?_; intro w9 hY hG; have hFn := ((Fr.refl [] w8).alloc _).step hG (by simp); have HFn := Lib.hid hFn; have HY := Lib.hid hY; clear hG hFn hY)
        have hF := HFn.out
        have HM := Lib.hid (HM.out.keep hF); have HA := Lib.hid (HA.out.keep hF); have HB := Lib.hid (HB.out.keep hF); have HO := Lib.hid (HO.out.keep hF); have HF := Lib.hid (HF.out.trans hF); have HVp := Lib.hid (HVp.out.keep hF); have HVq := Lib.hid (HVq.out.keep hF); have HPX := Lib.hid (HPX.out.keep hF)
        have hsz9 := hF.size
        have HQX : Hid (Box w9 w8.heap.size 67 (pc (M.out p).marker (M.out p).pt (M.out p).seq.toNat (M.out p).ts.toNat (M.out p).ssrc.toNat (.slice g1 (M.out p).csrc.length m1) (M.out p).hasExt (M.out p).profile.toNat (.slice g2 (M.out p).ext.length m2) (.slice g3 (M.out p).payload.length m3) (.slice g4 (M.out p).pad.length m4))) := HY
        clear hF HFn HY
        generalize hUU : w8.heap.size = U at *
        have hUl : U < w9.heap.size := HQX.out.lt
        clear hUU
        have HQT := Lib.hid (show (M.out p).ts = (M.out p).ts from rfl)
        have HQ2 : Hid (Box w9 U 67 (pc (M.out p).marker 97 (add16 first (M.cnt : Nat)).toNat (M.out p).ts.toNat ssrc.toNat (.slice g1 (M.out p).csrc.length m1) (M.out p).hasExt (M.out p).profile.toNat (.slice g2 (M.out p).ext.length m2) (.slice g3 (M.out p).payload.length m3) (.slice g4 (M.out p).pad.length m4))) := Lib.hid (by have := HQX.out; rw [E1.out, E2.out, E3.out] at this; exact this)
        refine wp_region_T (fun w' => Box w' U 67 (pc (M.out p).marker 97 (add16 first (M.cnt : Nat)).toNat (M.out p).ts.toNat ssrc.toNat (.slice g1 (M.out p).csrc.length m1) (M.out p).hasExt (M.out p).profile.toNat (.slice g2 (M.out p).ext.length m2) (.slice g3 (M.out p).payload.length m3) (.slice g4 (M.out p).pad.length m4))) [] 21 #[false, false, false, false, false, false, false, false, false, false, false, false, false, false, false, false, false, false, false, false, false] (by kernel_rfl) rfl rfl ?_
        have hF := (Fr.refl [] w9).drew
        have HM := Lib.hid (HM.out.keep hF); have HA := Lib.hid (HA.out.keep hF); have HB := Lib.hid (HB.out.keep hF); have HO := Lib.hid (HO.out.keep hF); have HF := Lib.hid (HF.out.trans hF); have HVp := Lib.hid (HVp.out.keep hF); have HVq := Lib.hid (HVq.out.keep hF); have HPX := Lib.hid (HPX.out.keep hF); have HQX := Lib.hid (HQX.out.keep hF)
        have HSS := Lib.hid (HQ2.out.keep hF)
        have hUl : U < w9.drew.heap.size := by simp; omega
        clear hF HQ2
        generalize w9.drew = wd at *
        refine wpAnyT_load (i := 0) (v := ?_) rfl (by kernel_rfl) (by kernel_rfl) (by kernel_rfl) (by kernel_rfl) (by kernel_rfl) (fun _ _ _ h => h) HSS.out (by rfl) ?_ ?_
        rotate_left
        · intro w hSw; obtain ⟨y0, y1, y2, y3, y4, y5, y6, y7, y8, y9, y10⟩ := hSw.pcells; go_simp; try with_reducible rfl
        simp only [Act.put, List.getElem_toArray, List.getElem_cons_zero, List.getElem_cons_succ, List.setIfInBounds_toArray, List.set_cons_zero, List.set_cons_succ]
        refine wpAnyT_load (i := 1) (v := ?_) rfl (by kernel_rfl) (by kernel_rfl) (by kernel_rfl) (by kernel_rfl) (by kernel_rfl) (fun _ _ _ h => h) HSS.out (by rfl) ?_ ?_
        rotate_left
        · intro w hSw; obtain ⟨y0, y1, y2, y3, y4, y5, y6, y7, y8, y9, y10⟩ := hSw.pcells; go_simp; try with_reducible rfl
        simp only [Act.put, List.getElem_toArray, List.getElem_cons_zero, List.getElem_cons_succ, List.setIfInBounds_toArray, List.set_cons_zero, List.set_cons_succ]
        refine wpAnyT_load (i := 2) (v := ?_) rfl (by kernel_rfl) (by kernel_rfl) (by kernel_rfl) (by kernel_rfl) (by kernel_rfl) (fun _ _ _ h => h) HSS.out (by rfl) ?_ ?_
        rotate_left
        · intro w hSw; obtain ⟨y0, y1, y2, y3, y4, y5, y6, y7, y8, y9, y10⟩ := hSw.pcells; go_simp; try with_reducible rfl
        simp only [Act.put, List.getElem_toArray, List.getElem_cons_zero, List.getElem_cons_succ, List.setIfInBounds_toArray, List.set_cons_zero, List.set_cons_succ]
        refine wpAnyT_load (i := 3) (v := ?_) rfl (by kernel_rfl) (by kernel_rfl) (by kernel_rfl) (by kernel_rfl) (by kernel_rfl) (fun _ _ _ h => h) HSS.out (by rfl) ?_ ?_
        rotate_left
        · intro w hSw; obtain ⟨y0, y1, y2, y3, y4, y5, y6, y7, y8, y9, y10⟩ := hSw.pcells; go_simp; try with_reducible rfl
        simp only [Act.put, List.getElem_toArray, List.getElem_cons_zero, List.getElem_cons_succ, List.setIfInBounds_toArray, List.set_cons_zero, List.set_cons_succ]
        refine wpAnyT_load (i := 4) (v := ?_) rfl (by kernel_rfl) (by kernel_rfl) (by kernel_rfl) (by kernel_rfl) (by kernel_rfl) (fun _ _ _ h => h) HSS.out (by rfl) ?_ ?_
        rotate_left
        · intro w hSw; obtain ⟨y0, y1, y2, y3, y4, y5, y6, y7, y8, y9, y10⟩ := hSw.pcells; go_simp; try with_reducible rfl
        simp only [Act.put, List.getElem_toArray, List.getElem_cons_zero, List.getElem_cons_succ, List.setIfInBounds_toArray, List.set_cons_zero, List.set_cons_succ]
        refine wpAnyT_load (i := 5) (v := ?_) rfl (by kernel_rfl) (by kernel_rfl) (by kernel_rfl) (by kernel_rfl) (by kernel_rfl) (fun _ _ _ h => h) HSS.out (by rfl) ?_ ?_
        rotate_left
        · intro w hSw; obtain ⟨y0, y1, y2, y3, y4, y5, y6, y7, y8, y9, y10⟩ := hSw.pcells; go_simp; try with_reducible rfl
        simp only [Act.put, List.getElem_toArray, List.getElem_cons_zero, List.getElem_cons_succ, List.setIfInBounds_toArray, List.set_cons_zero, List.set_cons_succ]
        refine wpAnyT_load (i := 6) (v := ?_) rfl (by kernel_rfl) (by kernel_rfl) (by kernel_rfl) (by kernel_rfl) (by kernel_rfl) (fun _ _ _ h => h) HSS.out (by rfl) ?_ ?_
        rotate_left
        · intro w hSw; obtain ⟨y0, y1, y2, y3, y4, y5, y6, y7, y8, y9, y10⟩ := hSw.pcells; go_simp; try with_reducible rfl
        simp only [Act.put, List.getElem_toArray, List.getElem_cons_zero, List.getElem_cons_succ, List.setIfInBounds_toArray, List.set_cons_zero, List.set_cons_succ]
        refine wpAnyT_one (i := 7) (by kernel_rfl) rfl (fun K hK => ?_)
        rw [if_pos (by rfl)]
        go_simp
        refine (RAdd_any _ _ _).mono ?_
        rintro e wz ⟨rfl, rfl⟩
        go_simp
        refine hK.out _ _ (fun _ => HSS.out) ?_
        clear hK K
        simp only [Act.put, List.getElem_toArray, List.getElem_cons_zero, List.getElem_cons_succ, List.setIfInBounds_toArray, List.set_cons_zero, List.set_cons_succ]
        refine wpAnyT_load (i := 8) (v := ?_) rfl (by kernel_rfl) (by kernel_rfl) (by kernel_rfl) (by kernel_rfl) (by kernel_rfl) (fun _ _ _ h => h) HSS.out (by rfl) ?_ ?_
        rotate_left
        · intro w hSw; obtain ⟨y0, y1, y2, y3, y4, y5, y6, y7, y8, y9, y10⟩ := hSw.pcells; go_simp; try with_reducible rfl
        simp only [Act.put, List.getElem_toArray, List.getElem_cons_zero, List.getElem_cons_succ, List.setIfInBounds_toArray, List.set_cons_zero, List.set_cons_succ]
        refine wpAnyT_load (i := 9) (v := ?_) rfl (by kernel_rfl) (by kernel_rfl) (by kernel_rfl) (by kernel_rfl) (by kernel_rfl) (fun _ _ _ h => h) HSS.out (by rfl) ?_ ?_
        rotate_left
        · intro w hSw; obtain ⟨y0, y1, y2, y3, y4, y5, y6, y7, y8, y9, y10⟩ := hSw.pcells; go_simp; try with_reducible rfl
        simp only [Act.put, List.getElem_toArray, List.getElem_cons_zero, List.getElem_cons_succ, List.setIfInBounds_toArray, List.set_cons_zero, List.set_cons_succ]
        refine wpAnyT_load (i := 10) (v := ?_) rfl (by kernel_rfl) (by kernel_rfl) (by kernel_rfl) (by kernel_rfl) (by kernel_rfl) (fun _ _ _ h => h) HSS.out (by rfl) ?_ ?_
        rotate_left
        · intro w hSw; obtain ⟨y0, y1, y2, y3, y4, y5, y6, y7, y8, y9, y10⟩ := hSw.pcells; go_simp; try with_reducible rfl
        simp only [Act.put, List.getElem_toArray, List.getElem_cons_zero, List.getElem_cons_succ, List.setIfInBounds_toArray, List.set_cons_zero, List.set_cons_succ]
        refine wpAnyT_load (i := 11) (v := ?_) rfl (by kernel_rfl) (by kernel_rfl) (by kernel_rfl) (by kernel_rfl) (by kernel_rfl) (fun _ _ _ h => h) HSS.out (by rfl) ?_ ?_
        rotate_left
        · intro w hSw; obtain ⟨y0, y1, y2, y3, y4, y5, y6, y7, y8, y9, y10⟩ := hSw.pcells; go_simp; try with_reducible rfl
        simp only [Act.put, List.getElem_toArray, List.getElem_cons_zero, List.getElem_cons_succ, List.setIfInBounds_toArray, List.set_cons_zero, List.set_cons_succ]
        refine wpAnyT_load (i := 12) (v := ?_) rfl (by kernel_rfl) (by kernel_rfl) (by kernel_rfl) (by kernel_rfl) (by kernel_rfl) (fun _ _ _ h => h) HSS.out (by rfl) ?_ ?_
        rotate_left
        · intro w hSw; obtain ⟨y0, y1, y2, y3, y4, y5, y6, y7, y8, y9, y10⟩ := hSw.pcells; go_simp; try with_reducible rfl
        simp only [Act.put, List.getElem_toArray, List.getElem_cons_zero, List.getElem_cons_succ, List.setIfInBounds_toArray, List.set_cons_zero, List.set_cons_succ]
        refine wpAnyT_load (i := 13) (v := ?_) rfl (by kernel_rfl) (by kernel_rfl) (by kernel_rfl) (by kernel_rfl) (by kernel_rfl) (fun _ _ _ h => h) HSS.out (by rfl) ?_ ?_
        rotate_left
        · intro w hSw; obtain ⟨y0, y1, y2, y3, y4, y5, y6, y7, y8, y9, y10⟩ := hSw.pcells; go_simp; try with_reducible rfl
        simp only [Act.put, List.getElem_toArray, List.getElem_cons_zero, List.getElem_cons_succ, List.setIfInBounds_toArray, List.set_cons_zero, List.set_cons_succ]
        refine wpAnyT_load (i := 14) (v := ?_) rfl (by kernel_rfl) (by kernel_rfl) (by kernel_rfl) (by kernel_rfl) (by kernel_rfl) (fun _ _ _ h => h) HSS.out (by rfl) ?_ ?_
        rotate_left
        · intro w hSw; obtain ⟨y0, y1, y2, y3, y4, y5, y6, y7, y8, y9, y10⟩ := hSw.pcells; go_simp; try with_reducible rfl
        simp only [Act.put, List.getElem_toArray, List.getElem_cons_zero, List.getElem_cons_succ, List.setIfInBounds_toArray, List.set_cons_zero, List.set_cons_succ]
        refine wpAnyT_load (i := 15) (v := ?_) rfl (by kernel_rfl) (by kernel_rfl) (by kernel_rfl) (by kernel_rfl) (by kernel_rfl) (fun _ _ _ h => h) HSS.out (by rfl) ?_ ?_
        rotate_left
        · intro w hSw; obtain ⟨y0, y1, y2, y3, y4, y5, y6, y7, y8, y9, y10⟩ := hSw.pcells; go_simp; try with_reducible rfl
        simp only [Act.put, List.getElem_toArray, List.getElem_cons_zero, List.getElem_cons_succ, List.setIfInBounds_toArray, List.set_cons_zero, List.set_cons_succ]
        refine wpAnyT_load (i := 16) (v := ?_) rfl (by kernel_rfl) (by kernel_rfl) (by kernel_rfl) (by kernel_rfl) (by kernel_rfl) (fun _ _ _ h => h) HSS.out (by rfl) ?_ ?_
        rotate_left
        · intro w hSw; obtain ⟨y0, y1, y2, y3, y4, y5, y6, y7, y8, y9, y10⟩ := hSw.pcells; go_simp; try with_reducible rfl
        simp only [Act.put, List.getElem_toArray, List.getElem_cons_zero, List.getElem_cons_succ, List.setIfInBounds_toArray, List.set_cons_zero, List.set_cons_succ]
        refine wpAnyT_load (i := 17) (v := ?_) rfl (by kernel_rfl) (by kernel_rfl) (by kernel_rfl) (by kernel_rfl) (by kernel_rfl) (fun _ _ _ h => h) HSS.out (by rfl) ?_ ?_
        rotate_left
        · intro w hSw; obtain ⟨y0, y1, y2, y3, y4, y5, y6, y7, y8, y9, y10⟩ := hSw.pcells; go_simp; try with_reducible rfl
        simp only [Act.put, List.getElem_toArray, List.getElem_cons_zero, List.getElem_cons_succ, List.setIfInBounds_toArray, List.set_cons_zero, List.set_cons_succ]
        refine wpAnyT_load (i := 18) (v := ?_) rfl (by kernel_rfl) (by kernel_rfl) (by kernel_rfl) (by kernel_rfl) (by kernel_rfl) (fun _ _ _ h => h) HSS.out (by rfl) ?_ ?_
        rotate_left
        · intro w hSw; obtain ⟨y0, y1, y2, y3, y4, y5, y6, y7, y8, y9, y10⟩ := hSw.pcells; go_simp; try with_reducible rfl
        simp only [Act.put, List.getElem_toArray, List.getElem_cons_zero, List.getElem_cons_succ, List.setIfInBounds_toArray, List.set_cons_zero, List.set_cons_succ]
        refine wpAnyT_load (i := 19) (v := ?_) rfl (by kernel_rfl) (by kernel_rfl) (by kernel_rfl) (by kernel_rfl) (by kernel_rfl) (fun _ _ _ h => h) HSS.out (by rfl) ?_ ?_
        rotate_left
        · intro w hSw; obtain ⟨y0, y1, y2, y3, y4, y5, y6, y7, y8, y9, y10⟩ := hSw.pcells; go_simp; try with_reducible rfl
        simp only [Act.put, List.getElem_toArray, List.getElem_cons_zero, List.getElem_cons_succ, List.setIfInBounds_toArray, List.set_cons_zero, List.set_cons_succ]
        refine wpAnyT_load (i := 20) (v := ?_) rfl (by kernel_rfl) (by kernel_rfl) (by kernel_rfl) (by kernel_rfl) (by kernel_rfl) (fun _ _ _ h => h) HSS.out (by rfl) ?_ ?_
        rotate_left
        · intro w hSw; obtain ⟨y0, y1, y2, y3, y4, y5, y6, y7, y8, y9, y10⟩ := hSw.pcells; go_simp; try with_reducible rfl
        simp only [Act.put, List.getElem_toArray, List.getElem_cons_zero, List.getElem_cons_succ, List.setIfInBounds_toArray, List.set_cons_zero, List.set_cons_succ]
        refine wpAnyT_done (by kernel_rfl) ?_ _
        clear HSS
        have hAw := HAW.out
        cases ho : M.opn with
        | true =>
          have hc0 := (HK.out.opn ho).2.2
          have h0c : (((M.cnt : Nat) : Int) == 0) = false := by simp; omega
          have t3 := HK.out.far ho p
          have c3A := (HA.out.cell 3).trans HCA.out.2; have c3B := (HB.out.cell 3).trans HCB.out.2
          obtain ⟨x0, x1, x2, x3, x4, x5, x6, x7, x8, x9, x10⟩ := HPX.out.pcells
          obtain ⟨y0, y1, y2, y3, y4, y5, y6, y7, y8, y9, y10⟩ := HQX.out.pcells
          go_upto_region 27 with (fail)
          clear ho hc0
          clear t3 h0c c3A c3B x0 x1 x2 x3 x4 x5 x6 x7 x8 x9 x10 y0 y1 y2 y3 y4 y5 y6 y7 y8 y9 y10
          refine wp_region_T (fun w' => Box w' T 67 (pc p.marker p.pt p.seq.toNat p.ts.toNat p.ssrc.toNat (.slice b1 p.csrc.length k1) p.hasExt p.profile.toNat (.slice b2 p.ext.length k2) (.slice b3 p.payload.length k3) (.slice b4 p.pad.length k4)) ∧ Box w' U 67 (pc (M.out p).marker (M.out p).pt (M.out p).seq.toNat (M.out p).ts.toNat (M.out p).ssrc.toNat (.slice g1 (M.out p).csrc.length m1) (M.out p).hasExt (M.out p).profile.toNat (.slice g2 (M.out p).ext.length m2) (.slice g3 (M.out p).payload.length m3) (.slice g4 (M.out p).pad.length m4))) [] 4 #[false, false, false, false] (by kernel_rfl) rfl rfl ?_
          have hF := (Fr.refl [] wd).drew
          have HM := Lib.hid (HM.out.keep hF); have HA := Lib.hid (HA.out.keep hF); have HB := Lib.hid (HB.out.keep hF); have HO := Lib.hid (HO.out.keep hF); have HF := Lib.hid (HF.out.trans hF); have HVp := Lib.hid (HVp.out.keep hF); have HVq := Lib.hid (HVq.out.keep hF); have HPX := Lib.hid (HPX.out.keep hF); have HQX := Lib.hid (HQX.out.keep hF)
          have HSS := Lib.hid (And.intro HPX.out HQX.out)
          have hUl : U < wd.drew.heap.size := by simp; omega
          clear hF
          generalize wd.drew = we at *
          refine wpAnyT_load (i := 0) (v := ?_) rfl (by kernel_rfl) (by kernel_rfl) (by kernel_rfl) (by kernel_rfl) (by kernel_rfl) (fun _ _ _ h => h) HSS.out (by rfl) ?_ ?_
          rotate_left
          · intro w hSw; refine run_load_row 67 (.tmp 20) ?_ T ?_ 67 _ _ hSw.1 Try.underlying67 rfl (by kernel_rfl) <;> rfl
          simp only [Act.put, List.getElem_toArray, List.getElem_cons_zero, List.getElem_cons_succ, List.setIfInBounds_toArray, List.set_cons_zero, List.set_cons_succ]
          refine wpAnyT_load (i := 1) (v := ?_) rfl (by kernel_rfl) (by kernel_rfl) (by kernel_rfl) (by kernel_rfl) (by kernel_rfl) (fun _ _ _ h => h) HSS.out (by rfl) ?_ ?_
          rotate_left
          · intro w hSw; refine run_load_row 67 (.tmp 22) ?_ U ?_ 67 _ _ hSw.2 Try.underlying67 rfl (by kernel_rfl) <;> rfl
          simp only [Act.put, List.getElem_toArray, List.getElem_cons_zero, List.getElem_cons_succ, List.setIfInBounds_toArray, List.set_cons_zero, List.set_cons_succ]
          refine wpAnyT_one (i := 2) (by kernel_rfl) rfl (fun K hK => ?_)
          refine wp_store_row rfl 67 (.tmp 13) (.tmp 132) rfl A rfl _ _ rfl 67 HA.out (by kernel_rfl) (by rw [HCA.out.1]; rfl) (oneCell_pc _ _ _ _ _ _ _ _ _ _ _ ⟨_, _, _, rfl⟩ ⟨_, _, _, rfl⟩ ⟨_, _, _, rfl⟩ ⟨_, _, _, rfl⟩) ?_
          intro wf hY hG
          have HPXn := Lib.hid (HPX.out.fr hG (by simp; omega)); have HQXn := Lib.hid (HQX.out.fr hG (by simp; omega))
          refine hK.out _ _ (fun _ => ⟨HPXn.out, HQXn.out⟩) ?_
          clear hK K
          simp only [Act.put, List.getElem_toArray, List.getElem_cons_zero, List.getElem_cons_succ, List.setIfInBounds_toArray, List.set_cons_zero, List.set_cons_succ]
          have HM := Lib.hid (HM.out.fr hG (by simp; omega)); have HB := Lib.hid (HB.out.fr hG (by simp; try omega)); have HVp := Lib.hid (HVp.out.fr hG (by simp; omega)); have HVq := Lib.hid (HVq.out.fr hG (by simp; omega))
          have HF := Lib.hid (HF.out.step hG (fun x hx => by simp at hx; subst hx; exact .inr (by have := HAW.out; have := HAA.out; omega)))
          have HA := Lib.hid hY; have HPX := HPXn; have HQX := HQXn
          clear hY hG HPXn HQXn
          refine wpAnyT_one (i := 3) (by kernel_rfl) rfl (fun K hK => ?_)
          refine wp_store_row rfl 67 (.tmp 14) (.tmp 133) rfl (A + 1) rfl _ _ rfl 67 HB.out (by kernel_rfl) (by rw [HCB.out.1]; rfl) (oneCell_pc _ _ _ _ _ _ _ _ _ _ _ ⟨_, _, _, rfl⟩ ⟨_, _, _, rfl⟩ ⟨_, _, _, rfl⟩ ⟨_, _, _, rfl⟩) ?_
          intro wg hY hG
          have HPXn := Lib.hid (HPX.out.fr hG (by simp; omega)); have HQXn := Lib.hid (HQX.out.fr hG (by simp; omega))
          refine hK.out _ _ (fun _ => ⟨HPXn.out, HQXn.out⟩) ?_
          clear hK K
          simp only [Act.put, List.getElem_toArray, List.getElem_cons_zero, List.getElem_cons_succ, List.setIfInBounds_toArray, List.set_cons_zero, List.set_cons_succ]
          have HM := Lib.hid (HM.out.fr hG (by simp; omega)); have HA := Lib.hid (HA.out.fr hG (by simp; try omega)); have HVp := Lib.hid (HVp.out.fr hG (by simp; omega)); have HVq := Lib.hid (HVq.out.fr hG (by simp; omega))
          have HF := Lib.hid (HF.out.step hG (fun x hx => by simp at hx; subst hx; exact .inr (by have := HAW.out; have := HAA.out; omega)))
          have HB := Lib.hid hY; have HPX := HPXn; have HQX := HQXn
          clear hY hG HPXn HQXn
          refine wpAnyT_done (by kernel_rfl) ?_ _
          clear HSS
          go_upto_region 28 with (fail)
          refine wp_region_T (fun w' => Box w' U 67 (pc (M.out p).marker (M.out p).pt (M.out p).seq.toNat (M.out p).ts.toNat (M.out p).ssrc.toNat (.slice g1 (M.out p).csrc.length m1) (M.out p).hasExt (M.out p).profile.toNat (.slice g2 (M.out p).ext.length m2) (.slice g3 (M.out p).payload.length m3) (.slice g4 (M.out p).pad.length m4))) [] 16 #[false, false, false, false, false, false, false, false, false, false, false, false, false, false, false, false] (by kernel_rfl) rfl rfl ?_
          have hF := (Fr.refl [] wg).drew
          have HM := Lib.hid (HM.out.keep hF); have HA := Lib.hid (HA.out.keep hF); have HB := Lib.hid (HB.out.keep hF); have HF := Lib.hid (HF.out.trans hF); have HVp := Lib.hid (HVp.out.keep hF); have HVq := Lib.hid (HVq.out.keep hF); have HPX := Lib.hid (HPX.out.keep hF); have HQX := Lib.hid (HQX.out.keep hF)
          have HSS := HQX
          clear hF
          generalize wg.drew = wh at *
          refine wpAnyT_load (i := 0) (v := ?_) rfl (by kernel_rfl) (by kernel_rfl) (by kernel_rfl) (by kernel_rfl) (by kernel_rfl) (fun _ _ _ h => h) HSS.out (by rfl) ?_ ?_
          rotate_left
          · intro w hSw; obtain ⟨y0, y1, y2, y3, y4, y5, y6, y7, y8, y9, y10⟩ := hSw.pcells; go_simp; try with_reducible rfl
          simp only [Act.put, List.getElem_toArray, List.getElem_cons_zero, List.getElem_cons_succ, List.setIfInBounds_toArray, List.set_cons_zero, List.set_cons_succ]
          refine wpAnyT_load (i := 1) (v := ?_) rfl (by kernel_rfl) (by kernel_rfl) (by kernel_rfl) (by kernel_rfl) (by kernel_rfl) (fun _ _ _ h => h) HSS.out (by rfl) ?_ ?_
          rotate_left
          · intro w hSw; obtain ⟨y0, y1, y2, y3, y4, y5, y6, y7, y8, y9, y10⟩ := hSw.pcells; go_simp; try with_reducible rfl
          simp only [Act.put, List.getElem_toArray, List.getElem_cons_zero, List.getElem_cons_succ, List.setIfInBounds_toArray, List.set_cons_zero, List.set_cons_succ]
          refine wpAnyT_load (i := 2) (v := ?_) rfl (by kernel_rfl) (by kernel_rfl) (by kernel_rfl) (by kernel_rfl) (by kernel_rfl) (fun _ _ _ h => h) HSS.out (by rfl) ?_ ?_
          rotate_left
          · intro w hSw; obtain ⟨y0, y1, y2, y3, y4, y5, y6, y7, y8, y9, y10⟩ := hSw.pcells; go_simp; try with_reducible rfl
          simp only [Act.put, List.getElem_toArray, List.getElem_cons_zero, List.getElem_cons_succ, List.setIfInBounds_toArray, List.set_cons_zero, List.set_cons_succ]
          refine wpAnyT_load (i := 3) (v := ?_) rfl (by kernel_rfl) (by kernel_rfl) (by kernel_rfl) (by kernel_rfl) (by kernel_rfl) (fun _ _ _ h => h) HSS.out (by rfl) ?_ ?_
          rotate_left
          · intro w hSw; obtain ⟨y0, y1, y2, y3, y4, y5, y6, y7, y8, y9, y10⟩ := hSw.pcells; go_simp; try with_reducible rfl
          simp only [Act.put, List.getElem_toArray, List.getElem_cons_zero, List.getElem_cons_succ, List.setIfInBounds_toArray, List.set_cons_zero, List.set_cons_succ]
          refine wpAnyT_load (i := 4) (v := ?_) rfl (by kernel_rfl) (by kernel_rfl) (by kernel_rfl) (by kernel_rfl) (by kernel_rfl) (fun _ _ _ h => h) HSS.out (by rfl) ?_ ?_
          rotate_left
          · intro w hSw; obtain ⟨y0, y1, y2, y3, y4, y5, y6, y7, y8, y9, y10⟩ := hSw.pcells; go_simp; try with_reducible rfl
          simp only [Act.put, List.getElem_toArray, List.getElem_cons_zero, List.getElem_cons_succ, List.setIfInBounds_toArray, List.set_cons_zero, List.set_cons_succ]
          refine wpAnyT_load (i := 5) (v := ?_) rfl (by kernel_rfl) (by kernel_rfl) (by kernel_rfl) (by kernel_rfl) (by kernel_rfl) (fun _ _ _ h => h) HSS.out (by rfl) ?_ ?_
          rotate_left
          · intro w hSw; obtain ⟨y0, y1, y2, y3, y4, y5, y6, y7, y8, y9, y10⟩ := hSw.pcells; go_simp; try with_reducible rfl
          simp only [Act.put, List.getElem_toArray, List.getElem_cons_zero, List.getElem_cons_succ, List.setIfInBounds_toArray, List.set_cons_zero, List.set_cons_succ]
          refine wpAnyT_load (i := 6) (v := ?_) rfl (by kernel_rfl) (by kernel_rfl) (by kernel_rfl) (by kernel_rfl) (by kernel_rfl) (fun _ _ _ h => h) HSS.out (by rfl) ?_ ?_
          rotate_left
          · intro w hSw; obtain ⟨y0, y1, y2, y3, y4, y5, y6, y7, y8, y9, y10⟩ := hSw.pcells; go_simp; try with_reducible rfl
          simp only [Act.put, List.getElem_toArray, List.getElem_cons_zero, List.getElem_cons_succ, List.setIfInBounds_toArray, List.set_cons_zero, List.set_cons_succ]
          refine wpAnyT_load (i := 7) (v := ?_) rfl (by kernel_rfl) (by kernel_rfl) (by kernel_rfl) (by kernel_rfl) (by kernel_rfl) (fun _ _ _ h => h) HSS.out (by rfl) ?_ ?_
          rotate_left
          · intro w hSw; obtain ⟨y0, y1, y2, y3, y4, y5, y6, y7, y8, y9, y10⟩ := hSw.pcells; go_simp; try with_reducible rfl
          simp only [Act.put, List.getElem_toArray, List.getElem_cons_zero, List.getElem_cons_succ, List.setIfInBounds_toArray, List.set_cons_zero, List.set_cons_succ]
          refine wpAnyT_load (i := 8) (v := ?_) rfl (by kernel_rfl) (by kernel_rfl) (by kernel_rfl) (by kernel_rfl) (by kernel_rfl) (fun _ _ _ h => h) HSS.out (by rfl) ?_ ?_
          rotate_left
          · intro w hSw; obtain ⟨y0, y1, y2, y3, y4, y5, y6, y7, y8, y9, y10⟩ := hSw.pcells; go_simp; try with_reducible rfl
          simp only [Act.put, List.getElem_toArray, List.getElem_cons_zero, List.getElem_cons_succ, List.setIfInBounds_toArray, List.set_cons_zero, List.set_cons_succ]
          have hFr := HPX.out.free 2; have hCl := HPX.out.cell 2
          simp only [pc, List.getElem?_toArray, List.getElem?_cons_succ, List.getElem?_cons_zero, List.setIfInBounds_toArray, List.set_cons_zero, List.set_cons_succ] at hCl
          obtain ⟨wn, en, hF, hPn, -⟩ := set_new HPX.out 2 (.int .u16 ((M.out p).seq.toNat : Nat))
          simp only [pc, List.setIfInBounds_toArray, List.set_cons_zero, List.set_cons_succ] at hPn
          have HQn := Lib.hid (HQX.out.fr hF (by simp; omega))
          refine wpAnyT_one (i := 9) (by kernel_rfl) rfl (fun K hK => ?_)
          rw [if_pos (by rfl)]
          go_simp
          refine hK.out _ _ (fun _ => HQn.out) ?_
          clear hK K
          simp only [Act.put, List.getElem_toArray, List.getElem_cons_zero, List.getElem_cons_succ, List.setIfInBounds_toArray, List.set_cons_zero, List.set_cons_succ]
          have HM := Lib.hid (HM.out.fr hF (by simp; omega)); have HA := Lib.hid (HA.out.fr hF (by simp; omega)); have HB := Lib.hid (HB.out.fr hF (by simp; omega)); have HVp := Lib.hid (HVp.out.frB HBp.out hF); have HVq := Lib.hid (HVq.out.fr hF (by simp; omega))
          have HF := Lib.hid (HF.out.step hF (fun x hx => by simp at hx; subst hx; exact .inr (by have := HAW.out; have := HAA.out; omega)))
          have HPX := Lib.hid hPn; have HQX := HQn; have HSS := HQX
          clear HQn hPn hF hFr hCl en
          refine wpAnyT_load (i := 10) (v := ?_) rfl (by kernel_rfl) (by kernel_rfl) (by kernel_rfl) (by kernel_rfl) (by kernel_rfl) (fun _ _ _ h => h) HSS.out (by rfl) ?_ ?_
          rotate_left
          · intro w hSw; obtain ⟨y0, y1, y2, y3, y4, y5, y6, y7, y8, y9, y10⟩ := hSw.pcells; go_simp; try with_reducible rfl
          simp only [Act.put, List.getElem_toArray, List.getElem_cons_zero, List.getElem_cons_succ, List.setIfInBounds_toArray, List.set_cons_zero, List.set_cons_succ]
          have hFr := HPX.out.free 3; have hCl := HPX.out.cell 3
          simp only [pc, List.getElem?_toArray, List.getElem?_cons_succ, List.getElem?_cons_zero, List.setIfInBounds_toArray, List.set_cons_zero, List.set_cons_succ] at hCl
          obtain ⟨wn, en, hF, hPn, -⟩ := set_new HPX.out 3 (.int .u32 ((M.out p).ts.toNat : Nat))
          simp only [pc, List.setIfInBounds_toArray, List.set_cons_zero, List.set_cons_succ] at hPn
          have HQn := Lib.hid (HQX.out.fr hF (by simp; omega))
          refine wpAnyT_one (i := 11) (by kernel_rfl) rfl (fun K hK => ?_)
          rw [if_pos (by rfl)]
          go_simp
          refine hK.out _ _ (fun _ => HQn.out) ?_
          clear hK K
          simp only [Act.put, List.getElem_toArray, List.getElem_cons_zero, List.getElem_cons_succ, List.setIfInBounds_toArray, List.set_cons_zero, List.set_cons_succ]
          have HM := Lib.hid (HM.out.fr hF (by simp; omega)); have HA := Lib.hid (HA.out.fr hF (by simp; omega)); have HB := Lib.hid (HB.out.fr hF (by simp; omega)); have HVp := Lib.hid (HVp.out.frB HBp.out hF); have HVq := Lib.hid (HVq.out.fr hF (by simp; omega))
          have HF := Lib.hid (HF.out.step hF (fun x hx => by simp at hx; subst hx; exact .inr (by have := HAW.out; have := HAA.out; omega)))
          have HPX := Lib.hid hPn; have HQX := HQn; have HSS := HQX
          clear HQn hPn hF hFr hCl en
          refine wpAnyT_load (i := 12) (v := ?_) rfl (by kernel_rfl) (by kernel_rfl) (by kernel_rfl) (by kernel_rfl) (by kernel_rfl) (fun _ _ _ h => h) HSS.out (by rfl) ?_ ?_
          rotate_left
          · intro w hSw; obtain ⟨y0, y1, y2, y3, y4, y5, y6, y7, y8, y9, y10⟩ := hSw.pcells; go_simp; try with_reducible rfl
          simp only [Act.put, List.getElem_toArray, List.getElem_cons_zero, List.getElem_cons_succ, List.setIfInBounds_toArray, List.set_cons_zero, List.set_cons_succ]
          have hFr := HPX.out.free 4; have hCl := HPX.out.cell 4
          simp only [pc, List.getElem?_toArray, List.getElem?_cons_succ, List.getElem?_cons_zero, List.setIfInBounds_toArray, List.set_cons_zero, List.set_cons_succ] at hCl
          obtain ⟨wn, en, hF, hPn, -⟩ := set_new HPX.out 4 (.int .u32 ((M.out p).ssrc.toNat : Nat))
          simp only [pc, List.setIfInBounds_toArray, List.set_cons_zero, List.set_cons_succ] at hPn
          have HQn := Lib.hid (HQX.out.fr hF (by simp; omega))
          refine wpAnyT_one (i := 13) (by kernel_rfl) rfl (fun K hK => ?_)
          rw [if_pos (by rfl)]
          go_simp
          refine hK.out _ _ (fun _ => HQn.out) ?_
          clear hK K
          simp only [Act.put, List.getElem_toArray, List.getElem_cons_zero, List.getElem_cons_succ, List.setIfInBounds_toArray, List.set_cons_zero, List.set_cons_succ]
          have HM := Lib.hid (HM.out.fr hF (by simp; omega)); have HA := Lib.hid (HA.out.fr hF (by simp; omega)); have HB := Lib.hid (HB.out.fr hF (by simp; omega)); have HVp := Lib.hid (HVp.out.frB HBp.out hF); have HVq := Lib.hid (HVq.out.fr hF (by simp; omega))
          have HF := Lib.hid (HF.out.step hF (fun x hx => by simp at hx; subst hx; exact .inr (by have := HAW.out; have := HAA.out; omega)))
          have HPX := Lib.hid hPn; have HQX := HQn; have HSS := HQX
          clear HQn hPn hF hFr hCl en
          refine wpAnyT_load (i := 14) (v := ?_) rfl (by kernel_rfl) (by kernel_rfl) (by kernel_rfl) (by kernel_rfl) (by kernel_rfl) (fun _ _ _ h => h) HSS.out (by rfl) ?_ ?_
          rotate_left
          · intro w hSw; obtain ⟨y0, y1, y2, y3, y4, y5, y6, y7, y8, y9, y10⟩ := hSw.pcells; go_simp; try with_reducible rfl
          simp only [Act.put, List.getElem_toArray, List.getElem_cons_zero, List.getElem_cons_succ, List.setIfInBounds_toArray, List.set_cons_zero, List.set_cons_succ]
          have hFr := HPX.out.free 1; have hCl := HPX.out.cell 1
          simp only [pc, List.getElem?_toArray, List.getElem?_cons_succ, List.getElem?_cons_zero, List.setIfInBounds_toArray, List.set_cons_zero, List.set_cons_succ] at hCl
          obtain ⟨wn, en, hF, hPn, -⟩ := set_new HPX.out 1 (.int .i64 (M.out p).pt)
          simp only [pc, List.setIfInBounds_toArray, List.set_cons_zero, List.set_cons_succ] at hPn
          have HQn := Lib.hid (HQX.out.fr hF (by simp; omega))
          refine wpAnyT_one (i := 15) (by kernel_rfl) rfl (fun K hK => ?_)
          rw [if_pos (by rfl)]
          go_simp
          refine hK.out _ _ (fun _ => HQn.out) ?_
          clear hK K
          simp only [Act.put, List.getElem_toArray, List.getElem_cons_zero, List.getElem_cons_succ, List.setIfInBounds_toArray, List.set_cons_zero, List.set_cons_succ]
          have HM := Lib.hid (HM.out.fr hF (by simp; omega)); have HA := Lib.hid (HA.out.fr hF (by simp; omega)); have HB := Lib.hid (HB.out.fr hF (by simp; omega)); have HVp := Lib.hid (HVp.out.frB HBp.out hF); have HVq := Lib.hid (HVq.out.fr hF (by simp; omega))
          have HF := Lib.hid (HF.out.step hF (fun x hx => by simp at hx; subst hx; exact .inr (by have := HAW.out; have := HAA.out; omega)))
          have HPX := Lib.hid hPn; have HQX := HQn; have HSS := HQX
          clear HQn hPn hF hFr hCl en
          refine wpAnyT_done (by kernel_rfl) ?_ _
          clear HSS
          have HVt := Lib.hid (HVp.out.turn (M.out p).seq (M.out p).ts (M.out p).ssrc (M.out p).pt)
          go_wp2_with (first | (refine wpList_load_row rfl 67 (.tmp 20) rfl T rfl 67 _ _ _ HPX.out Try.underlying67 rfl (by kernel_rfl) ?_) | (refine wpList_load_row rfl 67 (.tmp 22) rfl U rfl 67 _ _ _ HQX.out Try.underlying67 rfl (by kernel_rfl) ?_))
          refine (R5Same_eq (p := M.out p) HVt.out HVq.out (Pkt.fit HWO.out).sm).mono ?_
          rintro e wz ⟨rfl, hF⟩
          have HM := Lib.hid (HM.out.keep hF); have HA := Lib.hid (HA.out.keep hF); have HB := Lib.hid (HB.out.keep hF); have HF := Lib.hid (HF.out.trans hF)
          clear hF HVp HVq HVt HPX HQX
          have hcn := HK.out.ok.ct
          have HKN := Lib.hid (HK.out.next_ (by omega) p)
          have HON := Lib.hid (RMap.step_opn M p)
          go_wp2_with fail
          go_roundw
          case rel => exact ⟨j + 1, M.step_ p, _, _, p.ts, (M.out p).ts, by omega, by go_num, by rw [HON.out], by go_num, HKN.out, HM.out, HA.out, ⟨rfl, rfl⟩, HB.out, ⟨rfl, rfl⟩, HF.out⟩
          case measure => simp [intOf]; omega
        | false =>
          by_cases hc0 : M.cnt = 0
          · have h0c : (((M.cnt : Nat) : Int) == 0) = true := by simp; omega
            have h0d : ¬ (0 : Int) < ((M.cnt : Nat) : Int) := by omega
            have h1 := (HK.out.first_ hc0 p).1
            have t3 : ((((M.out p).ts.toNat : Nat) : Int) != ((ts.toNat : Nat) : Int)) = false := by rw [h1]; simp
            clear h1 hc0
            have c3A := (HA.out.cell 3).trans HCA.out.2; have c3B := (HB.out.cell 3).trans HCB.out.2
            obtain ⟨x0, x1, x2, x3, x4, x5, x6, x7, x8, x9, x10⟩ := HPX.out.pcells
            obtain ⟨y0, y1, y2, y3, y4, y5, y6, y7, y8, y9, y10⟩ := HQX.out.pcells
            go_upto_region 27 with (fail)
            clear ho h0d
            clear t3 h0c c3A c3B x0 x1 x2 x3 x4 x5 x6 x7 x8 x9 x10 y0 y1 y2 y3 y4 y5 y6 y7 y8 y9 y10
            refine wp_region_T (fun w' => Box w' T 67 (pc p.marker p.pt p.seq.toNat p.ts.toNat p.ssrc.toNat (.slice b1 p.csrc.length k1) p.hasExt p.profile.toNat (.slice b2 p.ext.length k2) (.slice b3 p.payload.length k3) (.slice b4 p.pad.length k4)) ∧ Box w' U 67 (pc (M.out p).marker (M.out p).pt (M.out p).seq.toNat (M.out p).ts.toNat (M.out p).ssrc.toNat (.slice g1 (M.out p).csrc.length m1) (M.out p).hasExt (M.out p).profile.toNat (.slice g2 (M.out p).ext.length m2) (.slice g3 (M.out p).payload.length m3) (.slice g4 (M.out p).pad.length m4))) [] 4 #[false, false, false, false] (by kernel_rfl) rfl rfl ?_
            have hF := (Fr.refl [] wd).drew
            have HM := Lib.hid (HM.out.keep hF); have HA := Lib.hid (HA.out.keep hF); have HB := Lib.hid (HB.out.keep hF); have HO := Lib.hid (HO.out.keep hF); have HF := Lib.hid (HF.out.trans hF); have HVp := Lib.hid (HVp.out.keep hF); have HVq := Lib.hid (HVq.out.keep hF); have HPX := Lib.hid (HPX.out.keep hF); have HQX := Lib.hid (HQX.out.keep hF)
            have HSS := Lib.hid (And.intro HPX.out HQX.out)
            have hUl : U < wd.drew.heap.size := by simp; omega
            clear hF
            generalize wd.drew = we at *
            refine wpAnyT_load (i := 0) (v := ?_) rfl (by kernel_rfl) (by kernel_rfl) (by kernel_rfl) (by kernel_rfl) (by kernel_rfl) (fun _ _ _ h => h) HSS.out (by rfl) ?_ ?_
            rotate_left
            · intro w hSw; refine run_load_row 67 (.tmp 20) ?_ T ?_ 67 _ _ hSw.1 Try.underlying67 rfl (by kernel_rfl) <;> rfl
            simp only [Act.put, List.getElem_toArray, List.getElem_cons_zero, List.getElem_cons_succ, List.setIfInBounds_toArray, List.set_cons_zero, List.set_cons_succ]
            refine wpAnyT_load (i := 1) (v := ?_) rfl (by kernel_rfl) (by kernel_rfl) (by kernel_rfl) (by kernel_rfl) (by kernel_rfl) (fun _ _ _ h => h) HSS.out (by rfl) ?_ ?_
            rotate_left
            · intro w hSw; refine run_load_row 67 (.tmp 22) ?_ U ?_ 67 _ _ hSw.2 Try.underlying67 rfl (by kernel_rfl) <;> rfl
            simp only [Act.put, List.getElem_toArray, List.getElem_cons_zero, List.getElem_cons_succ, List.setIfInBounds_toArray, List.set_cons_zero, List.set_cons_succ]
            refine wpAnyT_one (i := 2) (by kernel_rfl) rfl (fun K hK => ?_)
            refine wp_store_row rfl 67 (.tmp 13) (.tmp 132) rfl A rfl _ _ rfl 67 HA.out (by kernel_rfl) (by rw [HCA.out.1]; rfl) (oneCell_pc _ _ _ _ _ _ _ _ _ _ _ ⟨_, _, _, rfl⟩ ⟨_, _, _, rfl⟩ ⟨_, _, _, rfl⟩ ⟨_, _, _, rfl⟩) ?_
            intro wf hY hG
            have HPXn := Lib.hid (HPX.out.fr hG (by simp; omega)); have HQXn := Lib.hid (HQX.out.fr hG (by simp; omega))
            refine hK.out _ _ (fun _ => ⟨HPXn.out, HQXn.out⟩) ?_
            clear hK K
            simp only [Act.put, List.getElem_toArray, List.getElem_cons_zero, List.getElem_cons_succ, List.setIfInBounds_toArray, List.set_cons_zero, List.set_cons_succ]
            have HM := Lib.hid (HM.out.fr hG (by simp; omega)); have HB := Lib.hid (HB.out.fr hG (by simp; try omega)); have HVp := Lib.hid (HVp.out.fr hG (by simp; omega)); have HVq := Lib.hid (HVq.out.fr hG (by simp; omega))
            have HF := Lib.hid (HF.out.step hG (fun x hx => by simp at hx; subst hx; exact .inr (by have := HAW.out; have := HAA.out; omega)))
            have HA := Lib.hid hY; have HPX := HPXn; have HQX := HQXn
            clear hY hG HPXn HQXn
            refine wpAnyT_one (i := 3) (by kernel_rfl) rfl (fun K hK => ?_)
            refine wp_store_row rfl 67 (.tmp 14) (.tmp 133) rfl (A + 1) rfl _ _ rfl 67 HB.out (by kernel_rfl) (by rw [HCB.out.1]; rfl) (oneCell_pc _ _ _ _ _ _ _ _ _ _ _ ⟨_, _, _, rfl⟩ ⟨_, _, _, rfl⟩ ⟨_, _, _, rfl⟩ ⟨_, _, _, rfl⟩) ?_
            intro wg hY hG
            have HPXn := Lib.hid (HPX.out.fr hG (by simp; omega)); have HQXn := Lib.hid (HQX.out.fr hG (by simp; omega))
            refine hK.out _ _ (fun _ => ⟨HPXn.out, HQXn.out⟩) ?_
            clear hK K
            simp only [Act.put, List.getElem_toArray, List.getElem_cons_zero, List.getElem_cons_succ, List.setIfInBounds_toArray, List.set_cons_zero, List.set_cons_succ]
            have HM := Lib.hid (HM.out.fr hG (by simp; omega)); have HA := Lib.hid (HA.out.fr hG (by simp; try omega)); have HVp := Lib.hid (HVp.out.fr hG (by simp; omega)); have HVq := Lib.hid (HVq.out.fr hG (by simp; omega))
            have HF := Lib.hid (HF.out.step hG (fun x hx => by simp at hx; subst hx; exact .inr (by have := HAW.out; have := HAA.out; omega)))
            have HB := Lib.hid hY; have HPX := HPXn; have HQX := HQXn
            clear hY hG HPXn HQXn
            refine wpAnyT_done (by kernel_rfl) ?_ _
            clear HSS
            go_upto_region 28 with (fail)
            refine wp_region_T (fun w' => Box w' U 67 (pc (M.out p).marker (M.out p).pt (M.out p).seq.toNat (M.out p).ts.toNat (M.out p).ssrc.toNat (.slice g1 (M.out p).csrc.length m1) (M.out p).hasExt (M.out p).profile.toNat (.slice g2 (M.out p).ext.length m2) (.slice g3 (M.out p).payload.length m3) (.slice g4 (M.out p).pad.length m4))) [] 16 #[false, false, false, false, false, false, false, false, false, false, false, false, false, false, false, false] (by kernel_rfl) rfl rfl ?_
            have hF := (Fr.refl [] wg).drew
            have HM := Lib.hid (HM.out.keep hF); have HA := Lib.hid (HA.out.keep hF); have HB := Lib.hid (HB.out.keep hF); have HF := Lib.hid (HF.out.trans hF); have HVp := Lib.hid (HVp.out.keep hF); have HVq := Lib.hid (HVq.out.keep hF); have HPX := Lib.hid (HPX.out.keep hF); have HQX := Lib.hid (HQX.out.keep hF)
            have HSS := HQX
            clear hF
            generalize wg.drew = wh at *
            refine wpAnyT_load (i := 0) (v := ?_) rfl (by kernel_rfl) (by kernel_rfl) (by kernel_rfl) (by kernel_rfl) (by kernel_rfl) (fun _ _ _ h => h) HSS.out (by rfl) ?_ ?_
            rotate_left
            · intro w hSw; obtain ⟨y0, y1, y2, y3, y4, y5, y6, y7, y8, y9, y10⟩ := hSw.pcells; go_simp; try with_reducible rfl
            simp only [Act.put, List.getElem_toArray, List.getElem_cons_zero, List.getElem_cons_succ, List.setIfInBounds_toArray, List.set_cons_zero, List.set_cons_succ]
            refine wpAnyT_load (i := 1) (v := ?_) rfl (by kernel_rfl) (by kernel_rfl) (by kernel_rfl) (by kernel_rfl) (by kernel_rfl) (fun _ _ _ h => h) HSS.out (by rfl) ?_ ?_
            rotate_left
            · intro w hSw; obtain ⟨y0, y1, y2, y3, y4, y5, y6, y7, y8, y9, y10⟩ := hSw.pcells; go_simp; try with_reducible rfl
            simp only [Act.put, List.getElem_toArray, List.getElem_cons_zero, List.getElem_cons_succ, List.setIfInBounds_toArray, List.set_cons_zero, List.set_cons_succ]
            refine wpAnyT_load (i := 2) (v := ?_) rfl (by kernel_rfl) (by kernel_rfl) (by kernel_rfl) (by kernel_rfl) (by kernel_rfl) (fun _ _ _ h => h) HSS.out (by rfl) ?_ ?_
            rotate_left
            · intro w hSw; obtain ⟨y0, y1, y2, y3, y4, y5, y6, y7, y8, y9, y10⟩ := hSw.pcells; go_simp; try with_reducible rfl
            simp only [Act.put, List.getElem_toArray, List.getElem_cons_zero, List.getElem_cons_succ, List.setIfInBounds_toArray, List.set_cons_zero, List.set_cons_succ]
            refine wpAnyT_load (i := 3) (v := ?_) rfl (by kernel_rfl) (by kernel_rfl) (by kernel_rfl) (by kernel_rfl) (by kernel_rfl) (fun _ _ _ h => h) HSS.out (by rfl) ?_ ?_
            rotate_left
            · intro w hSw; obtain ⟨y0, y1, y2, y3, y4, y5, y6, y7, y8, y9, y10⟩ := hSw.pcells; go_simp; try with_reducible rfl
            simp only [Act.put, List.getElem_toArray, List.getElem_cons_zero, List.getElem_cons_succ, List.setIfInBounds_toArray, List.set_cons_zero, List.set_cons_succ]
            refine wpAnyT_load (i := 4) (v := ?_) rfl (by kernel_rfl) (by kernel_rfl) (by kernel_rfl) (by kernel_rfl) (by kernel_rfl) (fun _ _ _ h => h) HSS.out (by rfl) ?_ ?_
            rotate_left
            · intro w hSw; obtain ⟨y0, y1, y2, y3, y4, y5, y6, y7, y8, y9, y10⟩ := hSw.pcells; go_simp; try with_reducible rfl
            simp only [Act.put, List.getElem_toArray, List.getElem_cons_zero, List.getElem_cons_succ, List.setIfInBounds_toArray, List.set_cons_zero, List.set_cons_succ]
            refine wpAnyT_load (i := 5) (v := ?_) rfl (by kernel_rfl) (by kernel_rfl) (by kernel_rfl) (by kernel_rfl) (by kernel_rfl) (fun _ _ _ h => h) HSS.out (by rfl) ?_ ?_
            rotate_left
            · intro w hSw; obtain ⟨y0, y1, y2, y3, y4, y5, y6, y7, y8, y9, y10⟩ := hSw.pcells; go_simp; try with_reducible rfl
            simp only [Act.put, List.getElem_toArray, List.getElem_cons_zero, List.getElem_cons_succ, List.setIfInBounds_toArray, List.set_cons_zero, List.set_cons_succ]
            refine wpAnyT_load (i := 6) (v := ?_) rfl (by kernel_rfl) (by kernel_rfl) (by kernel_rfl) (by kernel_rfl) (by kernel_rfl) (fun _ _ _ h => h) HSS.out (by rfl) ?_ ?_
            rotate_left
            · intro w hSw; obtain ⟨y0, y1, y2, y3, y4, y5, y6, y7, y8, y9, y10⟩ := hSw.pcells; go_simp; try with_reducible rfl
            simp only [Act.put, List.getElem_toArray, List.getElem_cons_zero, List.getElem_cons_succ, List.setIfInBounds_toArray, List.set_cons_zero, List.set_cons_succ]
            refine wpAnyT_load (i := 7) (v := ?_) rfl (by kernel_rfl) (by kernel_rfl) (by kernel_rfl) (by kernel_rfl) (by kernel_rfl) (fun _ _ _ h => h) HSS.out (by rfl) ?_ ?_
            rotate_left
            · intro w hSw; obtain ⟨y0, y1, y2, y3, y4, y5, y6, y7, y8, y9, y10⟩ := hSw.pcells; go_simp; try with_reducible rfl
            simp only [Act.put, List.getElem_toArray, List.getElem_cons_zero, List.getElem_cons_succ, List.setIfInBounds_toArray, List.set_cons_zero, List.set_cons_succ]
            refine wpAnyT_load (i := 8) (v := ?_) rfl (by kernel_rfl) (by kernel_rfl) (by kernel_rfl) (by kernel_rfl) (by kernel_rfl) (fun _ _ _ h => h) HSS.out (by rfl) ?_ ?_
            rotate_left
            · intro w hSw; obtain ⟨y0, y1, y2, y3, y4, y5, y6, y7, y8, y9, y10⟩ := hSw.pcells; go_simp; try with_reducible rfl
            simp only [Act.put, List.getElem_toArray, List.getElem_cons_zero, List.getElem_cons_succ, List.setIfInBounds_toArray, List.set_cons_zero, List.set_cons_succ]
            have hFr := HPX.out.free 2; have hCl := HPX.out.cell 2
            simp only [pc, List.getElem?_toArray, List.getElem?_cons_succ, List.getElem?_cons_zero, List.setIfInBounds_toArray, List.set_cons_zero, List.set_cons_succ] at hCl
            obtain ⟨wn, en, hF, hPn, -⟩ := set_new HPX.out 2 (.int .u16 ((M.out p).seq.toNat : Nat))
            simp only [pc, List.setIfInBounds_toArray, List.set_cons_zero, List.set_cons_succ] at hPn
            have HQn := Lib.hid (HQX.out.fr hF (by simp; omega))
            refine wpAnyT_one (i := 9) (by kernel_rfl) rfl (fun K hK => ?_)
            rw [if_pos (by rfl)]
            go_simp
            refine hK.out _ _ (fun _ => HQn.out) ?_
            clear hK K
            simp only [Act.put, List.getElem_toArray, List.getElem_cons_zero, List.getElem_cons_succ, List.setIfInBounds_toArray, List.set_cons_zero, List.set_cons_succ]
            have HM := Lib.hid (HM.out.fr hF (by simp; omega)); have HA := Lib.hid (HA.out.fr hF (by simp; omega)); have HB := Lib.hid (HB.out.fr hF (by simp; omega)); have HVp := Lib.hid (HVp.out.frB HBp.out hF); have HVq := Lib.hid (HVq.out.fr hF (by simp; omega))
            have HF := Lib.hid (HF.out.step hF (fun x hx => by simp at hx; subst hx; exact .inr (by have := HAW.out; have := HAA.out; omega)))
            have HPX := Lib.hid hPn; have HQX := HQn; have HSS := HQX
            clear HQn hPn hF hFr hCl en
            refine wpAnyT_load (i := 10) (v := ?_) rfl (by kernel_rfl) (by kernel_rfl) (by kernel_rfl) (by kernel_rfl) (by kernel_rfl) (fun _ _ _ h => h) HSS.out (by rfl) ?_ ?_
            rotate_left
            · intro w hSw; obtain ⟨y0, y1, y2, y3, y4, y5, y6, y7, y8, y9, y10⟩ := hSw.pcells; go_simp; try with_reducible rfl
            simp only [Act.put, List.getElem_toArray, List.getElem_cons_zero, List.getElem_cons_succ, List.setIfInBounds_toArray, List.set_cons_zero, List.set_cons_succ]
            have hFr := HPX.out.free 3; have hCl := HPX.out.cell 3
            simp only [pc, List.getElem?_toArray, List.getElem?_cons_succ, List.getElem?_cons_zero, List.setIfInBounds_toArray, List.set_cons_zero, List.set_cons_succ] at hCl
            obtain ⟨wn, en, hF, hPn, -⟩ := set_new HPX.out 3 (.int .u32 ((M.out p).ts.toNat : Nat))
            simp only [pc, List.setIfInBounds_toArray, List.set_cons_zero, List.set_cons_succ] at hPn
            have HQn := Lib.hid (HQX.out.fr hF (by simp; omega))
            refine wpAnyT_one (i := 11) (by kernel_rfl) rfl (fun K hK => ?_)
            rw [if_pos (by rfl)]
            go_simp
            refine hK.out _ _ (fun _ => HQn.out) ?_
            clear hK K
            simp only [Act.put, List.getElem_toArray, List.getElem_cons_zero, List.getElem_cons_succ, List.setIfInBounds_toArray, List.set_cons_zero, List.set_cons_succ]
            have HM := Lib.hid (HM.out.fr hF (by simp; omega)); have HA := Lib.hid (HA.out.fr hF (by simp; omega)); have HB := Lib.hid (HB.out.fr hF (by simp; omega)); have HVp := Lib.hid (HVp.out.frB HBp.out hF); have HVq := Lib.hid (HVq.out.fr hF (by simp; omega))
            have HF := Lib.hid (HF.out.step hF (fun x hx => by simp at hx; subst hx; exact .inr (by have := HAW.out; have := HAA.out; omega)))
            have HPX := Lib.hid hPn; have HQX := HQn; have HSS := HQX
            clear HQn hPn hF hFr hCl en
            refine wpAnyT_load (i := 12) (v := ?_) rfl (by kernel_rfl) (by kernel_rfl) (by kernel_rfl) (by kernel_rfl) (by kernel_rfl) (fun _ _ _ h => h) HSS.out (by rfl) ?_ ?_
            rotate_left
            · intro w hSw; obtain ⟨y0, y1, y2, y3, y4, y5, y6, y7, y8, y9, y10⟩ := hSw.pcells; go_simp; try with_reducible rfl
            simp only [Act.put, List.getElem_toArray, List.getElem_cons_zero, List.getElem_cons_succ, List.setIfInBounds_toArray, List.set_cons_zero, List.set_cons_succ]
            have hFr := HPX.out.free 4; have hCl := HPX.out.cell 4
            simp only [pc, List.getElem?_toArray, List.getElem?_cons_succ, List.getElem?_cons_zero, List.setIfInBounds_toArray, List.set_cons_zero, List.set_cons_succ] at hCl
            obtain ⟨wn, en, hF, hPn, -⟩ := set_new HPX.out 4 (.int .u32 ((M.out p).ssrc.toNat : Nat))
            simp only [pc, List.setIfInBounds_toArray, List.set_cons_zero, List.set_cons_succ] at hPn
            have HQn := Lib.hid (HQX.out.fr hF (by simp; omega))
            refine wpAnyT_one (i := 13) (by kernel_rfl) rfl (fun K hK => ?_)
            rw [if_pos (by rfl)]
            go_simp
            refine hK.out _ _ (fun _ => HQn.out) ?_
            clear hK K
            simp only [Act.put, List.getElem_toArray, List.getElem_cons_zero, List.getElem_cons_succ, List.setIfInBounds_toArray, List.set_cons_zero, List.set_cons_succ]
            have HM := Lib.hid (HM.out.fr hF (by simp; omega)); have HA := Lib.hid (HA.out.fr hF (by simp; omega)); have HB := Lib.hid (HB.out.fr hF (by simp; omega)); have HVp := Lib.hid (HVp.out.frB HBp.out hF); have HVq := Lib.hid (HVq.out.fr hF (by simp; omega))
            have HF := Lib.hid (HF.out.step hF (fun x hx => by simp at hx; subst hx; exact .inr (by have := HAW.out; have := HAA.out; omega)))
            have HPX := Lib.hid hPn; have HQX := HQn; have HSS := HQX
            clear HQn hPn hF hFr hCl en
            refine wpAnyT_load (i := 14) (v := ?_) rfl (by kernel_rfl) (by kernel_rfl) (by kernel_rfl) (by kernel_rfl) (by kernel_rfl) (fun _ _ _ h => h) HSS.out (by rfl) ?_ ?_
            rotate_left
            · intro w hSw; obtain ⟨y0, y1, y2, y3, y4, y5, y6, y7, y8, y9, y10⟩ := hSw.pcells; go_simp; try with_reducible rfl
            simp only [Act.put, List.getElem_toArray, List.getElem_cons_zero, List.getElem_cons_succ, List.setIfInBounds_toArray, List.set_cons_zero, List.set_cons_succ]
            have hFr := HPX.out.free 1; have hCl := HPX.out.cell 1
            simp only [pc, List.getElem?_toArray, List.getElem?_cons_succ, List.getElem?_cons_zero, List.setIfInBounds_toArray, List.set_cons_zero, List.set_cons_succ] at hCl
            obtain ⟨wn, en, hF, hPn, -⟩ := set_new HPX.out 1 (.int .i64 (M.out p).pt)
            simp only [pc, List.setIfInBounds_toArray, List.set_cons_zero, List.set_cons_succ] at hPn
            have HQn := Lib.hid (HQX.out.fr hF (by simp; omega))
            refine wpAnyT_one (i := 15) (by kernel_rfl) rfl (fun K hK => ?_)
            rw [if_pos (by rfl)]
            go_simp
            refine hK.out _ _ (fun _ => HQn.out) ?_
            clear hK K
            simp only [Act.put, List.getElem_toArray, List.getElem_cons_zero, List.getElem_cons_succ, List.setIfInBounds_toArray, List.set_cons_zero, List.set_cons_succ]
            have HM := Lib.hid (HM.out.fr hF (by simp; omega)); have HA := Lib.hid (HA.out.fr hF (by simp; omega)); have HB := Lib.hid (HB.out.fr hF (by simp; omega)); have HVp := Lib.hid (HVp.out.frB HBp.out hF); have HVq := Lib.hid (HVq.out.fr hF (by simp; omega))
            have HF := Lib.hid (HF.out.step hF (fun x hx => by simp at hx; subst hx; exact .inr (by have := HAW.out; have := HAA.out; omega)))
            have HPX := Lib.hid hPn; have HQX := HQn; have HSS := HQX
            clear HQn hPn hF hFr hCl en
            refine wpAnyT_done (by kernel_rfl) ?_ _
            clear HSS
            have HVt := Lib.hid (HVp.out.turn (M.out p).seq (M.out p).ts (M.out p).ssrc (M.out p).pt)
            go_wp2_with (first | (refine wpList_load_row rfl 67 (.tmp 20) rfl T rfl 67 _ _ _ HPX.out Try.underlying67 rfl (by kernel_rfl) ?_) | (refine wpList_load_row rfl 67 (.tmp 22) rfl U rfl 67 _ _ _ HQX.out Try.underlying67 rfl (by kernel_rfl) ?_))
            refine (R5Same_eq (p := M.out p) HVt.out HVq.out (Pkt.fit HWO.out).sm).mono ?_
            rintro e wz ⟨rfl, hF⟩
            have HM := Lib.hid (HM.out.keep hF); have HA := Lib.hid (HA.out.keep hF); have HB := Lib.hid (HB.out.keep hF); have HF := Lib.hid (HF.out.trans hF)
            clear hF HVp HVq HVt HPX HQX
            have hcn := HK.out.ok.ct
            have HKN := Lib.hid (HK.out.next_ (by omega) p)
            have HON := Lib.hid (RMap.step_opn M p)
            go_wp2_with fail
            go_roundw
            case rel => exact ⟨j + 1, M.step_ p, _, _, p.ts, (M.out p).ts, by omega, by go_num, by rw [HON.out], by go_num, HKN.out, HM.out, HA.out, ⟨rfl, rfl⟩, HB.out, ⟨rfl, rfl⟩, HF.out⟩
            case measure => simp [intOf]; omega
          · have hc1 : 0 < M.cnt := by omega
            have h0c : (((M.cnt : Nat) : Int) == 0) = false := by simp; omega
            have h0d : (0 : Int) < ((M.cnt : Nat) : Int) := by omega
            have t3 := HK.out.gap hc1 ho p
            clear hc0 hc1
            have c3A := (HA.out.cell 3).trans HCA.out.2; have c3B := (HB.out.cell 3).trans HCB.out.2
            obtain ⟨x0, x1, x2, x3, x4, x5, x6, x7, x8, x9, x10⟩ := HPX.out.pcells
            obtain ⟨y0, y1, y2, y3, y4, y5, y6, y7, y8, y9, y10⟩ := HQX.out.pcells
            rcases Int.lt_or_le stp 0 with hs1 | hs1
            · rw [show clampI stp 0 2147483647 = 0 by unfold clampI; rw [if_pos hs1]] at t3
              go_upto_region 27 with (fail)
              clear ho h0d hs1
              clear t3 h0c c3A c3B x0 x1 x2 x3 x4 x5 x6 x7 x8 x9 x10 y0 y1 y2 y3 y4 y5 y6 y7 y8 y9 y10
              refine wp_region_T (fun w' => Box w' T 67 (pc p.marker p.pt p.seq.toNat p.ts.toNat p.ssrc.toNat (.slice b1 p.csrc.length k1) p.hasExt p.profile.toNat (.slice b2 p.ext.length k2) (.slice b3 p.payload.length k3) (.slice b4 p.pad.length k4)) ∧ Box w' U 67 (pc (M.out p).marker (M.out p).pt (M.out p).seq.toNat (M.out p).ts.toNat (M.out p).ssrc.toNat (.slice g1 (M.out p).csrc.length m1) (M.out p).hasExt (M.out p).profile.toNat (.slice g2 (M.out p).ext.length m2) (.slice g3 (M.out p).payload.length m3) (.slice g4 (M.out p).pad.length m4))) [] 4 #[false, false, false, false] (by kernel_rfl) rfl rfl ?_
              have hF := (Fr.refl [] wd).drew
              have HM := Lib.hid (HM.out.keep hF); have HA := Lib.hid (HA.out.keep hF); have HB := Lib.hid (HB.out.keep hF); have HO := Lib.hid (HO.out.keep hF); have HF := Lib.hid (HF.out.trans hF); have HVp := Lib.hid (HVp.out.keep hF); have HVq := Lib.hid (HVq.out.keep hF); have HPX := Lib.hid (HPX.out.keep hF); have HQX := Lib.hid (HQX.out.keep hF)
              have HSS := Lib.hid (And.intro HPX.out HQX.out)
              have hUl : U < wd.drew.heap.size := by simp; omega
              clear hF
              generalize wd.drew = we at *
              refine wpAnyT_load (i := 0) (v := ?_) rfl (by kernel_rfl) (by kernel_rfl) (by kernel_rfl) (by kernel_rfl) (by kernel_rfl) (fun _ _ _ h => h) HSS.out (by rfl) ?_ ?_
              rotate_left
              · intro w hSw; refine run_load_row 67 (.tmp 20) ?_ T ?_ 67 _ _ hSw.1 Try.underlying67 rfl (by kernel_rfl) <;> rfl
              simp only [Act.put, List.getElem_toArray, List.getElem_cons_zero, List.getElem_cons_succ, List.setIfInBounds_toArray, List.set_cons_zero, List.set_cons_succ]
              refine wpAnyT_load (i := 1) (v := ?_) rfl (by kernel_rfl) (by kernel_rfl) (by kernel_rfl) (by kernel_rfl) (by kernel_rfl) (fun _ _ _ h => h) HSS.out (by rfl) ?_ ?_
              rotate_left
              · intro w hSw; refine run_load_row 67 (.tmp 22) ?_ U ?_ 67 _ _ hSw.2 Try.underlying67 rfl (by kernel_rfl) <;> rfl
              simp only [Act.put, List.getElem_toArray, List.getElem_cons_zero, List.getElem_cons_succ, List.setIfInBounds_toArray, List.set_cons_zero, List.set_cons_succ]
              refine wpAnyT_one (i := 2) (by kernel_rfl) rfl (fun K hK => ?_)
              refine wp_store_row rfl 67 (.tmp 13) (.tmp 132) rfl A rfl _ _ rfl 67 HA.out (by kernel_rfl) (by rw [HCA.out.1]; rfl) (oneCell_pc _ _ _ _ _ _ _ _ _ _ _ ⟨_, _, _, rfl⟩ ⟨_, _, _, rfl⟩ ⟨_, _, _, rfl⟩ ⟨_, _, _, rfl⟩) ?_
              intro wf hY hG
              have HPXn := Lib.hid (HPX.out.fr hG (by simp; omega)); have HQXn := Lib.hid (HQX.out.fr hG (by simp; omega))
              refine hK.out _ _ (fun _ => ⟨HPXn.out, HQXn.out⟩) ?_
              clear hK K
              simp only [Act.put, List.getElem_toArray, List.getElem_cons_zero, List.getElem_cons_succ, List.setIfInBounds_toArray, List.set_cons_zero, List.set_cons_succ]
              have HM := Lib.hid (HM.out.fr hG (by simp; omega)); have HB := Lib.hid (HB.out.fr hG (by simp; try omega)); have HVp := Lib.hid (HVp.out.fr hG (by simp; omega)); have HVq := Lib.hid (HVq.out.fr hG (by simp; omega))
              have HF := Lib.hid (HF.out.step hG (fun x hx => by simp at hx; subst hx; exact .inr (by have := HAW.out; have := HAA.out; omega)))
              have HA := Lib.hid hY; have HPX := HPXn; have HQX := HQXn
              clear hY hG HPXn HQXn
              refine wpAnyT_one (i := 3) (by kernel_rfl) rfl (fun K hK => ?_)
              refine wp_store_row rfl 67 (.tmp 14) (.tmp 133) rfl (A + 1) rfl _ _ rfl 67 HB.out (by kernel_rfl) (by rw [HCB.out.1]; rfl) (oneCell_pc _ _ _ _ _ _ _ _ _ _ _ ⟨_, _, _, rfl⟩ ⟨_, _, _, rfl⟩ ⟨_, _, _, rfl⟩ ⟨_, _, _, rfl⟩) ?_
              intro wg hY hG
              have HPXn := Lib.hid (HPX.out.fr hG (by simp; omega)); have HQXn := Lib.hid (HQX.out.fr hG (by simp; omega))
              refine hK.out _ _ (fun _ => ⟨HPXn.out, HQXn.out⟩) ?_
              clear hK K
              simp only [Act.put, List.getElem_toArray, List.getElem_cons_zero, List.getElem_cons_succ, List.setIfInBounds_toArray, List.set_cons_zero, List.set_cons_succ]
              have HM := Lib.hid (HM.out.fr hG (by simp; omega)); have HA := Lib.hid (HA.out.fr hG (by simp; try omega)); have HVp := Lib.hid (HVp.out.fr hG (by simp; omega)); have HVq := Lib.hid (HVq.out.fr hG (by simp; omega))
              have HF := Lib.hid (HF.out.step hG (fun x hx => by simp at hx; subst hx; exact .inr (by have := HAW.out; have := HAA.out; omega)))
              have HB := Lib.hid hY; have HPX := HPXn; have HQX := HQXn
              clear hY hG HPXn HQXn
              refine wpAnyT_done (by kernel_rfl) ?_ _
              clear HSS
              go_upto_region 28 with (fail)
              refine wp_region_T (fun w' => Box w' U 67 (pc (M.out p).marker (M.out p).pt (M.out p).seq.toNat (M.out p).ts.toNat (M.out p).ssrc.toNat (.slice g1 (M.out p).csrc.length m1) (M.out p).hasExt (M.out p).profile.toNat (.slice g2 (M.out p).ext.length m2) (.slice g3 (M.out p).payload.length m3) (.slice g4 (M.out p).pad.length m4))) [] 16 #[false, false, false, false, false, false, false, false, false, false, false, false, false, false, false, false] (by kernel_rfl) rfl rfl ?_
              have hF := (Fr.refl [] wg).drew
              have HM := Lib.hid (HM.out.keep hF); have HA := Lib.hid (HA.out.keep hF); have HB := Lib.hid (HB.out.keep hF); have HF := Lib.hid (HF.out.trans hF); have HVp := Lib.hid (HVp.out.keep hF); have HVq := Lib.hid (HVq.out.keep hF); have HPX := Lib.hid (HPX.out.keep hF); have HQX := Lib.hid (HQX.out.keep hF)
              have HSS := HQX
              clear hF
              generalize wg.drew = wh at *
              refine wpAnyT_load (i := 0) (v := ?_) rfl (by kernel_rfl) (by kernel_rfl) (by kernel_rfl) (by kernel_rfl) (by kernel_rfl) (fun _ _ _ h => h) HSS.out (by rfl) ?_ ?_
              rotate_left
              · intro w hSw; obtain ⟨y0, y1, y2, y3, y4, y5, y6, y7, y8, y9, y10⟩ := hSw.pcells; go_simp; try with_reducible rfl
              simp only [Act.put, List.getElem_toArray, List.getElem_cons_zero, List.getElem_cons_succ, List.setIfInBounds_toArray, List.set_cons_zero, List.set_cons_succ]
              refine wpAnyT_load (i := 1) (v := ?_) rfl (by kernel_rfl) (by kernel_rfl) (by kernel_rfl) (by kernel_rfl) (by kernel_rfl) (fun _ _ _ h => h) HSS.out (by rfl) ?_ ?_
              rotate_left
              · intro w hSw; obtain ⟨y0, y1, y2, y3, y4, y5, y6, y7, y8, y9, y10⟩ := hSw.pcells; go_simp; try with_reducible rfl
              simp only [Act.put, List.getElem_toArray, List.getElem_cons_zero, List.getElem_cons_succ, List.setIfInBounds_toArray, List.set_cons_zero, List.set_cons_succ]
              refine wpAnyT_load (i := 2) (v := ?_) rfl (by kernel_rfl) (by kernel_rfl) (by kernel_rfl) (by kernel_rfl) (by kernel_rfl) (fun _ _ _ h => h) HSS.out (by rfl) ?_ ?_
              rotate_left
              · intro w hSw; obtain ⟨y0, y1, y2, y3, y4, y5, y6, y7, y8, y9, y10⟩ := hSw.pcells; go_simp; try with_reducible rfl
              simp only [Act.put, List.getElem_toArray, List.getElem_cons_zero, List.getElem_cons_succ, List.setIfInBounds_toArray, List.set_cons_zero, List.set_cons_succ]
              refine wpAnyT_load (i := 3) (v := ?_) rfl (by kernel_rfl) (by kernel_rfl) (by kernel_rfl) (by kernel_rfl) (by kernel_rfl) (fun _ _ _ h => h) HSS.out (by rfl) ?_ ?_
              rotate_left
              · intro w hSw; obtain ⟨y0, y1, y2, y3, y4, y5, y6, y7, y8, y9, y10⟩ := hSw.pcells; go_simp; try with_reducible rfl
              simp only [Act.put, List.getElem_toArray, List.getElem_cons_zero, List.getElem_cons_succ, List.setIfInBounds_toArray, List.set_cons_zero, List.set_cons_succ]
              refine wpAnyT_load (i := 4) (v := ?_) rfl (by kernel_rfl) (by kernel_rfl) (by kernel_rfl) (by kernel_rfl) (by kernel_rfl) (fun _ _ _ h => h) HSS.out (by rfl) ?_ ?_
              rotate_left
              · intro w hSw; obtain ⟨y0, y1, y2, y3, y4, y5, y6, y7, y8, y9, y10⟩ := hSw.pcells; go_simp; try with_reducible rfl
              simp only [Act.put, List.getElem_toArray, List.getElem_cons_zero, List.getElem_cons_succ, List.setIfInBounds_toArray, List.set_cons_zero, List.set_cons_succ]
              refine wpAnyT_load (i := 5) (v := ?_) rfl (by kernel_rfl) (by kernel_rfl) (by kernel_rfl) (by kernel_rfl) (by kernel_rfl) (fun _ _ _ h => h) HSS.out (by rfl) ?_ ?_
              rotate_left
              · intro w hSw; obtain ⟨y0, y1, y2, y3, y4, y5, y6, y7, y8, y9, y10⟩ := hSw.pcells; go_simp; try with_reducible rfl
              simp only [Act.put, List.getElem_toArray, List.getElem_cons_zero, List.getElem_cons_succ, List.setIfInBounds_toArray, List.set_cons_zero, List.set_cons_succ]
              refine wpAnyT_load (i := 6) (v := ?_) rfl (by kernel_rfl) (by kernel_rfl) (by kernel_rfl) (by kernel_rfl) (by kernel_rfl) (fun _ _ _ h => h) HSS.out (by rfl) ?_ ?_
              rotate_left
              · intro w hSw; obtain ⟨y0, y1, y2, y3, y4, y5, y6, y7, y8, y9, y10⟩ := hSw.pcells; go_simp; try with_reducible rfl
              simp only [Act.put, List.getElem_toArray, List.getElem_cons_zero, List.getElem_cons_succ, List.setIfInBounds_toArray, List.set_cons_zero, List.set_cons_succ]
              refine wpAnyT_load (i := 7) (v := ?_) rfl (by kernel_rfl) (by kernel_rfl) (by kernel_rfl) (by kernel_rfl) (by kernel_rfl) (fun _ _ _ h => h) HSS.out (by rfl) ?_ ?_
              rotate_left
              · intro w hSw; obtain ⟨y0, y1, y2, y3, y4, y5, y6, y7, y8, y9, y10⟩ := hSw.pcells; go_simp; try with_reducible rfl
              simp only [Act.put, List.getElem_toArray, List.getElem_cons_zero, List.getElem_cons_succ, List.setIfInBounds_toArray, List.set_cons_zero, List.set_cons_succ]
              refine wpAnyT_load (i := 8) (v := ?_) rfl (by kernel_rfl) (by kernel_rfl) (by kernel_rfl) (by kernel_rfl) (by kernel_rfl) (fun _ _ _ h => h) HSS.out (by rfl) ?_ ?_
              rotate_left
              · intro w hSw; obtain ⟨y0, y1, y2, y3, y4, y5, y6, y7, y8, y9, y10⟩ := hSw.pcells; go_simp; try with_reducible rfl
              simp only [Act.put, List.getElem_toArray, List.getElem_cons_zero, List.getElem_cons_succ, List.setIfInBounds_toArray, List.set_cons_zero, List.set_cons_succ]
              have hFr := HPX.out.free 2; have hCl := HPX.out.cell 2
              simp only [pc, List.getElem?_toArray, List.getElem?_cons_succ, List.getElem?_cons_zero, List.setIfInBounds_toArray, List.set_cons_zero, List.set_cons_succ] at hCl
              obtain ⟨wn, en, hF, hPn, -⟩ := set_new HPX.out 2 (.int .u16 ((M.out p).seq.toNat : Nat))
              simp only [pc, List.setIfInBounds_toArray, List.set_cons_zero, List.set_cons_succ] at hPn
              have HQn := Lib.hid (HQX.out.fr hF (by simp; omega))
              refine wpAnyT_one (i := 9) (by kernel_rfl) rfl (fun K hK => ?_)
              rw [if_pos (by rfl)]
              go_simp
              refine hK.out _ _ (fun _ => HQn.out) ?_
              clear hK K
              simp only [Act.put, List.getElem_toArray, List.getElem_cons_zero, List.getElem_cons_succ, List.setIfInBounds_toArray, List.set_cons_zero, List.set_cons_succ]
              have HM := Lib.hid (HM.out.fr hF (by simp; omega)); have HA := Lib.hid (HA.out.fr hF (by simp; omega)); have HB := Lib.hid (HB.out.fr hF (by simp; omega)); have HVp := Lib.hid (HVp.out.frB HBp.out hF); have HVq := Lib.hid (HVq.out.fr hF (by simp; omega))
              have HF := Lib.hid (HF.out.step hF (fun x hx => by simp at hx; subst hx; exact .inr (by have := HAW.out; have := HAA.out; omega)))
              have HPX := Lib.hid hPn; have HQX := HQn; have HSS := HQX
              clear HQn hPn hF hFr hCl en
              refine wpAnyT_load (i := 10) (v := ?_) rfl (by kernel_rfl) (by kernel_rfl) (by kernel_rfl) (by kernel_rfl) (by kernel_rfl) (fun _ _ _ h => h) HSS.out (by rfl) ?_ ?_
              rotate_left
              · intro w hSw; obtain ⟨y0, y1, y2, y3, y4, y5, y6, y7, y8, y9, y10⟩ := hSw.pcells; go_simp; try with_reducible rfl
              simp only [Act.put, List.getElem_toArray, List.getElem_cons_zero, List.getElem_cons_succ, List.setIfInBounds_toArray, List.set_cons_zero, List.set_cons_succ]
              have hFr := HPX.out.free 3; have hCl := HPX.out.cell 3
              simp only [pc, List.getElem?_toArray, List.getElem?_cons_succ, List.getElem?_cons_zero, List.setIfInBounds_toArray, List.set_cons_zero, List.set_cons_succ] at hCl
              obtain ⟨wn, en, hF, hPn, -⟩ := set_new HPX.out 3 (.int .u32 ((M.out p).ts.toNat : Nat))
              simp only [pc, List.setIfInBounds_toArray, List.set_cons_zero, List.set_cons_succ] at hPn
              have HQn := Lib.hid (HQX.out.fr hF (by simp; omega))
              refine wpAnyT_one (i := 11) (by kernel_rfl) rfl (fun K hK => ?_)
              rw [if_pos (by rfl)]
              go_simp
              refine hK.out _ _ (fun _ => HQn.out) ?_
              clear hK K
              simp only [Act.put, List.getElem_toArray, List.getElem_cons_zero, List.getElem_cons_succ, List.setIfInBounds_toArray, List.set_cons_zero, List.set_cons_succ]
              have HM := Lib.hid (HM.out.fr hF (by simp; omega)); have HA := Lib.hid (HA.out.fr hF (by simp; omega)); have HB := Lib.hid (HB.out.fr hF (by simp; omega)); have HVp := Lib.hid (HVp.out.frB HBp.out hF); have HVq := Lib.hid (HVq.out.fr hF (by simp; omega))
              have HF := Lib.hid (HF.out.step hF (fun x hx => by simp at hx; subst hx; exact .inr (by have := HAW.out; have := HAA.out; omega)))
              have HPX := Lib.hid hPn; have HQX := HQn; have HSS := HQX
              clear HQn hPn hF hFr hCl en
              refine wpAnyT_load (i := 12) (v := ?_) rfl (by kernel_rfl) (by kernel_rfl) (by kernel_rfl) (by kernel_rfl) (by kernel_rfl) (fun _ _ _ h => h) HSS.out (by rfl) ?_ ?_
              rotate_left
              · intro w hSw; obtain ⟨y0, y1, y2, y3, y4, y5, y6, y7, y8, y9, y10⟩ := hSw.pcells; go_simp; try with_reducible rfl
              simp only [Act.put, List.getElem_toArray, List.getElem_cons_zero, List.getElem_cons_succ, List.setIfInBounds_toArray, List.set_cons_zero, List.set_cons_succ]
              have hFr := HPX.out.free 4; have hCl := HPX.out.cell 4
              simp only [pc, List.getElem?_toArray, List.getElem?_cons_succ, List.getElem?_cons_zero, List.setIfInBounds_toArray, List.set_cons_zero, List.set_cons_succ] at hCl
              obtain ⟨wn, en, hF, hPn, -⟩ := set_new HPX.out 4 (.int .u32 ((M.out p).ssrc.toNat : Nat))
              simp only [pc, List.setIfInBounds_toArray, List.set_cons_zero, List.set_cons_succ] at hPn
              have HQn := Lib.hid (HQX.out.fr hF (by simp; omega))
              refine wpAnyT_one (i := 13) (by kernel_rfl) rfl (fun K hK => ?_)
              rw [if_pos (by rfl)]
              go_simp
              refine hK.out _ _ (fun _ => HQn.out) ?_
              clear hK K
              simp only [Act.put, List.getElem_toArray, List.getElem_cons_zero, List.getElem_cons_succ, List.setIfInBounds_toArray, List.set_cons_zero, List.set_cons_succ]
              have HM := Lib.hid (HM.out.fr hF (by simp; omega)); have HA := Lib.hid (HA.out.fr hF (by simp; omega)); have HB := Lib.hid (HB.out.fr hF (by simp; omega)); have HVp := Lib.hid (HVp.out.frB HBp.out hF); have HVq := Lib.hid (HVq.out.fr hF (by simp; omega))
              have HF := Lib.hid (HF.out.step hF (fun x hx => by simp at hx; subst hx; exact .inr (by have := HAW.out; have := HAA.out; omega)))
              have HPX := Lib.hid hPn; have HQX := HQn; have HSS := HQX
              clear HQn hPn hF hFr hCl en
              refine wpAnyT_load (i := 14) (v := ?_) rfl (by kernel_rfl) (by kernel_rfl) (by kernel_rfl) (by kernel_rfl) (by kernel_rfl) (fun _ _ _ h => h) HSS.out (by rfl) ?_ ?_
              rotate_left
              · intro w hSw; obtain ⟨y0, y1, y2, y3, y4, y5, y6, y7, y8, y9, y10⟩ := hSw.pcells; go_simp; try with_reducible rfl
              simp only [Act.put, List.getElem_toArray, List.getElem_cons_zero, List.getElem_cons_succ, List.setIfInBounds_toArray, List.set_cons_zero, List.set_cons_succ]
              have hFr := HPX.out.free 1; have hCl := HPX.out.cell 1
              simp only [pc, List.getElem?_toArray, List.getElem?_cons_succ, List.getElem?_cons_zero, List.setIfInBounds_toArray, List.set_cons_zero, List.set_cons_succ] at hCl
              obtain ⟨wn, en, hF, hPn, -⟩ := set_new HPX.out 1 (.int .i64 (M.out p).pt)
              simp only [pc, List.setIfInBounds_toArray, List.set_cons_zero, List.set_cons_succ] at hPn
              have HQn := Lib.hid (HQX.out.fr hF (by simp; omega))
              refine wpAnyT_one (i := 15) (by kernel_rfl) rfl (fun K hK => ?_)
              rw [if_pos (by rfl)]
              go_simp
              refine hK.out _ _ (fun _ => HQn.out) ?_
              clear hK K
              simp only [Act.put, List.getElem_toArray, List.getElem_cons_zero, List.getElem_cons_succ, List.setIfInBounds_toArray, List.set_cons_zero, List.set_cons_succ]
              have HM := Lib.hid (HM.out.fr hF (by simp; omega)); have HA := Lib.hid (HA.out.fr hF (by simp; omega)); have HB := Lib.hid (HB.out.fr hF (by simp; omega)); have HVp := Lib.hid (HVp.out.frB HBp.out hF); have HVq := Lib.hid (HVq.out.fr hF (by simp; omega))
              have HF := Lib.hid (HF.out.step hF (fun x hx => by simp at hx; subst hx; exact .inr (by have := HAW.out; have := HAA.out; omega)))
              have HPX := Lib.hid hPn; have HQX := HQn; have HSS := HQX
              clear HQn hPn hF hFr hCl en
              refine wpAnyT_done (by kernel_rfl) ?_ _
              clear HSS
              have HVt := Lib.hid (HVp.out.turn (M.out p).seq (M.out p).ts (M.out p).ssrc (M.out p).pt)
              go_wp2_with (first | (refine wpList_load_row rfl 67 (.tmp 20) rfl T rfl 67 _ _ _ HPX.out Try.underlying67 rfl (by kernel_rfl) ?_) | (refine wpList_load_row rfl 67 (.tmp 22) rfl U rfl 67 _ _ _ HQX.out Try.underlying67 rfl (by kernel_rfl) ?_))
              refine (R5Same_eq (p := M.out p) HVt.out HVq.out (Pkt.fit HWO.out).sm).mono ?_
              rintro e wz ⟨rfl, hF⟩
              have HM := Lib.hid (HM.out.keep hF); have HA := Lib.hid (HA.out.keep hF); have HB := Lib.hid (HB.out.keep hF); have HF := Lib.hid (HF.out.trans hF)
              clear hF HVp HVq HVt HPX HQX
              have hcn := HK.out.ok.ct
              have HKN := Lib.hid (HK.out.next_ (by omega) p)
              have HON := Lib.hid (RMap.step_opn M p)
              go_wp2_with fail
              go_roundw
              case rel => exact ⟨j + 1, M.step_ p, _, _, p.ts, (M.out p).ts, by omega, by go_num, by rw [HON.out], by go_num, HKN.out, HM.out, HA.out, ⟨rfl, rfl⟩, HB.out, ⟨rfl, rfl⟩, HF.out⟩
              case measure => simp [intOf]; omega
            · rcases Int.lt_or_le 2147483647 stp with hs2 | hs2
              · rw [show clampI stp 0 2147483647 = 2147483647 by unfold clampI; rw [if_neg (by omega), if_pos hs2]] at t3
                go_upto_region 27 with (fail)
                clear ho h0d hs1 hs2
                clear t3 h0c c3A c3B x0 x1 x2 x3 x4 x5 x6 x7 x8 x9 x10 y0 y1 y2 y3 y4 y5 y6 y7 y8 y9 y10
                refine wp_region_T (fun w' => Box w' T 67 (pc p.marker p.pt p.seq.toNat p.ts.toNat p.ssrc.toNat (.slice b1 p.csrc.length k1) p.hasExt p.profile.toNat (.slice b2 p.ext.length k2) (.slice b3 p.payload.length k3) (.slice b4 p.pad.length k4)) ∧ Box w' U 67 (pc (M.out p).marker (M.out p).pt (M.out p).seq.toNat (M.out p).ts.toNat (M.out p).ssrc.toNat (.slice g1 (M.out p).csrc.length m1) (M.out p).hasExt (M.out p).profile.toNat (.slice g2 (M.out p).ext.length m2) (.slice g3 (M.out p).payload.length m3) (.slice g4 (M.out p).pad.length m4))) [] 4 #[false, false, false, false] (by kernel_rfl) rfl rfl ?_
                have hF := (Fr.refl [] wd).drew
                have HM := Lib.hid (HM.out.keep hF); have HA := Lib.hid (HA.out.keep hF); have HB := Lib.hid (HB.out.keep hF); have HO := Lib.hid (HO.out.keep hF); have HF := Lib.hid (HF.out.trans hF); have HVp := Lib.hid (HVp.out.keep hF); have HVq := Lib.hid (HVq.out.keep hF); have HPX := Lib.hid (HPX.out.keep hF); have HQX := Lib.hid (HQX.out.keep hF)
                have HSS := Lib.hid (And.intro HPX.out HQX.out)
                have hUl : U < wd.drew.heap.size := by simp; omega
                clear hF
                generalize wd.drew = we at *
                refine wpAnyT_load (i := 0) (v := ?_) rfl (by kernel_rfl) (by kernel_rfl) (by kernel_rfl) (by kernel_rfl) (by kernel_rfl) (fun _ _ _ h => h) HSS.out (by rfl) ?_ ?_
                rotate_left
                · intro w hSw; refine run_load_row 67 (.tmp 20) ?_ T ?_ 67 _ _ hSw.1 Try.underlying67 rfl (by kernel_rfl) <;> rfl
                simp only [Act.put, List.getElem_toArray, List.getElem_cons_zero, List.getElem_cons_succ, List.setIfInBounds_toArray, List.set_cons_zero, List.set_cons_succ]
                refine wpAnyT_load (i := 1) (v := ?_) rfl (by kernel_rfl) (by kernel_rfl) (by kernel_rfl) (by kernel_rfl) (by kernel_rfl) (fun _ _ _ h => h) HSS.out (by rfl) ?_ ?_
                rotate_left
                · intro w hSw; refine run_load_row 67 (.tmp 22) ?_ U ?_ 67 _ _ hSw.2 Try.underlying67 rfl (by kernel_rfl) <;> rfl
                simp only [Act.put, List.getElem_toArray, List.getElem_cons_zero, List.getElem_cons_succ, List.setIfInBounds_toArray, List.set_cons_zero, List.set_cons_succ]
                refine wpAnyT_one (i := 2) (by kernel_rfl) rfl (fun K hK => ?_)
                refine wp_store_row rfl 67 (.tmp 13) (.tmp 132) rfl A rfl _ _ rfl 67 HA.out (by kernel_rfl) (by rw [HCA.out.1]; rfl) (oneCell_pc _ _ _ _ _ _ _ _ _ _ _ ⟨_, _, _, rfl⟩ ⟨_, _, _, rfl⟩ ⟨_, _, _, rfl⟩ ⟨_, _, _, rfl⟩) ?_
                intro wf hY hG
                have HPXn := Lib.hid (HPX.out.fr hG (by simp; omega)); have HQXn := Lib.hid (HQX.out.fr hG (by simp; omega))
                refine hK.out _ _ (fun _ => ⟨HPXn.out, HQXn.out⟩) ?_
                clear hK K
                simp only [Act.put, List.getElem_toArray, List.getElem_cons_zero, List.getElem_cons_succ, List.setIfInBounds_toArray, List.set_cons_zero, List.set_cons_succ]
                have HM := Lib.hid (HM.out.fr hG (by simp; omega)); have HB := Lib.hid (HB.out.fr hG (by simp; try omega)); have HVp := Lib.hid (HVp.out.fr hG (by simp; omega)); have HVq := Lib.hid (HVq.out.fr hG (by simp; omega))
                have HF := Lib.hid (HF.out.step hG (fun x hx => by simp at hx; subst hx; exact .inr (by have := HAW.out; have := HAA.out; omega)))
                have HA := Lib.hid hY; have HPX := HPXn; have HQX := HQXn
                clear hY hG HPXn HQXn
                refine wpAnyT_one (i := 3) (by kernel_rfl) rfl (fun K hK => ?_)
                refine wp_store_row rfl 67 (.tmp 14) (.tmp 133) rfl (A + 1) rfl _ _ rfl 67 HB.out (by kernel_rfl) (by rw [HCB.out.1]; rfl) (oneCell_pc _ _ _ _ _ _ _ _ _ _ _ ⟨_, _, _, rfl⟩ ⟨_, _, _, rfl⟩ ⟨_, _, _, rfl⟩ ⟨_, _, _, rfl⟩) ?_
                intro wg hY hG
                have HPXn := Lib.hid (HPX.out.fr hG (by simp; omega)); have HQXn := Lib.hid (HQX.out.fr hG (by simp; omega))
                refine hK.out _ _ (fun _ => ⟨HPXn.out, HQXn.out⟩) ?_
                clear hK K
                simp only [Act.put, List.getElem_toArray, List.getElem_cons_zero, List.getElem_cons_succ, List.setIfInBounds_toArray, List.set_cons_zero, List.set_cons_succ]
                have HM := Lib.hid (HM.out.fr hG (by simp; omega)); have HA := Lib.hid (HA.out.fr hG (by simp; try omega)); have HVp := Lib.hid (HVp.out.fr hG (by simp; omega)); have HVq := Lib.hid (HVq.out.fr hG (by simp; omega))
                have HF := Lib.hid (HF.out.step hG (fun x hx => by simp at hx; subst hx; exact .inr (by have := HAW.out; have := HAA.out; omega)))
                have HB := Lib.hid hY; have HPX := HPXn; have HQX := HQXn
                clear hY hG HPXn HQXn
                refine wpAnyT_done (by kernel_rfl) ?_ _
                clear HSS
                go_upto_region 28 with (fail)
                refine wp_region_T (fun w' => Box w' U 67 (pc (M.out p).marker (M.out p).pt (M.out p).seq.toNat (M.out p).ts.toNat (M.out p).ssrc.toNat (.slice g1 (M.out p).csrc.length m1) (M.out p).hasExt (M.out p).profile.toNat (.slice g2 (M.out p).ext.length m2) (.slice g3 (M.out p).payload.length m3) (.slice g4 (M.out p).pad.length m4))) [] 16 #[false, false, false, false, false, false, false, false, false, false, false, false, false, false, false, false] (by kernel_rfl) rfl rfl ?_
                have hF := (Fr.refl [] wg).drew
                have HM := Lib.hid (HM.out.keep hF); have HA := Lib.hid (HA.out.keep hF); have HB := Lib.hid (HB.out.keep hF); have HF := Lib.hid (HF.out.trans hF); have HVp := Lib.hid (HVp.out.keep hF); have HVq := Lib.hid (HVq.out.keep hF); have HPX := Lib.hid (HPX.out.keep hF); have HQX := Lib.hid (HQX.out.keep hF)
                have HSS := HQX
                clear hF
                generalize wg.drew = wh at *
                refine wpAnyT_load (i := 0) (v := ?_) rfl (by kernel_rfl) (by kernel_rfl) (by kernel_rfl) (by kernel_rfl) (by kernel_rfl) (fun _ _ _ h => h) HSS.out (by rfl) ?_ ?_
                rotate_left
                · intro w hSw; obtain ⟨y0, y1, y2, y3, y4, y5, y6, y7, y8, y9, y10⟩ := hSw.pcells; go_simp; try with_reducible rfl
                simp only [Act.put, List.getElem_toArray, List.getElem_cons_zero, List.getElem_cons_succ, List.setIfInBounds_toArray, List.set_cons_zero, List.set_cons_succ]
                refine wpAnyT_load (i := 1) (v := ?_) rfl (by kernel_rfl) (by kernel_rfl) (by kernel_rfl) (by kernel_rfl) (by kernel_rfl) (fun _ _ _ h => h) HSS.out (by rfl) ?_ ?_
                rotate_left
                · intro w hSw; obtain ⟨y0, y1, y2, y3, y4, y5, y6, y7, y8, y9, y10⟩ := hSw.pcells; go_simp; try with_reducible rfl
                simp only [Act.put, List.getElem_toArray, List.getElem_cons_zero, List.getElem_cons_succ, List.setIfInBounds_toArray, List.set_cons_zero, List.set_cons_succ]
                refine wpAnyT_load (i := 2) (v := ?_) rfl (by kernel_rfl) (by kernel_rfl) (by kernel_rfl) (by kernel_rfl) (by kernel_rfl) (fun _ _ _ h => h) HSS.out (by rfl) ?_ ?_
                rotate_left
                · intro w hSw; obtain ⟨y0, y1, y2, y3, y4, y5, y6, y7, y8, y9, y10⟩ := hSw.pcells; go_simp; try with_reducible rfl
                simp only [Act.put, List.getElem_toArray, List.getElem_cons_zero, List.getElem_cons_succ, List.setIfInBounds_toArray, List.set_cons_zero, List.set_cons_succ]
                refine wpAnyT_load (i := 3) (v := ?_) rfl (by kernel_rfl) (by kernel_rfl) (by kernel_rfl) (by kernel_rfl) (by kernel_rfl) (fun _ _ _ h => h) HSS.out (by rfl) ?_ ?_
                rotate_left
                · intro w hSw; obtain ⟨y0, y1, y2, y3, y4, y5, y6, y7, y8, y9, y10⟩ := hSw.pcells; go_simp; try with_reducible rfl
                simp only [Act.put, List.getElem_toArray, List.getElem_cons_zero, List.getElem_cons_succ, List.setIfInBounds_toArray, List.set_cons_zero, List.set_cons_succ]
                refine wpAnyT_load (i := 4) (v := ?_) rfl (by kernel_rfl) (by kernel_rfl) (by kernel_rfl) (by kernel_rfl) (by kernel_rfl) (fun _ _ _ h => h) HSS.out (by rfl) ?_ ?_
                rotate_left
                · intro w hSw; obtain ⟨y0, y1, y2, y3, y4, y5, y6, y7, y8, y9, y10⟩ := hSw.pcells; go_simp; try with_reducible rfl
                simp only [Act.put, List.getElem_toArray, List.getElem_cons_zero, List.getElem_cons_succ, List.setIfInBounds_toArray, List.set_cons_zero, List.set_cons_succ]
                refine wpAnyT_load (i := 5) (v := ?_) rfl (by kernel_rfl) (by kernel_rfl) (by kernel_rfl) (by kernel_rfl) (by kernel_rfl) (fun _ _ _ h => h) HSS.out (by rfl) ?_ ?_
                rotate_left
                · intro w hSw; obtain ⟨y0, y1, y2, y3, y4, y5, y6, y7, y8, y9, y10⟩ := hSw.pcells; go_simp; try with_reducible rfl
                simp only [Act.put, List.getElem_toArray, List.getElem_cons_zero, List.getElem_cons_succ, List.setIfInBounds_toArray, List.set_cons_zero, List.set_cons_succ]
                refine wpAnyT_load (i := 6) (v := ?_) rfl (by kernel_rfl) (by kernel_rfl) (by kernel_rfl) (by kernel_rfl) (by kernel_rfl) (fun _ _ _ h => h) HSS.out (by rfl) ?_ ?_
                rotate_left
                · intro w hSw; obtain ⟨y0, y1, y2, y3, y4, y5, y6, y7, y8, y9, y10⟩ := hSw.pcells; go_simp; try with_reducible rfl
                simp only [Act.put, List.getElem_toArray, List.getElem_cons_zero, List.getElem_cons_succ, List.setIfInBounds_toArray, List.set_cons_zero, List.set_cons_succ]
                refine wpAnyT_load (i := 7) (v := ?_) rfl (by kernel_rfl) (by kernel_rfl) (by kernel_rfl) (by kernel_rfl) (by kernel_rfl) (fun _ _ _ h => h) HSS.out (by rfl) ?_ ?_
                rotate_left
                · intro w hSw; obtain ⟨y0, y1, y2, y3, y4, y5, y6, y7, y8, y9, y10⟩ := hSw.pcells; go_simp; try with_reducible rfl
                simp only [Act.put, List.getElem_toArray, List.getElem_cons_zero, List.getElem_cons_succ, List.setIfInBounds_toArray, List.set_cons_zero, List.set_cons_succ]
                refine wpAnyT_load (i := 8) (v := ?_) rfl (by kernel_rfl) (by kernel_rfl) (by kernel_rfl) (by kernel_rfl) (by kernel_rfl) (fun _ _ _ h => h) HSS.out (by rfl) ?_ ?_
                rotate_left
                · intro w hSw; obtain ⟨y0, y1, y2, y3, y4, y5, y6, y7, y8, y9, y10⟩ := hSw.pcells; go_simp; try with_reducible rfl
                simp only [Act.put, List.getElem_toArray, List.getElem_cons_zero, List.getElem_cons_succ, List.setIfInBounds_toArray, List.set_cons_zero, List.set_cons_succ]
                have hFr := HPX.out.free 2; have hCl := HPX.out.cell 2
                simp only [pc, List.getElem?_toArray, List.getElem?_cons_succ, List.getElem?_cons_zero, List.setIfInBounds_toArray, List.set_cons_zero, List.set_cons_succ] at hCl
                obtain ⟨wn, en, hF, hPn, -⟩ := set_new HPX.out 2 (.int .u16 ((M.out p).seq.toNat : Nat))
                simp only [pc, List.setIfInBounds_toArray, List.set_cons_zero, List.set_cons_succ] at hPn
                have HQn := Lib.hid (HQX.out.fr hF (by simp; omega))
                refine wpAnyT_one (i := 9) (by kernel_rfl) rfl (fun K hK => ?_)
                rw [if_pos (by rfl)]
                go_simp
                refine hK.out _ _ (fun _ => HQn.out) ?_
                clear hK K
                simp only [Act.put, List.getElem_toArray, List.getElem_cons_zero, List.getElem_cons_succ, List.setIfInBounds_toArray, List.set_cons_zero, List.set_cons_succ]
                have HM := Lib.hid (HM.out.fr hF (by simp; omega)); have HA := Lib.hid (HA.out.fr hF (by simp; omega)); have HB := Lib.hid (HB.out.fr hF (by simp; omega)); have HVp := Lib.hid (HVp.out.frB HBp.out hF); have HVq := Lib.hid (HVq.out.fr hF (by simp; omega))
                have HF := Lib.hid (HF.out.step hF (fun x hx => by simp at hx; subst hx; exact .inr (by have := HAW.out; have := HAA.out; omega)))
                have HPX := Lib.hid hPn; have HQX := HQn; have HSS := HQX
                clear HQn hPn hF hFr hCl en
                refine wpAnyT_load (i := 10) (v := ?_) rfl (by kernel_rfl) (by kernel_rfl) (by kernel_rfl) (by kernel_rfl) (by kernel_rfl) (fun _ _ _ h => h) HSS.out (by rfl) ?_ ?_
                rotate_left
                · intro w hSw; obtain ⟨y0, y1, y2, y3, y4, y5, y6, y7, y8, y9, y10⟩ := hSw.pcells; go_simp; try with_reducible rfl
                simp only [Act.put, List.getElem_toArray, List.getElem_cons_zero, List.getElem_cons_succ, List.setIfInBounds_toArray, List.set_cons_zero, List.set_cons_succ]
                have hFr := HPX.out.free 3; have hCl := HPX.out.cell 3
                simp only [pc, List.getElem?_toArray, List.getElem?_cons_succ, List.getElem?_cons_zero, List.setIfInBounds_toArray, List.set_cons_zero, List.set_cons_succ] at hCl
                obtain ⟨wn, en, hF, hPn, -⟩ := set_new HPX.out 3 (.int .u32 ((M.out p).ts.toNat : Nat))
                simp only [pc, List.setIfInBounds_toArray, List.set_cons_zero, List.set_cons_succ] at hPn
                have HQn := Lib.hid (HQX.out.fr hF (by simp; omega))
                refine wpAnyT_one (i := 11) (by kernel_rfl) rfl (fun K hK => ?_)
                rw [if_pos (by rfl)]
                go_simp
                refine hK.out _ _ (fun _ => HQn.out) ?_
                clear hK K
                simp only [Act.put, List.getElem_toArray, List.getElem_cons_zero, List.getElem_cons_succ, List.setIfInBounds_toArray, List.set_cons_zero, List.set_cons_succ]
                have HM := Lib.hid (HM.out.fr hF (by simp; omega)); have HA := Lib.hid (HA.out.fr hF (by simp; omega)); have HB := Lib.hid (HB.out.fr hF (by simp; omega)); have HVp := Lib.hid (HVp.out.frB HBp.out hF); have HVq := Lib.hid (HVq.out.fr hF (by simp; omega))
                have HF := Lib.hid (HF.out.step hF (fun x hx => by simp at hx; subst hx; exact .inr (by have := HAW.out; have := HAA.out; omega)))
                have HPX := Lib.hid hPn; have HQX := HQn; have HSS := HQX
                clear HQn hPn hF hFr hCl en
                refine wpAnyT_load (i := 12) (v := ?_) rfl (by kernel_rfl) (by kernel_rfl) (by kernel_rfl) (by kernel_rfl) (by kernel_rfl) (fun _ _ _ h => h) HSS.out (by rfl) ?_ ?_
                rotate_left
                · intro w hSw; obtain ⟨y0, y1, y2, y3, y4, y5, y6, y7, y8, y9, y10⟩ := hSw.pcells; go_simp; try with_reducible rfl
                simp only [Act.put, List.getElem_toArray, List.getElem_cons_zero, List.getElem_cons_succ, List.setIfInBounds_toArray, List.set_cons_zero, List.set_cons_succ]
                have hFr := HPX.out.free 4; have hCl := HPX.out.cell 4
                simp only [pc, List.getElem?_toArray, List.getElem?_cons_succ, List.getElem?_cons_zero, List.setIfInBounds_toArray, List.set_cons_zero, List.set_cons_succ] at hCl
                obtain ⟨wn, en, hF, hPn, -⟩ := set_new HPX.out 4 (.int .u32 ((M.out p).ssrc.toNat : Nat))
                simp only [pc, List.setIfInBounds_toArray, List.set_cons_zero, List.set_cons_succ] at hPn
                have HQn := Lib.hid (HQX.out.fr hF (by simp; omega))
                refine wpAnyT_one (i := 13) (by kernel_rfl) rfl (fun K hK => ?_)
                rw [if_pos (by rfl)]
                go_simp
                refine hK.out _ _ (fun _ => HQn.out) ?_
                clear hK K
                simp only [Act.put, List.getElem_toArray, List.getElem_cons_zero, List.getElem_cons_succ, List.setIfInBounds_toArray, List.set_cons_zero, List.set_cons_succ]
                have HM := Lib.hid (HM.out.fr hF (by simp; omega)); have HA := Lib.hid (HA.out.fr hF (by simp; omega)); have HB := Lib.hid (HB.out.fr hF (by simp; omega)); have HVp := Lib.hid (HVp.out.frB HBp.out hF); have HVq := Lib.hid (HVq.out.fr hF (by simp; omega))
                have HF := Lib.hid (HF.out.step hF (fun x hx => by simp at hx; subst hx; exact .inr (by have := HAW.out; have := HAA.out; omega)))
                have HPX := Lib.hid hPn; have HQX := HQn; have HSS := HQX
                clear HQn hPn hF hFr hCl en
                refine wpAnyT_load (i := 14) (v := ?_) rfl (by kernel_rfl) (by kernel_rfl) (by kernel_rfl) (by kernel_rfl) (by kernel_rfl) (fun _ _ _ h => h) HSS.out (by rfl) ?_ ?_
                rotate_left
                · intro w hSw; obtain ⟨y0, y1, y2, y3, y4, y5, y6, y7, y8, y9, y10⟩ := hSw.pcells; go_simp; try with_reducible rfl
                simp only [Act.put, List.getElem_toArray, List.getElem_cons_zero, List.getElem_cons_succ, List.setIfInBounds_toArray, List.set_cons_zero, List.set_cons_succ]
                have hFr := HPX.out.free 1; have hCl := HPX.out.cell 1
                simp only [pc, List.getElem?_toArray, List.getElem?_cons_succ, List.getElem?_cons_zero, List.setIfInBounds_toArray, List.set_cons_zero, List.set_cons_succ] at hCl
                obtain ⟨wn, en, hF, hPn, -⟩ := set_new HPX.out 1 (.int .i64 (M.out p).pt)
                simp only [pc, List.setIfInBounds_toArray, List.set_cons_zero, List.set_cons_succ] at hPn
                have HQn := Lib.hid (HQX.out.fr hF (by simp; omega))
                refine wpAnyT_one (i := 15) (by kernel_rfl) rfl (fun K hK => ?_)
                rw [if_pos (by rfl)]
                go_simp
                refine hK.out _ _ (fun _ => HQn.out) ?_
                clear hK K
                simp only [Act.put, List.getElem_toArray, List.getElem_cons_zero, List.getElem_cons_succ, List.setIfInBounds_toArray, List.set_cons_zero, List.set_cons_succ]
                have HM := Lib.hid (HM.out.fr hF (by simp; omega)); have HA := Lib.hid (HA.out.fr hF (by simp; omega)); have HB := Lib.hid (HB.out.fr hF (by simp; omega)); have HVp := Lib.hid (HVp.out.frB HBp.out hF); have HVq := Lib.hid (HVq.out.fr hF (by simp; omega))
                have HF := Lib.hid (HF.out.step hF (fun x hx => by simp at hx; subst hx; exact .inr (by have := HAW.out; have := HAA.out; omega)))
                have HPX := Lib.hid hPn; have HQX := HQn; have HSS := HQX
                clear HQn hPn hF hFr hCl en
                refine wpAnyT_done (by kernel_rfl) ?_ _
                clear HSS
                have HVt := Lib.hid (HVp.out.turn (M.out p).seq (M.out p).ts (M.out p).ssrc (M.out p).pt)
                go_wp2_with (first | (refine wpList_load_row rfl 67 (.tmp 20) rfl T rfl 67 _ _ _ HPX.out Try.underlying67 rfl (by kernel_rfl) ?_) | (refine wpList_load_row rfl 67 (.tmp 22) rfl U rfl 67 _ _ _ HQX.out Try.underlying67 rfl (by kernel_rfl) ?_))
                refine (R5Same_eq (p := M.out p) HVt.out HVq.out (Pkt.fit HWO.out).sm).mono ?_
                rintro e wz ⟨rfl, hF⟩
                have HM := Lib.hid (HM.out.keep hF); have HA := Lib.hid (HA.out.keep hF); have HB := Lib.hid (HB.out.keep hF); have HF := Lib.hid (HF.out.trans hF)
                clear hF HVp HVq HVt HPX HQX
                have hcn := HK.out.ok.ct
                have HKN := Lib.hid (HK.out.next_ (by omega) p)
                have HON := Lib.hid (RMap.step_opn M p)
                go_wp2_with fail
                go_roundw
                case rel => exact ⟨j + 1, M.step_ p, _, _, p.ts, (M.out p).ts, by omega, by go_num, by rw [HON.out], by go_num, HKN.out, HM.out, HA.out, ⟨rfl, rfl⟩, HB.out, ⟨rfl, rfl⟩, HF.out⟩
                case measure => simp [intOf]; omega
              · rw [show clampI stp 0 2147483647 = stp by unfold clampI; rw [if_neg (by omega), if_neg (by omega)]] at t3
                go_upto_region 27 with (fail)
                clear ho h0d hs1 hs2
                clear t3 h0c c3A c3B x0 x1 x2 x3 x4 x5 x6 x7 x8 x9 x10 y0 y1 y2 y3 y4 y5 y6 y7 y8 y9 y10
                refine wp_region_T (fun w' => Box w' T 67 (pc p.marker p.pt p.seq.toNat p.ts.toNat p.ssrc.toNat (.slice b1 p.csrc.length k1) p.hasExt p.profile.toNat (.slice b2 p.ext.length k2) (.slice b3 p.payload.length k3) (.slice b4 p.pad.length k4)) ∧ Box w' U 67 (pc (M.out p).marker (M.out p).pt (M.out p).seq.toNat (M.out p).ts.toNat (M.out p).ssrc.toNat (.slice g1 (M.out p).csrc.length m1) (M.out p).hasExt (M.out p).profile.toNat (.slice g2 (M.out p).ext.length m2) (.slice g3 (M.out p).payload.length m3) (.slice g4 (M.out p).pad.length m4))) [] 4 #[false, false, false, false] (by kernel_rfl) rfl rfl ?_
                have hF := (Fr.refl [] wd).drew
                have HM := Lib.hid (HM.out.keep hF); have HA := Lib.hid (HA.out.keep hF); have HB := Lib.hid (HB.out.keep hF); have HO := Lib.hid (HO.out.keep hF); have HF := Lib.hid (HF.out.trans hF); have HVp := Lib.hid (HVp.out.keep hF); have HVq := Lib.hid (HVq.out.keep hF); have HPX := Lib.hid (HPX.out.keep hF); have HQX := Lib.hid (HQX.out.keep hF)
                have HSS := Lib.hid (And.intro HPX.out HQX.out)
                have hUl : U < wd.drew.heap.size := by simp; omega
                clear hF
                generalize wd.drew = we at *
                refine wpAnyT_load (i := 0) (v := ?_) rfl (by kernel_rfl) (by kernel_rfl) (by kernel_rfl) (by kernel_rfl) (by kernel_rfl) (fun _ _ _ h => h) HSS.out (by rfl) ?_ ?_
                rotate_left
                · intro w hSw; refine run_load_row 67 (.tmp 20) ?_ T ?_ 67 _ _ hSw.1 Try.underlying67 rfl (by kernel_rfl) <;> rfl
                simp only [Act.put, List.getElem_toArray, List.getElem_cons_zero, List.getElem_cons_succ, List.setIfInBounds_toArray, List.set_cons_zero, List.set_cons_succ]
                refine wpAnyT_load (i := 1) (v := ?_) rfl (by kernel_rfl) (by kernel_rfl) (by kernel_rfl) (by kernel_rfl) (by kernel_rfl) (fun _ _ _ h => h) HSS.out (by rfl) ?_ ?_
                rotate_left
                · intro w hSw; refine run_load_row 67 (.tmp 22) ?_ U ?_ 67 _ _ hSw.2 Try.underlying67 rfl (by kernel_rfl) <;> rfl
                simp only [Act.put, List.getElem_toArray, List.getElem_cons_zero, List.getElem_cons_succ, List.setIfInBounds_toArray, List.set_cons_zero, List.set_cons_succ]
                refine wpAnyT_one (i := 2) (by kernel_rfl) rfl (fun K hK => ?_)
                refine wp_store_row rfl 67 (.tmp 13) (.tmp 132) rfl A rfl _ _ rfl 67 HA.out (by kernel_rfl) (by rw [HCA.out.1]; rfl) (oneCell_pc _ _ _ _ _ _ _ _ _ _ _ ⟨_, _, _, rfl⟩ ⟨_, _, _, rfl⟩ ⟨_, _, _, rfl⟩ ⟨_, _, _, rfl⟩) ?_
                intro wf hY hG
                have HPXn := Lib.hid (HPX.out.fr hG (by simp; omega)); have HQXn := Lib.hid (HQX.out.fr hG (by simp; omega))
                refine hK.out _ _ (fun _ => ⟨HPXn.out, HQXn.out⟩) ?_
                clear hK K
                simp only [Act.put, List.getElem_toArray, List.getElem_cons_zero, List.getElem_cons_succ, List.setIfInBounds_toArray, List.set_cons_zero, List.set_cons_succ]
                have HM := Lib.hid (HM.out.fr hG (by simp; omega)); have HB := Lib.hid (HB.out.fr hG (by simp; try omega)); have HVp := Lib.hid (HVp.out.fr hG (by simp; omega)); have HVq := Lib.hid (HVq.out.fr hG (by simp; omega))
                have HF := Lib.hid (HF.out.step hG (fun x hx => by simp at hx; subst hx; exact .inr (by have := HAW.out; have := HAA.out; omega)))
                have HA := Lib.hid hY; have HPX := HPXn; have HQX := HQXn
                clear hY hG HPXn HQXn
                refine wpAnyT_one (i := 3) (by kernel_rfl) rfl (fun K hK => ?_)
                refine wp_store_row rfl 67 (.tmp 14) (.tmp 133) rfl (A + 1) rfl _ _ rfl 67 HB.out (by kernel_rfl) (by rw [HCB.out.1]; rfl) (oneCell_pc _ _ _ _ _ _ _ _ _ _ _ ⟨_, _, _, rfl⟩ ⟨_, _, _, rfl⟩ ⟨_, _, _, rfl⟩ ⟨_, _, _, rfl⟩) ?_
                intro wg hY hG
                have HPXn := Lib.hid (HPX.out.fr hG (by simp; omega)); have HQXn := Lib.hid (HQX.out.fr hG (by simp; omega))
                refine hK.out _ _ (fun _ => ⟨HPXn.out, HQXn.out⟩) ?_
                clear hK K
                simp only [Act.put, List.getElem_toArray, List.getElem_cons_zero, List.getElem_cons_succ, List.setIfInBounds_toArray, List.set_cons_zero, List.set_cons_succ]
                have HM := Lib.hid (HM.out.fr hG (by simp; omega)); have HA := Lib.hid (HA.out.fr hG (by simp; try omega)); have HVp := Lib.hid (HVp.out.fr hG (by simp; omega)); have HVq := Lib.hid (HVq.out.fr hG (by simp; omega))
                have HF := Lib.hid (HF.out.step hG (fun x hx => by simp at hx; subst hx; exact .inr (by have := HAW.out; have := HAA.out; omega)))
                have HB := Lib.hid hY; have HPX := HPXn; have HQX := HQXn
                clear hY hG HPXn HQXn
                refine wpAnyT_done (by kernel_rfl) ?_ _
                clear HSS
                go_upto_region 28 with (fail)
                refine wp_region_T (fun w' => Box w' U 67 (pc (M.out p).marker (M.out p).pt (M.out p).seq.toNat (M.out p).ts.toNat (M.out p).ssrc.toNat (.slice g1 (M.out p).csrc.length m1) (M.out p).hasExt (M.out p).profile.toNat (.slice g2 (M.out p).ext.length m2) (.slice g3 (M.out p).payload.length m3) (.slice g4 (M.out p).pad.length m4))) [] 16 #[false, false, false, false, false, false, false, false, false, false, false, false, false, false, false, false] (by kernel_rfl) rfl rfl ?_
                have hF := (Fr.refl [] wg).drew
                have HM := Lib.hid (HM.out.keep hF); have HA := Lib.hid (HA.out.keep hF); have HB := Lib.hid (HB.out.keep hF); have HF := Lib.hid (HF.out.trans hF); have HVp := Lib.hid (HVp.out.keep hF); have HVq := Lib.hid (HVq.out.keep hF); have HPX := Lib.hid (HPX.out.keep hF); have HQX := Lib.hid (HQX.out.keep hF)
                have HSS := HQX
                clear hF
                generalize wg.drew = wh at *
                refine wpAnyT_load (i := 0) (v := ?_) rfl (by kernel_rfl) (by kernel_rfl) (by kernel_rfl) (by kernel_rfl) (by kernel_rfl) (fun _ _ _ h => h) HSS.out (by rfl) ?_ ?_
                rotate_left
                · intro w hSw; obtain ⟨y0, y1, y2, y3, y4, y5, y6, y7, y8, y9, y10⟩ := hSw.pcells; go_simp; try with_reducible rfl
                simp only [Act.put, List.getElem_toArray, List.getElem_cons_zero, List.getElem_cons_succ, List.setIfInBounds_toArray, List.set_cons_zero, List.set_cons_succ]
                refine wpAnyT_load (i := 1) (v := ?_) rfl (by kernel_rfl) (by kernel_rfl) (by kernel_rfl) (by kernel_rfl) (by kernel_rfl) (fun _ _ _ h => h) HSS.out (by rfl) ?_ ?_
                rotate_left
                · intro w hSw; obtain ⟨y0, y1, y2, y3, y4, y5, y6, y7, y8, y9, y10⟩ := hSw.pcells; go_simp; try with_reducible rfl
                simp only [Act.put, List.getElem_toArray, List.getElem_cons_zero, List.getElem_cons_succ, List.setIfInBounds_toArray, List.set_cons_zero, List.set_cons_succ]
                refine wpAnyT_load (i := 2) (v := ?_) rfl (by kernel_rfl) (by kernel_rfl) (by kernel_rfl) (by kernel_rfl) (by kernel_rfl) (fun _ _ _ h => h) HSS.out (by rfl) ?_ ?_
                rotate_left
                · intro w hSw; obtain ⟨y0, y1, y2, y3, y4, y5, y6, y7, y8, y9, y10⟩ := hSw.pcells; go_simp; try with_reducible rfl
                simp only [Act.put, List.getElem_toArray, List.getElem_cons_zero, List.getElem_cons_succ, List.setIfInBounds_toArray, List.set_cons_zero, List.set_cons_succ]
                refine wpAnyT_load (i := 3) (v := ?_) rfl (by kernel_rfl) (by kernel_rfl) (by kernel_rfl) (by kernel_rfl) (by kernel_rfl) (fun _ _ _ h => h) HSS.out (by rfl) ?_ ?_
                rotate_left
                · intro w hSw; obtain ⟨y0, y1, y2, y3, y4, y5, y6, y7, y8, y9, y10⟩ := hSw.pcells; go_simp; try with_reducible rfl
                simp only [Act.put, List.getElem_toArray, List.getElem_cons_zero, List.getElem_cons_succ, List.setIfInBounds_toArray, List.set_cons_zero, List.set_cons_succ]
                refine wpAnyT_load (i := 4) (v := ?_) rfl (by kernel_rfl) (by kernel_rfl) (by kernel_rfl) (by kernel_rfl) (by kernel_rfl) (fun _ _ _ h => h) HSS.out (by rfl) ?_ ?_
                rotate_left
                · intro w hSw; obtain ⟨y0, y1, y2, y3, y4, y5, y6, y7, y8, y9, y10⟩ := hSw.pcells; go_simp; try with_reducible rfl
                simp only [Act.put, List.getElem_toArray, List.getElem_cons_zero, List.getElem_cons_succ, List.setIfInBounds_toArray, List.set_cons_zero, List.set_cons_succ]
                refine wpAnyT_load (i := 5) (v := ?_) rfl (by kernel_rfl) (by kernel_rfl) (by kernel_rfl) (by kernel_rfl) (by kernel_rfl) (fun _ _ _ h => h) HSS.out (by rfl) ?_ ?_
                rotate_left
                · intro w hSw; obtain ⟨y0, y1, y2, y3, y4, y5, y6, y7, y8, y9, y10⟩ := hSw.pcells; go_simp; try with_reducible rfl
                simp only [Act.put, List.getElem_toArray, List.getElem_cons_zero, List.getElem_cons_succ, List.setIfInBounds_toArray, List.set_cons_zero, List.set_cons_succ]
                refine wpAnyT_load (i := 6) (v := ?_) rfl (by kernel_rfl) (by kernel_rfl) (by kernel_rfl) (by kernel_rfl) (by kernel_rfl) (fun _ _ _ h => h) HSS.out (by rfl) ?_ ?_
                rotate_left
                · intro w hSw; obtain ⟨y0, y1, y2, y3, y4, y5, y6, y7, y8, y9, y10⟩ := hSw.pcells; go_simp; try with_reducible rfl
                simp only [Act.put, List.getElem_toArray, List.getElem_cons_zero, List.getElem_cons_succ, List.setIfInBounds_toArray, List.set_cons_zero, List.set_cons_succ]
                refine wpAnyT_load (i := 7) (v := ?_) rfl (by kernel_rfl) (by kernel_rfl) (by kernel_rfl) (by kernel_rfl) (by kernel_rfl) (fun _ _ _ h => h) HSS.out (by rfl) ?_ ?_
                rotate_left
                · intro w hSw; obtain ⟨y0, y1, y2, y3, y4, y5, y6, y7, y8, y9, y10⟩ := hSw.pcells; go_simp; try with_reducible rfl
                simp only [Act.put, List.getElem_toArray, List.getElem_cons_zero, List.getElem_cons_succ, List.setIfInBounds_toArray, List.set_cons_zero, List.set_cons_succ]
                refine wpAnyT_load (i := 8) (v := ?_) rfl (by kernel_rfl) (by kernel_rfl) (by kernel_rfl) (by kernel_rfl) (by kernel_rfl) (fun _ _ _ h => h) HSS.out (by rfl) ?_ ?_
                rotate_left
                · intro w hSw; obtain ⟨y0, y1, y2, y3, y4, y5, y6, y7, y8, y9, y10⟩ := hSw.pcells; go_simp; try with_reducible rfl
                simp only [Act.put, List.getElem_toArray, List.getElem_cons_zero, List.getElem_cons_succ, List.setIfInBounds_toArray, List.set_cons_zero, List.set_cons_succ]
                have hFr := HPX.out.free 2; have hCl := HPX.out.cell 2
                simp only [pc, List.getElem?_toArray, List.getElem?_cons_succ, List.getElem?_cons_zero, List.setIfInBounds_toArray, List.set_cons_zero, List.set_cons_succ] at hCl
                obtain ⟨wn, en, hF, hPn, -⟩ := set_new HPX.out 2 (.int .u16 ((M.out p).seq.toNat : Nat))
                simp only [pc, List.setIfInBounds_toArray, List.set_cons_zero, List.set_cons_succ] at hPn
                have HQn := Lib.hid (HQX.out.fr hF (by simp; omega))
                refine wpAnyT_one (i := 9) (by kernel_rfl) rfl (fun K hK => ?_)
                rw [if_pos (by rfl)]
                go_simp
                refine hK.out _ _ (fun _ => HQn.out) ?_
                clear hK K
                simp only [Act.put, List.getElem_toArray, List.getElem_cons_zero, List.getElem_cons_succ, List.setIfInBounds_toArray, List.set_cons_zero, List.set_cons_succ]
                have HM := Lib.hid (HM.out.fr hF (by simp; omega)); have HA := Lib.hid (HA.out.fr hF (by simp; omega)); have HB := Lib.hid (HB.out.fr hF (by simp; omega)); have HVp := Lib.hid (HVp.out.frB HBp.out hF); have HVq := Lib.hid (HVq.out.fr hF (by simp; omega))
                have HF := Lib.hid (HF.out.step hF (fun x hx => by simp at hx; subst hx; exact .inr (by have := HAW.out; have := HAA.out; omega)))
                have HPX := Lib.hid hPn; have HQX := HQn; have HSS := HQX
                clear HQn hPn hF hFr hCl en
                refine wpAnyT_load (i := 10) (v := ?_) rfl (by kernel_rfl) (by kernel_rfl) (by kernel_rfl) (by kernel_rfl) (by kernel_rfl) (fun _ _ _ h => h) HSS.out (by rfl) ?_ ?_
                rotate_left
                · intro w hSw; obtain ⟨y0, y1, y2, y3, y4, y5, y6, y7, y8, y9, y10⟩ := hSw.pcells; go_simp; try with_reducible rfl
                simp only [Act.put, List.getElem_toArray, List.getElem_cons_zero, List.getElem_cons_succ, List.setIfInBounds_toArray, List.set_cons_zero, List.set_cons_succ]
                have hFr := HPX.out.free 3; have hCl := HPX.out.cell 3
                simp only [pc, List.getElem?_toArray, List.getElem?_cons_succ, List.getElem?_cons_zero, List.setIfInBounds_toArray, List.set_cons_zero, List.set_cons_succ] at hCl
                obtain ⟨wn, en, hF, hPn, -⟩ := set_new HPX.out 3 (.int .u32 ((M.out p).ts.toNat : Nat))
                simp only [pc, List.setIfInBounds_toArray, List.set_cons_zero, List.set_cons_succ] at hPn
                have HQn := Lib.hid (HQX.out.fr hF (by simp; omega))
                refine wpAnyT_one (i := 11) (by kernel_rfl) rfl (fun K hK => ?_)
                rw [if_pos (by rfl)]
                go_simp
                refine hK.out _ _ (fun _ => HQn.out) ?_
                clear hK K
                simp only [Act.put, List.getElem_toArray, List.getElem_cons_zero, List.getElem_cons_succ, List.setIfInBounds_toArray, List.set_cons_zero, List.set_cons_succ]
                have HM := Lib.hid (HM.out.fr hF (by simp; omega)); have HA := Lib.hid (HA.out.fr hF (by simp; omega)); have HB := Lib.hid (HB.out.fr hF (by simp; omega)); have HVp := Lib.hid (HVp.out.frB HBp.out hF); have HVq := Lib.hid (HVq.out.fr hF (by simp; omega))
                have HF := Lib.hid (HF.out.step hF (fun x hx => by simp at hx; subst hx; exact .inr (by have := HAW.out; have := HAA.out; omega)))
                have HPX := Lib.hid hPn; have HQX := HQn; have HSS := HQX
                clear HQn hPn hF hFr hCl en
                refine wpAnyT_load (i := 12) (v := ?_) rfl (by kernel_rfl) (by kernel_rfl) (by kernel_rfl) (by kernel_rfl) (by kernel_rfl) (fun _ _ _ h => h) HSS.out (by rfl) ?_ ?_
                rotate_left
                · intro w hSw; obtain ⟨y0, y1, y2, y3, y4, y5, y6, y7, y8, y9, y10⟩ := hSw.pcells; go_simp; try with_reducible rfl
                simp only [Act.put, List.getElem_toArray, List.getElem_cons_zero, List.getElem_cons_succ, List.setIfInBounds_toArray, List.set_cons_zero, List.set_cons_succ]
                have hFr := HPX.out.free 4; have hCl := HPX.out.cell 4
                simp only [pc, List.getElem?_toArray, List.getElem?_cons_succ, List.getElem?_cons_zero, List.setIfInBounds_toArray, List.set_cons_zero, List.set_cons_succ] at hCl
                obtain ⟨wn, en, hF, hPn, -⟩ := set_new HPX.out 4 (.int .u32 ((M.out p).ssrc.toNat : Nat))
                simp only [pc, List.setIfInBounds_toArray, List.set_cons_zero, List.set_cons_succ] at hPn
                have HQn := Lib.hid (HQX.out.fr hF (by simp; omega))
                refine wpAnyT_one (i := 13) (by kernel_rfl) rfl (fun K hK => ?_)
                rw [if_pos (by rfl)]
                go_simp
                refine hK.out _ _ (fun _ => HQn.out) ?_
                clear hK K
                simp only [Act.put, List.getElem_toArray, List.getElem_cons_zero, List.getElem_cons_succ, List.setIfInBounds_toArray, List.set_cons_zero, List.set_cons_succ]
                have HM := Lib.hid (HM.out.fr hF (by simp; omega)); have HA := Lib.hid (HA.out.fr hF (by simp; omega)); have HB := Lib.hid (HB.out.fr hF (by simp; omega)); have HVp := Lib.hid (HVp.out.frB HBp.out hF); have HVq := Lib.hid (HVq.out.fr hF (by simp; omega))
                have HF := Lib.hid (HF.out.step hF (fun x hx => by simp at hx; subst hx; exact .inr (by have := HAW.out; have := HAA.out; omega)))
                have HPX := Lib.hid hPn; have HQX := HQn; have HSS := HQX
                clear HQn hPn hF hFr hCl en
                refine wpAnyT_load (i := 14) (v := ?_) rfl (by kernel_rfl) (by kernel_rfl) (by kernel_rfl) (by kernel_rfl) (by kernel_rfl) (fun _ _ _ h => h) HSS.out (by rfl) ?_ ?_
                rotate_left
                · intro w hSw; obtain ⟨y0, y1, y2, y3, y4, y5, y6, y7, y8, y9, y10⟩ := hSw.pcells; go_simp; try with_reducible rfl
                simp only [Act.put, List.getElem_toArray, List.getElem_cons_zero, List.getElem_cons_succ, List.setIfInBounds_toArray, List.set_cons_zero, List.set_cons_succ]
                have hFr := HPX.out.free 1; have hCl := HPX.out.cell 1
                simp only [pc, List.getElem?_toArray, List.getElem?_cons_succ, List.getElem?_cons_zero, List.setIfInBounds_toArray, List.set_cons_zero, List.set_cons_succ] at hCl
                obtain ⟨wn, en, hF, hPn, -⟩ := set_new HPX.out 1 (.int .i64 (M.out p).pt)
                simp only [pc, List.setIfInBounds_toArray, List.set_cons_zero, List.set_cons_succ] at hPn
                have HQn := Lib.hid (HQX.out.fr hF (by simp; omega))
                refine wpAnyT_one (i := 15) (by kernel_rfl) rfl (fun K hK => ?_)
                rw [if_pos (by rfl)]
                go_simp
                refine hK.out _ _ (fun _ => HQn.out) ?_
                clear hK K
                simp only [Act.put, List.getElem_toArray, List.getElem_cons_zero, List.getElem_cons_succ, List.setIfInBounds_toArray, List.set_cons_zero, List.set_cons_succ]
                have HM := Lib.hid (HM.out.fr hF (by simp; omega)); have HA := Lib.hid (HA.out.fr hF (by simp; omega)); have HB := Lib.hid (HB.out.fr hF (by simp; omega)); have HVp := Lib.hid (HVp.out.frB HBp.out hF); have HVq := Lib.hid (HVq.out.fr hF (by simp; omega))
                have HF := Lib.hid (HF.out.step hF (fun x hx => by simp at hx; subst hx; exact .inr (by have := HAW.out; have := HAA.out; omega)))
                have HPX := Lib.hid hPn; have HQX := HQn; have HSS := HQX
                clear HQn hPn hF hFr hCl en
                refine wpAnyT_done (by kernel_rfl) ?_ _
                clear HSS
                have HVt := Lib.hid (HVp.out.turn (M.out p).seq (M.out p).ts (M.out p).ssrc (M.out p).pt)
                go_wp2_with (first | (refine wpList_load_row rfl 67 (.tmp 20) rfl T rfl 67 _ _ _ HPX.out Try.underlying67 rfl (by kernel_rfl) ?_) | (refine wpList_load_row rfl 67 (.tmp 22) rfl U rfl 67 _ _ _ HQX.out Try.underlying67 rfl (by kernel_rfl) ?_))
                refine (R5Same_eq (p := M.out p) HVt.out HVq.out (Pkt.fit HWO.out).sm).mono ?_
                rintro e wz ⟨rfl, hF⟩
                have HM := Lib.hid (HM.out.keep hF); have HA := Lib.hid (HA.out.keep hF); have HB := Lib.hid (HB.out.keep hF); have HF := Lib.hid (HF.out.trans hF)
                clear hF HVp HVq HVt HPX HQX
                have hcn := HK.out.ok.ct
                have HKN := Lib.hid (HK.out.next_ (by omega) p)
                have HON := Lib.hid (RMap.step_opn M p)
                go_wp2_with fail
                go_roundw
                case rel => exact ⟨j + 1, M.step_ p, _, _, p.ts, (M.out p).ts, by omega, by go_num, by rw [HON.out], by go_num, HKN.out, HM.out, HA.out, ⟨rfl, rfl⟩, HB.out, ⟨rfl, rfl⟩, HF.out⟩
                case measure => simp [intOf]; omega
      | error k =>
        have HP := Lib.hid hpr
        have hk : (k != 0) = true := by simpa using parseR_err hpr
        have hk2 : (k == 0) = false := by simpa using parseR_err hpr
        clear hpr
        refine (rmBytes_any HM.out HK.out.ok (Sl.keep HR.out HF.out)).mono ?_
        rintro e w5 (⟨p2, vr, hp, -⟩ | ⟨k2, hp, rfl, hM, hF⟩)
        · rw [HP.out] at hp; cases hp
        rw [HP.out] at hp
        cases hp
        have HM := Lib.hid (HM.out.keep hF); have HA := Lib.hid (HA.out.keep hF); have HB := Lib.hid (HB.out.keep hF); have HO := Lib.hid (HO.out.keep hF); have HF := Lib.hid (HF.out.trans hF)
        clear hM hF
        have o1 := HO.out.cell 1
        simp only [List.getElem?_toArray, List.getElem?_cons_succ, List.getElem?_cons_zero] at o1
        go_wp2_with fail
        clear o1
        refine (R5Parse_any (Sl.keep HR.out HF.out)).mono ?_
        rintro e w6 (⟨vp, p2, hp, -⟩ | ⟨k2, hp, rfl, hF⟩)
        · rw [HP.out] at hp; cases hp
        rw [HP.out] at hp
        cases hp
        have HM := Lib.hid (HM.out.keep hF); have HA := Lib.hid (HA.out.keep hF); have HB := Lib.hid (HB.out.keep hF); have HO := Lib.hid (HO.out.keep hF); have HF := Lib.hid (HF.out.trans hF)
        clear hF
        unfold pz
        go_upto_region 17 with (refine wpList_store_row rfl 67 (.tmp 20) (.tmp 55) rfl w6.heap.size rfl _ _ rfl 67 (Box.new w6 67 #[.bool false, .int .i64 0, .int .u16 0, .int .u32 0, .int .u32 0, .slice none 0 0, .bool false, .int .u16 0, .slice none 0 0, .slice none 0 0, .slice none 0 0]) (by kernel_rfl) rfl (oneCell_pz) ?_; intro w7 hY hG; have hFn := ((Fr.refl [] w6).alloc _).step hG (by simp); have HFn := Lib.hid hFn; have HY := Lib.hid hY; clear hG hFn hY)
        have hF := HFn.out
        have HM := Lib.hid (HM.out.keep hF); have HA := Lib.hid (HA.out.keep hF); have HB := Lib.hid (HB.out.keep hF); have HO := Lib.hid (HO.out.keep hF); have HF := Lib.hid (HF.out.trans hF)
        clear hF HFn HY
        go_wp2_with fail
        go_roundw
        case rel => exact ⟨j + 1, M, cA, cB, tA, tB, by omega, rfl, rfl, by go_num, HK.out.later, HM.out, HA.out, HCA.out, HB.out, HCB.out, HF.out⟩
        case measure => simp [intOf]; omega
end Go.Proofs.Yticoongkfhkjgaa
