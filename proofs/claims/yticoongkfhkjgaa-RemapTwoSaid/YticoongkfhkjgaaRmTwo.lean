/- The walk of confluxlaw23.RemapTwo (printed by gen_rmtwo.py). -/
import Derived.Test.YticoongkfhkjgaaRmTwoPlain
namespace Go.Proofs.Yticoongkfhkjgaa
open Go.RowKit

/-- What holds of the clone and of the map that began later. -/
def CRel (w wr : World) (g : Nat) (A : Int) (j : Nat) (M : RMap) (c o : Value) : Prop :=
  (c = .pointer none ∧ o = .pointer none) ∨ ∃ gc C, c = .pointer (some ⟨gc, 0, none⟩) ∧ w.heap.size ≤ gc ∧ gc ≠ g ∧ Box wr gc 132 (mc C) ∧ C.Ok ∧ C.segs ≤ j ∧ C.cnt ≤ j ∧ Cop M C ∧ A < j ∧
    ((o = .pointer none ∧ M.opn = false) ∨ ∃ go O, o = .pointer (some ⟨go, 0, none⟩) ∧ w.heap.size ≤ go ∧ go ≠ g ∧ go ≠ gc ∧ Box wr go 132 (mc O) ∧ O.Ok ∧ O.segs ≤ j ∧ O.cnt ≤ j ∧ Twin M O)
def MRel (w wr : World) (g : Nat) (j : Nat) (M : RMap) : Prop :=
  Box wr g 132 (mc M) ∧ M.Ok ∧ M.segs ≤ j ∧ M.cnt ≤ j ∧ M.ssrc = 5 ∧ M.pt = 97 ∧ Fr [] w wr

set_option maxRecDepth 100000 in
set_option maxHeartbeats 16000000 in
theorem RemapTwo_any {w : World} {v : Value} {ls : List (List UInt8)} (hl : BRows w v ls) (first : UInt16) (ts : UInt32) (stp : Int) (att : Int) :
    Calls Try.prog 14 #[v, .int .u16 (first.toNat : Nat), .int .u32 (ts.toNat : Nat), .int .i64 stp, .int .i64 att] w fun e w' => e = .returned (.bool true) ∧ Fr [] w w' := by
  obtain ⟨av, cv, rfl⟩ := hl.shape
  have hlen := hl.len.2
  unfold maxLen at hlen
  have HL := Lib.hid hl
  clear hl
  go_enter Try.func14, Try.ntmps14
  go_wp2_with fail
  refine alive23_any.mono ?_
  rintro e w1 ⟨rfl, hF⟩
  have HF := Lib.hid hF
  clear hF
  go_wp2_with fail
  refine (RFew13_any (HL.out.keep HF.out) 30 1600 (by omega) (by omega)).mono ?_
  rintro e w2 ⟨rfl, hF⟩
  have HF := Lib.hid (HF.out.trans hF)
  clear hF
  by_cases hfew : few13 ls 30 1600 = true
  rotate_left
  · have hfew2 : few13 ls 30 1600 = false := by simpa using hfew
    rw [hfew2]
    go_wp2_with fail
    go_ret
    exact ⟨rfl, HF.out⟩
  rw [hfew]
  obtain ⟨hn30, hsz⟩ := few13_true hfew
  have HSZ := Lib.hid hsz
  clear hfew hsz
  go_wp2_with fail
  refine (rmNew_any 5 97 first ts stp _).mono ?_
  rintro e w3 ⟨g, rfl, hg, hB, hF⟩
  have HG : Hid (w.heap.size ≤ g) := Lib.hid (Nat.le_trans HF.out.size hg)
  have HM : Hid (MRel w w3 g 0 (RMap.new 5 97 first ts stp)) := Lib.hid ⟨hB, RMap.new_ok 5 97 first ts stp, Nat.le_refl _, Nat.le_refl _, rfl, rfl, HF.out.trans hF⟩
  clear hF hB hg HF
  go_wp2_with fail
  go_loopw [12, 13, 37] (fun c o i wr => ∃ (j : Nat) (M : RMap), j ≤ ls.length ∧ i = .int .i64 j ∧ MRel w wr g j M ∧ CRel w wr g (bits .and .i64 att 31) j M c o) (fun _ _ i _ => ls.length - (intOf i).toNat)
  case atStart => exact ⟨0, _, Nat.zero_le _, rfl, HM.out, .inl ⟨rfl, rfl⟩⟩
  case round =>
    clear HM
    obtain ⟨j, M, hj, rfl, ⟨hM, hok, hsg, hct, h5, h97, hF⟩, hC⟩ := hrel
    have HM := Lib.hid hM; have HOK := Lib.hid hok; have HF := Lib.hid hF
    have hszr := hF.size
    have HSG : Hid (M.segs ≤ j ∧ M.cnt ≤ j) := Lib.hid ⟨hsg, hct⟩
    have H5 := Lib.hid h5; have H97 := Lib.hid h97
    clear hM hok hF hsg hct h5 h97
    have hlw : w.heap.size ≤ g := HG.out
    have hgl := HM.out.lt
    by_cases hlt : j < ls.length
    rotate_left
    · rcases hC with ⟨rfl, rfl⟩ | ⟨gc, C, rfl, hgc, hcg, hCB, hCok, hCs, hCc, hcop, hAj, hO⟩
      · go_wp2_with fail
        go_ret
        exact ⟨rfl, HF.out⟩
      · have HCB := Lib.hid hCB; have HCOP := Lib.hid hcop
        clear hO hCok hCB hcop
        go_wp2_with fail
        refine (rmSegs_any HM.out).mono ?_
        rintro e wz ⟨rfl, rfl⟩
        go_wp2_with fail
        refine (rmSegs_any HCB.out).mono ?_
        rintro e wz ⟨rfl, rfl⟩
        have hle : (M.segs : Int) ≤ (C.segs : Int) + 1 := by have := HCOP.out.segs; omega
        go_wp2_with fail
        refine (rmCount_any HM.out).mono ?_
        rintro e wz ⟨rfl, rfl⟩
        go_wp2_with fail
        refine (rmCount_any HCB.out).mono ?_
        rintro e wz ⟨rfl, rfl⟩
        rw [HCOP.out.cnt]
        go_wp2_with fail
        go_ret
        exact ⟨rfl, HF.out⟩
    obtain ⟨b, o, x, l, rfl, hb, hl, hx, hR⟩ := HL.out.at_ hlt
    obtain ⟨al, cl, rfl⟩ := Sl.shape hR
    simp only [List.length_map] at hx hR
    have d := HF.out.cellSome hx (by simp)
    have hll := HSZ.out l (List.mem_of_getElem? hl)
    have HR := Lib.hid hR
    clear hx hl hb hR
    rcases hC with ⟨rfl, rfl⟩ | ⟨gc, C, rfl, hgc, hcg, hCB, hCok, hCs, hCc, hcop, hAj, hO⟩
    · by_cases hat : (((j : Nat) : Int) == bits .and .i64 att 31) = true
      · have hAj : bits .and .i64 att 31 < ((j + 1 : Nat) : Int) := by have := beq_iff_eq.1 hat; omega
        go_wp2_with fail
        refine (rmClone_any HM.out).mono ?_
        rintro e w4 ⟨gc, rfl, hgc0, hB, hF⟩
        have hcg : gc ≠ g := by omega
        have hcl := hB.lt
        have hsz4 := hF.size
        have HC := Lib.hid hB; have HM := Lib.hid (HM.out.keep hF)
        have hgc : w.heap.size ≤ gc := by omega
        have HF := Lib.hid (HF.out.trans hF)
        clear hB hF hgc0
        go_wp2_with fail
        refine (rmSwitch_any HM.out).mono ?_
        rintro e w5 ⟨rfl, hM, hF⟩
        have hsz5 := hF.size
        have HM := Lib.hid hM; have HF := Lib.hid (HF.out.step hF (fun x hx => by simp at hx; subst hx; exact .inr (by omega))); have HC := Lib.hid (HC.out.fr hF (by simp; omega))
        have HCOK := HOK; have HCS : Hid (M.segs ≤ j ∧ M.cnt ≤ j) := HSG
        have HOK := Lib.hid (RMap.shut_ok HOK.out)
        have HSG : Hid (M.shut.segs ≤ j ∧ M.shut.cnt ≤ j) := HSG
        have HCOP := Lib.hid (Cop.start M)
        have HSH : Hid (M.shut.opn = false) := Lib.hid rfl
        have H5 : Hid (M.shut.ssrc = 5) := H5
        have H97 : Hid (M.shut.pt = 97) := H97
        generalize M.shut = M2 at *
        clear hM hF hat
        cases hpr : parseR l with
        | ok p =>
          have HP := Lib.hid hpr
          have HWQ := Lib.hid (parse_back hpr).1
          have HWO := Lib.hid (RMap.out_wrong HOK.out (parse_back hpr).1)
          clear hpr
          go_wp2_with fail
          refine (rmBytes_any HM.out HOK.out (Sl.keep HR.out HF.out)).mono ?_
          rintro e u1 (⟨p, vr, hp, rfl, hO, hM, hF⟩ | ⟨k, hp, -⟩)
          rotate_left
          · rw [HP.out] at hp; cases hp
          rw [HP.out] at hp
          cases hp
          obtain ⟨ao, co, hvr⟩ := hO.nilOr
          subst hvr
          have HW := Lib.hid (Zl.ofB hO)
          have HF := Lib.hid (HF.out.step hF (fun x hx => by simp at hx; subst hx; exact .inr (by omega))); have HC := Lib.hid (HC.out.fr hF (by simp; omega))
          have HM := Lib.hid hM
          have hszu1 := hF.size
          clear hO hM hF
          go_wp2_with fail
          refine (Parse_any HW.out.sl).mono ?_
          rintro e u2 (⟨vq, q, hp, rfl, hVq, hF⟩ | ⟨k, hp, -⟩)
          rotate_left
          · rw [parse_bytes HWO.out] at hp; cases hp
          rw [parse_bytes HWO.out] at hp
          cases hp
          have HF := Lib.hid (HF.out.trans hF); have HM := Lib.hid (HM.out.keep hF); have HC := Lib.hid (HC.out.keep hF); have HW := Lib.hid (HW.out.keep hF)
          obtain ⟨b1, d1, b2, d2, b3, d3, b4, d4, rfl, -, -, -, -⟩ := hVq.open_
          have HPL := Lib.hid (Zl.payload hVq)
          have hszu2 := hF.size
          clear hF hVq
          go_wp2_with (refine wpList_store_row rfl 67 (.tmp 18) (.tmp 59) rfl u2.heap.size rfl _ _ rfl 67 (Box.new u2 67 #[.bool false, .int .i64 0, .int .u16 0, .int .u32 0, .int .u32 0, .slice none 0 0, .bool false, .int .u16 0, .slice none 0 0, .slice none 0 0, .slice none 0 0]) (by kernel_rfl) rfl (oneCell_pc _ _ _ _ _ _ _ _ _ _ _ ⟨_, _, _, rfl⟩ ⟨_, _, _, rfl⟩ ⟨_, _, _, rfl⟩ ⟨_, _, _, rfl⟩) ?_; intro u3 hY hG; have hFn := ((Fr.refl [] u2).alloc _).step hG (by simp); have HFn := Lib.hid hFn; have HY := Lib.hid hY; obtain ⟨x0, x1, x2, x3, x4, x5, x6, x7, x8, x9, x10⟩ := HY.out.pcells; clear hG hFn hY)
          clear x0 x1 x2 x3 x4 x5 x6 x7 x8 x9 x10
          have hF := HFn.out
          have HF := Lib.hid (HF.out.trans hF); have HM := Lib.hid (HM.out.keep hF); have HC := Lib.hid (HC.out.keep hF); have HW := Lib.hid (HW.out.keep hF); have HPL := Lib.hid (HPL.out.keep hF)
          have hszn := hF.size
          clear hF HFn
          have HYB := HY
          clear HY
          refine (rmNew_any 5 97 _ _ stp _).mono ?_
          rintro e u4 ⟨go, rfl, hgo1, hB, hF⟩
          have hgw := HM.out.lt; have hcw := HC.out.lt; have hyw := HYB.out.lt
          have HF := Lib.hid (HF.out.trans hF); have HM := Lib.hid (HM.out.keep hF); have HC := Lib.hid (HC.out.keep hF); have HW := Lib.hid (HW.out.keep hF); have HPL := Lib.hid (HPL.out.keep hF); have HYB := Lib.hid (HYB.out.keep hF)
          have HO := Lib.hid hB
          have hgo : w.heap.size ≤ go := by omega
          have hog : go ≠ g := by omega
          have hoc : go ≠ gc := by omega
          have hoy : go ≠ u2.heap.size := by omega
          have HOOK := Lib.hid (RMap.new_ok 5 97 (M2.out p).seq (M2.out p).ts stp)
          have HTW0 := Lib.hid (Twin.start HSH.out H5.out H97.out p stp _ _ rfl rfl)
          have HOS : Hid ((RMap.new 5 97 (M2.out p).seq (M2.out p).ts stp).segs ≤ j ∧ (RMap.new 5 97 (M2.out p).seq (M2.out p).ts stp).cnt ≤ j) := Lib.hid ⟨Nat.zero_le _, Nat.zero_le _⟩
          generalize RMap.new 5 97 (M2.out p).seq (M2.out p).ts stp = O at *
          have HOUT := Lib.hid HTW0.out.1
          have HTW := Lib.hid HTW0.out.2
          clear hB hF HTW0
          go_wp2_with fail
          refine (rmBytes_any HO.out HOOK.out (Sl.keep HR.out HF.out)).mono ?_
          rintro e u5 (⟨p2, vs, hp, rfl, hO, hM, hF⟩ | ⟨k, hp, -⟩)
          rotate_left
          · rw [HP.out] at hp; cases hp
          rw [HP.out] at hp
          cases hp
          rw [HOUT.out] at hO
          obtain ⟨as_, cs_, hvs⟩ := hO.nilOr
          subst hvs
          have HS := Lib.hid hO.bytes
          have HF := Lib.hid (HF.out.step hF (fun x hx => by simp at hx; subst hx; exact .inr (by omega))); have HM := Lib.hid (HM.out.fr hF (by simp; omega)); have HC := Lib.hid (HC.out.fr hF (by simp; omega)); have HW := Lib.hid (HW.out.hit hF (by omega)); have HPL := Lib.hid (HPL.out.hit hF (by omega)); have HYB := Lib.hid (HYB.out.fr hF (by simp; omega))
          have HO := Lib.hid hM
          have hszu5 := hF.size
          clear hO hM hF
          go_wp2_with fail
          refine (RSame_any HS.out HW.out.sl (by rw [bytes_len]; have := (Pkt.fit HWO.out).size; omega) (by rw [bytes_len]; have := (Pkt.fit HWO.out).size; omega)).mono ?_
          rintro e u6 ⟨rfl, hF⟩
          rw [show ((M2.out p).bytes == (M2.out p).bytes) = true by simp]
          have HF := Lib.hid (HF.out.trans hF); have HM := Lib.hid (HM.out.keep hF); have HC := Lib.hid (HC.out.keep hF); have HW := Lib.hid (HW.out.keep hF); have HPL := Lib.hid (HPL.out.keep hF); have HYB := Lib.hid (HYB.out.keep hF); have HO := Lib.hid (HO.out.keep hF); have HS := Lib.hid (Sl.keep HS.out hF)
          have hszu6 := hF.size
          clear hF HS
          go_wp2_with fail
          refine (rmBytes_any HC.out HCOK.out (Sl.keep HR.out HF.out)).mono ?_
          rintro e u7 (⟨p2, vc, hp, rfl, hO, hM, hF⟩ | ⟨k, hp, -⟩)
          rotate_left
          · rw [HP.out] at hp; cases hp
          rw [HP.out] at hp
          cases hp
          obtain ⟨ac_, cc_, hvc⟩ := hO.nilOr
          subst hvc
          have HWC := Lib.hid (RMap.out_wrong HCOK.out HWQ.out)
          have HX := Lib.hid hO.bytes
          have HF := Lib.hid (HF.out.step hF (fun x hx => by simp at hx; subst hx; exact .inr (by omega))); have HM := Lib.hid (HM.out.fr hF (by simp; omega)); have HW := Lib.hid (HW.out.hit hF (by omega)); have HPL := Lib.hid (HPL.out.hit hF (by omega)); have HYB := Lib.hid (HYB.out.fr hF (by simp; omega)); have HO := Lib.hid (HO.out.fr hF (by simp; omega))
          have HC := Lib.hid hM
          have hszu7 := hF.size
          clear hO hM hF
          go_wp2_with fail
          refine (Parse_any HX.out).mono ?_
          rintro e u8 (⟨vq, q, hp, rfl, hVq, hF⟩ | ⟨k, hp, -⟩)
          rotate_left
          · rw [parse_bytes HWC.out] at hp; cases hp
          rw [parse_bytes HWC.out] at hp
          cases hp
          have HF := Lib.hid (HF.out.trans hF); have HM := Lib.hid (HM.out.keep hF); have HC := Lib.hid (HC.out.keep hF); have HW := Lib.hid (HW.out.keep hF); have HPL := Lib.hid (HPL.out.keep hF); have HYB := Lib.hid (HYB.out.keep hF); have HO := Lib.hid (HO.out.keep hF)
          obtain ⟨g1, k1, g2, k2, g3, k3, g4, k4, rfl, -, -, hpl2, -⟩ := hVq.open_
          have HPL2 := Lib.hid hpl2
          have hszu8 := hF.size
          clear hF hVq hpl2 HX
          rw [show (M.out p).seq = (M2.out p).seq from HCOP.out.next]
          go_wp2_with (refine wpList_store_row rfl 67 (.tmp 24) (.tmp 105) rfl u8.heap.size rfl _ _ rfl 67 (Box.new u8 67 #[.bool false, .int .i64 0, .int .u16 0, .int .u32 0, .int .u32 0, .slice none 0 0, .bool false, .int .u16 0, .slice none 0 0, .slice none 0 0, .slice none 0 0]) (by kernel_rfl) rfl (oneCell_pc _ _ _ _ _ _ _ _ _ _ _ ⟨_, _, _, rfl⟩ ⟨_, _, _, rfl⟩ ⟨_, _, _, rfl⟩ ⟨_, _, _, rfl⟩) ?_; intro u9 hY hG; have hFn := ((Fr.refl [] u8).alloc _).step hG (by simp); have HFn := Lib.hid hFn; have HY := Lib.hid hY; have HYB := Lib.hid (HYB.out.keep HFn.out); obtain ⟨x0, x1, x2, x3, x4, x5, x6, x7, x8, x9, x10⟩ := HYB.out.pcells; obtain ⟨y0, y1, y2, y3, y4, y5, y6, y7, y8, y9, y10⟩ := HY.out.pcells; clear hG hFn hY)
          clear x0 x1 x2 x3 x4 x5 x6 x7 x8 x9 x10 y0 y1 y2 y3 y4 y5 y6 y7 y8 y9 y10
          have HPL2 := Lib.hid (Sl.keep HPL2.out HFn.out)
          have hF := HFn.out
          have HF := Lib.hid (HF.out.trans hF); have HM := Lib.hid (HM.out.keep hF); have HC := Lib.hid (HC.out.keep hF); have HW := Lib.hid (HW.out.keep hF); have HPL := Lib.hid (HPL.out.keep hF); have HO := Lib.hid (HO.out.keep hF)
          have hszn := hF.size
          clear hF HFn
          refine (RSame_any (l1 := p.payload) (l2 := p.payload) HPL2.out HPL.out.sl (by have := (Pkt.fit HWQ.out).sm.2.2.1; omega) (by have := (Pkt.fit HWQ.out).sm.2.2.1; omega)).mono ?_
          rintro e u10 ⟨rfl, hF⟩
          rw [show (p.payload == p.payload) = true by simp]
          have HF := Lib.hid (HF.out.trans hF); have HM := Lib.hid (HM.out.keep hF); have HC := Lib.hid (HC.out.keep hF); have HW := Lib.hid (HW.out.keep hF); have HPL := Lib.hid (HPL.out.keep hF); have HO := Lib.hid (HO.out.keep hF)
          clear hF
          go_wp2_with fail
          have HST := Lib.hid (RMap.step_ok HOK.out HSG.out.1 HSG.out.2 (by omega) p)
          have HCT := Lib.hid (RMap.step_ok HCOK.out HCS.out.1 HCS.out.2 (by omega) p)
          have HOT := Lib.hid (RMap.step_ok HOOK.out HOS.out.1 HOS.out.2 (by omega) p)
          go_roundw
          case rel => exact ⟨j + 1, _, by omega, by go_num, ⟨HM.out, HST.out.1, HST.out.2.1, HST.out.2.2, (M2.step_keep p).1.trans H5.out, (M2.step_keep p).2.trans H97.out, HF.out⟩, .inr ⟨gc, _, rfl, hgc, hcg, HC.out, HCT.out.1, HCT.out.2.1, HCT.out.2.2, HCOP.out.step p, by omega, .inr ⟨go, _, rfl, hgo, hog, hoc, HO.out, HOT.out.1, HOT.out.2.1, HOT.out.2.2, HTW.out⟩⟩⟩
          case measure => simp [intOf]; omega
        | error k =>
          have HP := Lib.hid hpr
          have hk : (k != 0) = true := by simpa using parseR_err hpr
          have hk2 : (k == 0) = false := by simpa using parseR_err hpr
          clear hpr
          go_wp2_with fail
          refine (rmBytes_any HM.out HOK.out (Sl.keep HR.out HF.out)).mono ?_
          rintro e u1 (⟨p, vr, hp, -⟩ | ⟨k, hp, rfl, hM, hF⟩)
          · rw [HP.out] at hp; cases hp
          rw [HP.out] at hp
          cases hp
          have HF := Lib.hid (HF.out.trans hF); have HM := Lib.hid (HM.out.keep hF); have HC := Lib.hid (HC.out.keep hF)
          have hszu1 := hF.size
          clear hM hF
          go_wp2_with fail
          refine (Parse_any (show Bytes u1 (.slice none 0 0) [] from Sl.nil _)).mono ?_
          rintro e u2 (⟨vq, q, hp, -⟩ | ⟨k2, hp, rfl, hF⟩)
          · rw [parse_nil0] at hp; cases hp
          clear hp
          have HF := Lib.hid (HF.out.trans hF); have HM := Lib.hid (HM.out.keep hF); have HC := Lib.hid (HC.out.keep hF)
          have hszu2 := hF.size
          clear hF
          unfold pz
          go_wp2_with (refine wpList_store_row rfl 67 (.tmp 18) (.tmp 59) rfl u2.heap.size rfl _ _ rfl 67 (Box.new u2 67 #[.bool false, .int .i64 0, .int .u16 0, .int .u32 0, .int .u32 0, .slice none 0 0, .bool false, .int .u16 0, .slice none 0 0, .slice none 0 0, .slice none 0 0]) (by kernel_rfl) rfl (oneCell_pz) ?_; intro u3 hY hG; have hFn := ((Fr.refl [] u2).alloc _).step hG (by simp); have HFn := Lib.hid hFn; have HY := Lib.hid hY; clear hG hFn hY)
          have hF := HFn.out
          have HF := Lib.hid (HF.out.trans hF); have HM := Lib.hid (HM.out.keep hF); have HC := Lib.hid (HC.out.keep hF)
          have hszn := hF.size
          clear hF HFn
          clear HY
          refine (rmBytes_any HC.out HCOK.out (Sl.keep HR.out HF.out)).mono ?_
          rintro e u4 (⟨p2, vc, hp, -⟩ | ⟨k2, hp, rfl, hM, hF⟩)
          · rw [HP.out] at hp; cases hp
          rw [HP.out] at hp
          cases hp
          have HF := Lib.hid (HF.out.trans hF); have HM := Lib.hid (HM.out.keep hF); have HC := Lib.hid (HC.out.keep hF)
          clear hM hF
          go_wp2_with fail
          refine (Parse_any (show Bytes u4 (.slice none 0 0) [] from Sl.nil _)).mono ?_
          rintro e u5 (⟨vq, q, hp, -⟩ | ⟨k3, hp, rfl, hF⟩)
          · rw [parse_nil0] at hp; cases hp
          clear hp
          have HF := Lib.hid (HF.out.trans hF); have HM := Lib.hid (HM.out.keep hF); have HC := Lib.hid (HC.out.keep hF)
          clear hF
          unfold pz
          go_upto_region 24 with (refine wpList_store_row rfl 67 (.tmp 24) (.tmp 105) rfl u5.heap.size rfl _ _ rfl 67 (Box.new u5 67 #[.bool false, .int .i64 0, .int .u16 0, .int .u32 0, .int .u32 0, .slice none 0 0, .bool false, .int .u16 0, .slice none 0 0, .slice none 0 0, .slice none 0 0]) (by kernel_rfl) rfl (oneCell_pz) ?_; intro u6 hY hG; have hFn := ((Fr.refl [] u5).alloc _).step hG (by simp); have HFn := Lib.hid hFn; have HY := Lib.hid hY; clear hG hFn hY)
          clear HY
          have hF := HFn.out
          have HF := Lib.hid (HF.out.trans hF); have HM := Lib.hid (HM.out.keep hF); have HC := Lib.hid (HC.out.keep hF)
          have hszn := hF.size
          clear hF HFn
          go_wp2_with fail
          go_roundw
          case rel => exact ⟨j + 1, _, by omega, by go_num, ⟨HM.out, HOK.out, by have := HSG.out; omega, by have := HSG.out; omega, H5.out, H97.out, HF.out⟩, .inr ⟨gc, _, rfl, hgc, hcg, HC.out, HCOK.out, by have := HCS.out; omega, by have := HCS.out; omega, HCOP.out, by omega, .inl ⟨rfl, HSH.out⟩⟩⟩
          case measure => simp [intOf]; omega
      · have hat2 : (((j : Nat) : Int) == bits .and .i64 att 31) = false := by simpa using hat
        clear hat
        go_wp2_with fail
        cases hpr : parseR l with
        | ok p =>
          have HP := Lib.hid hpr
          have HWQ := Lib.hid (parse_back hpr).1
          have HWO := Lib.hid (RMap.out_wrong HOK.out (parse_back hpr).1)
          clear hpr
          go_wp2_with fail
          refine (rmBytes_any HM.out HOK.out (Sl.keep HR.out HF.out)).mono ?_
          rintro e u1 (⟨p, vr, hp, rfl, hO, hM, hF⟩ | ⟨k, hp, -⟩)
          rotate_left
          · rw [HP.out] at hp; cases hp
          rw [HP.out] at hp
          cases hp
          obtain ⟨ao, co, hvr⟩ := hO.nilOr
          subst hvr
          have HW := Lib.hid (Zl.ofB hO)
          have HF := Lib.hid (HF.out.step hF (fun x hx => by simp at hx; subst hx; exact .inr (by omega)))
          have HM := Lib.hid hM
          have hszu1 := hF.size
          clear hO hM hF
          go_wp2_with fail
          refine (Parse_any HW.out.sl).mono ?_
          rintro e u2 (⟨vq, q, hp, rfl, hVq, hF⟩ | ⟨k, hp, -⟩)
          rotate_left
          · rw [parse_bytes HWO.out] at hp; cases hp
          rw [parse_bytes HWO.out] at hp
          cases hp
          have HF := Lib.hid (HF.out.trans hF); have HM := Lib.hid (HM.out.keep hF); have HW := Lib.hid (HW.out.keep hF)
          obtain ⟨b1, d1, b2, d2, b3, d3, b4, d4, rfl, -, -, -, -⟩ := hVq.open_
          have HPL := Lib.hid (Zl.payload hVq)
          have hszu2 := hF.size
          clear hF hVq
          go_wp2_with (refine wpList_store_row rfl 67 (.tmp 18) (.tmp 59) rfl u2.heap.size rfl _ _ rfl 67 (Box.new u2 67 #[.bool false, .int .i64 0, .int .u16 0, .int .u32 0, .int .u32 0, .slice none 0 0, .bool false, .int .u16 0, .slice none 0 0, .slice none 0 0, .slice none 0 0]) (by kernel_rfl) rfl (oneCell_pc _ _ _ _ _ _ _ _ _ _ _ ⟨_, _, _, rfl⟩ ⟨_, _, _, rfl⟩ ⟨_, _, _, rfl⟩ ⟨_, _, _, rfl⟩) ?_; intro u3 hY hG; have hFn := ((Fr.refl [] u2).alloc _).step hG (by simp); have HFn := Lib.hid hFn; have HY := Lib.hid hY; clear hG hFn hY)
          clear HY
          have hF := HFn.out
          have HF := Lib.hid (HF.out.trans hF); have HM := Lib.hid (HM.out.keep hF); have HW := Lib.hid (HW.out.keep hF); have HPL := Lib.hid (HPL.out.keep hF)
          have hszn := hF.size
          clear hF HFn
          have HST := Lib.hid (RMap.step_ok HOK.out HSG.out.1 HSG.out.2 (by omega) p)
          go_roundw
          case rel => exact ⟨j + 1, _, by omega, by go_num, ⟨HM.out, HST.out.1, HST.out.2.1, HST.out.2.2, (M.step_keep p).1.trans H5.out, (M.step_keep p).2.trans H97.out, HF.out⟩, .inl ⟨rfl, rfl⟩⟩
          case measure => simp [intOf]; omega
        | error k =>
          have HP := Lib.hid hpr
          have hk : (k != 0) = true := by simpa using parseR_err hpr
          have hk2 : (k == 0) = false := by simpa using parseR_err hpr
          clear hpr
          go_wp2_with fail
          refine (rmBytes_any HM.out HOK.out (Sl.keep HR.out HF.out)).mono ?_
          rintro e u1 (⟨p, vr, hp, -⟩ | ⟨k, hp, rfl, hM, hF⟩)
          · rw [HP.out] at hp; cases hp
          rw [HP.out] at hp
          cases hp
          have HF := Lib.hid (HF.out.trans hF); have HM := Lib.hid (HM.out.keep hF)
          have hszu1 := hF.size
          clear hM hF
          go_wp2_with fail
          refine (Parse_any (show Bytes u1 (.slice none 0 0) [] from Sl.nil _)).mono ?_
          rintro e u2 (⟨vq, q, hp, -⟩ | ⟨k2, hp, rfl, hF⟩)
          · rw [parse_nil0] at hp; cases hp
          clear hp
          have HF := Lib.hid (HF.out.trans hF); have HM := Lib.hid (HM.out.keep hF)
          have hszu2 := hF.size
          clear hF
          unfold pz
          go_wp2_with (refine wpList_store_row rfl 67 (.tmp 18) (.tmp 59) rfl u2.heap.size rfl _ _ rfl 67 (Box.new u2 67 #[.bool false, .int .i64 0, .int .u16 0, .int .u32 0, .int .u32 0, .slice none 0 0, .bool false, .int .u16 0, .slice none 0 0, .slice none 0 0, .slice none 0 0]) (by kernel_rfl) rfl (oneCell_pz) ?_; intro u3 hY hG; have hFn := ((Fr.refl [] u2).alloc _).step hG (by simp); have HFn := Lib.hid hFn; have HY := Lib.hid hY; clear hG hFn hY)
          clear HY
          have hF := HFn.out
          have HF := Lib.hid (HF.out.trans hF); have HM := Lib.hid (HM.out.keep hF)
          have hszn := hF.size
          clear hF HFn
          go_roundw
          case rel => exact ⟨j + 1, _, by omega, by go_num, ⟨HM.out, HOK.out, by have := HSG.out; omega, by have := HSG.out; omega, H5.out, H97.out, HF.out⟩, .inl ⟨rfl, rfl⟩⟩
          case measure => simp [intOf]; omega
    · have hat2 : (((j : Nat) : Int) == bits .and .i64 att 31) = false := by simp; omega
      have hcl := hCB.lt
      have HC := Lib.hid hCB; have HCOK := Lib.hid hCok; have HCOP := Lib.hid hcop
      have HCS : Hid (C.segs ≤ j ∧ C.cnt ≤ j) := Lib.hid ⟨hCs, hCc⟩
      clear hCB hCok hCs hCc hcop
      rcases hO with ⟨rfl, hsh⟩ | ⟨go, O, rfl, hgo, hog, hoc, hOB, hOok, hOs, hOc, htw⟩
      · have HSH := Lib.hid hsh
        clear hsh
        go_wp2_with fail
        cases hpr : parseR l with
        | ok p =>
          have HP := Lib.hid hpr
          have HWQ := Lib.hid (parse_back hpr).1
          have HWO := Lib.hid (RMap.out_wrong HOK.out (parse_back hpr).1)
          clear hpr
          go_wp2_with fail
          refine (rmBytes_any HM.out HOK.out (Sl.keep HR.out HF.out)).mono ?_
          rintro e u1 (⟨p, vr, hp, rfl, hO, hM, hF⟩ | ⟨k, hp, -⟩)
          rotate_left
          · rw [HP.out] at hp; cases hp
          rw [HP.out] at hp
          cases hp
          obtain ⟨ao, co, hvr⟩ := hO.nilOr
          subst hvr
          have HW := Lib.hid (Zl.ofB hO)
          have HF := Lib.hid (HF.out.step hF (fun x hx => by simp at hx; subst hx; exact .inr (by omega))); have HC := Lib.hid (HC.out.fr hF (by simp; omega))
          have HM := Lib.hid hM
          have hszu1 := hF.size
          clear hO hM hF
          go_wp2_with fail
          refine (Parse_any HW.out.sl).mono ?_
          rintro e u2 (⟨vq, q, hp, rfl, hVq, hF⟩ | ⟨k, hp, -⟩)
          rotate_left
          · rw [parse_bytes HWO.out] at hp; cases hp
          rw [parse_bytes HWO.out] at hp
          cases hp
          have HF := Lib.hid (HF.out.trans hF); have HM := Lib.hid (HM.out.keep hF); have HC := Lib.hid (HC.out.keep hF); have HW := Lib.hid (HW.out.keep hF)
          obtain ⟨b1, d1, b2, d2, b3, d3, b4, d4, rfl, -, -, -, -⟩ := hVq.open_
          have HPL := Lib.hid (Zl.payload hVq)
          have hszu2 := hF.size
          clear hF hVq
          go_wp2_with (refine wpList_store_row rfl 67 (.tmp 18) (.tmp 59) rfl u2.heap.size rfl _ _ rfl 67 (Box.new u2 67 #[.bool false, .int .i64 0, .int .u16 0, .int .u32 0, .int .u32 0, .slice none 0 0, .bool false, .int .u16 0, .slice none 0 0, .slice none 0 0, .slice none 0 0]) (by kernel_rfl) rfl (oneCell_pc _ _ _ _ _ _ _ _ _ _ _ ⟨_, _, _, rfl⟩ ⟨_, _, _, rfl⟩ ⟨_, _, _, rfl⟩ ⟨_, _, _, rfl⟩) ?_; intro u3 hY hG; have hFn := ((Fr.refl [] u2).alloc _).step hG (by simp); have HFn := Lib.hid hFn; have HY := Lib.hid hY; obtain ⟨x0, x1, x2, x3, x4, x5, x6, x7, x8, x9, x10⟩ := HY.out.pcells; clear hG hFn hY)
          clear x0 x1 x2 x3 x4 x5 x6 x7 x8 x9 x10
          have hF := HFn.out
          have HF := Lib.hid (HF.out.trans hF); have HM := Lib.hid (HM.out.keep hF); have HC := Lib.hid (HC.out.keep hF); have HW := Lib.hid (HW.out.keep hF); have HPL := Lib.hid (HPL.out.keep hF)
          have hszn := hF.size
          clear hF HFn
          have HYB := HY
          clear HY
          refine (rmNew_any 5 97 _ _ stp _).mono ?_
          rintro e u4 ⟨go, rfl, hgo1, hB, hF⟩
          have hgw := HM.out.lt; have hcw := HC.out.lt; have hyw := HYB.out.lt
          have HF := Lib.hid (HF.out.trans hF); have HM := Lib.hid (HM.out.keep hF); have HC := Lib.hid (HC.out.keep hF); have HW := Lib.hid (HW.out.keep hF); have HPL := Lib.hid (HPL.out.keep hF); have HYB := Lib.hid (HYB.out.keep hF)
          have HO := Lib.hid hB
          have hgo : w.heap.size ≤ go := by omega
          have hog : go ≠ g := by omega
          have hoc : go ≠ gc := by omega
          have hoy : go ≠ u2.heap.size := by omega
          have HOOK := Lib.hid (RMap.new_ok 5 97 (M.out p).seq (M.out p).ts stp)
          have HTW0 := Lib.hid (Twin.start HSH.out H5.out H97.out p stp _ _ rfl rfl)
          have HOS : Hid ((RMap.new 5 97 (M.out p).seq (M.out p).ts stp).segs ≤ j ∧ (RMap.new 5 97 (M.out p).seq (M.out p).ts stp).cnt ≤ j) := Lib.hid ⟨Nat.zero_le _, Nat.zero_le _⟩
          generalize RMap.new 5 97 (M.out p).seq (M.out p).ts stp = O at *
          have HOUT := Lib.hid HTW0.out.1
          have HTW := Lib.hid HTW0.out.2
          clear hB hF HTW0
          go_wp2_with fail
          refine (rmBytes_any HO.out HOOK.out (Sl.keep HR.out HF.out)).mono ?_
          rintro e u5 (⟨p2, vs, hp, rfl, hO, hM, hF⟩ | ⟨k, hp, -⟩)
          rotate_left
          · rw [HP.out] at hp; cases hp
          rw [HP.out] at hp
          cases hp
          rw [HOUT.out] at hO
          obtain ⟨as_, cs_, hvs⟩ := hO.nilOr
          subst hvs
          have HS := Lib.hid hO.bytes
          have HF := Lib.hid (HF.out.step hF (fun x hx => by simp at hx; subst hx; exact .inr (by omega))); have HM := Lib.hid (HM.out.fr hF (by simp; omega)); have HC := Lib.hid (HC.out.fr hF (by simp; omega)); have HW := Lib.hid (HW.out.hit hF (by omega)); have HPL := Lib.hid (HPL.out.hit hF (by omega)); have HYB := Lib.hid (HYB.out.fr hF (by simp; omega))
          have HO := Lib.hid hM
          have hszu5 := hF.size
          clear hO hM hF
          go_wp2_with fail
          refine (RSame_any HS.out HW.out.sl (by rw [bytes_len]; have := (Pkt.fit HWO.out).size; omega) (by rw [bytes_len]; have := (Pkt.fit HWO.out).size; omega)).mono ?_
          rintro e u6 ⟨rfl, hF⟩
          rw [show ((M.out p).bytes == (M.out p).bytes) = true by simp]
          have HF := Lib.hid (HF.out.trans hF); have HM := Lib.hid (HM.out.keep hF); have HC := Lib.hid (HC.out.keep hF); have HW := Lib.hid (HW.out.keep hF); have HPL := Lib.hid (HPL.out.keep hF); have HYB := Lib.hid (HYB.out.keep hF); have HO := Lib.hid (HO.out.keep hF); have HS := Lib.hid (Sl.keep HS.out hF)
          have hszu6 := hF.size
          clear hF HS
          go_wp2_with fail
          refine (rmBytes_any HC.out HCOK.out (Sl.keep HR.out HF.out)).mono ?_
          rintro e u7 (⟨p2, vc, hp, rfl, hO, hM, hF⟩ | ⟨k, hp, -⟩)
          rotate_left
          · rw [HP.out] at hp; cases hp
          rw [HP.out] at hp
          cases hp
          obtain ⟨ac_, cc_, hvc⟩ := hO.nilOr
          subst hvc
          have HWC := Lib.hid (RMap.out_wrong HCOK.out HWQ.out)
          have HX := Lib.hid hO.bytes
          have HF := Lib.hid (HF.out.step hF (fun x hx => by simp at hx; subst hx; exact .inr (by omega))); have HM := Lib.hid (HM.out.fr hF (by simp; omega)); have HW := Lib.hid (HW.out.hit hF (by omega)); have HPL := Lib.hid (HPL.out.hit hF (by omega)); have HYB := Lib.hid (HYB.out.fr hF (by simp; omega)); have HO := Lib.hid (HO.out.fr hF (by simp; omega))
          have HC := Lib.hid hM
          have hszu7 := hF.size
          clear hO hM hF
          go_wp2_with fail
          refine (Parse_any HX.out).mono ?_
          rintro e u8 (⟨vq, q, hp, rfl, hVq, hF⟩ | ⟨k, hp, -⟩)
          rotate_left
          · rw [parse_bytes HWC.out] at hp; cases hp
          rw [parse_bytes HWC.out] at hp
          cases hp
          have HF := Lib.hid (HF.out.trans hF); have HM := Lib.hid (HM.out.keep hF); have HC := Lib.hid (HC.out.keep hF); have HW := Lib.hid (HW.out.keep hF); have HPL := Lib.hid (HPL.out.keep hF); have HYB := Lib.hid (HYB.out.keep hF); have HO := Lib.hid (HO.out.keep hF)
          obtain ⟨g1, k1, g2, k2, g3, k3, g4, k4, rfl, -, -, hpl2, -⟩ := hVq.open_
          have HPL2 := Lib.hid hpl2
          have hszu8 := hF.size
          clear hF hVq hpl2 HX
          rw [show (C.out p).seq = (M.out p).seq from HCOP.out.next]
          go_wp2_with (refine wpList_store_row rfl 67 (.tmp 24) (.tmp 105) rfl u8.heap.size rfl _ _ rfl 67 (Box.new u8 67 #[.bool false, .int .i64 0, .int .u16 0, .int .u32 0, .int .u32 0, .slice none 0 0, .bool false, .int .u16 0, .slice none 0 0, .slice none 0 0, .slice none 0 0]) (by kernel_rfl) rfl (oneCell_pc _ _ _ _ _ _ _ _ _ _ _ ⟨_, _, _, rfl⟩ ⟨_, _, _, rfl⟩ ⟨_, _, _, rfl⟩ ⟨_, _, _, rfl⟩) ?_; intro u9 hY hG; have hFn := ((Fr.refl [] u8).alloc _).step hG (by simp); have HFn := Lib.hid hFn; have HY := Lib.hid hY; have HYB := Lib.hid (HYB.out.keep HFn.out); obtain ⟨x0, x1, x2, x3, x4, x5, x6, x7, x8, x9, x10⟩ := HYB.out.pcells; obtain ⟨y0, y1, y2, y3, y4, y5, y6, y7, y8, y9, y10⟩ := HY.out.pcells; clear hG hFn hY)
          clear x0 x1 x2 x3 x4 x5 x6 x7 x8 x9 x10 y0 y1 y2 y3 y4 y5 y6 y7 y8 y9 y10
          have HPL2 := Lib.hid (Sl.keep HPL2.out HFn.out)
          have hF := HFn.out
          have HF := Lib.hid (HF.out.trans hF); have HM := Lib.hid (HM.out.keep hF); have HC := Lib.hid (HC.out.keep hF); have HW := Lib.hid (HW.out.keep hF); have HPL := Lib.hid (HPL.out.keep hF); have HO := Lib.hid (HO.out.keep hF)
          have hszn := hF.size
          clear hF HFn
          refine (RSame_any (l1 := p.payload) (l2 := p.payload) HPL2.out HPL.out.sl (by have := (Pkt.fit HWQ.out).sm.2.2.1; omega) (by have := (Pkt.fit HWQ.out).sm.2.2.1; omega)).mono ?_
          rintro e u10 ⟨rfl, hF⟩
          rw [show (p.payload == p.payload) = true by simp]
          have HF := Lib.hid (HF.out.trans hF); have HM := Lib.hid (HM.out.keep hF); have HC := Lib.hid (HC.out.keep hF); have HW := Lib.hid (HW.out.keep hF); have HPL := Lib.hid (HPL.out.keep hF); have HO := Lib.hid (HO.out.keep hF)
          clear hF
          go_wp2_with fail
          have HST := Lib.hid (RMap.step_ok HOK.out HSG.out.1 HSG.out.2 (by omega) p)
          have HCT := Lib.hid (RMap.step_ok HCOK.out HCS.out.1 HCS.out.2 (by omega) p)
          have HOT := Lib.hid (RMap.step_ok HOOK.out HOS.out.1 HOS.out.2 (by omega) p)
          go_roundw
          case rel => exact ⟨j + 1, _, by omega, by go_num, ⟨HM.out, HST.out.1, HST.out.2.1, HST.out.2.2, (M.step_keep p).1.trans H5.out, (M.step_keep p).2.trans H97.out, HF.out⟩, .inr ⟨gc, _, rfl, hgc, hcg, HC.out, HCT.out.1, HCT.out.2.1, HCT.out.2.2, HCOP.out.step p, by omega, .inr ⟨go, _, rfl, hgo, hog, hoc, HO.out, HOT.out.1, HOT.out.2.1, HOT.out.2.2, HTW.out⟩⟩⟩
          case measure => simp [intOf]; omega
        | error k =>
          have HP := Lib.hid hpr
          have hk : (k != 0) = true := by simpa using parseR_err hpr
          have hk2 : (k == 0) = false := by simpa using parseR_err hpr
          clear hpr
          go_wp2_with fail
          refine (rmBytes_any HM.out HOK.out (Sl.keep HR.out HF.out)).mono ?_
          rintro e u1 (⟨p, vr, hp, -⟩ | ⟨k, hp, rfl, hM, hF⟩)
          · rw [HP.out] at hp; cases hp
          rw [HP.out] at hp
          cases hp
          have HF := Lib.hid (HF.out.trans hF); have HM := Lib.hid (HM.out.keep hF); have HC := Lib.hid (HC.out.keep hF)
          have hszu1 := hF.size
          clear hM hF
          go_wp2_with fail
          refine (Parse_any (show Bytes u1 (.slice none 0 0) [] from Sl.nil _)).mono ?_
          rintro e u2 (⟨vq, q, hp, -⟩ | ⟨k2, hp, rfl, hF⟩)
          · rw [parse_nil0] at hp; cases hp
          clear hp
          have HF := Lib.hid (HF.out.trans hF); have HM := Lib.hid (HM.out.keep hF); have HC := Lib.hid (HC.out.keep hF)
          have hszu2 := hF.size
          clear hF
          unfold pz
          go_wp2_with (refine wpList_store_row rfl 67 (.tmp 18) (.tmp 59) rfl u2.heap.size rfl _ _ rfl 67 (Box.new u2 67 #[.bool false, .int .i64 0, .int .u16 0, .int .u32 0, .int .u32 0, .slice none 0 0, .bool false, .int .u16 0, .slice none 0 0, .slice none 0 0, .slice none 0 0]) (by kernel_rfl) rfl (oneCell_pz) ?_; intro u3 hY hG; have hFn := ((Fr.refl [] u2).alloc _).step hG (by simp); have HFn := Lib.hid hFn; have HY := Lib.hid hY; clear hG hFn hY)
          have hF := HFn.out
          have HF := Lib.hid (HF.out.trans hF); have HM := Lib.hid (HM.out.keep hF); have HC := Lib.hid (HC.out.keep hF)
          have hszn := hF.size
          clear hF HFn
          clear HY
          refine (rmBytes_any HC.out HCOK.out (Sl.keep HR.out HF.out)).mono ?_
          rintro e u4 (⟨p2, vc, hp, -⟩ | ⟨k2, hp, rfl, hM, hF⟩)
          · rw [HP.out] at hp; cases hp
          rw [HP.out] at hp
          cases hp
          have HF := Lib.hid (HF.out.trans hF); have HM := Lib.hid (HM.out.keep hF); have HC := Lib.hid (HC.out.keep hF)
          clear hM hF
          go_wp2_with fail
          refine (Parse_any (show Bytes u4 (.slice none 0 0) [] from Sl.nil _)).mono ?_
          rintro e u5 (⟨vq, q, hp, -⟩ | ⟨k3, hp, rfl, hF⟩)
          · rw [parse_nil0] at hp; cases hp
          clear hp
          have HF := Lib.hid (HF.out.trans hF); have HM := Lib.hid (HM.out.keep hF); have HC := Lib.hid (HC.out.keep hF)
          clear hF
          unfold pz
          go_upto_region 24 with (refine wpList_store_row rfl 67 (.tmp 24) (.tmp 105) rfl u5.heap.size rfl _ _ rfl 67 (Box.new u5 67 #[.bool false, .int .i64 0, .int .u16 0, .int .u32 0, .int .u32 0, .slice none 0 0, .bool false, .int .u16 0, .slice none 0 0, .slice none 0 0, .slice none 0 0]) (by kernel_rfl) rfl (oneCell_pz) ?_; intro u6 hY hG; have hFn := ((Fr.refl [] u5).alloc _).step hG (by simp); have HFn := Lib.hid hFn; have HY := Lib.hid hY; clear hG hFn hY)
          clear HY
          have hF := HFn.out
          have HF := Lib.hid (HF.out.trans hF); have HM := Lib.hid (HM.out.keep hF); have HC := Lib.hid (HC.out.keep hF)
          have hszn := hF.size
          clear hF HFn
          go_wp2_with fail
          go_roundw
          case rel => exact ⟨j + 1, _, by omega, by go_num, ⟨HM.out, HOK.out, by have := HSG.out; omega, by have := HSG.out; omega, H5.out, H97.out, HF.out⟩, .inr ⟨gc, _, rfl, hgc, hcg, HC.out, HCOK.out, by have := HCS.out; omega, by have := HCS.out; omega, HCOP.out, by omega, .inl ⟨rfl, HSH.out⟩⟩⟩
          case measure => simp [intOf]; omega
      · have hol := hOB.lt
        have HO := Lib.hid hOB; have HOOK := Lib.hid hOok; have HTW := Lib.hid htw
        have HOS : Hid (O.segs ≤ j ∧ O.cnt ≤ j) := Lib.hid ⟨hOs, hOc⟩
        clear hOB hOok hOs hOc htw
        go_wp2_with fail
        cases hpr : parseR l with
        | ok p =>
          have HP := Lib.hid hpr
          have HWQ := Lib.hid (parse_back hpr).1
          have HWO := Lib.hid (RMap.out_wrong HOK.out (parse_back hpr).1)
          clear hpr
          go_wp2_with fail
          refine (rmBytes_any HM.out HOK.out (Sl.keep HR.out HF.out)).mono ?_
          rintro e u1 (⟨p, vr, hp, rfl, hO, hM, hF⟩ | ⟨k, hp, -⟩)
          rotate_left
          · rw [HP.out] at hp; cases hp
          rw [HP.out] at hp
          cases hp
          obtain ⟨ao, co, hvr⟩ := hO.nilOr
          subst hvr
          have HW := Lib.hid (Zl.ofB hO)
          have HF := Lib.hid (HF.out.step hF (fun x hx => by simp at hx; subst hx; exact .inr (by omega))); have HC := Lib.hid (HC.out.fr hF (by simp; omega)); have HO := Lib.hid (HO.out.fr hF (by simp; omega))
          have HM := Lib.hid hM
          have hszu1 := hF.size
          clear hO hM hF
          go_wp2_with fail
          refine (Parse_any HW.out.sl).mono ?_
          rintro e u2 (⟨vq, q, hp, rfl, hVq, hF⟩ | ⟨k, hp, -⟩)
          rotate_left
          · rw [parse_bytes HWO.out] at hp; cases hp
          rw [parse_bytes HWO.out] at hp
          cases hp
          have HF := Lib.hid (HF.out.trans hF); have HM := Lib.hid (HM.out.keep hF); have HC := Lib.hid (HC.out.keep hF); have HO := Lib.hid (HO.out.keep hF); have HW := Lib.hid (HW.out.keep hF)
          obtain ⟨b1, d1, b2, d2, b3, d3, b4, d4, rfl, -, -, -, -⟩ := hVq.open_
          have HPL := Lib.hid (Zl.payload hVq)
          have hszu2 := hF.size
          clear hF hVq
          go_wp2_with (refine wpList_store_row rfl 67 (.tmp 18) (.tmp 59) rfl u2.heap.size rfl _ _ rfl 67 (Box.new u2 67 #[.bool false, .int .i64 0, .int .u16 0, .int .u32 0, .int .u32 0, .slice none 0 0, .bool false, .int .u16 0, .slice none 0 0, .slice none 0 0, .slice none 0 0]) (by kernel_rfl) rfl (oneCell_pc _ _ _ _ _ _ _ _ _ _ _ ⟨_, _, _, rfl⟩ ⟨_, _, _, rfl⟩ ⟨_, _, _, rfl⟩ ⟨_, _, _, rfl⟩) ?_; intro u3 hY hG; have hFn := ((Fr.refl [] u2).alloc _).step hG (by simp); have HFn := Lib.hid hFn; have HY := Lib.hid hY; clear hG hFn hY)
          have hF := HFn.out
          have HF := Lib.hid (HF.out.trans hF); have HM := Lib.hid (HM.out.keep hF); have HC := Lib.hid (HC.out.keep hF); have HO := Lib.hid (HO.out.keep hF); have HW := Lib.hid (HW.out.keep hF); have HPL := Lib.hid (HPL.out.keep hF)
          have hszn := hF.size
          clear hF HFn
          have HYB := HY
          clear HY
          have HOUT := Lib.hid (HTW.out.out p)
          have HTW := Lib.hid (HTW.out.step p)
          refine (rmBytes_any HO.out HOOK.out (Sl.keep HR.out HF.out)).mono ?_
          rintro e u4 (⟨p2, vs, hp, rfl, hO, hM, hF⟩ | ⟨k, hp, -⟩)
          rotate_left
          · rw [HP.out] at hp; cases hp
          rw [HP.out] at hp
          cases hp
          rw [HOUT.out] at hO
          obtain ⟨as_, cs_, hvs⟩ := hO.nilOr
          subst hvs
          have HS := Lib.hid hO.bytes
          have HF := Lib.hid (HF.out.step hF (fun x hx => by simp at hx; subst hx; exact .inr (by omega))); have HM := Lib.hid (HM.out.fr hF (by simp; omega)); have HC := Lib.hid (HC.out.fr hF (by simp; omega)); have HW := Lib.hid (HW.out.hit hF (by omega)); have HPL := Lib.hid (HPL.out.hit hF (by omega)); have HYB := Lib.hid (HYB.out.fr hF (by simp; omega))
          have HO := Lib.hid hM
          have hszu4 := hF.size
          clear hO hM hF
          go_wp2_with fail
          refine (RSame_any HS.out HW.out.sl (by rw [bytes_len]; have := (Pkt.fit HWO.out).size; omega) (by rw [bytes_len]; have := (Pkt.fit HWO.out).size; omega)).mono ?_
          rintro e u5 ⟨rfl, hF⟩
          rw [show ((M.out p).bytes == (M.out p).bytes) = true by simp]
          have HF := Lib.hid (HF.out.trans hF); have HM := Lib.hid (HM.out.keep hF); have HC := Lib.hid (HC.out.keep hF); have HO := Lib.hid (HO.out.keep hF); have HW := Lib.hid (HW.out.keep hF); have HPL := Lib.hid (HPL.out.keep hF); have HYB := Lib.hid (HYB.out.keep hF); have HS := Lib.hid (Sl.keep HS.out hF)
          have hszu5 := hF.size
          clear hF HS
          go_wp2_with fail
          refine (rmBytes_any HC.out HCOK.out (Sl.keep HR.out HF.out)).mono ?_
          rintro e u6 (⟨p2, vc, hp, rfl, hO, hM, hF⟩ | ⟨k, hp, -⟩)
          rotate_left
          · rw [HP.out] at hp; cases hp
          rw [HP.out] at hp
          cases hp
          obtain ⟨ac_, cc_, hvc⟩ := hO.nilOr
          subst hvc
          have HWC := Lib.hid (RMap.out_wrong HCOK.out HWQ.out)
          have HX := Lib.hid hO.bytes
          have HF := Lib.hid (HF.out.step hF (fun x hx => by simp at hx; subst hx; exact .inr (by omega))); have HM := Lib.hid (HM.out.fr hF (by simp; omega)); have HO := Lib.hid (HO.out.fr hF (by simp; omega)); have HW := Lib.hid (HW.out.hit hF (by omega)); have HPL := Lib.hid (HPL.out.hit hF (by omega)); have HYB := Lib.hid (HYB.out.fr hF (by simp; omega))
          have HC := Lib.hid hM
          have hszu6 := hF.size
          clear hO hM hF
          go_wp2_with fail
          refine (Parse_any HX.out).mono ?_
          rintro e u7 (⟨vq, q, hp, rfl, hVq, hF⟩ | ⟨k, hp, -⟩)
          rotate_left
          · rw [parse_bytes HWC.out] at hp; cases hp
          rw [parse_bytes HWC.out] at hp
          cases hp
          have HF := Lib.hid (HF.out.trans hF); have HM := Lib.hid (HM.out.keep hF); have HC := Lib.hid (HC.out.keep hF); have HO := Lib.hid (HO.out.keep hF); have HW := Lib.hid (HW.out.keep hF); have HPL := Lib.hid (HPL.out.keep hF); have HYB := Lib.hid (HYB.out.keep hF)
          obtain ⟨g1, k1, g2, k2, g3, k3, g4, k4, rfl, -, -, hpl2, -⟩ := hVq.open_
          have HPL2 := Lib.hid hpl2
          have hszu7 := hF.size
          clear hF hVq hpl2 HX
          rw [show (C.out p).seq = (M.out p).seq from HCOP.out.next]
          go_wp2_with (refine wpList_store_row rfl 67 (.tmp 24) (.tmp 105) rfl u7.heap.size rfl _ _ rfl 67 (Box.new u7 67 #[.bool false, .int .i64 0, .int .u16 0, .int .u32 0, .int .u32 0, .slice none 0 0, .bool false, .int .u16 0, .slice none 0 0, .slice none 0 0, .slice none 0 0]) (by kernel_rfl) rfl (oneCell_pc _ _ _ _ _ _ _ _ _ _ _ ⟨_, _, _, rfl⟩ ⟨_, _, _, rfl⟩ ⟨_, _, _, rfl⟩ ⟨_, _, _, rfl⟩) ?_; intro u8 hY hG; have hFn := ((Fr.refl [] u7).alloc _).step hG (by simp); have HFn := Lib.hid hFn; have HY := Lib.hid hY; have HYB := Lib.hid (HYB.out.keep HFn.out); obtain ⟨x0, x1, x2, x3, x4, x5, x6, x7, x8, x9, x10⟩ := HYB.out.pcells; obtain ⟨y0, y1, y2, y3, y4, y5, y6, y7, y8, y9, y10⟩ := HY.out.pcells; clear hG hFn hY)
          clear x0 x1 x2 x3 x4 x5 x6 x7 x8 x9 x10 y0 y1 y2 y3 y4 y5 y6 y7 y8 y9 y10
          have HPL2 := Lib.hid (Sl.keep HPL2.out HFn.out)
          have hF := HFn.out
          have HF := Lib.hid (HF.out.trans hF); have HM := Lib.hid (HM.out.keep hF); have HC := Lib.hid (HC.out.keep hF); have HO := Lib.hid (HO.out.keep hF); have HW := Lib.hid (HW.out.keep hF); have HPL := Lib.hid (HPL.out.keep hF)
          have hszn := hF.size
          clear hF HFn
          refine (RSame_any (l1 := p.payload) (l2 := p.payload) HPL2.out HPL.out.sl (by have := (Pkt.fit HWQ.out).sm.2.2.1; omega) (by have := (Pkt.fit HWQ.out).sm.2.2.1; omega)).mono ?_
          rintro e u9 ⟨rfl, hF⟩
          rw [show (p.payload == p.payload) = true by simp]
          have HF := Lib.hid (HF.out.trans hF); have HM := Lib.hid (HM.out.keep hF); have HC := Lib.hid (HC.out.keep hF); have HO := Lib.hid (HO.out.keep hF); have HW := Lib.hid (HW.out.keep hF); have HPL := Lib.hid (HPL.out.keep hF)
          clear hF
          go_wp2_with fail
          have HST := Lib.hid (RMap.step_ok HOK.out HSG.out.1 HSG.out.2 (by omega) p)
          have HCT := Lib.hid (RMap.step_ok HCOK.out HCS.out.1 HCS.out.2 (by omega) p)
          have HOT := Lib.hid (RMap.step_ok HOOK.out HOS.out.1 HOS.out.2 (by omega) p)
          go_roundw
          case rel => exact ⟨j + 1, _, by omega, by go_num, ⟨HM.out, HST.out.1, HST.out.2.1, HST.out.2.2, (M.step_keep p).1.trans H5.out, (M.step_keep p).2.trans H97.out, HF.out⟩, .inr ⟨gc, _, rfl, hgc, hcg, HC.out, HCT.out.1, HCT.out.2.1, HCT.out.2.2, HCOP.out.step p, by omega, .inr ⟨go, _, rfl, hgo, hog, hoc, HO.out, HOT.out.1, HOT.out.2.1, HOT.out.2.2, HTW.out⟩⟩⟩
          case measure => simp [intOf]; omega
        | error k =>
          have HP := Lib.hid hpr
          have hk : (k != 0) = true := by simpa using parseR_err hpr
          have hk2 : (k == 0) = false := by simpa using parseR_err hpr
          clear hpr
          go_wp2_with fail
          refine (rmBytes_any HM.out HOK.out (Sl.keep HR.out HF.out)).mono ?_
          rintro e u1 (⟨p, vr, hp, -⟩ | ⟨k, hp, rfl, hM, hF⟩)
          · rw [HP.out] at hp; cases hp
          rw [HP.out] at hp
          cases hp
          have HF := Lib.hid (HF.out.trans hF); have HM := Lib.hid (HM.out.keep hF); have HC := Lib.hid (HC.out.keep hF); have HO := Lib.hid (HO.out.keep hF)
          have hszu1 := hF.size
          clear hM hF
          go_wp2_with fail
          refine (Parse_any (show Bytes u1 (.slice none 0 0) [] from Sl.nil _)).mono ?_
          rintro e u2 (⟨vq, q, hp, -⟩ | ⟨k2, hp, rfl, hF⟩)
          · rw [parse_nil0] at hp; cases hp
          clear hp
          have HF := Lib.hid (HF.out.trans hF); have HM := Lib.hid (HM.out.keep hF); have HC := Lib.hid (HC.out.keep hF); have HO := Lib.hid (HO.out.keep hF)
          have hszu2 := hF.size
          clear hF
          unfold pz
          go_wp2_with (refine wpList_store_row rfl 67 (.tmp 18) (.tmp 59) rfl u2.heap.size rfl _ _ rfl 67 (Box.new u2 67 #[.bool false, .int .i64 0, .int .u16 0, .int .u32 0, .int .u32 0, .slice none 0 0, .bool false, .int .u16 0, .slice none 0 0, .slice none 0 0, .slice none 0 0]) (by kernel_rfl) rfl (oneCell_pz) ?_; intro u3 hY hG; have hFn := ((Fr.refl [] u2).alloc _).step hG (by simp); have HFn := Lib.hid hFn; have HY := Lib.hid hY; clear hG hFn hY)
          have hF := HFn.out
          have HF := Lib.hid (HF.out.trans hF); have HM := Lib.hid (HM.out.keep hF); have HC := Lib.hid (HC.out.keep hF); have HO := Lib.hid (HO.out.keep hF)
          have hszn := hF.size
          clear hF HFn
          clear HY
          refine (rmBytes_any HO.out HOOK.out (Sl.keep HR.out HF.out)).mono ?_
          rintro e u4 (⟨p2, vs, hp, -⟩ | ⟨k2, hp, rfl, hM, hF⟩)
          · rw [HP.out] at hp; cases hp
          rw [HP.out] at hp
          cases hp
          have HF := Lib.hid (HF.out.trans hF); have HM := Lib.hid (HM.out.keep hF); have HC := Lib.hid (HC.out.keep hF); have HO := Lib.hid (HO.out.keep hF)
          have hszu4 := hF.size
          clear hM hF
          go_wp2_with fail
          refine (RSame_any (l1 := []) (l2 := []) (Sl.nil _) (Sl.nil _) (by simp) (by simp)).mono ?_
          rintro e u5 ⟨rfl, hF⟩
          rw [show (([] : List UInt8) == []) = true from rfl]
          have HF := Lib.hid (HF.out.trans hF); have HM := Lib.hid (HM.out.keep hF); have HC := Lib.hid (HC.out.keep hF); have HO := Lib.hid (HO.out.keep hF)
          have hszu5 := hF.size
          clear hF
          go_wp2_with fail
          refine (rmBytes_any HC.out HCOK.out (Sl.keep HR.out HF.out)).mono ?_
          rintro e u6 (⟨p2, vc, hp, -⟩ | ⟨k2, hp, rfl, hM, hF⟩)
          · rw [HP.out] at hp; cases hp
          rw [HP.out] at hp
          cases hp
          have HF := Lib.hid (HF.out.trans hF); have HM := Lib.hid (HM.out.keep hF); have HC := Lib.hid (HC.out.keep hF); have HO := Lib.hid (HO.out.keep hF)
          clear hM hF
          go_wp2_with fail
          refine (Parse_any (show Bytes u6 (.slice none 0 0) [] from Sl.nil _)).mono ?_
          rintro e u7 (⟨vq, q, hp, -⟩ | ⟨k3, hp, rfl, hF⟩)
          · rw [parse_nil0] at hp; cases hp
          clear hp
          have HF := Lib.hid (HF.out.trans hF); have HM := Lib.hid (HM.out.keep hF); have HC := Lib.hid (HC.out.keep hF); have HO := Lib.hid (HO.out.keep hF)
          clear hF
          unfold pz
          go_upto_region 24 with (refine wpList_store_row rfl 67 (.tmp 24) (.tmp 105) rfl u7.heap.size rfl _ _ rfl 67 (Box.new u7 67 #[.bool false, .int .i64 0, .int .u16 0, .int .u32 0, .int .u32 0, .slice none 0 0, .bool false, .int .u16 0, .slice none 0 0, .slice none 0 0, .slice none 0 0]) (by kernel_rfl) rfl (oneCell_pz) ?_; intro u8 hY hG; have hFn := ((Fr.refl [] u7).alloc _).step hG (by simp); have HFn := Lib.hid hFn; have HY := Lib.hid hY; clear hG hFn hY)
          clear HY
          have hF := HFn.out
          have HF := Lib.hid (HF.out.trans hF); have HM := Lib.hid (HM.out.keep hF); have HC := Lib.hid (HC.out.keep hF); have HO := Lib.hid (HO.out.keep hF)
          have hszn := hF.size
          clear hF HFn
          go_wp2_with fail
          go_roundw
          case rel => exact ⟨j + 1, _, by omega, by go_num, ⟨HM.out, HOK.out, by have := HSG.out; omega, by have := HSG.out; omega, H5.out, H97.out, HF.out⟩, .inr ⟨gc, _, rfl, hgc, hcg, HC.out, HCOK.out, by have := HCS.out; omega, by have := HCS.out; omega, HCOP.out, by omega, .inr ⟨go, _, rfl, hgo, hog, hoc, HO.out, HOOK.out, by have := HOS.out; omega, by have := HOS.out; omega, HTW.out⟩⟩⟩
          case measure => simp [intOf]; omega
end Go.Proofs.Yticoongkfhkjgaa
