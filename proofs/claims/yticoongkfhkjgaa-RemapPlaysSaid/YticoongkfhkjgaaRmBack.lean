/- The walk of confluxlaw23.RemapBack (printed by gen_rmback.py). -/
import Derived.Test.YticoongkfhkjgaaAlive23
import Derived.Test.YticoongkfhkjgaaFew13
namespace Go.Proofs.Yticoongkfhkjgaa
open Go.RowKit

theorem RMap.step_ok {m : RMap} {j : Nat} (h : m.Ok) (h1 : m.segs ≤ j) (h2 : m.cnt ≤ j) (hj : j ≤ 1000000) (p : Pkt) : (m.step_ p).Ok ∧ (m.step_ p).segs ≤ j + 1 ∧ (m.step_ p).cnt ≤ j + 1 := by
  have h3 : (m.step_ p).segs ≤ j + 1 := by
    show (m.ready p.ts).segs ≤ j + 1
    unfold RMap.ready
    split
    · omega
    · show m.segs + 1 ≤ j + 1; omega
  have h4 : (m.step_ p).cnt ≤ j + 1 := by show m.cnt + 1 ≤ j + 1; omega
  have hr := m.ready_same p.ts
  refine ⟨⟨?_, ?_, ?_, ?_, by omega, by omega⟩, h3, h4⟩
  · show 0 ≤ (m.ready p.ts).pt; rw [hr.1]; exact h.pt0
  · show (m.ready p.ts).pt ≤ 127; rw [hr.1]; exact h.pt1
  · show 0 ≤ (m.ready p.ts).step; rw [hr.2.2.2.2]; exact h.st0
  · show (m.ready p.ts).step ≤ 2147483647; rw [hr.2.2.2.2]; exact h.st1
theorem RMap.shut_ok {m : RMap} (h : m.Ok) : m.shut.Ok := ⟨h.pt0, h.pt1, h.st0, h.st1, h.sg, h.ct⟩

set_option maxRecDepth 100000 in
set_option maxHeartbeats 4000000 in
theorem RemapBack_any {w : World} {v : Value} {ls : List (List UInt8)} (hl : BRows w v ls) (first : UInt16) (ts : UInt32) (att : Int) :
    Calls Try.prog 13 #[v, .int .u16 (first.toNat : Nat), .int .u32 (ts.toNat : Nat), .int .i64 att] w fun e w' => e = .returned (.bool true) ∧ Fr [] w w' := by
  obtain ⟨av, cv, rfl⟩ := hl.shape
  have hlen := hl.len.2
  unfold maxLen at hlen
  have HL := Lib.hid hl
  clear hl
  go_enter Try.func13, Try.ntmps13
  go_wp2_with fail
  refine alive23_any.mono ?_
  rintro e w1 ⟨rfl, hF⟩
  have HF := Lib.hid hF
  clear hF
  go_wp2_with fail
  refine (RFew13_any (HL.out.keep HF.out) 30 1600 (by omega) (by omega)).mono ?_
  rintro e w2 ⟨rfl, hF⟩
  have HF := Lib.hid (HF.out.trans hF)
  clear hF
  by_cases hfew : few13 ls 30 1600 = true
  rotate_left
  · have hfew2 : few13 ls 30 1600 = false := by simpa using hfew
    rw [hfew2]
    go_wp2_with fail
    go_ret
    exact ⟨rfl, HF.out⟩
  rw [hfew]
  obtain ⟨hn30, hsz⟩ := few13_true hfew
  have HSZ := Lib.hid hsz
  clear hfew hsz
  go_wp2_with fail
  refine (rmNew_any 5 97 first ts 3000 _).mono ?_
  rintro e w3 ⟨g, rfl, hg, hB, hF⟩
  have HM := Lib.hid hB
  have HG : Hid (w.heap.size ≤ g) := Lib.hid (Nat.le_trans HF.out.size hg)
  have HF := Lib.hid (HF.out.trans hF)
  have HOK := Lib.hid (RMap.new_ok 5 97 first ts 3000)
  generalize hM0 : RMap.new 5 97 first ts 3000 = m0 at *
  have hs0 : m0.segs = 0 := by rw [← hM0]; rfl
  have hc0 : m0.cnt = 0 := by rw [← hM0]; rfl
  have HS0 := Lib.hid hs0; have HC0 := Lib.hid hc0
  clear hF hB hg hM0 hs0 hc0
  go_wp2_with fail
  go_loopw [30] (fun i wr => ∃ j : Nat, j ≤ ls.length ∧ i = .int .i64 j ∧ ∃ M : RMap, Box wr g 132 (mc M) ∧ M.Ok ∧ M.segs ≤ j ∧ M.cnt ≤ j ∧ Fr [] w wr) (fun i _ => ls.length - (intOf i).toNat)
  case atStart => exact ⟨0, Nat.zero_le _, rfl, m0, HM.out, HOK.out, by rw [HS0.out]; omega, by rw [HC0.out]; omega, HF.out⟩
  case round =>
    clear HM HF HOK HS0 HC0
    obtain ⟨j, hj, rfl, M, hM, hok, hsg, hct, hF⟩ := hrel
    have HM := Lib.hid hM; have HOK := Lib.hid hok; have HF := Lib.hid hF
    have HSG : Hid (M.segs ≤ j ∧ M.cnt ≤ j) := Lib.hid ⟨hsg, hct⟩
    clear hM hok hF hsg hct
    by_cases hlt : j < ls.length
    rotate_left
    · go_wp2_with fail
      go_ret
      exact ⟨rfl, HF.out⟩
    obtain ⟨b, o, x, l, rfl, hb, hl, hx, hR⟩ := HL.out.at_ hlt
    obtain ⟨al, cl, rfl⟩ := Sl.shape hR
    simp only [List.length_map] at hx hR
    have d := HF.out.cellSome hx (by simp)
    have hll := HSZ.out l (List.mem_of_getElem? hl)
    have HR := Lib.hid hR
    have hgl := HG.out
    clear hx hl hb hR
    have hlw : w.heap.size ≤ g := hgl
    by_cases hat : (((j : Nat) : Int) == bits .and .i64 att 31) = true
    · go_wp2_with fail
      refine (rmSwitch_any HM.out).mono ?_
      rintro e w4 ⟨rfl, hM, hF⟩
      have HM := Lib.hid hM; have HF := Lib.hid (HF.out.step hF (fun x hx => by simp at hx; subst hx; exact .inr (by omega)))
      have HOK := Lib.hid (RMap.shut_ok HOK.out)
      have HSG : Hid (M.shut.segs ≤ j ∧ M.shut.cnt ≤ j) := HSG
      generalize M.shut = M2 at *
      clear hM hF hat
      go_wp2_with fail
      refine (rmBytes_any HM.out HOK.out (Sl.keep HR.out HF.out)).mono ?_
      rintro e w5 (⟨p, vr, hp, rfl, hO, hM, hF⟩ | ⟨k, hp, rfl, hM, hF⟩)
      · obtain ⟨hwq, hby⟩ := parse_back hp
        have HP := Lib.hid hp; have HWQ := Lib.hid hwq; have HBY := Lib.hid hby
        have HWO := Lib.hid (RMap.out_wrong HOK.out hwq)
        obtain ⟨ao, co, hvr⟩ := hO.nilOr
        subst hvr
        have HO := Lib.hid hO.bytes
        have HM := Lib.hid hM
        have HF := Lib.hid (HF.out.step hF (fun x hx => by simp at hx; subst hx; exact .inr (by omega)))
        clear hp hwq hby hO hM hF
        go_wp2_with fail
        refine (Parse_any (Sl.keep HR.out HF.out)).mono ?_
        rintro e w6 (⟨vq, q, hp, rfl, hVq, hF⟩ | ⟨k, hp, -⟩)
        rotate_left
        · rw [HP.out] at hp; cases hp
        rw [HP.out] at hp
        cases hp
        have HM := Lib.hid (HM.out.keep hF); have HO := Lib.hid (Sl.keep HO.out hF); have HF := Lib.hid (HF.out.trans hF)
        obtain ⟨b1, d1, b2, d2, b3, d3, b4, d4, rfl, -, -, -, -⟩ := hVq.open_
        clear hF hVq
        go_wp2_with (refine wpList_store_row rfl 67 (.tmp 14) (.tmp 50) rfl w6.heap.size rfl _ _ rfl 67 (Box.new w6 67 #[.bool false, .int .i64 0, .int .u16 0, .int .u32 0, .int .u32 0, .slice none 0 0, .bool false, .int .u16 0, .slice none 0 0, .slice none 0 0, .slice none 0 0]) (by kernel_rfl) rfl (oneCell_pc _ _ _ _ _ _ _ _ _ _ _ ⟨_, _, _, rfl⟩ ⟨_, _, _, rfl⟩ ⟨_, _, _, rfl⟩ ⟨_, _, _, rfl⟩) ?_; intro w7 hY hG; have hFn := ((Fr.refl [] w6).alloc _).step hG (by simp); have HFn := Lib.hid hFn; clear hG hFn; obtain ⟨x0, x1, x2, x3, x4, x5, x6, x7, x8, x9, x10⟩ := hY.pcells; clear hY)
        have hF := HFn.out
        have HM := Lib.hid (HM.out.keep hF); have HO := Lib.hid (Sl.keep HO.out hF); have HF := Lib.hid (HF.out.trans hF)
        clear hF HFn x0 x1 x2 x3 x4 x5 x6 x7 x8 x9 x10
        refine (rmBack_any HO.out p.seq p.ts p.ssrc p.pt).mono ?_
        rintro e w8 (⟨q, vb, hp, -, rfl, hO, hF⟩ | ⟨q, hp, hn, -⟩ | ⟨k, hp, -⟩)
        rotate_left
        · exact absurd ⟨(Pkt.fit HWQ.out).pt0, (Pkt.fit HWQ.out).pt1⟩ hn
        · rw [parse_bytes HWO.out] at hp; cases hp
        rw [parse_bytes HWO.out] at hp
        cases hp
        rw [show ((M2.out p).turn p.seq p.ts p.ssrc p.pt) = p from rfl, HBY.out] at hO
        obtain ⟨ab, cb, hvb⟩ := hO.nilOr
        subst hvb
        have HB := Lib.hid hO.bytes
        have HM := Lib.hid (HM.out.keep hF); have HO := Lib.hid (Sl.keep HO.out hF); have HF := Lib.hid (HF.out.trans hF)
        clear hO hF
        go_wp2_with fail
        refine (rmBack_any HO.out 0 0 0 128).mono ?_
        rintro e w9 (⟨q, vb, hp, hn, -⟩ | ⟨q, hp, -, rfl, hF⟩ | ⟨k, hp, -⟩)
        · omega
        rotate_left
        · rw [parse_bytes HWO.out] at hp; cases hp
        have HM := Lib.hid (HM.out.keep hF); have HB := Lib.hid (Sl.keep HB.out hF); have HF := Lib.hid (HF.out.trans hF)
        clear hp hF
        go_wp2_with fail
        refine (RSame_any HB.out (Sl.keep HR.out HF.out) (by omega) (by omega)).mono ?_
        rintro e w10 ⟨rfl, hF⟩
        have hll2 : (l == l) = true := by simp
        rw [hll2]
        have HM := Lib.hid (HM.out.keep hF); have HF := Lib.hid (HF.out.trans hF)
        clear hF hll2
        go_wp2_with fail
        have hst := RMap.step_ok HOK.out HSG.out.1 HSG.out.2 (by omega) p
        have HST := Lib.hid hst
        clear hst
        go_roundw
        case rel => exact ⟨j + 1, by omega, by go_num, _, HM.out, HST.out.1, HST.out.2.1, HST.out.2.2, HF.out⟩
        case measure => simp [intOf]; omega
      · have HP := Lib.hid hp; have HM := Lib.hid hM
        have HF := Lib.hid (HF.out.trans hF)
        have hk : (k != 0) = true := by simpa using parseR_err hp
        clear hp hM hF
        go_wp2_with fail
        refine (Parse_any (Sl.keep HR.out HF.out)).mono ?_
        rintro e w6 (⟨vq, q, hp, -⟩ | ⟨k2, hp, rfl, hF⟩)
        · rw [HP.out] at hp; cases hp
        rw [HP.out] at hp
        cases hp
        have HM := Lib.hid (HM.out.keep hF); have HF := Lib.hid (HF.out.trans hF)
        clear hF
        unfold pz
        go_wp2_with (refine wpList_store_row rfl 67 (.tmp 14) (.tmp 50) rfl w6.heap.size rfl _ _ rfl 67 (Box.new w6 67 #[.bool false, .int .i64 0, .int .u16 0, .int .u32 0, .int .u32 0, .slice none 0 0, .bool false, .int .u16 0, .slice none 0 0, .slice none 0 0, .slice none 0 0]) (by kernel_rfl) rfl (oneCell_pz) ?_; intro w7 hY hG; have hFn := ((Fr.refl [] w6).alloc _).step hG (by simp); have HFn := Lib.hid hFn; clear hG hFn hY)
        have HM := Lib.hid (HM.out.keep HFn.out); have HF := Lib.hid (HF.out.trans HFn.out)
        go_roundw
        case rel => exact ⟨j + 1, by omega, by go_num, _, HM.out, HOK.out, by have := HSG.out; omega, by have := HSG.out; omega, HF.out⟩
        case measure => simp [intOf]; omega
    · have hat2 : (((j : Nat) : Int) == bits .and .i64 att 31) = false := by simpa using hat
      clear hat
      go_wp2_with fail
      clear hat2
      refine (rmBytes_any HM.out HOK.out (Sl.keep HR.out HF.out)).mono ?_
      rintro e w5 (⟨p, vr, hp, rfl, hO, hM, hF⟩ | ⟨k, hp, rfl, hM, hF⟩)
      · obtain ⟨hwq, hby⟩ := parse_back hp
        have HP := Lib.hid hp; have HWQ := Lib.hid hwq; have HBY := Lib.hid hby
        have HWO := Lib.hid (RMap.out_wrong HOK.out hwq)
        obtain ⟨ao, co, hvr⟩ := hO.nilOr
        subst hvr
        have HO := Lib.hid hO.bytes
        have HM := Lib.hid hM
        have HF := Lib.hid (HF.out.step hF (fun x hx => by simp at hx; subst hx; exact .inr (by omega)))
        clear hp hwq hby hO hM hF
        go_wp2_with fail
        refine (Parse_any (Sl.keep HR.out HF.out)).mono ?_
        rintro e w6 (⟨vq, q, hp, rfl, hVq, hF⟩ | ⟨k, hp, -⟩)
        rotate_left
        · rw [HP.out] at hp; cases hp
        rw [HP.out] at hp
        cases hp
        have HM := Lib.hid (HM.out.keep hF); have HO := Lib.hid (Sl.keep HO.out hF); have HF := Lib.hid (HF.out.trans hF)
        obtain ⟨b1, d1, b2, d2, b3, d3, b4, d4, rfl, -, -, -, -⟩ := hVq.open_
        clear hF hVq
        go_wp2_with (refine wpList_store_row rfl 67 (.tmp 14) (.tmp 50) rfl w6.heap.size rfl _ _ rfl 67 (Box.new w6 67 #[.bool false, .int .i64 0, .int .u16 0, .int .u32 0, .int .u32 0, .slice none 0 0, .bool false, .int .u16 0, .slice none 0 0, .slice none 0 0, .slice none 0 0]) (by kernel_rfl) rfl (oneCell_pc _ _ _ _ _ _ _ _ _ _ _ ⟨_, _, _, rfl⟩ ⟨_, _, _, rfl⟩ ⟨_, _, _, rfl⟩ ⟨_, _, _, rfl⟩) ?_; intro w7 hY hG; have hFn := ((Fr.refl [] w6).alloc _).step hG (by simp); have HFn := Lib.hid hFn; clear hG hFn; obtain ⟨x0, x1, x2, x3, x4, x5, x6, x7, x8, x9, x10⟩ := hY.pcells; clear hY)
        have hF := HFn.out
        have HM := Lib.hid (HM.out.keep hF); have HO := Lib.hid (Sl.keep HO.out hF); have HF := Lib.hid (HF.out.trans hF)
        clear hF HFn x0 x1 x2 x3 x4 x5 x6 x7 x8 x9 x10
        refine (rmBack_any HO.out p.seq p.ts p.ssrc p.pt).mono ?_
        rintro e w8 (⟨q, vb, hp, -, rfl, hO, hF⟩ | ⟨q, hp, hn, -⟩ | ⟨k, hp, -⟩)
        rotate_left
        · exact absurd ⟨(Pkt.fit HWQ.out).pt0, (Pkt.fit HWQ.out).pt1⟩ hn
        · rw [parse_bytes HWO.out] at hp; cases hp
        rw [parse_bytes HWO.out] at hp
        cases hp
        rw [show ((M.out p).turn p.seq p.ts p.ssrc p.pt) = p from rfl, HBY.out] at hO
        obtain ⟨ab, cb, hvb⟩ := hO.nilOr
        subst hvb
        have HB := Lib.hid hO.bytes
        have HM := Lib.hid (HM.out.keep hF); have HO := Lib.hid (Sl.keep HO.out hF); have HF := Lib.hid (HF.out.trans hF)
        clear hO hF
        go_wp2_with fail
        refine (rmBack_any HO.out 0 0 0 128).mono ?_
        rintro e w9 (⟨q, vb, hp, hn, -⟩ | ⟨q, hp, -, rfl, hF⟩ | ⟨k, hp, -⟩)
        · omega
        rotate_left
        · rw [parse_bytes HWO.out] at hp; cases hp
        have HM := Lib.hid (HM.out.keep hF); have HB := Lib.hid (Sl.keep HB.out hF); have HF := Lib.hid (HF.out.trans hF)
        clear hp hF
        go_wp2_with fail
        refine (RSame_any HB.out (Sl.keep HR.out HF.out) (by omega) (by omega)).mono ?_
        rintro e w10 ⟨rfl, hF⟩
        have hll2 : (l == l) = true := by simp
        rw [hll2]
        have HM := Lib.hid (HM.out.keep hF); have HF := Lib.hid (HF.out.trans hF)
        clear hF hll2
        go_wp2_with fail
        have hst := RMap.step_ok HOK.out HSG.out.1 HSG.out.2 (by omega) p
        have HST := Lib.hid hst
        clear hst
        go_roundw
        case rel => exact ⟨j + 1, by omega, by go_num, _, HM.out, HST.out.1, HST.out.2.1, HST.out.2.2, HF.out⟩
        case measure => simp [intOf]; omega
      · have HP := Lib.hid hp; have HM := Lib.hid hM
        have HF := Lib.hid (HF.out.trans hF)
        have hk : (k != 0) = true := by simpa using parseR_err hp
        clear hp hM hF
        go_wp2_with fail
        refine (Parse_any (Sl.keep HR.out HF.out)).mono ?_
        rintro e w6 (⟨vq, q, hp, -⟩ | ⟨k2, hp, rfl, hF⟩)
        · rw [HP.out] at hp; cases hp
        rw [HP.out] at hp
        cases hp
        have HM := Lib.hid (HM.out.keep hF); have HF := Lib.hid (HF.out.trans hF)
        clear hF
        unfold pz
        go_wp2_with (refine wpList_store_row rfl 67 (.tmp 14) (.tmp 50) rfl w6.heap.size rfl _ _ rfl 67 (Box.new w6 67 #[.bool false, .int .i64 0, .int .u16 0, .int .u32 0, .int .u32 0, .slice none 0 0, .bool false, .int .u16 0, .slice none 0 0, .slice none 0 0, .slice none 0 0]) (by kernel_rfl) rfl (oneCell_pz) ?_; intro w7 hY hG; have hFn := ((Fr.refl [] w6).alloc _).step hG (by simp); have HFn := Lib.hid hFn; clear hG hFn hY)
        have HM := Lib.hid (HM.out.keep HFn.out); have HF := Lib.hid (HF.out.trans HFn.out)
        go_roundw
        case rel => exact ⟨j + 1, by omega, by go_num, _, HM.out, HOK.out, by have := HSG.out; omega, by have := HSG.out; omega, HF.out⟩
        case measure => simp [intOf]; omega
end Go.Proofs.Yticoongkfhkjgaa
