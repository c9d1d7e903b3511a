/- The walks of confluxref02.Held, confluxref01.Add32, confluxref23.New and Of (printed by gen_r23.py). -/
import Derived.Test.YticoongkfhkjgaaRemap3
import Derived.Test.YticoongkfhkjgaaR5Same
import Derived.Test.YticoongkfhkjgaaBase4
import Derived.Test.YticoongkfhkjgaaPart
namespace Go.Proofs.Yticoongkfhkjgaa
open Go.RowKit

theorem RHeld_any (n lo hi : Int) (w : World) : Calls Try.prog 90 #[.int .i64 n, .int .i64 lo, .int .i64 hi] w fun e w' => e = .returned (.int .i64 (clampI n lo hi)) ∧ w = w' := by
  by_cases h1 : n < lo
  · have e : clampI n lo hi = lo := by unfold clampI; rw [if_pos h1]
    rw [e]
    clear e
    go_enter Try.func90, Try.ntmps90
    go_wp2
    go_ret
    exact ⟨rfl, rfl⟩
  · by_cases h2 : hi < n
    · have e : clampI n lo hi = hi := by unfold clampI; rw [if_neg h1, if_pos h2]
      rw [e]
      clear e
      go_enter Try.func90, Try.ntmps90
      go_wp2
      go_ret
      exact ⟨rfl, rfl⟩
    · have e : clampI n lo hi = n := by unfold clampI; rw [if_neg h1, if_neg h2]
      rw [e]
      clear e
      go_enter Try.func90, Try.ntmps90
      go_wp2
      go_ret
      exact ⟨rfl, rfl⟩
theorem RAdd32_any (a : UInt32) (n : Int) (w : World) :
    Calls Try.prog 113 #[.int .u32 (a.toNat : Nat), .int .i64 n] w fun e w' => e = .returned (.int .u32 ((add32 a n).toNat : Nat)) ∧ w = w' := by
  have ha := a.toNat_lt
  have h1 := Int.emod_nonneg n (show (4294967296 : Int) ≠ 0 by omega)
  have h2 := Int.emod_lt_of_pos n (show (0 : Int) < 4294967296 by omega)
  have ht := Int.tmod_lt_of_pos n (show (0 : Int) < 4294967296 by omega)
  have htn : -4294967296 < n.tmod 4294967296 := by have := Int.lt_tmod_of_pos n (show (0 : Int) < 4294967296 by omega); omega
  have he : n.tmod 4294967296 = n % 4294967296 ∨ n.tmod 4294967296 = n % 4294967296 - 4294967296 := by
    rw [Int.tmod_eq_emod]
    split <;> simp
  have hw1 : IntKind.i64.wrap (n.tmod 4294967296) = n.tmod 4294967296 := IntWalk.i64_in _ (by omega)
  have HE := Lib.hid he
  clear he
  by_cases hneg : n.tmod 4294967296 < 0
  · go_enter Try.func113, Try.ntmps113
    go_wp2
    go_ret
    refine ⟨ret_int ?_, rfl⟩
    rw [add32_nat]
    rcases HE.out with h | h <;> omega
  · go_enter Try.func113, Try.ntmps113
    go_wp2
    go_ret
    refine ⟨ret_int ?_, rfl⟩
    rw [add32_nat]
    rcases HE.out with h | h <;> omega
theorem mc_new (ssrc : UInt32) (pt : Int) (first : UInt16) (ts : UInt32) (stp : Int) : mc (RMap.new ssrc pt first ts stp) = #[.int .u32 (ssrc.toNat : Nat), .int .i64 (clampI pt 0 127), .int .u16 (first.toNat : Nat), .int .u32 (ts.toNat : Nat), .int .i64 (clampI stp 0 2147483647), .int .u32 0, .bool false, .int .i64 0, .int .i64 0] := rfl
set_option maxRecDepth 100000 in
set_option maxHeartbeats 1000000 in
theorem R23New_any (ssrc : UInt32) (pt : Int) (first : UInt16) (ts : UInt32) (stp : Int) (w : World) :
    Calls Try.prog 49 #[.int .u32 (ssrc.toNat : Nat), .int .i64 pt, .int .u16 (first.toNat : Nat), .int .u32 (ts.toNat : Nat), .int .i64 stp] w fun e w' => e = .returned (.agg (mc (RMap.new ssrc pt first ts stp))) ∧ Fr [] w w' := by
  obtain ⟨w1, e1, hF1, hB1, hs1⟩ := one_new w #[.int .u32 0, .int .i64 0, .int .u16 0, .int .u32 0, .int .i64 0, .int .u32 0, .bool false, .int .i64 0, .int .i64 0] 88
  have HF := Lib.hid hF1; have HB := Lib.hid hB1
  have HM := Lib.hid (mc_new ssrc pt first ts stp)
  clear hF1 hB1 hs1
  have hcl : clampI stp 0 2147483647 = if stp < 0 then 0 else if 2147483647 < stp then 2147483647 else stp := rfl
  have HCL := Lib.hid hcl
  clear hcl
  by_cases h1 : stp < 0
  · have HV : Hid (clampI stp 0 2147483647 = 0) := Lib.hid (by rw [HCL.out]; rw [if_pos h1])
    go_enter Try.func49, Try.ntmps49
    go_wp2_with fail
    refine (RHeld_any pt 0 127 _).mono ?_
    rintro e w2 ⟨rfl, rfl⟩
    generalize hcc : clampI pt 0 127 = c at *
    have HCC := Lib.hid hcc
    clear hcc
    go_wp2_with (refine wpList_store_row rfl 88 (.tmp 10) (.tmp 21) rfl w.heap.size rfl _ _ rfl 88 HB.out (by kernel_rfl) rfl (by intro u hu; simp at hu; rcases hu with rfl | rfl | rfl | rfl | rfl | rfl | rfl | rfl | rfl <;> rfl) ?_; intro w3 hY hG)
    refine bodyPost_ret (results_cell_row rfl _ _ w.heap.size 88 _ (0, 0) _ rfl hY Try.underlying88 rfl (by kernel_rfl)) rfl ⟨?_, HF.out.step hG (by simp)⟩
    rw [HM.out, HV.out]
  · by_cases h2 : 2147483647 < stp
    · have HV : Hid (clampI stp 0 2147483647 = 2147483647) := Lib.hid (by rw [HCL.out]; rw [if_neg h1, if_pos h2])
      go_enter Try.func49, Try.ntmps49
      go_wp2_with fail
      refine (RHeld_any pt 0 127 _).mono ?_
      rintro e w2 ⟨rfl, rfl⟩
      generalize hcc : clampI pt 0 127 = c at *
      have HCC := Lib.hid hcc
      clear hcc
      go_wp2_with (refine wpList_store_row rfl 88 (.tmp 10) (.tmp 21) rfl w.heap.size rfl _ _ rfl 88 HB.out (by kernel_rfl) rfl (by intro u hu; simp at hu; rcases hu with rfl | rfl | rfl | rfl | rfl | rfl | rfl | rfl | rfl <;> rfl) ?_; intro w3 hY hG)
      refine bodyPost_ret (results_cell_row rfl _ _ w.heap.size 88 _ (0, 0) _ rfl hY Try.underlying88 rfl (by kernel_rfl)) rfl ⟨?_, HF.out.step hG (by simp)⟩
      rw [HM.out, HV.out]
    · have HV : Hid (clampI stp 0 2147483647 = stp) := Lib.hid (by rw [HCL.out]; rw [if_neg h1, if_neg h2])
      go_enter Try.func49, Try.ntmps49
      go_wp2_with fail
      refine (RHeld_any pt 0 127 _).mono ?_
      rintro e w2 ⟨rfl, rfl⟩
      generalize hcc : clampI pt 0 127 = c at *
      have HCC := Lib.hid hcc
      clear hcc
      go_wp2_with (refine wpList_store_row rfl 88 (.tmp 10) (.tmp 21) rfl w.heap.size rfl _ _ rfl 88 HB.out (by kernel_rfl) rfl (by intro u hu; simp at hu; rcases hu with rfl | rfl | rfl | rfl | rfl | rfl | rfl | rfl | rfl <;> rfl) ?_; intro w3 hY hG)
      refine bodyPost_ret (results_cell_row rfl _ _ w.heap.size 88 _ (0, 0) _ rfl hY Try.underlying88 rfl (by kernel_rfl)) rfl ⟨?_, HF.out.step hG (by simp)⟩
      rw [HM.out, HV.out]
theorem shift_eq (m : RMap) (ts : UInt32) : add32 0 ((m.last.toNat : Int) + (if 0 < m.segs then m.step else 0) - (ts.toNat : Int)) = m.start - ts := by
  apply UInt32.toNat_inj.1
  have h1 := add32_nat 0 ((m.last.toNat : Int) + (if 0 < m.segs then m.step else 0) - (ts.toNat : Int))
  have h2 := u32_sub_nat m.start ts
  have h3 := add32_nat m.last m.step
  unfold RMap.start at h2 ⊢
  have h0 : ((0 : UInt32).toNat : Int) = 0 := rfl
  split at h1 <;> rename_i hs
  · rw [if_pos hs] at h2 ⊢; rw [if_pos hs]; omega
  · rw [if_neg hs] at h2 ⊢; rw [if_neg hs]; omega
theorem add32_sum (a b : UInt32) : add32 a (b.toNat : Int) = sum32 a b := by
  apply UInt32.toNat_inj.1
  have h1 := add32_nat a (b.toNat : Int)
  have h2 := u32_add_nat a b
  unfold sum32
  omega
theorem results_row_row {P : Program} {fn : Func} {p q : Tmp} {ty ty2 : TypeId} (h : fn.results = #[.cell p ty, .cell q ty2]) (tmps : Array Value) (w : World) (g g2 : Nat) (t t2 : TypeId) (c c2 : Array Value) (d d2 : TypeDesc)
    (hp : tmps.getD p undef = .pointer (some ⟨g, 0, none⟩)) (hb : Box w g t c) (hu : P.underlying ty = some d) (hd : (match d with | .struct _ | .array _ _ => true | _ => false) = true) (hi : (P.info? ty).map (·.size) = some c.size)
    (hp2 : tmps.getD q undef = .pointer (some ⟨g2, 0, none⟩)) (hb2 : Box w g2 t2 c2) (hu2 : P.underlying ty2 = some d2) (hd2 : (match d2 with | .struct _ | .array _ _ => true | _ => false) = true) (hi2 : (P.info? ty2).map (·.size) = some c2.size) :
    (results fn tmps).run P w = .ok (.tuple #[.agg c, .agg c2]) w := by
  have hp' : tmps[p]?.getD undef = .pointer (some ⟨g, 0, none⟩) := by simpa using hp
  have hp2' : tmps[q]?.getD undef = .pointer (some ⟨g2, 0, none⟩) := by simpa using hp2
  have h1 := run_loadVar_row (P := P) w g t ty c (0, 0) d hb hu hd hi
  have h2 := run_loadVar_row (P := P) w g2 t2 ty2 c2 (0, 0) d2 hb2 hu2 hd2 hi2
  simp [results, h, hp', hp2', asAddr, h1, h2]
set_option maxRecDepth 100000 in
set_option maxHeartbeats 8000000 in
theorem R23Of_any {w : World} {m : RMap} {base : Nat} {v : Value} {p : Pkt} (hm : m.Ok) (hV : PktV w base v p) :
    Calls Try.prog 91 #[.agg (mc m), v] w fun e w' => ∃ v', e = .returned (.tuple #[.agg (mc (m.step_ p)), v']) ∧ PktV w' base v' (m.out p) ∧ Fr [] w w' := by
  have HV0 := Lib.hid hV; have HOK := Lib.hid hm
  obtain ⟨a1, c1, a2, c2, a3, c3, a4, c4, rfl, -, -, -, -⟩ := hV.open_
  obtain ⟨w1, e1, hF1, hB1, hs1⟩ := one_new w (mc m) 88
  obtain ⟨w2, e2, hF2, hB2, hs2⟩ := one_new w1 (pc p.marker p.pt p.seq.toNat p.ts.toNat p.ssrc.toNat (.slice a1 p.csrc.length c1) p.hasExt p.profile.toNat (.slice a2 p.ext.length c2) (.slice a3 p.payload.length c3) (.slice a4 p.pad.length c4)) 67
  obtain ⟨w3, e3, hF3, hB3, hs3⟩ := one_new w2 #[.int .u32 0, .int .i64 0, .int .u16 0, .int .u32 0, .int .i64 0, .int .u32 0, .bool false, .int .i64 0, .int .i64 0] 88
  obtain ⟨w4, e4, hF4, hB4, hs4⟩ := one_new w3 #[.bool false, .int .i64 0, .int .u16 0, .int .u32 0, .int .u32 0, .slice none 0 0, .bool false, .int .u16 0, .slice none 0 0, .slice none 0 0, .slice none 0 0] 67
  have e5 : (((w.alloc (.cells (mc m) 88)).alloc (.cells (pc p.marker p.pt p.seq.toNat p.ts.toNat p.ssrc.toNat (.slice a1 p.csrc.length c1) p.hasExt p.profile.toNat (.slice a2 p.ext.length c2) (.slice a3 p.payload.length c3) (.slice a4 p.pad.length c4)) 67)).alloc (.cells #[.int .u32 0, .int .i64 0, .int .u16 0, .int .u32 0, .int .i64 0, .int .u32 0, .bool false, .int .i64 0, .int .i64 0] 88)).alloc (.cells #[.bool false, .int .i64 0, .int .u16 0, .int .u32 0, .int .u32 0, .slice none 0 0, .bool false, .int .u16 0, .slice none 0 0, .slice none 0 0, .slice none 0 0] 67) = w4 := by rw [e1, e2, e3, e4]
  have E5 := Lib.hid e5
  have HM := Lib.hid (((hB1.keep hF2).keep hF3).keep hF4); have HP := Lib.hid ((hB2.keep hF3).keep hF4); have HRM := Lib.hid (hB3.keep hF4); have HRP := Lib.hid hB4
  have HF := Lib.hid (((hF1.trans hF2).trans hF3).trans hF4)
  rw [hs1] at HP; rw [hs2, hs1] at HRM; rw [hs3, hs2, hs1] at HRP
  clear hV hm e1 e2 e3 e4 e5 hF1 hF2 hF3 hF4 hB1 hB2 hB3 hB4 hs1 hs2 hs3 hs4
  go_enter Try.func91, Try.ntmps91
  go_upto_region 1 with (fail)
  rw [E5.out]
  clear E5
  generalize hHW : w.heap.size = W at *
  have HHW := Lib.hid hHW
  clear hHW
  by_cases hop : m.opn = true
  · have HRD : Hid (m = m.ready p.ts) := Lib.hid (by unfold RMap.ready; rw [if_pos hop])
    have k6 := HM.out.cell 6
    simp only [mc, List.getElem?_toArray, List.getElem?_cons_succ, List.getElem?_cons_zero] at k6
    rw [hop] at k6
    clear hop
    go_upto_region 8 with (fail)
    clear k6
    have k0 := HM.out.cell 0
    simp only [mc, List.getElem?_toArray, List.getElem?_cons_succ, List.getElem?_cons_zero, List.setIfInBounds_toArray, List.set_cons_zero, List.set_cons_succ] at k0
    have hFr := HP.out.free 4; have hCl := HP.out.cell 4
    simp only [pc, List.getElem?_toArray, List.getElem?_cons_succ, List.getElem?_cons_zero, List.setIfInBounds_toArray, List.set_cons_zero, List.set_cons_succ] at hCl
    obtain ⟨u5, en, hF, hPn, -⟩ := set_new HP.out 4 (.int .u32 (m.ssrc.toNat : Nat))
    simp only [pc, List.setIfInBounds_toArray, List.set_cons_zero, List.set_cons_succ] at hPn
    have HPn := Lib.hid hPn
    have HM := Lib.hid (HM.out.fr hF (by simp; try omega)); have HRM := Lib.hid (HRM.out.fr hF (by simp; try omega)); have HRP := Lib.hid (HRP.out.fr hF (by simp; try omega)); have HF := Lib.hid (HF.out.step hF (fun x hx => by simp at hx; subst hx; exact .inr (by have := HHW.out; omega)))
    clear hPn hF
    go_upto_region 9 with (fail)
    try rw [en]
    clear hFr hCl en
    clear k0 HP
    have HP := HPn
    clear HPn
    have k0 := HM.out.cell 1
    simp only [mc, List.getElem?_toArray, List.getElem?_cons_succ, List.getElem?_cons_zero, List.setIfInBounds_toArray, List.set_cons_zero, List.set_cons_succ] at k0
    have hFr := HP.out.free 1; have hCl := HP.out.cell 1
    simp only [pc, List.getElem?_toArray, List.getElem?_cons_succ, List.getElem?_cons_zero, List.setIfInBounds_toArray, List.set_cons_zero, List.set_cons_succ] at hCl
    obtain ⟨u6, en, hF, hPn, -⟩ := set_new HP.out 1 (.int .i64 m.pt)
    simp only [pc, List.setIfInBounds_toArray, List.set_cons_zero, List.set_cons_succ] at hPn
    have HPn := Lib.hid hPn
    have HM := Lib.hid (HM.out.fr hF (by simp; try omega)); have HRM := Lib.hid (HRM.out.fr hF (by simp; try omega)); have HRP := Lib.hid (HRP.out.fr hF (by simp; try omega)); have HF := Lib.hid (HF.out.step hF (fun x hx => by simp at hx; subst hx; exact .inr (by have := HHW.out; omega)))
    clear hPn hF
    go_upto_region 10 with (fail)
    try rw [en]
    clear hFr hCl en
    clear k0 HP
    have HP := HPn
    clear HPn
    have k0 := HM.out.cell 2
    simp only [mc, List.getElem?_toArray, List.getElem?_cons_succ, List.getElem?_cons_zero, List.setIfInBounds_toArray, List.set_cons_zero, List.set_cons_succ] at k0
    have hFr := HP.out.free 2; have hCl := HP.out.cell 2
    simp only [pc, List.getElem?_toArray, List.getElem?_cons_succ, List.getElem?_cons_zero, List.setIfInBounds_toArray, List.set_cons_zero, List.set_cons_succ] at hCl
    obtain ⟨u7, en, hF, hPn, -⟩ := set_new HP.out 2 (.int .u16 (m.next.toNat : Nat))
    simp only [pc, List.setIfInBounds_toArray, List.set_cons_zero, List.set_cons_succ] at hPn
    have HPn := Lib.hid hPn
    have HM := Lib.hid (HM.out.fr hF (by simp; try omega)); have HRM := Lib.hid (HRM.out.fr hF (by simp; try omega)); have HRP := Lib.hid (HRP.out.fr hF (by simp; try omega)); have HF := Lib.hid (HF.out.step hF (fun x hx => by simp at hx; subst hx; exact .inr (by have := HHW.out; omega)))
    clear hPn hF
    go_upto_region 11 with (fail)
    try rw [en]
    clear hFr hCl en
    clear k0 HP
    have HP := HPn
    clear HPn
    have k0 := HM.out.cell 5
    simp only [mc, List.getElem?_toArray, List.getElem?_cons_succ, List.getElem?_cons_zero, List.setIfInBounds_toArray, List.set_cons_zero, List.set_cons_succ] at k0
    have k1 := HP.out.cell 3
    simp only [pc, List.getElem?_toArray, List.getElem?_cons_succ, List.getElem?_cons_zero, List.setIfInBounds_toArray, List.set_cons_zero, List.set_cons_succ] at k1
    have hFr := HP.out.free 3; have hCl := HP.out.cell 3
    simp only [pc, List.getElem?_toArray, List.getElem?_cons_succ, List.getElem?_cons_zero, List.setIfInBounds_toArray, List.set_cons_zero, List.set_cons_succ] at hCl
    obtain ⟨u8, en, hF, hPn, -⟩ := set_new HP.out 3 (.int .u32 ((sum32 p.ts m.shift).toNat : Nat))
    simp only [pc, List.setIfInBounds_toArray, List.set_cons_zero, List.set_cons_succ] at hPn
    have HPn := Lib.hid hPn
    have HM := Lib.hid (HM.out.fr hF (by simp; try omega)); have HRM := Lib.hid (HRM.out.fr hF (by simp; try omega)); have HRP := Lib.hid (HRP.out.fr hF (by simp; try omega)); have HF := Lib.hid (HF.out.step hF (fun x hx => by simp at hx; subst hx; exact .inr (by have := HHW.out; omega)))
    clear hPn hF
    have hsw : wrap64 ((m.shift.toNat : Nat) : Int) = ((m.shift.toNat : Nat) : Int) := by have := m.shift.toNat_lt; unfold wrap64; omega
    go_wp2_with fail
    try rw [hsw]
    clear hsw
    refine (RAdd32_any p.ts ((m.shift.toNat : Nat) : Int) _).mono ?_
    rintro e wz ⟨rfl, rfl⟩
    rw [add32_sum]
    go_upto_region 12 with (fail)
    try rw [en]
    clear hFr hCl en
    clear k0 k1 HP
    have HP := HPn
    clear HPn
    have k0 := HM.out.cell 2
    simp only [mc, List.getElem?_toArray, List.getElem?_cons_succ, List.getElem?_cons_zero, List.setIfInBounds_toArray, List.set_cons_zero, List.set_cons_succ] at k0
    have hFr := HM.out.free 2; have hCl := HM.out.cell 2
    simp only [mc, List.getElem?_toArray, List.getElem?_cons_succ, List.getElem?_cons_zero, List.setIfInBounds_toArray, List.set_cons_zero, List.set_cons_succ] at hCl
    obtain ⟨u9, en, hF, hMn, -⟩ := set_new HM.out 2 (.int .u16 ((add16 m.next 1).toNat : Nat))
    simp only [mc, List.setIfInBounds_toArray, List.set_cons_zero, List.set_cons_succ] at hMn
    have HMn := Lib.hid hMn
    have HP := Lib.hid (HP.out.fr hF (by simp; try omega)); have HRM := Lib.hid (HRM.out.fr hF (by simp; try omega)); have HRP := Lib.hid (HRP.out.fr hF (by simp; try omega)); have HF := Lib.hid (HF.out.step hF (fun x hx => by simp at hx; subst hx; exact .inr (by have := HHW.out; omega)))
    clear hMn hF
    go_wp2_with fail
    refine (RAdd_any m.next 1 _).mono ?_
    rintro e wz ⟨rfl, rfl⟩
    go_upto_region 13 with (fail)
    try rw [en]
    clear hFr hCl en
    clear k0 HM
    have HM := HMn
    clear HMn
    have k0 := HP.out.cell 3
    simp only [pc, List.getElem?_toArray, List.getElem?_cons_succ, List.getElem?_cons_zero, List.setIfInBounds_toArray, List.set_cons_zero, List.set_cons_succ] at k0
    have hFr := HM.out.free 3; have hCl := HM.out.cell 3
    simp only [mc, List.getElem?_toArray, List.getElem?_cons_succ, List.getElem?_cons_zero, List.setIfInBounds_toArray, List.set_cons_zero, List.set_cons_succ] at hCl
    obtain ⟨u10, en, hF, hMn, -⟩ := set_new HM.out 3 (.int .u32 ((sum32 p.ts m.shift).toNat : Nat))
    simp only [mc, List.setIfInBounds_toArray, List.set_cons_zero, List.set_cons_succ] at hMn
    have HMn := Lib.hid hMn
    have HP := Lib.hid (HP.out.fr hF (by simp; try omega)); have HRM := Lib.hid (HRM.out.fr hF (by simp; try omega)); have HRP := Lib.hid (HRP.out.fr hF (by simp; try omega)); have HF := Lib.hid (HF.out.step hF (fun x hx => by simp at hx; subst hx; exact .inr (by have := HHW.out; omega)))
    clear hMn hF
    go_upto_region 14 with (fail)
    try rw [en]
    clear hFr hCl en
    clear k0 HM
    have HM := HMn
    clear HMn
    have hct : m.cnt ≤ 1099511627776 := by have h1 := (m.ready_same p.ts).2.2.2.1; have h2 := HOK.out.ct; rw [← HRD.out] at h1; omega
    have hFr := HM.out.free 8; have hCl := HM.out.cell 8
    simp only [mc, List.getElem?_toArray, List.getElem?_cons_succ, List.getElem?_cons_zero, List.setIfInBounds_toArray, List.set_cons_zero, List.set_cons_succ] at hCl
    obtain ⟨u11, en, hF, hMn, -⟩ := set_new HM.out 8 (.int .i64 ((m.cnt : Nat) + 1 : Int))
    simp only [mc, List.setIfInBounds_toArray, List.set_cons_zero, List.set_cons_succ] at hMn
    have HMn := Lib.hid hMn
    have HP := Lib.hid (HP.out.fr hF (by simp; try omega)); have HRM := Lib.hid (HRM.out.fr hF (by simp; try omega)); have HRP := Lib.hid (HRP.out.fr hF (by simp; try omega)); have HF := Lib.hid (HF.out.step hF (fun x hx => by simp at hx; subst hx; exact .inr (by have := HHW.out; omega)))
    clear hMn hF
    go_upto_region 15 with (fail)
    try rw [en]
    clear hFr hCl en
    clear HM
    have HM := HMn
    clear HMn
    refine wp_region_T (fun w' => Box w' W 88 #[.int .u32 (m.ssrc.toNat : Nat), .int .i64 m.pt, .int .u16 ((add16 m.next 1).toNat : Nat), .int .u32 ((sum32 p.ts m.shift).toNat : Nat), .int .i64 m.step, .int .u32 (m.shift.toNat : Nat), .bool m.opn, .int .i64 (m.segs : Nat), .int .i64 ((m.cnt : Nat) + 1 : Int)] ∧ Box w' (W + 1) 67 (pc p.marker m.pt m.next.toNat (sum32 p.ts m.shift).toNat m.ssrc.toNat (.slice a1 p.csrc.length c1) p.hasExt p.profile.toNat (.slice a2 p.ext.length c2) (.slice a3 p.payload.length c3) (.slice a4 p.pad.length c4))) [] 4 #[false, false, false, false] (by kernel_rfl) rfl rfl ?_
    have hF := (Fr.refl [] u11).drew
    have HM := Lib.hid (HM.out.keep hF); have HP := Lib.hid (HP.out.keep hF); have HRM := Lib.hid (HRM.out.keep hF); have HRP := Lib.hid (HRP.out.keep hF); have HF := Lib.hid (HF.out.trans hF)
    have HSS := Lib.hid (And.intro HM.out HP.out)
    clear hF hct
    generalize u11.drew = wd at *
    refine wpAnyT_load (i := 0) (v := ?_) rfl (by kernel_rfl) (by kernel_rfl) (by kernel_rfl) (by kernel_rfl) (by kernel_rfl) (fun _ _ _ h => h) HSS.out (by rfl) ?_ ?_
    rotate_left
    · intro w hSw; refine run_load_row 88 (.tmp 2) ?_ W ?_ 88 _ _ hSw.1 Try.underlying88 rfl (by kernel_rfl) <;> rfl
    simp only [Act.put, List.getElem_toArray, List.getElem_cons_zero, List.getElem_cons_succ, List.setIfInBounds_toArray, List.set_cons_zero, List.set_cons_succ]
    refine wpAnyT_load (i := 1) (v := ?_) rfl (by kernel_rfl) (by kernel_rfl) (by kernel_rfl) (by kernel_rfl) (by kernel_rfl) (fun _ _ _ h => h) HSS.out (by rfl) ?_ ?_
    rotate_left
    · intro w hSw; refine run_load_row 67 (.tmp 3) ?_ (W + 1) ?_ 67 _ _ hSw.2 Try.underlying67 rfl (by kernel_rfl) <;> rfl
    simp only [Act.put, List.getElem_toArray, List.getElem_cons_zero, List.getElem_cons_succ, List.setIfInBounds_toArray, List.set_cons_zero, List.set_cons_succ]
    refine wpAnyT_one (i := 2) (by kernel_rfl) rfl (fun K hK => ?_)
    refine wp_store_row rfl 88 (.tmp 4) (.tmp 59) rfl (W + 1 + 1) rfl _ _ rfl 88 HRM.out (by kernel_rfl) rfl (by intro u hu; simp at hu; rcases hu with rfl | rfl | rfl | rfl | rfl | rfl | rfl | rfl | rfl <;> rfl) ?_
    intro we hY hG
    have HMn := Lib.hid (HM.out.fr hG (by simp; try omega)); have HPn := Lib.hid (HP.out.fr hG (by simp; try omega))
    refine hK.out _ _ (fun _ => ⟨HMn.out, HPn.out⟩) ?_
    clear hK K
    simp only [Act.put, List.getElem_toArray, List.getElem_cons_zero, List.getElem_cons_succ, List.setIfInBounds_toArray, List.set_cons_zero, List.set_cons_succ]
    have HRP := Lib.hid (HRP.out.fr hG (by simp; try omega))
    have HF := Lib.hid (HF.out.step hG (fun x hx => by simp at hx; subst hx; exact .inr (by have := HHW.out; omega)))
    have HRM := Lib.hid hY; have HM := HMn; have HP := HPn
    clear hY hG HMn HPn
    refine wpAnyT_one (i := 3) (by kernel_rfl) rfl (fun K hK => ?_)
    refine wp_store_row rfl 67 (.tmp 5) (.tmp 60) rfl (W + 1 + 1 + 1) rfl _ _ rfl 67 HRP.out (by kernel_rfl) rfl (oneCell_pc _ _ _ _ _ _ _ _ _ _ _ ⟨_, _, _, rfl⟩ ⟨_, _, _, rfl⟩ ⟨_, _, _, rfl⟩ ⟨_, _, _, rfl⟩) ?_
    intro wf hY hG
    have HMn := Lib.hid (HM.out.fr hG (by simp; try omega)); have HPn := Lib.hid (HP.out.fr hG (by simp; try omega))
    refine hK.out _ _ (fun _ => ⟨HMn.out, HPn.out⟩) ?_
    clear hK K
    simp only [Act.put, List.getElem_toArray, List.getElem_cons_zero, List.getElem_cons_succ, List.setIfInBounds_toArray, List.set_cons_zero, List.set_cons_succ]
    have HRM := Lib.hid (HRM.out.fr hG (by simp; try omega))
    have HF := Lib.hid (HF.out.step hG (fun x hx => by simp at hx; subst hx; exact .inr (by have := HHW.out; omega)))
    have HRP := Lib.hid hY; have HM := HMn; have HP := HPn
    clear hY hG HMn HPn
    refine wpAnyT_done (by kernel_rfl) ?_ _
    clear HSS
    go_wp2_with fail
    have h2 := m.ready_same p.ts
    rw [← HRD.out] at h2
    have e1 : (m.out p).ts = sum32 p.ts m.shift := by show sum32 p.ts (m.ready p.ts).shift = _; rw [← HRD.out]
    have hMF : #[.int .u32 (m.ssrc.toNat : Nat), .int .i64 m.pt, .int .u16 ((add16 m.next 1).toNat : Nat), .int .u32 ((sum32 p.ts m.shift).toNat : Nat), .int .i64 m.step, .int .u32 (m.shift.toNat : Nat), .bool m.opn, .int .i64 (m.segs : Nat), .int .i64 ((m.cnt : Nat) + 1 : Int)] = mc (m.step_ p) := by
      show _ = mc { (m.ready p.ts) with next := add16 m.next 1, last := (m.out p).ts, cnt := m.cnt + 1 }
      rw [← HRD.out, e1, ← h2.2.2.1, ← h2.2.2.2.1]
      rfl
    have hPF := (HV0.out.keep HF.out).turn m.next (sum32 p.ts m.shift) m.ssrc m.pt
    have hPT : p.turn m.next (sum32 p.ts m.shift) m.ssrc m.pt = m.out p := by rw [RMap.out_turn, ← HRD.out, h2.1, h2.2.1, h2.2.2.1]
    rw [hPT] at hPF
    have HRM2 := Lib.hid (HRM.out.as_ hMF)
    refine bodyPost_ret (results_row_row rfl _ _ (W + 1 + 1) (W + 1 + 1 + 1) 88 67 _ _ _ _ rfl HRM2.out Try.underlying88 rfl (by kernel_rfl) rfl HRP.out Try.underlying67 rfl (by kernel_rfl)) rfl ⟨_, rfl, hPF, HF.out⟩
  · have hop2 : m.opn = false := by simpa using hop
    have HRD0 : Hid (m.begin_ p.ts = m.ready p.ts) := Lib.hid (by unfold RMap.ready; rw [if_neg hop])
    have k6 := HM.out.cell 6; have k3 := HM.out.cell 3; have k7 := HM.out.cell 7; have k4 := HM.out.cell 4; have p3 := HP.out.cell 3
    simp only [mc, pc, List.getElem?_toArray, List.getElem?_cons_succ, List.getElem?_cons_zero] at k6 k3 k7 k4 p3
    rw [hop2] at k6
    clear hop hop2
    have hst := HOK.out.st0; have hst1 := HOK.out.st1; have hsg := HOK.out.sg
    have hla := m.last.toNat_lt; have hpt := p.ts.toNat_lt
    have hw1 : wrap64 ((m.last.toNat : Nat) : Int) = ((m.last.toNat : Nat) : Int) := by unfold wrap64; omega
    have hw2 : wrap64 ((p.ts.toNat : Nat) : Int) = ((p.ts.toNat : Nat) : Int) := by unfold wrap64; omega
    have hse := shift_eq m p.ts
    have HSE := Lib.hid hse
    clear hse
    by_cases hsp : 0 < m.segs
    · have hse := HSE.out
      rw [if_pos hsp] at hse
      have HSE2 := Lib.hid hse
      clear hse
      have hFr := HM.out.free 5; have hCl := HM.out.cell 5
      simp only [mc, List.getElem?_toArray, List.getElem?_cons_succ, List.getElem?_cons_zero, List.setIfInBounds_toArray, List.set_cons_zero, List.set_cons_succ] at hCl
      obtain ⟨v5, en, hF, hMn, -⟩ := set_new HM.out 5 (.int .u32 ((m.start - p.ts).toNat : Nat))
      simp only [mc, List.setIfInBounds_toArray, List.set_cons_zero, List.set_cons_succ] at hMn
      have HMn := Lib.hid hMn
      have HP := Lib.hid (HP.out.fr hF (by simp; try omega)); have HRM := Lib.hid (HRM.out.fr hF (by simp; try omega)); have HRP := Lib.hid (HRP.out.fr hF (by simp; try omega)); have HF := Lib.hid (HF.out.step hF (fun x hx => by simp at hx; subst hx; exact .inr (by have := HHW.out; omega)))
      clear hMn hF
      go_wp2_with fail
      refine (RAdd32_any 0 _ _).mono ?_
      rintro e wz ⟨rfl, rfl⟩
      rw [HSE2.out]
      clear k6 k3 k7 k4 p3 hw1 hw2 HSE2
      go_upto_region 6 with (fail)
      try rw [en]
      clear hFr hCl en
      clear HM
      have HM := HMn
      clear HMn
      have hFr := HM.out.free 6; have hCl := HM.out.cell 6
      simp only [mc, List.getElem?_toArray, List.getElem?_cons_succ, List.getElem?_cons_zero, List.setIfInBounds_toArray, List.set_cons_zero, List.set_cons_succ] at hCl
      obtain ⟨v6, en, hF, hMn, -⟩ := set_new HM.out 6 (.bool true)
      simp only [mc, List.setIfInBounds_toArray, List.set_cons_zero, List.set_cons_succ] at hMn
      have HMn := Lib.hid hMn
      have HP := Lib.hid (HP.out.fr hF (by simp; try omega)); have HRM := Lib.hid (HRM.out.fr hF (by simp; try omega)); have HRP := Lib.hid (HRP.out.fr hF (by simp; try omega)); have HF := Lib.hid (HF.out.step hF (fun x hx => by simp at hx; subst hx; exact .inr (by have := HHW.out; omega)))
      clear hMn hF
      go_upto_region 7 with (fail)
      try rw [en]
      clear hFr hCl en
      clear HM
      have HM := HMn
      clear HMn
      have hFr := HM.out.free 7; have hCl := HM.out.cell 7
      simp only [mc, List.getElem?_toArray, List.getElem?_cons_succ, List.getElem?_cons_zero, List.setIfInBounds_toArray, List.set_cons_zero, List.set_cons_succ] at hCl
      obtain ⟨v7, en, hF, hMn, -⟩ := set_new HM.out 7 (.int .i64 ((m.segs : Nat) + 1 : Int))
      simp only [mc, List.setIfInBounds_toArray, List.set_cons_zero, List.set_cons_succ] at hMn
      have HMn := Lib.hid hMn
      have HP := Lib.hid (HP.out.fr hF (by simp; try omega)); have HRM := Lib.hid (HRM.out.fr hF (by simp; try omega)); have HRP := Lib.hid (HRP.out.fr hF (by simp; try omega)); have HF := Lib.hid (HF.out.step hF (fun x hx => by simp at hx; subst hx; exact .inr (by have := HHW.out; omega)))
      clear hMn hF
      go_upto_region 8 with (fail)
      try rw [en]
      clear hFr hCl en
      clear HM
      have HM := HMn
      clear HMn
      obtain ⟨M, hMM⟩ : ∃ M, M = m.begin_ p.ts := ⟨_, rfl⟩
      have HRD : Hid (M = m.ready p.ts) := Lib.hid (hMM.trans HRD0.out)
      have HM : Hid (Box v7 W 88 (mc M)) := Lib.hid (HM.out.as_ (by rw [hMM]; rfl))
      clear hMM HRD0 hst hst1 hsg hla hpt hsp HSE
      have k0 := HM.out.cell 0
      simp only [mc, List.getElem?_toArray, List.getElem?_cons_succ, List.getElem?_cons_zero, List.setIfInBounds_toArray, List.set_cons_zero, List.set_cons_succ] at k0
      have hFr := HP.out.free 4; have hCl := HP.out.cell 4
      simp only [pc, List.getElem?_toArray, List.getElem?_cons_succ, List.getElem?_cons_zero, List.setIfInBounds_toArray, List.set_cons_zero, List.set_cons_succ] at hCl
      obtain ⟨u9, en, hF, hPn, -⟩ := set_new HP.out 4 (.int .u32 (M.ssrc.toNat : Nat))
      simp only [pc, List.setIfInBounds_toArray, List.set_cons_zero, List.set_cons_succ] at hPn
      have HPn := Lib.hid hPn
      have HM := Lib.hid (HM.out.fr hF (by simp; try omega)); have HRM := Lib.hid (HRM.out.fr hF (by simp; try omega)); have HRP := Lib.hid (HRP.out.fr hF (by simp; try omega)); have HF := Lib.hid (HF.out.step hF (fun x hx => by simp at hx; subst hx; exact .inr (by have := HHW.out; omega)))
      clear hPn hF
      go_upto_region 9 with (fail)
      try rw [en]
      clear hFr hCl en
      clear k0 HP
      have HP := HPn
      clear HPn
      have k0 := HM.out.cell 1
      simp only [mc, List.getElem?_toArray, List.getElem?_cons_succ, List.getElem?_cons_zero, List.setIfInBounds_toArray, List.set_cons_zero, List.set_cons_succ] at k0
      have hFr := HP.out.free 1; have hCl := HP.out.cell 1
      simp only [pc, List.getElem?_toArray, List.getElem?_cons_succ, List.getElem?_cons_zero, List.setIfInBounds_toArray, List.set_cons_zero, List.set_cons_succ] at hCl
      obtain ⟨u10, en, hF, hPn, -⟩ := set_new HP.out 1 (.int .i64 M.pt)
      simp only [pc, List.setIfInBounds_toArray, List.set_cons_zero, List.set_cons_succ] at hPn
      have HPn := Lib.hid hPn
      have HM := Lib.hid (HM.out.fr hF (by simp; try omega)); have HRM := Lib.hid (HRM.out.fr hF (by simp; try omega)); have HRP := Lib.hid (HRP.out.fr hF (by simp; try omega)); have HF := Lib.hid (HF.out.step hF (fun x hx => by simp at hx; subst hx; exact .inr (by have := HHW.out; omega)))
      clear hPn hF
      go_upto_region 10 with (fail)
      try rw [en]
      clear hFr hCl en
      clear k0 HP
      have HP := HPn
      clear HPn
      have k0 := HM.out.cell 2
      simp only [mc, List.getElem?_toArray, List.getElem?_cons_succ, List.getElem?_cons_zero, List.setIfInBounds_toArray, List.set_cons_zero, List.set_cons_succ] at k0
      have hFr := HP.out.free 2; have hCl := HP.out.cell 2
      simp only [pc, List.getElem?_toArray, List.getElem?_cons_succ, List.getElem?_cons_zero, List.setIfInBounds_toArray, List.set_cons_zero, List.set_cons_succ] at hCl
      obtain ⟨u11, en, hF, hPn, -⟩ := set_new HP.out 2 (.int .u16 (M.next.toNat : Nat))
      simp only [pc, List.setIfInBounds_toArray, List.set_cons_zero, List.set_cons_succ] at hPn
      have HPn := Lib.hid hPn
      have HM := Lib.hid (HM.out.fr hF (by simp; try omega)); have HRM := Lib.hid (HRM.out.fr hF (by simp; try omega)); have HRP := Lib.hid (HRP.out.fr hF (by simp; try omega)); have HF := Lib.hid (HF.out.step hF (fun x hx => by simp at hx; subst hx; exact .inr (by have := HHW.out; omega)))
      clear hPn hF
      go_upto_region 11 with (fail)
      try rw [en]
      clear hFr hCl en
      clear k0 HP
      have HP := HPn
      clear HPn
      have k0 := HM.out.cell 5
      simp only [mc, List.getElem?_toArray, List.getElem?_cons_succ, List.getElem?_cons_zero, List.setIfInBounds_toArray, List.set_cons_zero, List.set_cons_succ] at k0
      have k1 := HP.out.cell 3
      simp only [pc, List.getElem?_toArray, List.getElem?_cons_succ, List.getElem?_cons_zero, List.setIfInBounds_toArray, List.set_cons_zero, List.set_cons_succ] at k1
      have hFr := HP.out.free 3; have hCl := HP.out.cell 3
      simp only [pc, List.getElem?_toArray, List.getElem?_cons_succ, List.getElem?_cons_zero, List.setIfInBounds_toArray, List.set_cons_zero, List.set_cons_succ] at hCl
      obtain ⟨u12, en, hF, hPn, -⟩ := set_new HP.out 3 (.int .u32 ((sum32 p.ts M.shift).toNat : Nat))
      simp only [pc, List.setIfInBounds_toArray, List.set_cons_zero, List.set_cons_succ] at hPn
      have HPn := Lib.hid hPn
      have HM := Lib.hid (HM.out.fr hF (by simp; try omega)); have HRM := Lib.hid (HRM.out.fr hF (by simp; try omega)); have HRP := Lib.hid (HRP.out.fr hF (by simp; try omega)); have HF := Lib.hid (HF.out.step hF (fun x hx => by simp at hx; subst hx; exact .inr (by have := HHW.out; omega)))
      clear hPn hF
      have hsw : wrap64 ((M.shift.toNat : Nat) : Int) = ((M.shift.toNat : Nat) : Int) := by have := M.shift.toNat_lt; unfold wrap64; omega
      go_wp2_with fail
      try rw [hsw]
      clear hsw
      refine (RAdd32_any p.ts ((M.shift.toNat : Nat) : Int) _).mono ?_
      rintro e wz ⟨rfl, rfl⟩
      rw [add32_sum]
      go_upto_region 12 with (fail)
      try rw [en]
      clear hFr hCl en
      clear k0 k1 HP
      have HP := HPn
      clear HPn
      have k0 := HM.out.cell 2
      simp only [mc, List.getElem?_toArray, List.getElem?_cons_succ, List.getElem?_cons_zero, List.setIfInBounds_toArray, List.set_cons_zero, List.set_cons_succ] at k0
      have hFr := HM.out.free 2; have hCl := HM.out.cell 2
      simp only [mc, List.getElem?_toArray, List.getElem?_cons_succ, List.getElem?_cons_zero, List.setIfInBounds_toArray, List.set_cons_zero, List.set_cons_succ] at hCl
      obtain ⟨u13, en, hF, hMn, -⟩ := set_new HM.out 2 (.int .u16 ((add16 M.next 1).toNat : Nat))
      simp only [mc, List.setIfInBounds_toArray, List.set_cons_zero, List.set_cons_succ] at hMn
      have HMn := Lib.hid hMn
      have HP := Lib.hid (HP.out.fr hF (by simp; try omega)); have HRM := Lib.hid (HRM.out.fr hF (by simp; try omega)); have HRP := Lib.hid (HRP.out.fr hF (by simp; try omega)); have HF := Lib.hid (HF.out.step hF (fun x hx => by simp at hx; subst hx; exact .inr (by have := HHW.out; omega)))
      clear hMn hF
      go_wp2_with fail
      refine (RAdd_any M.next 1 _).mono ?_
      rintro e wz ⟨rfl, rfl⟩
      go_upto_region 13 with (fail)
      try rw [en]
      clear hFr hCl en
      clear k0 HM
      have HM := HMn
      clear HMn
      have k0 := HP.out.cell 3
      simp only [pc, List.getElem?_toArray, List.getElem?_cons_succ, List.getElem?_cons_zero, List.setIfInBounds_toArray, List.set_cons_zero, List.set_cons_succ] at k0
      have hFr := HM.out.free 3; have hCl := HM.out.cell 3
      simp only [mc, List.getElem?_toArray, List.getElem?_cons_succ, List.getElem?_cons_zero, List.setIfInBounds_toArray, List.set_cons_zero, List.set_cons_succ] at hCl
      obtain ⟨u14, en, hF, hMn, -⟩ := set_new HM.out 3 (.int .u32 ((sum32 p.ts M.shift).toNat : Nat))
      simp only [mc, List.setIfInBounds_toArray, List.set_cons_zero, List.set_cons_succ] at hMn
      have HMn := Lib.hid hMn
      have HP := Lib.hid (HP.out.fr hF (by simp; try omega)); have HRM := Lib.hid (HRM.out.fr hF (by simp; try omega)); have HRP := Lib.hid (HRP.out.fr hF (by simp; try omega)); have HF := Lib.hid (HF.out.step hF (fun x hx => by simp at hx; subst hx; exact .inr (by have := HHW.out; omega)))
      clear hMn hF
      go_upto_region 14 with (fail)
      try rw [en]
      clear hFr hCl en
      clear k0 HM
      have HM := HMn
      clear HMn
      have hct : M.cnt ≤ 1099511627776 := by have h1 := (m.ready_same p.ts).2.2.2.1; have h2 := HOK.out.ct; rw [← HRD.out] at h1; omega
      have hFr := HM.out.free 8; have hCl := HM.out.cell 8
      simp only [mc, List.getElem?_toArray, List.getElem?_cons_succ, List.getElem?_cons_zero, List.setIfInBounds_toArray, List.set_cons_zero, List.set_cons_succ] at hCl
      obtain ⟨u15, en, hF, hMn, -⟩ := set_new HM.out 8 (.int .i64 ((M.cnt : Nat) + 1 : Int))
      simp only [mc, List.setIfInBounds_toArray, List.set_cons_zero, List.set_cons_succ] at hMn
      have HMn := Lib.hid hMn
      have HP := Lib.hid (HP.out.fr hF (by simp; try omega)); have HRM := Lib.hid (HRM.out.fr hF (by simp; try omega)); have HRP := Lib.hid (HRP.out.fr hF (by simp; try omega)); have HF := Lib.hid (HF.out.step hF (fun x hx => by simp at hx; subst hx; exact .inr (by have := HHW.out; omega)))
      clear hMn hF
      go_upto_region 15 with (fail)
      try rw [en]
      clear hFr hCl en
      clear HM
      have HM := HMn
      clear HMn
      refine wp_region_T (fun w' => Box w' W 88 #[.int .u32 (M.ssrc.toNat : Nat), .int .i64 M.pt, .int .u16 ((add16 M.next 1).toNat : Nat), .int .u32 ((sum32 p.ts M.shift).toNat : Nat), .int .i64 M.step, .int .u32 (M.shift.toNat : Nat), .bool M.opn, .int .i64 (M.segs : Nat), .int .i64 ((M.cnt : Nat) + 1 : Int)] ∧ Box w' (W + 1) 67 (pc p.marker M.pt M.next.toNat (sum32 p.ts M.shift).toNat M.ssrc.toNat (.slice a1 p.csrc.length c1) p.hasExt p.profile.toNat (.slice a2 p.ext.length c2) (.slice a3 p.payload.length c3) (.slice a4 p.pad.length c4))) [] 4 #[false, false, false, false] (by kernel_rfl) rfl rfl ?_
      have hF := (Fr.refl [] u15).drew
      have HM := Lib.hid (HM.out.keep hF); have HP := Lib.hid (HP.out.keep hF); have HRM := Lib.hid (HRM.out.keep hF); have HRP := Lib.hid (HRP.out.keep hF); have HF := Lib.hid (HF.out.trans hF)
      have HSS := Lib.hid (And.intro HM.out HP.out)
      clear hF hct
      generalize u15.drew = wd at *
      refine wpAnyT_load (i := 0) (v := ?_) rfl (by kernel_rfl) (by kernel_rfl) (by kernel_rfl) (by kernel_rfl) (by kernel_rfl) (fun _ _ _ h => h) HSS.out (by rfl) ?_ ?_
      rotate_left
      · intro w hSw; refine run_load_row 88 (.tmp 2) ?_ W ?_ 88 _ _ hSw.1 Try.underlying88 rfl (by kernel_rfl) <;> rfl
      simp only [Act.put, List.getElem_toArray, List.getElem_cons_zero, List.getElem_cons_succ, List.setIfInBounds_toArray, List.set_cons_zero, List.set_cons_succ]
      refine wpAnyT_load (i := 1) (v := ?_) rfl (by kernel_rfl) (by kernel_rfl) (by kernel_rfl) (by kernel_rfl) (by kernel_rfl) (fun _ _ _ h => h) HSS.out (by rfl) ?_ ?_
      rotate_left
      · intro w hSw; refine run_load_row 67 (.tmp 3) ?_ (W + 1) ?_ 67 _ _ hSw.2 Try.underlying67 rfl (by kernel_rfl) <;> rfl
      simp only [Act.put, List.getElem_toArray, List.getElem_cons_zero, List.getElem_cons_succ, List.setIfInBounds_toArray, List.set_cons_zero, List.set_cons_succ]
      refine wpAnyT_one (i := 2) (by kernel_rfl) rfl (fun K hK => ?_)
      refine wp_store_row rfl 88 (.tmp 4) (.tmp 59) rfl (W + 1 + 1) rfl _ _ rfl 88 HRM.out (by kernel_rfl) rfl (by intro u hu; simp at hu; rcases hu with rfl | rfl | rfl | rfl | rfl | rfl | rfl | rfl | rfl <;> rfl) ?_
      intro we hY hG
      have HMn := Lib.hid (HM.out.fr hG (by simp; try omega)); have HPn := Lib.hid (HP.out.fr hG (by simp; try omega))
      refine hK.out _ _ (fun _ => ⟨HMn.out, HPn.out⟩) ?_
      clear hK K
      simp only [Act.put, List.getElem_toArray, List.getElem_cons_zero, List.getElem_cons_succ, List.setIfInBounds_toArray, List.set_cons_zero, List.set_cons_succ]
      have HRP := Lib.hid (HRP.out.fr hG (by simp; try omega))
      have HF := Lib.hid (HF.out.step hG (fun x hx => by simp at hx; subst hx; exact .inr (by have := HHW.out; omega)))
      have HRM := Lib.hid hY; have HM := HMn; have HP := HPn
      clear hY hG HMn HPn
      refine wpAnyT_one (i := 3) (by kernel_rfl) rfl (fun K hK => ?_)
      refine wp_store_row rfl 67 (.tmp 5) (.tmp 60) rfl (W + 1 + 1 + 1) rfl _ _ rfl 67 HRP.out (by kernel_rfl) rfl (oneCell_pc _ _ _ _ _ _ _ _ _ _ _ ⟨_, _, _, rfl⟩ ⟨_, _, _, rfl⟩ ⟨_, _, _, rfl⟩ ⟨_, _, _, rfl⟩) ?_
      intro wf hY hG
      have HMn := Lib.hid (HM.out.fr hG (by simp; try omega)); have HPn := Lib.hid (HP.out.fr hG (by simp; try omega))
      refine hK.out _ _ (fun _ => ⟨HMn.out, HPn.out⟩) ?_
      clear hK K
      simp only [Act.put, List.getElem_toArray, List.getElem_cons_zero, List.getElem_cons_succ, List.setIfInBounds_toArray, List.set_cons_zero, List.set_cons_succ]
      have HRM := Lib.hid (HRM.out.fr hG (by simp; try omega))
      have HF := Lib.hid (HF.out.step hG (fun x hx => by simp at hx; subst hx; exact .inr (by have := HHW.out; omega)))
      have HRP := Lib.hid hY; have HM := HMn; have HP := HPn
      clear hY hG HMn HPn
      refine wpAnyT_done (by kernel_rfl) ?_ _
      clear HSS
      go_wp2_with fail
      have h2 := m.ready_same p.ts
      rw [← HRD.out] at h2
      have e1 : (m.out p).ts = sum32 p.ts M.shift := by show sum32 p.ts (m.ready p.ts).shift = _; rw [← HRD.out]
      have hMF : #[.int .u32 (M.ssrc.toNat : Nat), .int .i64 M.pt, .int .u16 ((add16 M.next 1).toNat : Nat), .int .u32 ((sum32 p.ts M.shift).toNat : Nat), .int .i64 M.step, .int .u32 (M.shift.toNat : Nat), .bool M.opn, .int .i64 (M.segs : Nat), .int .i64 ((M.cnt : Nat) + 1 : Int)] = mc (m.step_ p) := by
        show _ = mc { (m.ready p.ts) with next := add16 m.next 1, last := (m.out p).ts, cnt := m.cnt + 1 }
        rw [← HRD.out, e1, ← h2.2.2.1, ← h2.2.2.2.1]
        rfl
      have hPF := (HV0.out.keep HF.out).turn M.next (sum32 p.ts M.shift) M.ssrc M.pt
      have hPT : p.turn M.next (sum32 p.ts M.shift) M.ssrc M.pt = m.out p := by rw [RMap.out_turn, ← HRD.out, h2.1, h2.2.1, h2.2.2.1]
      rw [hPT] at hPF
      have HRM2 := Lib.hid (HRM.out.as_ hMF)
      refine bodyPost_ret (results_row_row rfl _ _ (W + 1 + 1) (W + 1 + 1 + 1) 88 67 _ _ _ _ rfl HRM2.out Try.underlying88 rfl (by kernel_rfl) rfl HRP.out Try.underlying67 rfl (by kernel_rfl)) rfl ⟨_, rfl, hPF, HF.out⟩
    · have hz : m.segs = 0 := by omega
      rw [hz] at k7
      have HZ := Lib.hid hz
      clear hz
      have hse := HSE.out
      rw [if_neg hsp, Int.add_zero] at hse
      have HSE2 := Lib.hid hse
      clear hse
      have hFr := HM.out.free 5; have hCl := HM.out.cell 5
      simp only [mc, List.getElem?_toArray, List.getElem?_cons_succ, List.getElem?_cons_zero, List.setIfInBounds_toArray, List.set_cons_zero, List.set_cons_succ] at hCl
      obtain ⟨v5, en, hF, hMn, -⟩ := set_new HM.out 5 (.int .u32 ((m.start - p.ts).toNat : Nat))
      simp only [mc, List.setIfInBounds_toArray, List.set_cons_zero, List.set_cons_succ] at hMn
      have HMn := Lib.hid hMn
      have HP := Lib.hid (HP.out.fr hF (by simp; try omega)); have HRM := Lib.hid (HRM.out.fr hF (by simp; try omega)); have HRP := Lib.hid (HRP.out.fr hF (by simp; try omega)); have HF := Lib.hid (HF.out.step hF (fun x hx => by simp at hx; subst hx; exact .inr (by have := HHW.out; omega)))
      clear hMn hF
      go_wp2_with fail
      refine (RAdd32_any 0 _ _).mono ?_
      rintro e wz ⟨rfl, rfl⟩
      rw [HSE2.out]
      clear k6 k3 k7 k4 p3 hw1 hw2 HSE2
      go_upto_region 6 with (fail)
      try rw [en]
      clear hFr hCl en
      clear HM
      have HM := HMn
      clear HMn
      have hFr := HM.out.free 6; have hCl := HM.out.cell 6
      simp only [mc, List.getElem?_toArray, List.getElem?_cons_succ, List.getElem?_cons_zero, List.setIfInBounds_toArray, List.set_cons_zero, List.set_cons_succ] at hCl
      obtain ⟨v6, en, hF, hMn, -⟩ := set_new HM.out 6 (.bool true)
      simp only [mc, List.setIfInBounds_toArray, List.set_cons_zero, List.set_cons_succ] at hMn
      have HMn := Lib.hid hMn
      have HP := Lib.hid (HP.out.fr hF (by simp; try omega)); have HRM := Lib.hid (HRM.out.fr hF (by simp; try omega)); have HRP := Lib.hid (HRP.out.fr hF (by simp; try omega)); have HF := Lib.hid (HF.out.step hF (fun x hx => by simp at hx; subst hx; exact .inr (by have := HHW.out; omega)))
      clear hMn hF
      go_upto_region 7 with (fail)
      try rw [en]
      clear hFr hCl en
      clear HM
      have HM := HMn
      clear HMn
      have hFr := HM.out.free 7; have hCl := HM.out.cell 7
      simp only [mc, List.getElem?_toArray, List.getElem?_cons_succ, List.getElem?_cons_zero, List.setIfInBounds_toArray, List.set_cons_zero, List.set_cons_succ] at hCl
      obtain ⟨v7, en, hF, hMn, -⟩ := set_new HM.out 7 (.int .i64 ((m.segs : Nat) + 1 : Int))
      simp only [mc, List.setIfInBounds_toArray, List.set_cons_zero, List.set_cons_succ] at hMn
      have HMn := Lib.hid hMn
      have HP := Lib.hid (HP.out.fr hF (by simp; try omega)); have HRM := Lib.hid (HRM.out.fr hF (by simp; try omega)); have HRP := Lib.hid (HRP.out.fr hF (by simp; try omega)); have HF := Lib.hid (HF.out.step hF (fun x hx => by simp at hx; subst hx; exact .inr (by have := HHW.out; omega)))
      clear hMn hF
      go_upto_region 8 with (fail)
      try rw [en]
      clear hFr hCl en
      clear HM
      have HM := HMn
      clear HMn
      obtain ⟨M, hMM⟩ : ∃ M, M = m.begin_ p.ts := ⟨_, rfl⟩
      have HRD : Hid (M = m.ready p.ts) := Lib.hid (hMM.trans HRD0.out)
      have HM : Hid (Box v7 W 88 (mc M)) := Lib.hid (HM.out.as_ (by rw [hMM]; rfl))
      clear hMM HRD0 hst hst1 hsg hla hpt hsp HSE
      have k0 := HM.out.cell 0
      simp only [mc, List.getElem?_toArray, List.getElem?_cons_succ, List.getElem?_cons_zero, List.setIfInBounds_toArray, List.set_cons_zero, List.set_cons_succ] at k0
      have hFr := HP.out.free 4; have hCl := HP.out.cell 4
      simp only [pc, List.getElem?_toArray, List.getElem?_cons_succ, List.getElem?_cons_zero, List.setIfInBounds_toArray, List.set_cons_zero, List.set_cons_succ] at hCl
      obtain ⟨u9, en, hF, hPn, -⟩ := set_new HP.out 4 (.int .u32 (M.ssrc.toNat : Nat))
      simp only [pc, List.setIfInBounds_toArray, List.set_cons_zero, List.set_cons_succ] at hPn
      have HPn := Lib.hid hPn
      have HM := Lib.hid (HM.out.fr hF (by simp; try omega)); have HRM := Lib.hid (HRM.out.fr hF (by simp; try omega)); have HRP := Lib.hid (HRP.out.fr hF (by simp; try omega)); have HF := Lib.hid (HF.out.step hF (fun x hx => by simp at hx; subst hx; exact .inr (by have := HHW.out; omega)))
      clear hPn hF
      go_upto_region 9 with (fail)
      try rw [en]
      clear hFr hCl en
      clear k0 HP
      have HP := HPn
      clear HPn
      have k0 := HM.out.cell 1
      simp only [mc, List.getElem?_toArray, List.getElem?_cons_succ, List.getElem?_cons_zero, List.setIfInBounds_toArray, List.set_cons_zero, List.set_cons_succ] at k0
      have hFr := HP.out.free 1; have hCl := HP.out.cell 1
      simp only [pc, List.getElem?_toArray, List.getElem?_cons_succ, List.getElem?_cons_zero, List.setIfInBounds_toArray, List.set_cons_zero, List.set_cons_succ] at hCl
      obtain ⟨u10, en, hF, hPn, -⟩ := set_new HP.out 1 (.int .i64 M.pt)
      simp only [pc, List.setIfInBounds_toArray, List.set_cons_zero, List.set_cons_succ] at hPn
      have HPn := Lib.hid hPn
      have HM := Lib.hid (HM.out.fr hF (by simp; try omega)); have HRM := Lib.hid (HRM.out.fr hF (by simp; try omega)); have HRP := Lib.hid (HRP.out.fr hF (by simp; try omega)); have HF := Lib.hid (HF.out.step hF (fun x hx => by simp at hx; subst hx; exact .inr (by have := HHW.out; omega)))
      clear hPn hF
      go_upto_region 10 with (fail)
      try rw [en]
      clear hFr hCl en
      clear k0 HP
      have HP := HPn
      clear HPn
      have k0 := HM.out.cell 2
      simp only [mc, List.getElem?_toArray, List.getElem?_cons_succ, List.getElem?_cons_zero, List.setIfInBounds_toArray, List.set_cons_zero, List.set_cons_succ] at k0
      have hFr := HP.out.free 2; have hCl := HP.out.cell 2
      simp only [pc, List.getElem?_toArray, List.getElem?_cons_succ, List.getElem?_cons_zero, List.setIfInBounds_toArray, List.set_cons_zero, List.set_cons_succ] at hCl
      obtain ⟨u11, en, hF, hPn, -⟩ := set_new HP.out 2 (.int .u16 (M.next.toNat : Nat))
      simp only [pc, List.setIfInBounds_toArray, List.set_cons_zero, List.set_cons_succ] at hPn
      have HPn := Lib.hid hPn
      have HM := Lib.hid (HM.out.fr hF (by simp; try omega)); have HRM := Lib.hid (HRM.out.fr hF (by simp; try omega)); have HRP := Lib.hid (HRP.out.fr hF (by simp; try omega)); have HF := Lib.hid (HF.out.step hF (fun x hx => by simp at hx; subst hx; exact .inr (by have := HHW.out; omega)))
      clear hPn hF
      go_upto_region 11 with (fail)
      try rw [en]
      clear hFr hCl en
      clear k0 HP
      have HP := HPn
      clear HPn
      have k0 := HM.out.cell 5
      simp only [mc, List.getElem?_toArray, List.getElem?_cons_succ, List.getElem?_cons_zero, List.setIfInBounds_toArray, List.set_cons_zero, List.set_cons_succ] at k0
      have k1 := HP.out.cell 3
      simp only [pc, List.getElem?_toArray, List.getElem?_cons_succ, List.getElem?_cons_zero, List.setIfInBounds_toArray, List.set_cons_zero, List.set_cons_succ] at k1
      have hFr := HP.out.free 3; have hCl := HP.out.cell 3
      simp only [pc, List.getElem?_toArray, List.getElem?_cons_succ, List.getElem?_cons_zero, List.setIfInBounds_toArray, List.set_cons_zero, List.set_cons_succ] at hCl
      obtain ⟨u12, en, hF, hPn, -⟩ := set_new HP.out 3 (.int .u32 ((sum32 p.ts M.shift).toNat : Nat))
      simp only [pc, List.setIfInBounds_toArray, List.set_cons_zero, List.set_cons_succ] at hPn
      have HPn := Lib.hid hPn
      have HM := Lib.hid (HM.out.fr hF (by simp; try omega)); have HRM := Lib.hid (HRM.out.fr hF (by simp; try omega)); have HRP := Lib.hid (HRP.out.fr hF (by simp; try omega)); have HF := Lib.hid (HF.out.step hF (fun x hx => by simp at hx; subst hx; exact .inr (by have := HHW.out; omega)))
      clear hPn hF
      have hsw : wrap64 ((M.shift.toNat : Nat) : Int) = ((M.shift.toNat : Nat) : Int) := by have := M.shift.toNat_lt; unfold wrap64; omega
      go_wp2_with fail
      try rw [hsw]
      clear hsw
      refine (RAdd32_any p.ts ((M.shift.toNat : Nat) : Int) _).mono ?_
      rintro e wz ⟨rfl, rfl⟩
      rw [add32_sum]
      go_upto_region 12 with (fail)
      try rw [en]
      clear hFr hCl en
      clear k0 k1 HP
      have HP := HPn
      clear HPn
      have k0 := HM.out.cell 2
      simp only [mc, List.getElem?_toArray, List.getElem?_cons_succ, List.getElem?_cons_zero, List.setIfInBounds_toArray, List.set_cons_zero, List.set_cons_succ] at k0
      have hFr := HM.out.free 2; have hCl := HM.out.cell 2
      simp only [mc, List.getElem?_toArray, List.getElem?_cons_succ, List.getElem?_cons_zero, List.setIfInBounds_toArray, List.set_cons_zero, List.set_cons_succ] at hCl
      obtain ⟨u13, en, hF, hMn, -⟩ := set_new HM.out 2 (.int .u16 ((add16 M.next 1).toNat : Nat))
      simp only [mc, List.setIfInBounds_toArray, List.set_cons_zero, List.set_cons_succ] at hMn
      have HMn := Lib.hid hMn
      have HP := Lib.hid (HP.out.fr hF (by simp; try omega)); have HRM := Lib.hid (HRM.out.fr hF (by simp; try omega)); have HRP := Lib.hid (HRP.out.fr hF (by simp; try omega)); have HF := Lib.hid (HF.out.step hF (fun x hx => by simp at hx; subst hx; exact .inr (by have := HHW.out; omega)))
      clear hMn hF
      go_wp2_with fail
      refine (RAdd_any M.next 1 _).mono ?_
      rintro e wz ⟨rfl, rfl⟩
      go_upto_region 13 with (fail)
      try rw [en]
      clear hFr hCl en
      clear k0 HM
      have HM := HMn
      clear HMn
      have k0 := HP.out.cell 3
      simp only [pc, List.getElem?_toArray, List.getElem?_cons_succ, List.getElem?_cons_zero, List.setIfInBounds_toArray, List.set_cons_zero, List.set_cons_succ] at k0
      have hFr := HM.out.free 3; have hCl := HM.out.cell 3
      simp only [mc, List.getElem?_toArray, List.getElem?_cons_succ, List.getElem?_cons_zero, List.setIfInBounds_toArray, List.set_cons_zero, List.set_cons_succ] at hCl
      obtain ⟨u14, en, hF, hMn, -⟩ := set_new HM.out 3 (.int .u32 ((sum32 p.ts M.shift).toNat : Nat))
      simp only [mc, List.setIfInBounds_toArray, List.set_cons_zero, List.set_cons_succ] at hMn
      have HMn := Lib.hid hMn
      have HP := Lib.hid (HP.out.fr hF (by simp; try omega)); have HRM := Lib.hid (HRM.out.fr hF (by simp; try omega)); have HRP := Lib.hid (HRP.out.fr hF (by simp; try omega)); have HF := Lib.hid (HF.out.step hF (fun x hx => by simp at hx; subst hx; exact .inr (by have := HHW.out; omega)))
      clear hMn hF
      go_upto_region 14 with (fail)
      try rw [en]
      clear hFr hCl en
      clear k0 HM
      have HM := HMn
      clear HMn
      have hct : M.cnt ≤ 1099511627776 := by have h1 := (m.ready_same p.ts).2.2.2.1; have h2 := HOK.out.ct; rw [← HRD.out] at h1; omega
      have hFr := HM.out.free 8; have hCl := HM.out.cell 8
      simp only [mc, List.getElem?_toArray, List.getElem?_cons_succ, List.getElem?_cons_zero, List.setIfInBounds_toArray, List.set_cons_zero, List.set_cons_succ] at hCl
      obtain ⟨u15, en, hF, hMn, -⟩ := set_new HM.out 8 (.int .i64 ((M.cnt : Nat) + 1 : Int))
      simp only [mc, List.setIfInBounds_toArray, List.set_cons_zero, List.set_cons_succ] at hMn
      have HMn := Lib.hid hMn
      have HP := Lib.hid (HP.out.fr hF (by simp; try omega)); have HRM := Lib.hid (HRM.out.fr hF (by simp; try omega)); have HRP := Lib.hid (HRP.out.fr hF (by simp; try omega)); have HF := Lib.hid (HF.out.step hF (fun x hx => by simp at hx; subst hx; exact .inr (by have := HHW.out; omega)))
      clear hMn hF
      go_upto_region 15 with (fail)
      try rw [en]
      clear hFr hCl en
      clear HM
      have HM := HMn
      clear HMn
      refine wp_region_T (fun w' => Box w' W 88 #[.int .u32 (M.ssrc.toNat : Nat), .int .i64 M.pt, .int .u16 ((add16 M.next 1).toNat : Nat), .int .u32 ((sum32 p.ts M.shift).toNat : Nat), .int .i64 M.step, .int .u32 (M.shift.toNat : Nat), .bool M.opn, .int .i64 (M.segs : Nat), .int .i64 ((M.cnt : Nat) + 1 : Int)] ∧ Box w' (W + 1) 67 (pc p.marker M.pt M.next.toNat (sum32 p.ts M.shift).toNat M.ssrc.toNat (.slice a1 p.csrc.length c1) p.hasExt p.profile.toNat (.slice a2 p.ext.length c2) (.slice a3 p.payload.length c3) (.slice a4 p.pad.length c4))) [] 4 #[false, false, false, false] (by kernel_rfl) rfl rfl ?_
      have hF := (Fr.refl [] u15).drew
      have HM := Lib.hid (HM.out.keep hF); have HP := Lib.hid (HP.out.keep hF); have HRM := Lib.hid (HRM.out.keep hF); have HRP := Lib.hid (HRP.out.keep hF); have HF := Lib.hid (HF.out.trans hF)
      have HSS := Lib.hid (And.intro HM.out HP.out)
      clear hF hct
      generalize u15.drew = wd at *
      refine wpAnyT_load (i := 0) (v := ?_) rfl (by kernel_rfl) (by kernel_rfl) (by kernel_rfl) (by kernel_rfl) (by kernel_rfl) (fun _ _ _ h => h) HSS.out (by rfl) ?_ ?_
      rotate_left
      · intro w hSw; refine run_load_row 88 (.tmp 2) ?_ W ?_ 88 _ _ hSw.1 Try.underlying88 rfl (by kernel_rfl) <;> rfl
      simp only [Act.put, List.getElem_toArray, List.getElem_cons_zero, List.getElem_cons_succ, List.setIfInBounds_toArray, List.set_cons_zero, List.set_cons_succ]
      refine wpAnyT_load (i := 1) (v := ?_) rfl (by kernel_rfl) (by kernel_rfl) (by kernel_rfl) (by kernel_rfl) (by kernel_rfl) (fun _ _ _ h => h) HSS.out (by rfl) ?_ ?_
      rotate_left
      · intro w hSw; refine run_load_row 67 (.tmp 3) ?_ (W + 1) ?_ 67 _ _ hSw.2 Try.underlying67 rfl (by kernel_rfl) <;> rfl
      simp only [Act.put, List.getElem_toArray, List.getElem_cons_zero, List.getElem_cons_succ, List.setIfInBounds_toArray, List.set_cons_zero, List.set_cons_succ]
      refine wpAnyT_one (i := 2) (by kernel_rfl) rfl (fun K hK => ?_)
      refine wp_store_row rfl 88 (.tmp 4) (.tmp 59) rfl (W + 1 + 1) rfl _ _ rfl 88 HRM.out (by kernel_rfl) rfl (by intro u hu; simp at hu; rcases hu with rfl | rfl | rfl | rfl | rfl | rfl | rfl | rfl | rfl <;> rfl) ?_
      intro we hY hG
      have HMn := Lib.hid (HM.out.fr hG (by simp; try omega)); have HPn := Lib.hid (HP.out.fr hG (by simp; try omega))
      refine hK.out _ _ (fun _ => ⟨HMn.out, HPn.out⟩) ?_
      clear hK K
      simp only [Act.put, List.getElem_toArray, List.getElem_cons_zero, List.getElem_cons_succ, List.setIfInBounds_toArray, List.set_cons_zero, List.set_cons_succ]
      have HRP := Lib.hid (HRP.out.fr hG (by simp; try omega))
      have HF := Lib.hid (HF.out.step hG (fun x hx => by simp at hx; subst hx; exact .inr (by have := HHW.out; omega)))
      have HRM := Lib.hid hY; have HM := HMn; have HP := HPn
      clear hY hG HMn HPn
      refine wpAnyT_one (i := 3) (by kernel_rfl) rfl (fun K hK => ?_)
      refine wp_store_row rfl 67 (.tmp 5) (.tmp 60) rfl (W + 1 + 1 + 1) rfl _ _ rfl 67 HRP.out (by kernel_rfl) rfl (oneCell_pc _ _ _ _ _ _ _ _ _ _ _ ⟨_, _, _, rfl⟩ ⟨_, _, _, rfl⟩ ⟨_, _, _, rfl⟩ ⟨_, _, _, rfl⟩) ?_
      intro wf hY hG
      have HMn := Lib.hid (HM.out.fr hG (by simp; try omega)); have HPn := Lib.hid (HP.out.fr hG (by simp; try omega))
      refine hK.out _ _ (fun _ => ⟨HMn.out, HPn.out⟩) ?_
      clear hK K
      simp only [Act.put, List.getElem_toArray, List.getElem_cons_zero, List.getElem_cons_succ, List.setIfInBounds_toArray, List.set_cons_zero, List.set_cons_succ]
      have HRM := Lib.hid (HRM.out.fr hG (by simp; try omega))
      have HF := Lib.hid (HF.out.step hG (fun x hx => by simp at hx; subst hx; exact .inr (by have := HHW.out; omega)))
      have HRP := Lib.hid hY; have HM := HMn; have HP := HPn
      clear hY hG HMn HPn
      refine wpAnyT_done (by kernel_rfl) ?_ _
      clear HSS
      go_wp2_with fail
      have h2 := m.ready_same p.ts
      rw [← HRD.out] at h2
      have e1 : (m.out p).ts = sum32 p.ts M.shift := by show sum32 p.ts (m.ready p.ts).shift = _; rw [← HRD.out]
      have hMF : #[.int .u32 (M.ssrc.toNat : Nat), .int .i64 M.pt, .int .u16 ((add16 M.next 1).toNat : Nat), .int .u32 ((sum32 p.ts M.shift).toNat : Nat), .int .i64 M.step, .int .u32 (M.shift.toNat : Nat), .bool M.opn, .int .i64 (M.segs : Nat), .int .i64 ((M.cnt : Nat) + 1 : Int)] = mc (m.step_ p) := by
        show _ = mc { (m.ready p.ts) with next := add16 m.next 1, last := (m.out p).ts, cnt := m.cnt + 1 }
        rw [← HRD.out, e1, ← h2.2.2.1, ← h2.2.2.2.1]
        rfl
      have hPF := (HV0.out.keep HF.out).turn M.next (sum32 p.ts M.shift) M.ssrc M.pt
      have hPT : p.turn M.next (sum32 p.ts M.shift) M.ssrc M.pt = m.out p := by rw [RMap.out_turn, ← HRD.out, h2.1, h2.2.1, h2.2.2.1]
      rw [hPT] at hPF
      have HRM2 := Lib.hid (HRM.out.as_ hMF)
      refine bodyPost_ret (results_row_row rfl _ _ (W + 1 + 1) (W + 1 + 1 + 1) 88 67 _ _ _ _ rfl HRM2.out Try.underlying88 rfl (by kernel_rfl) rfl HRP.out Try.underlying67 rfl (by kernel_rfl)) rfl ⟨_, rfl, hPF, HF.out⟩
end Go.Proofs.Yticoongkfhkjgaa
