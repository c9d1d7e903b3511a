/- The walk of confluxlaw05.RtpCuts. -/
import Derived.Test.YticoongkfhkjgaaAlive5
import Derived.Test.YticoongkfhkjgaaCutPlain
namespace Go.Proofs.Yticoongkfhkjgaa
open Go.RowKit

theorem and4095 (c : Int) : ∃ n : Nat, bits .and .i64 c 4095 = (n : Int) ∧ n ≤ 4095 := by
  have h : (BitVec.ofInt 64 c &&& BitVec.ofInt 64 4095).toNat ≤ 4095 := by
    rw [BitVec.toNat_and]
    exact Nat.and_le_right
  refine ⟨_, ?_, h⟩
  show IntKind.i64.wrap ((BitVec.ofInt 64 c &&& BitVec.ofInt 64 4095).toNat : Int) = _
  exact IntWalk.i64_in _ (by omega)

set_option maxRecDepth 100000 in
set_option maxHeartbeats 4000000 in
theorem RtpCuts_any {w : World} {base : Nat} {v : Value} {p : Pkt} (hV : PktV w base v p) (cut : Int) :
    Calls Try.prog 9 #[v, .int .i64 cut] w fun e w' => e = .returned (.bool true) ∧ Fr [] w w' := by
  obtain ⟨cn, hcn, hcl⟩ := and4095 cut
  have HV0 := Lib.hid hV
  obtain ⟨a1, c1, a2, c2, a3, c3, a4, c4, rfl, hcs, hex, hpl, hpd⟩ := hV.open_
  obtain ⟨w1, e1, hF1, hB1, -⟩ := one_new w (pc p.marker p.pt p.seq.toNat p.ts.toNat p.ssrc.toNat (.slice a1 p.csrc.length c1) p.hasExt p.profile.toNat (.slice a2 p.ext.length c2) (.slice a3 p.payload.length c3) (.slice a4 p.pad.length c4)) 67
  have HF := Lib.hid hF1; have HB := Lib.hid hB1; have E1 := Lib.hid e1; have HV := Lib.hid (HV0.out.keep hF1)
  have HPL := Lib.hid (Sl.keep hpl hF1)
  clear hV hcs hex hpl hpd hF1 hB1 e1 HV0
  generalize hG : w.heap.size = g at *
  go_enter Try.func9, Try.ntmps9
  go_upto_region 1 with (fail)
  try rw [hG]
  rw [E1.out]
  clear E1 hG
  go_wp2_with fail
  refine alive5_any.mono ?_
  rintro e w2 ⟨rfl, hF⟩
  have HF := Lib.hid (HF.out.trans hF); have HB := Lib.hid (HB.out.keep hF); have HV := Lib.hid (HV.out.keep hF); have HPL := Lib.hid (Sl.keep HPL.out hF)
  clear hF
  go_wp2_with (refine wpList_load_row rfl 67 (.tmp 2) rfl g rfl 67 _ _ _ HB.out Try.underlying67 rfl (by kernel_rfl) ?_)
  refine (Few_any HV.out).mono ?_
  rintro e w3 ⟨rfl, hF⟩
  have HF := Lib.hid (HF.out.trans hF); have HB := Lib.hid (HB.out.keep hF); have HV := Lib.hid (HV.out.keep hF); have HPL := Lib.hid (Sl.keep HPL.out hF)
  clear hF
  by_cases hfew : p.few = true
  rotate_left
  · have hfew2 : p.few = false := by simpa using hfew
    rw [hfew2]
    go_wp2_with fail
    go_ret
    exact ⟨rfl, HF.out⟩
  have HSM := Lib.hid (Pkt.few_small hfew)
  rw [hfew]
  clear hfew
  go_wp2_with (refine wpList_load_row rfl 67 (.tmp 2) rfl g rfl 67 _ _ _ HB.out Try.underlying67 rfl (by kernel_rfl) ?_)
  by_cases hwr : p.wrong = 0
  rotate_left
  · refine (Write_err HV.out HSM.out hwr).mono ?_
    rintro e w4 ⟨rfl, hF⟩
    have t0 : (p.wrong != 0) = true := by simpa using hwr
    have HF := Lib.hid (HF.out.trans hF)
    clear hF hwr
    go_wp2_with fail
    go_ret
    exact ⟨rfl, HF.out⟩
  refine (Write_ok HV.out HSM.out hwr).mono ?_
  rintro e w4 ⟨vw, rfl, hO, hF⟩
  have HWR := Lib.hid hwr
  have HF := Lib.hid (HF.out.trans hF); have HB := Lib.hid (HB.out.keep hF); have HV := Lib.hid (HV.out.keep hF); have HPL := Lib.hid (Sl.keep HPL.out hF)
  obtain ⟨aw, cw, hvw⟩ := hO.bytes.shape
  have hvw2 : vw = .slice aw p.size cw := by rw [hvw, List.length_map, bytes_len]
  subst hvw2
  have HLL := Lib.hid (Sl.len hO.bytes)
  have HW := Lib.hid hO.bytes
  clear hF hwr hO hvw
  go_upto_region 8 with (fail)
  have hsz : p.size ≤ 1500 := (Pkt.fit HWR.out).size
  have hsh := p.size_hs
  have hq1 : IntKind.i64.wrap ((p.size : Int) - (p.payload.length : Int)) = ((p.hs + p.pad.length : Nat) : Int) := by rw [IntWalk.i64_in _ (by omega)]; omega
  have hq2 : IntKind.i64.wrap ((p.hs : Nat) : Int) = ((p.hs : Nat) : Int) := by rw [IntWalk.i64_in _ (by omega)]
  have HSH := Lib.hid hsh
  clear hsh
  refine wp_region_T (fun w' => Box w' g 67 (pc p.marker p.pt p.seq.toNat p.ts.toNat p.ssrc.toNat (.slice a1 p.csrc.length c1) p.hasExt p.profile.toNat (.slice a2 p.ext.length c2) (.slice a3 p.payload.length c3) (.slice a4 p.pad.length c4))) [] 11 #[false, false, false, false, false, false, false, false, false, false, false] (by kernel_rfl) rfl rfl ?_
  have HSS := Lib.hid (HB.out.keep (Fr.refl [] w4).drew)
  refine wpAnyT_load (i := 0) (v := ?_) rfl (by kernel_rfl) (by kernel_rfl) (by kernel_rfl) (by kernel_rfl) (by kernel_rfl) (fun _ _ _ h => h) HSS.out (by rfl) ?_ ?_
  rotate_left
  · intro w hSw; obtain ⟨x0, x1, x2, x3, x4, x5, x6, x7, x8, x9, x10⟩ := hSw.pcells; go_simp; try with_reducible rfl
  simp only [Act.put, List.getElem_toArray, List.getElem_cons_zero, List.getElem_cons_succ, List.setIfInBounds_toArray, List.set_cons_zero, List.set_cons_succ]
  refine wpAnyT_load (i := 2) (v := ?_) rfl (by kernel_rfl) (by kernel_rfl) (by kernel_rfl) (by kernel_rfl) (by kernel_rfl) (fun _ _ _ h => h) HSS.out (by rfl) ?_ ?_
  rotate_left
  · intro w hSw; obtain ⟨x0, x1, x2, x3, x4, x5, x6, x7, x8, x9, x10⟩ := hSw.pcells; go_simp; try with_reducible rfl
  simp only [Act.put, List.getElem_toArray, List.getElem_cons_zero, List.getElem_cons_succ, List.setIfInBounds_toArray, List.set_cons_zero, List.set_cons_succ]
  refine wpAnyT_load (i := 3) (v := ?_) rfl (by kernel_rfl) (by kernel_rfl) (by kernel_rfl) (by kernel_rfl) (by kernel_rfl) (fun _ _ _ h => h) HSS.out (by rfl) ?_ ?_
  rotate_left
  · intro w hSw; obtain ⟨x0, x1, x2, x3, x4, x5, x6, x7, x8, x9, x10⟩ := hSw.pcells; go_simp; try with_reducible rfl
  simp only [Act.put, List.getElem_toArray, List.getElem_cons_zero, List.getElem_cons_succ, List.setIfInBounds_toArray, List.set_cons_zero, List.set_cons_succ]
  refine wpAnyT_load (i := 4) (v := ?_) rfl (by kernel_rfl) (by kernel_rfl) (by kernel_rfl) (by kernel_rfl) (by kernel_rfl) (fun _ _ _ h => h) HSS.out (by rfl) ?_ ?_
  rotate_left
  · intro w hSw; obtain ⟨x0, x1, x2, x3, x4, x5, x6, x7, x8, x9, x10⟩ := hSw.pcells; go_simp; try with_reducible rfl
  simp only [Act.put, List.getElem_toArray, List.getElem_cons_zero, List.getElem_cons_succ, List.setIfInBounds_toArray, List.set_cons_zero, List.set_cons_succ]
  refine wpAnyT_load (i := 6) (v := ?_) rfl (by kernel_rfl) (by kernel_rfl) (by kernel_rfl) (by kernel_rfl) (by kernel_rfl) (fun _ _ _ h => h) HSS.out (by rfl) ?_ ?_
  rotate_left
  · intro w hSw; obtain ⟨x0, x1, x2, x3, x4, x5, x6, x7, x8, x9, x10⟩ := hSw.pcells; go_simp; try with_reducible rfl
  simp only [Act.put, List.getElem_toArray, List.getElem_cons_zero, List.getElem_cons_succ, List.setIfInBounds_toArray, List.set_cons_zero, List.set_cons_succ]
  refine wpAnyT_load (i := 7) (v := ?_) rfl (by kernel_rfl) (by kernel_rfl) (by kernel_rfl) (by kernel_rfl) (by kernel_rfl) (fun _ _ _ h => h) HSS.out (by rfl) ?_ ?_
  rotate_left
  · intro w hSw; obtain ⟨x0, x1, x2, x3, x4, x5, x6, x7, x8, x9, x10⟩ := hSw.pcells; go_simp; try with_reducible rfl
  simp only [Act.put, List.getElem_toArray, List.getElem_cons_zero, List.getElem_cons_succ, List.setIfInBounds_toArray, List.set_cons_zero, List.set_cons_succ]
  refine wpAnyT_load (i := 8) (v := ?_) rfl (by kernel_rfl) (by kernel_rfl) (by kernel_rfl) (by kernel_rfl) (by kernel_rfl) (fun _ _ _ h => h) HSS.out (by rfl) ?_ ?_
  rotate_left
  · intro w hSw; obtain ⟨x0, x1, x2, x3, x4, x5, x6, x7, x8, x9, x10⟩ := hSw.pcells; go_simp; try with_reducible rfl
  simp only [Act.put, List.getElem_toArray, List.getElem_cons_zero, List.getElem_cons_succ, List.setIfInBounds_toArray, List.set_cons_zero, List.set_cons_succ]
  refine wpAnyT_one (i := 1) (by kernel_rfl) rfl (fun K hK => ?_)
  rw [if_pos (by rfl)]
  go_simp
  refine (size_any (HV.out.keep (Fr.refl [] w4).drew) HSM.out).mono ?_
  rintro e w5 ⟨rfl, hF⟩
  go_simp
  have hF := ((Fr.refl [] w4).drew).trans hF
  have HF := Lib.hid (HF.out.trans hF); have HB := Lib.hid (HB.out.keep hF); have HV := Lib.hid (HV.out.keep hF); have HPL := Lib.hid (Sl.keep HPL.out hF); have HW := Lib.hid (Sl.keep HW.out hF)
  refine hK.out _ _ (fun _ => HB.out) ?_
  clear hK K hF HSS
  have HSS := HB
  simp only [Act.put, List.getElem_toArray, List.getElem_cons_zero, List.getElem_cons_succ, List.setIfInBounds_toArray, List.set_cons_zero, List.set_cons_succ]
  refine wpAnyT_load (i := 5) (v := ?_) rfl (by kernel_rfl) (by kernel_rfl) (by kernel_rfl) (by kernel_rfl) (by kernel_rfl) (fun _ _ _ h => h) HSS.out (by rfl) ?_ ?_
  rotate_left
  · intro w hSw; obtain ⟨x0, x1, x2, x3, x4, x5, x6, x7, x8, x9, x10⟩ := hSw.pcells; go_simp; try with_reducible rfl
  simp only [Act.put, List.getElem_toArray, List.getElem_cons_zero, List.getElem_cons_succ, List.setIfInBounds_toArray, List.set_cons_zero, List.set_cons_succ]
  refine wpAnyT_load (i := 9) (v := ?_) rfl (by kernel_rfl) (by kernel_rfl) (by kernel_rfl) (by kernel_rfl) (by kernel_rfl) (fun _ _ _ h => h) HSS.out (by rfl) ?_ ?_
  rotate_left
  · intro w hSw; obtain ⟨x0, x1, x2, x3, x4, x5, x6, x7, x8, x9, x10⟩ := hSw.pcells; go_simp; try with_reducible rfl
  simp only [Act.put, List.getElem_toArray, List.getElem_cons_zero, List.getElem_cons_succ, List.setIfInBounds_toArray, List.set_cons_zero, List.set_cons_succ]
  refine wpAnyT_load (i := 10) (v := ?_) rfl (by kernel_rfl) (by kernel_rfl) (by kernel_rfl) (by kernel_rfl) (by kernel_rfl) (fun _ _ _ h => h) HSS.out (by rfl) ?_ ?_
  rotate_left
  · intro w hSw; obtain ⟨x0, x1, x2, x3, x4, x5, x6, x7, x8, x9, x10⟩ := hSw.pcells; go_simp; try with_reducible rfl
  simp only [Act.put, List.getElem_toArray, List.getElem_cons_zero, List.getElem_cons_succ, List.setIfInBounds_toArray, List.set_cons_zero, List.set_cons_succ]
  refine wpAnyT_done (by kernel_rfl) ?_ _
  clear hq1 hq2 HSS hF
  have hsh := HSH.out; have hhs : 12 ≤ p.hs := by unfold Pkt.hs; omega
  have hpos : 0 < p.size := by omega
  have hne : (p.size : Int) ≠ 0 := by omega
  have hrm : Int.tmod (cn : Int) (p.size : Int) = ((cn % p.size : Nat) : Int) := (Int.ofNat_tmod cn p.size).symm
  have hrm2 : (cn : Int) % (p.size : Int) = ((cn % p.size : Nat) : Int) := (Int.natCast_emod cn p.size).symm
  have hclt : cn % p.size < p.size := Nat.mod_lt _ hpos
  have hw1 : IntKind.i64.wrap ((cn % p.size : Nat) : Int) = ((cn % p.size : Nat) : Int) := by rw [IntWalk.i64_in _ (by omega)]
  generalize hcc : cn % p.size = c at *
  clear hcc
  clear hsh
  have hcw : p.size ≤ cw := HLL.out.2.1
  have hccw : c ≤ cw := by omega
  go_wp2_with fail
  have hcut := Sl.pre HW.out c cw (by omega) hccw (Nat.le_refl _)
  rw [← List.map_take] at hcut
  have hpc := parse_cut HWR.out c (by rw [bytes_len]; omega)
  clear hrm hrm2 hne hpos
  refine (Parse_any hcut).mono ?_
  rintro e w6 (⟨vq, q, hp, rfl, hVq, hF⟩ | ⟨k, hp, rfl, hF⟩)
  · rw [hp] at hpc
    have HF := Lib.hid (HF.out.trans hF); have HB := Lib.hid (HB.out.keep hF); have HPL := Lib.hid (Sl.keep HPL.out hF)
    obtain ⟨b1, d1, b2, d2, b3, d3, b4, d4, rfl, -, -, hqp, -⟩ := hVq.open_
    have HQP := Lib.hid hqp
    clear hF hVq hcut hp hqp
    rcases hpc with ⟨h1, h2⟩ | ⟨h1, h2, q', hq', hqpl, hqs⟩ | ⟨h1, h2, -⟩
    · cases h2
    · cases hq'
      have HC := Lib.hid h1; have HP0 := Lib.hid h2
      have HQS := Lib.hid hqs; have HQPL := Lib.hid hqpl
      have t0 : ¬ ((c : Int) < (p.hs : Int)) := by omega
      have t1 : ¬ ((0 : Int) < (p.pad.length : Int)) := by omega
      clear h1 h2 hqs hqpl
      go_upto_region 15 with (first | (refine wpList_store_row rfl 67 (.tmp 8) (.tmp 45) rfl w6.heap.size rfl _ _ rfl 67 (Box.new w6 67 #[.bool false, .int .i64 0, .int .u16 0, .int .u32 0, .int .u32 0, .slice none 0 0, .bool false, .int .u16 0, .slice none 0 0, .slice none 0 0, .slice none 0 0]) (by kernel_rfl) rfl (oneCell_pc _ _ _ _ _ _ _ _ _ _ _ ⟨_, _, _, rfl⟩ ⟨_, _, _, rfl⟩ ⟨_, _, _, rfl⟩ ⟨_, _, _, rfl⟩) ?_; intro w7 hY hG; have hFn := ((Fr.refl [] w6).alloc _).step hG (by simp); have HF := Lib.hid (HF.out.trans hFn); have HBq := Lib.hid (HB.out.keep hFn); have HY := Lib.hid hY; have HPL := Lib.hid (Sl.keep HPL.out hFn); have HFn := Lib.hid hFn; clear hG hFn hY; obtain ⟨x0, x1, x2, x3, x4, x5, x6, x7, x8, x9, x10⟩ := HBq.out.pcells))
      clear x0 x1 x2 x3 x4 x5 x6 x7 x8 x9 x10 t0 t1
      have hsh := HSH.out; have hpl3 := (Sl.len HPL.out).2.1; have hc1 := HC.out
      have hpad : p.pad.length = 0 := HP0.out
      have hq1 : IntKind.i64.wrap ((c : Int) - (p.hs : Int)) = ((c - p.hs : Nat) : Int) := by rw [IntWalk.i64_in _ (by omega)]; omega
      have hq2 : (0 : Int) ≤ ((c - p.hs : Nat) : Int) := by omega
      have hq3 : ((c - p.hs : Nat) : Int) ≤ (c3 : Int) := by omega
      have hqpl : c - p.hs ≤ p.payload.length := by omega
      generalize hdd : c - p.hs = d at *
      clear hsh hpl3 hc1 hpad
      have hseq : ((q.seq.toNat : Nat) : Int) = ((p.seq.toNat : Nat) : Int) := by rw [HQS.out]
      have hbe : ((p.seq.toNat : Int) == (p.seq.toNat : Int)) = true := by simp
      refine wp_region_T (fun w' => Box w' g 67 (pc p.marker p.pt p.seq.toNat p.ts.toNat p.ssrc.toNat (.slice a1 p.csrc.length c1) p.hasExt p.profile.toNat (.slice a2 p.ext.length c2) (.slice a3 p.payload.length c3) (.slice a4 p.pad.length c4)) ∧ Box w' w6.heap.size 67 (pc q.marker q.pt q.seq.toNat q.ts.toNat q.ssrc.toNat (.slice b1 q.csrc.length d1) q.hasExt q.profile.toNat (.slice b2 q.ext.length d2) (.slice b3 q.payload.length d3) (.slice b4 q.pad.length d4))) [] 21 #[false, false, false, false, false, false, false, false, false, false, false, false, false, false, false, false, false, false, false, false, false] (by kernel_rfl) rfl rfl ?_
      have HSS := Lib.hid (And.intro (HBq.out.keep (Fr.refl [] w7).drew) (HY.out.keep (Fr.refl [] w7).drew))
      have HX1 := Lib.hid (Sl.keep HQP.out (HFn.out.trans (Fr.refl [] w7).drew)); have HX2 := Lib.hid (Sl.keep HPL.out (Fr.refl [] w7).drew)
      refine wpAnyT_load (i := 0) (v := ?_) rfl (by kernel_rfl) (by kernel_rfl) (by kernel_rfl) (by kernel_rfl) (by kernel_rfl) (fun _ _ _ h => h) HSS.out (by rfl) ?_ ?_
      rotate_left
      · intro w hSw; obtain ⟨hSw1, hSw2⟩ := hSw; obtain ⟨x0, x1, x2, x3, x4, x5, x6, x7, x8, x9, x10⟩ := hSw1.pcells; obtain ⟨y0, y1, y2, y3, y4, y5, y6, y7, y8, y9, y10⟩ := hSw2.pcells; go_simp; try with_reducible rfl
      simp only [Act.put, List.getElem_toArray, List.getElem_cons_zero, List.getElem_cons_succ, List.setIfInBounds_toArray, List.set_cons_zero, List.set_cons_succ]
      refine wpAnyT_load (i := 1) (v := ?_) rfl (by kernel_rfl) (by kernel_rfl) (by kernel_rfl) (by kernel_rfl) (by kernel_rfl) (fun _ _ _ h => h) HSS.out (by rfl) ?_ ?_
      rotate_left
      · intro w hSw; obtain ⟨hSw1, hSw2⟩ := hSw; obtain ⟨x0, x1, x2, x3, x4, x5, x6, x7, x8, x9, x10⟩ := hSw1.pcells; obtain ⟨y0, y1, y2, y3, y4, y5, y6, y7, y8, y9, y10⟩ := hSw2.pcells; go_simp; try with_reducible rfl
      simp only [Act.put, List.getElem_toArray, List.getElem_cons_zero, List.getElem_cons_succ, List.setIfInBounds_toArray, List.set_cons_zero, List.set_cons_succ]
      refine wpAnyT_load (i := 2) (v := ?_) rfl (by kernel_rfl) (by kernel_rfl) (by kernel_rfl) (by kernel_rfl) (by kernel_rfl) (fun _ _ _ h => h) HSS.out (by rfl) ?_ ?_
      rotate_left
      · intro w hSw; obtain ⟨hSw1, hSw2⟩ := hSw; obtain ⟨x0, x1, x2, x3, x4, x5, x6, x7, x8, x9, x10⟩ := hSw1.pcells; obtain ⟨y0, y1, y2, y3, y4, y5, y6, y7, y8, y9, y10⟩ := hSw2.pcells; go_simp; try with_reducible rfl
      simp only [Act.put, List.getElem_toArray, List.getElem_cons_zero, List.getElem_cons_succ, List.setIfInBounds_toArray, List.set_cons_zero, List.set_cons_succ]
      refine wpAnyT_load (i := 3) (v := ?_) rfl (by kernel_rfl) (by kernel_rfl) (by kernel_rfl) (by kernel_rfl) (by kernel_rfl) (fun _ _ _ h => h) HSS.out (by rfl) ?_ ?_
      rotate_left
      · intro w hSw; obtain ⟨hSw1, hSw2⟩ := hSw; obtain ⟨x0, x1, x2, x3, x4, x5, x6, x7, x8, x9, x10⟩ := hSw1.pcells; obtain ⟨y0, y1, y2, y3, y4, y5, y6, y7, y8, y9, y10⟩ := hSw2.pcells; go_simp; try with_reducible rfl
      simp only [Act.put, List.getElem_toArray, List.getElem_cons_zero, List.getElem_cons_succ, List.setIfInBounds_toArray, List.set_cons_zero, List.set_cons_succ]
      refine wpAnyT_load (i := 4) (v := ?_) rfl (by kernel_rfl) (by kernel_rfl) (by kernel_rfl) (by kernel_rfl) (by kernel_rfl) (fun _ _ _ h => h) HSS.out (by rfl) ?_ ?_
      rotate_left
      · intro w hSw; obtain ⟨hSw1, hSw2⟩ := hSw; obtain ⟨x0, x1, x2, x3, x4, x5, x6, x7, x8, x9, x10⟩ := hSw1.pcells; obtain ⟨y0, y1, y2, y3, y4, y5, y6, y7, y8, y9, y10⟩ := hSw2.pcells; go_simp; try with_reducible rfl
      simp only [Act.put, List.getElem_toArray, List.getElem_cons_zero, List.getElem_cons_succ, List.setIfInBounds_toArray, List.set_cons_zero, List.set_cons_succ]
      refine wpAnyT_load (i := 5) (v := ?_) rfl (by kernel_rfl) (by kernel_rfl) (by kernel_rfl) (by kernel_rfl) (by kernel_rfl) (fun _ _ _ h => h) HSS.out (by rfl) ?_ ?_
      rotate_left
      · intro w hSw; obtain ⟨hSw1, hSw2⟩ := hSw; obtain ⟨x0, x1, x2, x3, x4, x5, x6, x7, x8, x9, x10⟩ := hSw1.pcells; obtain ⟨y0, y1, y2, y3, y4, y5, y6, y7, y8, y9, y10⟩ := hSw2.pcells; go_simp; try with_reducible rfl
      simp only [Act.put, List.getElem_toArray, List.getElem_cons_zero, List.getElem_cons_succ, List.setIfInBounds_toArray, List.set_cons_zero, List.set_cons_succ]
      refine wpAnyT_load (i := 6) (v := ?_) rfl (by kernel_rfl) (by kernel_rfl) (by kernel_rfl) (by kernel_rfl) (by kernel_rfl) (fun _ _ _ h => h) HSS.out (by rfl) ?_ ?_
      rotate_left
      · intro w hSw; obtain ⟨hSw1, hSw2⟩ := hSw; obtain ⟨x0, x1, x2, x3, x4, x5, x6, x7, x8, x9, x10⟩ := hSw1.pcells; obtain ⟨y0, y1, y2, y3, y4, y5, y6, y7, y8, y9, y10⟩ := hSw2.pcells; go_simp; try with_reducible rfl
      simp only [Act.put, List.getElem_toArray, List.getElem_cons_zero, List.getElem_cons_succ, List.setIfInBounds_toArray, List.set_cons_zero, List.set_cons_succ]
      refine wpAnyT_load (i := 7) (v := ?_) rfl (by kernel_rfl) (by kernel_rfl) (by kernel_rfl) (by kernel_rfl) (by kernel_rfl) (fun _ _ _ h => h) HSS.out (by rfl) ?_ ?_
      rotate_left
      · intro w hSw; obtain ⟨hSw1, hSw2⟩ := hSw; obtain ⟨x0, x1, x2, x3, x4, x5, x6, x7, x8, x9, x10⟩ := hSw1.pcells; obtain ⟨y0, y1, y2, y3, y4, y5, y6, y7, y8, y9, y10⟩ := hSw2.pcells; go_simp; try with_reducible rfl
      simp only [Act.put, List.getElem_toArray, List.getElem_cons_zero, List.getElem_cons_succ, List.setIfInBounds_toArray, List.set_cons_zero, List.set_cons_succ]
      refine wpAnyT_load (i := 8) (v := ?_) rfl (by kernel_rfl) (by kernel_rfl) (by kernel_rfl) (by kernel_rfl) (by kernel_rfl) (fun _ _ _ h => h) HSS.out (by rfl) ?_ ?_
      rotate_left
      · intro w hSw; obtain ⟨hSw1, hSw2⟩ := hSw; obtain ⟨x0, x1, x2, x3, x4, x5, x6, x7, x8, x9, x10⟩ := hSw1.pcells; obtain ⟨y0, y1, y2, y3, y4, y5, y6, y7, y8, y9, y10⟩ := hSw2.pcells; go_simp; try with_reducible rfl
      simp only [Act.put, List.getElem_toArray, List.getElem_cons_zero, List.getElem_cons_succ, List.setIfInBounds_toArray, List.set_cons_zero, List.set_cons_succ]
      refine wpAnyT_load (i := 9) (v := ?_) rfl (by kernel_rfl) (by kernel_rfl) (by kernel_rfl) (by kernel_rfl) (by kernel_rfl) (fun _ _ _ h => h) HSS.out (by rfl) ?_ ?_
      rotate_left
      · intro w hSw; obtain ⟨hSw1, hSw2⟩ := hSw; obtain ⟨x0, x1, x2, x3, x4, x5, x6, x7, x8, x9, x10⟩ := hSw1.pcells; obtain ⟨y0, y1, y2, y3, y4, y5, y6, y7, y8, y9, y10⟩ := hSw2.pcells; go_simp; try with_reducible rfl
      simp only [Act.put, List.getElem_toArray, List.getElem_cons_zero, List.getElem_cons_succ, List.setIfInBounds_toArray, List.set_cons_zero, List.set_cons_succ]
      refine wpAnyT_load (i := 10) (v := ?_) rfl (by kernel_rfl) (by kernel_rfl) (by kernel_rfl) (by kernel_rfl) (by kernel_rfl) (fun _ _ _ h => h) HSS.out (by rfl) ?_ ?_
      rotate_left
      · intro w hSw; obtain ⟨hSw1, hSw2⟩ := hSw; obtain ⟨x0, x1, x2, x3, x4, x5, x6, x7, x8, x9, x10⟩ := hSw1.pcells; obtain ⟨y0, y1, y2, y3, y4, y5, y6, y7, y8, y9, y10⟩ := hSw2.pcells; go_simp; try with_reducible rfl
      simp only [Act.put, List.getElem_toArray, List.getElem_cons_zero, List.getElem_cons_succ, List.setIfInBounds_toArray, List.set_cons_zero, List.set_cons_succ]
      refine wpAnyT_one (i := 11) (by kernel_rfl) rfl (fun K hK => ?_)
      rw [if_pos (by rfl)]
      go_simp
      have hx2 := Sl.pre HX2.out d c3 hqpl (by omega) (Nat.le_refl _)
      rw [← List.map_take] at hx2
      have hl1 : p.payload.length ≤ 1099511627776 := HSM.out.2.2.1
      have hl2 : q.payload.length ≤ 1099511627776 := by rw [HQPL.out, List.length_take]; omega
      have hl3 : (p.payload.take d).length ≤ 1099511627776 := by rw [List.length_take]; omega
      have HL2 := Lib.hid hl2; have HL3 := Lib.hid hl3
      clear hl1 hl2 hl3
      refine (RSame_any HX1.out hx2 HL2.out HL3.out).mono ?_
      rintro e w8 ⟨rfl, hF⟩
      have heq : (q.payload == p.payload.take d) = true := by rw [HQPL.out]; simp
      rw [heq]
      go_simp
      have hF := ((Fr.refl [] w7).drew).trans hF
      have HF := Lib.hid (HF.out.trans hF)
      have HSS := Lib.hid (And.intro (HBq.out.keep hF) (HY.out.keep hF))
      refine hK.out _ _ (fun _ => HSS.out) ?_
      clear hK K hF hx2 heq
      simp only [Act.put, List.getElem_toArray, List.getElem_cons_zero, List.getElem_cons_succ, List.setIfInBounds_toArray, List.set_cons_zero, List.set_cons_succ]
      refine wpAnyT_load (i := 12) (v := ?_) rfl (by kernel_rfl) (by kernel_rfl) (by kernel_rfl) (by kernel_rfl) (by kernel_rfl) (fun _ _ _ h => h) HSS.out (by rfl) ?_ ?_
      rotate_left
      · intro w hSw; obtain ⟨hSw1, hSw2⟩ := hSw; obtain ⟨x0, x1, x2, x3, x4, x5, x6, x7, x8, x9, x10⟩ := hSw1.pcells; obtain ⟨y0, y1, y2, y3, y4, y5, y6, y7, y8, y9, y10⟩ := hSw2.pcells; go_simp; try with_reducible rfl
      simp only [Act.put, List.getElem_toArray, List.getElem_cons_zero, List.getElem_cons_succ, List.setIfInBounds_toArray, List.set_cons_zero, List.set_cons_succ]
      refine wpAnyT_load (i := 13) (v := ?_) rfl (by kernel_rfl) (by kernel_rfl) (by kernel_rfl) (by kernel_rfl) (by kernel_rfl) (fun _ _ _ h => h) HSS.out (by rfl) ?_ ?_
      rotate_left
      · intro w hSw; obtain ⟨hSw1, hSw2⟩ := hSw; obtain ⟨x0, x1, x2, x3, x4, x5, x6, x7, x8, x9, x10⟩ := hSw1.pcells; obtain ⟨y0, y1, y2, y3, y4, y5, y6, y7, y8, y9, y10⟩ := hSw2.pcells; go_simp; try with_reducible rfl
      simp only [Act.put, List.getElem_toArray, List.getElem_cons_zero, List.getElem_cons_succ, List.setIfInBounds_toArray, List.set_cons_zero, List.set_cons_succ]
      refine wpAnyT_load (i := 14) (v := ?_) rfl (by kernel_rfl) (by kernel_rfl) (by kernel_rfl) (by kernel_rfl) (by kernel_rfl) (fun _ _ _ h => h) HSS.out (by rfl) ?_ ?_
      rotate_left
      · intro w hSw; obtain ⟨hSw1, hSw2⟩ := hSw; obtain ⟨x0, x1, x2, x3, x4, x5, x6, x7, x8, x9, x10⟩ := hSw1.pcells; obtain ⟨y0, y1, y2, y3, y4, y5, y6, y7, y8, y9, y10⟩ := hSw2.pcells; go_simp; try with_reducible rfl
      simp only [Act.put, List.getElem_toArray, List.getElem_cons_zero, List.getElem_cons_succ, List.setIfInBounds_toArray, List.set_cons_zero, List.set_cons_succ]
      refine wpAnyT_load (i := 15) (v := ?_) rfl (by kernel_rfl) (by kernel_rfl) (by kernel_rfl) (by kernel_rfl) (by kernel_rfl) (fun _ _ _ h => h) HSS.out (by rfl) ?_ ?_
      rotate_left
      · intro w hSw; obtain ⟨hSw1, hSw2⟩ := hSw; obtain ⟨x0, x1, x2, x3, x4, x5, x6, x7, x8, x9, x10⟩ := hSw1.pcells; obtain ⟨y0, y1, y2, y3, y4, y5, y6, y7, y8, y9, y10⟩ := hSw2.pcells; go_simp; try with_reducible rfl
      simp only [Act.put, List.getElem_toArray, List.getElem_cons_zero, List.getElem_cons_succ, List.setIfInBounds_toArray, List.set_cons_zero, List.set_cons_succ]
      refine wpAnyT_load (i := 16) (v := ?_) rfl (by kernel_rfl) (by kernel_rfl) (by kernel_rfl) (by kernel_rfl) (by kernel_rfl) (fun _ _ _ h => h) HSS.out (by rfl) ?_ ?_
      rotate_left
      · intro w hSw; obtain ⟨hSw1, hSw2⟩ := hSw; obtain ⟨x0, x1, x2, x3, x4, x5, x6, x7, x8, x9, x10⟩ := hSw1.pcells; obtain ⟨y0, y1, y2, y3, y4, y5, y6, y7, y8, y9, y10⟩ := hSw2.pcells; go_simp; try with_reducible rfl
      simp only [Act.put, List.getElem_toArray, List.getElem_cons_zero, List.getElem_cons_succ, List.setIfInBounds_toArray, List.set_cons_zero, List.set_cons_succ]
      refine wpAnyT_load (i := 17) (v := ?_) rfl (by kernel_rfl) (by kernel_rfl) (by kernel_rfl) (by kernel_rfl) (by kernel_rfl) (fun _ _ _ h => h) HSS.out (by rfl) ?_ ?_
      rotate_left
      · intro w hSw; obtain ⟨hSw1, hSw2⟩ := hSw; obtain ⟨x0, x1, x2, x3, x4, x5, x6, x7, x8, x9, x10⟩ := hSw1.pcells; obtain ⟨y0, y1, y2, y3, y4, y5, y6, y7, y8, y9, y10⟩ := hSw2.pcells; go_simp; try with_reducible rfl
      simp only [Act.put, List.getElem_toArray, List.getElem_cons_zero, List.getElem_cons_succ, List.setIfInBounds_toArray, List.set_cons_zero, List.set_cons_succ]
      refine wpAnyT_load (i := 18) (v := ?_) rfl (by kernel_rfl) (by kernel_rfl) (by kernel_rfl) (by kernel_rfl) (by kernel_rfl) (fun _ _ _ h => h) HSS.out (by rfl) ?_ ?_
      rotate_left
      · intro w hSw; obtain ⟨hSw1, hSw2⟩ := hSw; obtain ⟨x0, x1, x2, x3, x4, x5, x6, x7, x8, x9, x10⟩ := hSw1.pcells; obtain ⟨y0, y1, y2, y3, y4, y5, y6, y7, y8, y9, y10⟩ := hSw2.pcells; go_simp; try with_reducible rfl
      simp only [Act.put, List.getElem_toArray, List.getElem_cons_zero, List.getElem_cons_succ, List.setIfInBounds_toArray, List.set_cons_zero, List.set_cons_succ]
      refine wpAnyT_load (i := 19) (v := ?_) rfl (by kernel_rfl) (by kernel_rfl) (by kernel_rfl) (by kernel_rfl) (by kernel_rfl) (fun _ _ _ h => h) HSS.out (by rfl) ?_ ?_
      rotate_left
      · intro w hSw; obtain ⟨hSw1, hSw2⟩ := hSw; obtain ⟨x0, x1, x2, x3, x4, x5, x6, x7, x8, x9, x10⟩ := hSw1.pcells; obtain ⟨y0, y1, y2, y3, y4, y5, y6, y7, y8, y9, y10⟩ := hSw2.pcells; go_simp; try with_reducible rfl
      simp only [Act.put, List.getElem_toArray, List.getElem_cons_zero, List.getElem_cons_succ, List.setIfInBounds_toArray, List.set_cons_zero, List.set_cons_succ]
      refine wpAnyT_load (i := 20) (v := ?_) rfl (by kernel_rfl) (by kernel_rfl) (by kernel_rfl) (by kernel_rfl) (by kernel_rfl) (fun _ _ _ h => h) HSS.out (by rfl) ?_ ?_
      rotate_left
      · intro w hSw; obtain ⟨hSw1, hSw2⟩ := hSw; obtain ⟨x0, x1, x2, x3, x4, x5, x6, x7, x8, x9, x10⟩ := hSw1.pcells; obtain ⟨y0, y1, y2, y3, y4, y5, y6, y7, y8, y9, y10⟩ := hSw2.pcells; go_simp; try with_reducible rfl
      simp only [Act.put, List.getElem_toArray, List.getElem_cons_zero, List.getElem_cons_succ, List.setIfInBounds_toArray, List.set_cons_zero, List.set_cons_succ]
      refine wpAnyT_done (by kernel_rfl) ?_ _
      go_wp2_with fail
      go_ret
      exact ⟨rfl, HF.out⟩
    · have t0 : ¬ ((c : Int) < (p.hs : Int)) := by omega
      have t1 : (0 : Int) < (p.pad.length : Int) := by omega
      clear h1 h2
      go_wp2_with (first | (refine wpList_store_row rfl 67 (.tmp 8) (.tmp 45) rfl w6.heap.size rfl _ _ rfl 67 (Box.new w6 67 #[.bool false, .int .i64 0, .int .u16 0, .int .u32 0, .int .u32 0, .slice none 0 0, .bool false, .int .u16 0, .slice none 0 0, .slice none 0 0, .slice none 0 0]) (by kernel_rfl) rfl (oneCell_pc _ _ _ _ _ _ _ _ _ _ _ ⟨_, _, _, rfl⟩ ⟨_, _, _, rfl⟩ ⟨_, _, _, rfl⟩ ⟨_, _, _, rfl⟩) ?_; intro w7 hY hG; have hFn := ((Fr.refl [] w6).alloc _).step hG (by simp); have HF := Lib.hid (HF.out.trans hFn); have HBq := Lib.hid (HB.out.keep hFn); have HY := Lib.hid hY; have HPL := Lib.hid (Sl.keep HPL.out hFn); have HFn := Lib.hid hFn; clear hG hFn hY; obtain ⟨x0, x1, x2, x3, x4, x5, x6, x7, x8, x9, x10⟩ := HBq.out.pcells))
      go_ret
      exact ⟨rfl, HF.out⟩
  · rw [hp] at hpc
    have HF := Lib.hid (HF.out.trans hF); have HB := Lib.hid (HB.out.keep hF); have HPL := Lib.hid (Sl.keep HPL.out hF)
    clear hF hcut hp
    unfold pz
    rcases hpc with ⟨h1, h2⟩ | ⟨-, -, q', hq', -, -⟩ | ⟨h1, h2, ⟨q', hq'⟩ | hq'⟩
    · cases h2
      have t0 : (c : Int) < (p.hs : Int) := by omega
      clear h1
      go_wp2_with (first | (refine wpList_store_row rfl 67 (.tmp 8) (.tmp 45) rfl w6.heap.size rfl _ _ rfl 67 (Box.new w6 67 #[.bool false, .int .i64 0, .int .u16 0, .int .u32 0, .int .u32 0, .slice none 0 0, .bool false, .int .u16 0, .slice none 0 0, .slice none 0 0, .slice none 0 0]) (by kernel_rfl) rfl (oneCell_pz) ?_; intro w7 hY hG; have hFn := ((Fr.refl [] w6).alloc _).step hG (by simp); have HF := Lib.hid (HF.out.trans hFn); have HBq := Lib.hid (HB.out.keep hFn); have HY := Lib.hid hY; have HPL := Lib.hid (Sl.keep HPL.out hFn); have HFn := Lib.hid hFn; clear hG hFn hY; obtain ⟨x0, x1, x2, x3, x4, x5, x6, x7, x8, x9, x10⟩ := HBq.out.pcells))
      go_ret
      exact ⟨rfl, HF.out⟩
    · cases hq'
    · cases hq'
    · cases hq'
      have t0 : ¬ ((c : Int) < (p.hs : Int)) := by omega
      have t1 : (0 : Int) < (p.pad.length : Int) := by omega
      clear h1 h2
      go_wp2_with (first | (refine wpList_store_row rfl 67 (.tmp 8) (.tmp 45) rfl w6.heap.size rfl _ _ rfl 67 (Box.new w6 67 #[.bool false, .int .i64 0, .int .u16 0, .int .u32 0, .int .u32 0, .slice none 0 0, .bool false, .int .u16 0, .slice none 0 0, .slice none 0 0, .slice none 0 0]) (by kernel_rfl) rfl (oneCell_pz) ?_; intro w7 hY hG; have hFn := ((Fr.refl [] w6).alloc _).step hG (by simp); have HF := Lib.hid (HF.out.trans hFn); have HBq := Lib.hid (HB.out.keep hFn); have HY := Lib.hid hY; have HPL := Lib.hid (Sl.keep HPL.out hFn); have HFn := Lib.hid hFn; clear hG hFn hY; obtain ⟨x0, x1, x2, x3, x4, x5, x6, x7, x8, x9, x10⟩ := HBq.out.pcells))
      go_ret
      exact ⟨rfl, HF.out⟩
end Go.Proofs.Yticoongkfhkjgaa
