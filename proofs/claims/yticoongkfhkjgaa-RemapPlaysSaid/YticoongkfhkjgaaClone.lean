/- The walk of rtp.Clone (printed by gen_clone.py). -/
import Derived.Test.YticoongkfhkjgaaRtpEq
import Derived.Test.YticoongkfhkjgaaHeld
namespace Go.Proofs.Yticoongkfhkjgaa
open Go.RowKit

set_option maxRecDepth 100000 in
set_option maxHeartbeats 4000000 in
theorem ClonePk_any {w : World} {base : Nat} {v : Value} {p : Pkt} (hV : PktV w base v p) (hS : p.Small) :
    Calls Try.prog 42 #[v] w fun e w' => ∃ cs ex pl pd, e = .returned (.agg (pc p.marker p.pt p.seq.toNat p.ts.toNat p.ssrc.toNat cs p.hasExt p.profile.toNat ex pl pd)) ∧
      OwnW w' w.heap.size cs p.csrc ∧ OwnB w' w.heap.size ex p.ext ∧ OwnB w' w.heap.size pl p.payload ∧ OwnB w' w.heap.size pd p.pad ∧ Fr [] w w' := by
  obtain ⟨a1, c1, a2, c2, a3, c3, a4, c4, rfl, hcs, hex, hpl, hpd⟩ := hV.open_
  obtain ⟨w2, e2, hF2, hB2, hD2, hs2⟩ := two_new w (pc p.marker p.pt p.seq.toNat p.ts.toNat p.ssrc.toNat (.slice a1 p.csrc.length c1) p.hasExt p.profile.toNat (.slice a2 p.ext.length c2) (.slice a3 p.payload.length c3) (.slice a4 p.pad.length c4)) 67 pz 67
  unfold pz at e2
  have E2 := Lib.hid e2
  have HF2 := Lib.hid hF2; have HB2 := Lib.hid hB2; have HD2 := Lib.hid hD2
  have HCS := Lib.hid hcs; have HEX := Lib.hid hex; have HPL := Lib.hid hpl; have HPD := Lib.hid hpd
  have HS := Lib.hid hS
  clear hV hS hF2 hB2 hD2 e2 hcs hex hpl hpd
  go_enter Try.func42, Try.ntmps42
  go_upto_region 1 with (fail)
  rw [E2.out]
  clear E2
  generalize hHW : w.heap.size = W at *
  have HHW := Lib.hid hHW; have HS2 := Lib.hid hs2
  clear hHW hs2
  obtain ⟨x0, x1, x2, x3, x4, x5, x6, x7, x8, x9, x10⟩ := HB2.out.pcells
  refine wp_region_T (fun w' => w'.cell? ⟨W, 5, none⟩ = some (.slice a1 p.csrc.length c1) ∧ w'.cell? ⟨W, 8, none⟩ = some (.slice a2 p.ext.length c2) ∧ w'.cell? ⟨W, 9, none⟩ = some (.slice a3 p.payload.length c3) ∧ w'.cell? ⟨W, 10, none⟩ = some (.slice a4 p.pad.length c4)) [12, 13, 14, 15, 16, 17, 18, 19] 20 #[false, false, false, false, false, false, false, false, false, false, false, false, false, false, false, false, false, false, false, false] (by kernel_rfl) rfl rfl ?_
  have HSS := Lib.hid (show w2.drew.cell? ⟨W, 5, none⟩ = some (.slice a1 p.csrc.length c1) ∧ w2.drew.cell? ⟨W, 8, none⟩ = some (.slice a2 p.ext.length c2) ∧ w2.drew.cell? ⟨W, 9, none⟩ = some (.slice a3 p.payload.length c3) ∧ w2.drew.cell? ⟨W, 10, none⟩ = some (.slice a4 p.pad.length c4) from ⟨x5, x8, x9, x10⟩)
  clear x0 x1 x2 x3 x4 x5 x6 x7 x8 x9 x10
  refine wpAnyT_load (i := 0) (v := ?_) rfl (by kernel_rfl) (by kernel_rfl) (by kernel_rfl) (by kernel_rfl) (by kernel_rfl) (fun _ _ _ h => h) HSS.out (by rfl) ?_ ?_
  rotate_left
  · intro w hSw; obtain ⟨s1, s2, s3, s4⟩ := hSw; go_simp; try with_reducible rfl
  simp only [Act.put, List.setIfInBounds_toArray, List.set_cons_zero, List.set_cons_succ]
  refine wpAnyT_load (i := 1) (v := ?_) rfl (by kernel_rfl) (by kernel_rfl) (by kernel_rfl) (by kernel_rfl) (by kernel_rfl) (fun _ _ _ h => h) HSS.out (by rfl) ?_ ?_
  rotate_left
  · intro w hSw; obtain ⟨s1, s2, s3, s4⟩ := hSw; go_simp; try with_reducible rfl
  simp only [Act.put, List.setIfInBounds_toArray, List.set_cons_zero, List.set_cons_succ]
  refine wpAnyT_load (i := 3) (v := ?_) rfl (by kernel_rfl) (by kernel_rfl) (by kernel_rfl) (by kernel_rfl) (by kernel_rfl) (fun _ _ _ h => h) HSS.out (by rfl) ?_ ?_
  rotate_left
  · intro w hSw; obtain ⟨s1, s2, s3, s4⟩ := hSw; go_simp; try with_reducible rfl
  simp only [Act.put, List.setIfInBounds_toArray, List.set_cons_zero, List.set_cons_succ]
  refine wpAnyT_load (i := 4) (v := ?_) rfl (by kernel_rfl) (by kernel_rfl) (by kernel_rfl) (by kernel_rfl) (by kernel_rfl) (fun _ _ _ h => h) HSS.out (by rfl) ?_ ?_
  rotate_left
  · intro w hSw; obtain ⟨s1, s2, s3, s4⟩ := hSw; go_simp; try with_reducible rfl
  simp only [Act.put, List.setIfInBounds_toArray, List.set_cons_zero, List.set_cons_succ]
  refine wpAnyT_load (i := 6) (v := ?_) rfl (by kernel_rfl) (by kernel_rfl) (by kernel_rfl) (by kernel_rfl) (by kernel_rfl) (fun _ _ _ h => h) HSS.out (by rfl) ?_ ?_
  rotate_left
  · intro w hSw; obtain ⟨s1, s2, s3, s4⟩ := hSw; go_simp; try with_reducible rfl
  simp only [Act.put, List.setIfInBounds_toArray, List.set_cons_zero, List.set_cons_succ]
  refine wpAnyT_load (i := 7) (v := ?_) rfl (by kernel_rfl) (by kernel_rfl) (by kernel_rfl) (by kernel_rfl) (by kernel_rfl) (fun _ _ _ h => h) HSS.out (by rfl) ?_ ?_
  rotate_left
  · intro w hSw; obtain ⟨s1, s2, s3, s4⟩ := hSw; go_simp; try with_reducible rfl
  simp only [Act.put, List.setIfInBounds_toArray, List.set_cons_zero, List.set_cons_succ]
  refine wpAnyT_load (i := 9) (v := ?_) rfl (by kernel_rfl) (by kernel_rfl) (by kernel_rfl) (by kernel_rfl) (by kernel_rfl) (fun _ _ _ h => h) HSS.out (by rfl) ?_ ?_
  rotate_left
  · intro w hSw; obtain ⟨s1, s2, s3, s4⟩ := hSw; go_simp; try with_reducible rfl
  simp only [Act.put, List.setIfInBounds_toArray, List.set_cons_zero, List.set_cons_succ]
  refine wpAnyT_load (i := 10) (v := ?_) rfl (by kernel_rfl) (by kernel_rfl) (by kernel_rfl) (by kernel_rfl) (by kernel_rfl) (fun _ _ _ h => h) HSS.out (by rfl) ?_ ?_
  rotate_left
  · intro w hSw; obtain ⟨s1, s2, s3, s4⟩ := hSw; go_simp; try with_reducible rfl
  simp only [Act.put, List.setIfInBounds_toArray, List.set_cons_zero, List.set_cons_succ]
  clear HSS
  have HF3 := Lib.hid HF2.out.drew
  have HB3 := Lib.hid (HB2.out.keep ((Fr.refl [] w2).drew))
  have HD3 := Lib.hid (HD2.out.keep ((Fr.refl [] w2).drew))
  have HZ3 : Hid (W + 2 ≤ w2.drew.heap.size) := Lib.hid (by have := HS2.out; simp; omega)
  clear HF2 HB2 HD2 HS2
  refine wpAnyT_one (i := 2) (by kernel_rfl) rfl (fun K hK => ?_)
  rw [if_pos (by rfl)]
  go_simp
  go_at_call 85
  refine (cloneW_any (Sl.keep HCS.out HF3.out) HS.out.1).mono ?_
  rintro e w3 ⟨v1, rfl, hO, hF⟩
  go_simp
  obtain ⟨q1, m1, d1, rfl⟩ := hO.isSlice
  have HO1 := Lib.hid (hO.mono HZ3.out)
  have HF4 := Lib.hid (HF3.out.trans hF)
  have HB4 := Lib.hid (HB3.out.keep hF)
  have HD4 := Lib.hid (HD3.out.keep hF)
  have HZ4 : Hid (W + 2 ≤ w3.heap.size) := Lib.hid (Nat.le_trans HZ3.out hF.size)
  refine hK.out _ _ (fun _ => ⟨HB4.out.pcells.2.2.2.2.2.1, HB4.out.pcells.2.2.2.2.2.2.2.2.1, HB4.out.pcells.2.2.2.2.2.2.2.2.2.1, HB4.out.pcells.2.2.2.2.2.2.2.2.2.2⟩) ?_
  clear hK K hO hF HB3 HD3 HZ3 HF3
  simp only [Act.put, List.setIfInBounds_toArray, List.set_cons_zero, List.set_cons_succ]
  refine wpAnyT_pure (i := 12) (v := ?_) rfl (by kernel_rfl) (by kernel_rfl) (by kernel_rfl) (by kernel_rfl) (by kernel_rfl) (fun _ _ _ h => h) (by rfl) ?_ ?_
  rotate_left
  · intro w; go_simp; try with_reducible rfl
  simp only [Act.put, List.setIfInBounds_toArray, List.set_cons_zero, List.set_cons_succ]
  refine wpAnyT_one (i := 5) (by kernel_rfl) rfl (fun K hK => ?_)
  rw [if_pos (by rfl)]
  go_simp
  go_at_call 86
  refine (cloneB_any (Sl.keep HEX.out HF4.out) HS.out.2.1).mono ?_
  rintro e w4 ⟨v2, rfl, hO, hF⟩
  go_simp
  obtain ⟨q2, m2, d2, rfl⟩ := hO.isSlice
  have HO2 := Lib.hid (hO.mono HZ4.out)
  have HF5 := Lib.hid (HF4.out.trans hF)
  have HO1 := Lib.hid (HO1.out.keep hF)
  have HB5 := Lib.hid (HB4.out.keep hF)
  have HD5 := Lib.hid (HD4.out.keep hF)
  have HZ5 : Hid (W + 2 ≤ w4.heap.size) := Lib.hid (Nat.le_trans HZ4.out hF.size)
  refine hK.out _ _ (fun _ => ⟨HB5.out.pcells.2.2.2.2.2.1, HB5.out.pcells.2.2.2.2.2.2.2.2.1, HB5.out.pcells.2.2.2.2.2.2.2.2.2.1, HB5.out.pcells.2.2.2.2.2.2.2.2.2.2⟩) ?_
  clear hK K hO hF HB4 HD4 HZ4 HF4
  simp only [Act.put, List.setIfInBounds_toArray, List.set_cons_zero, List.set_cons_succ]
  refine wpAnyT_one (i := 8) (by kernel_rfl) rfl (fun K hK => ?_)
  rw [if_pos (by rfl)]
  go_simp
  go_at_call 86
  refine (cloneB_any (Sl.keep HPL.out HF5.out) HS.out.2.2.1).mono ?_
  rintro e w5 ⟨v3, rfl, hO, hF⟩
  go_simp
  obtain ⟨q3, m3, d3, rfl⟩ := hO.isSlice
  have HO3 := Lib.hid (hO.mono HZ5.out)
  have HF6 := Lib.hid (HF5.out.trans hF)
  have HO1 := Lib.hid (HO1.out.keep hF)
  have HO2 := Lib.hid (HO2.out.keep hF)
  have HB6 := Lib.hid (HB5.out.keep hF)
  have HD6 := Lib.hid (HD5.out.keep hF)
  have HZ6 : Hid (W + 2 ≤ w5.heap.size) := Lib.hid (Nat.le_trans HZ5.out hF.size)
  refine hK.out _ _ (fun _ => ⟨HB6.out.pcells.2.2.2.2.2.1, HB6.out.pcells.2.2.2.2.2.2.2.2.1, HB6.out.pcells.2.2.2.2.2.2.2.2.2.1, HB6.out.pcells.2.2.2.2.2.2.2.2.2.2⟩) ?_
  clear hK K hO hF HB5 HD5 HZ5 HF5
  simp only [Act.put, List.setIfInBounds_toArray, List.set_cons_zero, List.set_cons_succ]
  refine wpAnyT_one (i := 11) (by kernel_rfl) rfl (fun K hK => ?_)
  rw [if_pos (by rfl)]
  go_simp
  go_at_call 86
  refine (cloneB_any (Sl.keep HPD.out HF6.out) HS.out.2.2.2).mono ?_
  rintro e w6 ⟨v4, rfl, hO, hF⟩
  go_simp
  obtain ⟨q4, m4, d4, rfl⟩ := hO.isSlice
  have HO4 := Lib.hid (hO.mono HZ6.out)
  have HF7 := Lib.hid (HF6.out.trans hF)
  have HO1 := Lib.hid (HO1.out.keep hF)
  have HO2 := Lib.hid (HO2.out.keep hF)
  have HO3 := Lib.hid (HO3.out.keep hF)
  have HB7 := Lib.hid (HB6.out.keep hF)
  have HD7 := Lib.hid (HD6.out.keep hF)
  have HZ7 : Hid (W + 2 ≤ w6.heap.size) := Lib.hid (Nat.le_trans HZ6.out hF.size)
  refine hK.out _ _ (fun _ => ⟨HB7.out.pcells.2.2.2.2.2.1, HB7.out.pcells.2.2.2.2.2.2.2.2.1, HB7.out.pcells.2.2.2.2.2.2.2.2.2.1, HB7.out.pcells.2.2.2.2.2.2.2.2.2.2⟩) ?_
  clear hK K hO hF HB6 HD6 HZ6 HF6
  simp only [Act.put, List.setIfInBounds_toArray, List.set_cons_zero, List.set_cons_succ]
  have hFr := HB7.out.free 5
  obtain ⟨w7, e7, hF, hB, -⟩ := set_new HB7.out 5 (.slice q1 m1 d1)
  simp only [pc, List.setIfInBounds_toArray, List.set_cons_zero, List.set_cons_succ] at hB
  have HB8 := Lib.hid hB
  have HF8 := Lib.hid (HF7.out.step hF (fun x hx => by have := HHW.out; simp at hx; subst hx; exact .inr (by omega)))
  have HD8 := Lib.hid (HD7.out.fr hF (by simp))
  have HO1 := Lib.hid (HO1.out.low hF (by simp))
  have HO2 := Lib.hid (HO2.out.low hF (by simp))
  have HO3 := Lib.hid (HO3.out.low hF (by simp))
  have HO4 := Lib.hid (HO4.out.low hF (by simp))
  obtain ⟨x0, x1, x2, x3, x4, x5, x6, x7, x8, x9, x10⟩ := HB7.out.pcells
  refine wpAnyT_one (i := 13) (by kernel_rfl) rfl (fun K hK => ?_)
  rw [if_pos (by rfl)]
  go_simp
  refine hK.out _ _ (fun h => absurd (by simp) h) ?_
  clear hK K hF hB e7 hFr x0 x1 x2 x3 x4 x5 x6 x7 x8 x9 x10 HB7 HD7 HF7
  simp only [Act.put, List.setIfInBounds_toArray, List.set_cons_zero, List.set_cons_succ]
  refine wpAnyT_pure (i := 14) (v := ?_) rfl (by kernel_rfl) (by kernel_rfl) (by kernel_rfl) (by kernel_rfl) (by kernel_rfl) (fun _ _ _ h => h) (by rfl) ?_ ?_
  rotate_left
  · intro w; go_simp; try with_reducible rfl
  simp only [Act.put, List.setIfInBounds_toArray, List.set_cons_zero, List.set_cons_succ]
  have hFr := HB8.out.free 8
  obtain ⟨w8, e8, hF, hB, -⟩ := set_new HB8.out 8 (.slice q2 m2 d2)
  simp only [pc, List.setIfInBounds_toArray, List.set_cons_zero, List.set_cons_succ] at hB
  have HB9 := Lib.hid hB
  have HF9 := Lib.hid (HF8.out.step hF (fun x hx => by have := HHW.out; simp at hx; subst hx; exact .inr (by omega)))
  have HD9 := Lib.hid (HD8.out.fr hF (by simp))
  have HO1 := Lib.hid (HO1.out.low hF (by simp))
  have HO2 := Lib.hid (HO2.out.low hF (by simp))
  have HO3 := Lib.hid (HO3.out.low hF (by simp))
  have HO4 := Lib.hid (HO4.out.low hF (by simp))
  obtain ⟨x0, x1, x2, x3, x4, x5, x6, x7, x8, x9, x10⟩ := HB8.out.pcells
  refine wpAnyT_one (i := 15) (by kernel_rfl) rfl (fun K hK => ?_)
  rw [if_pos (by rfl)]
  go_simp
  refine hK.out _ _ (fun h => absurd (by simp) h) ?_
  clear hK K hF hB e8 hFr x0 x1 x2 x3 x4 x5 x6 x7 x8 x9 x10 HB8 HD8 HF8
  simp only [Act.put, List.setIfInBounds_toArray, List.set_cons_zero, List.set_cons_succ]
  refine wpAnyT_pure (i := 16) (v := ?_) rfl (by kernel_rfl) (by kernel_rfl) (by kernel_rfl) (by kernel_rfl) (by kernel_rfl) (fun _ _ _ h => h) (by rfl) ?_ ?_
  rotate_left
  · intro w; go_simp; try with_reducible rfl
  simp only [Act.put, List.setIfInBounds_toArray, List.set_cons_zero, List.set_cons_succ]
  have hFr := HB9.out.free 9
  obtain ⟨w9, e9, hF, hB, -⟩ := set_new HB9.out 9 (.slice q3 m3 d3)
  simp only [pc, List.setIfInBounds_toArray, List.set_cons_zero, List.set_cons_succ] at hB
  have HB10 := Lib.hid hB
  have HF10 := Lib.hid (HF9.out.step hF (fun x hx => by have := HHW.out; simp at hx; subst hx; exact .inr (by omega)))
  have HD10 := Lib.hid (HD9.out.fr hF (by simp))
  have HO1 := Lib.hid (HO1.out.low hF (by simp))
  have HO2 := Lib.hid (HO2.out.low hF (by simp))
  have HO3 := Lib.hid (HO3.out.low hF (by simp))
  have HO4 := Lib.hid (HO4.out.low hF (by simp))
  obtain ⟨x0, x1, x2, x3, x4, x5, x6, x7, x8, x9, x10⟩ := HB9.out.pcells
  refine wpAnyT_one (i := 17) (by kernel_rfl) rfl (fun K hK => ?_)
  rw [if_pos (by rfl)]
  go_simp
  refine hK.out _ _ (fun h => absurd (by simp) h) ?_
  clear hK K hF hB e9 hFr x0 x1 x2 x3 x4 x5 x6 x7 x8 x9 x10 HB9 HD9 HF9
  simp only [Act.put, List.setIfInBounds_toArray, List.set_cons_zero, List.set_cons_succ]
  refine wpAnyT_pure (i := 18) (v := ?_) rfl (by kernel_rfl) (by kernel_rfl) (by kernel_rfl) (by kernel_rfl) (by kernel_rfl) (fun _ _ _ h => h) (by rfl) ?_ ?_
  rotate_left
  · intro w; go_simp; try with_reducible rfl
  simp only [Act.put, List.setIfInBounds_toArray, List.set_cons_zero, List.set_cons_succ]
  have hFr := HB10.out.free 10
  obtain ⟨w10, e10, hF, hB, -⟩ := set_new HB10.out 10 (.slice q4 m4 d4)
  simp only [pc, List.setIfInBounds_toArray, List.set_cons_zero, List.set_cons_succ] at hB
  have HB11 := Lib.hid hB
  have HF11 := Lib.hid (HF10.out.step hF (fun x hx => by have := HHW.out; simp at hx; subst hx; exact .inr (by omega)))
  have HD11 := Lib.hid (HD10.out.fr hF (by simp))
  have HO1 := Lib.hid (HO1.out.low hF (by simp))
  have HO2 := Lib.hid (HO2.out.low hF (by simp))
  have HO3 := Lib.hid (HO3.out.low hF (by simp))
  have HO4 := Lib.hid (HO4.out.low hF (by simp))
  obtain ⟨x0, x1, x2, x3, x4, x5, x6, x7, x8, x9, x10⟩ := HB10.out.pcells
  refine wpAnyT_one (i := 19) (by kernel_rfl) rfl (fun K hK => ?_)
  rw [if_pos (by rfl)]
  go_simp
  refine hK.out _ _ (fun h => absurd (by simp) h) ?_
  clear hK K hF hB e10 hFr x0 x1 x2 x3 x4 x5 x6 x7 x8 x9 x10 HB10 HD10 HF10
  simp only [Act.put, List.setIfInBounds_toArray, List.set_cons_zero, List.set_cons_succ]
  refine wpAnyT_done (by kernel_rfl) ?_ _
  go_wp2_with (first | (refine wpList_load_row rfl 67 (.tmp 1) rfl W rfl 67 _ _ _ HB11.out Try.underlying67 rfl (by kernel_rfl) ?_) | (refine wpList_store_row rfl 67 (.tmp 2) (.tmp 19) rfl (W + 1) rfl _ _ rfl 67 HD11.out (by kernel_rfl) rfl (oneCell_pc _ _ _ _ _ _ _ _ _ _ _ ⟨_, _, _, rfl⟩ ⟨_, _, _, rfl⟩ ⟨_, _, _, rfl⟩ ⟨_, _, _, rfl⟩) ?_; intro w13 hY hG))
  refine bodyPost_ret (results_cell_row rfl _ _ (W + 1) 67 _ (0, 0) _ rfl hY Try.underlying67 rfl (by kernel_rfl)) rfl ⟨_, _, _, _, rfl, ?_, ?_, ?_, ?_, HF11.out.step hG (fun x hx => by have := HHW.out; simp at hx; subst hx; exact .inr (by omega))⟩
  · exact (HO1.out.low hG (by simp)).mono (by have := HHW.out; omega)
  · exact (HO2.out.low hG (by simp)).mono (by have := HHW.out; omega)
  · exact (HO3.out.low hG (by simp)).mono (by have := HHW.out; omega)
  · exact (HO4.out.low hG (by simp)).mono (by have := HHW.out; omega)
end Go.Proofs.Yticoongkfhkjgaa
