/- The walks of imprint.Empty, Add; confluxref12.Same, Add; confluxlaw12.as, like (printed by gen_imp2.py). -/
import Derived.Test.YtchbgiindfoepaaImp1
import Derived.Test.YtchbgiindfoepaaRef1
namespace Go.Proofs.Ytchbgiindfoepaa
open Go.RowKit

set_option maxRecDepth 100000 in
set_option maxHeartbeats 2000000 in
theorem impEmpty_any {w : World} {v1 : Value} {x : Bt} (h1 : BtV w v1 x) (hl1 : x.body.length ≤ 1099511627776) :
    Calls Try.prog 19 #[v1] w fun e w' => e = .returned (.bool (x.same Bt.zero)) ∧ Fr [] w w' := by
  obtain ⟨a, c, rfl, hb⟩ := h1.open_
  obtain ⟨w1, e1, hF1, hB1, hs1⟩ := one_new w (bc x (.slice a x.body.length c)) 28
  have HF1 := Lib.hid hF1; have HV := Lib.hid (h1.keep hF1); have HB1 := Lib.hid hB1
  have E1 := Lib.hid e1
  clear hb hF1 hB1 hs1 e1 h1
  go_enter Try.func19, Try.ntmps19
  go_upto_region 1 with (fail)
  rw [E1.out]
  clear E1
  go_wp2_with (refine wpList_load_row rfl 28 (.tmp 1) rfl w.heap.size rfl 28 _ _ _ HB1.out Try.underlying28 rfl (by kernel_rfl) ?_)
  refine (impSame_any HV.out (y := Bt.zero) ⟨.slice none 0 0, rfl, Sl.nil _⟩ hl1 (by simp [Bt.zero])).mono ?_
  rintro e w2 ⟨rfl, hF⟩
  have HF := Lib.hid (HF1.out.trans hF)
  clear hF
  go_wp2_with fail
  go_ret
  exact ⟨rfl, HF.out⟩

set_option maxHeartbeats 2000000 in
theorem r12Same_any {w : World} {v1 v2 : Value} {h1 b1 h2 b2 : List UInt8} (hv1 : RBV w v1 h1 b1) (hv2 : RBV w v2 h2 b2) (k1 : h1.length ≤ 1099511627776) (k2 : h2.length ≤ 1099511627776) (k3 : b1.length ≤ 1099511627776) (k4 : b2.length ≤ 1099511627776) :
    Calls Try.prog 17 #[v1, v2] w fun e w' => e = .returned (.bool (h1 == h2 && gap0 b1 b2)) ∧ Fr [] w w' := by
  obtain ⟨a1, c1, a2, c2, rfl, g1, g2⟩ := hv1.open_
  obtain ⟨a3, c3, a4, c4, rfl, g3, g4⟩ := hv2.open_
  obtain ⟨w1, e1, hF1, hB1, hB2, hs1⟩ := two_new w #[.slice a1 h1.length c1, .slice a2 b1.length c2] 37 #[.slice a3 h2.length c3, .slice a4 b2.length c4] 37
  have HF1 := Lib.hid hF1; have G1 := Lib.hid (g1.keep hF1); have G2 := Lib.hid (g2.keep hF1); have G3 := Lib.hid (g3.keep hF1); have G4 := Lib.hid (g4.keep hF1)
  have E1 := Lib.hid e1; have HB1 := Lib.hid hB1; have HB2 := Lib.hid hB2
  have x0 := HB1.out.cell 0; have x1 := HB1.out.cell 1
  simp only [List.getElem?_toArray, List.getElem?_cons_succ, List.getElem?_cons_zero] at x0 x1
  have y0 := HB2.out.cell 0; have y1 := HB2.out.cell 1
  simp only [List.getElem?_toArray, List.getElem?_cons_succ, List.getElem?_cons_zero] at y0 y1
  clear hv1 hv2 g1 g2 g3 g4 hF1 hB1 hB2 hs1 e1
  go_enter Try.func17, Try.ntmps17
  go_upto_region 1 with (fail)
  rw [E1.out]
  clear E1
  go_wp2_with fail
  refine (RSame_any G1.out G3.out k1 k2).mono ?_
  rintro e w2 ⟨rfl, hF⟩
  have HB1 := Lib.hid (HB1.out.keep hF); have HB2 := Lib.hid (HB2.out.keep hF); have HF := Lib.hid (HF1.out.trans hF); have G2 := Lib.hid (G2.out.keep hF); have G4 := Lib.hid (G4.out.keep hF)
  clear hF x0 x1 y0 y1
  have x1 := HB1.out.cell 1
  simp only [List.getElem?_toArray, List.getElem?_cons_succ, List.getElem?_cons_zero] at x1
  have y1 := HB2.out.cell 1
  simp only [List.getElem?_toArray, List.getElem?_cons_succ, List.getElem?_cons_zero] at y1
  cases hh : (h1 == h2) with
  | false =>
    have HH := Lib.hid hh
    clear hh
    go_wp2_with fail
    go_ret
    exact ⟨by rw [HH.out]; rfl, HF.out⟩
  | true =>
    have HH := Lib.hid hh
    clear hh
    go_wp2_with fail
    refine (r04Gap_any G2.out G4.out k3 k4).mono ?_
    rintro e w3 ⟨n, rfl, hn, hF⟩
    have HN := Lib.hid hn; have HF := Lib.hid (HF.out.trans hF)
    clear hn hF
    go_wp2_with fail
    go_ret
    exact ⟨by rw [← HN.out, HH.out]; rfl, HF.out⟩

set_option maxRecDepth 100000 in
set_option maxHeartbeats 2000000 in
theorem l12as_own {w : World} {vb : Value} {x : Bt} (h1 : Bytes w vb x.body) :
    Calls Try.prog 16 #[.agg (bc x vb)] w fun e w' => ∃ vh, e = .returned (.agg #[vh, vb]) ∧ Bytes w' vh x.head ∧ (∀ k, liveOf vh = some k → w.heap.size ≤ k) ∧ Bytes w' vb x.body ∧ Fr [] w w' := by
  have hb := h1
  obtain ⟨a, c, rfl⟩ := hb.shape
  simp only [List.length_map] at hb h1 ⊢
  obtain ⟨w1, e1, hF1, hB1, hB2, hs1⟩ := two_new w (bc x (.slice a x.body.length c)) 28 #[.slice none 0 0, .slice none 0 0] 37
  have hF1d := hF1.drew
  have HF := Lib.hid hF1d; have HSS := Lib.hid (hB1.keep ((Fr.refl [] w1).drew)); have HB : Hid (Bytes w1.drew _ x.body) := Lib.hid (Sl.keep hb hF1d); have HR := Lib.hid (hB2.keep ((Fr.refl [] w1).drew))
  have E1 := Lib.hid e1
  have HH := Lib.hid HSS.out.headSl
  have HBL : Hid (∀ k, liveOf (.slice a x.body.length c) = some k → k < w.heap.size) := Lib.hid (fun k hk => Sl.lt hb k hk)
  have hsz : w1.drew.heap.size = w.heap.size + 2 := hs1
  clear hb hF1 hF1d hB1 hB2 e1 h1 hs1
  go_enter Try.func16, Try.ntmps16
  go_upto_region 1 with (fail)
  rw [E1.out]
  clear E1
  refine wp_region_T (fun w' => Box w' w.heap.size 28 (bc x (.slice a x.body.length c))) [] 7 #[false, false, false, false, false, false, false] (by kernel_rfl) rfl rfl ?_
  generalize w1.drew = wd at *
  refine wpAnyT_load (i := 0) (v := ?_) rfl (by kernel_rfl) (by kernel_rfl) (by kernel_rfl) (by kernel_rfl) (by kernel_rfl) (fun _ _ _ h => h) HSS.out (by rfl) ?_ ?_
  rotate_left
  · intro w hSw; obtain ⟨x0, x1, x2, x3, x4, x5, x6, x7, x8⟩ := hSw.bcells; go_simp; try with_reducible rfl
  simp only [Act.put, List.getElem_toArray, List.getElem_cons_zero, List.getElem_cons_succ, List.setIfInBounds_toArray, List.set_cons_zero, List.set_cons_succ]
  refine wpAnyT_load (i := 1) (v := ?_) rfl (by kernel_rfl) (by kernel_rfl) (by kernel_rfl) (by kernel_rfl) (by kernel_rfl) (fun _ _ _ h => h) HSS.out (by rfl) ?_ ?_
  rotate_left
  · intro w hSw; obtain ⟨x0, x1, x2, x3, x4, x5, x6, x7, x8⟩ := hSw.bcells; go_simp; try with_reducible rfl
  simp only [Act.put, List.getElem_toArray, List.getElem_cons_zero, List.getElem_cons_succ, List.setIfInBounds_toArray, List.set_cons_zero, List.set_cons_succ]
  refine wpAnyT_load (i := 3) (v := ?_) rfl (by kernel_rfl) (by kernel_rfl) (by kernel_rfl) (by kernel_rfl) (by kernel_rfl) (fun _ _ _ h => h) HSS.out (by rfl) ?_ ?_
  rotate_left
  · intro w hSw; obtain ⟨x0, x1, x2, x3, x4, x5, x6, x7, x8⟩ := hSw.bcells; go_simp; try with_reducible rfl
  simp only [Act.put, List.getElem_toArray, List.getElem_cons_zero, List.getElem_cons_succ, List.setIfInBounds_toArray, List.set_cons_zero, List.set_cons_succ]
  refine wpAnyT_load (i := 4) (v := ?_) rfl (by kernel_rfl) (by kernel_rfl) (by kernel_rfl) (by kernel_rfl) (by kernel_rfl) (fun _ _ _ h => h) HSS.out (by rfl) ?_ ?_
  rotate_left
  · intro w hSw; obtain ⟨x0, x1, x2, x3, x4, x5, x6, x7, x8⟩ := hSw.bcells; go_simp; try with_reducible rfl
  simp only [Act.put, List.getElem_toArray, List.getElem_cons_zero, List.getElem_cons_succ, List.setIfInBounds_toArray, List.set_cons_zero, List.set_cons_succ]
  refine wpAnyT_one (i := 2) (by kernel_rfl) rfl (fun K hK => ?_)
  rw [if_pos (by rfl)]
  go_simp
  refine (RCopy_any HH.out (by rw [x.head_len]; omega)).mono ?_
  rintro e w2 ⟨v2, rfl, hO, hF⟩
  have HO := Lib.hid hO.bytes; have HOL : Hid (∀ k, liveOf v2 = some k → wd.heap.size ≤ k) := Lib.hid (fun k hk => (hO.block k (live_block hk)).1); have HSS := Lib.hid (HSS.out.keep hF); have HB := Lib.hid (Sl.keep HB.out hF); have HR := Lib.hid (HR.out.keep hF); have HF := Lib.hid (HF.out.trans hF)
  obtain ⟨a2, c2, rfl⟩ := HO.out.shape
  clear hO hF
  go_simp
  refine hK.out _ _ (fun _ => HSS.out) ?_
  clear hK K
  simp only [Act.put, List.getElem_toArray, List.getElem_cons_zero, List.getElem_cons_succ, List.setIfInBounds_toArray, List.set_cons_zero, List.set_cons_succ]
  refine wpAnyT_load (i := 5) (v := ?_) rfl (by kernel_rfl) (by kernel_rfl) (by kernel_rfl) (by kernel_rfl) (by kernel_rfl) (fun _ _ _ h => h) HSS.out (by rfl) ?_ ?_
  rotate_left
  · intro w hSw; obtain ⟨x0, x1, x2, x3, x4, x5, x6, x7, x8⟩ := hSw.bcells; go_simp; try with_reducible rfl
  simp only [Act.put, List.getElem_toArray, List.getElem_cons_zero, List.getElem_cons_succ, List.setIfInBounds_toArray, List.set_cons_zero, List.set_cons_succ]
  refine wpAnyT_one (i := 6) (by kernel_rfl) rfl (fun K hK => ?_)
  refine wp_store_row rfl 37 (.tmp 2) (.tmp 8) rfl (w.heap.size + 1) rfl _ _ rfl 37 HR.out (by kernel_rfl) rfl (by simp [Value.oneCell']) ?_
  intro w3 hY hG
  have HSS := Lib.hid (HSS.out.fr hG (by simp))
  refine hK.out _ _ (fun _ => HSS.out) ?_
  clear hK K
  simp only [Act.put, List.getElem_toArray, List.getElem_cons_zero, List.getElem_cons_succ, List.setIfInBounds_toArray, List.set_cons_zero, List.set_cons_succ]
  refine wpAnyT_done (by kernel_rfl) ?_ _
  go_wp2_with fail
  refine bodyPost_ret (results_cell_row rfl _ _ (w.heap.size + 1) 37 _ (0, 0) _ rfl hY Try.underlying37 rfl (by kernel_rfl)) rfl ⟨_, rfl, ?_, fun k hk => by have := HOL.out k hk; omega, ?_, HF.out.step hG (by simp)⟩
  · exact Sl.frL HO.out hG (fun k hk hm => by have := HOL.out k hk; simp at hm; omega)
  · exact Sl.frL HB.out hG (fun k hk hm => by have := HBL.out k hk; simp at hm; omega)
theorem l12as_any {w : World} {v1 : Value} {x : Bt} (h1 : BtV w v1 x) :
    Calls Try.prog 16 #[v1] w fun e w' => ∃ v', e = .returned v' ∧ RBV w' v' x.head x.body ∧ Fr [] w w' := by
  obtain ⟨vb, rfl, hb⟩ := h1
  exact (l12as_own hb).mono fun e w' ⟨vh, he, h1, _, h2, hF⟩ => ⟨_, he, ⟨_, _, rfl, h1, h2⟩, hF⟩
set_option maxRecDepth 100000 in
set_option maxHeartbeats 2000000 in
theorem r12Add_own {w : World} {v1 v2 : Value} {h1 b1 h2 b2 : List UInt8} (hv1 : RBV w v1 h1 b1) (hv2 : RBV w v2 h2 b2) (k1 : h1.length ≤ 1099511627776) (k3 : h2.length ≤ 1099511627776) (k2 : b1.length ≤ 1099511627776) (k4 : b2.length ≤ 1099511627776) :
    Calls Try.prog 57 #[v1, v2] w fun e w' => ∃ vh vb, e = .returned (.agg #[vh, vb]) ∧ OwnB w' w.heap.size vh (xb h1 h2) ∧ OwnB w' w.heap.size vb (xb b1 b2) ∧ Fr [] w w' := by
  obtain ⟨a1, c1, a2, c2, rfl, g1, g2⟩ := hv1.open_
  obtain ⟨a3, c3, a4, c4, rfl, g3, g4⟩ := hv2.open_
  obtain ⟨w0, e0, hF0, hB1, hB2, hs0⟩ := two_new w #[.slice a1 h1.length c1, .slice a2 b1.length c2] 37 #[.slice a3 h2.length c3, .slice a4 b2.length c4] 37
  obtain ⟨w1, e1, hF1, hB3, hs1⟩ := one_new w0 #[.slice none 0 0, .slice none 0 0] 37
  rw [hs0] at hB3
  have hF1d := hF1.drew; have hF01 := hF0.trans hF1d
  have HF := Lib.hid hF01; have HSS := Lib.hid (And.intro (hB1.keep hF1d) (hB2.keep hF1d)); have HR := Lib.hid (hB3.keep ((Fr.refl [] w1).drew))
  have G1 : Hid (Bytes w1.drew _ h1) := Lib.hid (Sl.keep g1 hF01); have G2 : Hid (Bytes w1.drew _ b1) := Lib.hid (Sl.keep g2 hF01); have G3 : Hid (Bytes w1.drew _ h2) := Lib.hid (Sl.keep g3 hF01); have G4 : Hid (Bytes w1.drew _ b2) := Lib.hid (Sl.keep g4 hF01)
  have E1 := Lib.hid e1; have E0 := Lib.hid e0
  have hsz : w1.drew.heap.size = w.heap.size + 3 := by show w1.heap.size = _; omega
  clear g1 g2 g3 g4 hF1 hF1d hB1 hB2 hB3 e1 e0 hv1 hv2 hs1 hs0 hF0 hF01
  go_enter Try.func57, Try.ntmps57
  go_upto_region 1 with (fail)
  rw [E0.out, E1.out]
  clear E1 E0
  refine wp_region_T (fun w' => Box w' w.heap.size 37 #[.slice a1 h1.length c1, .slice a2 b1.length c2] ∧ Box w' (w.heap.size + 1) 37 #[.slice a3 h2.length c3, .slice a4 b2.length c4]) [] 12 #[false, false, false, false, false, false, false, false, false, false, false, false] (by kernel_rfl) rfl rfl ?_
  generalize w1.drew = wd at *
  refine wpAnyT_load (i := 0) (v := ?_) rfl (by kernel_rfl) (by kernel_rfl) (by kernel_rfl) (by kernel_rfl) (by kernel_rfl) (fun _ _ _ h => h) HSS.out (by rfl) ?_ ?_
  rotate_left
  · intro w hSw; have y0 := hSw.1.cell 0; have y1 := hSw.1.cell 1; have z0 := hSw.2.cell 0; have z1 := hSw.2.cell 1; simp only [List.getElem?_toArray, List.getElem?_cons_succ, List.getElem?_cons_zero] at y0 y1 z0 z1; go_simp; try with_reducible rfl
  simp only [Act.put, List.getElem_toArray, List.getElem_cons_zero, List.getElem_cons_succ, List.setIfInBounds_toArray, List.set_cons_zero, List.set_cons_succ]
  refine wpAnyT_load (i := 1) (v := ?_) rfl (by kernel_rfl) (by kernel_rfl) (by kernel_rfl) (by kernel_rfl) (by kernel_rfl) (fun _ _ _ h => h) HSS.out (by rfl) ?_ ?_
  rotate_left
  · intro w hSw; have y0 := hSw.1.cell 0; have y1 := hSw.1.cell 1; have z0 := hSw.2.cell 0; have z1 := hSw.2.cell 1; simp only [List.getElem?_toArray, List.getElem?_cons_succ, List.getElem?_cons_zero] at y0 y1 z0 z1; go_simp; try with_reducible rfl
  simp only [Act.put, List.getElem_toArray, List.getElem_cons_zero, List.getElem_cons_succ, List.setIfInBounds_toArray, List.set_cons_zero, List.set_cons_succ]
  refine wpAnyT_load (i := 2) (v := ?_) rfl (by kernel_rfl) (by kernel_rfl) (by kernel_rfl) (by kernel_rfl) (by kernel_rfl) (fun _ _ _ h => h) HSS.out (by rfl) ?_ ?_
  rotate_left
  · intro w hSw; have y0 := hSw.1.cell 0; have y1 := hSw.1.cell 1; have z0 := hSw.2.cell 0; have z1 := hSw.2.cell 1; simp only [List.getElem?_toArray, List.getElem?_cons_succ, List.getElem?_cons_zero] at y0 y1 z0 z1; go_simp; try with_reducible rfl
  simp only [Act.put, List.getElem_toArray, List.getElem_cons_zero, List.getElem_cons_succ, List.setIfInBounds_toArray, List.set_cons_zero, List.set_cons_succ]
  refine wpAnyT_load (i := 3) (v := ?_) rfl (by kernel_rfl) (by kernel_rfl) (by kernel_rfl) (by kernel_rfl) (by kernel_rfl) (fun _ _ _ h => h) HSS.out (by rfl) ?_ ?_
  rotate_left
  · intro w hSw; have y0 := hSw.1.cell 0; have y1 := hSw.1.cell 1; have z0 := hSw.2.cell 0; have z1 := hSw.2.cell 1; simp only [List.getElem?_toArray, List.getElem?_cons_succ, List.getElem?_cons_zero] at y0 y1 z0 z1; go_simp; try with_reducible rfl
  simp only [Act.put, List.getElem_toArray, List.getElem_cons_zero, List.getElem_cons_succ, List.setIfInBounds_toArray, List.set_cons_zero, List.set_cons_succ]
  refine wpAnyT_load (i := 5) (v := ?_) rfl (by kernel_rfl) (by kernel_rfl) (by kernel_rfl) (by kernel_rfl) (by kernel_rfl) (fun _ _ _ h => h) HSS.out (by rfl) ?_ ?_
  rotate_left
  · intro w hSw; have y0 := hSw.1.cell 0; have y1 := hSw.1.cell 1; have z0 := hSw.2.cell 0; have z1 := hSw.2.cell 1; simp only [List.getElem?_toArray, List.getElem?_cons_succ, List.getElem?_cons_zero] at y0 y1 z0 z1; go_simp; try with_reducible rfl
  simp only [Act.put, List.getElem_toArray, List.getElem_cons_zero, List.getElem_cons_succ, List.setIfInBounds_toArray, List.set_cons_zero, List.set_cons_succ]
  refine wpAnyT_load (i := 6) (v := ?_) rfl (by kernel_rfl) (by kernel_rfl) (by kernel_rfl) (by kernel_rfl) (by kernel_rfl) (fun _ _ _ h => h) HSS.out (by rfl) ?_ ?_
  rotate_left
  · intro w hSw; have y0 := hSw.1.cell 0; have y1 := hSw.1.cell 1; have z0 := hSw.2.cell 0; have z1 := hSw.2.cell 1; simp only [List.getElem?_toArray, List.getElem?_cons_succ, List.getElem?_cons_zero] at y0 y1 z0 z1; go_simp; try with_reducible rfl
  simp only [Act.put, List.getElem_toArray, List.getElem_cons_zero, List.getElem_cons_succ, List.setIfInBounds_toArray, List.set_cons_zero, List.set_cons_succ]
  refine wpAnyT_load (i := 7) (v := ?_) rfl (by kernel_rfl) (by kernel_rfl) (by kernel_rfl) (by kernel_rfl) (by kernel_rfl) (fun _ _ _ h => h) HSS.out (by rfl) ?_ ?_
  rotate_left
  · intro w hSw; have y0 := hSw.1.cell 0; have y1 := hSw.1.cell 1; have z0 := hSw.2.cell 0; have z1 := hSw.2.cell 1; simp only [List.getElem?_toArray, List.getElem?_cons_succ, List.getElem?_cons_zero] at y0 y1 z0 z1; go_simp; try with_reducible rfl
  simp only [Act.put, List.getElem_toArray, List.getElem_cons_zero, List.getElem_cons_succ, List.setIfInBounds_toArray, List.set_cons_zero, List.set_cons_succ]
  refine wpAnyT_load (i := 8) (v := ?_) rfl (by kernel_rfl) (by kernel_rfl) (by kernel_rfl) (by kernel_rfl) (by kernel_rfl) (fun _ _ _ h => h) HSS.out (by rfl) ?_ ?_
  rotate_left
  · intro w hSw; have y0 := hSw.1.cell 0; have y1 := hSw.1.cell 1; have z0 := hSw.2.cell 0; have z1 := hSw.2.cell 1; simp only [List.getElem?_toArray, List.getElem?_cons_succ, List.getElem?_cons_zero] at y0 y1 z0 z1; go_simp; try with_reducible rfl
  simp only [Act.put, List.getElem_toArray, List.getElem_cons_zero, List.getElem_cons_succ, List.setIfInBounds_toArray, List.set_cons_zero, List.set_cons_succ]
  refine wpAnyT_one (i := 4) (by kernel_rfl) rfl (fun K hK => ?_)
  rw [if_pos (by rfl)]
  go_simp
  refine (r04Xor_any G1.out G3.out k1 k3).mono ?_
  rintro e w2 ⟨v2, rfl, hO, hF⟩
  have HO1 := Lib.hid hO
  clear hO
  have HSS := Lib.hid (And.intro (HSS.out.1.keep hF) (HSS.out.2.keep hF)); have HR := Lib.hid (HR.out.keep hF); have G2 := Lib.hid (Sl.keep G2.out hF); have G4 := Lib.hid (Sl.keep G4.out hF); have hsz2 := hF.size; have HF := Lib.hid (HF.out.trans hF)
  clear hF
  go_simp
  refine hK.out _ _ (fun _ => HSS.out) ?_
  clear hK K
  simp only [Act.put, List.getElem_toArray, List.getElem_cons_zero, List.getElem_cons_succ, List.setIfInBounds_toArray, List.set_cons_zero, List.set_cons_succ]
  refine wpAnyT_one (i := 9) (by kernel_rfl) rfl (fun K hK => ?_)
  rw [if_pos (by rfl)]
  go_simp
  refine (r04Xor_any G2.out G4.out k2 k4).mono ?_
  rintro e w3 ⟨v3, rfl, hO, hF⟩
  have HO2 := Lib.hid (hO.mono hsz2)
  clear hO
  have HSS := Lib.hid (And.intro (HSS.out.1.keep hF) (HSS.out.2.keep hF)); have HR := Lib.hid (HR.out.keep hF); have G2 := Lib.hid (Sl.keep G2.out hF); have G4 := Lib.hid (Sl.keep G4.out hF); have HO1 := Lib.hid (HO1.out.keep hF); have hsz2 := hF.size; have HF := Lib.hid (HF.out.trans hF)
  clear hF
  obtain ⟨aa, na, ca, rfl⟩ := HO1.out.isSlice
  obtain ⟨ab, nb, cb, rfl⟩ := HO2.out.isSlice
  go_simp
  refine hK.out _ _ (fun _ => HSS.out) ?_
  clear hK K
  simp only [Act.put, List.getElem_toArray, List.getElem_cons_zero, List.getElem_cons_succ, List.setIfInBounds_toArray, List.set_cons_zero, List.set_cons_succ]
  refine wpAnyT_load (i := 10) (v := ?_) rfl (by kernel_rfl) (by kernel_rfl) (by kernel_rfl) (by kernel_rfl) (by kernel_rfl) (fun _ _ _ h => h) HSS.out (by rfl) ?_ ?_
  rotate_left
  · intro w hSw; have y0 := hSw.1.cell 0; have y1 := hSw.1.cell 1; have z0 := hSw.2.cell 0; have z1 := hSw.2.cell 1; simp only [List.getElem?_toArray, List.getElem?_cons_succ, List.getElem?_cons_zero] at y0 y1 z0 z1; go_simp; try with_reducible rfl
  simp only [Act.put, List.getElem_toArray, List.getElem_cons_zero, List.getElem_cons_succ, List.setIfInBounds_toArray, List.set_cons_zero, List.set_cons_succ]
  refine wpAnyT_one (i := 11) (by kernel_rfl) rfl (fun K hK => ?_)
  refine wp_store_row rfl 37 (.tmp 4) (.tmp 15) rfl (w.heap.size + 2) rfl _ _ rfl 37 HR.out (by kernel_rfl) rfl (by simp [Value.oneCell']) ?_
  intro w4 hY hG
  have HSS := Lib.hid (And.intro (HSS.out.1.fr hG (by simp)) (HSS.out.2.fr hG (by simp)))
  refine hK.out _ _ (fun _ => HSS.out) ?_
  clear hK K
  simp only [Act.put, List.getElem_toArray, List.getElem_cons_zero, List.getElem_cons_succ, List.setIfInBounds_toArray, List.set_cons_zero, List.set_cons_succ]
  refine wpAnyT_done (by kernel_rfl) ?_ _
  go_wp2_with fail
  refine bodyPost_ret (results_cell_row rfl _ _ (w.heap.size + 2) 37 _ (0, 0) _ rfl hY Try.underlying37 rfl (by kernel_rfl)) rfl ⟨_, _, rfl, ?_, ?_, HF.out.step hG (by simp)⟩
  · exact (HO1.out.fr hG (fun k hk hm => by have := HO1.out.block k hk; simp at hm; omega)).mono (by omega)
  · exact (HO2.out.fr hG (fun k hk hm => by have := HO2.out.block k hk; simp at hm; omega)).mono (by omega)
theorem r12Add_any {w : World} {v1 v2 : Value} {h1 b1 h2 b2 : List UInt8} (hv1 : RBV w v1 h1 b1) (hv2 : RBV w v2 h2 b2) (k1 : h1.length ≤ 1099511627776) (k3 : h2.length ≤ 1099511627776) (k2 : b1.length ≤ 1099511627776) (k4 : b2.length ≤ 1099511627776) :
    Calls Try.prog 57 #[v1, v2] w fun e w' => ∃ v', e = .returned v' ∧ RBV w' v' (xb h1 h2) (xb b1 b2) ∧ Fr [] w w' :=
  (r12Add_own hv1 hv2 k1 k3 k2 k4).mono fun _ _ ⟨vh, vb, h1, h2, h3, h4⟩ => ⟨_, h1, ⟨vh, vb, rfl, h2.bytes, h3.bytes⟩, h4⟩
end Go.Proofs.Ytchbgiindfoepaa
