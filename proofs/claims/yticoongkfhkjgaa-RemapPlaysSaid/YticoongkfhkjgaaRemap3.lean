/- The walk of remap's Of (printed by gen_remap3.py). -/
import Derived.Test.YticoongkfhkjgaaRemap2
import Derived.Test.YticoongkfhkjgaaClone
namespace Go.Proofs.Yticoongkfhkjgaa
open Go.RowKit

theorem Box.mcells {w : World} {g : Nat} {t : TypeId} {m : RMap} (h : Box w g t (mc m)) :
    w.cell? ⟨g, 0, none⟩ = some (.int .u32 (m.ssrc.toNat : Nat)) ∧ w.cell? ⟨g, 1, none⟩ = some (.int .i64 m.pt) ∧ w.cell? ⟨g, 2, none⟩ = some (.int .u16 (m.next.toNat : Nat)) ∧ w.cell? ⟨g, 3, none⟩ = some (.int .u32 (m.last.toNat : Nat)) ∧ w.cell? ⟨g, 4, none⟩ = some (.int .i64 m.step) ∧
    w.cell? ⟨g, 5, none⟩ = some (.int .u32 (m.shift.toNat : Nat)) ∧ w.cell? ⟨g, 6, none⟩ = some (.bool m.opn) ∧ w.cell? ⟨g, 7, none⟩ = some (.int .i64 (m.segs : Nat)) ∧ w.cell? ⟨g, 8, none⟩ = some (.int .i64 (m.cnt : Nat)) :=
  ⟨h.cell 0, h.cell 1, h.cell 2, h.cell 3, h.cell 4, h.cell 5, h.cell 6, h.cell 7, h.cell 8⟩
theorem PktV.turn {w : World} {b : Nat} {cs ex pl pd : Value} {p : Pkt} (h : PktV w b (.agg (pc p.marker p.pt p.seq.toNat p.ts.toNat p.ssrc.toNat cs p.hasExt p.profile.toNat ex pl pd)) p) (sq : UInt16) (ts ss : UInt32) (pt : Int) :
    PktV w b (.agg (pc p.marker pt sq.toNat ts.toNat ss.toNat cs p.hasExt p.profile.toNat ex pl pd)) (p.turn sq ts ss pt) := by
  obtain ⟨cs', ex', pl', pd', e, h1, h2, h3, h4, h5⟩ := h
  unfold pc at e
  simp only [Value.agg.injEq, Array.mk.injEq, List.cons.injEq, and_true, true_and] at e
  obtain ⟨rfl, rfl, rfl, rfl⟩ := e
  exact ⟨cs, ex, pl, pd, rfl, h1, h2, h3, h4, h5⟩

set_option maxRecDepth 100000 in
set_option maxHeartbeats 4000000 in
theorem rmOf_any {w : World} {g : Nat} {m : RMap} {base : Nat} {v : Value} {p : Pkt} (hB : Box w g 132 (mc m)) (hm : m.Ok) (hgb : g < base) (hV : PktV w base v p) (hS : p.Small) :
    Calls Try.prog 89 #[.pointer (some ⟨g, 0, none⟩), v] w fun e w' => ∃ v', e = .returned v' ∧ PktV w' w.heap.size v' (m.out p) ∧ Box w' g 132 (mc (m.step_ p)) ∧ Fr [g] w w' := by
  have HGL := Lib.hid hB.lt
  have HV0 := Lib.hid hV
  obtain ⟨a1, c1, a2, c2, a3, c3, a4, c4, rfl, -, -, -, -⟩ := hV.open_
  obtain ⟨w2, e2, hF2, hB2, hD2, hs2⟩ := two_new w (pc p.marker p.pt p.seq.toNat p.ts.toNat p.ssrc.toNat (.slice a1 p.csrc.length c1) p.hasExt p.profile.toNat (.slice a2 p.ext.length c2) (.slice a3 p.payload.length c3) (.slice a4 p.pad.length c4)) 67 pz 67
  unfold pz at e2
  have E2 := Lib.hid e2
  have HF := Lib.hid (hF2.any (S := [g])); have HP := Lib.hid hB2; have HR := Lib.hid hD2; have HV := Lib.hid (HV0.out.keep hF2); have HM := Lib.hid (hB.keep hF2)
  have HS := Lib.hid hS; have HOK := Lib.hid hm
  have HZ : Hid (w.heap.size + 2 ≤ w2.heap.size) := Lib.hid (by omega)
  clear hV hS hF2 hB2 hD2 e2 hs2 HV0 hB hm
  go_enter Try.func89, Try.ntmps89
  go_upto_region 1 with (fail)
  rw [E2.out]
  clear E2
  generalize hHW : w.heap.size = W at *
  have HHW := Lib.hid hHW
  have hgW : g < W := HGL.out
  clear hHW HGL
  obtain ⟨x0, x1, x2, x3, x4, x5, x6, x7, x8⟩ := HM.out.mcells
  obtain ⟨y0, y1, y2, y3, y4, y5, y6, y7, y8, y9, y10⟩ := HP.out.pcells
  by_cases hop : m.opn = true
  · rw [hop] at x6
    have HRD : Hid (m = m.ready p.ts) := Lib.hid (by unfold RMap.ready; rw [if_pos hop])
    clear hop
    go_wp2_with fail
    clear x0 x1 x2 x3 x4 x5 x6 x7 x8 y0 y1 y2 y3 y4 y5 y6 y7 y8 y9 y10
    go_wp2_with (refine wpList_load_row rfl 67 (.tmp 3) rfl W rfl 67 _ _ _ HP.out Try.underlying67 rfl (by kernel_rfl) ?_)
    refine (ClonePk_any HV.out HS.out).mono ?_
    rintro e w3 ⟨qc, qe, ql, qd, rfl, hqc, hqe, hql, hqd, hF⟩
    have hz := HZ.out
    have HM := Lib.hid (HM.out.keep hF); have HP := Lib.hid (HP.out.keep hF); have HR := Lib.hid (HR.out.keep hF)
    have HF := Lib.hid (HF.out.quiet hF)
    have HOz : Hid (W + 2 ≤ w3.heap.size) := Lib.hid (Nat.le_trans hz hF.size)
    have HQV : Hid (PktV w3 (W + 2) (.agg (pc p.marker p.pt p.seq.toNat p.ts.toNat p.ssrc.toNat qc p.hasExt p.profile.toNat qe ql qd)) p) := Lib.hid ⟨qc, qe, ql, qd, rfl, hqc.words, hqe.bytes, hql.bytes, hqd.bytes, fun b hb => by
      rcases hb with hb | hb | hb | hb
      · have := (hqc.block b hb).1; omega
      · have := (hqe.block b hb).1; omega
      · have := (hql.block b hb).1; omega
      · have := (hqd.block b hb).1; omega⟩
    obtain ⟨b1, n1, f1, rfl⟩ := hqc.isSlice
    obtain ⟨b2, n2, f2, rfl⟩ := hqe.isSlice
    obtain ⟨b3, n3, f3, rfl⟩ := hql.isSlice
    obtain ⟨b4, n4, f4, rfl⟩ := hqd.isSlice
    clear hF hqc hqe hql hqd HV hz HZ
    go_wp2_with (refine wpList_store_row rfl 67 (.tmp 5) (.tmp 16) rfl w3.heap.size rfl _ _ rfl 67 (Box.new w3 67 #[.bool false, .int .i64 0, .int .u16 0, .int .u32 0, .int .u32 0, .slice none 0 0, .bool false, .int .u16 0, .slice none 0 0, .slice none 0 0, .slice none 0 0]) (by kernel_rfl) rfl (oneCell_pc _ _ _ _ _ _ _ _ _ _ _ ⟨_, _, _, rfl⟩ ⟨_, _, _, rfl⟩ ⟨_, _, _, rfl⟩ ⟨_, _, _, rfl⟩) ?_; intro w4 hY hG; have hFn := ((Fr.refl [] w3).alloc _).step hG (by simp); have HY := Lib.hid hY; have HFO := Lib.hid hFn; clear hG hY hFn)
    have hF := HFO.out
    have HM := Lib.hid (HM.out.keep hF); have HP := Lib.hid (HP.out.keep hF); have HR := Lib.hid (HR.out.keep hF)
    have HF := Lib.hid (HF.out.quiet hF)
    have hOz := HOz.out
    generalize hOO : w3.heap.size = O at *
    have HOO := Lib.hid hOO
    clear hOO hF HOz
    go_upto_region 4 with (fail)
    refine wp_region_T (fun w' => Box w' g 132 (mc m) ∧ Box w' W 67 (pc p.marker p.pt p.seq.toNat p.ts.toNat p.ssrc.toNat (.slice a1 p.csrc.length c1) p.hasExt p.profile.toNat (.slice a2 p.ext.length c2) (.slice a3 p.payload.length c3) (.slice a4 p.pad.length c4))) [] 27 #[false, false, false, false, false, false, false, false, false, false, false, false, false, false, false, false, false, false, false, false, false, false, false, false, false, false, false] (by kernel_rfl) rfl rfl ?_
    have hF := (Fr.refl [] w4).drew
    have HM := Lib.hid (HM.out.keep hF); have HP := Lib.hid (HP.out.keep hF); have HR := Lib.hid (HR.out.keep hF); have HY := Lib.hid (HY.out.keep hF)
    have HF := Lib.hid (HF.out.quiet hF); have HFO := Lib.hid (HFO.out.trans hF)
    have HSS := Lib.hid (And.intro HM.out HP.out)
    clear hF
    generalize w4.drew = wd4 at *
    refine wpAnyT_load (i := 0) (v := ?_) rfl (by kernel_rfl) (by kernel_rfl) (by kernel_rfl) (by kernel_rfl) (by kernel_rfl) (fun _ _ _ h => h) HSS.out (by rfl) ?_ ?_
    rotate_left
    · intro w hSw; obtain ⟨hSm, hSp⟩ := hSw; obtain ⟨x0, x1, x2, x3, x4, x5, x6, x7, x8⟩ := hSm.mcells; obtain ⟨y0, y1, y2, y3, y4, y5, y6, y7, y8, y9, y10⟩ := hSp.pcells; go_simp; try with_reducible rfl
    simp only [Act.put, List.getElem_toArray, List.getElem_cons_zero, List.getElem_cons_succ, List.setIfInBounds_toArray, List.set_cons_zero, List.set_cons_succ]
    refine wpAnyT_load (i := 1) (v := ?_) rfl (by kernel_rfl) (by kernel_rfl) (by kernel_rfl) (by kernel_rfl) (by kernel_rfl) (fun _ _ _ h => h) HSS.out (by rfl) ?_ ?_
    rotate_left
    · intro w hSw; obtain ⟨hSm, hSp⟩ := hSw; obtain ⟨x0, x1, x2, x3, x4, x5, x6, x7, x8⟩ := hSm.mcells; obtain ⟨y0, y1, y2, y3, y4, y5, y6, y7, y8, y9, y10⟩ := hSp.pcells; go_simp; try with_reducible rfl
    simp only [Act.put, List.getElem_toArray, List.getElem_cons_zero, List.getElem_cons_succ, List.setIfInBounds_toArray, List.set_cons_zero, List.set_cons_succ]
    refine wpAnyT_load (i := 2) (v := ?_) rfl (by kernel_rfl) (by kernel_rfl) (by kernel_rfl) (by kernel_rfl) (by kernel_rfl) (fun _ _ _ h => h) HSS.out (by rfl) ?_ ?_
    rotate_left
    · intro w hSw; obtain ⟨hSm, hSp⟩ := hSw; obtain ⟨x0, x1, x2, x3, x4, x5, x6, x7, x8⟩ := hSm.mcells; obtain ⟨y0, y1, y2, y3, y4, y5, y6, y7, y8, y9, y10⟩ := hSp.pcells; go_simp; try with_reducible rfl
    simp only [Act.put, List.getElem_toArray, List.getElem_cons_zero, List.getElem_cons_succ, List.setIfInBounds_toArray, List.set_cons_zero, List.set_cons_succ]
    refine wpAnyT_load (i := 3) (v := ?_) rfl (by kernel_rfl) (by kernel_rfl) (by kernel_rfl) (by kernel_rfl) (by kernel_rfl) (fun _ _ _ h => h) HSS.out (by rfl) ?_ ?_
    rotate_left
    · intro w hSw; obtain ⟨hSm, hSp⟩ := hSw; obtain ⟨x0, x1, x2, x3, x4, x5, x6, x7, x8⟩ := hSm.mcells; obtain ⟨y0, y1, y2, y3, y4, y5, y6, y7, y8, y9, y10⟩ := hSp.pcells; go_simp; try with_reducible rfl
    simp only [Act.put, List.getElem_toArray, List.getElem_cons_zero, List.getElem_cons_succ, List.setIfInBounds_toArray, List.set_cons_zero, List.set_cons_succ]
    refine wpAnyT_load (i := 4) (v := ?_) rfl (by kernel_rfl) (by kernel_rfl) (by kernel_rfl) (by kernel_rfl) (by kernel_rfl) (fun _ _ _ h => h) HSS.out (by rfl) ?_ ?_
    rotate_left
    · intro w hSw; obtain ⟨hSm, hSp⟩ := hSw; obtain ⟨x0, x1, x2, x3, x4, x5, x6, x7, x8⟩ := hSm.mcells; obtain ⟨y0, y1, y2, y3, y4, y5, y6, y7, y8, y9, y10⟩ := hSp.pcells; go_simp; try with_reducible rfl
    simp only [Act.put, List.getElem_toArray, List.getElem_cons_zero, List.getElem_cons_succ, List.setIfInBounds_toArray, List.set_cons_zero, List.set_cons_succ]
    refine wpAnyT_load (i := 5) (v := ?_) rfl (by kernel_rfl) (by kernel_rfl) (by kernel_rfl) (by kernel_rfl) (by kernel_rfl) (fun _ _ _ h => h) HSS.out (by rfl) ?_ ?_
    rotate_left
    · intro w hSw; obtain ⟨hSm, hSp⟩ := hSw; obtain ⟨x0, x1, x2, x3, x4, x5, x6, x7, x8⟩ := hSm.mcells; obtain ⟨y0, y1, y2, y3, y4, y5, y6, y7, y8, y9, y10⟩ := hSp.pcells; go_simp; try with_reducible rfl
    simp only [Act.put, List.getElem_toArray, List.getElem_cons_zero, List.getElem_cons_succ, List.setIfInBounds_toArray, List.set_cons_zero, List.set_cons_succ]
    refine wpAnyT_load (i := 6) (v := ?_) rfl (by kernel_rfl) (by kernel_rfl) (by kernel_rfl) (by kernel_rfl) (by kernel_rfl) (fun _ _ _ h => h) HSS.out (by rfl) ?_ ?_
    rotate_left
    · intro w hSw; obtain ⟨hSm, hSp⟩ := hSw; obtain ⟨x0, x1, x2, x3, x4, x5, x6, x7, x8⟩ := hSm.mcells; obtain ⟨y0, y1, y2, y3, y4, y5, y6, y7, y8, y9, y10⟩ := hSp.pcells; go_simp; try with_reducible rfl
    simp only [Act.put, List.getElem_toArray, List.getElem_cons_zero, List.getElem_cons_succ, List.setIfInBounds_toArray, List.set_cons_zero, List.set_cons_succ]
    refine wpAnyT_load (i := 7) (v := ?_) rfl (by kernel_rfl) (by kernel_rfl) (by kernel_rfl) (by kernel_rfl) (by kernel_rfl) (fun _ _ _ h => h) HSS.out (by rfl) ?_ ?_
    rotate_left
    · intro w hSw; obtain ⟨hSm, hSp⟩ := hSw; obtain ⟨x0, x1, x2, x3, x4, x5, x6, x7, x8⟩ := hSm.mcells; obtain ⟨y0, y1, y2, y3, y4, y5, y6, y7, y8, y9, y10⟩ := hSp.pcells; go_simp; try with_reducible rfl
    simp only [Act.put, List.getElem_toArray, List.getElem_cons_zero, List.getElem_cons_succ, List.setIfInBounds_toArray, List.set_cons_zero, List.set_cons_succ]
    refine wpAnyT_load (i := 8) (v := ?_) rfl (by kernel_rfl) (by kernel_rfl) (by kernel_rfl) (by kernel_rfl) (by kernel_rfl) (fun _ _ _ h => h) HSS.out (by rfl) ?_ ?_
    rotate_left
    · intro w hSw; obtain ⟨hSm, hSp⟩ := hSw; obtain ⟨x0, x1, x2, x3, x4, x5, x6, x7, x8⟩ := hSm.mcells; obtain ⟨y0, y1, y2, y3, y4, y5, y6, y7, y8, y9, y10⟩ := hSp.pcells; go_simp; try with_reducible rfl
    simp only [Act.put, List.getElem_toArray, List.getElem_cons_zero, List.getElem_cons_succ, List.setIfInBounds_toArray, List.set_cons_zero, List.set_cons_succ]
    refine wpAnyT_load (i := 9) (v := ?_) rfl (by kernel_rfl) (by kernel_rfl) (by kernel_rfl) (by kernel_rfl) (by kernel_rfl) (fun _ _ _ h => h) HSS.out (by rfl) ?_ ?_
    rotate_left
    · intro w hSw; obtain ⟨hSm, hSp⟩ := hSw; obtain ⟨x0, x1, x2, x3, x4, x5, x6, x7, x8⟩ := hSm.mcells; obtain ⟨y0, y1, y2, y3, y4, y5, y6, y7, y8, y9, y10⟩ := hSp.pcells; go_simp; try with_reducible rfl
    simp only [Act.put, List.getElem_toArray, List.getElem_cons_zero, List.getElem_cons_succ, List.setIfInBounds_toArray, List.set_cons_zero, List.set_cons_succ]
    refine wpAnyT_load (i := 10) (v := ?_) rfl (by kernel_rfl) (by kernel_rfl) (by kernel_rfl) (by kernel_rfl) (by kernel_rfl) (fun _ _ _ h => h) HSS.out (by rfl) ?_ ?_
    rotate_left
    · intro w hSw; obtain ⟨hSm, hSp⟩ := hSw; obtain ⟨x0, x1, x2, x3, x4, x5, x6, x7, x8⟩ := hSm.mcells; obtain ⟨y0, y1, y2, y3, y4, y5, y6, y7, y8, y9, y10⟩ := hSp.pcells; go_simp; try with_reducible rfl
    simp only [Act.put, List.getElem_toArray, List.getElem_cons_zero, List.getElem_cons_succ, List.setIfInBounds_toArray, List.set_cons_zero, List.set_cons_succ]
    refine wpAnyT_load (i := 11) (v := ?_) rfl (by kernel_rfl) (by kernel_rfl) (by kernel_rfl) (by kernel_rfl) (by kernel_rfl) (fun _ _ _ h => h) HSS.out (by rfl) ?_ ?_
    rotate_left
    · intro w hSw; obtain ⟨hSm, hSp⟩ := hSw; obtain ⟨x0, x1, x2, x3, x4, x5, x6, x7, x8⟩ := hSm.mcells; obtain ⟨y0, y1, y2, y3, y4, y5, y6, y7, y8, y9, y10⟩ := hSp.pcells; go_simp; try with_reducible rfl
    simp only [Act.put, List.getElem_toArray, List.getElem_cons_zero, List.getElem_cons_succ, List.setIfInBounds_toArray, List.set_cons_zero, List.set_cons_succ]
    refine wpAnyT_load (i := 12) (v := ?_) rfl (by kernel_rfl) (by kernel_rfl) (by kernel_rfl) (by kernel_rfl) (by kernel_rfl) (fun _ _ _ h => h) HSS.out (by rfl) ?_ ?_
    rotate_left
    · intro w hSw; obtain ⟨hSm, hSp⟩ := hSw; obtain ⟨x0, x1, x2, x3, x4, x5, x6, x7, x8⟩ := hSm.mcells; obtain ⟨y0, y1, y2, y3, y4, y5, y6, y7, y8, y9, y10⟩ := hSp.pcells; go_simp; try with_reducible rfl
    simp only [Act.put, List.getElem_toArray, List.getElem_cons_zero, List.getElem_cons_succ, List.setIfInBounds_toArray, List.set_cons_zero, List.set_cons_succ]
    refine wpAnyT_load (i := 13) (v := ?_) rfl (by kernel_rfl) (by kernel_rfl) (by kernel_rfl) (by kernel_rfl) (by kernel_rfl) (fun _ _ _ h => h) HSS.out (by rfl) ?_ ?_
    rotate_left
    · intro w hSw; obtain ⟨hSm, hSp⟩ := hSw; obtain ⟨x0, x1, x2, x3, x4, x5, x6, x7, x8⟩ := hSm.mcells; obtain ⟨y0, y1, y2, y3, y4, y5, y6, y7, y8, y9, y10⟩ := hSp.pcells; go_simp; try with_reducible rfl
    simp only [Act.put, List.getElem_toArray, List.getElem_cons_zero, List.getElem_cons_succ, List.setIfInBounds_toArray, List.set_cons_zero, List.set_cons_succ]
    refine wpAnyT_load (i := 14) (v := ?_) rfl (by kernel_rfl) (by kernel_rfl) (by kernel_rfl) (by kernel_rfl) (by kernel_rfl) (fun _ _ _ h => h) HSS.out (by rfl) ?_ ?_
    rotate_left
    · intro w hSw; obtain ⟨hSm, hSp⟩ := hSw; obtain ⟨x0, x1, x2, x3, x4, x5, x6, x7, x8⟩ := hSm.mcells; obtain ⟨y0, y1, y2, y3, y4, y5, y6, y7, y8, y9, y10⟩ := hSp.pcells; go_simp; try with_reducible rfl
    simp only [Act.put, List.getElem_toArray, List.getElem_cons_zero, List.getElem_cons_succ, List.setIfInBounds_toArray, List.set_cons_zero, List.set_cons_succ]
    refine wpAnyT_load (i := 15) (v := ?_) rfl (by kernel_rfl) (by kernel_rfl) (by kernel_rfl) (by kernel_rfl) (by kernel_rfl) (fun _ _ _ h => h) HSS.out (by rfl) ?_ ?_
    rotate_left
    · intro w hSw; obtain ⟨hSm, hSp⟩ := hSw; obtain ⟨x0, x1, x2, x3, x4, x5, x6, x7, x8⟩ := hSm.mcells; obtain ⟨y0, y1, y2, y3, y4, y5, y6, y7, y8, y9, y10⟩ := hSp.pcells; go_simp; try with_reducible rfl
    simp only [Act.put, List.getElem_toArray, List.getElem_cons_zero, List.getElem_cons_succ, List.setIfInBounds_toArray, List.set_cons_zero, List.set_cons_succ]
    refine wpAnyT_load (i := 16) (v := ?_) rfl (by kernel_rfl) (by kernel_rfl) (by kernel_rfl) (by kernel_rfl) (by kernel_rfl) (fun _ _ _ h => h) HSS.out (by rfl) ?_ ?_
    rotate_left
    · intro w hSw; obtain ⟨hSm, hSp⟩ := hSw; obtain ⟨x0, x1, x2, x3, x4, x5, x6, x7, x8⟩ := hSm.mcells; obtain ⟨y0, y1, y2, y3, y4, y5, y6, y7, y8, y9, y10⟩ := hSp.pcells; go_simp; try with_reducible rfl
    simp only [Act.put, List.getElem_toArray, List.getElem_cons_zero, List.getElem_cons_succ, List.setIfInBounds_toArray, List.set_cons_zero, List.set_cons_succ]
    refine wpAnyT_load (i := 17) (v := ?_) rfl (by kernel_rfl) (by kernel_rfl) (by kernel_rfl) (by kernel_rfl) (by kernel_rfl) (fun _ _ _ h => h) HSS.out (by rfl) ?_ ?_
    rotate_left
    · intro w hSw; obtain ⟨hSm, hSp⟩ := hSw; obtain ⟨x0, x1, x2, x3, x4, x5, x6, x7, x8⟩ := hSm.mcells; obtain ⟨y0, y1, y2, y3, y4, y5, y6, y7, y8, y9, y10⟩ := hSp.pcells; go_simp; try with_reducible rfl
    simp only [Act.put, List.getElem_toArray, List.getElem_cons_zero, List.getElem_cons_succ, List.setIfInBounds_toArray, List.set_cons_zero, List.set_cons_succ]
    refine wpAnyT_load (i := 18) (v := ?_) rfl (by kernel_rfl) (by kernel_rfl) (by kernel_rfl) (by kernel_rfl) (by kernel_rfl) (fun _ _ _ h => h) HSS.out (by rfl) ?_ ?_
    rotate_left
    · intro w hSw; obtain ⟨hSm, hSp⟩ := hSw; obtain ⟨x0, x1, x2, x3, x4, x5, x6, x7, x8⟩ := hSm.mcells; obtain ⟨y0, y1, y2, y3, y4, y5, y6, y7, y8, y9, y10⟩ := hSp.pcells; go_simp; try with_reducible rfl
    simp only [Act.put, List.getElem_toArray, List.getElem_cons_zero, List.getElem_cons_succ, List.setIfInBounds_toArray, List.set_cons_zero, List.set_cons_succ]
    refine wpAnyT_load (i := 19) (v := ?_) rfl (by kernel_rfl) (by kernel_rfl) (by kernel_rfl) (by kernel_rfl) (by kernel_rfl) (fun _ _ _ h => h) HSS.out (by rfl) ?_ ?_
    rotate_left
    · intro w hSw; obtain ⟨hSm, hSp⟩ := hSw; obtain ⟨x0, x1, x2, x3, x4, x5, x6, x7, x8⟩ := hSm.mcells; obtain ⟨y0, y1, y2, y3, y4, y5, y6, y7, y8, y9, y10⟩ := hSp.pcells; go_simp; try with_reducible rfl
    simp only [Act.put, List.getElem_toArray, List.getElem_cons_zero, List.getElem_cons_succ, List.setIfInBounds_toArray, List.set_cons_zero, List.set_cons_succ]
    have hFr := HY.out.free 4; have hCl := HY.out.cell 4
    simp only [pc, List.getElem?_toArray, List.getElem?_cons_succ, List.getElem?_cons_zero] at hCl
    obtain ⟨w5, e5, hF, hYn, -⟩ := set_new HY.out 4 (.int .u32 (m.ssrc.toNat : Nat))
    simp only [pc, List.setIfInBounds_toArray, List.set_cons_zero, List.set_cons_succ] at hYn
    have HMn := Lib.hid (HM.out.fr hF (by simp; omega)); have HPn := Lib.hid (HP.out.fr hF (by simp; omega))
    refine wpAnyT_one (i := 20) (by kernel_rfl) rfl (fun K hK => ?_)
    rw [if_pos (by rfl)]
    go_simp
    refine hK.out _ _ (fun _ => ⟨HMn.out, HPn.out⟩) ?_
    clear hK K
    simp only [Act.put, List.getElem_toArray, List.getElem_cons_zero, List.getElem_cons_succ, List.setIfInBounds_toArray, List.set_cons_zero, List.set_cons_succ]
    have HR := Lib.hid (HR.out.fr hF (by simp; omega))
    have HFO := Lib.hid (HFO.out.step hF (fun x hx => by have := HOO.out; simp at hx; subst hx; exact .inr (by omega)))
    have HF := Lib.hid (HF.out.step hF (fun x hx => by simp at hx; subst hx; exact .inr (by have := HHW.out; omega)))
    have HY := Lib.hid hYn; have HM := HMn; have HP := HPn
    have HSS := Lib.hid (And.intro HM.out HP.out)
    clear HMn HPn hYn hF hFr hCl e5
    refine wpAnyT_load (i := 21) (v := ?_) rfl (by kernel_rfl) (by kernel_rfl) (by kernel_rfl) (by kernel_rfl) (by kernel_rfl) (fun _ _ _ h => h) HSS.out (by rfl) ?_ ?_
    rotate_left
    · intro w hSw; obtain ⟨hSm, hSp⟩ := hSw; obtain ⟨x0, x1, x2, x3, x4, x5, x6, x7, x8⟩ := hSm.mcells; obtain ⟨y0, y1, y2, y3, y4, y5, y6, y7, y8, y9, y10⟩ := hSp.pcells; go_simp; try with_reducible rfl
    simp only [Act.put, List.getElem_toArray, List.getElem_cons_zero, List.getElem_cons_succ, List.setIfInBounds_toArray, List.set_cons_zero, List.set_cons_succ]
    have hFr := HY.out.free 1; have hCl := HY.out.cell 1
    simp only [pc, List.getElem?_toArray, List.getElem?_cons_succ, List.getElem?_cons_zero] at hCl
    obtain ⟨w6, e6, hF, hYn, -⟩ := set_new HY.out 1 (.int .i64 m.pt)
    simp only [pc, List.setIfInBounds_toArray, List.set_cons_zero, List.set_cons_succ] at hYn
    have HMn := Lib.hid (HM.out.fr hF (by simp; omega)); have HPn := Lib.hid (HP.out.fr hF (by simp; omega))
    refine wpAnyT_one (i := 22) (by kernel_rfl) rfl (fun K hK => ?_)
    rw [if_pos (by rfl)]
    go_simp
    refine hK.out _ _ (fun _ => ⟨HMn.out, HPn.out⟩) ?_
    clear hK K
    simp only [Act.put, List.getElem_toArray, List.getElem_cons_zero, List.getElem_cons_succ, List.setIfInBounds_toArray, List.set_cons_zero, List.set_cons_succ]
    have HR := Lib.hid (HR.out.fr hF (by simp; omega))
    have HFO := Lib.hid (HFO.out.step hF (fun x hx => by have := HOO.out; simp at hx; subst hx; exact .inr (by omega)))
    have HF := Lib.hid (HF.out.step hF (fun x hx => by simp at hx; subst hx; exact .inr (by have := HHW.out; omega)))
    have HY := Lib.hid hYn; have HM := HMn; have HP := HPn
    have HSS := Lib.hid (And.intro HM.out HP.out)
    clear HMn HPn hYn hF hFr hCl e6
    refine wpAnyT_load (i := 23) (v := ?_) rfl (by kernel_rfl) (by kernel_rfl) (by kernel_rfl) (by kernel_rfl) (by kernel_rfl) (fun _ _ _ h => h) HSS.out (by rfl) ?_ ?_
    rotate_left
    · intro w hSw; obtain ⟨hSm, hSp⟩ := hSw; obtain ⟨x0, x1, x2, x3, x4, x5, x6, x7, x8⟩ := hSm.mcells; obtain ⟨y0, y1, y2, y3, y4, y5, y6, y7, y8, y9, y10⟩ := hSp.pcells; go_simp; try with_reducible rfl
    simp only [Act.put, List.getElem_toArray, List.getElem_cons_zero, List.getElem_cons_succ, List.setIfInBounds_toArray, List.set_cons_zero, List.set_cons_succ]
    have hFr := HY.out.free 2; have hCl := HY.out.cell 2
    simp only [pc, List.getElem?_toArray, List.getElem?_cons_succ, List.getElem?_cons_zero] at hCl
    obtain ⟨w7, e7, hF, hYn, -⟩ := set_new HY.out 2 (.int .u16 (m.next.toNat : Nat))
    simp only [pc, List.setIfInBounds_toArray, List.set_cons_zero, List.set_cons_succ] at hYn
    have HMn := Lib.hid (HM.out.fr hF (by simp; omega)); have HPn := Lib.hid (HP.out.fr hF (by simp; omega))
    refine wpAnyT_one (i := 24) (by kernel_rfl) rfl (fun K hK => ?_)
    rw [if_pos (by rfl)]
    go_simp
    refine hK.out _ _ (fun _ => ⟨HMn.out, HPn.out⟩) ?_
    clear hK K
    simp only [Act.put, List.getElem_toArray, List.getElem_cons_zero, List.getElem_cons_succ, List.setIfInBounds_toArray, List.set_cons_zero, List.set_cons_succ]
    have HR := Lib.hid (HR.out.fr hF (by simp; omega))
    have HFO := Lib.hid (HFO.out.step hF (fun x hx => by have := HOO.out; simp at hx; subst hx; exact .inr (by omega)))
    have HF := Lib.hid (HF.out.step hF (fun x hx => by simp at hx; subst hx; exact .inr (by have := HHW.out; omega)))
    have HY := Lib.hid hYn; have HM := HMn; have HP := HPn
    have HSS := Lib.hid (And.intro HM.out HP.out)
    clear HMn HPn hYn hF hFr hCl e7
    refine wpAnyT_load (i := 25) (v := ?_) rfl (by kernel_rfl) (by kernel_rfl) (by kernel_rfl) (by kernel_rfl) (by kernel_rfl) (fun _ _ _ h => h) HSS.out (by rfl) ?_ ?_
    rotate_left
    · intro w hSw; obtain ⟨hSm, hSp⟩ := hSw; obtain ⟨x0, x1, x2, x3, x4, x5, x6, x7, x8⟩ := hSm.mcells; obtain ⟨y0, y1, y2, y3, y4, y5, y6, y7, y8, y9, y10⟩ := hSp.pcells; go_simp; try with_reducible rfl
    simp only [Act.put, List.getElem_toArray, List.getElem_cons_zero, List.getElem_cons_succ, List.setIfInBounds_toArray, List.set_cons_zero, List.set_cons_succ]
    have hFr := HY.out.free 3; have hCl := HY.out.cell 3
    simp only [pc, List.getElem?_toArray, List.getElem?_cons_succ, List.getElem?_cons_zero] at hCl
    obtain ⟨w8, e8, hF, hYn, -⟩ := set_new HY.out 3 (.int .u32 ((sum32 p.ts m.shift).toNat : Nat))
    simp only [pc, List.setIfInBounds_toArray, List.set_cons_zero, List.set_cons_succ] at hYn
    have HMn := Lib.hid (HM.out.fr hF (by simp; omega)); have HPn := Lib.hid (HP.out.fr hF (by simp; omega))
    refine wpAnyT_one (i := 26) (by kernel_rfl) rfl (fun K hK => ?_)
    rw [if_pos (by rfl)]
    go_simp
    rw [show IntKind.u32.wrap ((p.ts.toNat : Int) + (m.shift.toNat : Int)) = ((sum32 p.ts m.shift).toNat : Nat) from by unfold sum32; rw [wrap_u32_mod, u32_add_nat]]
    rw [e8]
    refine hK.out _ _ (fun _ => ⟨HMn.out, HPn.out⟩) ?_
    clear hK K
    simp only [Act.put, List.getElem_toArray, List.getElem_cons_zero, List.getElem_cons_succ, List.setIfInBounds_toArray, List.set_cons_zero, List.set_cons_succ]
    have HR := Lib.hid (HR.out.fr hF (by simp; omega))
    have HFO := Lib.hid (HFO.out.step hF (fun x hx => by have := HOO.out; simp at hx; subst hx; exact .inr (by omega)))
    have HF := Lib.hid (HF.out.step hF (fun x hx => by simp at hx; subst hx; exact .inr (by have := HHW.out; omega)))
    have HY := Lib.hid hYn; have HM := HMn; have HP := HPn
    have HSS := Lib.hid (And.intro HM.out HP.out)
    clear HMn HPn hYn hF hFr hCl e8
    refine wpAnyT_done (by kernel_rfl) ?_ _
    clear HSS
    go_upto_region 5 with (fail)
    refine wp_region_T (fun w' => Box w' O 67 (pc p.marker m.pt m.next.toNat (sum32 p.ts m.shift).toNat m.ssrc.toNat (.slice b1 n1 f1) p.hasExt p.profile.toNat (.slice b2 n2 f2) (.slice b3 n3 f3) (.slice b4 n4 f4))) [] 15 #[false, false, false, false, false, false, false, false, false, false, false, false, false, false, false] (by kernel_rfl) rfl rfl ?_
    have hF := (Fr.refl [] w8).drew
    have HQV := Lib.hid (HQV.out.keep HFO.out)
    have HM := Lib.hid (HM.out.keep hF); have HR := Lib.hid (HR.out.keep hF); have HY := Lib.hid (HY.out.keep hF); have HQV := Lib.hid (HQV.out.keep hF)
    have HF := Lib.hid (HF.out.quiet hF)
    clear hF HP HFO
    generalize w8.drew = wd8 at *
    refine wpAnyT_load (i := 0) (v := ?_) rfl (by kernel_rfl) (by kernel_rfl) (by kernel_rfl) (by kernel_rfl) (by kernel_rfl) (fun _ _ _ h => h) HY.out (by rfl) ?_ ?_
    rotate_left
    · intro w hSw; obtain ⟨y0, y1, y2, y3, y4, y5, y6, y7, y8, y9, y10⟩ := hSw.pcells; go_simp; try with_reducible rfl
    simp only [Act.put, List.getElem_toArray, List.getElem_cons_zero, List.getElem_cons_succ, List.setIfInBounds_toArray, List.set_cons_zero, List.set_cons_succ]
    refine wpAnyT_load (i := 1) (v := ?_) rfl (by kernel_rfl) (by kernel_rfl) (by kernel_rfl) (by kernel_rfl) (by kernel_rfl) (fun _ _ _ h => h) HY.out (by rfl) ?_ ?_
    rotate_left
    · intro w hSw; obtain ⟨y0, y1, y2, y3, y4, y5, y6, y7, y8, y9, y10⟩ := hSw.pcells; go_simp; try with_reducible rfl
    simp only [Act.put, List.getElem_toArray, List.getElem_cons_zero, List.getElem_cons_succ, List.setIfInBounds_toArray, List.set_cons_zero, List.set_cons_succ]
    refine wpAnyT_load (i := 2) (v := ?_) rfl (by kernel_rfl) (by kernel_rfl) (by kernel_rfl) (by kernel_rfl) (by kernel_rfl) (fun _ _ _ h => h) HY.out (by rfl) ?_ ?_
    rotate_left
    · intro w hSw; obtain ⟨y0, y1, y2, y3, y4, y5, y6, y7, y8, y9, y10⟩ := hSw.pcells; go_simp; try with_reducible rfl
    simp only [Act.put, List.getElem_toArray, List.getElem_cons_zero, List.getElem_cons_succ, List.setIfInBounds_toArray, List.set_cons_zero, List.set_cons_succ]
    refine wpAnyT_load (i := 3) (v := ?_) rfl (by kernel_rfl) (by kernel_rfl) (by kernel_rfl) (by kernel_rfl) (by kernel_rfl) (fun _ _ _ h => h) HY.out (by rfl) ?_ ?_
    rotate_left
    · intro w hSw; obtain ⟨y0, y1, y2, y3, y4, y5, y6, y7, y8, y9, y10⟩ := hSw.pcells; go_simp; try with_reducible rfl
    simp only [Act.put, List.getElem_toArray, List.getElem_cons_zero, List.getElem_cons_succ, List.setIfInBounds_toArray, List.set_cons_zero, List.set_cons_succ]
    refine wpAnyT_load (i := 4) (v := ?_) rfl (by kernel_rfl) (by kernel_rfl) (by kernel_rfl) (by kernel_rfl) (by kernel_rfl) (fun _ _ _ h => h) HY.out (by rfl) ?_ ?_
    rotate_left
    · intro w hSw; obtain ⟨y0, y1, y2, y3, y4, y5, y6, y7, y8, y9, y10⟩ := hSw.pcells; go_simp; try with_reducible rfl
    simp only [Act.put, List.getElem_toArray, List.getElem_cons_zero, List.getElem_cons_succ, List.setIfInBounds_toArray, List.set_cons_zero, List.set_cons_succ]
    refine wpAnyT_load (i := 7) (v := ?_) rfl (by kernel_rfl) (by kernel_rfl) (by kernel_rfl) (by kernel_rfl) (by kernel_rfl) (fun _ _ _ h => h) HY.out (by rfl) ?_ ?_
    rotate_left
    · intro w hSw; obtain ⟨y0, y1, y2, y3, y4, y5, y6, y7, y8, y9, y10⟩ := hSw.pcells; go_simp; try with_reducible rfl
    simp only [Act.put, List.getElem_toArray, List.getElem_cons_zero, List.getElem_cons_succ, List.setIfInBounds_toArray, List.set_cons_zero, List.set_cons_succ]
    refine wpAnyT_load (i := 8) (v := ?_) rfl (by kernel_rfl) (by kernel_rfl) (by kernel_rfl) (by kernel_rfl) (by kernel_rfl) (fun _ _ _ h => h) HY.out (by rfl) ?_ ?_
    rotate_left
    · intro w hSw; obtain ⟨y0, y1, y2, y3, y4, y5, y6, y7, y8, y9, y10⟩ := hSw.pcells; go_simp; try with_reducible rfl
    simp only [Act.put, List.getElem_toArray, List.getElem_cons_zero, List.getElem_cons_succ, List.setIfInBounds_toArray, List.set_cons_zero, List.set_cons_succ]
    refine wpAnyT_one (i := 5) (by kernel_rfl) rfl (fun K hK => ?_)
    rw [if_pos (by rfl)]
    obtain ⟨x0, x1, x2, x3, x4, x5, x6, x7, x8⟩ := HM.out.mcells
    go_simp
    clear x0 x1 x2 x3 x4 x5 x6 x7 x8
    refine hK.out _ _ (fun _ => HY.out) ?_
    clear hK K
    simp only [Act.put, List.getElem_toArray, List.getElem_cons_zero, List.getElem_cons_succ, List.setIfInBounds_toArray, List.set_cons_zero, List.set_cons_succ]
    refine wpAnyT_one (i := 6) (by kernel_rfl) rfl (fun K hK => ?_)
    rw [if_pos (by rfl)]
    go_simp
    go_at_call 112
    refine (serAdd_any _ _ _).mono ?_
    rintro e w9 ⟨rfl, rfl⟩
    go_simp
    refine hK.out _ _ (fun _ => HY.out) ?_
    clear hK K
    simp only [Act.put, List.getElem_toArray, List.getElem_cons_zero, List.getElem_cons_succ, List.setIfInBounds_toArray, List.set_cons_zero, List.set_cons_succ]
    refine wpAnyT_load (i := 9) (v := ?_) rfl (by kernel_rfl) (by kernel_rfl) (by kernel_rfl) (by kernel_rfl) (by kernel_rfl) (fun _ _ _ h => h) HY.out (by rfl) ?_ ?_
    rotate_left
    · intro w hSw; obtain ⟨y0, y1, y2, y3, y4, y5, y6, y7, y8, y9, y10⟩ := hSw.pcells; go_simp; try with_reducible rfl
    simp only [Act.put, List.getElem_toArray, List.getElem_cons_zero, List.getElem_cons_succ, List.setIfInBounds_toArray, List.set_cons_zero, List.set_cons_succ]
    refine wpAnyT_load (i := 10) (v := ?_) rfl (by kernel_rfl) (by kernel_rfl) (by kernel_rfl) (by kernel_rfl) (by kernel_rfl) (fun _ _ _ h => h) HY.out (by rfl) ?_ ?_
    rotate_left
    · intro w hSw; obtain ⟨y0, y1, y2, y3, y4, y5, y6, y7, y8, y9, y10⟩ := hSw.pcells; go_simp; try with_reducible rfl
    simp only [Act.put, List.getElem_toArray, List.getElem_cons_zero, List.getElem_cons_succ, List.setIfInBounds_toArray, List.set_cons_zero, List.set_cons_succ]
    have hFr := HM.out.free 2; have hCl := HM.out.cell 2
    simp only [mc, List.getElem?_toArray, List.getElem?_cons_succ, List.getElem?_cons_zero, List.setIfInBounds_toArray, List.set_cons_zero, List.set_cons_succ] at hCl
    obtain ⟨w9, e9, hF, hMn, -⟩ := set_new HM.out 2 (.int .u16 ((add16 m.next 1).toNat : Nat))
    have HYn := Lib.hid (HY.out.fr hF (by simp; omega))
    refine wpAnyT_one (i := 11) (by kernel_rfl) rfl (fun K hK => ?_)
    rw [if_pos (by rfl)]
    go_simp
    refine hK.out _ _ (fun _ => HYn.out) ?_
    clear hK K
    simp only [Act.put, List.getElem_toArray, List.getElem_cons_zero, List.getElem_cons_succ, List.setIfInBounds_toArray, List.set_cons_zero, List.set_cons_succ]
    have HR := Lib.hid (HR.out.fr hF (by simp; omega))
    have HQV := Lib.hid (HQV.out.fr hF (by simp; omega))
    have HF := Lib.hid (HF.out.trans hF)
    have HM := Lib.hid hMn; have HY := HYn
    clear HYn hMn hF hFr hCl e9
    refine wpAnyT_load (i := 12) (v := ?_) rfl (by kernel_rfl) (by kernel_rfl) (by kernel_rfl) (by kernel_rfl) (by kernel_rfl) (fun _ _ _ h => h) HY.out (by rfl) ?_ ?_
    rotate_left
    · intro w hSw; obtain ⟨y0, y1, y2, y3, y4, y5, y6, y7, y8, y9, y10⟩ := hSw.pcells; go_simp; try with_reducible rfl
    simp only [Act.put, List.getElem_toArray, List.getElem_cons_zero, List.getElem_cons_succ, List.setIfInBounds_toArray, List.set_cons_zero, List.set_cons_succ]
    refine wpAnyT_load (i := 13) (v := ?_) rfl (by kernel_rfl) (by kernel_rfl) (by kernel_rfl) (by kernel_rfl) (by kernel_rfl) (fun _ _ _ h => h) HY.out (by rfl) ?_ ?_
    rotate_left
    · intro w hSw; obtain ⟨y0, y1, y2, y3, y4, y5, y6, y7, y8, y9, y10⟩ := hSw.pcells; go_simp; try with_reducible rfl
    simp only [Act.put, List.getElem_toArray, List.getElem_cons_zero, List.getElem_cons_succ, List.setIfInBounds_toArray, List.set_cons_zero, List.set_cons_succ]
    have hFr := HM.out.free 3; have hCl := HM.out.cell 3
    simp only [mc, List.getElem?_toArray, List.getElem?_cons_succ, List.getElem?_cons_zero, List.setIfInBounds_toArray, List.set_cons_zero, List.set_cons_succ] at hCl
    obtain ⟨w10, e10, hF, hMn, -⟩ := set_new HM.out 3 (.int .u32 ((sum32 p.ts m.shift).toNat : Nat))
    have HYn := Lib.hid (HY.out.fr hF (by simp; omega))
    refine wpAnyT_one (i := 14) (by kernel_rfl) rfl (fun K hK => ?_)
    rw [if_pos (by rfl)]
    go_simp
    refine hK.out _ _ (fun _ => HYn.out) ?_
    clear hK K
    simp only [Act.put, List.getElem_toArray, List.getElem_cons_zero, List.getElem_cons_succ, List.setIfInBounds_toArray, List.set_cons_zero, List.set_cons_succ]
    have HR := Lib.hid (HR.out.fr hF (by simp; omega))
    have HQV := Lib.hid (HQV.out.fr hF (by simp; omega))
    have HF := Lib.hid (HF.out.trans hF)
    have HM := Lib.hid hMn; have HY := HYn
    clear HYn hMn hF hFr hCl e10
    refine wpAnyT_done (by kernel_rfl) ?_ _
    have hct := HOK.out.ct
    have hct2 : m.cnt = m.cnt := by have h := (m.ready_same p.ts).2.2.2.1; rw [← HRD.out] at h; first | done | exact h
    have hct3 : m.cnt ≤ 1099511627776 := by omega
    clear hct hct2
    have hFr := HM.out.free 8; have hCl := HM.out.cell 8
    simp only [mc, List.getElem?_toArray, List.getElem?_cons_succ, List.getElem?_cons_zero, List.setIfInBounds_toArray, List.set_cons_zero, List.set_cons_succ] at hCl
    obtain ⟨w11, e11, hF, hMn, -⟩ := set_new HM.out 8 (.int .i64 (m.cnt + 1 : Int))
    simp only [mc, List.setIfInBounds_toArray, List.set_cons_zero, List.set_cons_succ] at hMn
    have HF := Lib.hid (HF.out.trans hF)
    have HMn := Lib.hid hMn
    have HR := Lib.hid (HR.out.fr hF (by simp; omega)); have HY := Lib.hid (HY.out.fr hF (by simp; omega)); have HQV := Lib.hid (HQV.out.fr hF (by simp; omega))
    clear hF hMn
    go_upto_region 7 with (fail)
    clear hFr hCl e11 HM
    go_wp2_with (first | (refine wpList_load_row rfl 67 (.tmp 5) rfl O rfl 67 _ _ _ HY.out Try.underlying67 rfl (by kernel_rfl) ?_) | (refine wpList_store_row rfl 67 (.tmp 4) (.tmp 60) rfl (W + 1) rfl _ _ rfl 67 (HR.out) (by kernel_rfl) rfl (oneCell_pc _ _ _ _ _ _ _ _ _ _ _ ⟨_, _, _, rfl⟩ ⟨_, _, _, rfl⟩ ⟨_, _, _, rfl⟩ ⟨_, _, _, rfl⟩) ?_; intro w12 hY hG; have HW := Lib.hid hY; have HG := Lib.hid hG; clear hY hG))
    have hGG : Fr [W + 1] w11 w12 := HG.out
    refine bodyPost_ret (results_cell_row rfl _ _ (W + 1) 67 _ (0, 0) _ rfl HW.out Try.underlying67 rfl (by kernel_rfl)) rfl ⟨_, rfl, ?_, ?_, HF.out.step hGG (fun x hx => by have := HHW.out; simp at hx; subst hx; exact .inr (by omega))⟩
    · have h1 := ((HQV.out.fr hGG (by simp)).turn m.next (sum32 p.ts m.shift) m.ssrc m.pt)
      have h2 := m.ready_same p.ts
      rw [← HRD.out] at h2
      rw [RMap.out_turn, ← HRD.out]
      rw [h2.1, h2.2.1, h2.2.2.1] at h1
      rw [h2.1, h2.2.1, h2.2.2.1]
      exact h1.mono (by have := HHW.out; omega)
    · have h1 := HMn.out.fr hGG (by simp; omega)
      have h2 := m.ready_same p.ts
      have e1 : (m.out p).ts = sum32 p.ts m.shift := by show sum32 p.ts (m.ready p.ts).shift = _; rw [← HRD.out]
      rw [← HRD.out] at h2
      refine Box.eq h1 ?_
      show _ = mc { (m.ready p.ts) with next := add16 m.next 1, last := (m.out p).ts, cnt := m.cnt + 1 }
      rw [← HRD.out, e1, ← h2.2.2.1, ← h2.2.2.2.1]
      rfl
  · have hop2 : m.opn = false := by simpa using hop
    rw [hop2] at x6
    have HRD0 : Hid (m.begin_ p.ts = m.ready p.ts) := Lib.hid (by unfold RMap.ready; rw [if_neg hop])
    clear hop hop2
    go_wp2_with fail
    clear x0 x1 x2 x3 x4 x5 x6 x7 x8 y0 y1 y2 y3 y4 y5 y6 y7 y8 y9 y10
    refine (rmBegin_any HM.out HOK.out p.ts).mono ?_
    rintro e w3 ⟨rfl, hBn, hF⟩
    obtain ⟨M, hMM⟩ : ∃ M, M = m.begin_ p.ts := ⟨_, rfl⟩
    rw [← hMM] at hBn
    have HRD : Hid (M = m.ready p.ts) := Lib.hid (hMM.trans HRD0.out)
    have HM := Lib.hid hBn
    have HP := Lib.hid (HP.out.fr hF (by simp; omega)); have HR := Lib.hid (HR.out.fr hF (by simp; omega))
    have HV := Lib.hid (HV.out.fr hF (by simp; exact hgb))
    have HF := Lib.hid (HF.out.trans hF)
    have HZ : Hid (W + 2 ≤ w3.heap.size) := Lib.hid (Nat.le_trans HZ.out hF.size)
    clear hF hBn hMM HRD0
    go_wp2_with (refine wpList_load_row rfl 67 (.tmp 3) rfl W rfl 67 _ _ _ HP.out Try.underlying67 rfl (by kernel_rfl) ?_)
    refine (ClonePk_any HV.out HS.out).mono ?_
    rintro e w4 ⟨qc, qe, ql, qd, rfl, hqc, hqe, hql, hqd, hF⟩
    have hz := HZ.out
    have HM := Lib.hid (HM.out.keep hF); have HP := Lib.hid (HP.out.keep hF); have HR := Lib.hid (HR.out.keep hF)
    have HF := Lib.hid (HF.out.quiet hF)
    have HOz : Hid (W + 2 ≤ w4.heap.size) := Lib.hid (Nat.le_trans hz hF.size)
    have HQV : Hid (PktV w4 (W + 2) (.agg (pc p.marker p.pt p.seq.toNat p.ts.toNat p.ssrc.toNat qc p.hasExt p.profile.toNat qe ql qd)) p) := Lib.hid ⟨qc, qe, ql, qd, rfl, hqc.words, hqe.bytes, hql.bytes, hqd.bytes, fun b hb => by
      rcases hb with hb | hb | hb | hb
      · have := (hqc.block b hb).1; omega
      · have := (hqe.block b hb).1; omega
      · have := (hql.block b hb).1; omega
      · have := (hqd.block b hb).1; omega⟩
    obtain ⟨b1, n1, f1, rfl⟩ := hqc.isSlice
    obtain ⟨b2, n2, f2, rfl⟩ := hqe.isSlice
    obtain ⟨b3, n3, f3, rfl⟩ := hql.isSlice
    obtain ⟨b4, n4, f4, rfl⟩ := hqd.isSlice
    clear hF hqc hqe hql hqd HV hz HZ
    go_wp2_with (refine wpList_store_row rfl 67 (.tmp 5) (.tmp 16) rfl w4.heap.size rfl _ _ rfl 67 (Box.new w4 67 #[.bool false, .int .i64 0, .int .u16 0, .int .u32 0, .int .u32 0, .slice none 0 0, .bool false, .int .u16 0, .slice none 0 0, .slice none 0 0, .slice none 0 0]) (by kernel_rfl) rfl (oneCell_pc _ _ _ _ _ _ _ _ _ _ _ ⟨_, _, _, rfl⟩ ⟨_, _, _, rfl⟩ ⟨_, _, _, rfl⟩ ⟨_, _, _, rfl⟩) ?_; intro w5 hY hG; have hFn := ((Fr.refl [] w4).alloc _).step hG (by simp); have HY := Lib.hid hY; have HFO := Lib.hid hFn; clear hG hY hFn)
    have hF := HFO.out
    have HM := Lib.hid (HM.out.keep hF); have HP := Lib.hid (HP.out.keep hF); have HR := Lib.hid (HR.out.keep hF)
    have HF := Lib.hid (HF.out.quiet hF)
    have hOz := HOz.out
    generalize hOO : w4.heap.size = O at *
    have HOO := Lib.hid hOO
    clear hOO hF HOz
    go_upto_region 4 with (fail)
    refine wp_region_T (fun w' => Box w' g 132 (mc M) ∧ Box w' W 67 (pc p.marker p.pt p.seq.toNat p.ts.toNat p.ssrc.toNat (.slice a1 p.csrc.length c1) p.hasExt p.profile.toNat (.slice a2 p.ext.length c2) (.slice a3 p.payload.length c3) (.slice a4 p.pad.length c4))) [] 27 #[false, false, false, false, false, false, false, false, false, false, false, false, false, false, false, false, false, false, false, false, false, false, false, false, false, false, false] (by kernel_rfl) rfl rfl ?_
    have hF := (Fr.refl [] w5).drew
    have HM := Lib.hid (HM.out.keep hF); have HP := Lib.hid (HP.out.keep hF); have HR := Lib.hid (HR.out.keep hF); have HY := Lib.hid (HY.out.keep hF)
    have HF := Lib.hid (HF.out.quiet hF); have HFO := Lib.hid (HFO.out.trans hF)
    have HSS := Lib.hid (And.intro HM.out HP.out)
    clear hF
    generalize w5.drew = wd5 at *
    refine wpAnyT_load (i := 0) (v := ?_) rfl (by kernel_rfl) (by kernel_rfl) (by kernel_rfl) (by kernel_rfl) (by kernel_rfl) (fun _ _ _ h => h) HSS.out (by rfl) ?_ ?_
    rotate_left
    · intro w hSw; obtain ⟨hSm, hSp⟩ := hSw; obtain ⟨x0, x1, x2, x3, x4, x5, x6, x7, x8⟩ := hSm.mcells; obtain ⟨y0, y1, y2, y3, y4, y5, y6, y7, y8, y9, y10⟩ := hSp.pcells; go_simp; try with_reducible rfl
    simp only [Act.put, List.getElem_toArray, List.getElem_cons_zero, List.getElem_cons_succ, List.setIfInBounds_toArray, List.set_cons_zero, List.set_cons_succ]
    refine wpAnyT_load (i := 1) (v := ?_) rfl (by kernel_rfl) (by kernel_rfl) (by kernel_rfl) (by kernel_rfl) (by kernel_rfl) (fun _ _ _ h => h) HSS.out (by rfl) ?_ ?_
    rotate_left
    · intro w hSw; obtain ⟨hSm, hSp⟩ := hSw; obtain ⟨x0, x1, x2, x3, x4, x5, x6, x7, x8⟩ := hSm.mcells; obtain ⟨y0, y1, y2, y3, y4, y5, y6, y7, y8, y9, y10⟩ := hSp.pcells; go_simp; try with_reducible rfl
    simp only [Act.put, List.getElem_toArray, List.getElem_cons_zero, List.getElem_cons_succ, List.setIfInBounds_toArray, List.set_cons_zero, List.set_cons_succ]
    refine wpAnyT_load (i := 2) (v := ?_) rfl (by kernel_rfl) (by kernel_rfl) (by kernel_rfl) (by kernel_rfl) (by kernel_rfl) (fun _ _ _ h => h) HSS.out (by rfl) ?_ ?_
    rotate_left
    · intro w hSw; obtain ⟨hSm, hSp⟩ := hSw; obtain ⟨x0, x1, x2, x3, x4, x5, x6, x7, x8⟩ := hSm.mcells; obtain ⟨y0, y1, y2, y3, y4, y5, y6, y7, y8, y9, y10⟩ := hSp.pcells; go_simp; try with_reducible rfl
    simp only [Act.put, List.getElem_toArray, List.getElem_cons_zero, List.getElem_cons_succ, List.setIfInBounds_toArray, List.set_cons_zero, List.set_cons_succ]
    refine wpAnyT_load (i := 3) (v := ?_) rfl (by kernel_rfl) (by kernel_rfl) (by kernel_rfl) (by kernel_rfl) (by kernel_rfl) (fun _ _ _ h => h) HSS.out (by rfl) ?_ ?_
    rotate_left
    · intro w hSw; obtain ⟨hSm, hSp⟩ := hSw; obtain ⟨x0, x1, x2, x3, x4, x5, x6, x7, x8⟩ := hSm.mcells; obtain ⟨y0, y1, y2, y3, y4, y5, y6, y7, y8, y9, y10⟩ := hSp.pcells; go_simp; try with_reducible rfl
    simp only [Act.put, List.getElem_toArray, List.getElem_cons_zero, List.getElem_cons_succ, List.setIfInBounds_toArray, List.set_cons_zero, List.set_cons_succ]
    refine wpAnyT_load (i := 4) (v := ?_) rfl (by kernel_rfl) (by kernel_rfl) (by kernel_rfl) (by kernel_rfl) (by kernel_rfl) (fun _ _ _ h => h) HSS.out (by rfl) ?_ ?_
    rotate_left
    · intro w hSw; obtain ⟨hSm, hSp⟩ := hSw; obtain ⟨x0, x1, x2, x3, x4, x5, x6, x7, x8⟩ := hSm.mcells; obtain ⟨y0, y1, y2, y3, y4, y5, y6, y7, y8, y9, y10⟩ := hSp.pcells; go_simp; try with_reducible rfl
    simp only [Act.put, List.getElem_toArray, List.getElem_cons_zero, List.getElem_cons_succ, List.setIfInBounds_toArray, List.set_cons_zero, List.set_cons_succ]
    refine wpAnyT_load (i := 5) (v := ?_) rfl (by kernel_rfl) (by kernel_rfl) (by kernel_rfl) (by kernel_rfl) (by kernel_rfl) (fun _ _ _ h => h) HSS.out (by rfl) ?_ ?_
    rotate_left
    · intro w hSw; obtain ⟨hSm, hSp⟩ := hSw; obtain ⟨x0, x1, x2, x3, x4, x5, x6, x7, x8⟩ := hSm.mcells; obtain ⟨y0, y1, y2, y3, y4, y5, y6, y7, y8, y9, y10⟩ := hSp.pcells; go_simp; try with_reducible rfl
    simp only [Act.put, List.getElem_toArray, List.getElem_cons_zero, List.getElem_cons_succ, List.setIfInBounds_toArray, List.set_cons_zero, List.set_cons_succ]
    refine wpAnyT_load (i := 6) (v := ?_) rfl (by kernel_rfl) (by kernel_rfl) (by kernel_rfl) (by kernel_rfl) (by kernel_rfl) (fun _ _ _ h => h) HSS.out (by rfl) ?_ ?_
    rotate_left
    · intro w hSw; obtain ⟨hSm, hSp⟩ := hSw; obtain ⟨x0, x1, x2, x3, x4, x5, x6, x7, x8⟩ := hSm.mcells; obtain ⟨y0, y1, y2, y3, y4, y5, y6, y7, y8, y9, y10⟩ := hSp.pcells; go_simp; try with_reducible rfl
    simp only [Act.put, List.getElem_toArray, List.getElem_cons_zero, List.getElem_cons_succ, List.setIfInBounds_toArray, List.set_cons_zero, List.set_cons_succ]
    refine wpAnyT_load (i := 7) (v := ?_) rfl (by kernel_rfl) (by kernel_rfl) (by kernel_rfl) (by kernel_rfl) (by kernel_rfl) (fun _ _ _ h => h) HSS.out (by rfl) ?_ ?_
    rotate_left
    · intro w hSw; obtain ⟨hSm, hSp⟩ := hSw; obtain ⟨x0, x1, x2, x3, x4, x5, x6, x7, x8⟩ := hSm.mcells; obtain ⟨y0, y1, y2, y3, y4, y5, y6, y7, y8, y9, y10⟩ := hSp.pcells; go_simp; try with_reducible rfl
    simp only [Act.put, List.getElem_toArray, List.getElem_cons_zero, List.getElem_cons_succ, List.setIfInBounds_toArray, List.set_cons_zero, List.set_cons_succ]
    refine wpAnyT_load (i := 8) (v := ?_) rfl (by kernel_rfl) (by kernel_rfl) (by kernel_rfl) (by kernel_rfl) (by kernel_rfl) (fun _ _ _ h => h) HSS.out (by rfl) ?_ ?_
    rotate_left
    · intro w hSw; obtain ⟨hSm, hSp⟩ := hSw; obtain ⟨x0, x1, x2, x3, x4, x5, x6, x7, x8⟩ := hSm.mcells; obtain ⟨y0, y1, y2, y3, y4, y5, y6, y7, y8, y9, y10⟩ := hSp.pcells; go_simp; try with_reducible rfl
    simp only [Act.put, List.getElem_toArray, List.getElem_cons_zero, List.getElem_cons_succ, List.setIfInBounds_toArray, List.set_cons_zero, List.set_cons_succ]
    refine wpAnyT_load (i := 9) (v := ?_) rfl (by kernel_rfl) (by kernel_rfl) (by kernel_rfl) (by kernel_rfl) (by kernel_rfl) (fun _ _ _ h => h) HSS.out (by rfl) ?_ ?_
    rotate_left
    · intro w hSw; obtain ⟨hSm, hSp⟩ := hSw; obtain ⟨x0, x1, x2, x3, x4, x5, x6, x7, x8⟩ := hSm.mcells; obtain ⟨y0, y1, y2, y3, y4, y5, y6, y7, y8, y9, y10⟩ := hSp.pcells; go_simp; try with_reducible rfl
    simp only [Act.put, List.getElem_toArray, List.getElem_cons_zero, List.getElem_cons_succ, List.setIfInBounds_toArray, List.set_cons_zero, List.set_cons_succ]
    refine wpAnyT_load (i := 10) (v := ?_) rfl (by kernel_rfl) (by kernel_rfl) (by kernel_rfl) (by kernel_rfl) (by kernel_rfl) (fun _ _ _ h => h) HSS.out (by rfl) ?_ ?_
    rotate_left
    · intro w hSw; obtain ⟨hSm, hSp⟩ := hSw; obtain ⟨x0, x1, x2, x3, x4, x5, x6, x7, x8⟩ := hSm.mcells; obtain ⟨y0, y1, y2, y3, y4, y5, y6, y7, y8, y9, y10⟩ := hSp.pcells; go_simp; try with_reducible rfl
    simp only [Act.put, List.getElem_toArray, List.getElem_cons_zero, List.getElem_cons_succ, List.setIfInBounds_toArray, List.set_cons_zero, List.set_cons_succ]
    refine wpAnyT_load (i := 11) (v := ?_) rfl (by kernel_rfl) (by kernel_rfl) (by kernel_rfl) (by kernel_rfl) (by kernel_rfl) (fun _ _ _ h => h) HSS.out (by rfl) ?_ ?_
    rotate_left
    · intro w hSw; obtain ⟨hSm, hSp⟩ := hSw; obtain ⟨x0, x1, x2, x3, x4, x5, x6, x7, x8⟩ := hSm.mcells; obtain ⟨y0, y1, y2, y3, y4, y5, y6, y7, y8, y9, y10⟩ := hSp.pcells; go_simp; try with_reducible rfl
    simp only [Act.put, List.getElem_toArray, List.getElem_cons_zero, List.getElem_cons_succ, List.setIfInBounds_toArray, List.set_cons_zero, List.set_cons_succ]
    refine wpAnyT_load (i := 12) (v := ?_) rfl (by kernel_rfl) (by kernel_rfl) (by kernel_rfl) (by kernel_rfl) (by kernel_rfl) (fun _ _ _ h => h) HSS.out (by rfl) ?_ ?_
    rotate_left
    · intro w hSw; obtain ⟨hSm, hSp⟩ := hSw; obtain ⟨x0, x1, x2, x3, x4, x5, x6, x7, x8⟩ := hSm.mcells; obtain ⟨y0, y1, y2, y3, y4, y5, y6, y7, y8, y9, y10⟩ := hSp.pcells; go_simp; try with_reducible rfl
    simp only [Act.put, List.getElem_toArray, List.getElem_cons_zero, List.getElem_cons_succ, List.setIfInBounds_toArray, List.set_cons_zero, List.set_cons_succ]
    refine wpAnyT_load (i := 13) (v := ?_) rfl (by kernel_rfl) (by kernel_rfl) (by kernel_rfl) (by kernel_rfl) (by kernel_rfl) (fun _ _ _ h => h) HSS.out (by rfl) ?_ ?_
    rotate_left
    · intro w hSw; obtain ⟨hSm, hSp⟩ := hSw; obtain ⟨x0, x1, x2, x3, x4, x5, x6, x7, x8⟩ := hSm.mcells; obtain ⟨y0, y1, y2, y3, y4, y5, y6, y7, y8, y9, y10⟩ := hSp.pcells; go_simp; try with_reducible rfl
    simp only [Act.put, List.getElem_toArray, List.getElem_cons_zero, List.getElem_cons_succ, List.setIfInBounds_toArray, List.set_cons_zero, List.set_cons_succ]
    refine wpAnyT_load (i := 14) (v := ?_) rfl (by kernel_rfl) (by kernel_rfl) (by kernel_rfl) (by kernel_rfl) (by kernel_rfl) (fun _ _ _ h => h) HSS.out (by rfl) ?_ ?_
    rotate_left
    · intro w hSw; obtain ⟨hSm, hSp⟩ := hSw; obtain ⟨x0, x1, x2, x3, x4, x5, x6, x7, x8⟩ := hSm.mcells; obtain ⟨y0, y1, y2, y3, y4, y5, y6, y7, y8, y9, y10⟩ := hSp.pcells; go_simp; try with_reducible rfl
    simp only [Act.put, List.getElem_toArray, List.getElem_cons_zero, List.getElem_cons_succ, List.setIfInBounds_toArray, List.set_cons_zero, List.set_cons_succ]
    refine wpAnyT_load (i := 15) (v := ?_) rfl (by kernel_rfl) (by kernel_rfl) (by kernel_rfl) (by kernel_rfl) (by kernel_rfl) (fun _ _ _ h => h) HSS.out (by rfl) ?_ ?_
    rotate_left
    · intro w hSw; obtain ⟨hSm, hSp⟩ := hSw; obtain ⟨x0, x1, x2, x3, x4, x5, x6, x7, x8⟩ := hSm.mcells; obtain ⟨y0, y1, y2, y3, y4, y5, y6, y7, y8, y9, y10⟩ := hSp.pcells; go_simp; try with_reducible rfl
    simp only [Act.put, List.getElem_toArray, List.getElem_cons_zero, List.getElem_cons_succ, List.setIfInBounds_toArray, List.set_cons_zero, List.set_cons_succ]
    refine wpAnyT_load (i := 16) (v := ?_) rfl (by kernel_rfl) (by kernel_rfl) (by kernel_rfl) (by kernel_rfl) (by kernel_rfl) (fun _ _ _ h => h) HSS.out (by rfl) ?_ ?_
    rotate_left
    · intro w hSw; obtain ⟨hSm, hSp⟩ := hSw; obtain ⟨x0, x1, x2, x3, x4, x5, x6, x7, x8⟩ := hSm.mcells; obtain ⟨y0, y1, y2, y3, y4, y5, y6, y7, y8, y9, y10⟩ := hSp.pcells; go_simp; try with_reducible rfl
    simp only [Act.put, List.getElem_toArray, List.getElem_cons_zero, List.getElem_cons_succ, List.setIfInBounds_toArray, List.set_cons_zero, List.set_cons_succ]
    refine wpAnyT_load (i := 17) (v := ?_) rfl (by kernel_rfl) (by kernel_rfl) (by kernel_rfl) (by kernel_rfl) (by kernel_rfl) (fun _ _ _ h => h) HSS.out (by rfl) ?_ ?_
    rotate_left
    · intro w hSw; obtain ⟨hSm, hSp⟩ := hSw; obtain ⟨x0, x1, x2, x3, x4, x5, x6, x7, x8⟩ := hSm.mcells; obtain ⟨y0, y1, y2, y3, y4, y5, y6, y7, y8, y9, y10⟩ := hSp.pcells; go_simp; try with_reducible rfl
    simp only [Act.put, List.getElem_toArray, List.getElem_cons_zero, List.getElem_cons_succ, List.setIfInBounds_toArray, List.set_cons_zero, List.set_cons_succ]
    refine wpAnyT_load (i := 18) (v := ?_) rfl (by kernel_rfl) (by kernel_rfl) (by kernel_rfl) (by kernel_rfl) (by kernel_rfl) (fun _ _ _ h => h) HSS.out (by rfl) ?_ ?_
    rotate_left
    · intro w hSw; obtain ⟨hSm, hSp⟩ := hSw; obtain ⟨x0, x1, x2, x3, x4, x5, x6, x7, x8⟩ := hSm.mcells; obtain ⟨y0, y1, y2, y3, y4, y5, y6, y7, y8, y9, y10⟩ := hSp.pcells; go_simp; try with_reducible rfl
    simp only [Act.put, List.getElem_toArray, List.getElem_cons_zero, List.getElem_cons_succ, List.setIfInBounds_toArray, List.set_cons_zero, List.set_cons_succ]
    refine wpAnyT_load (i := 19) (v := ?_) rfl (by kernel_rfl) (by kernel_rfl) (by kernel_rfl) (by kernel_rfl) (by kernel_rfl) (fun _ _ _ h => h) HSS.out (by rfl) ?_ ?_
    rotate_left
    · intro w hSw; obtain ⟨hSm, hSp⟩ := hSw; obtain ⟨x0, x1, x2, x3, x4, x5, x6, x7, x8⟩ := hSm.mcells; obtain ⟨y0, y1, y2, y3, y4, y5, y6, y7, y8, y9, y10⟩ := hSp.pcells; go_simp; try with_reducible rfl
    simp only [Act.put, List.getElem_toArray, List.getElem_cons_zero, List.getElem_cons_succ, List.setIfInBounds_toArray, List.set_cons_zero, List.set_cons_succ]
    have hFr := HY.out.free 4; have hCl := HY.out.cell 4
    simp only [pc, List.getElem?_toArray, List.getElem?_cons_succ, List.getElem?_cons_zero] at hCl
    obtain ⟨w6, e6, hF, hYn, -⟩ := set_new HY.out 4 (.int .u32 (M.ssrc.toNat : Nat))
    simp only [pc, List.setIfInBounds_toArray, List.set_cons_zero, List.set_cons_succ] at hYn
    have HMn := Lib.hid (HM.out.fr hF (by simp; omega)); have HPn := Lib.hid (HP.out.fr hF (by simp; omega))
    refine wpAnyT_one (i := 20) (by kernel_rfl) rfl (fun K hK => ?_)
    rw [if_pos (by rfl)]
    go_simp
    refine hK.out _ _ (fun _ => ⟨HMn.out, HPn.out⟩) ?_
    clear hK K
    simp only [Act.put, List.getElem_toArray, List.getElem_cons_zero, List.getElem_cons_succ, List.setIfInBounds_toArray, List.set_cons_zero, List.set_cons_succ]
    have HR := Lib.hid (HR.out.fr hF (by simp; omega))
    have HFO := Lib.hid (HFO.out.step hF (fun x hx => by have := HOO.out; simp at hx; subst hx; exact .inr (by omega)))
    have HF := Lib.hid (HF.out.step hF (fun x hx => by simp at hx; subst hx; exact .inr (by have := HHW.out; omega)))
    have HY := Lib.hid hYn; have HM := HMn; have HP := HPn
    have HSS := Lib.hid (And.intro HM.out HP.out)
    clear HMn HPn hYn hF hFr hCl e6
    refine wpAnyT_load (i := 21) (v := ?_) rfl (by kernel_rfl) (by kernel_rfl) (by kernel_rfl) (by kernel_rfl) (by kernel_rfl) (fun _ _ _ h => h) HSS.out (by rfl) ?_ ?_
    rotate_left
    · intro w hSw; obtain ⟨hSm, hSp⟩ := hSw; obtain ⟨x0, x1, x2, x3, x4, x5, x6, x7, x8⟩ := hSm.mcells; obtain ⟨y0, y1, y2, y3, y4, y5, y6, y7, y8, y9, y10⟩ := hSp.pcells; go_simp; try with_reducible rfl
    simp only [Act.put, List.getElem_toArray, List.getElem_cons_zero, List.getElem_cons_succ, List.setIfInBounds_toArray, List.set_cons_zero, List.set_cons_succ]
    have hFr := HY.out.free 1; have hCl := HY.out.cell 1
    simp only [pc, List.getElem?_toArray, List.getElem?_cons_succ, List.getElem?_cons_zero] at hCl
    obtain ⟨w7, e7, hF, hYn, -⟩ := set_new HY.out 1 (.int .i64 M.pt)
    simp only [pc, List.setIfInBounds_toArray, List.set_cons_zero, List.set_cons_succ] at hYn
    have HMn := Lib.hid (HM.out.fr hF (by simp; omega)); have HPn := Lib.hid (HP.out.fr hF (by simp; omega))
    refine wpAnyT_one (i := 22) (by kernel_rfl) rfl (fun K hK => ?_)
    rw [if_pos (by rfl)]
    go_simp
    refine hK.out _ _ (fun _ => ⟨HMn.out, HPn.out⟩) ?_
    clear hK K
    simp only [Act.put, List.getElem_toArray, List.getElem_cons_zero, List.getElem_cons_succ, List.setIfInBounds_toArray, List.set_cons_zero, List.set_cons_succ]
    have HR := Lib.hid (HR.out.fr hF (by simp; omega))
    have HFO := Lib.hid (HFO.out.step hF (fun x hx => by have := HOO.out; simp at hx; subst hx; exact .inr (by omega)))
    have HF := Lib.hid (HF.out.step hF (fun x hx => by simp at hx; subst hx; exact .inr (by have := HHW.out; omega)))
    have HY := Lib.hid hYn; have HM := HMn; have HP := HPn
    have HSS := Lib.hid (And.intro HM.out HP.out)
    clear HMn HPn hYn hF hFr hCl e7
    refine wpAnyT_load (i := 23) (v := ?_) rfl (by kernel_rfl) (by kernel_rfl) (by kernel_rfl) (by kernel_rfl) (by kernel_rfl) (fun _ _ _ h => h) HSS.out (by rfl) ?_ ?_
    rotate_left
    · intro w hSw; obtain ⟨hSm, hSp⟩ := hSw; obtain ⟨x0, x1, x2, x3, x4, x5, x6, x7, x8⟩ := hSm.mcells; obtain ⟨y0, y1, y2, y3, y4, y5, y6, y7, y8, y9, y10⟩ := hSp.pcells; go_simp; try with_reducible rfl
    simp only [Act.put, List.getElem_toArray, List.getElem_cons_zero, List.getElem_cons_succ, List.setIfInBounds_toArray, List.set_cons_zero, List.set_cons_succ]
    have hFr := HY.out.free 2; have hCl := HY.out.cell 2
    simp only [pc, List.getElem?_toArray, List.getElem?_cons_succ, List.getElem?_cons_zero] at hCl
    obtain ⟨w8, e8, hF, hYn, -⟩ := set_new HY.out 2 (.int .u16 (M.next.toNat : Nat))
    simp only [pc, List.setIfInBounds_toArray, List.set_cons_zero, List.set_cons_succ] at hYn
    have HMn := Lib.hid (HM.out.fr hF (by simp; omega)); have HPn := Lib.hid (HP.out.fr hF (by simp; omega))
    refine wpAnyT_one (i := 24) (by kernel_rfl) rfl (fun K hK => ?_)
    rw [if_pos (by rfl)]
    go_simp
    refine hK.out _ _ (fun _ => ⟨HMn.out, HPn.out⟩) ?_
    clear hK K
    simp only [Act.put, List.getElem_toArray, List.getElem_cons_zero, List.getElem_cons_succ, List.setIfInBounds_toArray, List.set_cons_zero, List.set_cons_succ]
    have HR := Lib.hid (HR.out.fr hF (by simp; omega))
    have HFO := Lib.hid (HFO.out.step hF (fun x hx => by have := HOO.out; simp at hx; subst hx; exact .inr (by omega)))
    have HF := Lib.hid (HF.out.step hF (fun x hx => by simp at hx; subst hx; exact .inr (by have := HHW.out; omega)))
    have HY := Lib.hid hYn; have HM := HMn; have HP := HPn
    have HSS := Lib.hid (And.intro HM.out HP.out)
    clear HMn HPn hYn hF hFr hCl e8
    refine wpAnyT_load (i := 25) (v := ?_) rfl (by kernel_rfl) (by kernel_rfl) (by kernel_rfl) (by kernel_rfl) (by kernel_rfl) (fun _ _ _ h => h) HSS.out (by rfl) ?_ ?_
    rotate_left
    · intro w hSw; obtain ⟨hSm, hSp⟩ := hSw; obtain ⟨x0, x1, x2, x3, x4, x5, x6, x7, x8⟩ := hSm.mcells; obtain ⟨y0, y1, y2, y3, y4, y5, y6, y7, y8, y9, y10⟩ := hSp.pcells; go_simp; try with_reducible rfl
    simp only [Act.put, List.getElem_toArray, List.getElem_cons_zero, List.getElem_cons_succ, List.setIfInBounds_toArray, List.set_cons_zero, List.set_cons_succ]
    have hFr := HY.out.free 3; have hCl := HY.out.cell 3
    simp only [pc, List.getElem?_toArray, List.getElem?_cons_succ, List.getElem?_cons_zero] at hCl
    obtain ⟨w9, e9, hF, hYn, -⟩ := set_new HY.out 3 (.int .u32 ((sum32 p.ts M.shift).toNat : Nat))
    simp only [pc, List.setIfInBounds_toArray, List.set_cons_zero, List.set_cons_succ] at hYn
    have HMn := Lib.hid (HM.out.fr hF (by simp; omega)); have HPn := Lib.hid (HP.out.fr hF (by simp; omega))
    refine wpAnyT_one (i := 26) (by kernel_rfl) rfl (fun K hK => ?_)
    rw [if_pos (by rfl)]
    go_simp
    rw [show IntKind.u32.wrap ((p.ts.toNat : Int) + (M.shift.toNat : Int)) = ((sum32 p.ts M.shift).toNat : Nat) from by unfold sum32; rw [wrap_u32_mod, u32_add_nat]]
    rw [e9]
    refine hK.out _ _ (fun _ => ⟨HMn.out, HPn.out⟩) ?_
    clear hK K
    simp only [Act.put, List.getElem_toArray, List.getElem_cons_zero, List.getElem_cons_succ, List.setIfInBounds_toArray, List.set_cons_zero, List.set_cons_succ]
    have HR := Lib.hid (HR.out.fr hF (by simp; omega))
    have HFO := Lib.hid (HFO.out.step hF (fun x hx => by have := HOO.out; simp at hx; subst hx; exact .inr (by omega)))
    have HF := Lib.hid (HF.out.step hF (fun x hx => by simp at hx; subst hx; exact .inr (by have := HHW.out; omega)))
    have HY := Lib.hid hYn; have HM := HMn; have HP := HPn
    have HSS := Lib.hid (And.intro HM.out HP.out)
    clear HMn HPn hYn hF hFr hCl e9
    refine wpAnyT_done (by kernel_rfl) ?_ _
    clear HSS
    go_upto_region 5 with (fail)
    refine wp_region_T (fun w' => Box w' O 67 (pc p.marker M.pt M.next.toNat (sum32 p.ts M.shift).toNat M.ssrc.toNat (.slice b1 n1 f1) p.hasExt p.profile.toNat (.slice b2 n2 f2) (.slice b3 n3 f3) (.slice b4 n4 f4))) [] 15 #[false, false, false, false, false, false, false, false, false, false, false, false, false, false, false] (by kernel_rfl) rfl rfl ?_
    have hF := (Fr.refl [] w9).drew
    have HQV := Lib.hid (HQV.out.keep HFO.out)
    have HM := Lib.hid (HM.out.keep hF); have HR := Lib.hid (HR.out.keep hF); have HY := Lib.hid (HY.out.keep hF); have HQV := Lib.hid (HQV.out.keep hF)
    have HF := Lib.hid (HF.out.quiet hF)
    clear hF HP HFO
    generalize w9.drew = wd9 at *
    refine wpAnyT_load (i := 0) (v := ?_) rfl (by kernel_rfl) (by kernel_rfl) (by kernel_rfl) (by kernel_rfl) (by kernel_rfl) (fun _ _ _ h => h) HY.out (by rfl) ?_ ?_
    rotate_left
    · intro w hSw; obtain ⟨y0, y1, y2, y3, y4, y5, y6, y7, y8, y9, y10⟩ := hSw.pcells; go_simp; try with_reducible rfl
    simp only [Act.put, List.getElem_toArray, List.getElem_cons_zero, List.getElem_cons_succ, List.setIfInBounds_toArray, List.set_cons_zero, List.set_cons_succ]
    refine wpAnyT_load (i := 1) (v := ?_) rfl (by kernel_rfl) (by kernel_rfl) (by kernel_rfl) (by kernel_rfl) (by kernel_rfl) (fun _ _ _ h => h) HY.out (by rfl) ?_ ?_
    rotate_left
    · intro w hSw; obtain ⟨y0, y1, y2, y3, y4, y5, y6, y7, y8, y9, y10⟩ := hSw.pcells; go_simp; try with_reducible rfl
    simp only [Act.put, List.getElem_toArray, List.getElem_cons_zero, List.getElem_cons_succ, List.setIfInBounds_toArray, List.set_cons_zero, List.set_cons_succ]
    refine wpAnyT_load (i := 2) (v := ?_) rfl (by kernel_rfl) (by kernel_rfl) (by kernel_rfl) (by kernel_rfl) (by kernel_rfl) (fun _ _ _ h => h) HY.out (by rfl) ?_ ?_
    rotate_left
    · intro w hSw; obtain ⟨y0, y1, y2, y3, y4, y5, y6, y7, y8, y9, y10⟩ := hSw.pcells; go_simp; try with_reducible rfl
    simp only [Act.put, List.getElem_toArray, List.getElem_cons_zero, List.getElem_cons_succ, List.setIfInBounds_toArray, List.set_cons_zero, List.set_cons_succ]
    refine wpAnyT_load (i := 3) (v := ?_) rfl (by kernel_rfl) (by kernel_rfl) (by kernel_rfl) (by kernel_rfl) (by kernel_rfl) (fun _ _ _ h => h) HY.out (by rfl) ?_ ?_
    rotate_left
    · intro w hSw; obtain ⟨y0, y1, y2, y3, y4, y5, y6, y7, y8, y9, y10⟩ := hSw.pcells; go_simp; try with_reducible rfl
    simp only [Act.put, List.getElem_toArray, List.getElem_cons_zero, List.getElem_cons_succ, List.setIfInBounds_toArray, List.set_cons_zero, List.set_cons_succ]
    refine wpAnyT_load (i := 4) (v := ?_) rfl (by kernel_rfl) (by kernel_rfl) (by kernel_rfl) (by kernel_rfl) (by kernel_rfl) (fun _ _ _ h => h) HY.out (by rfl) ?_ ?_
    rotate_left
    · intro w hSw; obtain ⟨y0, y1, y2, y3, y4, y5, y6, y7, y8, y9, y10⟩ := hSw.pcells; go_simp; try with_reducible rfl
    simp only [Act.put, List.getElem_toArray, List.getElem_cons_zero, List.getElem_cons_succ, List.setIfInBounds_toArray, List.set_cons_zero, List.set_cons_succ]
    refine wpAnyT_load (i := 7) (v := ?_) rfl (by kernel_rfl) (by kernel_rfl) (by kernel_rfl) (by kernel_rfl) (by kernel_rfl) (fun _ _ _ h => h) HY.out (by rfl) ?_ ?_
    rotate_left
    · intro w hSw; obtain ⟨y0, y1, y2, y3, y4, y5, y6, y7, y8, y9, y10⟩ := hSw.pcells; go_simp; try with_reducible rfl
    simp only [Act.put, List.getElem_toArray, List.getElem_cons_zero, List.getElem_cons_succ, List.setIfInBounds_toArray, List.set_cons_zero, List.set_cons_succ]
    refine wpAnyT_load (i := 8) (v := ?_) rfl (by kernel_rfl) (by kernel_rfl) (by kernel_rfl) (by kernel_rfl) (by kernel_rfl) (fun _ _ _ h => h) HY.out (by rfl) ?_ ?_
    rotate_left
    · intro w hSw; obtain ⟨y0, y1, y2, y3, y4, y5, y6, y7, y8, y9, y10⟩ := hSw.pcells; go_simp; try with_reducible rfl
    simp only [Act.put, List.getElem_toArray, List.getElem_cons_zero, List.getElem_cons_succ, List.setIfInBounds_toArray, List.set_cons_zero, List.set_cons_succ]
    refine wpAnyT_one (i := 5) (by kernel_rfl) rfl (fun K hK => ?_)
    rw [if_pos (by rfl)]
    obtain ⟨x0, x1, x2, x3, x4, x5, x6, x7, x8⟩ := HM.out.mcells
    go_simp
    clear x0 x1 x2 x3 x4 x5 x6 x7 x8
    refine hK.out _ _ (fun _ => HY.out) ?_
    clear hK K
    simp only [Act.put, List.getElem_toArray, List.getElem_cons_zero, List.getElem_cons_succ, List.setIfInBounds_toArray, List.set_cons_zero, List.set_cons_succ]
    refine wpAnyT_one (i := 6) (by kernel_rfl) rfl (fun K hK => ?_)
    rw [if_pos (by rfl)]
    go_simp
    go_at_call 112
    refine (serAdd_any _ _ _).mono ?_
    rintro e w9 ⟨rfl, rfl⟩
    go_simp
    refine hK.out _ _ (fun _ => HY.out) ?_
    clear hK K
    simp only [Act.put, List.getElem_toArray, List.getElem_cons_zero, List.getElem_cons_succ, List.setIfInBounds_toArray, List.set_cons_zero, List.set_cons_succ]
    refine wpAnyT_load (i := 9) (v := ?_) rfl (by kernel_rfl) (by kernel_rfl) (by kernel_rfl) (by kernel_rfl) (by kernel_rfl) (fun _ _ _ h => h) HY.out (by rfl) ?_ ?_
    rotate_left
    · intro w hSw; obtain ⟨y0, y1, y2, y3, y4, y5, y6, y7, y8, y9, y10⟩ := hSw.pcells; go_simp; try with_reducible rfl
    simp only [Act.put, List.getElem_toArray, List.getElem_cons_zero, List.getElem_cons_succ, List.setIfInBounds_toArray, List.set_cons_zero, List.set_cons_succ]
    refine wpAnyT_load (i := 10) (v := ?_) rfl (by kernel_rfl) (by kernel_rfl) (by kernel_rfl) (by kernel_rfl) (by kernel_rfl) (fun _ _ _ h => h) HY.out (by rfl) ?_ ?_
    rotate_left
    · intro w hSw; obtain ⟨y0, y1, y2, y3, y4, y5, y6, y7, y8, y9, y10⟩ := hSw.pcells; go_simp; try with_reducible rfl
    simp only [Act.put, List.getElem_toArray, List.getElem_cons_zero, List.getElem_cons_succ, List.setIfInBounds_toArray, List.set_cons_zero, List.set_cons_succ]
    have hFr := HM.out.free 2; have hCl := HM.out.cell 2
    simp only [mc, List.getElem?_toArray, List.getElem?_cons_succ, List.getElem?_cons_zero, List.setIfInBounds_toArray, List.set_cons_zero, List.set_cons_succ] at hCl
    obtain ⟨w10, e10, hF, hMn, -⟩ := set_new HM.out 2 (.int .u16 ((add16 M.next 1).toNat : Nat))
    have HYn := Lib.hid (HY.out.fr hF (by simp; omega))
    refine wpAnyT_one (i := 11) (by kernel_rfl) rfl (fun K hK => ?_)
    rw [if_pos (by rfl)]
    go_simp
    refine hK.out _ _ (fun _ => HYn.out) ?_
    clear hK K
    simp only [Act.put, List.getElem_toArray, List.getElem_cons_zero, List.getElem_cons_succ, List.setIfInBounds_toArray, List.set_cons_zero, List.set_cons_succ]
    have HR := Lib.hid (HR.out.fr hF (by simp; omega))
    have HQV := Lib.hid (HQV.out.fr hF (by simp; omega))
    have HF := Lib.hid (HF.out.trans hF)
    have HM := Lib.hid hMn; have HY := HYn
    clear HYn hMn hF hFr hCl e10
    refine wpAnyT_load (i := 12) (v := ?_) rfl (by kernel_rfl) (by kernel_rfl) (by kernel_rfl) (by kernel_rfl) (by kernel_rfl) (fun _ _ _ h => h) HY.out (by rfl) ?_ ?_
    rotate_left
    · intro w hSw; obtain ⟨y0, y1, y2, y3, y4, y5, y6, y7, y8, y9, y10⟩ := hSw.pcells; go_simp; try with_reducible rfl
    simp only [Act.put, List.getElem_toArray, List.getElem_cons_zero, List.getElem_cons_succ, List.setIfInBounds_toArray, List.set_cons_zero, List.set_cons_succ]
    refine wpAnyT_load (i := 13) (v := ?_) rfl (by kernel_rfl) (by kernel_rfl) (by kernel_rfl) (by kernel_rfl) (by kernel_rfl) (fun _ _ _ h => h) HY.out (by rfl) ?_ ?_
    rotate_left
    · intro w hSw; obtain ⟨y0, y1, y2, y3, y4, y5, y6, y7, y8, y9, y10⟩ := hSw.pcells; go_simp; try with_reducible rfl
    simp only [Act.put, List.getElem_toArray, List.getElem_cons_zero, List.getElem_cons_succ, List.setIfInBounds_toArray, List.set_cons_zero, List.set_cons_succ]
    have hFr := HM.out.free 3; have hCl := HM.out.cell 3
    simp only [mc, List.getElem?_toArray, List.getElem?_cons_succ, List.getElem?_cons_zero, List.setIfInBounds_toArray, List.set_cons_zero, List.set_cons_succ] at hCl
    obtain ⟨w11, e11, hF, hMn, -⟩ := set_new HM.out 3 (.int .u32 ((sum32 p.ts M.shift).toNat : Nat))
    have HYn := Lib.hid (HY.out.fr hF (by simp; omega))
    refine wpAnyT_one (i := 14) (by kernel_rfl) rfl (fun K hK => ?_)
    rw [if_pos (by rfl)]
    go_simp
    refine hK.out _ _ (fun _ => HYn.out) ?_
    clear hK K
    simp only [Act.put, List.getElem_toArray, List.getElem_cons_zero, List.getElem_cons_succ, List.setIfInBounds_toArray, List.set_cons_zero, List.set_cons_succ]
    have HR := Lib.hid (HR.out.fr hF (by simp; omega))
    have HQV := Lib.hid (HQV.out.fr hF (by simp; omega))
    have HF := Lib.hid (HF.out.trans hF)
    have HM := Lib.hid hMn; have HY := HYn
    clear HYn hMn hF hFr hCl e11
    refine wpAnyT_done (by kernel_rfl) ?_ _
    have hct := HOK.out.ct
    have hct2 : M.cnt = m.cnt := by have h := (m.ready_same p.ts).2.2.2.1; rw [← HRD.out] at h; first | done | exact h
    have hct3 : M.cnt ≤ 1099511627776 := by omega
    clear hct hct2
    have hFr := HM.out.free 8; have hCl := HM.out.cell 8
    simp only [mc, List.getElem?_toArray, List.getElem?_cons_succ, List.getElem?_cons_zero, List.setIfInBounds_toArray, List.set_cons_zero, List.set_cons_succ] at hCl
    obtain ⟨w12, e12, hF, hMn, -⟩ := set_new HM.out 8 (.int .i64 (M.cnt + 1 : Int))
    simp only [mc, List.setIfInBounds_toArray, List.set_cons_zero, List.set_cons_succ] at hMn
    have HF := Lib.hid (HF.out.trans hF)
    have HMn := Lib.hid hMn
    have HR := Lib.hid (HR.out.fr hF (by simp; omega)); have HY := Lib.hid (HY.out.fr hF (by simp; omega)); have HQV := Lib.hid (HQV.out.fr hF (by simp; omega))
    clear hF hMn
    go_upto_region 7 with (fail)
    clear hFr hCl e12 HM
    go_wp2_with (first | (refine wpList_load_row rfl 67 (.tmp 5) rfl O rfl 67 _ _ _ HY.out Try.underlying67 rfl (by kernel_rfl) ?_) | (refine wpList_store_row rfl 67 (.tmp 4) (.tmp 60) rfl (W + 1) rfl _ _ rfl 67 (HR.out) (by kernel_rfl) rfl (oneCell_pc _ _ _ _ _ _ _ _ _ _ _ ⟨_, _, _, rfl⟩ ⟨_, _, _, rfl⟩ ⟨_, _, _, rfl⟩ ⟨_, _, _, rfl⟩) ?_; intro w13 hY hG; have HW := Lib.hid hY; have HG := Lib.hid hG; clear hY hG))
    have hGG : Fr [W + 1] w12 w13 := HG.out
    refine bodyPost_ret (results_cell_row rfl _ _ (W + 1) 67 _ (0, 0) _ rfl HW.out Try.underlying67 rfl (by kernel_rfl)) rfl ⟨_, rfl, ?_, ?_, HF.out.step hGG (fun x hx => by have := HHW.out; simp at hx; subst hx; exact .inr (by omega))⟩
    · have h1 := ((HQV.out.fr hGG (by simp)).turn M.next (sum32 p.ts M.shift) M.ssrc M.pt)
      have h2 := m.ready_same p.ts
      rw [← HRD.out] at h2
      rw [RMap.out_turn, ← HRD.out]
      rw [h2.1, h2.2.1, h2.2.2.1] at h1
      rw [h2.1, h2.2.1, h2.2.2.1]
      exact h1.mono (by have := HHW.out; omega)
    · have h1 := HMn.out.fr hGG (by simp; omega)
      have h2 := m.ready_same p.ts
      have e1 : (m.out p).ts = sum32 p.ts M.shift := by show sum32 p.ts (m.ready p.ts).shift = _; rw [← HRD.out]
      rw [← HRD.out] at h2
      refine Box.eq h1 ?_
      show _ = mc { (m.ready p.ts) with next := add16 m.next 1, last := (m.out p).ts, cnt := m.cnt + 1 }
      rw [← HRD.out, e1, ← h2.2.2.1, ← h2.2.2.2.1]
      rfl
end Go.Proofs.Yticoongkfhkjgaa
