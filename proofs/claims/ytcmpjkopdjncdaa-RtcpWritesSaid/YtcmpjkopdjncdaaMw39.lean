import Derived.Test.YtcmpjkopdjncdaaMw38
import Derived.Test.YtcmpjkopdjncdaaMw36
/- The walk of confluxref07.item at reports (printed by gen_7ref4.py). -/
namespace Go.Proofs.Ytcmpjkopdjncdaa
open Go.RowKit

/-- What the document's item answers. -/
def ResI (kind : Int) (n : Nat) (l : List UInt8) (w : World) (e : Ending) (w' : World) : Prop :=
  ∃ x c B, e = .returned (.tuple #[.agg c, .bool (bodyR kind n l).isSome]) ∧ ItR w' c.toList x B ∧ (∀ b ∈ B, w.heap.size ≤ b) ∧ Fr [] w w' ∧ ∀ y, bodyR kind n l = some y → x = y
theorem ItR.zero (w : World) : ItR w (#[.int .i64 0, .int .u32 0, .int .u64 0, .int .u32 0, .int .u32 0, .int .u32 0, .slice none 0 0, .slice none 0 0, .slice none 0 0, .string ⟨#[]⟩] : Array Value).toList (Itm.zero 0) [] :=
  ⟨.slice none 0 0, .slice none 0 0, .slice none 0 0, [], rfl, SlEls.nil w, SlEls.nil w, SlEls.nil w, rfl⟩
theorem ResI.no {kind : Int} {n : Nat} {l : List UInt8} {w w' : World} {e : Ending} (h : bodyR kind n l = none) (he : e = .returned (.tuple #[.agg #[.int .i64 0, .int .u32 0, .int .u64 0, .int .u32 0, .int .u32 0, .int .u32 0, .slice none 0 0, .slice none 0 0, .slice none 0 0, .string ⟨#[]⟩], .bool false])) (hf : Fr [] w w') : ResI kind n l w e w' :=
  ⟨_, _, [], by rw [h]; exact he, ItR.zero w', by simp, hf, fun y hy => by rw [h] at hy; cases hy⟩
theorem snoc_range {α : Type} (f : Nat → α) (j : Nat) : (List.range (j + 1)).map f = (List.range j).map f ++ [f j] := by rw [List.range_succ, List.map_append]; rfl
set_option maxRecDepth 100000 in
set_option maxHeartbeats 8000000 in
theorem r07item_201 {w : World} {v : Value} {l : List UInt8} (h : Bytes w v l) (hsm : l.length ≤ 1500) (cn : Nat) (hcn : cn ≤ 31) :
    Calls Try.prog 27 #[.int .i64 201, .int .i64 cn, v] w fun e w' => ResI 201 cn l w e w' := by
  obtain ⟨a, cap, rfl⟩ := Sl.shape h
  have hc := (Sl.len h).2.1
  rw [List.length_map] at h hc ⊢
  have HSM := Lib.hid hsm
  obtain ⟨w1, e1, hF1, hB1, hs1⟩ := one_new w #[.int .i64 0, .int .u32 0, .int .u64 0, .int .u32 0, .int .u32 0, .int .u32 0, .slice none 0 0, .slice none 0 0, .slice none 0 0, .string ⟨#[]⟩] 52
  obtain ⟨w2, e2, hF2, hB2, hs2⟩ := one_new w1 #[.int .i64 201, .int .u32 0, .int .u64 0, .int .u32 0, .int .u32 0, .int .u32 0, .slice none 0 0, .slice none 0 0, .slice none 0 0, .string ⟨#[]⟩] 52
  have HF := Lib.hid (hF1.trans hF2); have HRS := Lib.hid (hB1.keep hF2); have HX := Lib.hid hB2; have E1 := Lib.hid e1; have E2 := Lib.hid e2; have HHW := Lib.hid h; have HH := Lib.hid (Sl.keep (Sl.keep h hF1) hF2)
  obtain ⟨X, hX⟩ : ∃ X, w1.heap.size = X := ⟨_, rfl⟩
  obtain ⟨B0, hB0⟩ : ∃ B0, w2.heap.size = B0 := ⟨_, rfl⟩
  have HXX : Hid (w.heap.size < X ∧ X < B0) := Lib.hid (by omega)
  have HB0 := Lib.hid (Nat.le_of_eq hB0.symm)
  obtain ⟨m, hm⟩ : ∃ m, l.length = m := ⟨_, rfl⟩
  rw [hm] at HH HHW hc hsm ⊢
  have HM := Lib.hid hm
  have HXe := Lib.hid hX
  clear h hF1 hB1 e1 hs1 hF2 hB2 e2 hs2 hm hB0 hX
  go_enter Try.func27, Try.ntmps27
  go_upto_region 1 with fail
  rw [E1.out]
  clear E1
  go_upto_region 2 with fail
  rw [E2.out]
  clear E2
  have hXe := HXe.out
  try simp only [hXe]
  rw [hXe] at HX
  clear hXe
  obtain ⟨c24, hc24⟩ : ∃ c24, 24 * cn = c24 := ⟨_, rfl⟩
  obtain ⟨T, hT⟩ : ∃ T, 4 + c24 = T := ⟨_, rfl⟩
  have hm1 : (24 : Int) * ((cn : Nat) : Int) = ((c24 : Nat) : Int) := by omega
  have hm2 : (4 : Int) + ((c24 : Nat) : Int) = ((T : Nat) : Int) := by omega
  have HT : Hid (4 + 24 * cn = T) := Lib.hid (by omega)
  have hTb : T ≤ 1000 := by omega
  have hcb : c24 ≤ 1000 := by omega
  clear hc24 hT
  by_cases hmT : m = T
  rotate_left
  · have hb1 : (((m : Nat) : Int) != ((T : Nat) : Int)) = true := by rw [bne_iff_ne]; omega
    have HNO : Hid (bodyR 201 cn l = none) := Lib.hid (by rw [body201, if_neg (by rw [HM.out, HT.out]; exact hmT)])
    clear hmT
    go_wp2_with (refine wpList_store_row rfl 52 (.tmp 6) (.tmp 35) rfl w.heap.size rfl _ _ rfl 52 HRS.out (by kernel_rfl) rfl (by simp [Value.oneCell']) ?_; intro w9 hY hG; have HY := Lib.hid hY; have HGn := Lib.hid hG; clear hY hG)
    refine bodyPost_ret (results_row_1 rfl _ _ w.heap.size 52 _ _ rfl HY.out Try.underlying52 rfl (by kernel_rfl)) rfl (ResI.no HNO.out rfl (HF.out.step HGn.out (fun x hx => .inr (by simp at hx; omega))))
  have hb1 : (((m : Nat) : Int) != ((T : Nat) : Int)) = false := by rw [bne_eq_false_iff_eq]; omega
  have HYS := Lib.hid (body201 l cn)
  rw [if_pos (by rw [HM.out, HT.out]; exact hmT)] at HYS
  have hm24 : 4 + 24 * cn = m := by have := HT.out; omega
  have hb1 : (((m : Nat) : Int) != ((T : Nat) : Int)) = false := by rw [bne_eq_false_iff_eq]; omega
  clear hmT
  have hnz : ∃ p, a = some p := by
    cases a with
    | none => have := (Sl.len HH.out).2.2.2 rfl; omega
    | some p => exact ⟨p, rfl⟩
  obtain ⟨⟨b, o, sp⟩, rfl⟩ := hnz
  obtain ⟨b', o', e', hbl, hcell⟩ := Sl.at_ HH.out (k := 0) (by omega)
  simp only [Option.some.injEq, Addr.mk.injEq] at e'
  obtain ⟨rfl, rfl, rfl⟩ := e'
  clear hbl hcell
  have HLT := Lib.hid (Sl.lt HHW.out)
  go_wp2_with fail
  refine (r07long_any HH.out (by rw [HM.out]; omega)).mono ?_
  rintro e w4 ⟨rfl, hF⟩
  have HF := Lib.hid (HF.out.trans hF); have HH := Lib.hid (Sl.keep HH.out hF); have HRS := Lib.hid (HRS.out.keep hF); have HX := Lib.hid (HX.out.keep hF); have HB0 := Lib.hid (Nat.le_trans HB0.out hF.size)
  clear hF hm1 hm2 hb1
  have y1 := HX.out.cell 1; have g1 := HX.out.free 1
  simp only [List.getElem?_toArray, List.getElem?_cons_succ, List.getElem?_cons_zero] at y1
  obtain ⟨w5, e5, hF5, hB5, -⟩ := set_new HX.out 1 (.int .u32 ((l32 l 0).toNat : Nat))
  simp only [List.setIfInBounds_toArray, List.set_cons_zero, List.set_cons_succ] at hB5
  have E5 := Lib.hid e5; have HX := Lib.hid hB5
  have HRS := Lib.hid (HRS.out.fr hF5 (by have := HXX.out; simp; omega)); have HH := Lib.hid (Sl.frL HH.out hF5 (fun b' hb hm => by have h1 := HLT.out b' hb; have := HXX.out; simp at hm; omega)); have HF := Lib.hid (HF.out.step hF5 (fun b hb => .inr (by have := HXX.out; simp at hb; omega))); have HB0 := Lib.hid (Nat.le_trans HB0.out hF5.size)
  clear e5 hF5 hB5
  go_upto_region 9 with fail
  rw [E5.out]
  clear E5 y1 g1
  have HPL : Hid (∃ vr : Value, Box w5 X 52 (itc { ({ Itm.zero 201 with ssrc := l32 l 0 } : Itm) with reps := (List.range 0).map fun i => rptAt l (4 + 24 * i) } vr (.slice none 0 0) (.slice none 0 0)) ∧ OwnEls 7 RptR w5 B0 57 vr ((List.range 0).map fun i => rptAt l (4 + 24 * i)) []) := Lib.hid ⟨.slice none 0 0, HX.out, OwnEls.nil _ _ _⟩
  go_upto_region 12 with fail
  go_loopw [10] (fun iv wr => ∃ (j : Nat) (vr : Value), j ≤ cn ∧ iv = .int .i64 (j : Nat) ∧ Box wr X 52 (itc { ({ Itm.zero 201 with ssrc := l32 l 0 } : Itm) with reps := (List.range j).map fun i => rptAt l (4 + 24 * i) } vr (.slice none 0 0) (.slice none 0 0)) ∧ OwnEls 7 RptR wr B0 57 vr ((List.range j).map fun i => rptAt l (4 + 24 * i)) [] ∧ Box wr w.heap.size 52 #[.int .i64 0, .int .u32 0, .int .u64 0, .int .u32 0, .int .u32 0, .int .u32 0, .slice none 0 0, .slice none 0 0, .slice none 0 0, .string ⟨#[]⟩] ∧ Fr [] w wr ∧ B0 ≤ wr.heap.size) (fun iv _ => cn - (intOf iv).toNat)
  case atStart =>
    obtain ⟨vr, h1, h2⟩ := HPL.out
    exact ⟨0, vr, Nat.zero_le _, rfl, h1, h2, HRS.out, HF.out, HB0.out⟩
  case round =>
    clear HPL HF HH HRS HX HB0
    obtain ⟨j, vr, hj, rfl, hx, hown, hrs, hF, hb0⟩ := hrel
    obtain ⟨av, cv, ev⟩ := hown.shape
    rw [List.length_map, List.length_range] at ev
    subst ev
    have HX := Lib.hid hx; have HOW := Lib.hid hown; have HRS := Lib.hid hrs; have HF := Lib.hid hF; have HB0 := Lib.hid hb0; have HH := Lib.hid (Sl.keep HHW.out hF)
    clear hx hown hrs hF hb0
    by_cases hlt : j < cn
    · obtain ⟨k, hk⟩ : ∃ k, 4 + 24 * j = k := ⟨_, rfl⟩
      have hk1 : (24 : Int) * ((j : Nat) : Int) = ((24 * j : Nat) : Int) := by omega
      obtain ⟨j24, hj24⟩ : ∃ j24, 24 * j = j24 := ⟨_, rfl⟩
      rw [hj24] at hk1 hk
      have hk2 : (4 : Int) + ((j24 : Nat) : Int) = ((k : Nat) : Int) := by omega
      have hi0 : IntKind.i64.wrap (24 * ((j : Nat) : Int)) = ((j24 : Nat) : Int) := by rw [hk1]; exact IntWalk.i64_in _ (by omega)
      have hi1 : IntKind.i64.wrap ((4 : Int) + ((j24 : Nat) : Int)) = ((k : Nat) : Int) := by rw [hk2]; exact IntWalk.i64_in _ (by omega)
      have hi2 : IntKind.i64.wrap ((k : Nat) : Int) = ((k : Nat) : Int) := IntWalk.i64_in _ (by omega)
      have hi3 : IntKind.i64.wrap ((j24 : Nat) : Int) = ((j24 : Nat) : Int) := IntWalk.i64_in _ (by omega)
      have hkm : k + 24 ≤ m := by omega
      have hkm2 : ((k : Nat) : Int) ≤ ((m : Nat) : Int) := by omega
      have hkm3 : k ≤ m := by omega
      have hkc : ¬ cap = k := by omega
      have HK : Hid (4 + 24 * j = k) := Lib.hid (by omega)
      have HSB : Hid (Bytes wr (.slice (some ⟨b, o + k, none⟩) (m - k) (cap - k)) (l.drop k)) := Lib.hid (by
        have h9 := Sl.sub' HH.out k (m - k) (by omega)
        rw [if_neg hkc, ← List.map_drop, List.take_of_length_le (by rw [List.length_map, List.length_drop, HM.out]; exact Nat.le_refl _)] at h9
        exact h9)
      have hcl := r07report_any HSB.out (by rw [List.length_drop, HM.out]; omega)
      rw [rptAt_drop, Nat.add_zero] at hcl
      clear hcl
      clear hk hj24
      go_upto_region 14 with fail
      refine wp_region_T (fun w' => Fr [] wr.drew w') [10, 11, 12] 13 #[false, false, false, false, false, false, false, false, false, false, false, false, false] (by kernel_rfl) rfl rfl ?_
      try simp only [List.append_eq, List.cons_append, List.nil_append]
      have hF := (Fr.refl [] wr).drew
      have HX := Lib.hid (HX.out.keep hF); have HOW := Lib.hid (HOW.out.keep Rep.rpt hF); have HRS := Lib.hid (HRS.out.keep hF); have HF := Lib.hid (HF.out.trans hF); have HB0 := Lib.hid (Nat.le_trans HB0.out hF.size); have HSB := Lib.hid (Sl.keep HSB.out hF)
      clear hF
      have HSS : Hid (Fr [] wr.drew wr.drew) := Lib.hid (Fr.refl _ _)
      generalize wr.drew = wd at *
      refine wpAnyT_load (i := 0) (v := ?_) rfl (by kernel_rfl) (by kernel_rfl) (by kernel_rfl) (by kernel_rfl) (by kernel_rfl) (fun _ _ _ h => h) HSS.out (by rfl) ?_ ?_
      rotate_left
      · intro w hSw; skip; go_simp; try with_reducible rfl
      simp only [Act.put, List.getElem_toArray, List.getElem_cons_zero, List.getElem_cons_succ, List.setIfInBounds_toArray, List.set_cons_zero, List.set_cons_succ]
      refine wpAnyT_load (i := 1) (v := ?_) rfl (by kernel_rfl) (by kernel_rfl) (by kernel_rfl) (by kernel_rfl) (by kernel_rfl) (fun _ _ _ h => h) HSS.out (by rfl) ?_ ?_
      rotate_left
      · intro w hSw; have n1 := (HX.out.keep hSw).cell 6; simp only [itc, List.getElem?_toArray, List.getElem?_cons_succ, List.getElem?_cons_zero] at n1; go_simp; try with_reducible rfl
      simp only [Act.put, List.getElem_toArray, List.getElem_cons_zero, List.getElem_cons_succ, List.setIfInBounds_toArray, List.set_cons_zero, List.set_cons_succ]
      refine wpAnyT_load (i := 2) (v := ?_) rfl (by kernel_rfl) (by kernel_rfl) (by kernel_rfl) (by kernel_rfl) (by kernel_rfl) (fun _ _ _ h => h) HSS.out (by rfl) ?_ ?_
      rotate_left
      · intro w hSw; skip; go_simp; try with_reducible rfl
      simp only [Act.put, List.getElem_toArray, List.getElem_cons_zero, List.getElem_cons_succ, List.setIfInBounds_toArray, List.set_cons_zero, List.set_cons_succ]
      refine wpAnyT_load (i := 3) (v := ?_) rfl (by kernel_rfl) (by kernel_rfl) (by kernel_rfl) (by kernel_rfl) (by kernel_rfl) (fun _ _ _ h => h) HSS.out (by rfl) ?_ ?_
      rotate_left
      · intro w hSw; skip; go_simp; try with_reducible rfl
      simp only [Act.put, List.getElem_toArray, List.getElem_cons_zero, List.getElem_cons_succ, List.setIfInBounds_toArray, List.set_cons_zero, List.set_cons_succ]
      refine wpAnyT_load (i := 4) (v := ?_) rfl (by kernel_rfl) (by kernel_rfl) (by kernel_rfl) (by kernel_rfl) (by kernel_rfl) (fun _ _ _ h => h) HSS.out (by rfl) ?_ ?_
      rotate_left
      · intro w hSw; skip; go_simp; try with_reducible rfl
      simp only [Act.put, List.getElem_toArray, List.getElem_cons_zero, List.getElem_cons_succ, List.setIfInBounds_toArray, List.set_cons_zero, List.set_cons_succ]
      refine wpAnyT_load (i := 5) (v := ?_) rfl (by kernel_rfl) (by kernel_rfl) (by kernel_rfl) (by kernel_rfl) (by kernel_rfl) (fun _ _ _ h => h) HSS.out (by rfl) ?_ ?_
      rotate_left
      · intro w hSw; skip; go_simp; try with_reducible rfl
      simp only [Act.put, List.getElem_toArray, List.getElem_cons_zero, List.getElem_cons_succ, List.setIfInBounds_toArray, List.set_cons_zero, List.set_cons_succ]
      refine wpAnyT_load (i := 6) (v := ?_) rfl (by kernel_rfl) (by kernel_rfl) (by kernel_rfl) (by kernel_rfl) (by kernel_rfl) (fun _ _ _ h => h) HSS.out (by rfl) ?_ ?_
      rotate_left
      · intro w hSw; skip; go_simp; try with_reducible rfl
      simp only [Act.put, List.getElem_toArray, List.getElem_cons_zero, List.getElem_cons_succ, List.setIfInBounds_toArray, List.set_cons_zero, List.set_cons_succ]
      refine wpAnyT_load (i := 7) (v := ?_) rfl (by kernel_rfl) (by kernel_rfl) (by kernel_rfl) (by kernel_rfl) (by kernel_rfl) (fun _ _ _ h => h) HSS.out (by rfl) ?_ ?_
      rotate_left
      · intro w hSw; skip; go_simp; try with_reducible rfl
      simp only [Act.put, List.getElem_toArray, List.getElem_cons_zero, List.getElem_cons_succ, List.setIfInBounds_toArray, List.set_cons_zero, List.set_cons_succ]
      have hcl := r07report_any HSB.out (by rw [List.length_drop, HM.out]; omega)
      rw [rptAt_drop, Nat.add_zero] at hcl
      have HCL := Lib.hid hcl
      clear hcl
      refine wpAnyT_one (i := 8) (by kernel_rfl) rfl (fun K hK => ?_)
      rw [if_pos (by rfl)]
      go_simp
      refine HCL.out.mono ?_
      rintro e wl ⟨rfl, hF⟩
      have HX := Lib.hid (HX.out.keep hF); have HOW := Lib.hid (HOW.out.keep Rep.rpt hF); have HRS := Lib.hid (HRS.out.keep hF); have HF := Lib.hid (HF.out.trans hF); have HB0 := Lib.hid (Nat.le_trans HB0.out hF.size); have HSS := Lib.hid (HSS.out.trans hF)
      clear hF HCL
      go_simp
      refine hK.out _ _ (fun _ => HSS.out) ?_
      clear hK K
      simp only [Act.put, List.getElem_toArray, List.getElem_cons_zero, List.getElem_cons_succ, List.setIfInBounds_toArray, List.set_cons_zero, List.set_cons_succ]
      obtain ⟨wa, ea, hF, hBa, hsa⟩ := one_new wl (rpc7 (rptAt l k)) 57
      have HX := Lib.hid (HX.out.keep hF); have HOW := Lib.hid (HOW.out.keep Rep.rpt hF); have HRS := Lib.hid (HRS.out.keep hF); have HF := Lib.hid (HF.out.trans hF); have HB0 := Lib.hid (Nat.le_trans HB0.out hF.size); have HSS := Lib.hid (HSS.out.trans hF)
      have HBA := Lib.hid hBa; have EA := Lib.hid ea
      clear hF hBa ea hsa
      refine wpAnyT_one (i := 9) (by kernel_rfl) rfl (fun K hK => ?_)
      rw [if_pos (by rfl)]
      go_simp
      rw [EA.out]
      refine hK.out _ _ (fun _ => HSS.out) ?_
      clear hK K
      simp only [Act.put, List.getElem_toArray, List.getElem_cons_zero, List.getElem_cons_succ, List.setIfInBounds_toArray, List.set_cons_zero, List.set_cons_succ]
      have HL1 : Hid (((List.range j).map fun i => rptAt l (4 + 24 * i)).length + 1 ≤ maxLen) := Lib.hid (by rw [List.length_map, List.length_range]; unfold maxLen; omega)
      have HL2 : Hid ((((List.range j).map fun i => rptAt l (4 + 24 * i)).length + 1) * 40 ≤ 140737488355328) := Lib.hid (by rw [List.length_map, List.length_range]; omega)
      have HEL : Hid (Els RptR [rptAt l k] wa (rpc7 (rptAt l k)).toList []) := Lib.hid ⟨_, [], [], [], by simp, rfl, ⟨rfl, rfl⟩, rfl, rfl⟩
      refine wpAnyT_one (i := 10) (by kernel_rfl) rfl (fun K hK => ?_)
      refine step_append_els Rep.rpt (by decide) rfl (.tmp 63) (.tmp 71) 38 rfl B0 57 (.agg #[.int .u32 0, .int .i64 0, .int .i32 0, .int .u32 0, .int .u32 0, .int .u32 0, .int .u32 0]) 40 Try.underlying38 info_rpt rfl (.slice av j cv) ((List.range j).map fun i => rptAt l (4 + 24 * i)) [] rfl HOW.out ⟨wl.heap.size, 0, none⟩ 1 1 rfl [rptAt l k] rfl _ [] HEL.out (fun j u hj => by rw [Addr.add_mid]; exact box_range HBA.out j u hj) (by simp) HL1.out HL2.out HB0.out ?_
      intro vs wb hown hfr hbl
      rw [← HK.out, ← snoc_range (fun i => rptAt l (4 + 24 * i)) j] at hown
      obtain ⟨as1, cs1, es1⟩ := hown.shape
      rw [List.length_map, List.length_range] at es1
      subst es1
      have HOW2 := Lib.hid hown; have HFB := Lib.hid hfr
      clear hown hfr hbl
      refine hK.out _ _ (fun _ => by first | trivial | exact absurd ‹_› (by simp)) ?_
      clear hK K
      simp only [Act.put, List.getElem_toArray, List.getElem_cons_zero, List.getElem_cons_succ, List.setIfInBounds_toArray, List.set_cons_zero, List.set_cons_succ]
      have HNB : Hid (∀ b ∈ (blockOf (.slice av j cv)).toList, B0 ≤ b) := Lib.hid (fun b hb => (HOW.out.block b (mem_toList.1 hb)).1)
      have HBX2 := Lib.hid (Box.fr HX.out HFB.out (fun hm => by have := HNB.out _ hm; have := HXX.out; omega))
      have HRS2 := Lib.hid (Box.fr HRS.out HFB.out (fun hm => by have := HNB.out _ hm; have := HXX.out; omega))
      have n1 := HBX2.out.cell 6; have g1 := HBX2.out.free 6
      simp only [itc, List.getElem?_toArray, List.getElem?_cons_succ, List.getElem?_cons_zero] at n1
      obtain ⟨wc, ec, hFc, hBc, -⟩ := set_new HBX2.out 6 (.slice as1 (j + 1) cs1)
      simp only [itc, List.setIfInBounds_toArray, List.set_cons_zero, List.set_cons_succ] at hBc
      have EC := Lib.hid ec; have HFC := Lib.hid hFc; have HBC := Lib.hid hBc
      clear ec hFc hBc
      refine wpAnyT_one (i := 11) (by kernel_rfl) rfl (fun K hK => ?_)
      rw [if_pos (by rfl)]
      go_simp
      refine hK.out _ _ (fun _ => by first | trivial | exact absurd ‹_› (by simp)) ?_
      clear hK K
      simp only [Act.put, List.getElem_toArray, List.getElem_cons_zero, List.getElem_cons_succ, List.setIfInBounds_toArray, List.set_cons_zero, List.set_cons_succ]
      refine wpAnyT_one (i := 12) (by kernel_rfl) rfl (fun K hK => ?_)
      rw [if_pos (by rfl)]
      go_simp
      rw [EC.out]
      refine hK.out _ _ (fun _ => by first | trivial | exact absurd ‹_› (by simp)) ?_
      clear hK K
      simp only [Act.put, List.getElem_toArray, List.getElem_cons_zero, List.getElem_cons_succ, List.setIfInBounds_toArray, List.set_cons_zero, List.set_cons_succ]
      refine wpAnyT_done (by kernel_rfl) ?_ _
      clear n1 g1
      have HB1 : Hid (B0 ≤ wc.heap.size) := Lib.hid (Nat.le_trans HB0.out (Nat.le_trans HFB.out.size HFC.out.size))
      have HF1 : Hid (Fr [] w wc) := Lib.hid ((HF.out.step HFB.out (fun b hb => .inr (by have := HNB.out b hb; have := HXX.out; omega))).step HFC.out (fun b hb => .inr (by have := HXX.out; simp at hb; omega)))
      have HOW3 := Lib.hid (HOW2.out.fr Rep.rpt HFC.out (by simp) (fun b hb hm => by have := (HOW2.out.block b hb).1; have := HXX.out; simp at hm; omega))
      have HRS3 := Lib.hid (HRS2.out.fr HFC.out (by have := HXX.out; simp; omega))
      clear hi0 hi1 hi2 hi3 hk1 hk2 hkm2 hkm3 hkc
      go_wp2_with fail
      exact ⟨⟨j + 1, .slice as1 (j + 1) cs1, by omega, by go_num, HBC.out, HOW3.out, HRS3.out, HF1.out, HB1.out⟩, by simp [intOf]; omega⟩
    · obtain rfl : j = cn := by omega
      clear hlt hj
      go_wp2_with (first | (refine wpList_load_row_w rfl 52 (.tmp 8) rfl X rfl 52 _ _ HX.out Try.underlying52 rfl (by kernel_rfl) ?_) | (refine wpList_store_row rfl 52 (.tmp 6) (.tmp 74) rfl w.heap.size rfl _ _ rfl 52 HRS.out (by kernel_rfl) rfl (by simp [itc, Value.oneCell']) ?_; intro w9 hY hG; have HY := Lib.hid hY; have HGn := Lib.hid hG; clear hY hG))
      have HOW := Lib.hid (HOW.out.fr Rep.rpt HGn.out (by simp) (fun b hb hm => by have := (HOW.out.block b hb).1; have := HXX.out; simp at hm; omega))
      obtain ⟨BB, hI, hBd⟩ := ItR.reps (b0 := w.heap.size) (x := { ({ Itm.zero 201 with ssrc := l32 l 0 } : Itm) with reps := (List.range j).map fun i => rptAt l (4 + 24 * i) }) HOW.out rfl rfl (by have := HXX.out; omega)
      refine bodyPost_ret (results_row_1 rfl _ _ w.heap.size 52 _ _ rfl HY.out Try.underlying52 rfl (by kernel_rfl)) rfl ⟨_, _, BB, by rw [HYS.out]; rfl, hI, hBd, HF.out.step HGn.out (fun x hx => .inr (by simp at hx; omega)), fun y hy => by rw [HYS.out] at hy; exact Option.some.inj hy⟩
set_option maxRecDepth 100000 in
set_option maxHeartbeats 8000000 in
theorem r07item_200 {w : World} {v : Value} {l : List UInt8} (h : Bytes w v l) (hsm : l.length ≤ 1500) (cn : Nat) (hcn : cn ≤ 31) :
    Calls Try.prog 27 #[.int .i64 200, .int .i64 cn, v] w fun e w' => ResI 200 cn l w e w' := by
  obtain ⟨a, cap, rfl⟩ := Sl.shape h
  have hc := (Sl.len h).2.1
  rw [List.length_map] at h hc ⊢
  have HSM := Lib.hid hsm
  obtain ⟨w1, e1, hF1, hB1, hs1⟩ := one_new w #[.int .i64 0, .int .u32 0, .int .u64 0, .int .u32 0, .int .u32 0, .int .u32 0, .slice none 0 0, .slice none 0 0, .slice none 0 0, .string ⟨#[]⟩] 52
  obtain ⟨w2, e2, hF2, hB2, hs2⟩ := one_new w1 #[.int .i64 200, .int .u32 0, .int .u64 0, .int .u32 0, .int .u32 0, .int .u32 0, .slice none 0 0, .slice none 0 0, .slice none 0 0, .string ⟨#[]⟩] 52
  have HF := Lib.hid (hF1.trans hF2); have HRS := Lib.hid (hB1.keep hF2); have HX := Lib.hid hB2; have E1 := Lib.hid e1; have E2 := Lib.hid e2; have HHW := Lib.hid h; have HH := Lib.hid (Sl.keep (Sl.keep h hF1) hF2)
  obtain ⟨X, hX⟩ : ∃ X, w1.heap.size = X := ⟨_, rfl⟩
  obtain ⟨B0, hB0⟩ : ∃ B0, w2.heap.size = B0 := ⟨_, rfl⟩
  have HXX : Hid (w.heap.size < X ∧ X < B0) := Lib.hid (by omega)
  have HB0 := Lib.hid (Nat.le_of_eq hB0.symm)
  obtain ⟨m, hm⟩ : ∃ m, l.length = m := ⟨_, rfl⟩
  rw [hm] at HH HHW hc hsm ⊢
  have HM := Lib.hid hm
  have HXe := Lib.hid hX
  clear h hF1 hB1 e1 hs1 hF2 hB2 e2 hs2 hm hB0 hX
  go_enter Try.func27, Try.ntmps27
  go_upto_region 1 with fail
  rw [E1.out]
  clear E1
  go_upto_region 2 with fail
  rw [E2.out]
  clear E2
  have hXe := HXe.out
  try simp only [hXe]
  rw [hXe] at HX
  clear hXe
  obtain ⟨c24, hc24⟩ : ∃ c24, 24 * cn = c24 := ⟨_, rfl⟩
  obtain ⟨T, hT⟩ : ∃ T, 24 + c24 = T := ⟨_, rfl⟩
  have hm1 : (24 : Int) * ((cn : Nat) : Int) = ((c24 : Nat) : Int) := by omega
  have hm2 : (24 : Int) + ((c24 : Nat) : Int) = ((T : Nat) : Int) := by omega
  have HT : Hid (24 + 24 * cn = T) := Lib.hid (by omega)
  have hTb : T ≤ 1000 := by omega
  have hcb : c24 ≤ 1000 := by omega
  clear hc24 hT
  by_cases hmT : m = T
  rotate_left
  · have hb1 : (((m : Nat) : Int) != ((T : Nat) : Int)) = true := by rw [bne_iff_ne]; omega
    have HNO : Hid (bodyR 200 cn l = none) := Lib.hid (by rw [body200, if_neg (by rw [HM.out, HT.out]; exact hmT)])
    clear hmT
    go_wp2_with (refine wpList_store_row rfl 52 (.tmp 6) (.tmp 35) rfl w.heap.size rfl _ _ rfl 52 HRS.out (by kernel_rfl) rfl (by simp [Value.oneCell']) ?_; intro w9 hY hG; have HY := Lib.hid hY; have HGn := Lib.hid hG; clear hY hG)
    refine bodyPost_ret (results_row_1 rfl _ _ w.heap.size 52 _ _ rfl HY.out Try.underlying52 rfl (by kernel_rfl)) rfl (ResI.no HNO.out rfl (HF.out.step HGn.out (fun x hx => .inr (by simp at hx; omega))))
  have hb1 : (((m : Nat) : Int) != ((T : Nat) : Int)) = false := by rw [bne_eq_false_iff_eq]; omega
  have HYS := Lib.hid (body200 l cn)
  rw [if_pos (by rw [HM.out, HT.out]; exact hmT)] at HYS
  have hm24 : 24 + 24 * cn = m := by have := HT.out; omega
  have hb1 : (((m : Nat) : Int) != ((T : Nat) : Int)) = false := by rw [bne_eq_false_iff_eq]; omega
  clear hmT
  have hnz : ∃ p, a = some p := by
    cases a with
    | none => have := (Sl.len HH.out).2.2.2 rfl; omega
    | some p => exact ⟨p, rfl⟩
  obtain ⟨⟨b, o, sp⟩, rfl⟩ := hnz
  obtain ⟨b', o', e', hbl, hcell⟩ := Sl.at_ HH.out (k := 0) (by omega)
  simp only [Option.some.injEq, Addr.mk.injEq] at e'
  obtain ⟨rfl, rfl, rfl⟩ := e'
  clear hbl hcell
  have HLT := Lib.hid (Sl.lt HHW.out)
  go_wp2_with fail
  refine (r07long_any HH.out (by rw [HM.out]; omega)).mono ?_
  rintro e w4 ⟨rfl, hF⟩
  have HF := Lib.hid (HF.out.trans hF); have HH := Lib.hid (Sl.keep HH.out hF); have HRS := Lib.hid (HRS.out.keep hF); have HX := Lib.hid (HX.out.keep hF); have HB0 := Lib.hid (Nat.le_trans HB0.out hF.size)
  clear hF hm1 hm2 hb1
  have y1 := HX.out.cell 1; have g1 := HX.out.free 1
  simp only [List.getElem?_toArray, List.getElem?_cons_succ, List.getElem?_cons_zero] at y1
  obtain ⟨w5, e5, hF5, hB5, -⟩ := set_new HX.out 1 (.int .u32 ((l32 l 0).toNat : Nat))
  simp only [List.setIfInBounds_toArray, List.set_cons_zero, List.set_cons_succ] at hB5
  have E5 := Lib.hid e5; have HX := Lib.hid hB5
  have HRS := Lib.hid (HRS.out.fr hF5 (by have := HXX.out; simp; omega)); have HH := Lib.hid (Sl.frL HH.out hF5 (fun b' hb hm => by have h1 := HLT.out b' hb; have := HXX.out; simp at hm; omega)); have HF := Lib.hid (HF.out.step hF5 (fun b hb => .inr (by have := HXX.out; simp at hb; omega))); have HB0 := Lib.hid (Nat.le_trans HB0.out hF5.size)
  clear e5 hF5 hB5
  go_upto_region 9 with fail
  rw [E5.out]
  clear E5 y1 g1
  have hm4 : (12 : Int) ≤ ((cap : Nat) : Int) := by omega
  have hm12 : (12 : Int) ≤ ((m : Nat) : Int) := by omega
  have hm16 : (16 : Int) ≤ ((m : Nat) : Int) := by omega
  have hm20 : (20 : Int) ≤ ((m : Nat) : Int) := by omega
  have hc4 : ¬ cap = 4 := by omega
  have hc12 : ¬ cap = 12 := by omega
  have hc16 : ¬ cap = 16 := by omega
  have hc20 : ¬ cap = 20 := by omega
  go_upto_region 10 with fail
  refine wp_region_T (fun w' => Fr [] w5.drew w') [13, 14, 15, 16, 17, 18, 19] 20 #[false, false, false, false, false, false, false, false, false, false, false, false, false, false, false, false, false, false, false, false] (by kernel_rfl) rfl rfl ?_
  try simp only [List.append_eq, List.cons_append, List.nil_append]
  have hF := (Fr.refl [] w5).drew
  have HF := Lib.hid (HF.out.trans hF)
  have HH := Lib.hid (Sl.keep HH.out hF)
  have HRS := Lib.hid (HRS.out.keep hF)
  have HX := Lib.hid (HX.out.keep hF)
  clear hF
  have HB0 := Lib.hid (Nat.le_trans HB0.out (Nat.le_refl w5.drew.heap.size))
  have HSS : Hid (Fr [] w5.drew w5.drew) := Lib.hid (Fr.refl _ _)
  generalize w5.drew = wd at *
  refine wpAnyT_load (i := 0) (v := ?_) rfl (by kernel_rfl) (by kernel_rfl) (by kernel_rfl) (by kernel_rfl) (by kernel_rfl) (fun _ _ _ h => h) HSS.out (by rfl) ?_ ?_
  rotate_left
  · intro w hSw; skip; go_simp; try with_reducible rfl
  simp only [Act.put, List.getElem_toArray, List.getElem_cons_zero, List.getElem_cons_succ, List.setIfInBounds_toArray, List.set_cons_zero, List.set_cons_succ]
  refine wpAnyT_load (i := 1) (v := ?_) rfl (by kernel_rfl) (by kernel_rfl) (by kernel_rfl) (by kernel_rfl) (by kernel_rfl) (fun _ _ _ h => h) HSS.out (by rfl) ?_ ?_
  rotate_left
  · intro w hSw; skip; go_simp; try with_reducible rfl
  simp only [Act.put, List.getElem_toArray, List.getElem_cons_zero, List.getElem_cons_succ, List.setIfInBounds_toArray, List.set_cons_zero, List.set_cons_succ]
  refine wpAnyT_load (i := 3) (v := ?_) rfl (by kernel_rfl) (by kernel_rfl) (by kernel_rfl) (by kernel_rfl) (by kernel_rfl) (fun _ _ _ h => h) HSS.out (by rfl) ?_ ?_
  rotate_left
  · intro w hSw; skip; go_simp; try with_reducible rfl
  simp only [Act.put, List.getElem_toArray, List.getElem_cons_zero, List.getElem_cons_succ, List.setIfInBounds_toArray, List.set_cons_zero, List.set_cons_succ]
  refine wpAnyT_load (i := 4) (v := ?_) rfl (by kernel_rfl) (by kernel_rfl) (by kernel_rfl) (by kernel_rfl) (by kernel_rfl) (fun _ _ _ h => h) HSS.out (by rfl) ?_ ?_
  rotate_left
  · intro w hSw; skip; go_simp; try with_reducible rfl
  simp only [Act.put, List.getElem_toArray, List.getElem_cons_zero, List.getElem_cons_succ, List.setIfInBounds_toArray, List.set_cons_zero, List.set_cons_succ]
  refine wpAnyT_load (i := 6) (v := ?_) rfl (by kernel_rfl) (by kernel_rfl) (by kernel_rfl) (by kernel_rfl) (by kernel_rfl) (fun _ _ _ h => h) HSS.out (by rfl) ?_ ?_
  rotate_left
  · intro w hSw; skip; go_simp; try with_reducible rfl
  simp only [Act.put, List.getElem_toArray, List.getElem_cons_zero, List.getElem_cons_succ, List.setIfInBounds_toArray, List.set_cons_zero, List.set_cons_succ]
  refine wpAnyT_load (i := 7) (v := ?_) rfl (by kernel_rfl) (by kernel_rfl) (by kernel_rfl) (by kernel_rfl) (by kernel_rfl) (fun _ _ _ h => h) HSS.out (by rfl) ?_ ?_
  rotate_left
  · intro w hSw; skip; go_simp; try with_reducible rfl
  simp only [Act.put, List.getElem_toArray, List.getElem_cons_zero, List.getElem_cons_succ, List.setIfInBounds_toArray, List.set_cons_zero, List.set_cons_succ]
  refine wpAnyT_load (i := 9) (v := ?_) rfl (by kernel_rfl) (by kernel_rfl) (by kernel_rfl) (by kernel_rfl) (by kernel_rfl) (fun _ _ _ h => h) HSS.out (by rfl) ?_ ?_
  rotate_left
  · intro w hSw; skip; go_simp; try with_reducible rfl
  simp only [Act.put, List.getElem_toArray, List.getElem_cons_zero, List.getElem_cons_succ, List.setIfInBounds_toArray, List.set_cons_zero, List.set_cons_succ]
  refine wpAnyT_load (i := 10) (v := ?_) rfl (by kernel_rfl) (by kernel_rfl) (by kernel_rfl) (by kernel_rfl) (by kernel_rfl) (fun _ _ _ h => h) HSS.out (by rfl) ?_ ?_
  rotate_left
  · intro w hSw; skip; go_simp; try with_reducible rfl
  simp only [Act.put, List.getElem_toArray, List.getElem_cons_zero, List.getElem_cons_succ, List.setIfInBounds_toArray, List.set_cons_zero, List.set_cons_succ]
  have hh := HH.out
  rw [← HM.out] at hh
  have HCL1 := Lib.hid (RNum_at (l := l) hh 4 8 (by rw [HM.out]; omega) (by omega) (by omega))
  clear hh
  refine wpAnyT_one (i := 2) (by kernel_rfl) rfl (fun K hK => ?_)
  rw [if_pos (by rfl)]
  go_simp
  refine HCL1.out.mono ?_
  rintro e wl1 ⟨rfl, hF⟩
  have HSS := Lib.hid (HSS.out.trans hF)
  have HB0 := Lib.hid (Nat.le_trans HB0.out hF.size)
  have HF := Lib.hid (HF.out.trans hF)
  have HH := Lib.hid (Sl.keep HH.out hF)
  have HRS := Lib.hid (HRS.out.keep hF)
  have HX := Lib.hid (HX.out.keep hF)
  clear hF HCL1
  go_simp
  refine hK.out _ _ (fun _ => HSS.out) ?_
  clear hK K
  simp only [Act.put, List.getElem_toArray, List.getElem_cons_zero, List.getElem_cons_succ, List.setIfInBounds_toArray, List.set_cons_zero, List.set_cons_succ]
  rw [← l64_nat]
  refine wpAnyT_load (i := 12) (v := ?_) rfl (by kernel_rfl) (by kernel_rfl) (by kernel_rfl) (by kernel_rfl) (by kernel_rfl) (fun _ _ _ h => h) HSS.out (by rfl) ?_ ?_
  rotate_left
  · intro w hSw; skip; go_simp; try with_reducible rfl
  simp only [Act.put, List.getElem_toArray, List.getElem_cons_zero, List.getElem_cons_succ, List.setIfInBounds_toArray, List.set_cons_zero, List.set_cons_succ]
  have hh := HH.out
  rw [← HM.out] at hh
  have HCL2 := Lib.hid (r07long_at (l := l) hh 12 (by rw [HM.out]; omega) (by omega))
  clear hh
  rw [HM.out] at HCL2
  refine wpAnyT_one (i := 5) (by kernel_rfl) rfl (fun K hK => ?_)
  rw [if_pos (by rfl)]
  go_simp
  refine HCL2.out.mono ?_
  rintro e wl2 ⟨rfl, hF⟩
  have HSS := Lib.hid (HSS.out.trans hF)
  have HB0 := Lib.hid (Nat.le_trans HB0.out hF.size)
  have HF := Lib.hid (HF.out.trans hF)
  have HH := Lib.hid (Sl.keep HH.out hF)
  have HRS := Lib.hid (HRS.out.keep hF)
  have HX := Lib.hid (HX.out.keep hF)
  clear hF HCL2
  go_simp
  refine hK.out _ _ (fun _ => HSS.out) ?_
  clear hK K
  simp only [Act.put, List.getElem_toArray, List.getElem_cons_zero, List.getElem_cons_succ, List.setIfInBounds_toArray, List.set_cons_zero, List.set_cons_succ]
  have hh := HH.out
  rw [← HM.out] at hh
  have HCL3 := Lib.hid (r07long_at (l := l) hh 16 (by rw [HM.out]; omega) (by omega))
  clear hh
  rw [HM.out] at HCL3
  refine wpAnyT_one (i := 8) (by kernel_rfl) rfl (fun K hK => ?_)
  rw [if_pos (by rfl)]
  go_simp
  refine HCL3.out.mono ?_
  rintro e wl3 ⟨rfl, hF⟩
  have HSS := Lib.hid (HSS.out.trans hF)
  have HB0 := Lib.hid (Nat.le_trans HB0.out hF.size)
  have HF := Lib.hid (HF.out.trans hF)
  have HH := Lib.hid (Sl.keep HH.out hF)
  have HRS := Lib.hid (HRS.out.keep hF)
  have HX := Lib.hid (HX.out.keep hF)
  clear hF HCL3
  go_simp
  refine hK.out _ _ (fun _ => HSS.out) ?_
  clear hK K
  simp only [Act.put, List.getElem_toArray, List.getElem_cons_zero, List.getElem_cons_succ, List.setIfInBounds_toArray, List.set_cons_zero, List.set_cons_succ]
  have hh := HH.out
  rw [← HM.out] at hh
  have HCL4 := Lib.hid (r07long_at (l := l) hh 20 (by rw [HM.out]; omega) (by omega))
  clear hh
  rw [HM.out] at HCL4
  refine wpAnyT_one (i := 11) (by kernel_rfl) rfl (fun K hK => ?_)
  rw [if_pos (by rfl)]
  go_simp
  refine HCL4.out.mono ?_
  rintro e wl4 ⟨rfl, hF⟩
  have HSS := Lib.hid (HSS.out.trans hF)
  have HB0 := Lib.hid (Nat.le_trans HB0.out hF.size)
  have HF := Lib.hid (HF.out.trans hF)
  have HH := Lib.hid (Sl.keep HH.out hF)
  have HRS := Lib.hid (HRS.out.keep hF)
  have HX := Lib.hid (HX.out.keep hF)
  clear hF HCL4
  go_simp
  refine hK.out _ _ (fun _ => HSS.out) ?_
  clear hK K
  simp only [Act.put, List.getElem_toArray, List.getElem_cons_zero, List.getElem_cons_succ, List.setIfInBounds_toArray, List.set_cons_zero, List.set_cons_succ]
  have g2 := HX.out.free 2; have g3 := HX.out.free 3; have g4 := HX.out.free 4; have g5 := HX.out.free 5
  have y2 := HX.out.cell 2; have y3 := HX.out.cell 3; have y4 := HX.out.cell 4; have y5 := HX.out.cell 5
  simp only [List.getElem?_toArray, List.getElem?_cons_succ, List.getElem?_cons_zero] at y2 y3 y4 y5
  obtain ⟨z2, e2, hF2, hB2, -⟩ := set_new HX.out 2 (.int .u64 ((l64 l 4).toNat : Nat))
  simp only [List.setIfInBounds_toArray, List.set_cons_zero, List.set_cons_succ] at hB2
  obtain ⟨z3, e3, hF3, hB3, -⟩ := set_new hB2 3 (.int .u32 ((l32 l 12).toNat : Nat))
  simp only [List.setIfInBounds_toArray, List.set_cons_zero, List.set_cons_succ] at hB3
  obtain ⟨z4, e4, hF4, hB4, -⟩ := set_new hB3 4 (.int .u32 ((l32 l 16).toNat : Nat))
  simp only [List.setIfInBounds_toArray, List.set_cons_zero, List.set_cons_succ] at hB4
  obtain ⟨z5, e5, hF5, hB5, -⟩ := set_new hB4 5 (.int .u32 ((l32 l 20).toNat : Nat))
  simp only [List.setIfInBounds_toArray, List.set_cons_zero, List.set_cons_succ] at hB5
  have w3g := hB2.free 3; have w3c := hB2.cell 3; have w4g := hB3.free 4; have w4c := hB3.cell 4; have w5g := hB4.free 5; have w5c := hB4.cell 5
  simp only [List.getElem?_toArray, List.getElem?_cons_succ, List.getElem?_cons_zero] at w3c w4c w5c
  have HFX := Lib.hid (((hF2.trans hF3).trans hF4).trans hF5); have HBX := Lib.hid hB5
  have E2 := Lib.hid e2; have E3 := Lib.hid e3; have E4 := Lib.hid e4; have E5 := Lib.hid e5
  clear e2 e3 e4 e5 hF2 hF3 hF4 hF5 hB2 hB3 hB4 hB5
  refine wpAnyT_one (i := 13) (by kernel_rfl) rfl (fun K hK => ?_)
  rw [if_pos (by rfl)]
  go_simp
  rw [E2.out]
  refine hK.out _ _ (fun _ => by first | trivial | exact absurd ‹_› (by simp)) ?_
  clear hK K
  simp only [Act.put, List.getElem_toArray, List.getElem_cons_zero, List.getElem_cons_succ, List.setIfInBounds_toArray, List.set_cons_zero, List.set_cons_succ]
  refine wpAnyT_one (i := 14) (by kernel_rfl) rfl (fun K hK => ?_)
  rw [if_pos (by rfl)]
  go_simp
  refine hK.out _ _ (fun _ => by first | trivial | exact absurd ‹_› (by simp)) ?_
  clear hK K
  simp only [Act.put, List.getElem_toArray, List.getElem_cons_zero, List.getElem_cons_succ, List.setIfInBounds_toArray, List.set_cons_zero, List.set_cons_succ]
  refine wpAnyT_one (i := 15) (by kernel_rfl) rfl (fun K hK => ?_)
  rw [if_pos (by rfl)]
  go_simp
  rw [E3.out]
  refine hK.out _ _ (fun _ => by first | trivial | exact absurd ‹_› (by simp)) ?_
  clear hK K
  simp only [Act.put, List.getElem_toArray, List.getElem_cons_zero, List.getElem_cons_succ, List.setIfInBounds_toArray, List.set_cons_zero, List.set_cons_succ]
  refine wpAnyT_one (i := 16) (by kernel_rfl) rfl (fun K hK => ?_)
  rw [if_pos (by rfl)]
  go_simp
  refine hK.out _ _ (fun _ => by first | trivial | exact absurd ‹_› (by simp)) ?_
  clear hK K
  simp only [Act.put, List.getElem_toArray, List.getElem_cons_zero, List.getElem_cons_succ, List.setIfInBounds_toArray, List.set_cons_zero, List.set_cons_succ]
  refine wpAnyT_one (i := 17) (by kernel_rfl) rfl (fun K hK => ?_)
  rw [if_pos (by rfl)]
  go_simp
  rw [E4.out]
  refine hK.out _ _ (fun _ => by first | trivial | exact absurd ‹_› (by simp)) ?_
  clear hK K
  simp only [Act.put, List.getElem_toArray, List.getElem_cons_zero, List.getElem_cons_succ, List.setIfInBounds_toArray, List.set_cons_zero, List.set_cons_succ]
  refine wpAnyT_one (i := 18) (by kernel_rfl) rfl (fun K hK => ?_)
  rw [if_pos (by rfl)]
  go_simp
  refine hK.out _ _ (fun _ => by first | trivial | exact absurd ‹_› (by simp)) ?_
  clear hK K
  simp only [Act.put, List.getElem_toArray, List.getElem_cons_zero, List.getElem_cons_succ, List.setIfInBounds_toArray, List.set_cons_zero, List.set_cons_succ]
  refine wpAnyT_one (i := 19) (by kernel_rfl) rfl (fun K hK => ?_)
  rw [if_pos (by rfl)]
  go_simp
  rw [E5.out]
  refine hK.out _ _ (fun _ => by first | trivial | exact absurd ‹_› (by simp)) ?_
  clear hK K
  simp only [Act.put, List.getElem_toArray, List.getElem_cons_zero, List.getElem_cons_succ, List.setIfInBounds_toArray, List.set_cons_zero, List.set_cons_succ]
  refine wpAnyT_done (by kernel_rfl) ?_ _
  clear y2 y3 y4 y5 g2 g3 g4 g5 w3g w3c w4g w4c w5g w5c E2 E3 E4 E5
  have HX := HBX
  have HRS := Lib.hid (HRS.out.fr HFX.out (by have := HXX.out; simp; omega)); have HH := Lib.hid (Sl.frL HH.out HFX.out (fun b' hb hm => by have h1 := HLT.out b' hb; have := HXX.out; simp at hm; omega)); have HF := Lib.hid (HF.out.step HFX.out (fun b hb => .inr (by have := HXX.out; simp at hb; omega))); have HB0 := Lib.hid (Nat.le_trans HB0.out HFX.out.size)
  clear HBX HFX
  clear hm4 hm12 hm16 hm20 hc4 hc12 hc16 hc20
  have HPL : Hid (∃ vr : Value, Box z5 X 52 (itc { ({ Itm.zero 200 with ssrc := l32 l 0, ntp := l64 l 4, ts := l32 l 12, pks := l32 l 16, ocs := l32 l 20 } : Itm) with reps := (List.range 0).map fun i => rptAt l (24 + 24 * i) } vr (.slice none 0 0) (.slice none 0 0)) ∧ OwnEls 7 RptR z5 B0 57 vr ((List.range 0).map fun i => rptAt l (24 + 24 * i)) []) := Lib.hid ⟨.slice none 0 0, HX.out, OwnEls.nil _ _ _⟩
  go_upto_region 12 with fail
  go_loopw [10] (fun iv wr => ∃ (j : Nat) (vr : Value), j ≤ cn ∧ iv = .int .i64 (j : Nat) ∧ Box wr X 52 (itc { ({ Itm.zero 200 with ssrc := l32 l 0, ntp := l64 l 4, ts := l32 l 12, pks := l32 l 16, ocs := l32 l 20 } : Itm) with reps := (List.range j).map fun i => rptAt l (24 + 24 * i) } vr (.slice none 0 0) (.slice none 0 0)) ∧ OwnEls 7 RptR wr B0 57 vr ((List.range j).map fun i => rptAt l (24 + 24 * i)) [] ∧ Box wr w.heap.size 52 #[.int .i64 0, .int .u32 0, .int .u64 0, .int .u32 0, .int .u32 0, .int .u32 0, .slice none 0 0, .slice none 0 0, .slice none 0 0, .string ⟨#[]⟩] ∧ Fr [] w wr ∧ B0 ≤ wr.heap.size) (fun iv _ => cn - (intOf iv).toNat)
  case atStart =>
    obtain ⟨vr, h1, h2⟩ := HPL.out
    exact ⟨0, vr, Nat.zero_le _, rfl, h1, h2, HRS.out, HF.out, HB0.out⟩
  case round =>
    clear HPL HF HH HRS HX HB0
    obtain ⟨j, vr, hj, rfl, hx, hown, hrs, hF, hb0⟩ := hrel
    obtain ⟨av, cv, ev⟩ := hown.shape
    rw [List.length_map, List.length_range] at ev
    subst ev
    have HX := Lib.hid hx; have HOW := Lib.hid hown; have HRS := Lib.hid hrs; have HF := Lib.hid hF; have HB0 := Lib.hid hb0; have HH := Lib.hid (Sl.keep HHW.out hF)
    clear hx hown hrs hF hb0
    by_cases hlt : j < cn
    · obtain ⟨k, hk⟩ : ∃ k, 24 + 24 * j = k := ⟨_, rfl⟩
      have hk1 : (24 : Int) * ((j : Nat) : Int) = ((24 * j : Nat) : Int) := by omega
      obtain ⟨j24, hj24⟩ : ∃ j24, 24 * j = j24 := ⟨_, rfl⟩
      rw [hj24] at hk1 hk
      have hk2 : (24 : Int) + ((j24 : Nat) : Int) = ((k : Nat) : Int) := by omega
      have hi0 : IntKind.i64.wrap (24 * ((j : Nat) : Int)) = ((j24 : Nat) : Int) := by rw [hk1]; exact IntWalk.i64_in _ (by omega)
      have hi1 : IntKind.i64.wrap ((24 : Int) + ((j24 : Nat) : Int)) = ((k : Nat) : Int) := by rw [hk2]; exact IntWalk.i64_in _ (by omega)
      have hi2 : IntKind.i64.wrap ((k : Nat) : Int) = ((k : Nat) : Int) := IntWalk.i64_in _ (by omega)
      have hi3 : IntKind.i64.wrap ((j24 : Nat) : Int) = ((j24 : Nat) : Int) := IntWalk.i64_in _ (by omega)
      have hkm : k + 24 ≤ m := by omega
      have hkm2 : ((k : Nat) : Int) ≤ ((m : Nat) : Int) := by omega
      have hkm3 : k ≤ m := by omega
      have hkc : ¬ cap = k := by omega
      have HK : Hid (24 + 24 * j = k) := Lib.hid (by omega)
      have HSB : Hid (Bytes wr (.slice (some ⟨b, o + k, none⟩) (m - k) (cap - k)) (l.drop k)) := Lib.hid (by
        have h9 := Sl.sub' HH.out k (m - k) (by omega)
        rw [if_neg hkc, ← List.map_drop, List.take_of_length_le (by rw [List.length_map, List.length_drop, HM.out]; exact Nat.le_refl _)] at h9
        exact h9)
      have hcl := r07report_any HSB.out (by rw [List.length_drop, HM.out]; omega)
      rw [rptAt_drop, Nat.add_zero] at hcl
      clear hcl
      clear hk hj24
      go_upto_region 14 with fail
      refine wp_region_T (fun w' => Fr [] wr.drew w') [10, 11, 12] 13 #[false, false, false, false, false, false, false, false, false, false, false, false, false] (by kernel_rfl) rfl rfl ?_
      try simp only [List.append_eq, List.cons_append, List.nil_append]
      have hF := (Fr.refl [] wr).drew
      have HX := Lib.hid (HX.out.keep hF); have HOW := Lib.hid (HOW.out.keep Rep.rpt hF); have HRS := Lib.hid (HRS.out.keep hF); have HF := Lib.hid (HF.out.trans hF); have HB0 := Lib.hid (Nat.le_trans HB0.out hF.size); have HSB := Lib.hid (Sl.keep HSB.out hF)
      clear hF
      have HSS : Hid (Fr [] wr.drew wr.drew) := Lib.hid (Fr.refl _ _)
      generalize wr.drew = wd at *
      refine wpAnyT_load (i := 0) (v := ?_) rfl (by kernel_rfl) (by kernel_rfl) (by kernel_rfl) (by kernel_rfl) (by kernel_rfl) (fun _ _ _ h => h) HSS.out (by rfl) ?_ ?_
      rotate_left
      · intro w hSw; skip; go_simp; try with_reducible rfl
      simp only [Act.put, List.getElem_toArray, List.getElem_cons_zero, List.getElem_cons_succ, List.setIfInBounds_toArray, List.set_cons_zero, List.set_cons_succ]
      refine wpAnyT_load (i := 1) (v := ?_) rfl (by kernel_rfl) (by kernel_rfl) (by kernel_rfl) (by kernel_rfl) (by kernel_rfl) (fun _ _ _ h => h) HSS.out (by rfl) ?_ ?_
      rotate_left
      · intro w hSw; have n1 := (HX.out.keep hSw).cell 6; simp only [itc, List.getElem?_toArray, List.getElem?_cons_succ, List.getElem?_cons_zero] at n1; go_simp; try with_reducible rfl
      simp only [Act.put, List.getElem_toArray, List.getElem_cons_zero, List.getElem_cons_succ, List.setIfInBounds_toArray, List.set_cons_zero, List.set_cons_succ]
      refine wpAnyT_load (i := 2) (v := ?_) rfl (by kernel_rfl) (by kernel_rfl) (by kernel_rfl) (by kernel_rfl) (by kernel_rfl) (fun _ _ _ h => h) HSS.out (by rfl) ?_ ?_
      rotate_left
      · intro w hSw; skip; go_simp; try with_reducible rfl
      simp only [Act.put, List.getElem_toArray, List.getElem_cons_zero, List.getElem_cons_succ, List.setIfInBounds_toArray, List.set_cons_zero, List.set_cons_succ]
      refine wpAnyT_load (i := 3) (v := ?_) rfl (by kernel_rfl) (by kernel_rfl) (by kernel_rfl) (by kernel_rfl) (by kernel_rfl) (fun _ _ _ h => h) HSS.out (by rfl) ?_ ?_
      rotate_left
      · intro w hSw; skip; go_simp; try with_reducible rfl
      simp only [Act.put, List.getElem_toArray, List.getElem_cons_zero, List.getElem_cons_succ, List.setIfInBounds_toArray, List.set_cons_zero, List.set_cons_succ]
      refine wpAnyT_load (i := 4) (v := ?_) rfl (by kernel_rfl) (by kernel_rfl) (by kernel_rfl) (by kernel_rfl) (by kernel_rfl) (fun _ _ _ h => h) HSS.out (by rfl) ?_ ?_
      rotate_left
      · intro w hSw; skip; go_simp; try with_reducible rfl
      simp only [Act.put, List.getElem_toArray, List.getElem_cons_zero, List.getElem_cons_succ, List.setIfInBounds_toArray, List.set_cons_zero, List.set_cons_succ]
      refine wpAnyT_load (i := 5) (v := ?_) rfl (by kernel_rfl) (by kernel_rfl) (by kernel_rfl) (by kernel_rfl) (by kernel_rfl) (fun _ _ _ h => h) HSS.out (by rfl) ?_ ?_
      rotate_left
      · intro w hSw; skip; go_simp; try with_reducible rfl
      simp only [Act.put, List.getElem_toArray, List.getElem_cons_zero, List.getElem_cons_succ, List.setIfInBounds_toArray, List.set_cons_zero, List.set_cons_succ]
      refine wpAnyT_load (i := 6) (v := ?_) rfl (by kernel_rfl) (by kernel_rfl) (by kernel_rfl) (by kernel_rfl) (by kernel_rfl) (fun _ _ _ h => h) HSS.out (by rfl) ?_ ?_
      rotate_left
      · intro w hSw; skip; go_simp; try with_reducible rfl
      simp only [Act.put, List.getElem_toArray, List.getElem_cons_zero, List.getElem_cons_succ, List.setIfInBounds_toArray, List.set_cons_zero, List.set_cons_succ]
      refine wpAnyT_load (i := 7) (v := ?_) rfl (by kernel_rfl) (by kernel_rfl) (by kernel_rfl) (by kernel_rfl) (by kernel_rfl) (fun _ _ _ h => h) HSS.out (by rfl) ?_ ?_
      rotate_left
      · intro w hSw; skip; go_simp; try with_reducible rfl
      simp only [Act.put, List.getElem_toArray, List.getElem_cons_zero, List.getElem_cons_succ, List.setIfInBounds_toArray, List.set_cons_zero, List.set_cons_succ]
      have hcl := r07report_any HSB.out (by rw [List.length_drop, HM.out]; omega)
      rw [rptAt_drop, Nat.add_zero] at hcl
      have HCL := Lib.hid hcl
      clear hcl
      refine wpAnyT_one (i := 8) (by kernel_rfl) rfl (fun K hK => ?_)
      rw [if_pos (by rfl)]
      go_simp
      refine HCL.out.mono ?_
      rintro e wl ⟨rfl, hF⟩
      have HX := Lib.hid (HX.out.keep hF); have HOW := Lib.hid (HOW.out.keep Rep.rpt hF); have HRS := Lib.hid (HRS.out.keep hF); have HF := Lib.hid (HF.out.trans hF); have HB0 := Lib.hid (Nat.le_trans HB0.out hF.size); have HSS := Lib.hid (HSS.out.trans hF)
      clear hF HCL
      go_simp
      refine hK.out _ _ (fun _ => HSS.out) ?_
      clear hK K
      simp only [Act.put, List.getElem_toArray, List.getElem_cons_zero, List.getElem_cons_succ, List.setIfInBounds_toArray, List.set_cons_zero, List.set_cons_succ]
      obtain ⟨wa, ea, hF, hBa, hsa⟩ := one_new wl (rpc7 (rptAt l k)) 57
      have HX := Lib.hid (HX.out.keep hF); have HOW := Lib.hid (HOW.out.keep Rep.rpt hF); have HRS := Lib.hid (HRS.out.keep hF); have HF := Lib.hid (HF.out.trans hF); have HB0 := Lib.hid (Nat.le_trans HB0.out hF.size); have HSS := Lib.hid (HSS.out.trans hF)
      have HBA := Lib.hid hBa; have EA := Lib.hid ea
      clear hF hBa ea hsa
      refine wpAnyT_one (i := 9) (by kernel_rfl) rfl (fun K hK => ?_)
      rw [if_pos (by rfl)]
      go_simp
      rw [EA.out]
      refine hK.out _ _ (fun _ => HSS.out) ?_
      clear hK K
      simp only [Act.put, List.getElem_toArray, List.getElem_cons_zero, List.getElem_cons_succ, List.setIfInBounds_toArray, List.set_cons_zero, List.set_cons_succ]
      have HL1 : Hid (((List.range j).map fun i => rptAt l (24 + 24 * i)).length + 1 ≤ maxLen) := Lib.hid (by rw [List.length_map, List.length_range]; unfold maxLen; omega)
      have HL2 : Hid ((((List.range j).map fun i => rptAt l (24 + 24 * i)).length + 1) * 40 ≤ 140737488355328) := Lib.hid (by rw [List.length_map, List.length_range]; omega)
      have HEL : Hid (Els RptR [rptAt l k] wa (rpc7 (rptAt l k)).toList []) := Lib.hid ⟨_, [], [], [], by simp, rfl, ⟨rfl, rfl⟩, rfl, rfl⟩
      refine wpAnyT_one (i := 10) (by kernel_rfl) rfl (fun K hK => ?_)
      refine step_append_els Rep.rpt (by decide) rfl (.tmp 63) (.tmp 71) 38 rfl B0 57 (.agg #[.int .u32 0, .int .i64 0, .int .i32 0, .int .u32 0, .int .u32 0, .int .u32 0, .int .u32 0]) 40 Try.underlying38 info_rpt rfl (.slice av j cv) ((List.range j).map fun i => rptAt l (24 + 24 * i)) [] rfl HOW.out ⟨wl.heap.size, 0, none⟩ 1 1 rfl [rptAt l k] rfl _ [] HEL.out (fun j u hj => by rw [Addr.add_mid]; exact box_range HBA.out j u hj) (by simp) HL1.out HL2.out HB0.out ?_
      intro vs wb hown hfr hbl
      rw [← HK.out, ← snoc_range (fun i => rptAt l (24 + 24 * i)) j] at hown
      obtain ⟨as1, cs1, es1⟩ := hown.shape
      rw [List.length_map, List.length_range] at es1
      subst es1
      have HOW2 := Lib.hid hown; have HFB := Lib.hid hfr
      clear hown hfr hbl
      refine hK.out _ _ (fun _ => by first | trivial | exact absurd ‹_› (by simp)) ?_
      clear hK K
      simp only [Act.put, List.getElem_toArray, List.getElem_cons_zero, List.getElem_cons_succ, List.setIfInBounds_toArray, List.set_cons_zero, List.set_cons_succ]
      have HNB : Hid (∀ b ∈ (blockOf (.slice av j cv)).toList, B0 ≤ b) := Lib.hid (fun b hb => (HOW.out.block b (mem_toList.1 hb)).1)
      have HBX2 := Lib.hid (Box.fr HX.out HFB.out (fun hm => by have := HNB.out _ hm; have := HXX.out; omega))
      have HRS2 := Lib.hid (Box.fr HRS.out HFB.out (fun hm => by have := HNB.out _ hm; have := HXX.out; omega))
      have n1 := HBX2.out.cell 6; have g1 := HBX2.out.free 6
      simp only [itc, List.getElem?_toArray, List.getElem?_cons_succ, List.getElem?_cons_zero] at n1
      obtain ⟨wc, ec, hFc, hBc, -⟩ := set_new HBX2.out 6 (.slice as1 (j + 1) cs1)
      simp only [itc, List.setIfInBounds_toArray, List.set_cons_zero, List.set_cons_succ] at hBc
      have EC := Lib.hid ec; have HFC := Lib.hid hFc; have HBC := Lib.hid hBc
      clear ec hFc hBc
      refine wpAnyT_one (i := 11) (by kernel_rfl) rfl (fun K hK => ?_)
      rw [if_pos (by rfl)]
      go_simp
      refine hK.out _ _ (fun _ => by first | trivial | exact absurd ‹_› (by simp)) ?_
      clear hK K
      simp only [Act.put, List.getElem_toArray, List.getElem_cons_zero, List.getElem_cons_succ, List.setIfInBounds_toArray, List.set_cons_zero, List.set_cons_succ]
      refine wpAnyT_one (i := 12) (by kernel_rfl) rfl (fun K hK => ?_)
      rw [if_pos (by rfl)]
      go_simp
      rw [EC.out]
      refine hK.out _ _ (fun _ => by first | trivial | exact absurd ‹_› (by simp)) ?_
      clear hK K
      simp only [Act.put, List.getElem_toArray, List.getElem_cons_zero, List.getElem_cons_succ, List.setIfInBounds_toArray, List.set_cons_zero, List.set_cons_succ]
      refine wpAnyT_done (by kernel_rfl) ?_ _
      clear n1 g1
      have HB1 : Hid (B0 ≤ wc.heap.size) := Lib.hid (Nat.le_trans HB0.out (Nat.le_trans HFB.out.size HFC.out.size))
      have HF1 : Hid (Fr [] w wc) := Lib.hid ((HF.out.step HFB.out (fun b hb => .inr (by have := HNB.out b hb; have := HXX.out; omega))).step HFC.out (fun b hb => .inr (by have := HXX.out; simp at hb; omega)))
      have HOW3 := Lib.hid (HOW2.out.fr Rep.rpt HFC.out (by simp) (fun b hb hm => by have := (HOW2.out.block b hb).1; have := HXX.out; simp at hm; omega))
      have HRS3 := Lib.hid (HRS2.out.fr HFC.out (by have := HXX.out; simp; omega))
      clear hi0 hi1 hi2 hi3 hk1 hk2 hkm2 hkm3 hkc
      go_wp2_with fail
      exact ⟨⟨j + 1, .slice as1 (j + 1) cs1, by omega, by go_num, HBC.out, HOW3.out, HRS3.out, HF1.out, HB1.out⟩, by simp [intOf]; omega⟩
    · obtain rfl : j = cn := by omega
      clear hlt hj
      go_wp2_with (first | (refine wpList_load_row_w rfl 52 (.tmp 8) rfl X rfl 52 _ _ HX.out Try.underlying52 rfl (by kernel_rfl) ?_) | (refine wpList_store_row rfl 52 (.tmp 6) (.tmp 74) rfl w.heap.size rfl _ _ rfl 52 HRS.out (by kernel_rfl) rfl (by simp [itc, Value.oneCell']) ?_; intro w9 hY hG; have HY := Lib.hid hY; have HGn := Lib.hid hG; clear hY hG))
      have HOW := Lib.hid (HOW.out.fr Rep.rpt HGn.out (by simp) (fun b hb hm => by have := (HOW.out.block b hb).1; have := HXX.out; simp at hm; omega))
      obtain ⟨BB, hI, hBd⟩ := ItR.reps (b0 := w.heap.size) (x := { ({ Itm.zero 200 with ssrc := l32 l 0, ntp := l64 l 4, ts := l32 l 12, pks := l32 l 16, ocs := l32 l 20 } : Itm) with reps := (List.range j).map fun i => rptAt l (24 + 24 * i) }) HOW.out rfl rfl (by have := HXX.out; omega)
      refine bodyPost_ret (results_row_1 rfl _ _ w.heap.size 52 _ _ rfl HY.out Try.underlying52 rfl (by kernel_rfl)) rfl ⟨_, _, BB, by rw [HYS.out]; rfl, hI, hBd, HF.out.step HGn.out (fun x hx => .inr (by simp at hx; omega)), fun y hy => by rw [HYS.out] at hy; exact Option.some.inj hy⟩
end Go.Proofs.Ytcmpjkopdjncdaa

/- The walk of confluxref07.item at chunks (printed by gen_7ref5.py). -/
namespace Go.Proofs.Ytcmpjkopdjncdaa
open Go.RowKit

set_option maxRecDepth 100000 in
theorem info_rchk : (Try.prog.info? 96).map (fun i => (i.zero, i.size, i.bytes)) = some (some (.agg #[.int .u32 0, .slice none 0 0]), 2, 32) := by kernel_rfl
set_option maxRecDepth 100000 in
set_option maxHeartbeats 8000000 in
theorem r07item_202 {w : World} {v : Value} {l : List UInt8} (h : Bytes w v l) (hsm : l.length ≤ 1500) (cn : Nat) (hcn : cn ≤ 31) :
    Calls Try.prog 27 #[.int .i64 202, .int .i64 cn, v] w fun e w' => ResI 202 cn l w e w' := by
  obtain ⟨a, cap, rfl⟩ := Sl.shape h
  have hc := (Sl.len h).2.1
  rw [List.length_map] at h hc ⊢
  have HSM := Lib.hid hsm
  obtain ⟨w1, e1, hF1, hB1, hs1⟩ := one_new w #[.int .i64 0, .int .u32 0, .int .u64 0, .int .u32 0, .int .u32 0, .int .u32 0, .slice none 0 0, .slice none 0 0, .slice none 0 0, .string ⟨#[]⟩] 52
  obtain ⟨w2, e2, hF2, hB2, hs2⟩ := one_new w1 #[.int .i64 202, .int .u32 0, .int .u64 0, .int .u32 0, .int .u32 0, .int .u32 0, .slice none 0 0, .slice none 0 0, .slice none 0 0, .string ⟨#[]⟩] 52
  have HF := Lib.hid (hF1.trans hF2); have HRS := Lib.hid (hB1.keep hF2); have HX := Lib.hid hB2; have E1 := Lib.hid e1; have E2 := Lib.hid e2; have HHW := Lib.hid h; have HH := Lib.hid (Sl.keep (Sl.keep h hF1) hF2)
  obtain ⟨X, hX⟩ : ∃ X, w1.heap.size = X := ⟨_, rfl⟩
  obtain ⟨B0, hB0⟩ : ∃ B0, w2.heap.size = B0 := ⟨_, rfl⟩
  have HXX : Hid (w.heap.size < X ∧ X < B0) := Lib.hid (by omega)
  have HB0 := Lib.hid (Nat.le_of_eq hB0.symm)
  obtain ⟨m, hm⟩ : ∃ m, l.length = m := ⟨_, rfl⟩
  rw [hm] at HH HHW hc hsm ⊢
  have HM := Lib.hid hm
  have HXe := Lib.hid hX
  clear h hF1 hB1 e1 hs1 hF2 hB2 e2 hs2 hm hB0 hX
  go_enter Try.func27, Try.ntmps27
  go_upto_region 1 with fail
  rw [E1.out]
  clear E1
  go_upto_region 2 with fail
  rw [E2.out]
  clear E2
  have hXe := HXe.out
  try simp only [hXe]
  rw [hXe] at HX
  clear hXe
  have HBD := Lib.hid (body202 l cn)
  have HLW := Lib.hid (fun b hb => Sl.lt HHW.out b hb)
  go_upto_region 18 with fail
  go_loopw [2, 11] (fun bv iv wr => ∃ (j k : Nat) (cs : List Chk) (vc : Value) (Bc : List Nat), j ≤ cn ∧ iv = .int .i64 (j : Nat) ∧ k ≤ m ∧ timesR (chk1 l) j 0 = some (cs, k) ∧ Bytes wr bv (l.drop k) ∧ (∀ b, liveOf bv = some b → b < w.heap.size) ∧ Box wr X 52 (itc { Itm.zero 202 with chks := cs } (.slice none 0 0) vc (.slice none 0 0)) ∧ OwnEls 2 ChkR wr B0 96 vc cs Bc ∧ (∀ b ∈ Bc, B0 ≤ b) ∧ Box wr w.heap.size 52 #[.int .i64 0, .int .u32 0, .int .u64 0, .int .u32 0, .int .u32 0, .int .u32 0, .slice none 0 0, .slice none 0 0, .slice none 0 0, .string ⟨#[]⟩] ∧ Fr [] w wr ∧ B0 ≤ wr.heap.size) (fun _ iv _ => cn - (intOf iv).toNat)
  case atStart => exact ⟨0, 0, [], .slice none 0 0, [], Nat.zero_le _, rfl, Nat.zero_le _, rfl, HH.out, HLW.out, HX.out, OwnEls.nil _ _ _, by simp, HRS.out, HF.out, HB0.out⟩
  case round =>
    clear HH HX HRS HF HB0
    obtain ⟨j, k, cs, vc, Bc, hj, rfl, hkm, ht, hbv, hlv, hx, hown, hbc, hrs, hF, hb0⟩ := hrel
    obtain ⟨av, cv, rfl⟩ := hown.shape
    obtain ⟨ab, cb, rfl⟩ := Sl.shape hbv
    have hcb := (Sl.len hbv).2.1
    rw [List.length_map, List.length_drop] at hbv hcb hlv ⊢
    have hcl := timesR_len ht
    rw [HM.out] at hbv hcb hlv ⊢
    have HX := Lib.hid hx; have HOW := Lib.hid hown; have HRS := Lib.hid hrs; have HF := Lib.hid hF; have HB0 := Lib.hid hb0; have HBV := Lib.hid hbv; have HBC := Lib.hid hbc; have HT := Lib.hid ht; have HCL := Lib.hid hcl; have HLB := Lib.hid hlv
    clear hlv hx hown hrs hF hb0 hbv hbc ht
    by_cases hlt : j < cn
    · have HWZ := Lib.hid (fun b (hb : blockOf (.slice av cs.length cv) = some b) => (HOW.out.block b hb).2)
      obtain ⟨r, hr⟩ : ∃ r, m - k = r := ⟨_, rfl⟩
      rw [hr] at HBV hcb HLB ⊢
      have HR := Lib.hid hr
      have hrb : r ≤ 1500 := by omega
      have HCB := Lib.hid hcb
      clear hr hcl hcb
      go_wp2_with fail
      refine (r07chunk_any HBV.out (by rw [List.length_drop, HM.out]; omega)).mono ?_
      rintro e w4 (⟨x, k', vt, hck, rfl, ho, hF⟩ | ⟨hck, rfl, hF⟩)
      · have HCK : Hid (chk1 l k = some (x, k + k')) := Lib.hid (by rw [chk1_drop l k (by rw [HM.out]; exact hkm), hck]; rfl)
        have hk5 := chk1_le hck
        rw [List.length_drop, HM.out] at hk5
        have HVB := Lib.hid (fun b (hb : blockOf vt = some b) => ho.block b hb)
        obtain ⟨at_, ct, rfl⟩ := ho.shape
        have HFS := Lib.hid hF.size; have HB00 := HB0
        have HT2 : Hid (timesR (chk1 l) (j + 1) 0 = some (cs ++ [x], k + k')) := Lib.hid (timesR_snoc HT.out HCK.out)
        have HOW := Lib.hid (HOW.out.keep Rep.chk hF); have HX := Lib.hid (HX.out.keep hF); have HRS := Lib.hid (HRS.out.keep hF); have HF := Lib.hid (HF.out.trans hF); have HB0 := Lib.hid (Nat.le_trans HB0.out hF.size); have HBV := Lib.hid (Sl.keep HBV.out hF)
        have HVT := Lib.hid ho.sl
        clear hF ho hck
        obtain ⟨wa, ea, hF, hBa, hsa⟩ := one_new w4 #[.int .u32 (x.ssrc.toNat : Nat), .slice at_ x.texts.length ct] 96
        have HOW := Lib.hid (HOW.out.keep Rep.chk hF); have HX := Lib.hid (HX.out.keep hF); have HRS := Lib.hid (HRS.out.keep hF); have HF := Lib.hid (HF.out.trans hF); have HB0 := Lib.hid (Nat.le_trans HB0.out hF.size); have HBV := Lib.hid (Sl.keep HBV.out hF)
        have EA := Lib.hid ea; have HBA := Lib.hid hBa; have HVT := Lib.hid (HVT.out.keep Rep.txt hF)
        clear ea hBa hF hsa
        go_upto_region 21 with fail
        rw [EA.out]
        clear EA
        obtain ⟨wb, eb, hF, hBb, hsb⟩ := one_new wa #[.int .u32 (x.ssrc.toNat : Nat), .slice at_ x.texts.length ct] 96
        have HOW := Lib.hid (HOW.out.keep Rep.chk hF); have HX := Lib.hid (HX.out.keep hF); have HRS := Lib.hid (HRS.out.keep hF); have HF := Lib.hid (HF.out.trans hF); have HB0 := Lib.hid (Nat.le_trans HB0.out hF.size); have HBV := Lib.hid (Sl.keep HBV.out hF)
        have EB := Lib.hid eb; have HBB := Lib.hid hBb; have HVT := Lib.hid (HVT.out.keep Rep.txt hF); have HFB := Lib.hid hF
        clear eb hBb hF hsb
        have y7 := (HX.out).cell 7
        simp only [itc, List.getElem?_toArray, List.getElem?_cons_succ, List.getElem?_cons_zero] at y7
        have y7a : wa.cell? ⟨X, 7, none⟩ = some (.slice av cs.length cv) := by
          have h9 := HFB.out.cell (p := ⟨X, 7, none⟩) (by have := HB00.out; have := HXX.out; have := HFS.out; have := HBA.out.lt; show X < wa.heap.size; omega) (by simp)
          rw [← h9]; exact y7
        have HL1 : Hid (cs.length + 1 ≤ maxLen) := Lib.hid (by rw [HCL.out]; unfold maxLen; omega)
        have HL2 : Hid ((cs.length + 1) * 32 ≤ 140737488355328) := Lib.hid (by rw [HCL.out]; omega)
        have HCR : Hid (ChkR wb [.int .u32 (x.ssrc.toNat : Nat), .slice at_ x.texts.length ct] x (liveOf (.slice at_ x.texts.length ct)).toList) := Lib.hid ⟨_, rfl, HVT.out, rfl⟩
        have HDJ : Hid (∀ b, blockOf (.slice av cs.length cv) = some b → b ∉ (liveOf (.slice at_ x.texts.length ct)).toList) := Lib.hid (fun b hb hm => by have h1 := HWZ.out b hb; have h2 := (HVB.out b (live_block (mem_toList.1 hm))).1; omega)
        clear y7
        go_upto_region 24 with (first | (refine wpList_load_row_w rfl 96 (.tmp 12) rfl w4.heap.size rfl 96 _ _ HBA.out Try.underlying96 rfl (by kernel_rfl) ?_) | (at_builtin; (rw [EB.out]); refine wpList_append_el Rep.chk (by decide) rfl (.tmp 92) (.tmp 94) 50 rfl B0 96 (.agg #[.int .u32 0, .slice none 0 0]) 32 Try.underlying50 info_rchk rfl (.slice av cs.length cv) cs Bc rfl HOW.out wa.heap.size 0 1 rfl [.int .u32 (x.ssrc.toNat : Nat), .slice at_ x.texts.length ct] x _ (box_range HBB.out) HCR.out HDJ.out HL1.out HL2.out HB0.out ?_; intro vs1 w7 hown1 hfr1 hbl1; obtain ⟨as1, cs1, es1⟩ := hown1.shape; rw [List.length_append, List.length_singleton] at es1; subst es1; have HV1 := Lib.hid hown1; have HF7 := Lib.hid hfr1; have HNB : Hid (∀ b ∈ (blockOf (.slice av cs.length cv)).toList, B0 ≤ b) := Lib.hid (fun b hb => (HOW.out.block b (mem_toList.1 hb)).1); have HBX2 := Lib.hid (Box.fr HX.out HF7.out (fun hm => by have := HNB.out _ hm; have := HXX.out; omega)); have n1 := HBX2.out.cell 7; have g1 := HBX2.out.free 7; clear hown1 hfr1 hbl1 y7a; simp only [itc, List.getElem?_toArray, List.getElem?_cons_succ, List.getElem?_cons_zero] at n1))
        obtain ⟨wc, ec, hFc, hBc, -⟩ := set_new HBX2.out 7 (.slice as1 (cs.length + 1) cs1)
        simp only [itc, List.setIfInBounds_toArray, List.set_cons_zero, List.set_cons_succ] at hBc
        rw [ec]
        have HFC := Lib.hid hFc; have HBC2 : Hid (Box wc X 52 (itc { Itm.zero 202 with chks := cs ++ [x] } (.slice none 0 0) (.slice as1 (cs.length + 1) cs1) (.slice none 0 0))) := Lib.hid hBc
        clear ec hFc hBc n1 g1
        have HB1 : Hid (B0 ≤ wc.heap.size) := Lib.hid (Nat.le_trans HB0.out (Nat.le_trans HF7.out.size HFC.out.size))
        have HF1 : Hid (Fr [] w wc) := Lib.hid ((HF.out.step HF7.out (fun b hb => .inr (by have := HNB.out b hb; have := HXX.out; omega))).step HFC.out (fun b hb => .inr (by have := HXX.out; simp at hb; omega)))
        have HXB : Hid (∀ b ∈ Bc ++ (liveOf (.slice at_ x.texts.length ct)).toList, B0 ≤ b) := Lib.hid (fun b hb => by
          rcases List.mem_append.1 hb with hb | hb
          · exact HBC.out b hb
          · have h2 := (HVB.out b (live_block (mem_toList.1 hb))).1; have := HB00.out; omega)
        have HOW3 := Lib.hid (HV1.out.fr Rep.chk HFC.out (fun b hb hm => by have := HXB.out b hb; have := HXX.out; simp at hm; omega) (fun b hb hm => by have := (HV1.out.block b hb).1; have := HXX.out; simp at hm; omega))
        have HRS3 := Lib.hid ((HRS.out.fr HF7.out (fun hm => by have := HNB.out _ hm; have := HXX.out; omega)).fr HFC.out (by have := HXX.out; simp; omega))
        have hkr : k' ≤ r := by have := HR.out; omega
        have hcb := HCB.out
        have HBN : Hid (Bytes wc (.slice (if cb = k' then ab else Option.map (fun x => x.add k') ab) (r - k') (cb - k')) (l.drop (k + k'))) := Lib.hid (by
          have h8 : Bytes wc (.slice ab r cb) (l.drop k) := Sl.frL (Sl.frL HBV.out HF7.out (fun b hb hm => by have h1 := HNB.out b hm; have h2 := HLB.out b hb; have := HXX.out; omega)) HFC.out (fun b hb hm => by have h2 := HLB.out b hb; have := HXX.out; simp at hm; omega)
          have h9 := Sl.sub h8 k' (r - k') (by omega)
          rw [← List.map_drop, List.drop_drop, List.take_of_length_le (by rw [List.length_map, List.length_drop, HM.out]; have := HR.out; omega)] at h9
          exact h9)
        obtain ⟨q, hq⟩ : ∃ q, (if cb = k' then ab else Option.map (fun x => x.add k') ab) = q := ⟨_, rfl⟩
        have HLN : Hid (∀ b, liveOf (.slice q (r - k') (cb - k')) = some b → b < w.heap.size) := Lib.hid (fun b hb => HLB.out b (by rw [← hq] at hb; exact Sl.live_sub ab k' (r - k') cb r b hb))
        rw [hq] at HBN
        have hmk : ((r : Nat) : Int) - ((k' : Nat) : Int) = ((r - k' : Nat) : Int) := by omega
        have hck : ((cb : Nat) : Int) - ((k' : Nat) : Int) = ((cb - k' : Nat) : Int) := by omega
        clear hk5
        go_wp2_with fail
        refine ⟨⟨j + 1, k + k', cs ++ [x], .slice as1 (cs.length + 1) cs1, _, by omega, by go_num, by have := HR.out; omega, HT2.out, HBN.out, HLN.out, HBC2.out, HOW3.out, HXB.out, HRS3.out, HF1.out, HB1.out⟩, by simp [intOf]; omega⟩
      · have HNO : Hid (bodyR 202 cn l = none) := Lib.hid (by
          rw [HBD.out]
          have h9 : chk1 l k = none := by rw [chk1_drop l k (by rw [HM.out]; exact hkm), hck]; rfl
          have h8 := timesR_fail (m := cn - (j + 1)) HT.out h9
          rw [show j + 1 + (cn - (j + 1)) = cn by omega] at h8
          rw [h8])
        have HRS := Lib.hid (HRS.out.keep hF); have HF := Lib.hid (HF.out.trans hF)
        clear hck hF
        obtain ⟨wa, ea, hF, hBa, hsa⟩ := one_new w4 #[.int .u32 0, .slice none 0 0] 96
        have HRS := Lib.hid (HRS.out.keep hF); have HF := Lib.hid (HF.out.trans hF); have EA := Lib.hid ea
        clear ea hF hBa hsa
        go_upto_region 21 with fail
        rw [EA.out]
        clear EA
        go_wp2_with (refine wpList_store_row rfl 52 (.tmp 6) (.tmp 90) rfl w.heap.size rfl _ _ rfl 52 HRS.out (by kernel_rfl) rfl (by simp [Value.oneCell']) ?_; intro w9 hY hG; have HY := Lib.hid hY; have HGn := Lib.hid hG; clear hY hG)
        refine bodyPost_ret (results_row_1 rfl _ _ w.heap.size 52 _ _ rfl HY.out Try.underlying52 rfl (by kernel_rfl)) rfl (ResI.no HNO.out rfl (HF.out.step HGn.out (fun x hx => .inr (by simp at hx; omega))))
    · obtain rfl : j = cn := by omega
      clear hlt hj hcl
      have HR0 : Hid (bodyR 202 j l = if k = m then some { Itm.zero 202 with chks := cs } else none) := Lib.hid (by rw [HBD.out, HT.out, HM.out])
      by_cases hkm2 : k = m
      · have hz : (((m - k : Nat) : Int) == 0) = true := beq_iff_eq.2 (by omega)
        have hz2 : ((m - k : Nat) == 0) = true := beq_iff_eq.2 (by omega)
        obtain ⟨r, hr⟩ : ∃ r, m - k = r := ⟨_, rfl⟩
        rw [hr] at hz hz2 ⊢
        have HR1 : Hid (bodyR 202 j l = some { Itm.zero 202 with chks := cs }) := Lib.hid (by rw [HR0.out, if_pos hkm2])
        clear hkm2 hr
        go_wp2_with (first | (refine wpList_load_row_w rfl 52 (.tmp 8) rfl X rfl 52 _ _ HX.out Try.underlying52 rfl (by kernel_rfl) ?_) | (refine wpList_store_row rfl 52 (.tmp 6) (.tmp 100) rfl w.heap.size rfl _ _ rfl 52 HRS.out (by kernel_rfl) rfl (by simp [itc, Value.oneCell']) ?_; intro w9 hY hG; have HY := Lib.hid hY; have HGn := Lib.hid hG; clear hY hG))
        have HOW := Lib.hid (HOW.out.fr Rep.chk HGn.out (fun b hb hm => by have := HBC.out b hb; have := HXX.out; simp at hm; omega) (fun b hb hm => by have := (HOW.out.block b hb).1; have := HXX.out; simp at hm; omega))
        obtain ⟨BB, hI, hBd⟩ := ItR.chks (b0 := w.heap.size) (x := { Itm.zero 202 with chks := cs }) HOW.out rfl rfl (by have := HXX.out; omega) (fun b hb => by have := HBC.out b hb; have := HXX.out; omega)
        refine bodyPost_ret (results_row_1 rfl _ _ w.heap.size 52 _ _ rfl HY.out Try.underlying52 rfl (by kernel_rfl)) rfl ⟨_, _, BB, by rw [HR1.out]; rfl, hI, hBd, HF.out.step HGn.out (fun x hx => .inr (by simp at hx; omega)), fun y hy => by rw [HR1.out] at hy; exact Option.some.inj hy⟩
      · have hz : (((m - k : Nat) : Int) == 0) = false := beq_eq_false_iff_ne.2 (by omega)
        have hz2 : ((m - k : Nat) == 0) = false := beq_eq_false_iff_ne.2 (by omega)
        obtain ⟨r, hr⟩ : ∃ r, m - k = r := ⟨_, rfl⟩
        rw [hr] at hz hz2 ⊢
        have HR1 : Hid (bodyR 202 j l = none) := Lib.hid (by rw [HR0.out, if_neg hkm2])
        clear hkm2 hr
        go_wp2_with (first | (refine wpList_load_row_w rfl 52 (.tmp 8) rfl X rfl 52 _ _ HX.out Try.underlying52 rfl (by kernel_rfl) ?_) | (refine wpList_store_row rfl 52 (.tmp 6) (.tmp 100) rfl w.heap.size rfl _ _ rfl 52 HRS.out (by kernel_rfl) rfl (by simp [itc, Value.oneCell']) ?_; intro w9 hY hG; have HY := Lib.hid hY; have HGn := Lib.hid hG; clear hY hG))
        have HOW := Lib.hid (HOW.out.fr Rep.chk HGn.out (fun b hb hm => by have := HBC.out b hb; have := HXX.out; simp at hm; omega) (fun b hb hm => by have := (HOW.out.block b hb).1; have := HXX.out; simp at hm; omega))
        obtain ⟨BB, hI, hBd⟩ := ItR.chks (b0 := w.heap.size) (x := { Itm.zero 202 with chks := cs }) HOW.out rfl rfl (by have := HXX.out; omega) (fun b hb => by have := HBC.out b hb; have := HXX.out; omega)
        refine bodyPost_ret (results_row_1 rfl _ _ w.heap.size 52 _ _ rfl HY.out Try.underlying52 rfl (by kernel_rfl)) rfl ⟨_, _, BB, by rw [HR1.out]; rfl, hI, hBd, HF.out.step HGn.out (fun x hx => .inr (by simp at hx; omega)), fun y hy => by rw [HR1.out] at hy; cases hy⟩
end Go.Proofs.Ytcmpjkopdjncdaa
