import Derived.Test.YtcmpjkopdjncdaaMw39
/- The walk of confluxref07.item at sources (printed by gen_7ref6.py). -/
namespace Go.Proofs.Ytcmpjkopdjncdaa
open Go.RowKit

set_option maxRecDepth 100000 in
set_option maxHeartbeats 8000000 in
theorem r07item_203 {w : World} {v : Value} {l : List UInt8} (h : Bytes w v l) (hsm : l.length ≤ 1500) (cn : Nat) (hcn : cn ≤ 31) :
    Calls Try.prog 27 #[.int .i64 203, .int .i64 cn, v] w fun e w' => ResI 203 cn l w e w' := by
  obtain ⟨a, cap, rfl⟩ := Sl.shape h
  have hc := (Sl.len h).2.1
  rw [List.length_map] at h hc ⊢
  have HSM := Lib.hid hsm
  obtain ⟨w1, e1, hF1, hB1, hs1⟩ := one_new w #[.int .i64 0, .int .u32 0, .int .u64 0, .int .u32 0, .int .u32 0, .int .u32 0, .slice none 0 0, .slice none 0 0, .slice none 0 0, .string ⟨#[]⟩] 52
  obtain ⟨w2, e2, hF2, hB2, hs2⟩ := one_new w1 #[.int .i64 203, .int .u32 0, .int .u64 0, .int .u32 0, .int .u32 0, .int .u32 0, .slice none 0 0, .slice none 0 0, .slice none 0 0, .string ⟨#[]⟩] 52
  have HF := Lib.hid (hF1.trans hF2); have HRS := Lib.hid (hB1.keep hF2); have HX := Lib.hid hB2; have E1 := Lib.hid e1; have E2 := Lib.hid e2; have HHW := Lib.hid h; have HH := Lib.hid (Sl.keep (Sl.keep h hF1) hF2)
  obtain ⟨X, hX⟩ : ∃ X, w1.heap.size = X := ⟨_, rfl⟩
  obtain ⟨B0, hB0⟩ : ∃ B0, w2.heap.size = B0 := ⟨_, rfl⟩
  have HXX : Hid (w.heap.size < X ∧ X < B0) := Lib.hid (by omega)
  have HB0 := Lib.hid (Nat.le_of_eq hB0.symm)
  obtain ⟨m, hm⟩ : ∃ m, l.length = m := ⟨_, rfl⟩
  rw [hm] at HH HHW hc hsm ⊢
  have HM := Lib.hid hm
  have HXe := Lib.hid hX
  clear h hF1 hB1 e1 hs1 hF2 hB2 e2 hs2 hm hB0 hX
  go_enter Try.func27, Try.ntmps27
  go_upto_region 1 with fail
  rw [E1.out]
  clear E1
  go_upto_region 2 with fail
  rw [E2.out]
  clear E2
  have hXe := HXe.out
  try simp only [hXe]
  rw [hXe] at HX
  clear hXe
  have HBD := Lib.hid (body203 l cn)
  obtain ⟨c4, hc4⟩ : ∃ c4, 4 * cn = c4 := ⟨_, rfl⟩
  rw [hc4] at HBD
  have hm1 : (4 : Int) * ((cn : Nat) : Int) = ((c4 : Nat) : Int) := by omega
  have hc4b : c4 ≤ 124 := by omega
  have HC4 := Lib.hid hc4
  clear hc4
  by_cases hlt : m < c4
  · have hd1 : decide (((m : Nat) : Int) < ((c4 : Nat) : Int)) = true := decide_eq_true (by omega)
    have hd2 : decide (m < c4) = true := decide_eq_true hlt
    have HNO : Hid (bodyR 203 cn l = none) := Lib.hid (by rw [HBD.out, if_neg (by rw [HM.out]; omega)])
    clear hlt
    go_wp2_with (refine wpList_store_row rfl 52 (.tmp 6) (.tmp 113) rfl w.heap.size rfl _ _ rfl 52 HRS.out (by kernel_rfl) rfl (by simp [Value.oneCell']) ?_; intro w9 hY hG; have HY := Lib.hid hY; have HGn := Lib.hid hG; clear hY hG)
    refine bodyPost_ret (results_row_1 rfl _ _ w.heap.size 52 _ _ rfl HY.out Try.underlying52 rfl (by kernel_rfl)) rfl (ResI.no HNO.out rfl (HF.out.step HGn.out (fun x hx => .inr (by simp at hx; omega))))
  have hd1 : decide (((m : Nat) : Int) < ((c4 : Nat) : Int)) = false := decide_eq_false (by omega)
  have hd2 : decide (m < c4) = false := decide_eq_false hlt
  rw [if_pos (by rw [HM.out]; omega)] at HBD
  have hc4m : c4 ≤ m := by omega
  clear hlt
  go_upto_region 29 with fail
  clear hm1 hd1 hd2
  go_loopw [15] (fun iv wr => ∃ (j : Nat) (vs : Value), j ≤ cn ∧ iv = .int .i64 (j : Nat) ∧ Box wr X 52 (itc { Itm.zero 203 with srcs := ((List.range j).map fun i => l32 l (4 * i)) } (.slice none 0 0) (.slice none 0 0) vs) ∧ OwnEls 1 SrcR wr B0 36 vs ((List.range j).map fun i => l32 l (4 * i)) [] ∧ Box wr w.heap.size 52 #[.int .i64 0, .int .u32 0, .int .u64 0, .int .u32 0, .int .u32 0, .int .u32 0, .slice none 0 0, .slice none 0 0, .slice none 0 0, .string ⟨#[]⟩] ∧ Fr [] w wr ∧ B0 ≤ wr.heap.size) (fun iv _ => cn - (intOf iv).toNat)
  case atStart => exact ⟨0, .slice none 0 0, Nat.zero_le _, rfl, HX.out, OwnEls.nil _ _ _, HRS.out, HF.out, HB0.out⟩
  case round =>
    clear HF HH HRS HX HB0
    obtain ⟨j, vs, hj, rfl, hx, hown, hrs, hF, hb0⟩ := hrel
    obtain ⟨av, cv, ev⟩ := hown.shape
    rw [List.length_map, List.length_range] at ev
    subst ev
    have HX := Lib.hid hx; have HOW := Lib.hid hown; have HRS := Lib.hid hrs; have HF := Lib.hid hF; have HB0 := Lib.hid hb0; have HH := Lib.hid (Sl.keep HHW.out hF)
    clear hx hown hrs hF hb0
    by_cases hlt : j < cn
    · have hnz : ∃ p, a = some p := by
        cases a with
        | none => have := (Sl.len HH.out).2.2.2 rfl; have := HC4.out; omega
        | some p => exact ⟨p, rfl⟩
      obtain ⟨⟨b, o, sp⟩, rfl⟩ := hnz
      obtain ⟨b', o', e', hbl, hcell⟩ := Sl.at_ HH.out (k := 0) (by have := HC4.out; omega)
      simp only [Option.some.injEq, Addr.mk.injEq] at e'
      obtain ⟨rfl, rfl, rfl⟩ := e'
      clear hbl hcell
      obtain ⟨k, hk⟩ : ∃ k, 4 * j = k := ⟨_, rfl⟩
      have hk1 : (4 : Int) * ((j : Nat) : Int) = ((k : Nat) : Int) := by omega
      have hi0 : IntKind.i64.wrap (4 * ((j : Nat) : Int)) = ((k : Nat) : Int) := by rw [hk1]; exact IntWalk.i64_in _ (by omega)
      have hi1 : IntKind.i64.wrap ((k : Nat) : Int) = ((k : Nat) : Int) := IntWalk.i64_in _ (by omega)
      have hkm : k + 4 ≤ m := by have := HC4.out; omega
      have hkm2 : ((k : Nat) : Int) ≤ ((m : Nat) : Int) := by omega
      have hkm3 : k ≤ m := by omega
      have hkc : ¬ cap = k := by omega
      have HK : Hid (4 * j = k) := Lib.hid hk
      have HSB : Hid (Bytes wr (.slice (some ⟨b, o + k, none⟩) (m - k) (cap - k)) (l.drop k)) := Lib.hid (by
        have h9 := Sl.sub' HH.out k (m - k) (by omega)
        rw [if_neg hkc, ← List.map_drop, List.take_of_length_le (by rw [List.length_map, List.length_drop, HM.out]; exact Nat.le_refl _)] at h9
        exact h9)
      clear hk
      go_upto_region 31 with fail
      refine wp_region_T (fun w' => Fr [] wr.drew w') [8, 9, 10] 11 #[false, false, false, false, false, false, false, false, false, false, false] (by kernel_rfl) rfl rfl ?_
      try simp only [List.append_eq, List.cons_append, List.nil_append]
      have hF := (Fr.refl [] wr).drew
      have HX := Lib.hid (HX.out.keep hF); have HOW := Lib.hid (HOW.out.keep Rep.src hF); have HRS := Lib.hid (HRS.out.keep hF); have HF := Lib.hid (HF.out.trans hF); have HB0 := Lib.hid (Nat.le_trans HB0.out hF.size)
      have HSB := Lib.hid (Sl.keep HSB.out hF)
      clear hF
      have HSS : Hid (Fr [] wr.drew wr.drew) := Lib.hid (Fr.refl _ _)
      generalize wr.drew = wd at *
      refine wpAnyT_load (i := 0) (v := ?_) rfl (by kernel_rfl) (by kernel_rfl) (by kernel_rfl) (by kernel_rfl) (by kernel_rfl) (fun _ _ _ h => h) HSS.out (by rfl) ?_ ?_
      rotate_left
      · intro w hSw; skip; go_simp; try with_reducible rfl
      simp only [Act.put, List.getElem_toArray, List.getElem_cons_zero, List.getElem_cons_succ, List.setIfInBounds_toArray, List.set_cons_zero, List.set_cons_succ]
      refine wpAnyT_load (i := 1) (v := ?_) rfl (by kernel_rfl) (by kernel_rfl) (by kernel_rfl) (by kernel_rfl) (by kernel_rfl) (fun _ _ _ h => h) HSS.out (by rfl) ?_ ?_
      rotate_left
      · intro w hSw; have n1 := (HX.out.keep hSw).cell 8; simp only [itc, List.getElem?_toArray, List.getElem?_cons_succ, List.getElem?_cons_zero] at n1; go_simp; try with_reducible rfl
      simp only [Act.put, List.getElem_toArray, List.getElem_cons_zero, List.getElem_cons_succ, List.setIfInBounds_toArray, List.set_cons_zero, List.set_cons_succ]
      refine wpAnyT_load (i := 2) (v := ?_) rfl (by kernel_rfl) (by kernel_rfl) (by kernel_rfl) (by kernel_rfl) (by kernel_rfl) (fun _ _ _ h => h) HSS.out (by rfl) ?_ ?_
      rotate_left
      · intro w hSw; skip; go_simp; try with_reducible rfl
      simp only [Act.put, List.getElem_toArray, List.getElem_cons_zero, List.getElem_cons_succ, List.setIfInBounds_toArray, List.set_cons_zero, List.set_cons_succ]
      refine wpAnyT_load (i := 3) (v := ?_) rfl (by kernel_rfl) (by kernel_rfl) (by kernel_rfl) (by kernel_rfl) (by kernel_rfl) (fun _ _ _ h => h) HSS.out (by rfl) ?_ ?_
      rotate_left
      · intro w hSw; skip; go_simp; try with_reducible rfl
      simp only [Act.put, List.getElem_toArray, List.getElem_cons_zero, List.getElem_cons_succ, List.setIfInBounds_toArray, List.set_cons_zero, List.set_cons_succ]
      refine wpAnyT_load (i := 4) (v := ?_) rfl (by kernel_rfl) (by kernel_rfl) (by kernel_rfl) (by kernel_rfl) (by kernel_rfl) (fun _ _ _ h => h) HSS.out (by rfl) ?_ ?_
      rotate_left
      · intro w hSw; skip; go_simp; try with_reducible rfl
      simp only [Act.put, List.getElem_toArray, List.getElem_cons_zero, List.getElem_cons_succ, List.setIfInBounds_toArray, List.set_cons_zero, List.set_cons_succ]
      refine wpAnyT_load (i := 5) (v := ?_) rfl (by kernel_rfl) (by kernel_rfl) (by kernel_rfl) (by kernel_rfl) (by kernel_rfl) (fun _ _ _ h => h) HSS.out (by rfl) ?_ ?_
      rotate_left
      · intro w hSw; skip; go_simp; try with_reducible rfl
      simp only [Act.put, List.getElem_toArray, List.getElem_cons_zero, List.getElem_cons_succ, List.setIfInBounds_toArray, List.set_cons_zero, List.set_cons_succ]
      have hcl := r07long_any HSB.out (by rw [List.length_drop, HM.out]; omega)
      rw [l32_drop, Nat.add_zero] at hcl
      have HCL := Lib.hid hcl
      clear hcl
      refine wpAnyT_one (i := 6) (by kernel_rfl) rfl (fun K hK => ?_)
      rw [if_pos (by rfl)]
      go_simp
      refine HCL.out.mono ?_
      rintro e wl ⟨rfl, hF⟩
      have HX := Lib.hid (HX.out.keep hF); have HOW := Lib.hid (HOW.out.keep Rep.src hF); have HRS := Lib.hid (HRS.out.keep hF); have HF := Lib.hid (HF.out.trans hF); have HB0 := Lib.hid (Nat.le_trans HB0.out hF.size)
      have HSS := Lib.hid (HSS.out.trans hF)
      clear hF HCL
      go_simp
      refine hK.out _ _ (fun _ => HSS.out) ?_
      clear hK K
      simp only [Act.put, List.getElem_toArray, List.getElem_cons_zero, List.getElem_cons_succ, List.setIfInBounds_toArray, List.set_cons_zero, List.set_cons_succ]
      obtain ⟨wa, ea, hF, hBa, hsa⟩ := one_new wl #[.int .u32 ((l32 l k).toNat : Nat)] 36
      have HX := Lib.hid (HX.out.keep hF); have HOW := Lib.hid (HOW.out.keep Rep.src hF); have HRS := Lib.hid (HRS.out.keep hF); have HF := Lib.hid (HF.out.trans hF); have HB0 := Lib.hid (Nat.le_trans HB0.out hF.size)
      have HSS := Lib.hid (HSS.out.trans hF)
      have HBA := Lib.hid hBa; have EA := Lib.hid ea
      clear hF hBa ea hsa
      refine wpAnyT_one (i := 7) (by kernel_rfl) rfl (fun K hK => ?_)
      rw [if_pos (by rfl)]
      go_simp
      rw [EA.out]
      refine hK.out _ _ (fun _ => HSS.out) ?_
      clear hK K
      simp only [Act.put, List.getElem_toArray, List.getElem_cons_zero, List.getElem_cons_succ, List.setIfInBounds_toArray, List.set_cons_zero, List.set_cons_succ]
      have HL1 : Hid (((List.range j).map fun i => l32 l (4 * i)).length + 1 ≤ maxLen) := Lib.hid (by rw [List.length_map, List.length_range]; unfold maxLen; omega)
      have HL2 : Hid ((((List.range j).map fun i => l32 l (4 * i)).length + 1) * 4 ≤ 140737488355328) := Lib.hid (by rw [List.length_map, List.length_range]; omega)
      have HEL : Hid (Els SrcR [l32 l k] wa [.int .u32 ((l32 l k).toNat : Nat)] []) := Lib.hid ⟨_, [], [], [], by simp, rfl, ⟨rfl, rfl⟩, rfl, rfl⟩
      refine wpAnyT_one (i := 8) (by kernel_rfl) rfl (fun K hK => ?_)
      refine step_append_els Rep.src (by decide) rfl (.tmp 120) (.tmp 126) 40 rfl B0 36 (.int .u32 0) 4 Try.underlying40 info_u32 rfl (.slice av j cv) ((List.range j).map fun i => l32 l (4 * i)) [] rfl HOW.out ⟨wl.heap.size, 0, none⟩ 1 1 rfl [l32 l k] rfl _ [] HEL.out (fun j u hj => by rw [Addr.add_mid]; exact box_range HBA.out j u (by simpa using hj)) (by simp) HL1.out HL2.out HB0.out ?_
      intro vs wb hown hfr hbl
      rw [← HK.out, ← snoc_range (fun i => l32 l (4 * i)) j] at hown
      obtain ⟨as1, cs1, es1⟩ := hown.shape
      rw [List.length_map, List.length_range] at es1
      subst es1
      have HOW2 := Lib.hid hown; have HFB := Lib.hid hfr
      clear hown hfr hbl
      refine hK.out _ _ (fun _ => by first | trivial | exact absurd ‹_› (by simp)) ?_
      clear hK K
      simp only [Act.put, List.getElem_toArray, List.getElem_cons_zero, List.getElem_cons_succ, List.setIfInBounds_toArray, List.set_cons_zero, List.set_cons_succ]
      have HNB : Hid (∀ b ∈ (blockOf (.slice av j cv)).toList, B0 ≤ b) := Lib.hid (fun b hb => (HOW.out.block b (mem_toList.1 hb)).1)
      have HBX2 := Lib.hid (Box.fr HX.out HFB.out (fun hm => by have := HNB.out _ hm; have := HXX.out; omega))
      have HRS2 := Lib.hid (Box.fr HRS.out HFB.out (fun hm => by have := HNB.out _ hm; have := HXX.out; omega))
      have n1 := HBX2.out.cell 8; have g1 := HBX2.out.free 8
      simp only [itc, List.getElem?_toArray, List.getElem?_cons_succ, List.getElem?_cons_zero] at n1
      obtain ⟨wc, ec, hFc, hBc, -⟩ := set_new HBX2.out 8 (.slice as1 (j + 1) cs1)
      simp only [itc, List.setIfInBounds_toArray, List.set_cons_zero, List.set_cons_succ] at hBc
      have EC := Lib.hid ec; have HFC := Lib.hid hFc; have HBC := Lib.hid hBc
      clear ec hFc hBc
      refine wpAnyT_one (i := 9) (by kernel_rfl) rfl (fun K hK => ?_)
      rw [if_pos (by rfl)]
      go_simp
      refine hK.out _ _ (fun _ => by first | trivial | exact absurd ‹_› (by simp)) ?_
      clear hK K
      simp only [Act.put, List.getElem_toArray, List.getElem_cons_zero, List.getElem_cons_succ, List.setIfInBounds_toArray, List.set_cons_zero, List.set_cons_succ]
      refine wpAnyT_one (i := 10) (by kernel_rfl) rfl (fun K hK => ?_)
      rw [if_pos (by rfl)]
      go_simp
      rw [EC.out]
      refine hK.out _ _ (fun _ => by first | trivial | exact absurd ‹_› (by simp)) ?_
      clear hK K
      simp only [Act.put, List.getElem_toArray, List.getElem_cons_zero, List.getElem_cons_succ, List.setIfInBounds_toArray, List.set_cons_zero, List.set_cons_succ]
      refine wpAnyT_done (by kernel_rfl) ?_ _
      clear n1 g1
      have HB1 : Hid (B0 ≤ wc.heap.size) := Lib.hid (Nat.le_trans HB0.out (Nat.le_trans HFB.out.size HFC.out.size))
      have HF1 : Hid (Fr [] w wc) := Lib.hid ((HF.out.step HFB.out (fun b hb => .inr (by have := HNB.out b hb; have := HXX.out; omega))).step HFC.out (fun b hb => .inr (by have := HXX.out; simp at hb; omega)))
      have HOW3 := Lib.hid (HOW2.out.fr Rep.src HFC.out (by simp) (fun b hb hm => by have := (HOW2.out.block b hb).1; have := HXX.out; simp at hm; omega))
      have HRS3 := Lib.hid (HRS2.out.fr HFC.out (by have := HXX.out; simp; omega))
      clear hi0 hi1 hk1 hkm2 hkm3 hkc
      go_wp2_with fail
      exact ⟨⟨j + 1, .slice as1 (j + 1) cs1, by omega, by go_num, HBC.out, HOW3.out, HRS3.out, HF1.out, HB1.out⟩, by simp [intOf]; omega⟩
    · obtain rfl : j = cn := by omega
      clear hlt hj
      have hmul : (4 : Int) * ((j : Nat) : Int) = ((c4 : Nat) : Int) := by have := HC4.out; omega
      have hc4m2 : ((c4 : Nat) : Int) ≤ ((m : Nat) : Int) := by omega
      obtain ⟨q, hq⟩ : ∃ q, (if cap = c4 then a else Option.map (fun x => x.add c4) a) = q := ⟨_, rfl⟩
      obtain ⟨d, hd⟩ : ∃ d, l.drop c4 = d := ⟨_, rfl⟩
      rw [hd] at HBD
      obtain ⟨r, hr⟩ : ∃ r, m - c4 = r := ⟨_, rfl⟩
      have hdl : d.length = r := by rw [← hd, List.length_drop, HM.out]; exact hr
      have HBN : Hid (∀ wi : World, Fr [] wr wi → Bytes wi (.slice q r (cap - c4)) d) := Lib.hid (fun wi hfi => by
        have h9 := Sl.sub (Sl.keep HH.out hfi) c4 (m - c4) (by omega)
        rw [hq, ← List.map_drop, List.take_of_length_le (by rw [List.length_map, List.length_drop, HM.out]; exact Nat.le_refl _), hd, hr] at h9
        exact h9)
      have hrc : r ≤ cap - c4 := by omega
      have hrb : r ≤ 1500 := by omega
      have HDL := Lib.hid hdl
      have hrm : ((m : Nat) : Int) - ((c4 : Nat) : Int) = ((r : Nat) : Int) := by omega
      have hcm : ((cap : Nat) : Int) - ((c4 : Nat) : Int) = ((cap - c4 : Nat) : Int) := by omega
      have HRD := Lib.hid (show reasonD d = if d.length = 0 then some [] else if nb d 0 1 = 0 then none else if d.length = (nb d 0 1 + 4) / 4 * 4 then if zerosR d (d.length - (nb d 0 1 + 1)) (nb d 0 1 + 1) then some ((d.drop 1).take (nb d 0 1)) else none else none from rfl)
      rw [hdl] at HRD
      clear hd hdl
      by_cases hr0 : r = 0
      · have hz : ((r : Int) == 0) = true := beq_iff_eq.2 (by omega)
        have hz2 : (r == 0) = true := beq_iff_eq.2 hr0
        have HYS : Hid (bodyR 203 j l = some { Itm.zero 203 with srcs := ((List.range j).map fun i => l32 l (4 * i)) }) := Lib.hid (by rw [HBD.out, HRD.out, if_pos hr0]; rfl)
        clear hr0
        go_wp2_with (first | (refine wpList_load_row_w rfl 52 (.tmp 8) rfl X rfl 52 _ _ HX.out Try.underlying52 rfl (by kernel_rfl) ?_) | (refine wpList_store_row rfl 52 (.tmp 6) (.tmp 136) rfl w.heap.size rfl _ _ rfl 52 HRS.out (by kernel_rfl) rfl (by simp [itc, Value.oneCell']) ?_; intro w9 hY hG; have HY := Lib.hid hY; have HGn := Lib.hid hG; clear hY hG))
        have HOW := Lib.hid (HOW.out.fr Rep.src HGn.out (by simp) (fun b hb hm => by have := (HOW.out.block b hb).1; have := HXX.out; simp at hm; omega))
        obtain ⟨BB, hI, hBd⟩ := ItR.srcs (b0 := w.heap.size) (x := { Itm.zero 203 with srcs := ((List.range j).map fun i => l32 l (4 * i)) }) HOW.out rfl rfl (by have := HXX.out; omega)
        refine bodyPost_ret (results_row_1 rfl _ _ w.heap.size 52 _ _ rfl HY.out Try.underlying52 rfl (by kernel_rfl)) rfl ⟨_, _, BB, by rw [HYS.out]; rfl, hI, hBd, HF.out.step HGn.out (fun x hx => .inr (by simp at hx; omega)), fun y hy => by rw [HYS.out] at hy; exact Option.some.inj hy⟩
      · have hz : ((r : Int) == 0) = false := beq_eq_false_iff_ne.2 (by omega)
        have hz2 : (r == 0) = false := beq_eq_false_iff_ne.2 hr0
        have hrpos : 0 < r := by omega
        rw [if_neg hr0] at HRD
        clear hr0
        obtain ⟨b, o, ea, -, -⟩ := Sl.at_ HH.out (k := c4) (by omega)
        subst ea
        have hcc : ¬ cap = c4 := by omega
        rw [if_neg hcc, Option.map_some, Addr.add_mid] at hq
        subst hq
        obtain ⟨c2, hc2⟩ : ∃ c2, cap - c4 = c2 := ⟨_, rfl⟩
        rw [hc2] at HBN hrc hcm
        have HCL : Hid (∀ wi : World, Fr [] wr wi → ∀ k, k < r → wi.cell? ⟨b, o + c4 + k, none⟩ = some (.int .u8 (nb d k 1 : Nat))) := Lib.hid (fun wi hfi k hk => by
          obtain ⟨b', o', e', -, hcell⟩ := Sl.at_ (HBN.out wi hfi) (k := k) hk
          simp only [Option.some.injEq, Addr.mk.injEq] at e'
          obtain ⟨rfl, rfl, -⟩ := e'
          have hkl : k < d.length := by rw [HDL.out]; exact hk
          have h9 := hcell k (B8 d[k]) (by rw [List.getElem?_map, List.getElem?_eq_getElem hkl]; rfl)
          rw [h9, nb_one hkl]
          rfl)
        have d0 := HCL.out wr (Fr.refl _ _) 0 hrpos
        rw [Nat.add_zero] at d0
        obtain ⟨s, hs⟩ : ∃ s, nb d 0 1 = s := ⟨_, rfl⟩
        have hsb : s < 256 := by rw [← hs]; exact nb_lt d 0 1
        rw [hs] at d0 HRD
        clear hs
        by_cases hs0 : s = 0
        · have HNO : Hid (bodyR 203 j l = none) := Lib.hid (by rw [HBD.out, HRD.out, if_pos hs0]; rfl)
          subst hs0
          go_wp2_with (refine wpList_store_row rfl 52 (.tmp 6) (.tmp 152) rfl w.heap.size rfl _ _ rfl 52 HRS.out (by kernel_rfl) rfl (by simp [Value.oneCell']) ?_; intro w9 hY hG; have HY := Lib.hid hY; have HGn := Lib.hid hG; clear hY hG)
          refine bodyPost_ret (results_row_1 rfl _ _ w.heap.size 52 _ _ rfl HY.out Try.underlying52 rfl (by kernel_rfl)) rfl (ResI.no HNO.out rfl (HF.out.step HGn.out (fun x hx => .inr (by simp at hx; omega))))
        · have hsz : ((s : Int) == 0) = false := beq_eq_false_iff_ne.2 (by omega)
          have hsz2 : (s == 0) = false := beq_eq_false_iff_ne.2 hs0
          rw [if_neg hs0] at HRD
          have HS1 : Hid (1 ≤ s) := Lib.hid (by omega)
          clear hs0
          obtain ⟨q1, hq1⟩ : ∃ q1, (s + 4) / 4 = q1 := ⟨_, rfl⟩
          obtain ⟨S4, hS4⟩ : ∃ S4, q1 * 4 = S4 := ⟨_, rfl⟩
          rw [hq1, hS4] at HRD
          have hqa : Int.tdiv ((s : Int) + 4) 4 = ((q1 : Nat) : Int) := by rw [Int.tdiv_eq_ediv_of_nonneg (by omega)]; omega
          have hqb : ((s : Int) + 4) / 4 = ((q1 : Nat) : Int) := by omega
          have hqd : ((q1 : Nat) : Int) * 4 = ((S4 : Nat) : Int) := by omega
          have hq1b : q1 ≤ 100 := by omega
          have hS4b : S4 ≤ 400 := by omega
          have HSS4 : Hid (s + 1 ≤ S4) := Lib.hid (by omega)
          clear hq1 hS4
          by_cases hrS : r = S4
          rotate_left
          · have hb1 : (((r : Nat) : Int) != ((S4 : Nat) : Int)) = true := by rw [bne_iff_ne]; omega
            have HNO : Hid (bodyR 203 j l = none) := Lib.hid (by rw [HBD.out, HRD.out, if_neg hrS]; rfl)
            clear hrS
            go_wp2_with (refine wpList_store_row rfl 52 (.tmp 6) (.tmp 152) rfl w.heap.size rfl _ _ rfl 52 HRS.out (by kernel_rfl) rfl (by simp [Value.oneCell']) ?_; intro w9 hY hG; have HY := Lib.hid hY; have HGn := Lib.hid hG; clear hY hG)
            refine bodyPost_ret (results_row_1 rfl _ _ w.heap.size 52 _ _ rfl HY.out Try.underlying52 rfl (by kernel_rfl)) rfl (ResI.no HNO.out rfl (HF.out.step HGn.out (fun x hx => .inr (by simp at hx; omega))))
          have hb1 : (((r : Nat) : Int) != ((S4 : Nat) : Int)) = false := by rw [bne_eq_false_iff_eq]; omega
          have hs1r : s + 1 ≤ r := by have := HSS4.out; omega
          rw [if_pos hrS] at HRD
          clear hrS
          obtain ⟨e1, he1⟩ : ∃ e1, s + 1 = e1 := ⟨_, rfl⟩
          rw [he1] at HRD hs1r
          have HE1 := Lib.hid he1
          have hse : ((s : Nat) : Int) + 1 = ((e1 : Nat) : Int) := by omega
          have hse2 : (1 : Int) + ((s : Nat) : Int) = ((e1 : Nat) : Int) := by omega
          have he1b : e1 ≤ 257 := by omega
          clear he1
          go_upto_region 39 with fail
          clear d0 hqa hqb hqd hse hb1 hsz hsz2
          obtain ⟨tx, htx⟩ : ∃ tx, (d.drop 1).take s = tx := ⟨_, rfl⟩
          rw [htx] at HRD
          have HTX := Lib.hid htx
          clear htx
          go_loopw [17] (fun iv wy => ∃ (jj : Nat), jj ≤ r - e1 ∧ iv = .int .i64 ((e1 + jj : Nat) : Int) ∧ zerosR d (r - e1) e1 = zerosR d (r - e1 - jj) (e1 + jj) ∧ Fr [] wr wy) (fun iv _ => r - (intOf iv).toNat)
          case atStart => exact ⟨0, Nat.zero_le _, rfl, rfl, Fr.refl _ _⟩
          case round =>
            obtain ⟨jj, hjj, rfl, hzr, hF⟩ := hrel
            have HZR := Lib.hid hzr; have HFI := Lib.hid hF
            have HX := Lib.hid (HX.out.keep hF); have HOW := Lib.hid (HOW.out.keep Rep.src hF); have HRS := Lib.hid (HRS.out.keep hF); have HF := Lib.hid (HF.out.trans hF)
            clear hzr hF
            obtain ⟨p, hp⟩ : ∃ p, e1 + jj = p := ⟨_, rfl⟩
            rw [hp] at HZR ⊢
            have HP := Lib.hid hp
            have hpb : p ≤ 2000 := by omega
            by_cases hpr : p < r
            · obtain ⟨u, hu⟩ : ∃ u, r - e1 - jj = u + 1 := ⟨r - e1 - jj - 1, by omega⟩
              have HZR : Hid (zerosR d (r - e1) e1 = (decide (p + 1 ≤ d.length) && nb d p 1 == 0 && zerosR d u (p + 1))) := Lib.hid (by rw [HZR.out, hu]; rfl)
              have HU : Hid (r - e1 - (jj + 1) = u) := Lib.hid (by omega)
              have HJP : Hid (jj + 1 ≤ r - e1) := Lib.hid (by omega)
              have d2 := HCL.out wr HFI.out p hpr
              obtain ⟨y, hy⟩ : ∃ y, nb d p 1 = y := ⟨_, rfl⟩
              rw [hy] at d2 HZR
              have hd3 : decide (((p : Nat) : Int) < ((r : Nat) : Int)) = true := decide_eq_true (by omega)
              have hd4 : decide (p < r) = true := decide_eq_true hpr
              clear hy hu hp
              by_cases hy0 : y = 0
              · subst hy0
                go_wp2_with fail
                refine ⟨⟨jj + 1, HJP.out, by rw [← HP.out]; go_num, by rw [HZR.out, HU.out, ← HP.out, decide_eq_true (by rw [HDL.out, HP.out]; omega)]; rfl, HFI.out⟩, by simp [intOf]; have := HJP.out; have := HP.out; omega⟩
              · have hyb : (((y : Nat) : Int) != 0) = true := by rw [bne_iff_ne]; omega
                have HNO : Hid (bodyR 203 j l = none) := Lib.hid (by rw [HBD.out, HRD.out, HZR.out, beq_eq_false_iff_ne.2 hy0]; simp)
                clear hy0
                go_wp2_with (refine wpList_store_row rfl 52 (.tmp 6) (.tmp 166) rfl w.heap.size rfl _ _ rfl 52 HRS.out (by kernel_rfl) rfl (by simp [Value.oneCell']) ?_; intro w9 hY hG; have HY := Lib.hid hY; have HGn := Lib.hid hG; clear hY hG)
                refine bodyPost_ret (results_row_1 rfl _ _ w.heap.size 52 _ _ rfl HY.out Try.underlying52 rfl (by kernel_rfl)) rfl (ResI.no HNO.out rfl (HF.out.step HGn.out (fun x hx => .inr (by simp at hx; omega))))
            · have hpe : p = r := by omega
              have hd3 : decide (((p : Nat) : Int) < ((r : Nat) : Int)) = false := decide_eq_false (by omega)
              have hd4 : decide (p < r) = false := decide_eq_false hpr
              have HYS : Hid (bodyR 203 j l = some { Itm.zero 203 with srcs := ((List.range j).map fun i => l32 l (4 * i)), reason := tx }) := Lib.hid (by rw [HBD.out, HRD.out, HZR.out, show r - e1 - jj = 0 by omega]; rfl)
              have hcc1 : ¬ c2 = 1 := by have := HE1.out; have := HS1.out; omega
              have hst := str_of (show Bytes wr (.slice (some ⟨b, o + c4 + 1, none⟩) s (c2 - 1)) tx from by
                have h9 := Sl.sub' (HBN.out wr HFI.out) 1 s (by have := HE1.out; omega)
                rw [if_neg hcc1, ← List.map_drop, ← List.map_take, HTX.out] at h9
                exact h9)
              have hec : ((e1 : Nat) : Int) ≤ ((c2 : Nat) : Int) := by omega
              have hes : e1 - 1 = s := by have := HE1.out; omega
              have he1p : 1 ≤ e1 := by have := HE1.out; omega
              have he1q : (1 : Int) ≤ ((e1 : Nat) : Int) := by omega
              clear hpe hp hpr
              have n1 := HX.out.cell 9; have g1 := HX.out.free 9
              simp only [itc, List.getElem?_toArray, List.getElem?_cons_succ, List.getElem?_cons_zero] at n1
              obtain ⟨wc, ec, hFc, hBc, -⟩ := set_new HX.out 9 (.string (strB tx))
              simp only [itc, List.setIfInBounds_toArray, List.set_cons_zero, List.set_cons_succ] at hBc
              have EC := Lib.hid ec
              have HX : Hid (Box wc X 52 (itc { Itm.zero 203 with srcs := ((List.range j).map fun i => l32 l (4 * i)), reason := tx } (.slice none 0 0) (.slice none 0 0) (.slice av j cv))) := Lib.hid hBc
              have HRS := Lib.hid (HRS.out.fr hFc (by have := HXX.out; simp; omega)); have HOW := Lib.hid (HOW.out.fr Rep.src hFc (by simp) (fun b hb hm => by have := (HOW.out.block b hb).1; have := HXX.out; simp at hm; omega)); have HF := Lib.hid (HF.out.step hFc (fun b hb => .inr (by have := HXX.out; simp at hb; omega)))
              clear ec hFc hBc
              go_upto_region 44 with fail
              rw [EC.out]
              clear EC n1 g1 hst
              go_wp2_with (first | (refine wpList_load_row_w rfl 52 (.tmp 8) rfl X rfl 52 _ _ HX.out Try.underlying52 rfl (by kernel_rfl) ?_) | (refine wpList_store_row rfl 52 (.tmp 6) (.tmp 173) rfl w.heap.size rfl _ _ rfl 52 HRS.out (by kernel_rfl) rfl (by simp [itc, Value.oneCell']) ?_; intro w9 hY hG; have HY := Lib.hid hY; have HGn := Lib.hid hG; clear hY hG))
              have HOW := Lib.hid (HOW.out.fr Rep.src HGn.out (by simp) (fun b hb hm => by have := (HOW.out.block b hb).1; have := HXX.out; simp at hm; omega))
              obtain ⟨BB, hI, hBd⟩ := ItR.srcs (b0 := w.heap.size) (x := { Itm.zero 203 with srcs := ((List.range j).map fun i => l32 l (4 * i)), reason := tx }) HOW.out rfl rfl (by have := HXX.out; omega)
              refine bodyPost_ret (results_row_1 rfl _ _ w.heap.size 52 _ _ rfl HY.out Try.underlying52 rfl (by kernel_rfl)) rfl ⟨_, _, BB, by rw [HYS.out]; rfl, hI, hBd, HF.out.step HGn.out (fun x hx => .inr (by simp at hx; omega)), fun y hy => by rw [HYS.out] at hy; exact Option.some.inj hy⟩
set_option maxRecDepth 100000 in
set_option maxHeartbeats 8000000 in
theorem r07item_other {w : World} {v : Value} {l : List UInt8} (h : Bytes w v l) (hsm : l.length ≤ 1500) (kind : Int) (cn : Nat) (hcn : cn ≤ 31) (hk : kind ≠ 200 ∧ kind ≠ 201 ∧ kind ≠ 202 ∧ kind ≠ 203) :
    Calls Try.prog 27 #[.int .i64 kind, .int .i64 cn, v] w fun e w' => ResI kind cn l w e w' := by
  obtain ⟨a, cap, rfl⟩ := Sl.shape h
  have hc := (Sl.len h).2.1
  rw [List.length_map] at h hc ⊢
  have HSM := Lib.hid hsm
  obtain ⟨w1, e1, hF1, hB1, hs1⟩ := one_new w #[.int .i64 0, .int .u32 0, .int .u64 0, .int .u32 0, .int .u32 0, .int .u32 0, .slice none 0 0, .slice none 0 0, .slice none 0 0, .string ⟨#[]⟩] 52
  obtain ⟨w2, e2, hF2, hB2, hs2⟩ := one_new w1 #[.int .i64 kind, .int .u32 0, .int .u64 0, .int .u32 0, .int .u32 0, .int .u32 0, .slice none 0 0, .slice none 0 0, .slice none 0 0, .string ⟨#[]⟩] 52
  have HF := Lib.hid (hF1.trans hF2); have HRS := Lib.hid (hB1.keep hF2); have HX := Lib.hid hB2; have E1 := Lib.hid e1; have E2 := Lib.hid e2; have HHW := Lib.hid h; have HH := Lib.hid (Sl.keep (Sl.keep h hF1) hF2)
  obtain ⟨X, hX⟩ : ∃ X, w1.heap.size = X := ⟨_, rfl⟩
  obtain ⟨B0, hB0⟩ : ∃ B0, w2.heap.size = B0 := ⟨_, rfl⟩
  have HXX : Hid (w.heap.size < X ∧ X < B0) := Lib.hid (by omega)
  have HB0 := Lib.hid (Nat.le_of_eq hB0.symm)
  obtain ⟨m, hm⟩ : ∃ m, l.length = m := ⟨_, rfl⟩
  rw [hm] at HH HHW hc hsm ⊢
  have HM := Lib.hid hm
  have HXe := Lib.hid hX
  clear h hF1 hB1 e1 hs1 hF2 hB2 e2 hs2 hm hB0 hX
  go_enter Try.func27, Try.ntmps27
  go_upto_region 1 with fail
  rw [E1.out]
  clear E1
  go_upto_region 2 with fail
  rw [E2.out]
  clear E2
  have hXe := HXe.out
  try simp only [hXe]
  rw [hXe] at HX
  clear hXe
  have HNO := Lib.hid (bodyOther l cn kind hk)
  have hk0 : (kind == 200) = false := beq_eq_false_iff_ne.2 hk.1
  have hk1 : (kind == 201) = false := beq_eq_false_iff_ne.2 hk.2.1
  have hk2 : (kind == 202) = false := beq_eq_false_iff_ne.2 hk.2.2.1
  have hk3 : (kind != 203) = true := bne_iff_ne.2 hk.2.2.2
  clear hk
  go_wp2_with (refine wpList_store_row rfl 52 (.tmp 6) (.tmp 113) rfl w.heap.size rfl _ _ rfl 52 HRS.out (by kernel_rfl) rfl (by simp [Value.oneCell']) ?_; intro w9 hY hG; have HY := Lib.hid hY; have HGn := Lib.hid hG; clear hY hG)
  refine bodyPost_ret (results_row_1 rfl _ _ w.heap.size 52 _ _ rfl HY.out Try.underlying52 rfl (by kernel_rfl)) rfl (ResI.no HNO.out rfl (HF.out.step HGn.out (fun x hx => .inr (by simp at hx; omega))))
set_option maxRecDepth 100000 in
set_option maxHeartbeats 8000000 in
theorem r07item_any {w : World} {v : Value} {l : List UInt8} (h : Bytes w v l) (hsm : l.length ≤ 1500) (kind : Int) (cn : Nat) (hcn : cn ≤ 31) :
    Calls Try.prog 27 #[.int .i64 kind, .int .i64 cn, v] w fun e w' => ResI kind cn l w e w' := by
  by_cases h0 : kind = 200
  · subst h0; exact r07item_200 h hsm cn hcn
  by_cases h1 : kind = 201
  · subst h1; exact r07item_201 h hsm cn hcn
  by_cases h2 : kind = 202
  · subst h2; exact r07item_202 h hsm cn hcn
  by_cases h3 : kind = 203
  · subst h3; exact r07item_203 h hsm cn hcn
  exact r07item_other h hsm kind cn hcn ⟨h0, h1, h2, h3⟩
end Go.Proofs.Ytcmpjkopdjncdaa

/- The walk of confluxref07.Parse (printed by gen_7ref7.py). -/
namespace Go.Proofs.Ytcmpjkopdjncdaa
open Go.RowKit

set_option maxRecDepth 100000 in
theorem info_ritm : (Try.prog.info? 52).map (fun i => (i.zero, i.size, i.bytes)) = some (some (.agg #[.int .i64 0, .int .u32 0, .int .u64 0, .int .u32 0, .int .u32 0, .int .u32 0, .slice none 0 0, .slice none 0 0, .slice none 0 0, .string ⟨#[]⟩]), 10, 128) := by kernel_rfl
/-- Behind the document's item: where it lies. -/
def ICut (w wr wx : World) (kind : Int) (n : Nat) (l : List UInt8) (pv ov : Value) : Prop :=
  ∃ (G : Nat) (x : Itm) (a1 a2 a3 : Option Addr) (n1 c1 n2 c2 n3 c3 : Nat) (B : List Nat), pv = .pointer (some ⟨G, 0, none⟩) ∧ ov = .bool (bodyR kind n l).isSome ∧ Box wx G 52 (itc x (.slice a1 n1 c1) (.slice a2 n2 c2) (.slice a3 n3 c3)) ∧ ItR wx (itc x (.slice a1 n1 c1) (.slice a2 n2 c2) (.slice a3 n3 c3)).toList x B ∧ (∀ b ∈ B, wr.heap.size ≤ b) ∧ Fr [] wr wx ∧ ∀ y, bodyR kind n l = some y → x = y
theorem itemR_at (l : List UInt8) (h1 : 1 ≤ l.length) (h4 : nb l 0 1 / 32 = 4) (h5 : 4 ≤ l.length) (h6 : 4 + 4 * nb l 2 2 ≤ l.length) : itemR l = match bodyR (nb l 1 1) (nb l 0 1 % 32) ((l.drop 4).take (4 * nb l 2 2)) with | some x => .ok (x, 4 + 4 * nb l 2 2) | none => .error 21 := by
  unfold itemR
  rw [if_pos h1, if_pos h4, if_pos h5, if_pos h6]
  cases bodyR (nb l 1 1) (nb l 0 1 % 32) ((l.drop 4).take (4 * nb l 2 2)) <;> rfl
set_option maxRecDepth 100000 in
set_option maxHeartbeats 8000000 in
theorem r07Parse_any {w : World} {v : Value} {l : List UInt8} (hl : Bytes w v l) :
    Calls Try.prog 11 #[v] w fun e w' =>
      (∃ xs u B, parse7 l = .ok xs ∧ e = .returned (.tuple #[u, .int .i64 0]) ∧ OwnEls 10 ItR w' w.heap.size 52 u xs B ∧ (∀ b ∈ B, w.heap.size ≤ b) ∧ Fr [] w w') ∨
      (∃ c, parse7 l = .error c ∧ c ≠ 0 ∧ e = .returned (.tuple #[.slice none 0 0, .int .i64 c]) ∧ Fr [] w w') := by
  obtain ⟨a, cap, rfl⟩ := hl.shape
  rw [List.length_map] at hl ⊢
  have HL := Lib.hid hl
  have HF : Hid (Fr [] w w) := Lib.hid (Fr.refl _ _)
  clear hl
  go_enter Try.func11, Try.ntmps11
  by_cases hbig : 1500 < l.length
  · have HP : Hid (parse7 l = .error 2) := Lib.hid (by unfold parse7; rw [if_pos hbig])
    have hd : decide ((1500 : Int) < (l.length : Int)) = true := decide_eq_true (by omega)
    go_wp2_with fail
    go_ret2
    exact .inr ⟨2, HP.out, by decide, rfl, HF.out⟩
  have HP : Hid (parse7 l = match eachR (l.length + 1) l with | .error e => .error e | .ok [] => .error 4 | .ok (x :: xs) => if begins7 x then .ok (x :: xs) else .error 21) := Lib.hid (by unfold parse7; rw [if_neg hbig]; rfl)
  have HPE : Hid (∀ c, eachR (l.length + 1) l = .error c → parse7 l = .error c) := Lib.hid (fun c h => by rw [HP.out, h])
  have hd : decide ((1500 : Int) < (l.length : Int)) = false := decide_eq_false (by omega)
  have HSM : Hid (l.length ≤ 1500) := Lib.hid (by omega)
  clear hbig
  obtain ⟨w1, e1, hF1, hB1, hs1⟩ := one_new w #[] 52
  have E1 := Lib.hid e1; have HO1 : Hid (OwnEls 10 ItR w1 w.heap.size 52 (.slice (some ⟨w.heap.size, 0, none⟩) 0 0) [] []) := Lib.hid (by rw [← e1]; exact OwnEls.made w w.heap.size _ (Nat.le_refl _))
  have HF := Lib.hid (HF.out.trans hF1); have HLW := Lib.hid (fun b hb => Sl.lt HL.out b hb); have HL := Lib.hid (Sl.keep HL.out hF1)
  clear e1 hF1 hB1 hs1
  go_upto_region 4 with fail
  rw [E1.out]
  clear E1 hd
  go_loopw [0, 4] (fun bv ov wr => ∃ (f : Nat) (rest : List UInt8) (xs : List Itm) (B : List Nat), ERel l f rest xs ∧ Bytes wr bv rest ∧ (∀ b, liveOf bv = some b → b < w.heap.size) ∧ OwnEls 10 ItR wr w.heap.size 52 ov xs B ∧ (∀ b ∈ B, w.heap.size ≤ b) ∧ Fr [] w wr) (fun bv _ _ => match bv with | .slice _ n _ => n | _ => 0)
  case atStart => exact ⟨_, l, [], [], ERel.start l, HL.out, HLW.out, HO1.out, by simp, HF.out⟩
  case round =>
    clear HL HO1 HF HLW
    obtain ⟨f, rest, xs, B, hE, hb, hlv, hO, hB, hF⟩ := hrel
    obtain ⟨a, cap, rfl⟩ := hb.shape
    obtain ⟨ao, co, rfl⟩ := hO.shape
    have hlen := hE.2.1
    have hcap : rest.length ≤ cap := by have := (Sl.len hb).2.1; simpa using this
    rw [List.length_map] at hb hlv ⊢
    have HE := Lib.hid hE; have HB := Lib.hid hb; have HO := Lib.hid hO; have HBB := Lib.hid hB; have HF := Lib.hid hF; have HLV := Lib.hid hlv
    clear hE hb hO hB hF hlv
    obtain ⟨m, hm⟩ : ∃ m, rest.length = m := ⟨_, rfl⟩
    rw [hm] at hlen hcap HB HLV ⊢
    have HM := Lib.hid hm
    have hm15 : m ≤ 1500 := by have := HSM.out; omega
    have hx15 : xs.length ≤ 1500 := by have := HSM.out; omega
    have HX15 := Lib.hid hx15
    clear hm hlen
    by_cases h0 : m = 0
    · subst h0
      have HD := Lib.hid (HE.out.done HM.out)
      cases hxs : xs with
      | nil =>
        subst hxs
        have HQ : Hid (parse7 l = .error 4) := Lib.hid (by rw [HP.out, HD.out])
        clear hx15
        simp only [List.length_nil]
        go_wp2_with fail
        go_ret2
        exact .inr ⟨4, HQ.out, by decide, rfl, HF.out⟩
      | cons x ys =>
        rw [hxs] at HD HO
        have HQ : Hid (parse7 l = if begins7 x then .ok (x :: ys) else .error 21) := Lib.hid (by rw [HP.out, HD.out])
        obtain ⟨n, hn⟩ : ∃ n, (x :: ys).length = n := ⟨_, rfl⟩
        have hn0 : 0 < n := by rw [← hn]; simp
        obtain ⟨b, o, c, y, B1, ea, -, hy, ⟨vr, vc, vs, Bc, rfl, -⟩, -, hrg⟩ := HO.out.sl.at_ Rep.itm (i := 0) (by simp)
        rw [List.getElem?_cons_zero] at hy
        cases hy
        subst ea
        rw [Nat.zero_mul, Nat.add_zero] at hrg
        have d0 := hrg 0 _ rfl
        rw [Nat.add_zero] at d0
        rw [hn] at HO ⊢
        have hm1 : ((n : Int) == 0) = false := beq_eq_false_iff_ne.2 (by omega)
        have hm2 : (n == 0) = false := beq_eq_false_iff_ne.2 (by omega)
        clear hrg hx15 hn hxs
        obtain ⟨kd, hkd⟩ : ∃ kd, x.kind = kd := ⟨_, rfl⟩
        rw [hkd] at d0
        have HKD := Lib.hid hkd
        clear hkd
        by_cases k0 : kd = 200
        · have HZ : Hid (begins7 x = true) := Lib.hid (by unfold begins7; rw [HKD.out, k0]; rfl)
          subst k0
          rw [HZ.out] at HQ
          go_wp2_with fail
          go_ret2
          first | exact .inl ⟨x :: ys, by rw [HQ.out]; simp, _, rfl, B, HO.out, HBB.out, HF.out⟩ | exact .inl ⟨x :: ys, _, B, by rw [HQ.out]; simp, rfl, HO.out, HBB.out, HF.out⟩
        have kb : (kd != 200) = true := bne_iff_ne.2 k0
        by_cases k1 : kd = 201
        · have HZ : Hid (begins7 x = true) := Lib.hid (by unfold begins7; rw [HKD.out, k1]; rfl)
          subst k1
          rw [HZ.out] at HQ
          clear k0 kb
          go_wp2_with fail
          go_ret2
          first | exact .inl ⟨x :: ys, by rw [HQ.out]; simp, _, rfl, B, HO.out, HBB.out, HF.out⟩ | exact .inl ⟨x :: ys, _, B, by rw [HQ.out]; simp, rfl, HO.out, HBB.out, HF.out⟩
        have kc : (kd != 201) = true := bne_iff_ne.2 k1
        have HZ : Hid (begins7 x = false) := Lib.hid (by unfold begins7; rw [HKD.out, beq_eq_false_iff_ne.2 k0, beq_eq_false_iff_ne.2 k1]; rfl)
        rw [HZ.out] at HQ
        clear k0 k1
        go_wp2_with fail
        go_ret2
        exact .inr ⟨21, by rw [HQ.out]; simp, by decide, rfl, HF.out⟩
    have hmpos : (0 : Int) < (m : Int) := by omega
    have hmpos2 : 0 < m := by omega
    have HN0 : Hid (rest.length ≠ 0) := Lib.hid (by have := HM.out; omega)
    obtain ⟨b, o, ea, -, -⟩ := Sl.at_ HB.out (k := 0) hmpos2
    subst ea
    have HCL : Hid (∀ k, k < m → wr.cell? ⟨b, o + k, none⟩ = some (.int .u8 (nb rest k 1 : Nat))) := Lib.hid (fun k hk => by
      obtain ⟨b', o', e', -, hcell⟩ := Sl.at_ HB.out (k := k) hk
      simp only [Option.some.injEq, Addr.mk.injEq] at e'
      obtain ⟨rfl, rfl, -⟩ := e'
      have hkl : k < rest.length := by rw [HM.out]; exact hk
      have h9 := hcell k (B8 rest[k]) (by rw [List.getElem?_map, List.getElem?_eq_getElem hkl]; rfl)
      rw [h9, nb_one hkl]
      rfl)
    have d0 := HCL.out 0 hmpos2
    rw [Nat.add_zero] at d0
    have HD0 := Lib.hid d0
    obtain ⟨t0, ht0⟩ : ∃ t0, nb rest 0 1 = t0 := ⟨_, rfl⟩
    have ht0b : t0 < 256 := by rw [← ht0]; exact nb_lt rest 0 1
    rw [ht0] at d0
    have HT0 := Lib.hid ht0
    clear ht0 h0
    have hq1 : Int.tdiv (t0 : Int) 32 = ((t0 / 32 : Nat) : Int) := by rw [Int.tdiv_eq_ediv_of_nonneg (by omega)]; omega
    have hq2 : (t0 : Int) / 32 = ((t0 / 32 : Nat) : Int) := by omega
    obtain ⟨t32, ht32⟩ : ∃ t32, t0 / 32 = t32 := ⟨_, rfl⟩
    rw [ht32] at hq1 hq2
    have hq3 : IntKind.u8.wrap ((t32 : Nat) : Int) = ((t32 : Nat) : Int) := IntWalk.u8_in _ (by omega)
    have HT32 := Lib.hid ht32
    clear ht32
    by_cases ht4 : t32 = 4
    rotate_left
    · have hb4 : (((t32 : Nat) : Int) != 4) = true := by rw [bne_iff_ne]; omega
      have HX := Lib.hid (HPE.out 21 (HE.out.fail HN0.out (by unfold itemR; rw [if_pos (by rw [HM.out]; omega), if_neg (by rw [HT0.out, HT32.out]; exact ht4)])))
      clear ht4
      go_wp2_with fail
      go_ret2
      exact .inr ⟨21, HX.out, by decide, rfl, HF.out⟩
    have HT4 : Hid (nb rest 0 1 / 32 = 4) := Lib.hid (by rw [HT0.out, HT32.out]; exact ht4)
    subst ht4
    by_cases hm4 : m < 4
    · have hb4 : decide (((m : Nat) : Int) < 4) = true := decide_eq_true (by omega)
      have hb5 : decide (m < 4) = true := decide_eq_true hm4
      have HX := Lib.hid (HPE.out 20 (HE.out.fail HN0.out (by unfold itemR; rw [if_pos (by rw [HM.out]; omega), if_pos HT4.out, if_neg (by rw [HM.out]; omega)])))
      clear hm4
      go_wp2_with fail
      go_ret2
      exact .inr ⟨20, HX.out, by decide, rfl, HF.out⟩
    have hb4 : decide (((m : Nat) : Int) < 4) = false := decide_eq_false (by omega)
    have hb5 : decide (m < 4) = false := decide_eq_false hm4
    have hm4 : 4 ≤ m := by omega
    have hcap4 : 4 ≤ cap := by omega
    have hcn2 : ¬ cap = 2 := by omega
    have hb := HB.out
    rw [← HM.out] at hb
    have HN := Lib.hid (RNum_at (l := rest) hb 2 2 (by rw [HM.out]; omega) (by omega) (by omega))
    clear hb
    go_wp2_with fail
    refine HN.out.mono ?_
    rintro e w3 ⟨rfl, hF3⟩
    have HB := Lib.hid (Sl.keep HB.out hF3); have HO := Lib.hid (HO.out.keep Rep.itm hF3); have HF := Lib.hid (HF.out.trans hF3)
    have HD0 := Lib.hid (hF3.cellSome HD0.out (by simp))
    have HD1 := Lib.hid (hF3.cellSome (HCL.out 1 (by omega)) (by simp))
    clear hF3 HN hq1 hq2 hq3 hb4 hb5 hcn2 d0 HCL
    have hnb2 := nb_lt rest 2 2
    obtain ⟨n2, hn2⟩ : ∃ n2, nb rest 2 2 = n2 := ⟨_, rfl⟩
    rw [hn2] at hnb2 ⊢
    have HN2 := Lib.hid hn2
    clear hn2
    have hw2 : wrap64 ((n2 : Nat) : Int) = ((n2 : Nat) : Int) := IntWalk.wrap64_in _ ⟨by omega, by omega⟩
    obtain ⟨n4, hn4⟩ : ∃ n4, 4 * n2 = n4 := ⟨_, rfl⟩
    obtain ⟨sz, hsz⟩ : ∃ sz, 4 + n4 = sz := ⟨_, rfl⟩
    have hs1 : (4 : Int) * ((n2 : Nat) : Int) = ((n4 : Nat) : Int) := by omega
    have hs2 : (4 : Int) + ((n4 : Nat) : Int) = ((sz : Nat) : Int) := by omega
    have hszb : sz ≤ 262200 := by omega
    have hn4b : n4 ≤ 262200 := by omega
    have HSZ : Hid (4 + 4 * nb rest 2 2 = sz) := Lib.hid (by rw [HN2.out]; omega)
    have hsz4 : sz - 4 = n4 := by omega
    have hsz4b : 4 ≤ sz := by omega
    have HN4 : Hid (4 * nb rest 2 2 = n4) := Lib.hid (by rw [HN2.out]; exact hn4)
    clear hn4 hsz
    by_cases hmz : m < sz
    · have hb6 : decide (((m : Nat) : Int) < ((sz : Nat) : Int)) = true := decide_eq_true (by omega)
      have hb7 : decide (m < sz) = true := decide_eq_true hmz
      have HX := Lib.hid (HPE.out 20 (HE.out.fail HN0.out (by unfold itemR; rw [if_pos (by rw [HM.out]; omega), if_pos HT4.out, if_pos (by rw [HM.out]; omega), if_neg (by rw [HM.out, HSZ.out]; omega)])))
      clear hmz hmpos hmpos2
      go_wp2_with fail
      go_ret2
      exact .inr ⟨20, HX.out, by decide, rfl, HF.out⟩
    have hb6 : decide (((m : Nat) : Int) < ((sz : Nat) : Int)) = false := decide_eq_false (by omega)
    have hb7 : decide (m < sz) = false := decide_eq_false hmz
    have hszm : sz ≤ m := by omega
    clear hmz
    have HIR := Lib.hid (itemR_at rest (by rw [HM.out]; omega) HT4.out (by rw [HM.out]; omega) (by rw [HM.out, HSZ.out]; exact hszm))
    obtain ⟨q, hq⟩ : ∃ q, (if cap = 4 then some (⟨b, o, none⟩ : Addr) else some ⟨b, o + 4, none⟩) = q := ⟨_, rfl⟩
    obtain ⟨bd, hbd⟩ : ∃ bd, (rest.drop 4).take n4 = bd := ⟨_, rfl⟩
    have hbdl : bd.length = n4 := by rw [← hbd, List.length_take, List.length_drop, HM.out]; omega
    have HBL : Hid (bd.length ≤ 1500) := Lib.hid (by rw [hbdl]; omega)
    have HBI : Hid (Bytes w3 (.slice q n4 (cap - 4)) bd) := Lib.hid (by
      have h9 := Sl.sub' HB.out 4 n4 (by omega)
      rw [hq, ← List.map_drop, ← List.map_take, hbd] at h9
      exact h9)
    have HBD : Hid ((rest.drop 4).take (4 * nb rest 2 2) = bd) := Lib.hid (by rw [HN4.out]; exact hbd)
    rw [HBD.out] at HIR
    clear hbd hbdl
    obtain ⟨cn, hcn⟩ : ∃ cn, nb rest 0 1 % 32 = cn := ⟨_, rfl⟩
    rw [hcn] at HIR
    have HC31 : Hid (cn ≤ 31) := Lib.hid (by omega)
    have hk0b := nb_lt rest 0 1; have hk1b := nb_lt rest 1 1
    have hka : IntKind.i64.wrap ((nb rest 1 1 : Nat) : Int) = ((nb rest 1 1 : Nat) : Int) := IntWalk.i64_in _ (by omega)
    have hkr : Int.tmod ((nb rest 0 1 : Nat) : Int) 32 = ((cn : Nat) : Int) := by rw [Int.tmod_eq_emod_of_nonneg (by omega)]; omega
    have hkr2 : ((nb rest 0 1 : Nat) : Int) % 32 = ((cn : Nat) : Int) := by omega
    have hku : IntKind.u8.wrap ((cn : Nat) : Int) = ((cn : Nat) : Int) := IntWalk.u8_in _ (by omega)
    have hkw : IntKind.i64.wrap ((cn : Nat) : Int) = ((cn : Nat) : Int) := IntWalk.i64_in _ (by omega)
    clear hcn
    have hi1m : (1 : Int) < ((m : Nat) : Int) := by omega
    have hszc : ((sz : Nat) : Int) ≤ ((cap : Nat) : Int) := by omega
    have hsz4i : (4 : Int) ≤ ((sz : Nat) : Int) := by omega
    go_upto_region 12 with fail
    go_cut [6, 7] (fun pv ov wx => ICut w w3 wx (nb rest 1 1 : Nat) cn bd pv ov)
    case first =>
      refine wp_region_T (fun w' => Fr [] w3.drew w') [] 19 #[false, false, false, false, false, false, false, false, false, false, false, false, false, false, false, false, false, false, false] (by kernel_rfl) rfl rfl ?_
      try simp only [List.append_eq, List.cons_append, List.nil_append]
      have hF := (Fr.refl [] w3).drew
      have HBI := Lib.hid (Sl.keep HBI.out hF)
      have HFD := Lib.hid hF
      have HWD : Hid (w3.heap.size ≤ w3.drew.heap.size) := Lib.hid hF.size
      have HD0 := Lib.hid (hF.cellSome HD0.out (by simp)); have HD1 := Lib.hid (hF.cellSome HD1.out (by simp))
      clear hF
      have HSS : Hid (Fr [] w3.drew w3.drew) := Lib.hid (Fr.refl _ _)
      generalize w3.drew = wd at *
      refine wpAnyT_load (i := 0) (v := ?_) rfl (by kernel_rfl) (by kernel_rfl) (by kernel_rfl) (by kernel_rfl) (by kernel_rfl) (fun _ _ _ h => h) HSS.out (by rfl) ?_ ?_
      rotate_left
      · intro w hSw; skip; go_simp; try with_reducible rfl
      simp only [Act.put, List.getElem_toArray, List.getElem_cons_zero, List.getElem_cons_succ, List.setIfInBounds_toArray, List.set_cons_zero, List.set_cons_succ]
      refine wpAnyT_load (i := 1) (v := ?_) rfl (by kernel_rfl) (by kernel_rfl) (by kernel_rfl) (by kernel_rfl) (by kernel_rfl) (fun _ _ _ h => h) HSS.out (by rfl) ?_ ?_
      rotate_left
      · intro w hSw; skip; go_simp; try with_reducible rfl
      simp only [Act.put, List.getElem_toArray, List.getElem_cons_zero, List.getElem_cons_succ, List.setIfInBounds_toArray, List.set_cons_zero, List.set_cons_succ]
      refine wpAnyT_load (i := 2) (v := ?_) rfl (by kernel_rfl) (by kernel_rfl) (by kernel_rfl) (by kernel_rfl) (by kernel_rfl) (fun _ _ _ h => h) HSS.out (by rfl) ?_ ?_
      rotate_left
      · intro w hSw; have d1 := hSw.cellSome HD1.out (by simp); go_simp; try with_reducible rfl
      simp only [Act.put, List.getElem_toArray, List.getElem_cons_zero, List.getElem_cons_succ, List.setIfInBounds_toArray, List.set_cons_zero, List.set_cons_succ]
      refine wpAnyT_load (i := 3) (v := ?_) rfl (by kernel_rfl) (by kernel_rfl) (by kernel_rfl) (by kernel_rfl) (by kernel_rfl) (fun _ _ _ h => h) HSS.out (by rfl) ?_ ?_
      rotate_left
      · intro w hSw; skip; go_simp; try with_reducible rfl
      simp only [Act.put, List.getElem_toArray, List.getElem_cons_zero, List.getElem_cons_succ, List.setIfInBounds_toArray, List.set_cons_zero, List.set_cons_succ]
      refine wpAnyT_load (i := 4) (v := ?_) rfl (by kernel_rfl) (by kernel_rfl) (by kernel_rfl) (by kernel_rfl) (by kernel_rfl) (fun _ _ _ h => h) HSS.out (by rfl) ?_ ?_
      rotate_left
      · intro w hSw; skip; go_simp; try with_reducible rfl
      simp only [Act.put, List.getElem_toArray, List.getElem_cons_zero, List.getElem_cons_succ, List.setIfInBounds_toArray, List.set_cons_zero, List.set_cons_succ]
      refine wpAnyT_load (i := 5) (v := ?_) rfl (by kernel_rfl) (by kernel_rfl) (by kernel_rfl) (by kernel_rfl) (by kernel_rfl) (fun _ _ _ h => h) HSS.out (by rfl) ?_ ?_
      rotate_left
      · intro w hSw; skip; go_simp; try with_reducible rfl
      simp only [Act.put, List.getElem_toArray, List.getElem_cons_zero, List.getElem_cons_succ, List.setIfInBounds_toArray, List.set_cons_zero, List.set_cons_succ]
      refine wpAnyT_load (i := 6) (v := ?_) rfl (by kernel_rfl) (by kernel_rfl) (by kernel_rfl) (by kernel_rfl) (by kernel_rfl) (fun _ _ _ h => h) HSS.out (by rfl) ?_ ?_
      rotate_left
      · intro w hSw; have d0 := hSw.cellSome HD0.out (by simp); go_simp; try with_reducible rfl
      simp only [Act.put, List.getElem_toArray, List.getElem_cons_zero, List.getElem_cons_succ, List.setIfInBounds_toArray, List.set_cons_zero, List.set_cons_succ]
      refine wpAnyT_load (i := 7) (v := ?_) rfl (by kernel_rfl) (by kernel_rfl) (by kernel_rfl) (by kernel_rfl) (by kernel_rfl) (fun _ _ _ h => h) HSS.out (by rfl) ?_ ?_
      rotate_left
      · intro w hSw; skip; go_simp; try with_reducible rfl
      simp only [Act.put, List.getElem_toArray, List.getElem_cons_zero, List.getElem_cons_succ, List.setIfInBounds_toArray, List.set_cons_zero, List.set_cons_succ]
      refine wpAnyT_load (i := 8) (v := ?_) rfl (by kernel_rfl) (by kernel_rfl) (by kernel_rfl) (by kernel_rfl) (by kernel_rfl) (fun _ _ _ h => h) HSS.out (by rfl) ?_ ?_
      rotate_left
      · intro w hSw; skip; go_simp; try with_reducible rfl
      simp only [Act.put, List.getElem_toArray, List.getElem_cons_zero, List.getElem_cons_succ, List.setIfInBounds_toArray, List.set_cons_zero, List.set_cons_succ]
      refine wpAnyT_load (i := 9) (v := ?_) rfl (by kernel_rfl) (by kernel_rfl) (by kernel_rfl) (by kernel_rfl) (by kernel_rfl) (fun _ _ _ h => h) HSS.out (by rfl) ?_ ?_
      rotate_left
      · intro w hSw; skip; go_simp; try with_reducible rfl
      simp only [Act.put, List.getElem_toArray, List.getElem_cons_zero, List.getElem_cons_succ, List.setIfInBounds_toArray, List.set_cons_zero, List.set_cons_succ]
      refine wpAnyT_load (i := 10) (v := ?_) rfl (by kernel_rfl) (by kernel_rfl) (by kernel_rfl) (by kernel_rfl) (by kernel_rfl) (fun _ _ _ h => h) HSS.out (by rfl) ?_ ?_
      rotate_left
      · intro w hSw; skip; go_simp; try with_reducible rfl
      simp only [Act.put, List.getElem_toArray, List.getElem_cons_zero, List.getElem_cons_succ, List.setIfInBounds_toArray, List.set_cons_zero, List.set_cons_succ]
      refine wpAnyT_load (i := 11) (v := ?_) rfl (by kernel_rfl) (by kernel_rfl) (by kernel_rfl) (by kernel_rfl) (by kernel_rfl) (fun _ _ _ h => h) HSS.out (by rfl) ?_ ?_
      rotate_left
      · intro w hSw; skip; go_simp; try with_reducible rfl
      simp only [Act.put, List.getElem_toArray, List.getElem_cons_zero, List.getElem_cons_succ, List.setIfInBounds_toArray, List.set_cons_zero, List.set_cons_succ]
      refine wpAnyT_two (i := 12) (j := 16) (by kernel_rfl) rfl rfl (fun K hK => ?_) (fun K hK => ?_)
      · rw [if_pos (by rfl)]
        go_simp
        refine (r07item_any HBI.out (by have := HBL.out; omega) _ _ HC31.out).mono ?_
        rintro e wl ⟨x, c, BI, rfl, hI, hBI, hF, hxy⟩
        obtain ⟨a1, n1, c1, a2, n2, c2, a3, n3, c3, rfl⟩ := hI.open_
        have HI := Lib.hid hI; have HXY := Lib.hid hxy
        have HBIw : Hid (∀ b ∈ BI, wd.heap.size ≤ b) := Lib.hid hBI; have HSZ0 : Hid (wd.heap.size ≤ wd.heap.size) := Lib.hid HSS.out.size
        have HSS := Lib.hid (HSS.out.trans hF)
        have HI0 : Hid (∀ b ∈ BI, b < wl.heap.size) := Lib.hid (Rep.itm.lt hI); have HWL : Hid (wd.heap.size ≤ wl.heap.size) := Lib.hid HSS.out.size
        clear hI hBI hF hxy
        go_simp
        refine hK.out _ _ (fun _ => HSS.out) ?_
        clear hK K
        simp only [Act.put, List.getElem_toArray, List.getElem_cons_zero, List.getElem_cons_succ, List.setIfInBounds_toArray, List.set_cons_zero, List.set_cons_succ]
        refine wpAnyT_load (i := 13) (v := ?_) rfl (by kernel_rfl) (by kernel_rfl) (by kernel_rfl) (by kernel_rfl) (by kernel_rfl) (fun _ _ _ h => h) HSS.out (by rfl) ?_ ?_
        rotate_left
        · intro w hSw; skip; go_simp; try with_reducible rfl
        simp only [Act.put, List.getElem_toArray, List.getElem_cons_zero, List.getElem_cons_succ, List.setIfInBounds_toArray, List.set_cons_zero, List.set_cons_succ]
        refine wpAnyT_load (i := 14) (v := ?_) rfl (by kernel_rfl) (by kernel_rfl) (by kernel_rfl) (by kernel_rfl) (by kernel_rfl) (fun _ _ _ h => h) HSS.out (by rfl) ?_ ?_
        rotate_left
        · intro w hSw; skip; go_simp; try with_reducible rfl
        simp only [Act.put, List.getElem_toArray, List.getElem_cons_zero, List.getElem_cons_succ, List.setIfInBounds_toArray, List.set_cons_zero, List.set_cons_succ]
        refine wpAnyT_load (i := 15) (v := ?_) rfl (by kernel_rfl) (by kernel_rfl) (by kernel_rfl) (by kernel_rfl) (by kernel_rfl) (fun _ _ _ h => h) HSS.out (by rfl) ?_ ?_
        rotate_left
        · intro w hSw; skip; go_simp; try with_reducible rfl
        simp only [Act.put, List.getElem_toArray, List.getElem_cons_zero, List.getElem_cons_succ, List.setIfInBounds_toArray, List.set_cons_zero, List.set_cons_succ]
        refine wpAnyT_one (i := 16) (by kernel_rfl) rfl (fun K hK => ?_)
        obtain ⟨wa, ea, hF, hBa, hsa⟩ := one_new wl #[.int .i64 0, .int .u32 0, .int .u64 0, .int .u32 0, .int .u32 0, .int .u32 0, .slice none 0 0, .slice none 0 0, .slice none 0 0, .string ⟨#[]⟩] 52
        have EA := Lib.hid ea; have HX := Lib.hid hBa; have HSA : Hid (wl.heap.size < wa.heap.size) := Lib.hid (by omega)
        have HSS := Lib.hid (HSS.out.trans hF)
        have HI := Lib.hid (Rep.itm.fr HI.out hF (by simp))
        clear ea hF hBa hsa
        rw [if_pos (by rfl)]
        go_simp
        rw [EA.out]
        refine hK.out _ _ (fun _ => HSS.out) ?_
        clear hK K
        simp only [Act.put, List.getElem_toArray, List.getElem_cons_zero, List.getElem_cons_succ, List.setIfInBounds_toArray, List.set_cons_zero, List.set_cons_succ]
        refine wpAnyT_one (i := 17) (by kernel_rfl) rfl (fun K hK => ?_)
        refine wp_store_row rfl 52 (.tmp 6) (.tmp 47) rfl (wl.heap.size) rfl _ _ rfl 52 HX.out (by kernel_rfl) rfl one_itc ?_
        intro wz hY hG
        have HY := Lib.hid hY
        have HIL := Lib.hid (fun b hb => HI0.out b hb)
        have HI := Lib.hid (Rep.itm.fr HI.out hG (fun b hb hm => by have h1 := HIL.out b hb; simp at hm; omega))
        have HSS := Lib.hid (HSS.out.step hG (fun x hx => .inr (by have := HWL.out; simp at hx; omega)))
        clear hY hG
        refine hK.out _ _ (fun _ => HSS.out) ?_
        clear hK K
        simp only [Act.put, List.getElem_toArray, List.getElem_cons_zero, List.getElem_cons_succ, List.setIfInBounds_toArray, List.set_cons_zero, List.set_cons_succ]
        refine wpAnyT_load (i := 18) (v := ?_) rfl (by kernel_rfl) (by kernel_rfl) (by kernel_rfl) (by kernel_rfl) (by kernel_rfl) (fun _ _ _ h => h) HSS.out (by rfl) ?_ ?_
        rotate_left
        · intro w hSw; skip; go_simp; try with_reducible rfl
        simp only [Act.put, List.getElem_toArray, List.getElem_cons_zero, List.getElem_cons_succ, List.setIfInBounds_toArray, List.set_cons_zero, List.set_cons_succ]
        refine wpAnyT_done (by kernel_rfl) ?_ _
        go_wp2_with fail
        go_meet
        exact ⟨_, x, a1, a2, a3, n1, c1, n2, c2, n3, c3, BI, rfl, rfl, HY.out, HI.out, fun b hb => by have h1 := HBIw.out b hb; have h2 := HSZ0.out; have h3 := HWD.out; omega, HFD.out.trans HSS.out, HXY.out⟩
      · obtain ⟨wa, ea, hF, hBa, hsa⟩ := one_new wd #[.int .i64 0, .int .u32 0, .int .u64 0, .int .u32 0, .int .u32 0, .int .u32 0, .slice none 0 0, .slice none 0 0, .slice none 0 0, .string ⟨#[]⟩] 52
        have EA := Lib.hid ea; have HX := Lib.hid hBa; have HSA : Hid (wd.heap.size < wa.heap.size) := Lib.hid (by omega)
        have HSS := Lib.hid (HSS.out.trans hF)
        have HBI := Lib.hid (Sl.keep HBI.out hF)
        clear ea hF hBa hsa
        rw [if_pos (by rfl)]
        go_simp
        rw [EA.out]
        refine hK.out _ _ (fun _ => HSS.out) ?_
        clear hK K
        simp only [Act.put, List.getElem_toArray, List.getElem_cons_zero, List.getElem_cons_succ, List.setIfInBounds_toArray, List.set_cons_zero, List.set_cons_succ]
        refine wpAnyT_one (i := 12) (by kernel_rfl) rfl (fun K hK => ?_)
        rw [if_pos (by rfl)]
        go_simp
        refine (r07item_any HBI.out (by have := HBL.out; omega) _ _ HC31.out).mono ?_
        rintro e wl ⟨x, c, BI, rfl, hI, hBI, hF, hxy⟩
        obtain ⟨a1, n1, c1, a2, n2, c2, a3, n3, c3, rfl⟩ := hI.open_
        have HI := Lib.hid hI; have HXY := Lib.hid hxy
        have HBIw : Hid (∀ b ∈ BI, wa.heap.size ≤ b) := Lib.hid hBI; have HSZ0 : Hid (wd.heap.size ≤ wa.heap.size) := Lib.hid HSS.out.size
        have HSS := Lib.hid (HSS.out.trans hF)
        have HX := Lib.hid (HX.out.keep hF)
        have HI0 : Hid (∀ b ∈ BI, b < wl.heap.size) := Lib.hid (Rep.itm.lt hI); have HWL : Hid (wd.heap.size ≤ wl.heap.size) := Lib.hid HSS.out.size
        clear hI hBI hF hxy
        go_simp
        refine hK.out _ _ (fun _ => HSS.out) ?_
        clear hK K
        simp only [Act.put, List.getElem_toArray, List.getElem_cons_zero, List.getElem_cons_succ, List.setIfInBounds_toArray, List.set_cons_zero, List.set_cons_succ]
        refine wpAnyT_load (i := 13) (v := ?_) rfl (by kernel_rfl) (by kernel_rfl) (by kernel_rfl) (by kernel_rfl) (by kernel_rfl) (fun _ _ _ h => h) HSS.out (by rfl) ?_ ?_
        rotate_left
        · intro w hSw; skip; go_simp; try with_reducible rfl
        simp only [Act.put, List.getElem_toArray, List.getElem_cons_zero, List.getElem_cons_succ, List.setIfInBounds_toArray, List.set_cons_zero, List.set_cons_succ]
        refine wpAnyT_load (i := 14) (v := ?_) rfl (by kernel_rfl) (by kernel_rfl) (by kernel_rfl) (by kernel_rfl) (by kernel_rfl) (fun _ _ _ h => h) HSS.out (by rfl) ?_ ?_
        rotate_left
        · intro w hSw; skip; go_simp; try with_reducible rfl
        simp only [Act.put, List.getElem_toArray, List.getElem_cons_zero, List.getElem_cons_succ, List.setIfInBounds_toArray, List.set_cons_zero, List.set_cons_succ]
        refine wpAnyT_load (i := 15) (v := ?_) rfl (by kernel_rfl) (by kernel_rfl) (by kernel_rfl) (by kernel_rfl) (by kernel_rfl) (fun _ _ _ h => h) HSS.out (by rfl) ?_ ?_
        rotate_left
        · intro w hSw; skip; go_simp; try with_reducible rfl
        simp only [Act.put, List.getElem_toArray, List.getElem_cons_zero, List.getElem_cons_succ, List.setIfInBounds_toArray, List.set_cons_zero, List.set_cons_succ]
        refine wpAnyT_one (i := 17) (by kernel_rfl) rfl (fun K hK => ?_)
        refine wp_store_row rfl 52 (.tmp 6) (.tmp 47) rfl (wd.heap.size) rfl _ _ rfl 52 HX.out (by kernel_rfl) rfl one_itc ?_
        intro wz hY hG
        have HY := Lib.hid hY
        have HI := Lib.hid (Rep.itm.fr HI.out hG (fun b hb hm => by have h1 := HBIw.out b hb; have := HSA.out; simp at hm; omega))
        have HSS := Lib.hid (HSS.out.step hG (fun x hx => .inr (by simp at hx; omega)))
        clear hY hG
        refine hK.out _ _ (fun _ => HSS.out) ?_
        clear hK K
        simp only [Act.put, List.getElem_toArray, List.getElem_cons_zero, List.getElem_cons_succ, List.setIfInBounds_toArray, List.set_cons_zero, List.set_cons_succ]
        refine wpAnyT_load (i := 18) (v := ?_) rfl (by kernel_rfl) (by kernel_rfl) (by kernel_rfl) (by kernel_rfl) (by kernel_rfl) (fun _ _ _ h => h) HSS.out (by rfl) ?_ ?_
        rotate_left
        · intro w hSw; skip; go_simp; try with_reducible rfl
        simp only [Act.put, List.getElem_toArray, List.getElem_cons_zero, List.getElem_cons_succ, List.setIfInBounds_toArray, List.set_cons_zero, List.set_cons_succ]
        refine wpAnyT_done (by kernel_rfl) ?_ _
        go_wp2_with fail
        go_meet
        exact ⟨_, x, a1, a2, a3, n1, c1, n2, c2, n3, c3, BI, rfl, rfl, HY.out, HI.out, fun b hb => by have h1 := HBIw.out b hb; have h2 := HSZ0.out; have h3 := HWD.out; omega, HFD.out.trans HSS.out, HXY.out⟩
    case rest =>
      obtain ⟨G, x, a1, a2, a3, n1, c1, n2', c2, n3, c3, BI, rfl, rfl, hY, hI, hBI, hF, hxy⟩ := hcut
      have HOB := Lib.hid (fun b (hb : blockOf (.slice ao xs.length co) = some b) => (HO.out.block b hb).2)
      have HBIB : Hid (∀ b ∈ BI, w.heap.size ≤ b) := Lib.hid (fun b hb => by have h1 := hBI b hb; have h2 := HF.out.size; omega)
      have HB3 : Hid (∀ b ∈ BI, w3.heap.size ≤ b) := Lib.hid hBI
      have HY := Lib.hid hY; have HI := Lib.hid hI
      have HB := Lib.hid (Sl.keep HB.out hF); have HO := Lib.hid (HO.out.keep Rep.itm hF); have HF := Lib.hid (HF.out.trans hF)
      clear hY hI hBI hF hw2 hs1 hs2 hb6 hb7 hka hkr hkr2 hku hkw hi1m hszc hsz4i hq
      cases hbo : bodyR ((nb rest 1 1 : Nat) : Int) cn bd with
      | none =>
        rw [hbo] at HIR
        have HX := Lib.hid (HPE.out 21 (HE.out.fail HN0.out HIR.out))
        simp only [Option.isSome_none]
        clear hxy hbo
        go_wp2_with fail
        go_ret2
        exact .inr ⟨21, HX.out, by decide, rfl, HF.out⟩
      | some y =>
        have hxe := hxy y hbo
        subst hxe
        rw [hbo] at HIR
        have HOK : Hid (itemR rest = .ok (x, sz)) := Lib.hid (by rw [HIR.out, HSZ.out])
        obtain ⟨g, hnx⟩ := HE.out.next HN0.out HOK.out
        have HNX := Lib.hid hnx
        simp only [Option.isSome_some]
        clear hxy hbo hnx
        obtain ⟨wa, ea, hFa, hBa, hsa⟩ := one_new wc (itc x (.slice a1 n1 c1) (.slice a2 n2' c2) (.slice a3 n3 c3)) 52
        have EA := Lib.hid ea; have HBA := Lib.hid hBa; have HFA := Lib.hid hFa
        have HL1 : Hid (xs.length + 1 ≤ maxLen) := Lib.hid (by unfold maxLen; omega)
        have HL2 : Hid ((xs.length + 1) * 128 ≤ 140737488355328) := Lib.hid (by omega)
        have HL3 : Hid (w.heap.size ≤ wa.heap.size) := Lib.hid (by have h1 := HF.out.size; omega)
        have HCR : Hid (ItR wa (itc x (.slice a1 n1 c1) (.slice a2 n2' c2) (.slice a3 n3 c3)).toList x BI) := Lib.hid (Rep.itm.fr HI.out hFa (by simp))
        have HDJ : Hid (∀ b, blockOf (.slice ao xs.length co) = some b → b ∉ BI) := Lib.hid (fun b hb hm => by have h1 := HOB.out b hb; have h2 := HB3.out b hm; omega)
        clear ea hBa hFa hsa
        obtain ⟨q, hq⟩ : ∃ q, (if cap = sz then some (⟨b, o, none⟩ : Addr) else some ⟨b, o + sz, none⟩) = q := ⟨_, rfl⟩
        have HQ := Lib.hid hq
        go_upto_region 16 with (first | (refine wpList_load_row_w rfl 52 (.tmp 6) rfl G rfl 52 _ _ HY.out Try.underlying52 rfl (by kernel_rfl) ?_) | (at_builtin; (rw [EA.out]); refine wpList_append_el Rep.itm (by decide) rfl (.tmp 51) (.tmp 53) 29 rfl w.heap.size 52 (.agg #[.int .i64 0, .int .u32 0, .int .u64 0, .int .u32 0, .int .u32 0, .int .u32 0, .slice none 0 0, .slice none 0 0, .slice none 0 0, .string ⟨#[]⟩]) 128 Try.underlying29 info_ritm rfl (.slice ao xs.length co) xs B rfl (HO.out.keep Rep.itm HFA.out) wc.heap.size 0 1 rfl (itc x (.slice a1 n1 c1) (.slice a2 n2' c2) (.slice a3 n3 c3)).toList x BI (box_range HBA.out) HCR.out HDJ.out HL1.out HL2.out HL3.out ?_; intro vs1 w7 hown1 hfr1 hbl1; obtain ⟨as1, cs1, es1⟩ := hown1.shape; simp only [List.length_append, List.length_singleton] at es1; subst es1; have HV1 := Lib.hid hown1; have HF7 := Lib.hid hfr1; clear hown1 hfr1 hbl1))
        have HNB : Hid (∀ b ∈ (blockOf (.slice ao xs.length co)).toList, w.heap.size ≤ b) := Lib.hid (fun b hb => (HO.out.block b (mem_toList.1 hb)).1)
        have HBN : Hid (Bytes w7 (.slice q (m - sz) (cap - sz)) (rest.drop sz)) := Lib.hid (by
          have h9 := Sl.sub' (Sl.frL (Sl.keep HB.out HFA.out) HF7.out (fun b hb hm => by have h1 := HLV.out b hb; have h2 := HNB.out b hm; omega)) sz (m - sz) (by omega)
          rw [HQ.out, ← List.map_drop, List.take_of_length_le (by rw [List.length_map, List.length_drop, HM.out]; exact Nat.le_refl _)] at h9
          exact h9)
        have HLN : Hid (∀ b, liveOf (.slice q (m - sz) (cap - sz)) = some b → b < w.heap.size) := Lib.hid (fun b' hb => HLV.out b' (by
          have h8 := Sl.live_sub (some ⟨b, o, none⟩) sz (m - sz) cap m b'
          rw [Option.map_some, Addr.add_mid, HQ.out] at h8
          exact h8 hb))
        have hmk : ((m : Nat) : Int) - ((sz : Nat) : Int) = ((m - sz : Nat) : Int) := by omega
        have hck : ((cap : Nat) : Int) - ((sz : Nat) : Int) = ((cap - sz : Nat) : Int) := by omega
        have hszmi : ((sz : Nat) : Int) ≤ ((m : Nat) : Int) := by omega
        go_wp2_with fail
        refine ⟨⟨g, rest.drop sz, xs ++ [x], B ++ BI, HNX.out, HBN.out, HLN.out, HV1.out, fun b hb => ?_, (HF.out.trans HFA.out).step HF7.out (fun b hb => .inr (HNB.out b hb))⟩, ?_⟩
        · rcases List.mem_append.1 hb with hb | hb
          · exact HBB.out b hb
          · exact HBIB.out b hb
        · simp only; omega
end Go.Proofs.Ytcmpjkopdjncdaa

/- The walk of confluxlaw07.as (printed by gen_7as.py). -/
namespace Go.Proofs.Ytcmpjkopdjncdaa
open Go.RowKit

theorem itc_reason (x : Itm) (vr vc vs : Value) : itc x vr vc vs = itc { x with chks := x.chks } vr vc vs := rfl
set_option maxRecDepth 100000 in
set_option maxHeartbeats 8000000 in
theorem l07as_chk {w : World} {x : Itm} {vr vc vs : Value} {Bc : List Nat} (hr : SlEls 7 RptR w vr x.reps []) (hc : SlEls 2 ChkR w vc x.chks Bc) (hs : SlEls 1 SrcR w vs x.srcs [])
    (ht : ∀ c ∈ x.chks, c.texts.length ≤ 5864062014805) (hn : x.chks.length ≤ 1099511000000) :
    Calls Try.prog 20 #[.agg (itc x vr vc vs)] w fun e w' => ∃ vc' B', e = .returned (.agg (itc x vr vc' vs)) ∧ SlEls 7 RptR w' vr x.reps [] ∧ OwnEls 2 ChkR w' w.heap.size 96 vc' x.chks B' ∧ (∀ b ∈ B', w.heap.size ≤ b) ∧ SlEls 1 SrcR w' vs x.srcs [] ∧ Fr [] w w' := by
  obtain ⟨ar, cr, rfl⟩ := hr.shape
  obtain ⟨ac, cc, rfl⟩ := hc.shape
  obtain ⟨as_, cs, rfl⟩ := hs.shape
  obtain ⟨w2, e2, hF2, hB1, hB2, hs2⟩ := two_new w (itc x (.slice ar x.reps.length cr) (.slice ac x.chks.length cc) (.slice as_ x.srcs.length cs)) 42 #[.int .i64 0, .int .u32 0, .int .u64 0, .int .u32 0, .int .u32 0, .int .u32 0, .slice none 0 0, .slice none 0 0, .slice none 0 0, .string ⟨#[]⟩] 52
  obtain ⟨w3, e3, hF3, hB3, hs3⟩ := one_new w2 (itc x (.slice ar x.reps.length cr) (.slice none 0 0) (.slice as_ x.srcs.length cs)) 52
  have HF := Lib.hid (hF2.trans hF3); have HB := Lib.hid (hB1.keep hF3); have HRS := Lib.hid (hB2.keep hF3); have HX := Lib.hid hB3; have E2 := Lib.hid e2; have E3 := Lib.hid e3
  have HR := Lib.hid ((hr.keep Rep.rpt hF2).keep Rep.rpt hF3); have HC := Lib.hid ((hc.keep Rep.chk hF2).keep Rep.chk hF3); have HS := Lib.hid ((hs.keep Rep.src hF2).keep Rep.src hF3)
  have HT := Lib.hid ht; have HN := Lib.hid hn; have HCLT := Lib.hid (hc.lt Rep.chk); have HRLT := Lib.hid (hr.lt Rep.rpt).2; have HSLT := Lib.hid (hs.lt Rep.src).2
  have x0 := hB1.cell 0; have x1 := hB1.cell 1; have x2 := hB1.cell 2; have x3 := hB1.cell 3; have x4 := hB1.cell 4; have x5 := hB1.cell 5; have x6 := hB1.cell 6; have x8 := hB1.cell 8; have x9 := hB1.cell 9
  simp only [itc, List.getElem?_toArray, List.getElem?_cons_succ, List.getElem?_cons_zero] at x0 x1 x2 x3 x4 x5 x6 x8 x9
  obtain ⟨X, hX⟩ : ∃ X, w2.heap.size = X := ⟨_, rfl⟩
  obtain ⟨Z, hZ⟩ : ∃ Z, w.heap.size + 1 = Z := ⟨_, rfl⟩
  have HXX : Hid (w.heap.size < Z ∧ Z < X ∧ X < w3.heap.size) := Lib.hid (by omega)
  have HXe := Lib.hid hX; have HZe := Lib.hid hZ
  clear hr hc hs ht hn hF2 hB1 hB2 hs2 e2 hF3 hB3 hs3 e3 hX hZ
  go_enter Try.func20, Try.ntmps20
  go_upto_region 1 with fail
  rw [E2.out]
  clear E2
  go_upto_region 2 with fail
  rw [E3.out]
  clear E3 x0 x1 x2 x3 x4 x5 x6 x8 x9
  have hXe := HXe.out; have hZe := HZe.out
  try simp only [hXe, hZe]
  rw [hXe] at HX
  rw [hZe] at HRS
  clear hXe hZe
  have x7 := HB.out.cell 7
  simp only [itc, List.getElem?_toArray, List.getElem?_cons_succ, List.getElem?_cons_zero] at x7
  go_upto_region 3 with fail
  clear x7
  obtain ⟨B0, hB0⟩ : ∃ B0, w3.heap.size = B0 := ⟨_, rfl⟩
  rw [hB0] at HXX
  have HN2 : Hid (x.chks.length ≤ 1099511000000) := Lib.hid HN.out
  obtain ⟨nc, hnc⟩ : ∃ nc, x.chks.length = nc := ⟨_, rfl⟩
  rw [hnc] at HN2 HC HB HCLT ⊢
  have HNC := Lib.hid hnc
  have hncb := HN2.out
  have HB0 : Hid (B0 ≤ w3.heap.size) := Lib.hid (Nat.le_of_eq hB0.symm)
  have HB0e : Hid (w3.heap.size ≤ B0) := Lib.hid (Nat.le_of_eq hB0)
  clear hnc hB0
  go_loopw [31] (fun iv wr => ∃ (j : Nat) (vc' : Value) (Bj : List Nat), j ≤ nc ∧ iv = .int .i64 (j : Nat) ∧ Box wr X 52 (itc x (.slice ar x.reps.length cr) vc' (.slice as_ x.srcs.length cs)) ∧ OwnEls 2 ChkR wr B0 96 vc' (x.chks.take j) Bj ∧ (∀ b ∈ Bj, B0 ≤ b) ∧ Fr [X] w3 wr) (fun iv _ => nc - (intOf iv).toNat)
  case atStart => exact ⟨0, .slice none 0 0, [], Nat.zero_le _, rfl, HX.out, OwnEls.nil _ _ _, by simp, Fr.refl _ _⟩
  case round =>
    clear HX
    obtain ⟨j, vc', Bj, hj, rfl, hx, hown, hbj, hF⟩ := hrel
    obtain ⟨av, cv, rfl⟩ := hown.shape
    have hlj : (x.chks.take j).length = j := by rw [List.length_take, HNC.out]; omega
    rw [hlj] at hown hx
    have HLJ := Lib.hid hlj
    have HX := Lib.hid hx; have HOW := Lib.hid hown; have HBJ := Lib.hid hbj; have HFW := Lib.hid hF; have HB0 := Lib.hid (Nat.le_trans HB0.out hF.size)
    clear hx hown hbj hF hlj
    by_cases hlt : j < nc
    · obtain ⟨b1, o1, k1, y, B3, ea, -, hy, ⟨u1, rfl, hu1, -⟩, -, hrg⟩ := (HC.out.fr Rep.chk HFW.out (fun b hb hm => by have h1 := HCLT.out.1 b hb; have := HXX.out; simp at hm; omega) (fun b hb hm => by have h1 := HCLT.out.2 b hb; have := HXX.out; simp at hm; omega)).at_ Rep.chk (i := j) hlt
      subst ea
      obtain ⟨au, cu, rfl⟩ := hu1.shape
      obtain ⟨nt, hnt⟩ : ∃ nt, y.texts.length = nt := ⟨_, rfl⟩
      have hntb : nt ≤ 5864062014805 := by rw [← hnt]; exact HT.out y (List.mem_of_getElem? hy)
      rw [hnt] at hu1 hrg
      have HNT := Lib.hid hnt
      have HRG := Lib.hid hrg; have HU := Lib.hid hu1
      have HTK : Hid (x.chks.take (j + 1) = x.chks.take j ++ [y]) := Lib.hid (by rw [List.take_add_one, hy]; rfl)
      have HULT2 := Lib.hid (hu1.lt Rep.txt).2
      have HOWL := Lib.hid (fun b (hb : blockOf (.slice av j cv) = some b) => (HOW.out.block b hb).2); have HBJL := Lib.hid (fun b hb => HOW.out.lt Rep.chk b hb)
      clear hrg hy hu1 hnt
      obtain ⟨wa, ea, hFa, hBa, hsa⟩ := one_new wr #[.int .u32 (y.ssrc.toNat : Nat), .slice au nt cu] 87
      obtain ⟨wb, eb, hFb, hBb, hsb⟩ := one_new wa #[.int .u32 (y.ssrc.toNat : Nat), .slice none 0 0] 96
      have EA := Lib.hid ea; have EB := Lib.hid eb; have HGA := Lib.hid (hBa.keep hFb); have HGB := Lib.hid hBb
      have HU := Lib.hid ((HU.out.keep Rep.txt hFa).keep Rep.txt hFb); have HX := Lib.hid ((HX.out.keep hFa).keep hFb); have HOWb := Lib.hid ((HOW.out.keep Rep.chk hFa).keep Rep.chk hFb)
      have HFAB := Lib.hid (hFa.trans hFb)
      have g0 := hBa.cell 0; have g1 := (hBa.keep hFb).cell 1
      simp only [List.getElem?_toArray, List.getElem?_cons_succ, List.getElem?_cons_zero] at g0 g1
      obtain ⟨GB, hGB⟩ : ∃ GB, wa.heap.size = GB := ⟨_, rfl⟩
      obtain ⟨B1, hB1⟩ : ∃ B1, wb.heap.size = B1 := ⟨_, rfl⟩
      have HGG : Hid (wr.heap.size < GB ∧ GB < B1) := Lib.hid (by omega)
      have HGe := Lib.hid hGB
      have HXW : Hid (X < wr.heap.size) := Lib.hid (by have := HB0.out; have := HXX.out; omega)
      have HW3 : Hid (w3.heap.size ≤ wr.heap.size) := Lib.hid HFW.out.size
      have HB10 : Hid (wb.heap.size ≤ B1) := Lib.hid (by omega)
      have HB01 : Hid (B0 ≤ B1) := Lib.hid (by have := HB0.out; omega)
      have HW3b : Hid (w3.heap.size ≤ B0) := HB0e
      have HB1 : Hid (B1 ≤ wb.heap.size) := Lib.hid (Nat.le_of_eq hB1.symm)
      clear ea hFa hBa hsa eb hFb hBb hsb hGB hB1
      go_upto_region 5 with (refine wpList_load_midA rfl 87 (.tmp 33) rfl b1 (o1 + j * 2) rfl #[.int .u32 (y.ssrc.toNat : Nat), .slice au nt cu] _ HRG.out Try.underlying87 rfl (by kernel_rfl) ?_)
      rw [EA.out]
      clear EA
      go_upto_region 6 with fail
      rw [EB.out]
      clear EB g0
      have hGe := HGe.out
      try simp only [hGe]
      rw [hGe] at HGB
      clear hGe
      go_upto_region 7 with fail
      clear g1
      have HULT := Lib.hid (HU.out.lt Rep.txt).2
      go_loopw [41] (fun iv wy => ∃ (k : Nat) (vt : Value), k ≤ nt ∧ iv = .int .i64 (k : Nat) ∧ Box wy GB 96 #[.int .u32 (y.ssrc.toNat : Nat), vt] ∧ OwnEls 2 TxtR wy B1 97 vt (y.texts.take k) [] ∧ Fr [GB] wb wy ∧ B1 ≤ wy.heap.size) (fun iv _ => nt - (intOf iv).toNat)
      case atStart => exact ⟨0, .slice none 0 0, Nat.zero_le _, rfl, HGB.out, OwnEls.nil _ _ _, Fr.refl _ _, HB1.out⟩
      case round =>
        clear HGB
        obtain ⟨k, vt, hk, rfl, hgb, hot, hF, hb1⟩ := hrel
        obtain ⟨at_, ct, rfl⟩ := hot.shape
        have hlk : (y.texts.take k).length = k := by rw [List.length_take, HNT.out]; omega
        rw [hlk] at hot hgb
        have HLK := Lib.hid hlk
        have HGB := Lib.hid hgb; have HOT := Lib.hid hot; have HFV := Lib.hid hF; have HB1 := Lib.hid hb1
        clear hgb hot hF hb1 hlk
        by_cases hkt : k < nt
        · obtain ⟨b2, o2, k2, z, B4, ea, -, hz, ⟨rfl, -⟩, -, hrg⟩ := (HU.out.fr Rep.txt HFV.out (by simp) (fun b hb hm => by have h1 := HULT2.out b hb; have := HGG.out; have := HXW.out; simp at hm; omega)).at_ Rep.txt (i := k) hkt
          subst ea
          have HRG := Lib.hid hrg
          have HTK2 : Hid (y.texts.take (k + 1) = y.texts.take k ++ [z]) := Lib.hid (by rw [List.take_add_one, hz]; rfl)
          clear hrg hz
          obtain ⟨wc, ec, hFc, hBc, hsc⟩ := one_new wr (txc z) 90
          have EC := Lib.hid ec; have HGB := Lib.hid (HGB.out.keep hFc); have HOT := Lib.hid (HOT.out.keep Rep.txt hFc); have HFV := Lib.hid (HFV.out.quiet hFc); have HB1 := Lib.hid (Nat.le_trans HB1.out hFc.size)
          have z0 := hBc.cell 0; have z1 := hBc.cell 1; have g1 := HGB.out.cell 1
          simp only [txc, List.getElem?_toArray, List.getElem?_cons_succ, List.getElem?_cons_zero] at z0 z1 g1
          clear ec hFc hBc hsc
          go_upto_region 9 with (refine wpList_load_midA rfl 90 (.tmp 43) rfl b2 (o2 + k * 2) rfl (txc z) _ HRG.out Try.underlying90 rfl (by kernel_rfl) ?_)
          rw [EC.out]
          clear EC
          obtain ⟨wd, ed, hFd, hBd, hsd⟩ := one_new wc (txc z) 97
          have ED := Lib.hid ed; have HGB := Lib.hid (HGB.out.keep hFd); have HOT := Lib.hid (HOT.out.keep Rep.txt hFd); have HFV := Lib.hid (HFV.out.quiet hFd); have HB1 := Lib.hid (Nat.le_trans HB1.out hFd.size); have HBD := Lib.hid hBd
          have HL1 : Hid ((y.texts.take k).length + 1 ≤ maxLen) := Lib.hid (by rw [HLK.out]; unfold maxLen; omega)
          have HL2 : Hid (((y.texts.take k).length + 1) * 24 ≤ 140737488355328) := Lib.hid (by rw [HLK.out]; omega)
          clear ed hFd hBd hsd
          go_upto_region 10 with (at_builtin; (rw [ED.out]); refine wpList_append_el Rep.txt (by decide) rfl (.tmp 46) (.tmp 52) 94 rfl B1 97 (.agg #[.int .i64 0, .string ⟨#[]⟩]) 24 Try.underlying94 info_rtxt rfl (.slice at_ k ct) (y.texts.take k) [] rfl HOT.out wc.heap.size 0 1 rfl (txc z).toList z [] (box_range HBD.out) ⟨rfl, rfl⟩ (by simp) HL1.out HL2.out HB1.out ?_; intro vs1 w7 hown1 hfr1 hbl1; rw [← HTK2.out] at hown1; obtain ⟨as1, cs1, es1⟩ := hown1.shape; rw [HTK2.out, List.length_append, List.length_singleton, HLK.out] at es1; subst es1; have HV1 := Lib.hid hown1; have HF7 := Lib.hid hfr1; have HNB : Hid (∀ b ∈ (blockOf (.slice at_ k ct)).toList, B1 ≤ b) := Lib.hid (fun b hb => (HOT.out.block b (mem_toList.1 hb)).1); have HBX2 := Lib.hid (Box.fr HGB.out HF7.out (fun hm => by have := HNB.out _ hm; have := HGG.out; omega)); have n1 := HBX2.out.cell 1; have q1 := HBX2.out.free 1; clear hown1 hfr1 hbl1 g1; simp only [List.getElem?_toArray, List.getElem?_cons_succ, List.getElem?_cons_zero] at n1)
          obtain ⟨we, ee, hFe, hBe, -⟩ := set_new HBX2.out 1 (.slice as1 (k + 1) cs1)
          simp only [List.setIfInBounds_toArray, List.set_cons_zero, List.set_cons_succ] at hBe
          rw [ee]
          have HFE := Lib.hid hFe; have HBE := Lib.hid hBe
          clear ee hFe hBe n1 q1 z0 z1
          have HOT3 := Lib.hid (HV1.out.fr Rep.txt HFE.out (by simp) (fun b hb hm => by have := (HV1.out.block b hb).1; have := HGG.out; simp at hm; omega))
          have HFV2 : Hid (Fr [GB] wb we) := Lib.hid ((HFV.out.step HF7.out (fun b hb => .inr (by have := HNB.out b hb; have := HB10.out; omega))).step HFE.out (fun b hb => .inl hb))
          have HB12 : Hid (B1 ≤ we.heap.size) := Lib.hid (Nat.le_trans HB1.out (Nat.le_trans HF7.out.size HFE.out.size))
          go_wp2_with fail
          refine ⟨⟨k + 1, .slice as1 (k + 1) cs1, by omega, by go_num, HBE.out, HOT3.out, HFV2.out, HB12.out⟩, by simp [intOf]; omega⟩
        · obtain rfl : k = nt := by omega
          have hot := HOT.out
          have HTT : Hid (y.texts.take k = y.texts) := Lib.hid (List.take_of_length_le (by rw [HNT.out]; exact Nat.le_refl _))
          rw [HTT.out] at hot
          have HOT := Lib.hid hot
          clear hot hk hkt
          -- the outer slice and box over the inner loop
          have HX := Lib.hid (HX.out.fr HFV.out (by have := HXX.out; have := HGG.out; have := HXW.out; simp; omega))
          have HOW := Lib.hid (HOWb.out.fr Rep.chk HFV.out (fun b hb hm => by have h1 := HBJL.out b hb; have := HGG.out; simp at hm; omega) (fun b hb hm => by have h1 := HOWL.out b hb; have := HGG.out; simp at hm; omega))
          have HFZ := Lib.hid (((HFW.out.quiet HFAB.out)).step (T := [GB]) HFV.out (fun b hb => .inr (by have := HGG.out; have := HW3.out; simp at hb; omega)))
          have hx7 := HX.out.cell 7
          simp only [itc, List.getElem?_toArray, List.getElem?_cons_succ, List.getElem?_cons_zero] at hx7
          obtain ⟨wc, ec, hFc, hBc, hsc⟩ := one_new wr #[.int .u32 (y.ssrc.toNat : Nat), .slice at_ k ct] 96
          have EC := Lib.hid ec; have HBC := Lib.hid hBc; have HXc := Lib.hid (HX.out.keep hFc); have HOWc := Lib.hid (HOW.out.keep Rep.chk hFc); have HFZ := Lib.hid (HFZ.out.quiet hFc); have HOT := Lib.hid (HOT.out.keep Rep.txt hFc)
          have HB0c : Hid (B0 ≤ wc.heap.size) := Lib.hid (by have := HB0.out; have := HFAB.out.size; have := HFV.out.size; omega)
          have HCR : Hid (ChkR wc [.int .u32 (y.ssrc.toNat : Nat), .slice at_ k ct] y (liveOf (.slice at_ k ct)).toList) := Lib.hid ⟨_, rfl, HOT.out.sl, rfl⟩
          have HLB : Hid (∀ b ∈ (liveOf (.slice at_ k ct)).toList, B1 ≤ b) := Lib.hid (fun b hb => (HOT.out.block b (live_block (mem_toList.1 hb))).1)
          have HDJ : Hid (∀ b, blockOf (.slice av j cv) = some b → b ∉ (liveOf (.slice at_ k ct)).toList) := Lib.hid (fun b hb hm => by have h1 := HOWL.out b hb; have h2 := HLB.out b hm; have := HGG.out; omega)
          have HL1 : Hid ((x.chks.take j).length + 1 ≤ maxLen) := Lib.hid (by rw [HLJ.out]; unfold maxLen; omega)
          have HL2 : Hid (((x.chks.take j).length + 1) * 32 ≤ 140737488355328) := Lib.hid (by rw [HLJ.out]; omega)
          clear ec hFc hBc hsc
          go_upto_region 12 with (first | (refine wpList_load_row_w rfl 96 (.tmp 6) rfl GB rfl 96 _ _ HGB.out Try.underlying96 rfl (by kernel_rfl) ?_) | (at_builtin; (rw [EC.out]); refine wpList_append_el Rep.chk (by decide) rfl (.tmp 57) (.tmp 59) 50 rfl B0 96 (.agg #[.int .u32 0, .slice none 0 0]) 32 Try.underlying50 info_rchk rfl (.slice av j cv) (x.chks.take j) Bj rfl HOWc.out wr.heap.size 0 1 rfl [.int .u32 (y.ssrc.toNat : Nat), .slice at_ k ct] y _ (box_range HBC.out) HCR.out HDJ.out HL1.out HL2.out HB0c.out ?_; intro vs1 w7 hown1 hfr1 hbl1; rw [← HTK.out] at hown1; obtain ⟨as1, cs1, es1⟩ := hown1.shape; rw [HTK.out, List.length_append, List.length_singleton, HLJ.out] at es1; subst es1; have HV1 := Lib.hid hown1; have HF7 := Lib.hid hfr1; have HNB : Hid (∀ b ∈ (blockOf (.slice av j cv)).toList, B0 ≤ b) := Lib.hid (fun b hb => (HOW.out.block b (mem_toList.1 hb)).1); have HBX2 := Lib.hid (Box.fr HXc.out HF7.out (fun hm => by have := HNB.out _ hm; have := HXX.out; omega)); have n1 := HBX2.out.cell 7; have q1 := HBX2.out.free 7; clear hown1 hfr1 hbl1 hx7; simp only [itc, List.getElem?_toArray, List.getElem?_cons_succ, List.getElem?_cons_zero] at n1))
          obtain ⟨we, ee, hFe, hBe, -⟩ := set_new HBX2.out 7 (.slice as1 (j + 1) cs1)
          simp only [itc, List.setIfInBounds_toArray, List.set_cons_zero, List.set_cons_succ] at hBe
          rw [ee]
          have HFE := Lib.hid hFe; have HBE := Lib.hid hBe
          clear ee hFe hBe n1 q1
          have HBB : Hid (∀ b ∈ Bj ++ (liveOf (.slice at_ k ct)).toList, B0 ≤ b) := Lib.hid (fun b hb => by
            rcases List.mem_append.1 hb with hb | hb
            · exact HBJ.out b hb
            · have := HLB.out b hb; have := HGG.out; have := HB01.out; omega)
          have HOW3 := Lib.hid (HV1.out.fr Rep.chk HFE.out (fun b hb hm => by have := HBB.out b hb; have := HXX.out; simp at hm; omega) (fun b hb hm => by have := (HV1.out.block b hb).1; have := HXX.out; simp at hm; omega))
          have HFZ2 : Hid (Fr [X] w3 we) := Lib.hid ((HFZ.out.step HF7.out (fun b hb => .inr (by have := HNB.out b hb; have := HW3b.out; omega))).step HFE.out (fun b hb => .inl hb))
          go_wp2_with fail
          refine ⟨⟨j + 1, .slice as1 (j + 1) cs1, _, by omega, by go_num, HBE.out, HOW3.out, HBB.out, HFZ2.out⟩, by simp [intOf]; omega⟩
    · obtain rfl : j = nc := by omega
      have hotk : x.chks.take j = x.chks := List.take_of_length_le (by rw [HNC.out]; exact Nat.le_refl _)
      have hown := HOW.out
      rw [hotk] at hown
      have HOW := Lib.hid hown
      have HRS := Lib.hid (HRS.out.fr HFW.out (by have := HXX.out; simp; omega))
      have HR := Lib.hid (HR.out.fr Rep.rpt HFW.out (by simp) (fun b hb hm => by have h1 := HRLT.out b hb; have := HXX.out; simp at hm; omega))
      have HS := Lib.hid (HS.out.fr Rep.src HFW.out (by simp) (fun b hb hm => by have h1 := HSLT.out b hb; have := HXX.out; simp at hm; omega))
      have HF := Lib.hid (HF.out.step HFW.out (fun b hb => .inr (by have := HXX.out; simp at hb; omega)))
      clear hotk hown hj hlt
      go_wp2_with (first | (refine wpList_load_row_w rfl 52 (.tmp 3) rfl X rfl 52 _ _ HX.out Try.underlying52 rfl (by kernel_rfl) ?_) | (refine wpList_store_row rfl 52 (.tmp 2) (.tmp 63) rfl Z rfl _ _ rfl 52 HRS.out (by kernel_rfl) rfl (by simp [itc, Value.oneCell']) ?_; intro w9 hY hG; have HY := Lib.hid hY; have HGn := Lib.hid hG; clear hY hG))
      refine bodyPost_ret (results_cell_row rfl _ _ Z 52 _ (0, 0) _ rfl HY.out Try.underlying52 rfl (by kernel_rfl)) rfl ⟨_, _, rfl, HR.out.fr Rep.rpt HGn.out (by simp) (fun b hb hm => by have h1 := HRLT.out b hb; have := HXX.out; simp at hm; omega), OwnEls.mono (HOW.out.fr Rep.chk HGn.out (fun b hb hm => by have := HBJ.out b hb; have := HXX.out; simp at hm; omega) (fun b hb hm => by have := (HOW.out.block b hb).1; have := HXX.out; simp at hm; omega)) (by have := HXX.out; omega), fun b hb => by have := HBJ.out b hb; have := HXX.out; omega, HS.out.fr Rep.src HGn.out (by simp) (fun b hb hm => by have h1 := HSLT.out b hb; have := HXX.out; simp at hm; omega), HF.out.step HGn.out (fun b hb => .inr (by have := HXX.out; simp at hb; omega))⟩
theorem l07as_any {w : World} {x : Itm} {vr vc vs : Value} {Bc : List Nat} (hr : SlEls 7 RptR w vr x.reps []) (hc : SlEls 2 ChkR w vc x.chks Bc) (hs : SlEls 1 SrcR w vs x.srcs [])
    (ht : ∀ c ∈ x.chks, c.texts.length ≤ 5864062014805) (hn : x.reps.length ≤ 1099511000000 ∧ x.chks.length ≤ 1099511000000 ∧ x.srcs.length ≤ 1099511000000) :
    Calls Try.prog 20 #[.agg (itc x vr vc vs)] w fun e w' => ∃ vc' B', e = .returned (.agg (itc x vr vc' vs)) ∧ SlEls 7 RptR w' vr x.reps [] ∧ OwnEls 2 ChkR w' w.heap.size 96 vc' x.chks B' ∧ (∀ b ∈ B', w.heap.size ≤ b) ∧ SlEls 1 SrcR w' vs x.srcs [] ∧ Fr [] w w' := l07as_chk hr hc hs ht hn.2.1
end Go.Proofs.Ytcmpjkopdjncdaa
