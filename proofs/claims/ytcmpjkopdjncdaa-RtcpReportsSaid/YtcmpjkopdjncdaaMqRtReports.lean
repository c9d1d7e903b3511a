/- The walk of RtcpReports (printed by gen_rtreports.py). -/
import Derived.Test.YtcmpjkopdjncdaaMq46
import Derived.Test.YtcmpjkopdjncdaaMq42
namespace Go.Proofs.Ytcmpjkopdjncdaa
open Go.RowKit Go.Shelf

attribute [local go_sem] Oper.semAt_some
set_option maxRecDepth 100000 in
set_option maxHeartbeats 16000000 in
theorem RtcpReports_any {w : World} {v0 : Value} {xs : List Itm} {B1 : List Nat} (h : SlEls 10 ItR w v0 xs B1) (hq : ∀ x ∈ xs, QItm x) (hm : xs.length ≤ 1099511627776) (most cut : Int) :
    Calls Try.prog 6 #[v0, .int .i64 most, .int .i64 cut] w fun e w' => e = .returned (.bool true) ∧ Fr [] w w' := by
  obtain ⟨a0, cap0, rfl⟩ := h.shape
  obtain ⟨wz, ez, hFz, hMz, hRz, hsz⟩ := two_new w #[.int .i64 most] 3 #[.bool false] 4
  have HX := Lib.hid (h.keep Rep.itm hFz); have HQ := Lib.hid hq; have HM0 := Lib.hid hm
  have HF := Lib.hid hFz; have HM := Lib.hid hMz; have HRC := Lib.hid hRz; have EZ := Lib.hid ez; have HSZ := Lib.hid hsz
  clear h hq hm hFz hMz hRz ez hsz
  refine calls_of_wpN 8 Try.func6 rfl ?_
  simp only [Try.ntmps6, List.size_toArray, List.length_cons, List.length_nil, Nat.reduceAdd, Nat.reduceSub, Array.replicate_succ, Array.replicate_zero, List.push_toArray, List.append_toArray, List.nil_append, List.cons_append]
  obtain ⟨gM, hgM⟩ : ∃ g, w.heap.size = g := ⟨_, rfl⟩
  obtain ⟨gR, hgR⟩ : ∃ g, w.heap.size + 1 = g := ⟨_, rfl⟩
  have HGM := Lib.hid hgM; have HGR := Lib.hid hgR
  clear hgM hgR
  go_upto_region 1 with fail
  rw [EZ.out]
  have hgR := HGR.out; have hgM := HGM.out
  try simp only [hgR]
  try simp only [hgM]
  rw [hgM] at HM
  rw [hgR] at HRC
  clear hgR hgM EZ
  go_wp2_with fail
  refine l07alive_any.mono ?_
  rintro e w1 ⟨rfl, hF⟩
  have HM := Lib.hid (HM.out.keep hF); have HRC := Lib.hid (HRC.out.keep hF); have HX := Lib.hid (HX.out.keep Rep.itm hF); have HF := Lib.hid (HF.out.trans hF)
  clear hF
  go_wp2_with fail
  refine (l07few_any HX.out HQ.out HM0.out).mono ?_
  rintro e w2 ⟨rfl, hF⟩
  have HM := Lib.hid (HM.out.keep hF); have HRC := Lib.hid (HRC.out.keep hF); have HX := Lib.hid (HX.out.keep Rep.itm hF); have HF := Lib.hid (HF.out.trans hF)
  clear hF
  cases hfw : fews xs with
  | false =>
    clear hfw
    have r0 := HRC.out.cell 0; have rf := HRC.out.free 0
    simp only [List.getElem?_toArray, List.getElem?_cons_zero, List.getElem?_cons_succ] at r0
    obtain ⟨wo, eo, hFo, hBo, -⟩ := set_new HRC.out 0 (.bool true)
    simp only [List.setIfInBounds_toArray, List.set_cons_zero] at hBo
    have EO := Lib.hid eo; have HBO := Lib.hid hBo; have HFO := Lib.hid hFo
    clear eo hFo hBo
    go_wp2_with fail
    rw [EO.out]
    refine ret_plain (results_cell_bool rfl _ _ gR true rfl (HBO.out.cell 0) Try.underlying4) rfl ⟨rfl, HF.out.step HFO.out (fun b hb => .inr (by have := HGR.out; simp at hb; omega))⟩
  | true =>
  have HZ := Lib.hid (fews_sz hfw HQ.out); have HTL := Lib.hid (fews_tells hfw)
  clear hfw
  go_wp2_with fail
  refine (tWrite_any HX.out HZ.out.1 (by have := HZ.out.2; omega)).mono ?_
  rintro e w4 hw1
  have hw1 : ∃ (u : Value) (r : Int) (l : List UInt8), e = .returned (.tuple #[u, .int .i64 r]) ∧ Fr [] w2 w4 ∧ Bytes w4 u l ∧ telsOf l = tlsOf r (tells7 xs) ∧ l.length ≤ 1500 ∧ (0 < l.length → ∃ ys, parse7 l = .ok ys) ∧ ∀ b, liveOf u = some b → w2.heap.size ≤ b := by
    rcases hw1 with ⟨l2, v2, hw, he, hO2, hF⟩ | ⟨c, hw, hc, he, hF⟩
    · have hp := (write7_ok hw).1
      refine ⟨_, 0, l2, he, hF, hO2.bytes, ?_, ?_, fun _ => ⟨_, hp⟩, fun b hb => (hO2.block b (live_block hb)).1⟩
      · unfold telsOf; rw [hp]; rfl
      · obtain ⟨x, -, -, -, -, g2⟩ := write7_parts hw
        exact g2
    · refine ⟨_, c, [], he, hF, Sl.nil _, ?_, by simp, by simp, by simp [liveOf]⟩
      unfold tlsOf
      rw [if_neg hc]
      rfl
  have hg2 : gM < w2.heap.size := HM.out.lt
  obtain ⟨u, r, l, rfl, hF, hb, htl, hl, hpr, hbn⟩ := hw1
  obtain ⟨au, cu, rfl⟩ := Sl.shape hb
  rw [List.length_map] at hb hbn
  have HM := Lib.hid (HM.out.keep hF); have HRC := Lib.hid (HRC.out.keep hF); have HX := Lib.hid (HX.out.keep Rep.itm hF); have HF := Lib.hid (HF.out.trans hF)
  have HB := Lib.hid hb; have HBLT : Hid (∀ b, liveOf (.slice au l.length cu) = some b → b < w4.heap.size) := Lib.hid (fun b h => Sl.lt hb b h); have HBL : Hid (∀ b, liveOf (.slice au l.length cu) = some b → b ≠ gM) := Lib.hid (fun b h => by have := hbn b h; omega)
  clear hbn hg2
  have HTT := Lib.hid htl; have HLL := Lib.hid hl; have HPR := Lib.hid hpr
  obtain ⟨m, hm⟩ : ∃ m, l.length = m := ⟨_, rfl⟩
  simp only [List.length_map]
  rw [hm] at HB HBL HBLT HLL HPR ⊢
  have HML := Lib.hid hm
  clear hF hb htl hl hpr hm
  obtain ⟨n, hxs⟩ : ∃ n, xs.length = n := ⟨_, rfl⟩
  have HXN := Lib.hid hxs
  rw [hxs] at HX HZ ⊢
  clear hxs
  obtain ⟨wa, ea, hFa, hBa, hsa⟩ := one_new w4 #[] 36
  obtain ⟨wb, eb, hFb, hBb, hsb⟩ := one_new wa #[] 57
  obtain ⟨g0, hg0⟩ : ∃ g, w4.heap.size = g := ⟨_, rfl⟩
  obtain ⟨g1, hg1⟩ : ∃ g, w4.heap.size + 1 = g := ⟨_, rfl⟩
  obtain ⟨gw, hgw⟩ : ∃ g, w4.heap.size + 1 + 1 = g := ⟨_, rfl⟩
  obtain ⟨gt, hgt⟩ : ∃ g, w4.heap.size + 1 + 1 + 1 = g := ⟨_, rfl⟩
  obtain ⟨wc, ec, hFc, hBc, hsc⟩ := one_new wb #[.slice (some ⟨g0, 0, none⟩) 0 0] 40
  obtain ⟨wd, ed, hFd, hBd, hsd⟩ := one_new wc #[.slice (some ⟨g1, 0, none⟩) 0 0] 38
  have HT0 : Hid (TSt w4 wd gw gt [] (.slice (some ⟨g0, 0, none⟩) 0 0) (.slice (some ⟨g1, 0, none⟩) 0 0) (.slice (some ⟨g0, 0, none⟩) 0 0) (.slice (some ⟨g1, 0, none⟩) 0 0) [] []) := Lib.hid (by
    have hz1 : wa.heap.size = g1 := by omega
    have hz2 : wb.heap.size = gw := by omega
    have hz3 : wc.heap.size = gt := by omega
    have o1 : OwnEls 1 SrcR wa w4.heap.size 36 (.slice (some ⟨g0, 0, none⟩) 0 0) [] [] := by rw [← ea, ← hg0]; exact OwnEls.made w4 w4.heap.size _ (Nat.le_refl _)
    have o2 : OwnEls 7 RptR wb w4.heap.size 57 (.slice (some ⟨g1, 0, none⟩) 0 0) [] [] := by rw [← eb, ← hz1]; exact OwnEls.made wa w4.heap.size _ (by omega)
    rw [hz2] at hBc
    rw [hz3] at hBd
    refine ⟨hBc.keep hFd, hBd, ((o1.keep Rep.src hFb).keep Rep.src hFc).keep Rep.src hFd, (o2.keep Rep.rpt hFc).keep Rep.rpt hFd, ?_, ?_, ?_, by omega, by simp, ((hFa.trans hFb).trans hFc).trans hFd⟩
    · intro b hb; simp [blockOf] at hb; simp; omega
    · intro b hb; simp [blockOf] at hb; simp; omega
    · intro b hb hb2; simp [blockOf] at hb hb2; omega)
  have HLO : Hid (w4.heap.size ≤ gw ∧ w4.heap.size ≤ gt ∧ gM < w4.heap.size ∧ gR < w4.heap.size ∧ gw ≠ gt) := Lib.hid (by have h1 := HM.out.lt; have h2 := HRC.out.lt; omega)
  have EA := Lib.hid ea; have EB := Lib.hid eb; have EC := Lib.hid ec; have ED := Lib.hid ed; have HG0 := Lib.hid hg0; have HG1 := Lib.hid hg1; have HGW := Lib.hid hgw; have HGT := Lib.hid hgt
  clear ea eb ec ed hFa hFb hFc hFd hBa hBb hBc hBd hsa hsb hsc hsd hg0 hg1 hgw hgt
  go_upto_region 8 with fail
  have hg0 := HG0.out; have hg1 := HG1.out; have hgw := HGW.out; have hgt := HGT.out
  rw [hgt, hgw, hg1, hg0, EA.out, EB.out, EC.out, ED.out]
  clear hg0 hg1 hgw hgt EA EB EC ED HG0 HG1 HGW HGT
  have hn8 : n ≤ 8 := HZ.out.2
  go_loopw [34] (fun i wr => ∃ j : Nat, j ≤ n ∧ i = .int .i64 j ∧ ∃ aw nw cw at_ nt ct, TSt w4 wr gw gt [] (.slice aw nw cw) (.slice at_ nt ct) (.slice aw nw cw) (.slice at_ nt ct) ((tlsOf r (tells7 (xs.take j))).map Prod.fst) ((tlsOf r (tells7 (xs.take j))).map Prod.snd)) (fun i _ => n - (intOf i).toNat)
  case atStart => exact ⟨0, Nat.zero_le _, rfl, _, _, _, _, _, _, by
    have e : tlsOf r (tells7 (xs.take 0)) = [] := by unfold tlsOf; split <;> rfl
    rw [e]; exact HT0.out⟩
  case round =>
    clear HT0
    obtain ⟨j, hj, rfl, aw, nw, cw, at_, nt, ct, hT⟩ := hrel
    have HT := Lib.hid hT
    clear hT
    by_cases hlt : j < n
    · obtain ⟨b, o, k0, y, B3, ea, -, hy, ⟨vr, vc, vs, Bc, rfl, hr, hc, hs, -⟩, -, hrg⟩ := HX.out.at_ Rep.itm (i := j) hlt
      subst ea
      obtain ⟨ar, cr, rfl⟩ := hr.shape
      obtain ⟨ac, cc, rfl⟩ := hc.shape
      obtain ⟨as_, cs, rfl⟩ := hs.shape
      obtain ⟨p, hp⟩ : ∃ p, y.reps.length = p := ⟨_, rfl⟩
      rw [hp] at hr hrg
      have HY := Lib.hid hy; have HP := Lib.hid hp; have HR := Lib.hid hr; have HRG := Lib.hid (fr_rng HT.out.fr hrg)
      have hpb : p ≤ 1099511000000 := by rw [← hp]; exact ((HZ.out.1 y (List.mem_of_getElem? hy)).n).1
      clear hy hr hc hs hrg hp
      obtain ⟨wx, ex, hFx, hBx, hsx⟩ := one_new wr (itc y (.slice ar p cr) (.slice ac y.chks.length cc) (.slice as_ y.srcs.length cs)) 42
      have HT0x : Hid (gw < wr.heap.size ∧ gt < wr.heap.size) := Lib.hid ⟨HT.out.bw.lt, HT.out.bt.lt⟩
      have EX := Lib.hid ex; have HBX := Lib.hid hBx; have HT := Lib.hid (HT.out.new hFx (by omega))
      have x6 := hBx.cell 6
      simp only [itc, List.getElem?_toArray, List.getElem?_cons_zero, List.getElem?_cons_succ] at x6
      clear ex hFx hsx hBx
      obtain ⟨gx, hgx⟩ : ∃ g, wr.heap.size = g := ⟨_, rfl⟩
      have HGX := Lib.hid hgx
      have HGA : Hid (gw < gx ∧ gt < gx) := Lib.hid (by have h1 := HT0x.out.1; have h2 := HT0x.out.2; omega)
      clear hgx
      go_upto_region 10 with (refine wpList_load_midA rfl 42 (.tmp 36) rfl b (o + j * 10) rfl (itc y (.slice ar p cr) (.slice ac y.chks.length cc) (.slice as_ y.srcs.length cs)) _ HRG.out Try.underlying42 rfl (by kernel_rfl) ?_)
      rw [EX.out]
      clear EX HRG
      have hgx := HGX.out
      try simp only [hgx]
      rw [hgx] at HBX HT x6
      clear hgx HGX
      go_upto_region 11 with fail
      clear x6
      have HGN : Hid (gx ≠ gw ∧ gx ≠ gt) := Lib.hid (by
        have h1 := HT.out.bw.lt
        have h2 := HGA.out
        omega)
      go_loopw [41] (fun i wy => ∃ k : Nat, k ≤ p ∧ i = .int .i64 k ∧ Box wy gx 42 (itc y (.slice ar p cr) (.slice ac y.chks.length cc) (.slice as_ y.srcs.length cs)) ∧ ∃ aw nw cw at_ nt ct, TSt w4 wy gw gt [gx] (.slice aw nw cw) (.slice at_ nt ct) (.slice aw nw cw) (.slice at_ nt ct) ((tlsOf r (tells7 (xs.take j) ++ ((y.reps.take k).map fun q => (y.ssrc, q)))).map Prod.fst) ((tlsOf r (tells7 (xs.take j) ++ ((y.reps.take k).map fun q => (y.ssrc, q)))).map Prod.snd)) (fun i _ => p - (intOf i).toNat)
      case atStart => exact ⟨0, Nat.zero_le _, rfl, HBX.out, _, _, _, _, _, _, by simpa using HT.out⟩
      case round =>
        clear HT HBX
        obtain ⟨k, hk, rfl, hBX, aw, nw, cw, at_, nt, ct, hT⟩ := hrel
        rename World => wy
        have HT := Lib.hid hT; have HBX := Lib.hid hBX
        clear hT hBX
        by_cases hlk : k < p
        · obtain ⟨b2, o2, k2, z, B4, eb, -, hz, ⟨rfl, -⟩, -, hrg2⟩ := (HR.out.keep Rep.rpt HT.out.fr).at_ Rep.rpt (i := k) hlk
          subst eb
          have HZ2 := Lib.hid hz; have HRG := Lib.hid hrg2
          have HPRE : Hid (tells7 (xs.take j) ++ ((y.reps.take (k + 1)).map fun q => (y.ssrc, q)) = (tells7 (xs.take j) ++ ((y.reps.take k).map fun q => (y.ssrc, q))) ++ [(y.ssrc, z)]) := Lib.hid (by rw [List.take_add_one, hz]; simp)
          have HLE : Hid ((tells7 (xs.take j) ++ ((y.reps.take k).map fun q => (y.ssrc, q))).length + 1 ≤ 320) := Lib.hid (by
            have h1 := (tells7_pre HY.out hz).length_le
            have h2 := HTL.out
            simp only [List.length_append, List.length_singleton] at h1 ⊢
            omega)
          obtain ⟨wv, ev, hFv, hBv, hsv⟩ := one_new wy (rpc7 z) 57
          have EV := Lib.hid ev; have HBR := Lib.hid hBv; have HBX := Lib.hid (HBX.out.keep hFv); have HT := Lib.hid (HT.out.new hFv (by omega))
          clear hz hrg2 ev hFv hBv hsv
          obtain ⟨gr, hgr⟩ : ∃ g, wy.heap.size = g := ⟨_, rfl⟩
          have HGR2 := Lib.hid hgr
          clear hgr
          obtain ⟨L, hL⟩ : ∃ L, tells7 (xs.take j) ++ ((y.reps.take k).map fun q => (y.ssrc, q)) = L := ⟨_, rfl⟩
          rw [hL] at HT HPRE HLE
          clear hL
          by_cases hr0 : r = 0
          rotate_left
          · have er : (r == 0) = false := beq_eq_false_iff_ne.2 hr0
            have HNO : Hid (∀ L' : List (UInt32 × Rpt), tlsOf r L' = []) := Lib.hid (fun L' => by unfold tlsOf; rw [if_neg hr0])
            clear hr0
            go_upto_region 13 with (refine wpList_load_midA rfl 57 (.tmp 43) rfl b2 (o2 + k * 7) rfl (rpc7 z) _ HRG.out Try.underlying57 rfl (by kernel_rfl) ?_)
            rw [EV.out]
            go_wp2_with fail
            refine ⟨⟨k + 1, by omega, by go_num, HBX.out, aw, nw, cw, at_, nt, ct, ?_⟩, by simp [intOf]; omega⟩
            have h1 := HT.out.less (X' := [gx]) (by simp)
            rw [HNO.out] at h1 ⊢
            exact h1
          · have er : (r == 0) = true := beq_iff_eq.2 hr0
            have HYS : Hid (∀ L' : List (UInt32 × Rpt), tlsOf r L' = L') := Lib.hid (fun L' => by unfold tlsOf; rw [if_pos hr0])
            rw [HYS.out] at HT
            clear hr0
            go_upto_region 13 with (refine wpList_load_midA rfl 57 (.tmp 43) rfl b2 (o2 + k * 7) rfl (rpc7 z) _ HRG.out Try.underlying57 rfl (by kernel_rfl) ?_)
            rw [EV.out]
            have hgr := HGR2.out
            try simp only [hgr]
            rw [hgr] at HBR HT
            clear hgr HGR2 EV HRG
            go_upto_region 14 with fail
            clear er
            refine wp_region_T (Lds gw gt gx gr (.slice aw nw cw) (.slice at_ nt ct) (itc y (.slice (some ⟨b2, o2, none⟩) p cr) (.slice ac y.chks.length cc) (.slice as_ y.srcs.length cs)) z) [9, 10] 11 #[false, false, false, false, false, false, false, false, false, false, false] (by as_aux_lemma => kernel_rfl) rfl rfl ?_
            have hF := (Fr.refl [] wv).drew
            have HT := Lib.hid (HT.out.keep hF); have HBX := Lib.hid (HBX.out.keep hF); have HBR := Lib.hid (HBR.out.keep hF)
            clear hF
            generalize wv.drew = wq at *
            have HSS : Hid (Lds gw gt gx gr (.slice aw nw cw) (.slice at_ nt ct) (itc y (.slice (some ⟨b2, o2, none⟩) p cr) (.slice ac y.chks.length cc) (.slice as_ y.srcs.length cs)) z wq) := Lib.hid ⟨HT.out.bw, HT.out.bt, HBX.out, HBR.out⟩
            have HN0 : Hid ((L.map Prod.fst).length + 1 ≤ 320 ∧ (L.map Prod.snd).length + 1 ≤ 320) := Lib.hid (by have := HLE.out; simp only [List.length_map]; exact ⟨this, this⟩)
            refine wpAnyT_load (i := 0) (v := ?_) rfl (by as_aux_lemma => kernel_rfl) (by as_aux_lemma => kernel_rfl) (by as_aux_lemma => kernel_rfl) (by as_aux_lemma => kernel_rfl) (by as_aux_lemma => kernel_rfl) (fun _ _ _ h => h) HSS.out (by rfl) ?_ ?_
            rotate_left
            · intro w hSw; have c := hSw.bw.cell 0; simp only [List.getElem?_toArray, List.getElem?_cons_zero, List.getElem?_cons_succ] at c; go_simp; try with_reducible rfl
            simp only [Act.put, List.getElem_toArray, List.getElem_cons_zero, List.getElem_cons_succ, List.setIfInBounds_toArray, List.set_cons_zero, List.set_cons_succ]
            refine wpAnyT_load (i := 1) (v := ?_) rfl (by as_aux_lemma => kernel_rfl) (by as_aux_lemma => kernel_rfl) (by as_aux_lemma => kernel_rfl) (by as_aux_lemma => kernel_rfl) (by as_aux_lemma => kernel_rfl) (fun _ _ _ h => h) HSS.out (by rfl) ?_ ?_
            rotate_left
            · intro w hSw; skip; go_simp; try with_reducible rfl
            simp only [Act.put, List.getElem_toArray, List.getElem_cons_zero, List.getElem_cons_succ, List.setIfInBounds_toArray, List.set_cons_zero, List.set_cons_succ]
            refine wpAnyT_load (i := 2) (v := ?_) rfl (by as_aux_lemma => kernel_rfl) (by as_aux_lemma => kernel_rfl) (by as_aux_lemma => kernel_rfl) (by as_aux_lemma => kernel_rfl) (by as_aux_lemma => kernel_rfl) (fun _ _ _ h => h) HSS.out (by rfl) ?_ ?_
            rotate_left
            · intro w hSw; have c := hSw.bx.cell 1; simp only [itc, List.getElem?_toArray, List.getElem?_cons_zero, List.getElem?_cons_succ] at c; go_simp; try with_reducible rfl
            simp only [Act.put, List.getElem_toArray, List.getElem_cons_zero, List.getElem_cons_succ, List.setIfInBounds_toArray, List.set_cons_zero, List.set_cons_succ]
            refine wpAnyT_load (i := 5) (v := ?_) rfl (by as_aux_lemma => kernel_rfl) (by as_aux_lemma => kernel_rfl) (by as_aux_lemma => kernel_rfl) (by as_aux_lemma => kernel_rfl) (by as_aux_lemma => kernel_rfl) (fun _ _ _ h => h) HSS.out (by rfl) ?_ ?_
            rotate_left
            · intro w hSw; have c := hSw.bt.cell 0; simp only [List.getElem?_toArray, List.getElem?_cons_zero, List.getElem?_cons_succ] at c; go_simp; try with_reducible rfl
            simp only [Act.put, List.getElem_toArray, List.getElem_cons_zero, List.getElem_cons_succ, List.setIfInBounds_toArray, List.set_cons_zero, List.set_cons_succ]
            refine wpAnyT_load (i := 6) (v := ?_) rfl (by as_aux_lemma => kernel_rfl) (by as_aux_lemma => kernel_rfl) (by as_aux_lemma => kernel_rfl) (by as_aux_lemma => kernel_rfl) (by as_aux_lemma => kernel_rfl) (fun _ _ _ h => h) HSS.out (by rfl) ?_ ?_
            rotate_left
            · intro w' hSw; refine run_load_row 57 (.tmp 14) ?_ gr ?_ 57 _ _ hSw.br Try.underlying57 rfl (by as_aux_lemma => kernel_rfl) <;> rfl
            simp only [Act.put, List.getElem_toArray, List.getElem_cons_zero, List.getElem_cons_succ, List.setIfInBounds_toArray, List.set_cons_zero, List.set_cons_succ]
            refine wpAnyT_two (i := 3) (j := 7) (by as_aux_lemma => kernel_rfl) rfl rfl (fun K hK => ?_) (fun K hK => ?_)
            · obtain ⟨wb1, eb1, hF, hB1, hs1⟩ := one_new wq #[.int .u32 (y.ssrc.toNat : Nat)] 36
              have EB1 := Lib.hid eb1; have HLS := Lib.hid hB1; have HT := Lib.hid (HT.out.new hF (by omega)); have HBX := Lib.hid (HBX.out.keep hF); have HBR := Lib.hid (HBR.out.keep hF)
              have HSS : Hid (Lds gw gt gx gr (.slice aw nw cw) (.slice at_ nt ct) (itc y (.slice (some ⟨b2, o2, none⟩) p cr) (.slice ac y.chks.length cc) (.slice as_ y.srcs.length cs)) z wb1) := Lib.hid ⟨HT.out.bw, HT.out.bt, HBX.out, HBR.out⟩
              clear eb1 hF hB1 hs1
              rw [if_pos (by rfl)]
              go_simp
              rw [EB1.out]
              refine hK.out _ _ (fun _ => HSS.out) ?_
              clear hK K
              simp only [Act.put, List.getElem_toArray, List.getElem_cons_zero, List.getElem_cons_succ, List.setIfInBounds_toArray, List.set_cons_zero, List.set_cons_succ]
              refine wpAnyT_two (i := 4) (j := 7) (by as_aux_lemma => kernel_rfl) rfl rfl (fun K hK => ?_) (fun K hK => ?_)
              · have HA1 : Hid ((L.map Prod.fst).length + 1 ≤ maxLen) := Lib.hid (by have := HN0.out; unfold maxLen; omega)
                have HA2 : Hid (((L.map Prod.fst).length + 1) * 4 ≤ 140737488355328) := Lib.hid (by have := HN0.out; omega)
                have HEL : Hid (Els SrcR [y.ssrc] wb1 [.int .u32 (y.ssrc.toNat : Nat)] []) := Lib.hid ⟨_, [], [], [], by simp, rfl, ⟨rfl, rfl⟩, rfl, rfl⟩
                have HA3 : Hid (w4.heap.size ≤ wb1.heap.size) := Lib.hid HT.out.fr.size
                refine step_append_els Rep.src (by decide) rfl (.tmp 47) (.tmp 50) 40 rfl w4.heap.size 36 (.int .u32 0) 4 Try.underlying40 info_u32 rfl (.slice aw nw cw) (L.map Prod.fst) [] rfl HT.out.ow ⟨wq.heap.size, 0, none⟩ 1 1 rfl [y.ssrc] rfl _ [] HEL.out (fun j u hj => by rw [Addr.add_mid]; exact box_range HLS.out j u (by simpa using hj)) (by simp) HA1.out HA2.out HA3.out ?_
                intro v2 wa2 hown hfr hbl
                obtain ⟨a2, n2, c2, e2⟩ : ∃ a n c, v2 = .slice a n c := by obtain ⟨a, c, e⟩ := hown.shape; exact ⟨_, _, _, e⟩
                subst e2
                have HBX := Lib.hid (HBX.out.fr hfr (HT.out.offW (by simp))); have HBR := Lib.hid (HBR.out.fr hfr (HT.out.offW (by simp)))
                have HLS := Lib.hid (HLS.out.fr hfr (HT.out.offW (by simp)))
                have HT := Lib.hid (HT.out.appW hown hfr hbl)
                have HSS : Hid (Lds gw gt gx gr (.slice aw nw cw) (.slice at_ nt ct) (itc y (.slice (some ⟨b2, o2, none⟩) p cr) (.slice ac y.chks.length cc) (.slice as_ y.srcs.length cs)) z wa2) := Lib.hid ⟨HT.out.bw, HT.out.bt, HBX.out, HBR.out⟩
                clear hown hfr hbl HEL HA1 HA2 HA3
                refine hK.out _ _ (fun _ => HSS.out) ?_
                clear hK K
                simp only [Act.put, List.getElem_toArray, List.getElem_cons_zero, List.getElem_cons_succ, List.setIfInBounds_toArray, List.set_cons_zero, List.set_cons_succ]
                obtain ⟨wb3, eb3, hF, hB3, hs3⟩ := one_new wa2 (rpc7 z) 57
                have EB3 := Lib.hid eb3; have HLP := Lib.hid hB3; have HT := Lib.hid (HT.out.new hF (by omega)); have HBX := Lib.hid (HBX.out.keep hF); have HBR := Lib.hid (HBR.out.keep hF)
                have HLS := Lib.hid (HLS.out.keep hF)
                have HSS : Hid (Lds gw gt gx gr (.slice aw nw cw) (.slice at_ nt ct) (itc y (.slice (some ⟨b2, o2, none⟩) p cr) (.slice ac y.chks.length cc) (.slice as_ y.srcs.length cs)) z wb3) := Lib.hid ⟨HT.out.bw, HT.out.bt, HBX.out, HBR.out⟩
                clear eb3 hF hB3 hs3
                refine wpAnyT_one (i := 7) (by as_aux_lemma => kernel_rfl) rfl (fun K hK => ?_)
                rw [if_pos (by rfl)]
                go_simp
                rw [EB3.out]
                refine hK.out _ _ (fun _ => HSS.out) ?_
                clear hK K
                simp only [Act.put, List.getElem_toArray, List.getElem_cons_zero, List.getElem_cons_succ, List.setIfInBounds_toArray, List.set_cons_zero, List.set_cons_succ]
                have HA1 : Hid ((L.map Prod.snd).length + 1 ≤ maxLen) := Lib.hid (by have := HN0.out; unfold maxLen; omega)
                have HA2 : Hid (((L.map Prod.snd).length + 1) * 40 ≤ 140737488355328) := Lib.hid (by have := HN0.out; omega)
                have HEL : Hid (Els RptR [z] wb3 (rpc7 z).toList []) := Lib.hid ⟨_, [], [], [], by simp, rfl, ⟨rfl, rfl⟩, rfl, rfl⟩
                have HA3 : Hid (w4.heap.size ≤ wb3.heap.size) := Lib.hid HT.out.fr.size
                refine wpAnyT_one (i := 8) (by as_aux_lemma => kernel_rfl) rfl (fun K hK => ?_)
                refine step_append_els Rep.rpt (by decide) rfl (.tmp 52) (.tmp 54) 38 rfl w4.heap.size 57 (.agg #[.int .u32 0, .int .i64 0, .int .i32 0, .int .u32 0, .int .u32 0, .int .u32 0, .int .u32 0]) 40 Try.underlying38 info_rpt rfl (.slice at_ nt ct) (L.map Prod.snd) [] rfl HT.out.ot ⟨wa2.heap.size, 0, none⟩ 1 1 rfl [z] rfl _ [] HEL.out (fun j u hj => by rw [Addr.add_mid]; exact box_range HLP.out j u (by simpa using hj)) (by simp) HA1.out HA2.out HA3.out ?_
                intro v4 wa4 hown hfr hbl
                obtain ⟨a4, n4, c4, e4⟩ : ∃ a n c, v4 = .slice a n c := by obtain ⟨a, c, e⟩ := hown.shape; exact ⟨_, _, _, e⟩
                subst e4
                have HBX := Lib.hid (HBX.out.fr hfr (HT.out.offT (by simp))); have HBR := Lib.hid (HBR.out.fr hfr (HT.out.offT (by simp)))
                have HLS := Lib.hid (HLS.out.fr hfr (HT.out.offT (by simp)))
                have HLP := Lib.hid (HLP.out.fr hfr (HT.out.offT (by simp)))
                have HT := Lib.hid (HT.out.appT hown hfr hbl)
                have HSS : Hid (Lds gw gt gx gr (.slice aw nw cw) (.slice at_ nt ct) (itc y (.slice (some ⟨b2, o2, none⟩) p cr) (.slice ac y.chks.length cc) (.slice as_ y.srcs.length cs)) z wa4) := Lib.hid ⟨HT.out.bw, HT.out.bt, HBX.out, HBR.out⟩
                clear hown hfr hbl HEL HA1 HA2 HA3
                refine hK.out _ _ (fun _ => HSS.out) ?_
                clear hK K
                simp only [Act.put, List.getElem_toArray, List.getElem_cons_zero, List.getElem_cons_succ, List.setIfInBounds_toArray, List.set_cons_zero, List.set_cons_succ]
                have HNX : Hid (gx ≠ gw ∧ gx ≠ gt) := Lib.hid HGN.out
                have x0 := HT.out.bw.cell 0; have f0 := HT.out.bw.free 0
                simp only [List.getElem?_toArray, List.getElem?_cons_zero, List.getElem?_cons_succ] at x0
                obtain ⟨wt5, e5, hF, hB, -⟩ := set_new HT.out.bw 0 (.slice a2 n2 c2)
                simp only [List.setIfInBounds_toArray, List.set_cons_zero] at hB
                have HBX := Lib.hid (HBX.out.fr hF (by have := HNX.out; simp; omega)); have HT := Lib.hid (HT.out.setW hB hF); have ET := Lib.hid e5
                clear e5 hF hB
                refine wpAnyT_one (i := 9) (by as_aux_lemma => kernel_rfl) rfl (fun K hK => ?_)
                rw [if_pos (by rfl)]
                go_simp
                rw [ET.out]
                refine hK.out _ _ (fun _ => by first | trivial | exact absurd ‹_› (by simp)) ?_
                clear hK K x0 f0 ET
                simp only [Act.put, List.getElem_toArray, List.getElem_cons_zero, List.getElem_cons_succ, List.setIfInBounds_toArray, List.set_cons_zero, List.set_cons_succ]
                have x0 := HT.out.bt.cell 0; have f0 := HT.out.bt.free 0
                simp only [List.getElem?_toArray, List.getElem?_cons_zero, List.getElem?_cons_succ] at x0
                obtain ⟨wt6, e6, hF, hB, -⟩ := set_new HT.out.bt 0 (.slice a4 n4 c4)
                simp only [List.setIfInBounds_toArray, List.set_cons_zero] at hB
                have HBX := Lib.hid (HBX.out.fr hF (by have := HNX.out; simp; omega)); have HT := Lib.hid (HT.out.setT hB hF); have ET := Lib.hid e6
                clear e6 hF hB
                refine wpAnyT_one (i := 10) (by as_aux_lemma => kernel_rfl) rfl (fun K hK => ?_)
                rw [if_pos (by rfl)]
                go_simp
                rw [ET.out]
                refine hK.out _ _ (fun _ => by first | trivial | exact absurd ‹_› (by simp)) ?_
                clear hK K x0 f0 ET
                simp only [Act.put, List.getElem_toArray, List.getElem_cons_zero, List.getElem_cons_succ, List.setIfInBounds_toArray, List.set_cons_zero, List.set_cons_succ]
                refine wpAnyT_done (by as_aux_lemma => kernel_rfl) ?_ _
                go_wp2_with fail
                refine ⟨⟨k + 1, by omega, by go_num, HBX.out, a2, n2, c2, a4, n4, c4, ?_⟩, by simp [intOf]; omega⟩
                rw [HPRE.out, HYS.out, List.map_append, List.map_append]
                exact HT.out.less (by simp)
              · obtain ⟨wb7, eb7, hF, hB7, hs7⟩ := one_new wb1 (rpc7 z) 57
                have EB7 := Lib.hid eb7; have HLP := Lib.hid hB7; have HT := Lib.hid (HT.out.new hF (by omega)); have HBX := Lib.hid (HBX.out.keep hF); have HBR := Lib.hid (HBR.out.keep hF)
                have HLS := Lib.hid (HLS.out.keep hF)
                have HSS : Hid (Lds gw gt gx gr (.slice aw nw cw) (.slice at_ nt ct) (itc y (.slice (some ⟨b2, o2, none⟩) p cr) (.slice ac y.chks.length cc) (.slice as_ y.srcs.length cs)) z wb7) := Lib.hid ⟨HT.out.bw, HT.out.bt, HBX.out, HBR.out⟩
                clear eb7 hF hB7 hs7
                rw [if_pos (by rfl)]
                go_simp
                rw [EB7.out]
                refine hK.out _ _ (fun _ => HSS.out) ?_
                clear hK K
                simp only [Act.put, List.getElem_toArray, List.getElem_cons_zero, List.getElem_cons_succ, List.setIfInBounds_toArray, List.set_cons_zero, List.set_cons_succ]
                have HA1 : Hid ((L.map Prod.fst).length + 1 ≤ maxLen) := Lib.hid (by have := HN0.out; unfold maxLen; omega)
                have HA2 : Hid (((L.map Prod.fst).length + 1) * 4 ≤ 140737488355328) := Lib.hid (by have := HN0.out; omega)
                have HEL : Hid (Els SrcR [y.ssrc] wb7 [.int .u32 (y.ssrc.toNat : Nat)] []) := Lib.hid ⟨_, [], [], [], by simp, rfl, ⟨rfl, rfl⟩, rfl, rfl⟩
                have HA3 : Hid (w4.heap.size ≤ wb7.heap.size) := Lib.hid HT.out.fr.size
                refine wpAnyT_one (i := 4) (by as_aux_lemma => kernel_rfl) rfl (fun K hK => ?_)
                refine step_append_els Rep.src (by decide) rfl (.tmp 47) (.tmp 50) 40 rfl w4.heap.size 36 (.int .u32 0) 4 Try.underlying40 info_u32 rfl (.slice aw nw cw) (L.map Prod.fst) [] rfl HT.out.ow ⟨wq.heap.size, 0, none⟩ 1 1 rfl [y.ssrc] rfl _ [] HEL.out (fun j u hj => by rw [Addr.add_mid]; exact box_range HLS.out j u (by simpa using hj)) (by simp) HA1.out HA2.out HA3.out ?_
                intro v8 wa8 hown hfr hbl
                obtain ⟨a8, n8, c8, e8⟩ : ∃ a n c, v8 = .slice a n c := by obtain ⟨a, c, e⟩ := hown.shape; exact ⟨_, _, _, e⟩
                subst e8
                have HBX := Lib.hid (HBX.out.fr hfr (HT.out.offW (by simp))); have HBR := Lib.hid (HBR.out.fr hfr (HT.out.offW (by simp)))
                have HLS := Lib.hid (HLS.out.fr hfr (HT.out.offW (by simp)))
                have HLP := Lib.hid (HLP.out.fr hfr (HT.out.offW (by simp)))
                have HT := Lib.hid (HT.out.appW hown hfr hbl)
                have HSS : Hid (Lds gw gt gx gr (.slice aw nw cw) (.slice at_ nt ct) (itc y (.slice (some ⟨b2, o2, none⟩) p cr) (.slice ac y.chks.length cc) (.slice as_ y.srcs.length cs)) z wa8) := Lib.hid ⟨HT.out.bw, HT.out.bt, HBX.out, HBR.out⟩
                clear hown hfr hbl HEL HA1 HA2 HA3
                refine hK.out _ _ (fun _ => HSS.out) ?_
                clear hK K
                simp only [Act.put, List.getElem_toArray, List.getElem_cons_zero, List.getElem_cons_succ, List.setIfInBounds_toArray, List.set_cons_zero, List.set_cons_succ]
                have HA1 : Hid ((L.map Prod.snd).length + 1 ≤ maxLen) := Lib.hid (by have := HN0.out; unfold maxLen; omega)
                have HA2 : Hid (((L.map Prod.snd).length + 1) * 40 ≤ 140737488355328) := Lib.hid (by have := HN0.out; omega)
                have HEL : Hid (Els RptR [z] wa8 (rpc7 z).toList []) := Lib.hid ⟨_, [], [], [], by simp, rfl, ⟨rfl, rfl⟩, rfl, rfl⟩
                have HA3 : Hid (w4.heap.size ≤ wa8.heap.size) := Lib.hid HT.out.fr.size
                refine wpAnyT_one (i := 8) (by as_aux_lemma => kernel_rfl) rfl (fun K hK => ?_)
                refine step_append_els Rep.rpt (by decide) rfl (.tmp 52) (.tmp 54) 38 rfl w4.heap.size 57 (.agg #[.int .u32 0, .int .i64 0, .int .i32 0, .int .u32 0, .int .u32 0, .int .u32 0, .int .u32 0]) 40 Try.underlying38 info_rpt rfl (.slice at_ nt ct) (L.map Prod.snd) [] rfl HT.out.ot ⟨wb1.heap.size, 0, none⟩ 1 1 rfl [z] rfl _ [] HEL.out (fun j u hj => by rw [Addr.add_mid]; exact box_range HLP.out j u (by simpa using hj)) (by simp) HA1.out HA2.out HA3.out ?_
                intro v9 wa9 hown hfr hbl
                obtain ⟨a9, n9, c9, e9⟩ : ∃ a n c, v9 = .slice a n c := by obtain ⟨a, c, e⟩ := hown.shape; exact ⟨_, _, _, e⟩
                subst e9
                have HBX := Lib.hid (HBX.out.fr hfr (HT.out.offT (by simp))); have HBR := Lib.hid (HBR.out.fr hfr (HT.out.offT (by simp)))
                have HLS := Lib.hid (HLS.out.fr hfr (HT.out.offT (by simp)))
                have HLP := Lib.hid (HLP.out.fr hfr (HT.out.offT (by simp)))
                have HT := Lib.hid (HT.out.appT hown hfr hbl)
                have HSS : Hid (Lds gw gt gx gr (.slice aw nw cw) (.slice at_ nt ct) (itc y (.slice (some ⟨b2, o2, none⟩) p cr) (.slice ac y.chks.length cc) (.slice as_ y.srcs.length cs)) z wa9) := Lib.hid ⟨HT.out.bw, HT.out.bt, HBX.out, HBR.out⟩
                clear hown hfr hbl HEL HA1 HA2 HA3
                refine hK.out _ _ (fun _ => HSS.out) ?_
                clear hK K
                simp only [Act.put, List.getElem_toArray, List.getElem_cons_zero, List.getElem_cons_succ, List.setIfInBounds_toArray, List.set_cons_zero, List.set_cons_succ]
                have HNX : Hid (gx ≠ gw ∧ gx ≠ gt) := Lib.hid HGN.out
                have x0 := HT.out.bw.cell 0; have f0 := HT.out.bw.free 0
                simp only [List.getElem?_toArray, List.getElem?_cons_zero, List.getElem?_cons_succ] at x0
                obtain ⟨wt10, e10, hF, hB, -⟩ := set_new HT.out.bw 0 (.slice a8 n8 c8)
                simp only [List.setIfInBounds_toArray, List.set_cons_zero] at hB
                have HBX := Lib.hid (HBX.out.fr hF (by have := HNX.out; simp; omega)); have HT := Lib.hid (HT.out.setW hB hF); have ET := Lib.hid e10
                clear e10 hF hB
                refine wpAnyT_one (i := 9) (by as_aux_lemma => kernel_rfl) rfl (fun K hK => ?_)
                rw [if_pos (by rfl)]
                go_simp
                rw [ET.out]
                refine hK.out _ _ (fun _ => by first | trivial | exact absurd ‹_› (by simp)) ?_
                clear hK K x0 f0 ET
                simp only [Act.put, List.getElem_toArray, List.getElem_cons_zero, List.getElem_cons_succ, List.setIfInBounds_toArray, List.set_cons_zero, List.set_cons_succ]
                have x0 := HT.out.bt.cell 0; have f0 := HT.out.bt.free 0
                simp only [List.getElem?_toArray, List.getElem?_cons_zero, List.getElem?_cons_succ] at x0
                obtain ⟨wt11, e11, hF, hB, -⟩ := set_new HT.out.bt 0 (.slice a9 n9 c9)
                simp only [List.setIfInBounds_toArray, List.set_cons_zero] at hB
                have HBX := Lib.hid (HBX.out.fr hF (by have := HNX.out; simp; omega)); have HT := Lib.hid (HT.out.setT hB hF); have ET := Lib.hid e11
                clear e11 hF hB
                refine wpAnyT_one (i := 10) (by as_aux_lemma => kernel_rfl) rfl (fun K hK => ?_)
                rw [if_pos (by rfl)]
                go_simp
                rw [ET.out]
                refine hK.out _ _ (fun _ => by first | trivial | exact absurd ‹_› (by simp)) ?_
                clear hK K x0 f0 ET
                simp only [Act.put, List.getElem_toArray, List.getElem_cons_zero, List.getElem_cons_succ, List.setIfInBounds_toArray, List.set_cons_zero, List.set_cons_succ]
                refine wpAnyT_done (by as_aux_lemma => kernel_rfl) ?_ _
                go_wp2_with fail
                refine ⟨⟨k + 1, by omega, by go_num, HBX.out, a8, n8, c8, a9, n9, c9, ?_⟩, by simp [intOf]; omega⟩
                rw [HPRE.out, HYS.out, List.map_append, List.map_append]
                exact HT.out.less (by simp)
            · obtain ⟨wb12, eb12, hF, hB12, hs12⟩ := one_new wq (rpc7 z) 57
              have EB12 := Lib.hid eb12; have HLP := Lib.hid hB12; have HT := Lib.hid (HT.out.new hF (by omega)); have HBX := Lib.hid (HBX.out.keep hF); have HBR := Lib.hid (HBR.out.keep hF)
              have HSS : Hid (Lds gw gt gx gr (.slice aw nw cw) (.slice at_ nt ct) (itc y (.slice (some ⟨b2, o2, none⟩) p cr) (.slice ac y.chks.length cc) (.slice as_ y.srcs.length cs)) z wb12) := Lib.hid ⟨HT.out.bw, HT.out.bt, HBX.out, HBR.out⟩
              clear eb12 hF hB12 hs12
              rw [if_pos (by rfl)]
              go_simp
              rw [EB12.out]
              refine hK.out _ _ (fun _ => HSS.out) ?_
              clear hK K
              simp only [Act.put, List.getElem_toArray, List.getElem_cons_zero, List.getElem_cons_succ, List.setIfInBounds_toArray, List.set_cons_zero, List.set_cons_succ]
              obtain ⟨wb13, eb13, hF, hB13, hs13⟩ := one_new wb12 #[.int .u32 (y.ssrc.toNat : Nat)] 36
              have EB13 := Lib.hid eb13; have HLS := Lib.hid hB13; have HT := Lib.hid (HT.out.new hF (by omega)); have HBX := Lib.hid (HBX.out.keep hF); have HBR := Lib.hid (HBR.out.keep hF)
              have HLP := Lib.hid (HLP.out.keep hF)
              have HSS : Hid (Lds gw gt gx gr (.slice aw nw cw) (.slice at_ nt ct) (itc y (.slice (some ⟨b2, o2, none⟩) p cr) (.slice ac y.chks.length cc) (.slice as_ y.srcs.length cs)) z wb13) := Lib.hid ⟨HT.out.bw, HT.out.bt, HBX.out, HBR.out⟩
              clear eb13 hF hB13 hs13
              refine wpAnyT_one (i := 3) (by as_aux_lemma => kernel_rfl) rfl (fun K hK => ?_)
              rw [if_pos (by rfl)]
              go_simp
              rw [EB13.out]
              refine hK.out _ _ (fun _ => HSS.out) ?_
              clear hK K
              simp only [Act.put, List.getElem_toArray, List.getElem_cons_zero, List.getElem_cons_succ, List.setIfInBounds_toArray, List.set_cons_zero, List.set_cons_succ]
              have HA1 : Hid ((L.map Prod.fst).length + 1 ≤ maxLen) := Lib.hid (by have := HN0.out; unfold maxLen; omega)
              have HA2 : Hid (((L.map Prod.fst).length + 1) * 4 ≤ 140737488355328) := Lib.hid (by have := HN0.out; omega)
              have HEL : Hid (Els SrcR [y.ssrc] wb13 [.int .u32 (y.ssrc.toNat : Nat)] []) := Lib.hid ⟨_, [], [], [], by simp, rfl, ⟨rfl, rfl⟩, rfl, rfl⟩
              have HA3 : Hid (w4.heap.size ≤ wb13.heap.size) := Lib.hid HT.out.fr.size
              refine wpAnyT_one (i := 4) (by as_aux_lemma => kernel_rfl) rfl (fun K hK => ?_)
              refine step_append_els Rep.src (by decide) rfl (.tmp 47) (.tmp 50) 40 rfl w4.heap.size 36 (.int .u32 0) 4 Try.underlying40 info_u32 rfl (.slice aw nw cw) (L.map Prod.fst) [] rfl HT.out.ow ⟨wb12.heap.size, 0, none⟩ 1 1 rfl [y.ssrc] rfl _ [] HEL.out (fun j u hj => by rw [Addr.add_mid]; exact box_range HLS.out j u (by simpa using hj)) (by simp) HA1.out HA2.out HA3.out ?_
              intro v14 wa14 hown hfr hbl
              obtain ⟨a14, n14, c14, e14⟩ : ∃ a n c, v14 = .slice a n c := by obtain ⟨a, c, e⟩ := hown.shape; exact ⟨_, _, _, e⟩
              subst e14
              have HBX := Lib.hid (HBX.out.fr hfr (HT.out.offW (by simp))); have HBR := Lib.hid (HBR.out.fr hfr (HT.out.offW (by simp)))
              have HLP := Lib.hid (HLP.out.fr hfr (HT.out.offW (by simp)))
              have HLS := Lib.hid (HLS.out.fr hfr (HT.out.offW (by simp)))
              have HT := Lib.hid (HT.out.appW hown hfr hbl)
              have HSS : Hid (Lds gw gt gx gr (.slice aw nw cw) (.slice at_ nt ct) (itc y (.slice (some ⟨b2, o2, none⟩) p cr) (.slice ac y.chks.length cc) (.slice as_ y.srcs.length cs)) z wa14) := Lib.hid ⟨HT.out.bw, HT.out.bt, HBX.out, HBR.out⟩
              clear hown hfr hbl HEL HA1 HA2 HA3
              refine hK.out _ _ (fun _ => HSS.out) ?_
              clear hK K
              simp only [Act.put, List.getElem_toArray, List.getElem_cons_zero, List.getElem_cons_succ, List.setIfInBounds_toArray, List.set_cons_zero, List.set_cons_succ]
              have HA1 : Hid ((L.map Prod.snd).length + 1 ≤ maxLen) := Lib.hid (by have := HN0.out; unfold maxLen; omega)
              have HA2 : Hid (((L.map Prod.snd).length + 1) * 40 ≤ 140737488355328) := Lib.hid (by have := HN0.out; omega)
              have HEL : Hid (Els RptR [z] wa14 (rpc7 z).toList []) := Lib.hid ⟨_, [], [], [], by simp, rfl, ⟨rfl, rfl⟩, rfl, rfl⟩
              have HA3 : Hid (w4.heap.size ≤ wa14.heap.size) := Lib.hid HT.out.fr.size
              refine wpAnyT_one (i := 8) (by as_aux_lemma => kernel_rfl) rfl (fun K hK => ?_)
              refine step_append_els Rep.rpt (by decide) rfl (.tmp 52) (.tmp 54) 38 rfl w4.heap.size 57 (.agg #[.int .u32 0, .int .i64 0, .int .i32 0, .int .u32 0, .int .u32 0, .int .u32 0, .int .u32 0]) 40 Try.underlying38 info_rpt rfl (.slice at_ nt ct) (L.map Prod.snd) [] rfl HT.out.ot ⟨wq.heap.size, 0, none⟩ 1 1 rfl [z] rfl _ [] HEL.out (fun j u hj => by rw [Addr.add_mid]; exact box_range HLP.out j u (by simpa using hj)) (by simp) HA1.out HA2.out HA3.out ?_
              intro v15 wa15 hown hfr hbl
              obtain ⟨a15, n15, c15, e15⟩ : ∃ a n c, v15 = .slice a n c := by obtain ⟨a, c, e⟩ := hown.shape; exact ⟨_, _, _, e⟩
              subst e15
              have HBX := Lib.hid (HBX.out.fr hfr (HT.out.offT (by simp))); have HBR := Lib.hid (HBR.out.fr hfr (HT.out.offT (by simp)))
              have HLP := Lib.hid (HLP.out.fr hfr (HT.out.offT (by simp)))
              have HLS := Lib.hid (HLS.out.fr hfr (HT.out.offT (by simp)))
              have HT := Lib.hid (HT.out.appT hown hfr hbl)
              have HSS : Hid (Lds gw gt gx gr (.slice aw nw cw) (.slice at_ nt ct) (itc y (.slice (some ⟨b2, o2, none⟩) p cr) (.slice ac y.chks.length cc) (.slice as_ y.srcs.length cs)) z wa15) := Lib.hid ⟨HT.out.bw, HT.out.bt, HBX.out, HBR.out⟩
              clear hown hfr hbl HEL HA1 HA2 HA3
              refine hK.out _ _ (fun _ => HSS.out) ?_
              clear hK K
              simp only [Act.put, List.getElem_toArray, List.getElem_cons_zero, List.getElem_cons_succ, List.setIfInBounds_toArray, List.set_cons_zero, List.set_cons_succ]
              have HNX : Hid (gx ≠ gw ∧ gx ≠ gt) := Lib.hid HGN.out
              have x0 := HT.out.bw.cell 0; have f0 := HT.out.bw.free 0
              simp only [List.getElem?_toArray, List.getElem?_cons_zero, List.getElem?_cons_succ] at x0
              obtain ⟨wt16, e16, hF, hB, -⟩ := set_new HT.out.bw 0 (.slice a14 n14 c14)
              simp only [List.setIfInBounds_toArray, List.set_cons_zero] at hB
              have HBX := Lib.hid (HBX.out.fr hF (by have := HNX.out; simp; omega)); have HT := Lib.hid (HT.out.setW hB hF); have ET := Lib.hid e16
              clear e16 hF hB
              refine wpAnyT_one (i := 9) (by as_aux_lemma => kernel_rfl) rfl (fun K hK => ?_)
              rw [if_pos (by rfl)]
              go_simp
              rw [ET.out]
              refine hK.out _ _ (fun _ => by first | trivial | exact absurd ‹_› (by simp)) ?_
              clear hK K x0 f0 ET
              simp only [Act.put, List.getElem_toArray, List.getElem_cons_zero, List.getElem_cons_succ, List.setIfInBounds_toArray, List.set_cons_zero, List.set_cons_succ]
              have x0 := HT.out.bt.cell 0; have f0 := HT.out.bt.free 0
              simp only [List.getElem?_toArray, List.getElem?_cons_zero, List.getElem?_cons_succ] at x0
              obtain ⟨wt17, e17, hF, hB, -⟩ := set_new HT.out.bt 0 (.slice a15 n15 c15)
              simp only [List.setIfInBounds_toArray, List.set_cons_zero] at hB
              have HBX := Lib.hid (HBX.out.fr hF (by have := HNX.out; simp; omega)); have HT := Lib.hid (HT.out.setT hB hF); have ET := Lib.hid e17
              clear e17 hF hB
              refine wpAnyT_one (i := 10) (by as_aux_lemma => kernel_rfl) rfl (fun K hK => ?_)
              rw [if_pos (by rfl)]
              go_simp
              rw [ET.out]
              refine hK.out _ _ (fun _ => by first | trivial | exact absurd ‹_› (by simp)) ?_
              clear hK K x0 f0 ET
              simp only [Act.put, List.getElem_toArray, List.getElem_cons_zero, List.getElem_cons_succ, List.setIfInBounds_toArray, List.set_cons_zero, List.set_cons_succ]
              refine wpAnyT_done (by as_aux_lemma => kernel_rfl) ?_ _
              go_wp2_with fail
              refine ⟨⟨k + 1, by omega, by go_num, HBX.out, a14, n14, c14, a15, n15, c15, ?_⟩, by simp [intOf]; omega⟩
              rw [HPRE.out, HYS.out, List.map_append, List.map_append]
              exact HT.out.less (by simp)
        · obtain rfl : k = p := by omega
          have HQE : Hid (tells7 (xs.take j) ++ ((y.reps.take k).map fun q => (y.ssrc, q)) = tells7 (xs.take (j + 1))) := Lib.hid (by rw [tells7_at HY.out, List.take_of_length_le (l := y.reps) (by rw [HP.out]; exact Nat.le_refl _)])
          go_wp2_with fail
          refine ⟨⟨j + 1, by omega, by go_num, aw, nw, cw, at_, nt, ct, ?_⟩, by simp [intOf]; omega⟩
          rw [← HQE.out]
          exact HT.out.less (by simp)
    · obtain rfl : j = n := by omega
      have HAll : Hid (tells7 (xs.take j) = tells7 xs) := Lib.hid (by rw [List.take_of_length_le (by rw [HXN.out]; exact Nat.le_refl _)])
      rw [HAll.out, ← HTT.out] at HT
      have HTN : Hid ((telsOf l).length ≤ 320) := Lib.hid (by
        rw [HTT.out]
        unfold tlsOf
        split
        · exact HTL.out
        · simp)
      have hF := HT.out.fr
      have HM := Lib.hid (HM.out.keep hF); have HRC := Lib.hid (HRC.out.keep hF); have HB := Lib.hid (Sl.keep HB.out hF); have HF := Lib.hid (HF.out.trans hF)
      have HA := Lib.hid HT.out.ow.sl; have HC := Lib.hid HT.out.ot.sl; have HBW := Lib.hid HT.out.bw; have HBT := Lib.hid HT.out.bt
      have HAO : Hid (∀ b, liveOf (.slice aw nw cw) = some b → b < wr.heap.size) := Lib.hid (HA.out.lt Rep.src).2
      have HCO : Hid (∀ b, liveOf (.slice at_ nt ct) = some b → b < wr.heap.size) := Lib.hid (HC.out.lt Rep.rpt).2
      have HANW : Hid (∀ b, liveOf (.slice aw nw cw) = some b → w4.heap.size ≤ b) := Lib.hid (fun b hb => (HT.out.ow.block b (live_block hb)).1)
      have HCNW : Hid (∀ b, liveOf (.slice at_ nt ct) = some b → w4.heap.size ≤ b) := Lib.hid (fun b hb => (HT.out.ot.block b (live_block hb)).1)
      have HSZ4 := Lib.hid hF.size
      clear hF HT HAll hj hlt HX HXN HTL HZ HQ HM0 hn8
      obtain ⟨T, hT⟩ : ∃ T, telsOf l = T := ⟨_, rfl⟩
      rw [hT] at HA HC HTN HTT
      have HTE := Lib.hid hT
      clear hT
      have hnw : nw = T.length := by have := HA.out.len.1; rwa [List.length_map] at this
      have hnt : nt = T.length := by have := HC.out.len.1; rwa [List.length_map] at this
      subst hnw
      obtain ⟨N, hN⟩ : ∃ N, T.length = N := ⟨_, rfl⟩
      rw [hN] at hnt
      subst hnt
      rw [hN] at HA HTN HBW HAO HANW
      have HNN := Lib.hid hN
      clear hN
      obtain ⟨q, hq, hql⟩ := and63 most
      obtain ⟨M, hM⟩ : ∃ M, q + 1 = M := ⟨_, rfl⟩
      have HMM : Hid (1 ≤ M ∧ M ≤ 64) := Lib.hid (by omega)
      have hw1 : wrap64 (1 + (q : Int)) = (M : Int) := by rw [IntWalk.wrap64_in _ ⟨by omega, by omega⟩]; omega
      have x0 := HM.out.cell 0; have f0 := HM.out.free 0
      simp only [List.getElem?_toArray, List.getElem?_cons_zero, List.getElem?_cons_succ] at x0
      obtain ⟨wg, eg, hFg, hBg, -⟩ := set_new HM.out 0 (.int .i64 M)
      simp only [List.setIfInBounds_toArray, List.set_cons_zero] at hBg
      have EG := Lib.hid eg; have HMG := Lib.hid hBg
      have hlo := HLO.out; have hsz4 := HSZ4.out; have hgr := HGR.out; have hgm := HGM.out
      have HRC := Lib.hid (HRC.out.fr hFg (by simp; omega)); have HBW := Lib.hid (HBW.out.fr hFg (by simp; omega)); have HBT := Lib.hid (HBT.out.fr hFg (by simp; omega))
      have HA := Lib.hid (HA.out.fr Rep.src hFg (by simp) (fun b hb hm => by have := HANW.out b hb; simp at hm; omega)); have HC := Lib.hid (HC.out.fr Rep.rpt hFg (by simp) (fun b hb hm => by have := HCNW.out b hb; simp at hm; omega))
      have HB := Lib.hid (Sl.frL HB.out hFg (fun b hb hm => by have := HBL.out b hb; simp at hm; omega))
      have HF := Lib.hid (HF.out.step hFg (fun b hb => .inr (by simp at hb; omega)))
      have HAO := Lib.hid (fun b hb => Nat.lt_of_lt_of_le (HAO.out b hb) hFg.size); have HCO := Lib.hid (fun b hb => Nat.lt_of_lt_of_le (HCO.out b hb) hFg.size)
      obtain ⟨wh, eh, hFh, hBh, hsh⟩ := one_new wg #[.int .i64 0] 3
      have EH := Lib.hid eh; have HI := Lib.hid hBh
      have HK0 : Hid (gw < wg.heap.size ∧ gt < wg.heap.size ∧ gM < wg.heap.size ∧ gR < wg.heap.size ∧ w.heap.size ≤ wg.heap.size ∧ w4.heap.size ≤ wg.heap.size) := Lib.hid ⟨HBW.out.lt, HBT.out.lt, HMG.out.lt, HRC.out.lt, HF.out.size, Nat.le_trans hsz4 hFg.size⟩
      have HKH : Hid (wg.heap.size < wh.heap.size) := Lib.hid (by omega)
      have HMG := Lib.hid (HMG.out.keep hFh); have HRC := Lib.hid (HRC.out.keep hFh); have HBW := Lib.hid (HBW.out.keep hFh); have HBT := Lib.hid (HBT.out.keep hFh); have HA := Lib.hid (HA.out.keep Rep.src hFh); have HC := Lib.hid (HC.out.keep Rep.rpt hFh); have HB := Lib.hid (Sl.keep HB.out hFh); have HF := Lib.hid (HF.out.trans hFh)
      clear eg hFg hBg eh hFh hBh hsh hlo hsz4 hgr hgm hM hql
      go_upto_region 18 with fail
      rw [EG.out]
      clear x0 f0 EG hw1 hq
      go_upto_region 19 with fail
      rw [EH.out]
      clear EH
      obtain ⟨gi, hgi⟩ : ∃ g, wg.heap.size = g := ⟨_, rfl⟩
      rw [hgi] at HI HAO HCO HK0 HKH ⊢
      clear hgi
      go_wp2_with fail
      refine (tReports_any HB.out).mono ?_
      rintro e w12 ⟨rfl, hB12, hF⟩
      have HMG := Lib.hid (HMG.out.keep hF); have HRC := Lib.hid (HRC.out.keep hF); have HBW := Lib.hid (HBW.out.keep hF); have HBT := Lib.hid (HBT.out.keep hF); have HA := Lib.hid (HA.out.keep Rep.src hF); have HC := Lib.hid (HC.out.keep Rep.rpt hF); have HB := Lib.hid (Sl.keep HB.out hF); have HF := Lib.hid (HF.out.trans hF)
      have HI := Lib.hid (HI.out.keep hF)
      clear hF
      obtain ⟨gb, hgb⟩ : ∃ g, wh.heap.size = g := ⟨_, rfl⟩
      rw [hgb] at hB12 HKH ⊢
      have HBB := Lib.hid hB12
      clear hgb hB12
      go_wp2_with fail
      have hlt12 := HI.out.lt
      have HXX : Hid (∀ p ∈ [(gi, 0)], p.1 < w12.heap.size) := Lib.hid (by simp; omega)
      have HLow : Hid (Low [(gi, 0)] w12) := Lib.hid (fun p hp v b hv hb => by
        simp at hp
        subst hp
        have h9 := HI.out.cell 0
        simp only [List.getElem?_toArray, List.getElem?_cons_zero] at h9
        rw [h9] at hv
        cases hv
        simp [blockOf] at hb)
      have hseq := tReports1_seq (w := w12) 7 (by omega) gb [(gi, 0)] HXX.out HBB.out HB.out
      rw [HTE.out] at hseq
      have HSEQ := Lib.hid hseq
      have HXF : Hid (gi < w12.heap.size) := Lib.hid hlt12
      clear hseq hlt12 HTE
      refine (wpIn_wide (n := 8)).1 ?_
      refine wpIn_rangeBrkB rfl (by omega) (gf := 45) (lb := #[.pointer (some ⟨gb, 0, none⟩)]) rfl trivial (enters_of Try.func45 (by kernel_rfl) rfl) HSEQ.out (Below.refl _ _) (fun _ => rfl) HXX.out HLow.out
        (fun pre W => Rp7 w12 w12.heap.size gi pre.length W ∧ pre.length < M)
        (fun id pre W => Rp7 w12 w12.heap.size gi pre.length W ∧ (id = 4 ∧ pre.length = M))
        (Rp7.abx (P := fun pre => pre.length < M) HXF.out (Nat.le_refl _)) (fun id => Rp7.abx (P := fun pre => id = 4 ∧ pre.length = M) HXF.out (Nat.le_refl _)) ⟨⟨HI.out, (Fr.refl _ _).any, Nat.le_refl _⟩, HMM.out.1⟩ 57 (fun p => rpc7 p.2)
        ?round ?done ?stop
      case round =>
        intro x
        apply Exists.intro
        refine ⟨?asg, ?bdy⟩
        case asg =>
          intro l' W' K hK
          obtain ⟨W1, e1, hF1, hB1, hs1⟩ := one_new W' (rpc7 x.2) 57
          have h9 := hK W'.heap.size W1 hB1 hF1
          have HE1 := Lib.hid e1
          have H9 := Lib.hid h9
          clear hK e1 hF1 hB1 hs1 h9
          gi_wp2
          rw [HE1.out]
          have h9 := H9.out
          clear H9 HE1
          revert h9
          generalize W'.heap.size = g
          intro h9
          exact h9
        case bdy =>
          rintro l' pre g W' hl' hpre ⟨⟨hbx, hfr, hsz⟩, hlt⟩ hlw hsz2 hbg
          obtain ⟨k, hk⟩ : ∃ k, pre.length = k := ⟨_, rfl⟩
          rw [hk] at hbx hlt
          have hTk : T[k]? = some x := by
            obtain ⟨tl, htl⟩ := hpre
            rw [← htl, ← hk]
            simp
          have hkN : k < nt := by
            have := (List.getElem?_eq_some_iff.1 hTk).1
            rwa [HNN.out] at this
          have hk0 := HK0.out
          have HBWx := Lib.hid (HBW.out.fr hfr (by simp; omega)); have HBTx := Lib.hid (HBT.out.fr hfr (by simp; omega)); have HMx := Lib.hid (HMG.out.fr hfr (by simp; omega))
          have hA := HA.out.fr Rep.src hfr (by simp) (fun b hb hm => by have := HAO.out b hb; simp at hm; omega)
          have hC := HC.out.fr Rep.rpt hfr (by simp) (fun b hb hm => by have := HCO.out b hb; simp at hm; omega)
          obtain ⟨b1, o1, k1, y1, B3, ea, -, hy1, ⟨rfl, -⟩, -, hrg1⟩ := hA.at_ Rep.src (i := k) hkN
          obtain ⟨b2, o2, k2, y2, B4, eb, -, hy2, ⟨rfl, -⟩, -, hrg2⟩ := hC.at_ Rep.rpt (i := k) hkN
          obtain rfl : y1 = x.1 := by rw [List.getElem?_map, hTk] at hy1; exact (Option.some.inj hy1).symm
          obtain rfl : y2 = x.2 := by rw [List.getElem?_map, hTk] at hy2; exact (Option.some.inj hy2).symm
          subst ea eb
          have HRG1 := Lib.hid hrg1; have HRG2 := Lib.hid hrg2; have HIx := Lib.hid hbx; have HIW := Lib.hid hbx; have HBG := Lib.hid hbg; have HFR := Lib.hid hfr; have HSZ := Lib.hid hsz; have HK := Lib.hid hk; have HSB := Lib.hid hsz2
          have HLT := Lib.hid hlt
          have d1 : decide ((nt : Int) ≤ (k : Int)) = false := decide_eq_false (by omega)
          have d2 : decide (nt ≤ k) = false := decide_eq_false (by omega)
          clear hA hC hy1 hy2 hrg1 hrg2 hbx hbg hfr hsz hk hsz2 hlw hl' hpre hTk hlt hk0 HSEQ HLow HXX HBB HNN
          refine wpIn_block ?_
          refine wpIn_seq_k fun K1 hK1 => ?_
          refine wpIn_seq_k fun K2 hK2 => ?_
          refine wpIn_round_T (fun w' => Fr [] W'.drew w') [] 20 #[false, false, false, false, false, false, false, false, false, false, false, false, false, false, false, false, false, false, false, false] (by as_aux_lemma => kernel_rfl) (by as_aux_lemma => kernel_rfl) (by rintro ⟨_, _, h⟩; exact h) rfl rfl ?_
          have hF := (Fr.refl [] W').drew
          have HIx := Lib.hid (HIx.out.keep hF); have HBG := Lib.hid (HBG.out.keep hF); have HBWx := Lib.hid (HBWx.out.keep hF); have HBTx := Lib.hid (HBTx.out.keep hF); have HMx := Lib.hid (HMx.out.keep hF)
          have HRG1 := Lib.hid (fr_rng hF HRG1.out); have HRG2 := Lib.hid (fr_rng hF HRG2.out); have HFW := Lib.hid hF
          clear hF
          have HSS : Hid (Fr [] W'.drew W'.drew) := Lib.hid (Fr.refl _ _)
          generalize W'.drew = wq at *
          refine wpAnyT_load (i := 0) (v := ?_) rfl (by as_aux_lemma => kernel_rfl) (by as_aux_lemma => kernel_rfl) (by as_aux_lemma => kernel_rfl) (by as_aux_lemma => kernel_rfl) (by as_aux_lemma => kernel_rfl) (fun _ _ _ h => h) HSS.out (by rfl) ?_ ?_
          rotate_left
          · intro w hSw; have c := (HIx.out.keep hSw).cell 0; simp only [List.getElem?_toArray, List.getElem?_cons_zero, List.getElem?_cons_succ] at c; go_simp; try with_reducible rfl
          simp only [Act.put, List.getElem_toArray, List.getElem_cons_zero, List.getElem_cons_succ, List.setIfInBounds_toArray, List.set_cons_zero, List.set_cons_succ]
          refine wpAnyT_load (i := 1) (v := ?_) rfl (by as_aux_lemma => kernel_rfl) (by as_aux_lemma => kernel_rfl) (by as_aux_lemma => kernel_rfl) (by as_aux_lemma => kernel_rfl) (by as_aux_lemma => kernel_rfl) (fun _ _ _ h => h) HSS.out (by rfl) ?_ ?_
          rotate_left
          · intro w hSw; have c := (HBTx.out.keep hSw).cell 0; simp only [List.getElem?_toArray, List.getElem?_cons_zero, List.getElem?_cons_succ] at c; go_simp; try with_reducible rfl
          simp only [Act.put, List.getElem_toArray, List.getElem_cons_zero, List.getElem_cons_succ, List.setIfInBounds_toArray, List.set_cons_zero, List.set_cons_succ]
          refine wpAnyT_load (i := 2) (v := ?_) rfl (by as_aux_lemma => kernel_rfl) (by as_aux_lemma => kernel_rfl) (by as_aux_lemma => kernel_rfl) (by as_aux_lemma => kernel_rfl) (by as_aux_lemma => kernel_rfl) (fun _ _ _ h => h) HSS.out (by rfl) ?_ ?_
          rotate_left
          · intro w hSw; skip; go_simp; try with_reducible rfl
          simp only [Act.put, List.getElem_toArray, List.getElem_cons_zero, List.getElem_cons_succ, List.setIfInBounds_toArray, List.set_cons_zero, List.set_cons_succ]
          refine wpAnyT_load (i := 3) (v := ?_) rfl (by as_aux_lemma => kernel_rfl) (by as_aux_lemma => kernel_rfl) (by as_aux_lemma => kernel_rfl) (by as_aux_lemma => kernel_rfl) (by as_aux_lemma => kernel_rfl) (fun _ _ _ h => h) HSS.out (by rfl) ?_ ?_
          rotate_left
          · intro w hSw; skip; go_simp; try with_reducible rfl
          simp only [Act.put, List.getElem_toArray, List.getElem_cons_zero, List.getElem_cons_succ, List.setIfInBounds_toArray, List.set_cons_zero, List.set_cons_succ]
          refine wpAnyT_load (i := 4) (v := ?_) rfl (by as_aux_lemma => kernel_rfl) (by as_aux_lemma => kernel_rfl) (by as_aux_lemma => kernel_rfl) (by as_aux_lemma => kernel_rfl) (by as_aux_lemma => kernel_rfl) (fun _ _ _ h => h) HSS.out (by rfl) ?_ ?_
          rotate_left
          · intro w hSw; skip; go_simp; try with_reducible rfl
          simp only [Act.put, List.getElem_toArray, List.getElem_cons_zero, List.getElem_cons_succ, List.setIfInBounds_toArray, List.set_cons_zero, List.set_cons_succ]
          refine wpAnyT_load (i := 5) (v := ?_) rfl (by as_aux_lemma => kernel_rfl) (by as_aux_lemma => kernel_rfl) (by as_aux_lemma => kernel_rfl) (by as_aux_lemma => kernel_rfl) (by as_aux_lemma => kernel_rfl) (fun _ _ _ h => h) HSS.out (by rfl) ?_ ?_
          rotate_left
          · intro w hSw; have c := (HBWx.out.keep hSw).cell 0; simp only [List.getElem?_toArray, List.getElem?_cons_zero, List.getElem?_cons_succ] at c; go_simp; try with_reducible rfl
          simp only [Act.put, List.getElem_toArray, List.getElem_cons_zero, List.getElem_cons_succ, List.setIfInBounds_toArray, List.set_cons_zero, List.set_cons_succ]
          refine wpAnyT_load (i := 6) (v := ?_) rfl (by as_aux_lemma => kernel_rfl) (by as_aux_lemma => kernel_rfl) (by as_aux_lemma => kernel_rfl) (by as_aux_lemma => kernel_rfl) (by as_aux_lemma => kernel_rfl) (fun _ _ _ h => h) HSS.out (by rfl) ?_ ?_
          rotate_left
          · intro w hSw; have c := (HIx.out.keep hSw).cell 0; simp only [List.getElem?_toArray, List.getElem?_cons_zero, List.getElem?_cons_succ] at c; go_simp; try with_reducible rfl
          simp only [Act.put, List.getElem_toArray, List.getElem_cons_zero, List.getElem_cons_succ, List.setIfInBounds_toArray, List.set_cons_zero, List.set_cons_succ]
          refine wpAnyT_load (i := 7) (v := ?_) rfl (by as_aux_lemma => kernel_rfl) (by as_aux_lemma => kernel_rfl) (by as_aux_lemma => kernel_rfl) (by as_aux_lemma => kernel_rfl) (by as_aux_lemma => kernel_rfl) (fun _ _ _ h => h) HSS.out (by rfl) ?_ ?_
          rotate_left
          · intro w hSw; skip; go_simp; try with_reducible rfl
          simp only [Act.put, List.getElem_toArray, List.getElem_cons_zero, List.getElem_cons_succ, List.setIfInBounds_toArray, List.set_cons_zero, List.set_cons_succ]
          refine wpAnyT_load (i := 8) (v := ?_) rfl (by as_aux_lemma => kernel_rfl) (by as_aux_lemma => kernel_rfl) (by as_aux_lemma => kernel_rfl) (by as_aux_lemma => kernel_rfl) (by as_aux_lemma => kernel_rfl) (fun _ _ _ h => h) HSS.out (by rfl) ?_ ?_
          rotate_left
          · intro w hSw; have c : w.cell? ⟨b1, o1 + k, none⟩ = some (.int .u32 (x.1.toNat : Nat)) := (by have := hSw.cellSome (HRG1.out 0 _ rfl) (by simp); simpa using this); go_simp; try with_reducible rfl
          simp only [Act.put, List.getElem_toArray, List.getElem_cons_zero, List.getElem_cons_succ, List.setIfInBounds_toArray, List.set_cons_zero, List.set_cons_succ]
          refine wpAnyT_load (i := 9) (v := ?_) rfl (by as_aux_lemma => kernel_rfl) (by as_aux_lemma => kernel_rfl) (by as_aux_lemma => kernel_rfl) (by as_aux_lemma => kernel_rfl) (by as_aux_lemma => kernel_rfl) (fun _ _ _ h => h) HSS.out (by rfl) ?_ ?_
          rotate_left
          · intro w hSw; skip; go_simp; try with_reducible rfl
          simp only [Act.put, List.getElem_toArray, List.getElem_cons_zero, List.getElem_cons_succ, List.setIfInBounds_toArray, List.set_cons_zero, List.set_cons_succ]
          refine wpAnyT_load (i := 10) (v := ?_) rfl (by as_aux_lemma => kernel_rfl) (by as_aux_lemma => kernel_rfl) (by as_aux_lemma => kernel_rfl) (by as_aux_lemma => kernel_rfl) (by as_aux_lemma => kernel_rfl) (fun _ _ _ h => h) HSS.out (by rfl) ?_ ?_
          rotate_left
          · intro w hSw; skip; go_simp; try with_reducible rfl
          simp only [Act.put, List.getElem_toArray, List.getElem_cons_zero, List.getElem_cons_succ, List.setIfInBounds_toArray, List.set_cons_zero, List.set_cons_succ]
          refine wpAnyT_load (i := 11) (v := ?_) rfl (by as_aux_lemma => kernel_rfl) (by as_aux_lemma => kernel_rfl) (by as_aux_lemma => kernel_rfl) (by as_aux_lemma => kernel_rfl) (by as_aux_lemma => kernel_rfl) (fun _ _ _ h => h) HSS.out (by rfl) ?_ ?_
          rotate_left
          · intro w hSw; skip; go_simp; try with_reducible rfl
          simp only [Act.put, List.getElem_toArray, List.getElem_cons_zero, List.getElem_cons_succ, List.setIfInBounds_toArray, List.set_cons_zero, List.set_cons_succ]
          refine wpAnyT_load (i := 12) (v := ?_) rfl (by as_aux_lemma => kernel_rfl) (by as_aux_lemma => kernel_rfl) (by as_aux_lemma => kernel_rfl) (by as_aux_lemma => kernel_rfl) (by as_aux_lemma => kernel_rfl) (fun _ _ _ h => h) HSS.out (by rfl) ?_ ?_
          rotate_left
          · intro w hSw; skip; go_simp; try with_reducible rfl
          simp only [Act.put, List.getElem_toArray, List.getElem_cons_zero, List.getElem_cons_succ, List.setIfInBounds_toArray, List.set_cons_zero, List.set_cons_succ]
          refine wpAnyT_load (i := 13) (v := ?_) rfl (by as_aux_lemma => kernel_rfl) (by as_aux_lemma => kernel_rfl) (by as_aux_lemma => kernel_rfl) (by as_aux_lemma => kernel_rfl) (by as_aux_lemma => kernel_rfl) (fun _ _ _ h => h) HSS.out (by rfl) ?_ ?_
          rotate_left
          · intro w hSw; have c := (HBTx.out.keep hSw).cell 0; simp only [List.getElem?_toArray, List.getElem?_cons_zero, List.getElem?_cons_succ] at c; go_simp; try with_reducible rfl
          simp only [Act.put, List.getElem_toArray, List.getElem_cons_zero, List.getElem_cons_succ, List.setIfInBounds_toArray, List.set_cons_zero, List.set_cons_succ]
          refine wpAnyT_load (i := 14) (v := ?_) rfl (by as_aux_lemma => kernel_rfl) (by as_aux_lemma => kernel_rfl) (by as_aux_lemma => kernel_rfl) (by as_aux_lemma => kernel_rfl) (by as_aux_lemma => kernel_rfl) (fun _ _ _ h => h) HSS.out (by rfl) ?_ ?_
          rotate_left
          · intro w hSw; have c := (HIx.out.keep hSw).cell 0; simp only [List.getElem?_toArray, List.getElem?_cons_zero, List.getElem?_cons_succ] at c; go_simp; try with_reducible rfl
          simp only [Act.put, List.getElem_toArray, List.getElem_cons_zero, List.getElem_cons_succ, List.setIfInBounds_toArray, List.set_cons_zero, List.set_cons_succ]
          refine wpAnyT_load (i := 15) (v := ?_) rfl (by as_aux_lemma => kernel_rfl) (by as_aux_lemma => kernel_rfl) (by as_aux_lemma => kernel_rfl) (by as_aux_lemma => kernel_rfl) (by as_aux_lemma => kernel_rfl) (fun _ _ _ h => h) HSS.out (by rfl) ?_ ?_
          rotate_left
          · intro w hSw; skip; go_simp; try with_reducible rfl
          simp only [Act.put, List.getElem_toArray, List.getElem_cons_zero, List.getElem_cons_succ, List.setIfInBounds_toArray, List.set_cons_zero, List.set_cons_succ]
          refine wpAnyT_load (i := 16) (v := ?_) rfl (by as_aux_lemma => kernel_rfl) (by as_aux_lemma => kernel_rfl) (by as_aux_lemma => kernel_rfl) (by as_aux_lemma => kernel_rfl) (by as_aux_lemma => kernel_rfl) (fun _ _ _ h => h) HSS.out (by rfl) ?_ ?_
          rotate_left
          · intro w' hSw; refine run_load_mid_op 57 (.tmp 80) ?_ b2 (o2 + k * 7) ?_ (rpc7 x.2) _ (fr_rng hSw HRG2.out) Try.underlying57 rfl (by as_aux_lemma => kernel_rfl) <;> rfl
          simp only [Act.put, List.getElem_toArray, List.getElem_cons_zero, List.getElem_cons_succ, List.setIfInBounds_toArray, List.set_cons_zero, List.set_cons_succ]
          refine wpAnyT_load (i := 17) (v := ?_) rfl (by as_aux_lemma => kernel_rfl) (by as_aux_lemma => kernel_rfl) (by as_aux_lemma => kernel_rfl) (by as_aux_lemma => kernel_rfl) (by as_aux_lemma => kernel_rfl) (fun _ _ _ h => h) HSS.out (by rfl) ?_ ?_
          rotate_left
          · intro w' hSw; refine run_load_row 57 (.tmp 17) ?_ g ?_ 57 _ _ (HBG.out.keep hSw) Try.underlying57 rfl (by as_aux_lemma => kernel_rfl) <;> rfl
          simp only [Act.put, List.getElem_toArray, List.getElem_cons_zero, List.getElem_cons_succ, List.setIfInBounds_toArray, List.set_cons_zero, List.set_cons_succ]
          refine wpAnyT_load (i := 18) (v := ?_) rfl (by as_aux_lemma => kernel_rfl) (by as_aux_lemma => kernel_rfl) (by as_aux_lemma => kernel_rfl) (by as_aux_lemma => kernel_rfl) (by as_aux_lemma => kernel_rfl) (fun _ _ _ h => h) HSS.out (by rfl) ?_ ?_
          rotate_left
          · intro w hSw; skip; go_simp; try with_reducible rfl
          simp only [Act.put, List.getElem_toArray, List.getElem_cons_zero, List.getElem_cons_succ, List.setIfInBounds_toArray, List.set_cons_zero, List.set_cons_succ]
          refine wpAnyT_load (i := 19) (v := ?_) rfl (by as_aux_lemma => kernel_rfl) (by as_aux_lemma => kernel_rfl) (by as_aux_lemma => kernel_rfl) (by as_aux_lemma => kernel_rfl) (by as_aux_lemma => kernel_rfl) (fun _ _ _ h => h) HSS.out (by rfl) ?_ ?_
          rotate_left
          · intro w hSw; skip; go_simp; try with_reducible rfl
          simp only [Act.put, List.getElem_toArray, List.getElem_cons_zero, List.getElem_cons_succ, List.setIfInBounds_toArray, List.set_cons_zero, List.set_cons_succ]
          refine wpAnyT_done (by kernel_rfl) ?_ _
          clear d1 d2 HSS HBWx HBTx HRG1 HRG2 HBG
          obtain ⟨kk, hkk⟩ : ∃ kk, k + 1 = kk := ⟨_, rfl⟩
          have hw1 : wrap64 ((k : Int) + 1) = (kk : Int) := by have := HTN.out; rw [IntWalk.wrap64_in _ ⟨by omega, by omega⟩]; omega
          have HKK := Lib.hid hkk
          have x0 := HIx.out.cell 0; have f0 := HIx.out.free 0
          simp only [List.getElem?_toArray, List.getElem?_cons_zero, List.getElem?_cons_succ] at x0
          obtain ⟨w30, e30, hF30, hB30, -⟩ := set_new HIx.out 0 (.int .i64 kk)
          simp only [List.setIfInBounds_toArray, List.set_cons_zero] at hB30
          have m0 := (HMx.out.fr hF30 (by have := HK0.out; simp; omega)).cell 0
          have i0 := hB30.cell 0
          simp only [List.getElem?_toArray, List.getElem?_cons_zero, List.getElem?_cons_succ] at m0 i0
          have HB30 := Lib.hid hB30; have HF30 := Lib.hid hF30
          clear hkk hF30 hB30
          have KEY : Hid (Kx [(gi, 0)] W' w30 ∧ Rp7 w12 w12.heap.size gi kk w30) := Lib.hid (by
            have hF := HFW.out.any.trans HF30.out
            refine ⟨Kx.body2 hF ?_ ?_, HB30.out, HFR.out.trans hF, by have := hF.size; have := HSZ.out; omega⟩
            · intro gb' hg
              have hg' : gb' = gi := by simpa using hg
              rw [hg']
              refine .inr ⟨fun h => (h (gi, 0) (by simp)).1 rfl, ?_⟩
              exact ⟨_, HIW.out, rfl⟩
            · intro q hq v b hv hb
              simp at hq
              subst hq
              have := HB30.out.cell 0
              simp only [List.getElem?_toArray, List.getElem?_cons_zero] at this
              rw [this] at hv
              cases hv
              simp [blockOf] at hb)
          refine hK2 _ _ ?_
          by_cases hkm : kk = M
          · have e1 : ((kk : Int) == (M : Int)) = true := beq_iff_eq.2 (by omega)
            have e2 : (kk == M) = true := beq_iff_eq.2 hkm
            have HKM := Lib.hid hkm
            clear hkm
            gi_wp2
            refine ⟨KEY.out.1, ?_, rfl, ?_⟩
            · rw [List.length_append, List.length_singleton, HK.out, HKK.out]; exact KEY.out.2
            · rw [List.length_append, List.length_singleton, HK.out, HKK.out]; exact HKM.out
          · have e1 : ((kk : Int) == (M : Int)) = false := beq_eq_false_iff_ne.2 (by omega)
            have e2 : (kk == M) = false := beq_eq_false_iff_ne.2 hkm
            have HKM : Hid (kk < M) := Lib.hid (by have := HKK.out; have := HLT.out; omega)
            clear hkm
            gi_wp2
            refine ⟨KEY.out.1, ?_, ?_⟩
            · rw [List.length_append, List.length_singleton, HK.out, HKK.out]; exact KEY.out.2
            · rw [List.length_append, List.length_singleton, HK.out, HKK.out]; exact HKM.out
      case done =>
        rintro D W hD ⟨⟨hbx, hfr, hsz⟩, hlt⟩ hKx hDk
        rw [HNN.out] at hbx hlt
        obtain ⟨K, hK⟩ : ∃ K, nt = K := ⟨_, rfl⟩
        have HKQ : Hid (K = min M nt) := Lib.hid (by omega)
        rw [hK] at hbx
        clear hK hlt hKx
        have hk0 := HK0.out; have hgr := HGR.out
        have HIx := Lib.hid hbx; have HM2 := Lib.hid (HMG.out.fr hfr (by simp; omega)); have HBT2 := Lib.hid (HBT.out.fr hfr (by simp; omega)); have HRC := Lib.hid (HRC.out.fr hfr (by simp; omega))
        have HB := Lib.hid (Sl.frL HB.out hfr (fun b hb hm => by have := HBLT.out b hb; simp at hm; omega))
        have HF := Lib.hid (HF.out.step hfr (fun b hb => .inr (by simp at hb; omega)))
        have HDK := Lib.hid hDk; have HD : Hid (w.heap.size ≤ D ∧ gR < D) := Lib.hid (by have := HXF.out; omega)
        have i0 := HIx.out.cell 0; have m0 := HM2.out.cell 0; have t0 := HBT2.out.cell 0
        simp only [List.getElem?_toArray, List.getElem?_cons_zero, List.getElem?_cons_succ] at i0 m0 t0
        have hmm := HMM.out; have htn := HTN.out
        clear hbx hfr hsz hDk hk0 hD hgr HSEQ HLow HXX HBB
        go_upto_region 26 with fail
        have hne : ((K : Int) != min (M : Int) (nt : Int)) = false := by rw [bne_eq_false_iff_eq]; have := HKQ.out; omega
        by_cases hm0 : m = 0
        · have q1 : ((m : Int) == 0) = true := beq_iff_eq.2 (by omega)
          have q2 : (m == 0) = true := beq_iff_eq.2 hm0
          clear hm0
          have r0 := HRC.out.cell 0; have rf := HRC.out.free 0
          simp only [List.getElem?_toArray, List.getElem?_cons_zero, List.getElem?_cons_succ] at r0
          obtain ⟨wo, eo, hFo, hBo, -⟩ := set_new HRC.out 0 (.bool true)
          simp only [List.setIfInBounds_toArray, List.set_cons_zero] at hBo
          have EO := Lib.hid eo; have HBO := Lib.hid hBo; have HFO := Lib.hid hFo
          clear eo hFo hBo
          go_wp2_with fail
          rw [EO.out]
          refine ret_mark_cell rfl rfl Try.underlying4 rfl ((HFO.out.block D (Array.getElem?_eq_some_iff.1 HDK.out).1 (by have := HD.out; simp; omega)).trans HDK.out) HBO.out (by have := HD.out; omega) (fun w' hFD => ⟨rfl, (HF.out.step HFO.out (fun b hb => .inr (by have := HGR.out; simp at hb; omega))).step hFD (fun b hb => .inr (by have := HD.out; simp at hb; omega))⟩)
        have q1 : ((m : Int) == 0) = false := beq_eq_false_iff_ne.2 (by omega)
        have q2 : (m == 0) = false := beq_eq_false_iff_ne.2 hm0
        obtain ⟨ys, hys⟩ := HPR.out (by omega)
        have HYS := Lib.hid hys
        have hml := HLL.out
        go_upto_region 30 with fail
        clear i0 m0 t0 hne q1 q2 hmm htn hys
        obtain ⟨cq, hcq, hcl⟩ := and4095' cut
        have hnm : (m : Int) ≠ 0 := by omega
        have hrm : Int.tmod (cq : Int) (m : Int) = ((cq % m : Nat) : Int) := (Int.ofNat_tmod cq m).symm
        have hrm2 : (cq : Int) % (m : Int) = ((cq % m : Nat) : Int) := (Int.natCast_emod cq m).symm
        have hclt : cq % m < m := Nat.mod_lt _ (by omega)
        have hw1 : IntKind.i64.wrap ((cq % m : Nat) : Int) = ((cq % m : Nat) : Int) := by rw [IntWalk.i64_in _ (by omega)]
        generalize hcc : cq % m = c2 at *
        clear hcc
        have hcu : m ≤ cu := by have := (Sl.len HB.out).2.1; simpa using this
        have hccu : c2 ≤ cu := by omega
        go_wp2_with fail
        have hcut := Sl.pre HB.out c2 cu (by omega) hccu (Nat.le_refl _)
        rw [← List.map_take] at hcut
        have HPC := Lib.hid (parse7_cut HYS.out (c := c2) (by have := HML.out; omega))
        clear hrm hrm2 hnm hw1 hcq hcl
        refine (tParse_any hcut).mono ?_
        rintro e w6 hps
        have hps : ∃ (u : Value) (r2 : Int), e = .returned (.tuple #[u, .int .i64 r2]) ∧ Fr [] W w6 ∧ (r2 = 0 ∨ r2 = 20 ∨ (r2 = 4 ∧ c2 = 0)) := by
          have hpc := HPC.out
          rcases hps with ⟨zs, u, B, hp, rfl, -, -, hF⟩ | ⟨c, hp, -, rfl, hF⟩
          · exact ⟨_, 0, rfl, hF, .inl rfl⟩
          · refine ⟨_, c, rfl, hF, ?_⟩
            rw [hp] at hpc
            rcases hpc with ⟨zs, h⟩ | h | ⟨h1, h⟩
            · cases h
            · cases h; exact .inr (.inl rfl)
            · cases h; exact .inr (.inr ⟨rfl, h1⟩)
        obtain ⟨u2, r2, rfl, hF, hr2⟩ := hps
        have HRC := Lib.hid (HRC.out.keep hF); have HF := Lib.hid (HF.out.trans hF); have HDK := Lib.hid ((hF.block D (Array.getElem?_eq_some_iff.1 HDK.out).1 (by simp)).trans HDK.out)
        clear hF hcut hclt hcu hccu HPC hml
        rcases hr2 with rfl | rfl | ⟨rfl, rfl⟩
        all_goals
          have r0 := HRC.out.cell 0; have rf := HRC.out.free 0
          simp only [List.getElem?_toArray, List.getElem?_cons_zero, List.getElem?_cons_succ] at r0
          obtain ⟨wo, eo, hFo, hBo, -⟩ := set_new HRC.out 0 (.bool true)
          simp only [List.setIfInBounds_toArray, List.set_cons_zero] at hBo
          have EO := Lib.hid eo; have HBO := Lib.hid hBo; have HFO := Lib.hid hFo
          clear eo hFo hBo
          go_wp2_with fail
          rw [EO.out]
          refine ret_mark_cell rfl rfl Try.underlying4 rfl ((HFO.out.block D (Array.getElem?_eq_some_iff.1 HDK.out).1 (by have := HD.out; simp; omega)).trans HDK.out) HBO.out (by have := HD.out; omega) (fun w' hFD => ⟨rfl, (HF.out.step HFO.out (fun b hb => .inr (by have := HGR.out; simp at hb; omega))).step hFD (fun b hb => .inr (by have := HD.out; simp at hb; omega))⟩)
      case stop =>
        rintro D id pre W hD hpre ⟨⟨hbx, hfr, hsz⟩, rfl, hlt⟩ hDk
        have hpl := hpre.length_le
        rw [HNN.out] at hpl
        obtain ⟨K, hK⟩ : ∃ K, pre.length = K := ⟨_, rfl⟩
        rw [hK] at hbx
        have HKQ : Hid (K = min M nt) := Lib.hid (by omega)
        clear hK hlt hpl hpre
        refine wpIn_wide.2 ?_
        have hk0 := HK0.out; have hgr := HGR.out
        have HIx := Lib.hid hbx; have HM2 := Lib.hid (HMG.out.fr hfr (by simp; omega)); have HBT2 := Lib.hid (HBT.out.fr hfr (by simp; omega)); have HRC := Lib.hid (HRC.out.fr hfr (by simp; omega))
        have HB := Lib.hid (Sl.frL HB.out hfr (fun b hb hm => by have := HBLT.out b hb; simp at hm; omega))
        have HF := Lib.hid (HF.out.step hfr (fun b hb => .inr (by simp at hb; omega)))
        have HDK := Lib.hid hDk; have HD : Hid (w.heap.size ≤ D ∧ gR < D) := Lib.hid (by have := HXF.out; omega)
        have i0 := HIx.out.cell 0; have m0 := HM2.out.cell 0; have t0 := HBT2.out.cell 0
        simp only [List.getElem?_toArray, List.getElem?_cons_zero, List.getElem?_cons_succ] at i0 m0 t0
        have hmm := HMM.out; have htn := HTN.out
        clear hbx hfr hsz hDk hk0 hD hgr HSEQ HLow HXX HBB
        go_upto_region 26 with fail
        have hne : ((K : Int) != min (M : Int) (nt : Int)) = false := by rw [bne_eq_false_iff_eq]; have := HKQ.out; omega
        by_cases hm0 : m = 0
        · have q1 : ((m : Int) == 0) = true := beq_iff_eq.2 (by omega)
          have q2 : (m == 0) = true := beq_iff_eq.2 hm0
          clear hm0
          have r0 := HRC.out.cell 0; have rf := HRC.out.free 0
          simp only [List.getElem?_toArray, List.getElem?_cons_zero, List.getElem?_cons_succ] at r0
          obtain ⟨wo, eo, hFo, hBo, -⟩ := set_new HRC.out 0 (.bool true)
          simp only [List.setIfInBounds_toArray, List.set_cons_zero] at hBo
          have EO := Lib.hid eo; have HBO := Lib.hid hBo; have HFO := Lib.hid hFo
          clear eo hFo hBo
          go_wp2_with fail
          rw [EO.out]
          refine ret_mark_cell rfl rfl Try.underlying4 rfl ((HFO.out.block D (Array.getElem?_eq_some_iff.1 HDK.out).1 (by have := HD.out; simp; omega)).trans HDK.out) HBO.out (by have := HD.out; omega) (fun w' hFD => ⟨rfl, (HF.out.step HFO.out (fun b hb => .inr (by have := HGR.out; simp at hb; omega))).step hFD (fun b hb => .inr (by have := HD.out; simp at hb; omega))⟩)
        have q1 : ((m : Int) == 0) = false := beq_eq_false_iff_ne.2 (by omega)
        have q2 : (m == 0) = false := beq_eq_false_iff_ne.2 hm0
        obtain ⟨ys, hys⟩ := HPR.out (by omega)
        have HYS := Lib.hid hys
        have hml := HLL.out
        go_upto_region 30 with fail
        clear i0 m0 t0 hne q1 q2 hmm htn hys
        obtain ⟨cq, hcq, hcl⟩ := and4095' cut
        have hnm : (m : Int) ≠ 0 := by omega
        have hrm : Int.tmod (cq : Int) (m : Int) = ((cq % m : Nat) : Int) := (Int.ofNat_tmod cq m).symm
        have hrm2 : (cq : Int) % (m : Int) = ((cq % m : Nat) : Int) := (Int.natCast_emod cq m).symm
        have hclt : cq % m < m := Nat.mod_lt _ (by omega)
        have hw1 : IntKind.i64.wrap ((cq % m : Nat) : Int) = ((cq % m : Nat) : Int) := by rw [IntWalk.i64_in _ (by omega)]
        generalize hcc : cq % m = c2 at *
        clear hcc
        have hcu : m ≤ cu := by have := (Sl.len HB.out).2.1; simpa using this
        have hccu : c2 ≤ cu := by omega
        go_wp2_with fail
        have hcut := Sl.pre HB.out c2 cu (by omega) hccu (Nat.le_refl _)
        rw [← List.map_take] at hcut
        have HPC := Lib.hid (parse7_cut HYS.out (c := c2) (by have := HML.out; omega))
        clear hrm hrm2 hnm hw1 hcq hcl
        refine (tParse_any hcut).mono ?_
        rintro e w6 hps
        have hps : ∃ (u : Value) (r2 : Int), e = .returned (.tuple #[u, .int .i64 r2]) ∧ Fr [] W w6 ∧ (r2 = 0 ∨ r2 = 20 ∨ (r2 = 4 ∧ c2 = 0)) := by
          have hpc := HPC.out
          rcases hps with ⟨zs, u, B, hp, rfl, -, -, hF⟩ | ⟨c, hp, -, rfl, hF⟩
          · exact ⟨_, 0, rfl, hF, .inl rfl⟩
          · refine ⟨_, c, rfl, hF, ?_⟩
            rw [hp] at hpc
            rcases hpc with ⟨zs, h⟩ | h | ⟨h1, h⟩
            · cases h
            · cases h; exact .inr (.inl rfl)
            · cases h; exact .inr (.inr ⟨rfl, h1⟩)
        obtain ⟨u2, r2, rfl, hF, hr2⟩ := hps
        have HRC := Lib.hid (HRC.out.keep hF); have HF := Lib.hid (HF.out.trans hF); have HDK := Lib.hid ((hF.block D (Array.getElem?_eq_some_iff.1 HDK.out).1 (by simp)).trans HDK.out)
        clear hF hcut hclt hcu hccu HPC hml
        rcases hr2 with rfl | rfl | ⟨rfl, rfl⟩
        all_goals
          have r0 := HRC.out.cell 0; have rf := HRC.out.free 0
          simp only [List.getElem?_toArray, List.getElem?_cons_zero, List.getElem?_cons_succ] at r0
          obtain ⟨wo, eo, hFo, hBo, -⟩ := set_new HRC.out 0 (.bool true)
          simp only [List.setIfInBounds_toArray, List.set_cons_zero] at hBo
          have EO := Lib.hid eo; have HBO := Lib.hid hBo; have HFO := Lib.hid hFo
          clear eo hFo hBo
          go_wp2_with fail
          rw [EO.out]
          refine ret_mark_cell rfl rfl Try.underlying4 rfl ((HFO.out.block D (Array.getElem?_eq_some_iff.1 HDK.out).1 (by have := HD.out; simp; omega)).trans HDK.out) HBO.out (by have := HD.out; omega) (fun w' hFD => ⟨rfl, (HF.out.step HFO.out (fun b hb => .inr (by have := HGR.out; simp at hb; omega))).step hFD (fun b hb => .inr (by have := HD.out; simp at hb; omega))⟩)
end Go.Proofs.Ytcmpjkopdjncdaa
