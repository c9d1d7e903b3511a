import Derived.Test.YtcmpjkopdjncdaaMw38
import Derived.Test.YtcmpjkopdjncdaaMw17
import Derived.Test.YtcmpjkopdjncdaaMw40
import Derived.Test.YtcmpjkopdjncdaaMw37
import Derived.Test.YtcmpjkopdjncdaaMw36
/- The walk of confluxref07.Same (printed by gen_7rsame.py). -/
namespace Go.Proofs.Ytcmpjkopdjncdaa
open Go.RowKit

/-- What is compared ahead of the parts. -/
def ahead7 (x y : Itm) : Bool := fixed7 x y && x.reps.length == y.reps.length && x.chks.length == y.chks.length && x.srcs == y.srcs
theorem ahead7_no {x y : Itm} (h : ahead7 x y = false) : (x == y) = false := by
  rw [beq_eq_false_iff_ne]
  intro he
  subst he
  unfold ahead7 fixed7 at h
  simp at h
theorem ahead7_yes {x y : Itm} (h : ahead7 x y = true) : x.reps.length = y.reps.length ∧ x.chks.length = y.chks.length ∧ (x == y) = (x.chks == y.chks && x.reps == y.reps) := by
  unfold ahead7 at h
  simp only [Bool.and_eq_true, beq_iff_eq] at h
  refine ⟨h.1.1.2, h.1.2, ?_⟩
  rw [itm_beq, h.1.1.1, beq_iff_eq.2 h.2]
  simp
set_option maxRecDepth 100000 in
set_option maxHeartbeats 8000000 in
theorem r07Same_any {w : World} {x y : Itm} {vr vc vs ur uc us : Value} {B1 B2 : List Nat} (hr : SlEls 7 RptR w vr x.reps []) (hc : SlEls 2 ChkR w vc x.chks B1) (hs : SlEls 1 SrcR w vs x.srcs []) (kr : SlEls 7 RptR w ur y.reps []) (kc : SlEls 2 ChkR w uc y.chks B2) (ks : SlEls 1 SrcR w us y.srcs [])
    (hz : Sz7 x) (kz : Sz7 y) :
    Calls Try.prog 19 #[.agg (itc x vr vc vs), .agg (itc y ur uc us)] w fun e w' => e = .returned (.bool (x == y)) ∧ Fr [] w w' := by
  obtain ⟨ar, cr, rfl⟩ := hr.shape
  obtain ⟨ac, cc, rfl⟩ := hc.shape
  obtain ⟨as_, cs, rfl⟩ := hs.shape
  obtain ⟨br, dr, rfl⟩ := kr.shape
  obtain ⟨bc_, dc, rfl⟩ := kc.shape
  obtain ⟨bs, ds, rfl⟩ := ks.shape
  obtain ⟨w2, e2, hF2, hB1, hB2, hs2⟩ := two_new w (itc x (.slice ar x.reps.length cr) (.slice ac x.chks.length cc) (.slice as_ x.srcs.length cs)) 52 (itc y (.slice br y.reps.length dr) (.slice bc_ y.chks.length dc) (.slice bs y.srcs.length ds)) 52
  have HF := Lib.hid hF2; have E2 := Lib.hid e2; have HB1 := Lib.hid hB1; have HB2 := Lib.hid hB2
  have HR := Lib.hid (hr.keep Rep.rpt hF2); have HC := Lib.hid (hc.keep Rep.chk hF2); have HS := Lib.hid (hs.keep Rep.src hF2)
  have KR := Lib.hid (kr.keep Rep.rpt hF2); have KC := Lib.hid (kc.keep Rep.chk hF2); have KS := Lib.hid (ks.keep Rep.src hF2)
  have HZ := Lib.hid hz; have KZ := Lib.hid kz
  clear hF2 hB1 hB2 hs2 e2 hr hc hs kr kc ks hz kz
  obtain ⟨G2, hG2⟩ : ∃ G, w.heap.size + 1 = G := ⟨_, rfl⟩
  have HGG := Lib.hid hG2
  go_enter Try.func19, Try.ntmps19
  clear hG2
  go_upto_region 1 with fail
  rw [E2.out]
  clear E2
  have HG2 := HGG.out
  try simp only [HG2]
  rw [HG2] at HB2
  clear HG2
  go_cut [82] (fun pv wx => pv = .bool (!ahead7 x y) ∧ Fr [] w2 wx)
  case first =>
    have HFX : Hid (ahead7 x y = (x.kind == y.kind && x.ssrc.toNat == y.ssrc.toNat && x.ntp.toNat == y.ntp.toNat && x.ts.toNat == y.ts.toNat && x.pks.toNat == y.pks.toNat && x.ocs.toNat == y.ocs.toNat && x.reason == y.reason && x.reps.length == y.reps.length && x.chks.length == y.chks.length && x.srcs == y.srcs)) := Lib.hid rfl
    have x0 := HB1.out.cell 0; have x1 := HB1.out.cell 1; have x2 := HB1.out.cell 2; have x3 := HB1.out.cell 3; have x4 := HB1.out.cell 4; have x5 := HB1.out.cell 5; have x9 := HB1.out.cell 9; have x6 := HB1.out.cell 6; have x7 := HB1.out.cell 7; have x8 := HB1.out.cell 8
    have y0 := HB2.out.cell 0; have y1 := HB2.out.cell 1; have y2 := HB2.out.cell 2; have y3 := HB2.out.cell 3; have y4 := HB2.out.cell 4; have y5 := HB2.out.cell 5; have y9 := HB2.out.cell 9; have y6 := HB2.out.cell 6; have y7 := HB2.out.cell 7; have y8 := HB2.out.cell 8
    simp only [itc, List.getElem?_toArray, List.getElem?_cons_succ, List.getElem?_cons_zero] at x0 x1 x2 x3 x4 x5 x6 x7 x8 x9 y0 y1 y2 y3 y4 y5 y6 y7 y8 y9
    obtain ⟨p1, hp1⟩ : ∃ n, x.ssrc.toNat = n := ⟨_, rfl⟩
    obtain ⟨q1, hq1⟩ : ∃ n, y.ssrc.toNat = n := ⟨_, rfl⟩
    rw [hp1, hq1] at HFX
    rw [hp1] at x1
    rw [hq1] at y1
    clear hp1 hq1
    obtain ⟨p2, hp2⟩ : ∃ n, x.ntp.toNat = n := ⟨_, rfl⟩
    obtain ⟨q2, hq2⟩ : ∃ n, y.ntp.toNat = n := ⟨_, rfl⟩
    rw [hp2, hq2] at HFX
    rw [hp2] at x2
    rw [hq2] at y2
    clear hp2 hq2
    obtain ⟨p3, hp3⟩ : ∃ n, x.ts.toNat = n := ⟨_, rfl⟩
    obtain ⟨q3, hq3⟩ : ∃ n, y.ts.toNat = n := ⟨_, rfl⟩
    rw [hp3, hq3] at HFX
    rw [hp3] at x3
    rw [hq3] at y3
    clear hp3 hq3
    obtain ⟨p4, hp4⟩ : ∃ n, x.pks.toNat = n := ⟨_, rfl⟩
    obtain ⟨q4, hq4⟩ : ∃ n, y.pks.toNat = n := ⟨_, rfl⟩
    rw [hp4, hq4] at HFX
    rw [hp4] at x4
    rw [hq4] at y4
    clear hp4 hq4
    obtain ⟨p5, hp5⟩ : ∃ n, x.ocs.toNat = n := ⟨_, rfl⟩
    obtain ⟨q5, hq5⟩ : ∃ n, y.ocs.toNat = n := ⟨_, rfl⟩
    rw [hp5, hq5] at HFX
    rw [hp5] at x5
    rw [hq5] at y5
    clear hp5 hq5
    obtain ⟨p7, hp7⟩ : ∃ n, x.reps.length = n := ⟨_, rfl⟩
    obtain ⟨q7, hq7⟩ : ∃ n, y.reps.length = n := ⟨_, rfl⟩
    rw [hp7, hq7] at HFX
    rw [hp7] at x6
    rw [hq7] at y6
    clear hp7 hq7
    obtain ⟨p8, hp8⟩ : ∃ n, x.chks.length = n := ⟨_, rfl⟩
    obtain ⟨q8, hq8⟩ : ∃ n, y.chks.length = n := ⟨_, rfl⟩
    rw [hp8, hq8] at HFX
    rw [hp8] at x7
    rw [hq8] at y7
    clear hp8 hq8
    have HFX : Hid (ahead7 x y = (x.kind == y.kind && ((p1 : Nat) : Int) == ((q1 : Nat) : Int) && ((p2 : Nat) : Int) == ((q2 : Nat) : Int) && ((p3 : Nat) : Int) == ((q3 : Nat) : Int) && ((p4 : Nat) : Int) == ((q4 : Nat) : Int) && ((p5 : Nat) : Int) == ((q5 : Nat) : Int) && (strB x.reason).toList == (strB y.reason).toList && ((p7 : Nat) : Int) == ((q7 : Nat) : Int) && ((p8 : Nat) : Int) == ((q8 : Nat) : Int) && x.srcs == y.srcs)) := Lib.hid (by rw [HFX.out, strB_list, strB_list]; have hcast : ∀ a b : Nat, (a == b) = (((a : Nat) : Int) == ((b : Nat) : Int)) := (fun a b => by rw [Bool.eq_iff_iff, beq_iff_eq, beq_iff_eq]; omega); rw [hcast p1, hcast p2, hcast p3, hcast p4, hcast p5, hcast p7, hcast p8])
    clear HR HC HB1 HB2 HF KR KC
    go_wp2_with fail
    · refine (RSameWords_any (words_of HS.out) (words_of KS.out) (by have := HZ.out.n; omega) (by have := KZ.out.n; omega)).mono ?_
      rintro e w3 ⟨rfl, hF⟩
      have HF3 := Lib.hid hF
      clear hF
      go_wp2_with fail
      go_meet
      exact ⟨by rw [HFX.out]; simp [*], HF3.out⟩
    all_goals
      go_meet
      exact ⟨by rw [HFX.out]; simp [*], Fr.refl _ _⟩
  case rest =>
    obtain ⟨rfl, hF2⟩ := hcut
    have HF := Lib.hid (HF.out.trans hF2); have HB1 := Lib.hid (HB1.out.keep hF2); have HB2 := Lib.hid (HB2.out.keep hF2)
    have HR := Lib.hid (HR.out.keep Rep.rpt hF2); have HC := Lib.hid (HC.out.keep Rep.chk hF2)
    have KR := Lib.hid (KR.out.keep Rep.rpt hF2); have KC := Lib.hid (KC.out.keep Rep.chk hF2)
    clear hF2 HS KS
    cases hah : ahead7 x y with
    | false =>
      have HNO := Lib.hid (ahead7_no hah)
      clear hah
      go_wp2_with fail
      go_ret
      exact ⟨by rw [HNO.out]; rfl, HF.out⟩
    | true =>
      have hyes := ahead7_yes hah
      have HE := Lib.hid hyes.2.2
      have hn1 := hyes.1; have hn2 := hyes.2.1
      clear hyes hah
      have HN1 := Lib.hid hn1; have HN2 := Lib.hid hn2
      have hzr := HZ.out.n
      obtain ⟨nr, hnr⟩ : ∃ n, x.reps.length = n := ⟨_, rfl⟩
      obtain ⟨nc, hnc⟩ : ∃ n, x.chks.length = n := ⟨_, rfl⟩
      have hnry : y.reps.length = nr := by rw [← hn1]; exact hnr
      have hncy : y.chks.length = nc := by rw [← hn2]; exact hnc
      rw [hnr, hnc] at hzr HB1
      rw [hnr] at HR
      rw [hnc] at HC
      rw [hnry, hncy] at HB2
      rw [hnry] at KR
      rw [hncy] at KC
      have HNR := Lib.hid hnr; have HNC := Lib.hid hnc; have HNRY := Lib.hid hnry; have HNCY := Lib.hid hncy
      have hnrb : nr ≤ 1099511000000 := hzr.1
      have hncb : nc ≤ 1099511000000 := hzr.2.1
      clear hn1 hn2 hzr hnr hnc hnry hncy
      go_upto_region 4 with fail
      go_loopw [5] (fun i wr => ∃ j : Nat, j ≤ nr ∧ i = .int .i64 j ∧ x.reps.take j = y.reps.take j ∧ Fr [] wc wr) (fun i _ => nr - (intOf i).toNat)
      case atStart => exact ⟨0, Nat.zero_le _, rfl, rfl, Fr.refl _ _⟩
      case round =>
        obtain ⟨j, hj, rfl, htk, hF⟩ := hrel
        have HT := Lib.hid htk; have HFW := Lib.hid hF
        have HB1 := Lib.hid (HB1.out.keep hF); have HB2 := Lib.hid (HB2.out.keep hF)
        clear htk hF
        by_cases hlt : j < nr
        · obtain ⟨b1, o1, k1, y1, B3, ea, -, hy1, ⟨rfl, -⟩, -, hrg1⟩ := (HR.out.keep Rep.rpt HFW.out).at_ Rep.rpt (i := j) hlt
          obtain ⟨b2, o2, k2, y2, B4, eb, -, hy2, ⟨rfl, -⟩, -, hrg2⟩ := (KR.out.keep Rep.rpt HFW.out).at_ Rep.rpt (i := j) hlt
          subst ea eb
          have HRG1 := Lib.hid hrg1; have HRG2 := Lib.hid hrg2; have HY1 := Lib.hid hy1; have HY2 := Lib.hid hy2
          have HT1 : Hid (x.reps.take (j + 1) = x.reps.take j ++ [y1]) := Lib.hid (by rw [List.take_add_one, hy1]; rfl)
          have HT2 : Hid (y.reps.take (j + 1) = y.reps.take j ++ [y2]) := Lib.hid (by rw [List.take_add_one, hy2]; rfl)
          clear hrg1 hrg2 hy1 hy2
          have x6 := HB1.out.cell 6
          simp only [itc, List.getElem?_toArray, List.getElem?_cons_succ, List.getElem?_cons_zero] at x6
          go_upto_region 6 with fail
          clear x6
          refine wp_region_T (fun w' => Fr [] wr.drew w') [] 11 #[false, false, false, false, false, false, false, false, false, false, false] (by kernel_rfl) rfl rfl ?_
          try simp only [List.append_eq, List.cons_append, List.nil_append]
          have hF := (Fr.refl [] wr).drew
          have HB1 := Lib.hid (HB1.out.keep hF)
          have HB2 := Lib.hid (HB2.out.keep hF)
          have HFW := Lib.hid (HFW.out.trans hF)
          have HRG1 : Hid (World.rangeAt _ _ _ _) := Lib.hid (fr_rng hF HRG1.out)
          have HRG2 : Hid (World.rangeAt _ _ _ _) := Lib.hid (fr_rng hF HRG2.out)
          clear hF
          have HSS : Hid (Fr [] wr.drew wr.drew) := Lib.hid (Fr.refl _ _)
          generalize wr.drew = wd at *
          refine wpAnyT_load (i := 0) (v := ?_) rfl (by kernel_rfl) (by kernel_rfl) (by kernel_rfl) (by kernel_rfl) (by kernel_rfl) (fun _ _ _ h => h) HSS.out (by rfl) ?_ ?_
          rotate_left
          · intro w hSw; skip; go_simp; try with_reducible rfl
          simp only [Act.put, List.getElem_toArray, List.getElem_cons_zero, List.getElem_cons_succ, List.setIfInBounds_toArray, List.set_cons_zero, List.set_cons_succ]
          refine wpAnyT_load (i := 1) (v := ?_) rfl (by kernel_rfl) (by kernel_rfl) (by kernel_rfl) (by kernel_rfl) (by kernel_rfl) (fun _ _ _ h => h) HSS.out (by rfl) ?_ ?_
          rotate_left
          · intro w hSw; have n1 := (HB1.out.keep hSw).cell 6; simp only [itc, List.getElem?_toArray, List.getElem?_cons_succ, List.getElem?_cons_zero] at n1; go_simp; try with_reducible rfl
          simp only [Act.put, List.getElem_toArray, List.getElem_cons_zero, List.getElem_cons_succ, List.setIfInBounds_toArray, List.set_cons_zero, List.set_cons_succ]
          refine wpAnyT_load (i := 2) (v := ?_) rfl (by kernel_rfl) (by kernel_rfl) (by kernel_rfl) (by kernel_rfl) (by kernel_rfl) (fun _ _ _ h => h) HSS.out (by rfl) ?_ ?_
          rotate_left
          · intro w hSw; skip; go_simp; try with_reducible rfl
          simp only [Act.put, List.getElem_toArray, List.getElem_cons_zero, List.getElem_cons_succ, List.setIfInBounds_toArray, List.set_cons_zero, List.set_cons_succ]
          refine wpAnyT_load (i := 3) (v := ?_) rfl (by kernel_rfl) (by kernel_rfl) (by kernel_rfl) (by kernel_rfl) (by kernel_rfl) (fun _ _ _ h => h) HSS.out (by rfl) ?_ ?_
          rotate_left
          · intro w hSw; skip; go_simp; try with_reducible rfl
          simp only [Act.put, List.getElem_toArray, List.getElem_cons_zero, List.getElem_cons_succ, List.setIfInBounds_toArray, List.set_cons_zero, List.set_cons_succ]
          refine wpAnyT_load (i := 4) (v := ?_) rfl (by kernel_rfl) (by kernel_rfl) (by kernel_rfl) (by kernel_rfl) (by kernel_rfl) (fun _ _ _ h => h) HSS.out (by rfl) ?_ ?_
          rotate_left
          · intro w' hSw; refine run_load_mid_op 57 (.tmp 93) ?_ b1 (o1 + j * 7) ?_ (rpc7 y1) _ (fr_rng hSw HRG1.out) Try.underlying57 rfl (by kernel_rfl) <;> rfl
          simp only [Act.put, List.getElem_toArray, List.getElem_cons_zero, List.getElem_cons_succ, List.setIfInBounds_toArray, List.set_cons_zero, List.set_cons_succ]
          refine wpAnyT_load (i := 5) (v := ?_) rfl (by kernel_rfl) (by kernel_rfl) (by kernel_rfl) (by kernel_rfl) (by kernel_rfl) (fun _ _ _ h => h) HSS.out (by rfl) ?_ ?_
          rotate_left
          · intro w hSw; skip; go_simp; try with_reducible rfl
          simp only [Act.put, List.getElem_toArray, List.getElem_cons_zero, List.getElem_cons_succ, List.setIfInBounds_toArray, List.set_cons_zero, List.set_cons_succ]
          refine wpAnyT_load (i := 6) (v := ?_) rfl (by kernel_rfl) (by kernel_rfl) (by kernel_rfl) (by kernel_rfl) (by kernel_rfl) (fun _ _ _ h => h) HSS.out (by rfl) ?_ ?_
          rotate_left
          · intro w hSw; have n1 := (HB2.out.keep hSw).cell 6; simp only [itc, List.getElem?_toArray, List.getElem?_cons_succ, List.getElem?_cons_zero] at n1; go_simp; try with_reducible rfl
          simp only [Act.put, List.getElem_toArray, List.getElem_cons_zero, List.getElem_cons_succ, List.setIfInBounds_toArray, List.set_cons_zero, List.set_cons_succ]
          refine wpAnyT_load (i := 7) (v := ?_) rfl (by kernel_rfl) (by kernel_rfl) (by kernel_rfl) (by kernel_rfl) (by kernel_rfl) (fun _ _ _ h => h) HSS.out (by rfl) ?_ ?_
          rotate_left
          · intro w hSw; skip; go_simp; try with_reducible rfl
          simp only [Act.put, List.getElem_toArray, List.getElem_cons_zero, List.getElem_cons_succ, List.setIfInBounds_toArray, List.set_cons_zero, List.set_cons_succ]
          refine wpAnyT_load (i := 8) (v := ?_) rfl (by kernel_rfl) (by kernel_rfl) (by kernel_rfl) (by kernel_rfl) (by kernel_rfl) (fun _ _ _ h => h) HSS.out (by rfl) ?_ ?_
          rotate_left
          · intro w hSw; skip; go_simp; try with_reducible rfl
          simp only [Act.put, List.getElem_toArray, List.getElem_cons_zero, List.getElem_cons_succ, List.setIfInBounds_toArray, List.set_cons_zero, List.set_cons_succ]
          refine wpAnyT_load (i := 9) (v := ?_) rfl (by kernel_rfl) (by kernel_rfl) (by kernel_rfl) (by kernel_rfl) (by kernel_rfl) (fun _ _ _ h => h) HSS.out (by rfl) ?_ ?_
          rotate_left
          · intro w' hSw; refine run_load_mid_op 57 (.tmp 98) ?_ b2 (o2 + j * 7) ?_ (rpc7 y2) _ (fr_rng hSw HRG2.out) Try.underlying57 rfl (by kernel_rfl) <;> rfl
          simp only [Act.put, List.getElem_toArray, List.getElem_cons_zero, List.getElem_cons_succ, List.setIfInBounds_toArray, List.set_cons_zero, List.set_cons_succ]
          refine wpAnyT_load (i := 10) (v := ?_) rfl (by kernel_rfl) (by kernel_rfl) (by kernel_rfl) (by kernel_rfl) (by kernel_rfl) (fun _ _ _ h => h) HSS.out (by rfl) ?_ ?_
          rotate_left
          · intro w' hSw; go_simp; exact neq_rpt y1 y2 w'
          simp only [Act.put, List.getElem_toArray, List.getElem_cons_zero, List.getElem_cons_succ, List.setIfInBounds_toArray, List.set_cons_zero, List.set_cons_succ]
          refine wpAnyT_done (by kernel_rfl) ?_ _
          cases he : (y1 == y2) with
          | true =>
            have HE2 := Lib.hid (beq_iff_eq.1 he)
            clear he
            go_wp2_with fail
            refine ⟨⟨j + 1, by omega, by go_num, by rw [HT1.out, HT2.out, HT.out, HE2.out], HFW.out⟩, by simp [intOf]; omega⟩
          | false =>
            have HE2 := Lib.hid (beq_eq_false_iff_ne.1 he)
            have HNE : Hid ((x.reps == y.reps) = false) := Lib.hid (by
              rw [beq_eq_false_iff_ne]
              intro h
              have h9 := HY1.out
              rw [h, HY2.out] at h9
              exact HE2.out (Option.some.inj h9).symm)
            clear he
            go_wp2_with fail
            go_ret
            exact ⟨ret_bool (by rw [HE.out, HNE.out, Bool.and_false]), HF.out.trans (HFW.out)⟩
        · obtain rfl : j = nr := by omega
          have HRE : Hid ((x.reps == y.reps) = true) := Lib.hid (by
            have := HT.out
            rw [List.take_of_length_le (by rw [HNR.out]; exact Nat.le_refl _), List.take_of_length_le (by rw [HNRY.out]; exact Nat.le_refl _)] at this
            exact beq_iff_eq.2 this)
          rw [HRE.out, Bool.and_true] at HE
          have HF := Lib.hid (HF.out.trans HFW.out)
          have HC := Lib.hid (HC.out.keep Rep.chk HFW.out); have KC := Lib.hid (KC.out.keep Rep.chk HFW.out)
          clear hj hlt HT HFW HR KR
          have x6 := HB1.out.cell 6
          simp only [itc, List.getElem?_toArray, List.getElem?_cons_succ, List.getElem?_cons_zero] at x6
          go_upto_region 9 with fail
          clear x6
          go_loopw [6] (fun i wy => ∃ j : Nat, j ≤ nc ∧ i = .int .i64 j ∧ x.chks.take j = y.chks.take j ∧ Fr [] wr wy) (fun i _ => nc - (intOf i).toNat)
          case atStart => exact ⟨0, Nat.zero_le _, rfl, rfl, Fr.refl _ _⟩
          case round =>
            obtain ⟨j, hj, rfl, htk, hF⟩ := hrel
            have HT := Lib.hid htk; have HFW := Lib.hid hF
            have HB1 := Lib.hid (HB1.out.keep hF); have HB2 := Lib.hid (HB2.out.keep hF)
            clear htk hF
            have x7 := HB1.out.cell 7
            simp only [itc, List.getElem?_toArray, List.getElem?_cons_succ, List.getElem?_cons_zero] at x7
            by_cases hlt : j < nc
            · obtain ⟨b1, o1, k1, y1, B3, ea, -, hy1, ⟨u1, rfl, hu1, -⟩, -, hrg1⟩ := (HC.out.keep Rep.chk HFW.out).at_ Rep.chk (i := j) hlt
              obtain ⟨b2, o2, k2, y2, B4, eb, -, hy2, ⟨u2, rfl, hu2, -⟩, -, hrg2⟩ := (KC.out.keep Rep.chk HFW.out).at_ Rep.chk (i := j) hlt
              subst ea eb
              obtain ⟨au1, cu1, rfl⟩ := hu1.shape
              obtain ⟨au2, cu2, rfl⟩ := hu2.shape
              have HRG1 := Lib.hid hrg1; have HRG2 := Lib.hid hrg2; have HY1 := Lib.hid hy1; have HY2 := Lib.hid hy2; have HU1 := Lib.hid hu1; have HU2 := Lib.hid hu2
              have HT1 : Hid (x.chks.take (j + 1) = x.chks.take j ++ [y1]) := Lib.hid (by rw [List.take_add_one, hy1]; rfl)
              have HT2 : Hid (y.chks.take (j + 1) = y.chks.take j ++ [y2]) := Lib.hid (by rw [List.take_add_one, hy2]; rfl)
              have HM1 := Lib.hid (HZ.out.texts y1 (List.mem_of_getElem? hy1)); have HM2 := Lib.hid (KZ.out.texts y2 (List.mem_of_getElem? hy2))
              have HNE : Hid (y1 ≠ y2 → (x == y) = false) := Lib.hid (fun hne => by
                rw [HE.out, beq_eq_false_iff_ne]
                intro h
                have h9 := HY1.out
                rw [h, HY2.out] at h9
                exact hne (Option.some.inj h9).symm)
              clear hrg1 hrg2 hy1 hy2 hu1 hu2
              go_upto_region 11 with fail
              clear x7
              go_cut [7, 8] (fun p7 p8 wx => ∃ G1 G2 : Nat, p7 = .pointer (some ⟨G1, 0, none⟩) ∧ p8 = .pointer (some ⟨G2, 0, none⟩) ∧ Box wx G1 96 #[.int .u32 (y1.ssrc.toNat : Nat), .slice au1 y1.texts.length cu1] ∧ Box wx G2 96 #[.int .u32 (y2.ssrc.toNat : Nat), .slice au2 y2.texts.length cu2] ∧ Fr [] wr wx)
              case first =>
                refine wp_region_T (fun w' => Fr [] wr.drew w') [] 14 #[false, false, false, false, false, false, false, false, false, false, false, false, false, false] (by kernel_rfl) rfl rfl ?_
                try simp only [List.append_eq, List.cons_append, List.nil_append]
                have hF := (Fr.refl [] wr).drew
                have HB1 := Lib.hid (HB1.out.keep hF)
                have HB2 := Lib.hid (HB2.out.keep hF)
                have HRG1 : Hid (World.rangeAt _ _ _ _) := Lib.hid (fr_rng hF HRG1.out)
                have HRG2 : Hid (World.rangeAt _ _ _ _) := Lib.hid (fr_rng hF HRG2.out)
                have HFD := Lib.hid hF
                clear hF
                have HSS : Hid (Fr [] wr.drew wr.drew) := Lib.hid (Fr.refl _ _)
                generalize wr.drew = wd at *
                refine wpAnyT_load (i := 0) (v := ?_) rfl (by kernel_rfl) (by kernel_rfl) (by kernel_rfl) (by kernel_rfl) (by kernel_rfl) (fun _ _ _ h => h) HSS.out (by rfl) ?_ ?_
                rotate_left
                · intro w hSw; skip; go_simp; try with_reducible rfl
                simp only [Act.put, List.getElem_toArray, List.getElem_cons_zero, List.getElem_cons_succ, List.setIfInBounds_toArray, List.set_cons_zero, List.set_cons_succ]
                refine wpAnyT_load (i := 1) (v := ?_) rfl (by kernel_rfl) (by kernel_rfl) (by kernel_rfl) (by kernel_rfl) (by kernel_rfl) (fun _ _ _ h => h) HSS.out (by rfl) ?_ ?_
                rotate_left
                · intro w hSw; have n1 := (HB1.out.keep hSw).cell 7; simp only [itc, List.getElem?_toArray, List.getElem?_cons_succ, List.getElem?_cons_zero] at n1; go_simp; try with_reducible rfl
                simp only [Act.put, List.getElem_toArray, List.getElem_cons_zero, List.getElem_cons_succ, List.setIfInBounds_toArray, List.set_cons_zero, List.set_cons_succ]
                refine wpAnyT_load (i := 2) (v := ?_) rfl (by kernel_rfl) (by kernel_rfl) (by kernel_rfl) (by kernel_rfl) (by kernel_rfl) (fun _ _ _ h => h) HSS.out (by rfl) ?_ ?_
                rotate_left
                · intro w hSw; skip; go_simp; try with_reducible rfl
                simp only [Act.put, List.getElem_toArray, List.getElem_cons_zero, List.getElem_cons_succ, List.setIfInBounds_toArray, List.set_cons_zero, List.set_cons_succ]
                refine wpAnyT_load (i := 3) (v := ?_) rfl (by kernel_rfl) (by kernel_rfl) (by kernel_rfl) (by kernel_rfl) (by kernel_rfl) (fun _ _ _ h => h) HSS.out (by rfl) ?_ ?_
                rotate_left
                · intro w hSw; skip; go_simp; try with_reducible rfl
                simp only [Act.put, List.getElem_toArray, List.getElem_cons_zero, List.getElem_cons_succ, List.setIfInBounds_toArray, List.set_cons_zero, List.set_cons_succ]
                refine wpAnyT_load (i := 4) (v := ?_) rfl (by kernel_rfl) (by kernel_rfl) (by kernel_rfl) (by kernel_rfl) (by kernel_rfl) (fun _ _ _ h => h) HSS.out (by rfl) ?_ ?_
                rotate_left
                · intro w' hSw; refine run_load_mid_op 96 (.tmp 111) ?_ b1 (o1 + j * 2) ?_ (#[.int .u32 (y1.ssrc.toNat : Nat), .slice au1 y1.texts.length cu1]) _ (fr_rng hSw HRG1.out) Try.underlying96 rfl (by kernel_rfl) <;> rfl
                simp only [Act.put, List.getElem_toArray, List.getElem_cons_zero, List.getElem_cons_succ, List.setIfInBounds_toArray, List.set_cons_zero, List.set_cons_succ]
                refine wpAnyT_load (i := 5) (v := ?_) rfl (by kernel_rfl) (by kernel_rfl) (by kernel_rfl) (by kernel_rfl) (by kernel_rfl) (fun _ _ _ h => h) HSS.out (by rfl) ?_ ?_
                rotate_left
                · intro w hSw; skip; go_simp; try with_reducible rfl
                simp only [Act.put, List.getElem_toArray, List.getElem_cons_zero, List.getElem_cons_succ, List.setIfInBounds_toArray, List.set_cons_zero, List.set_cons_succ]
                refine wpAnyT_load (i := 6) (v := ?_) rfl (by kernel_rfl) (by kernel_rfl) (by kernel_rfl) (by kernel_rfl) (by kernel_rfl) (fun _ _ _ h => h) HSS.out (by rfl) ?_ ?_
                rotate_left
                · intro w hSw; have n1 := (HB2.out.keep hSw).cell 7; simp only [itc, List.getElem?_toArray, List.getElem?_cons_succ, List.getElem?_cons_zero] at n1; go_simp; try with_reducible rfl
                simp only [Act.put, List.getElem_toArray, List.getElem_cons_zero, List.getElem_cons_succ, List.setIfInBounds_toArray, List.set_cons_zero, List.set_cons_succ]
                refine wpAnyT_load (i := 7) (v := ?_) rfl (by kernel_rfl) (by kernel_rfl) (by kernel_rfl) (by kernel_rfl) (by kernel_rfl) (fun _ _ _ h => h) HSS.out (by rfl) ?_ ?_
                rotate_left
                · intro w hSw; skip; go_simp; try with_reducible rfl
                simp only [Act.put, List.getElem_toArray, List.getElem_cons_zero, List.getElem_cons_succ, List.setIfInBounds_toArray, List.set_cons_zero, List.set_cons_succ]
                refine wpAnyT_load (i := 8) (v := ?_) rfl (by kernel_rfl) (by kernel_rfl) (by kernel_rfl) (by kernel_rfl) (by kernel_rfl) (fun _ _ _ h => h) HSS.out (by rfl) ?_ ?_
                rotate_left
                · intro w hSw; skip; go_simp; try with_reducible rfl
                simp only [Act.put, List.getElem_toArray, List.getElem_cons_zero, List.getElem_cons_succ, List.setIfInBounds_toArray, List.set_cons_zero, List.set_cons_succ]
                refine wpAnyT_load (i := 9) (v := ?_) rfl (by kernel_rfl) (by kernel_rfl) (by kernel_rfl) (by kernel_rfl) (by kernel_rfl) (fun _ _ _ h => h) HSS.out (by rfl) ?_ ?_
                rotate_left
                · intro w' hSw; refine run_load_mid_op 96 (.tmp 116) ?_ b2 (o2 + j * 2) ?_ (#[.int .u32 (y2.ssrc.toNat : Nat), .slice au2 y2.texts.length cu2]) _ (fr_rng hSw HRG2.out) Try.underlying96 rfl (by kernel_rfl) <;> rfl
                simp only [Act.put, List.getElem_toArray, List.getElem_cons_zero, List.getElem_cons_succ, List.setIfInBounds_toArray, List.set_cons_zero, List.set_cons_succ]
                refine wpAnyT_two (i := 10) (j := 11) (by kernel_rfl) rfl rfl (fun K hK => ?_) (fun K hK => ?_)
                · obtain ⟨wa1, ea, hF, hBa, hsa⟩ := one_new wd #[.int .u32 0, .slice none 0 0] 96
                  have EA := Lib.hid ea; have HG1 := Lib.hid hBa; have HS1 : Hid (wd.heap.size < wa1.heap.size) := Lib.hid (by omega); have HQ1 : Hid (wd.heap.size ≤ wd.heap.size) := Lib.hid HSS.out.size
                  have HSS := Lib.hid (HSS.out.trans hF)
                  clear ea hF hBa hsa
                  rw [if_pos (by rfl)]
                  go_simp
                  rw [EA.out]
                  refine hK.out _ _ (fun _ => HSS.out) ?_
                  clear hK K
                  simp only [Act.put, List.getElem_toArray, List.getElem_cons_zero, List.getElem_cons_succ, List.setIfInBounds_toArray, List.set_cons_zero, List.set_cons_succ]
                  refine wpAnyT_one (i := 11) (by kernel_rfl) rfl (fun K hK => ?_)
                  obtain ⟨wa2, ea, hF, hBa, hsa⟩ := one_new wa1 #[.int .u32 0, .slice none 0 0] 96
                  have EA := Lib.hid ea; have HG2 := Lib.hid hBa; have HS2 : Hid (wa1.heap.size < wa2.heap.size) := Lib.hid (by omega); have HQ2 : Hid (wd.heap.size ≤ wa1.heap.size) := Lib.hid HSS.out.size
                  have HSS := Lib.hid (HSS.out.trans hF)
                  have HD : Hid (wd.heap.size ≠ wa1.heap.size) := Lib.hid (by have := HG1.out.lt; omega)
                  have HG1 := Lib.hid (HG1.out.keep hF)
                  clear ea hF hBa hsa
                  rw [if_pos (by rfl)]
                  go_simp
                  rw [EA.out]
                  refine hK.out _ _ (fun _ => HSS.out) ?_
                  clear hK K
                  simp only [Act.put, List.getElem_toArray, List.getElem_cons_zero, List.getElem_cons_succ, List.setIfInBounds_toArray, List.set_cons_zero, List.set_cons_succ]
                  refine wpAnyT_one (i := 12) (by kernel_rfl) rfl (fun K hK => ?_)
                  refine wp_store_row rfl 96 (.tmp 7) (.tmp 112) rfl (wd.heap.size) rfl _ _ rfl 96 HG1.out (by kernel_rfl) rfl (by simp [Value.oneCell']) ?_
                  intro wz3 hY hG
                  have HG1 := Lib.hid hY
                  have HSS := Lib.hid (HSS.out.step hG (fun x hx => .inr (by have := HQ1.out; simp at hx; omega)))
                  have HG2 := Lib.hid (HG2.out.fr hG (by have := HD.out; simp; omega))
                  clear hY hG
                  refine hK.out _ _ (fun _ => HSS.out) ?_
                  clear hK K
                  simp only [Act.put, List.getElem_toArray, List.getElem_cons_zero, List.getElem_cons_succ, List.setIfInBounds_toArray, List.set_cons_zero, List.set_cons_succ]
                  refine wpAnyT_one (i := 13) (by kernel_rfl) rfl (fun K hK => ?_)
                  refine wp_store_row rfl 96 (.tmp 8) (.tmp 117) rfl (wa1.heap.size) rfl _ _ rfl 96 HG2.out (by kernel_rfl) rfl (by simp [Value.oneCell']) ?_
                  intro wz4 hY hG
                  have HG2 := Lib.hid hY
                  have HSS := Lib.hid (HSS.out.step hG (fun x hx => .inr (by have := HQ2.out; simp at hx; omega)))
                  have HG1 := Lib.hid (HG1.out.fr hG (by have := HD.out; simp; omega))
                  clear hY hG
                  refine hK.out _ _ (fun _ => HSS.out) ?_
                  clear hK K
                  simp only [Act.put, List.getElem_toArray, List.getElem_cons_zero, List.getElem_cons_succ, List.setIfInBounds_toArray, List.set_cons_zero, List.set_cons_succ]
                  refine wpAnyT_done (by kernel_rfl) ?_ _
                  go_wp2_with fail
                  go_meet
                  exact ⟨_, _, rfl, rfl, HG1.out, HG2.out, HFD.out.trans HSS.out⟩
                · obtain ⟨wa5, ea, hF, hBa, hsa⟩ := one_new wd #[.int .u32 0, .slice none 0 0] 96
                  have EA := Lib.hid ea; have HG2 := Lib.hid hBa; have HS2 : Hid (wd.heap.size < wa5.heap.size) := Lib.hid (by omega); have HQ2 : Hid (wd.heap.size ≤ wd.heap.size) := Lib.hid HSS.out.size
                  have HSS := Lib.hid (HSS.out.trans hF)
                  clear ea hF hBa hsa
                  rw [if_pos (by rfl)]
                  go_simp
                  rw [EA.out]
                  refine hK.out _ _ (fun _ => HSS.out) ?_
                  clear hK K
                  simp only [Act.put, List.getElem_toArray, List.getElem_cons_zero, List.getElem_cons_succ, List.setIfInBounds_toArray, List.set_cons_zero, List.set_cons_succ]
                  refine wpAnyT_one (i := 10) (by kernel_rfl) rfl (fun K hK => ?_)
                  obtain ⟨wa6, ea, hF, hBa, hsa⟩ := one_new wa5 #[.int .u32 0, .slice none 0 0] 96
                  have EA := Lib.hid ea; have HG1 := Lib.hid hBa; have HS1 : Hid (wa5.heap.size < wa6.heap.size) := Lib.hid (by omega); have HQ1 : Hid (wd.heap.size ≤ wa5.heap.size) := Lib.hid HSS.out.size
                  have HSS := Lib.hid (HSS.out.trans hF)
                  have HD : Hid (wd.heap.size ≠ wa5.heap.size) := Lib.hid (by have := HG2.out.lt; omega)
                  have HG2 := Lib.hid (HG2.out.keep hF)
                  clear ea hF hBa hsa
                  rw [if_pos (by rfl)]
                  go_simp
                  rw [EA.out]
                  refine hK.out _ _ (fun _ => HSS.out) ?_
                  clear hK K
                  simp only [Act.put, List.getElem_toArray, List.getElem_cons_zero, List.getElem_cons_succ, List.setIfInBounds_toArray, List.set_cons_zero, List.set_cons_succ]
                  refine wpAnyT_one (i := 12) (by kernel_rfl) rfl (fun K hK => ?_)
                  refine wp_store_row rfl 96 (.tmp 7) (.tmp 112) rfl (wa5.heap.size) rfl _ _ rfl 96 HG1.out (by kernel_rfl) rfl (by simp [Value.oneCell']) ?_
                  intro wz7 hY hG
                  have HG1 := Lib.hid hY
                  have HSS := Lib.hid (HSS.out.step hG (fun x hx => .inr (by have := HQ1.out; simp at hx; omega)))
                  have HG2 := Lib.hid (HG2.out.fr hG (by have := HD.out; simp; omega))
                  clear hY hG
                  refine hK.out _ _ (fun _ => HSS.out) ?_
                  clear hK K
                  simp only [Act.put, List.getElem_toArray, List.getElem_cons_zero, List.getElem_cons_succ, List.setIfInBounds_toArray, List.set_cons_zero, List.set_cons_succ]
                  refine wpAnyT_one (i := 13) (by kernel_rfl) rfl (fun K hK => ?_)
                  refine wp_store_row rfl 96 (.tmp 8) (.tmp 117) rfl (wd.heap.size) rfl _ _ rfl 96 HG2.out (by kernel_rfl) rfl (by simp [Value.oneCell']) ?_
                  intro wz8 hY hG
                  have HG2 := Lib.hid hY
                  have HSS := Lib.hid (HSS.out.step hG (fun x hx => .inr (by have := HQ2.out; simp at hx; omega)))
                  have HG1 := Lib.hid (HG1.out.fr hG (by have := HD.out; simp; omega))
                  clear hY hG
                  refine hK.out _ _ (fun _ => HSS.out) ?_
                  clear hK K
                  simp only [Act.put, List.getElem_toArray, List.getElem_cons_zero, List.getElem_cons_succ, List.setIfInBounds_toArray, List.set_cons_zero, List.set_cons_succ]
                  refine wpAnyT_done (by kernel_rfl) ?_ _
                  go_wp2_with fail
                  go_meet
                  exact ⟨_, _, rfl, rfl, HG1.out, HG2.out, HFD.out.trans HSS.out⟩
              case rest =>
                obtain ⟨G1, G2, rfl, rfl, hg1, hg2, hF⟩ := hcut
                have HFW := Lib.hid (HFW.out.trans hF); have HB1 := Lib.hid (HB1.out.keep hF); have HB2 := Lib.hid (HB2.out.keep hF); have HU1 := Lib.hid (HU1.out.keep Rep.txt hF); have HU2 := Lib.hid (HU2.out.keep Rep.txt hF); have HG1 := Lib.hid hg1; have HG2 := Lib.hid hg2
                clear hF hg1 hg2
                have g10 := HG1.out.cell 0; have g11 := HG1.out.cell 1; have g20 := HG2.out.cell 0; have g21 := HG2.out.cell 1
                simp only [List.getElem?_toArray, List.getElem?_cons_succ, List.getElem?_cons_zero] at g10 g11 g20 g21
                obtain ⟨s1, hs1⟩ : ∃ n, y1.ssrc.toNat = n := ⟨_, rfl⟩
                obtain ⟨s2, hs2⟩ : ∃ n, y2.ssrc.toNat = n := ⟨_, rfl⟩
                rw [hs1] at g10
                rw [hs2] at g20
                by_cases hss : s1 = s2
                rotate_left
                · have b1x : ((s1 : Int) != (s2 : Int)) = true := by rw [bne_iff_ne]; omega
                  have HX := Lib.hid (HNE.out (fun h => by subst h; exact hss (hs1.symm.trans hs2)))
                  clear hs1 hs2 hss
                  go_wp2_with fail
                  go_ret
                  exact ⟨ret_bool (by rw [HX.out]), HF.out.trans HFW.out⟩
                have HSE : Hid (y1.ssrc = y2.ssrc) := Lib.hid (UInt32.toNat_inj.1 (by rw [hs1, hs2]; exact hss))
                subst hss
                obtain ⟨t1, ht1⟩ : ∃ n, y1.texts.length = n := ⟨_, rfl⟩
                obtain ⟨t2, ht2⟩ : ∃ n, y2.texts.length = n := ⟨_, rfl⟩
                rw [ht1] at g11 HU1 HM1 HG1
                rw [ht2] at g21 HU2 HM2 HG2
                by_cases htt : t1 = t2
                rotate_left
                · have b1x : ((t1 : Int) != (t2 : Int)) = true := by rw [bne_iff_ne]; omega
                  have HX := Lib.hid (HNE.out (fun h => by subst h; exact htt (ht1.symm.trans ht2)))
                  clear hs1 hs2 ht1 ht2 htt
                  go_wp2_with fail
                  go_ret
                  exact ⟨ret_bool (by rw [HX.out]), HF.out.trans HFW.out⟩
                subst htt
                have HT1L := Lib.hid ht1; have HT2L := Lib.hid ht2
                have htb := HM1.out
                clear hs1 hs2 ht1 ht2
                go_upto_region 15 with fail
                clear g10 g11 g20 g21
                go_loopw [9] (fun i wz => ∃ k : Nat, k ≤ t1 ∧ i = .int .i64 k ∧ y1.texts.take k = y2.texts.take k ∧ Fr [] wc wz) (fun i _ => t1 - (intOf i).toNat)
                case atStart => exact ⟨0, Nat.zero_le _, rfl, rfl, Fr.refl _ _⟩
                case round =>
                  obtain ⟨k, hk, rfl, htk, hF⟩ := hrel
                  have HTT := Lib.hid htk; have HFV := Lib.hid hF
                  have HG1 := Lib.hid (HG1.out.keep hF); have HG2 := Lib.hid (HG2.out.keep hF)
                  clear htk hF
                  have g11 := HG1.out.cell 1
                  simp only [List.getElem?_toArray, List.getElem?_cons_succ, List.getElem?_cons_zero] at g11
                  by_cases hlk : k < t1
                  · obtain ⟨b1, o1, k1, z1, B3, ea, -, hz1, ⟨rfl, -⟩, -, hrg1⟩ := (HU1.out.keep Rep.txt HFV.out).at_ Rep.txt (i := k) hlk
                    obtain ⟨b2, o2, k2, z2, B4, eb, -, hz2, ⟨rfl, -⟩, -, hrg2⟩ := (HU2.out.keep Rep.txt HFV.out).at_ Rep.txt (i := k) hlk
                    subst ea eb
                    have HRG1 := Lib.hid hrg1; have HRG2 := Lib.hid hrg2; have HZ1 := Lib.hid hz1; have HZ2 := Lib.hid hz2
                    have HK1 : Hid (y1.texts.take (k + 1) = y1.texts.take k ++ [z1]) := Lib.hid (by rw [List.take_add_one, hz1]; rfl)
                    have HK2 : Hid (y2.texts.take (k + 1) = y2.texts.take k ++ [z2]) := Lib.hid (by rw [List.take_add_one, hz2]; rfl)
                    clear hrg1 hrg2 hz1 hz2
                    go_upto_region 17 with fail
                    clear g11
                    refine wp_region_T (fun w' => Fr [] wr.drew w') [] 11 #[false, false, false, false, false, false, false, false, false, false, false] (by kernel_rfl) rfl rfl ?_
                    try simp only [List.append_eq, List.cons_append, List.nil_append]
                    have hF := (Fr.refl [] wr).drew
                    have HG1 := Lib.hid (HG1.out.keep hF)
                    have HG2 := Lib.hid (HG2.out.keep hF)
                    have HFV := Lib.hid (HFV.out.trans hF)
                    have HRG1 : Hid (World.rangeAt _ _ _ _) := Lib.hid (fr_rng hF HRG1.out)
                    have HRG2 : Hid (World.rangeAt _ _ _ _) := Lib.hid (fr_rng hF HRG2.out)
                    clear hF
                    have HSS : Hid (Fr [] wr.drew wr.drew) := Lib.hid (Fr.refl _ _)
                    generalize wr.drew = wd at *
                    refine wpAnyT_load (i := 0) (v := ?_) rfl (by kernel_rfl) (by kernel_rfl) (by kernel_rfl) (by kernel_rfl) (by kernel_rfl) (fun _ _ _ h => h) HSS.out (by rfl) ?_ ?_
                    rotate_left
                    · intro w hSw; skip; go_simp; try with_reducible rfl
                    simp only [Act.put, List.getElem_toArray, List.getElem_cons_zero, List.getElem_cons_succ, List.setIfInBounds_toArray, List.set_cons_zero, List.set_cons_succ]
                    refine wpAnyT_load (i := 1) (v := ?_) rfl (by kernel_rfl) (by kernel_rfl) (by kernel_rfl) (by kernel_rfl) (by kernel_rfl) (fun _ _ _ h => h) HSS.out (by rfl) ?_ ?_
                    rotate_left
                    · intro w hSw; have n1 := (HG1.out.keep hSw).cell 1; simp only [List.getElem?_toArray, List.getElem?_cons_succ, List.getElem?_cons_zero] at n1; go_simp; try with_reducible rfl
                    simp only [Act.put, List.getElem_toArray, List.getElem_cons_zero, List.getElem_cons_succ, List.setIfInBounds_toArray, List.set_cons_zero, List.set_cons_succ]
                    refine wpAnyT_load (i := 2) (v := ?_) rfl (by kernel_rfl) (by kernel_rfl) (by kernel_rfl) (by kernel_rfl) (by kernel_rfl) (fun _ _ _ h => h) HSS.out (by rfl) ?_ ?_
                    rotate_left
                    · intro w hSw; skip; go_simp; try with_reducible rfl
                    simp only [Act.put, List.getElem_toArray, List.getElem_cons_zero, List.getElem_cons_succ, List.setIfInBounds_toArray, List.set_cons_zero, List.set_cons_succ]
                    refine wpAnyT_load (i := 3) (v := ?_) rfl (by kernel_rfl) (by kernel_rfl) (by kernel_rfl) (by kernel_rfl) (by kernel_rfl) (fun _ _ _ h => h) HSS.out (by rfl) ?_ ?_
                    rotate_left
                    · intro w hSw; skip; go_simp; try with_reducible rfl
                    simp only [Act.put, List.getElem_toArray, List.getElem_cons_zero, List.getElem_cons_succ, List.setIfInBounds_toArray, List.set_cons_zero, List.set_cons_succ]
                    refine wpAnyT_load (i := 4) (v := ?_) rfl (by kernel_rfl) (by kernel_rfl) (by kernel_rfl) (by kernel_rfl) (by kernel_rfl) (fun _ _ _ h => h) HSS.out (by rfl) ?_ ?_
                    rotate_left
                    · intro w' hSw; refine run_load_mid_op 97 (.tmp 142) ?_ b1 (o1 + k * 2) ?_ (txc z1) _ (fr_rng hSw HRG1.out) Try.underlying97 rfl (by kernel_rfl) <;> rfl
                    simp only [Act.put, List.getElem_toArray, List.getElem_cons_zero, List.getElem_cons_succ, List.setIfInBounds_toArray, List.set_cons_zero, List.set_cons_succ]
                    refine wpAnyT_load (i := 5) (v := ?_) rfl (by kernel_rfl) (by kernel_rfl) (by kernel_rfl) (by kernel_rfl) (by kernel_rfl) (fun _ _ _ h => h) HSS.out (by rfl) ?_ ?_
                    rotate_left
                    · intro w hSw; skip; go_simp; try with_reducible rfl
                    simp only [Act.put, List.getElem_toArray, List.getElem_cons_zero, List.getElem_cons_succ, List.setIfInBounds_toArray, List.set_cons_zero, List.set_cons_succ]
                    refine wpAnyT_load (i := 6) (v := ?_) rfl (by kernel_rfl) (by kernel_rfl) (by kernel_rfl) (by kernel_rfl) (by kernel_rfl) (fun _ _ _ h => h) HSS.out (by rfl) ?_ ?_
                    rotate_left
                    · intro w hSw; have n1 := (HG2.out.keep hSw).cell 1; simp only [List.getElem?_toArray, List.getElem?_cons_succ, List.getElem?_cons_zero] at n1; go_simp; try with_reducible rfl
                    simp only [Act.put, List.getElem_toArray, List.getElem_cons_zero, List.getElem_cons_succ, List.setIfInBounds_toArray, List.set_cons_zero, List.set_cons_succ]
                    refine wpAnyT_load (i := 7) (v := ?_) rfl (by kernel_rfl) (by kernel_rfl) (by kernel_rfl) (by kernel_rfl) (by kernel_rfl) (fun _ _ _ h => h) HSS.out (by rfl) ?_ ?_
                    rotate_left
                    · intro w hSw; skip; go_simp; try with_reducible rfl
                    simp only [Act.put, List.getElem_toArray, List.getElem_cons_zero, List.getElem_cons_succ, List.setIfInBounds_toArray, List.set_cons_zero, List.set_cons_succ]
                    refine wpAnyT_load (i := 8) (v := ?_) rfl (by kernel_rfl) (by kernel_rfl) (by kernel_rfl) (by kernel_rfl) (by kernel_rfl) (fun _ _ _ h => h) HSS.out (by rfl) ?_ ?_
                    rotate_left
                    · intro w hSw; skip; go_simp; try with_reducible rfl
                    simp only [Act.put, List.getElem_toArray, List.getElem_cons_zero, List.getElem_cons_succ, List.setIfInBounds_toArray, List.set_cons_zero, List.set_cons_succ]
                    refine wpAnyT_load (i := 9) (v := ?_) rfl (by kernel_rfl) (by kernel_rfl) (by kernel_rfl) (by kernel_rfl) (by kernel_rfl) (fun _ _ _ h => h) HSS.out (by rfl) ?_ ?_
                    rotate_left
                    · intro w' hSw; refine run_load_mid_op 97 (.tmp 147) ?_ b2 (o2 + k * 2) ?_ (txc z2) _ (fr_rng hSw HRG2.out) Try.underlying97 rfl (by kernel_rfl) <;> rfl
                    simp only [Act.put, List.getElem_toArray, List.getElem_cons_zero, List.getElem_cons_succ, List.setIfInBounds_toArray, List.set_cons_zero, List.set_cons_succ]
                    refine wpAnyT_load (i := 10) (v := ?_) rfl (by kernel_rfl) (by kernel_rfl) (by kernel_rfl) (by kernel_rfl) (by kernel_rfl) (fun _ _ _ h => h) HSS.out (by rfl) ?_ ?_
                    rotate_left
                    · intro w' hSw; go_simp; exact neq_txt z1 z2 w'
                    simp only [Act.put, List.getElem_toArray, List.getElem_cons_zero, List.getElem_cons_succ, List.setIfInBounds_toArray, List.set_cons_zero, List.set_cons_succ]
                    refine wpAnyT_done (by kernel_rfl) ?_ _
                    cases he : (z1 == z2) with
                    | true =>
                      have HE2 := Lib.hid (beq_iff_eq.1 he)
                      clear he
                      go_wp2_with fail
                      refine ⟨⟨k + 1, by omega, by go_num, by rw [HK1.out, HK2.out, HTT.out, HE2.out], HFV.out⟩, by simp [intOf]; omega⟩
                    | false =>
                      have HE2 := Lib.hid (beq_eq_false_iff_ne.1 he)
                      have HX := Lib.hid (HNE.out (fun h => by
                        have h9 := HZ1.out
                        rw [h, HZ2.out] at h9
                        exact HE2.out (Option.some.inj h9).symm))
                      clear he
                      go_wp2_with fail
                      go_ret
                      exact ⟨ret_bool (by rw [HX.out]), HF.out.trans (HFW.out.trans HFV.out)⟩
                  · obtain rfl : k = t1 := by omega
                    have HTE : Hid (y1 = y2) := Lib.hid (by
                      have h9 := HTT.out
                      rw [List.take_of_length_le (by rw [HT1L.out]; exact Nat.le_refl _), List.take_of_length_le (by rw [HT2L.out]; exact Nat.le_refl _)] at h9
                      have h8 := HSE.out
                      cases y1; cases y2
                      simp only at h8 h9
                      subst h8 h9
                      rfl)
                    clear hk hlk
                    go_wp2_with fail
                    refine ⟨⟨j + 1, by omega, by go_num, by rw [HT1.out, HT2.out, HT.out, HTE.out], HFW.out.trans HFV.out⟩, by simp [intOf]; omega⟩
            · obtain rfl : j = nc := by omega
              have HRE : Hid ((x == y) = true) := Lib.hid (by
                rw [HE.out]
                have := HT.out
                rw [List.take_of_length_le (by rw [HNC.out]; exact Nat.le_refl _), List.take_of_length_le (by rw [HNCY.out]; exact Nat.le_refl _)] at this
                exact beq_iff_eq.2 this)
              clear hj hlt
              go_wp2_with fail
              go_ret
              exact ⟨ret_bool (by rw [HRE.out]), HF.out.trans HFW.out⟩
end Go.Proofs.Ytcmpjkopdjncdaa

/- The walks of confluxlaw07.all and same (printed by gen_7all.py). -/
namespace Go.Proofs.Ytcmpjkopdjncdaa
open Go.RowKit

set_option maxRecDepth 100000 in
set_option maxHeartbeats 8000000 in
theorem l07all_any {w : World} {v : Value} {xs : List Itm} {B : List Nat} (h : SlEls 10 ItR w v xs B) (ht : ∀ x ∈ xs, (∀ c ∈ x.chks, c.texts.length ≤ 5864062014805) ∧ x.reps.length ≤ 1099511000000 ∧ x.chks.length ≤ 1099511000000 ∧ x.srcs.length ≤ 1099511000000) (hn : xs.length ≤ 1000000) :
    Calls Try.prog 13 #[v] w fun e w' => ∃ u B', e = .returned u ∧ OwnEls 10 ItR w' w.heap.size 52 u xs B' ∧ Fr [] w w' := by
  obtain ⟨a, cap, rfl⟩ := h.shape
  have HL := Lib.hid h; have HT := Lib.hid ht; have HLT := Lib.hid (h.lt Rep.itm)
  obtain ⟨w1, e1, hF1, hB1, hs1⟩ := one_new w #[] 52
  have E1 := Lib.hid e1; have HO1 : Hid (OwnEls 10 ItR w1 w.heap.size 52 (.slice (some ⟨w.heap.size, 0, none⟩) 0 0) [] []) := Lib.hid (by rw [← e1]; exact OwnEls.made w w.heap.size _ (Nat.le_refl _))
  have HF := Lib.hid hF1
  clear h ht e1 hF1 hB1 hs1
  obtain ⟨n, hnn⟩ : ∃ n, xs.length = n := ⟨_, rfl⟩
  rw [hnn] at hn HL HLT ⊢
  have HN := Lib.hid hnn
  clear hnn
  go_enter Try.func13, Try.ntmps13
  go_upto_region 2 with fail
  rw [E1.out]
  clear E1
  go_upto_region 3 with fail
  go_loopw [3, 9] (fun ov iv wr => ∃ (j : Nat) (Bj : List Nat), j ≤ n ∧ iv = .int .i64 (j : Nat) ∧ OwnEls 10 ItR wr w.heap.size 52 ov (xs.take j) Bj ∧ Fr [] w wr) (fun _ iv _ => n - (intOf iv).toNat)
  case atStart => exact ⟨0, [], Nat.zero_le _, rfl, HO1.out, HF.out⟩
  case round =>
    clear HO1 HF
    obtain ⟨j, Bj, hj, rfl, hO, hF⟩ := hrel
    obtain ⟨ao, co, rfl⟩ := hO.shape
    have hlj : (xs.take j).length = j := by rw [List.length_take, HN.out]; omega
    rw [hlj] at hO ⊢
    have HLJ := Lib.hid hlj
    have HO := Lib.hid hO; have HF := Lib.hid hF
    clear hO hF hlj
    by_cases hlt : j < n
    · obtain ⟨b, o, c, y, B1, ea, -, hy, ⟨vr, vc, vs, Bc, rfl, hr, hc, hs, rfl⟩, hsub, hrg⟩ := (HL.out.keep Rep.itm HF.out).at_ Rep.itm (i := j) hlt
      subst ea
      obtain ⟨ar, cr, rfl⟩ := hr.shape
      obtain ⟨ac, cc, rfl⟩ := hc.shape
      obtain ⟨as_, cs, rfl⟩ := hs.shape
      have HRG := Lib.hid hrg
      have HYM := Lib.hid (HT.out y (List.mem_of_getElem? hy))
      have HTK : Hid (xs.take (j + 1) = xs.take j ++ [y]) := Lib.hid (by rw [List.take_add_one, hy]; rfl)
      have HOB := Lib.hid (fun b (hb : blockOf (.slice ao j co) = some b) => HO.out.block b hb)
      obtain ⟨wa, ea, hFa, hBa, hsa⟩ := one_new wr (itc y (.slice ar y.reps.length cr) (.slice ac y.chks.length cc) (.slice as_ y.srcs.length cs)) 42
      have EA := Lib.hid ea; have HX := Lib.hid hBa; have HR := Lib.hid (hr.keep Rep.rpt hFa); have HC := Lib.hid (hc.keep Rep.chk hFa); have HS := Lib.hid (hs.keep Rep.src hFa); have HFA := Lib.hid hFa
      have hlo : ∀ b ∈ (liveOf (.slice ar y.reps.length cr)).toList ++ ((liveOf (.slice ac y.chks.length cc)).toList ++ Bc) ++ (liveOf (.slice as_ y.srcs.length cs)).toList, b < w.heap.size := fun b hb => HLT.out.1 b (hsub b hb)
      have HRL := Lib.hid (fun b hb => hlo b (by simp only [List.mem_append]; exact .inl (.inl (mem_toList.2 hb)))); have HSL := Lib.hid (fun b hb => hlo b (by simp only [List.mem_append]; exact .inr (mem_toList.2 hb)))
      clear hrg hy ea hFa hBa hsa hr hc hs hsub hlo
      go_upto_region 5 with (refine wpList_load_midA rfl 42 (.tmp 11) rfl b (o + j * 10) rfl (itc y (.slice ar y.reps.length cr) (.slice ac y.chks.length cc) (.slice as_ y.srcs.length cs)) _ HRG.out Try.underlying42 rfl (by kernel_rfl) ?_)
      rw [EA.out]
      clear EA
      go_wp2_with (refine wpList_load_row_w rfl 42 (.tmp 5) rfl wr.heap.size rfl 42 _ _ HX.out Try.underlying42 rfl (by kernel_rfl) ?_)
      refine (l07as_any HR.out HC.out HS.out HYM.out.1 HYM.out.2).mono ?_
      rintro e w4 ⟨vc', B', rfl, hr, hc, hb', hs, hF⟩
      obtain ⟨ac2, cc2, rfl⟩ := hc.shape
      have HO := Lib.hid ((HO.out.keep Rep.itm HFA.out).keep Rep.itm hF); have HF4 := Lib.hid ((HF.out.trans HFA.out).trans hF)
      obtain ⟨w5, e5, hF5, hB5, hs5⟩ := one_new w4 (itc y (.slice ar y.reps.length cr) (.slice ac2 y.chks.length cc2) (.slice as_ y.srcs.length cs)) 52
      have E5 := Lib.hid e5; have HB5 := Lib.hid hB5; have HO := Lib.hid (HO.out.keep Rep.itm hF5); have HF5 := Lib.hid (HF4.out.trans hF5)
      have HCR : Hid (ItR w5 (itc y (.slice ar y.reps.length cr) (.slice ac2 y.chks.length cc2) (.slice as_ y.srcs.length cs)).toList y ((liveOf (.slice ar y.reps.length cr)).toList ++ ((liveOf (.slice ac2 y.chks.length cc2)).toList ++ B') ++ (liveOf (.slice as_ y.srcs.length cs)).toList)) := Lib.hid ⟨_, _, _, B', rfl, hr.keep Rep.rpt hF5, hc.sl.keep Rep.chk hF5, hs.keep Rep.src hF5, rfl⟩
      have HDJ : Hid (∀ b, blockOf (.slice ao j co) = some b → b ∉ ((liveOf (.slice ar y.reps.length cr)).toList ++ ((liveOf (.slice ac2 y.chks.length cc2)).toList ++ B') ++ (liveOf (.slice as_ y.srcs.length cs)).toList)) := Lib.hid (fun b hb hm => by
        have h1 := HOB.out b hb
        have h2 := HFA.out.size
        simp only [List.mem_append] at hm
        rcases hm with (hm | hm | hm) | hm
        · have := HRL.out b (mem_toList.1 hm); omega
        · have := (hc.block b (live_block (mem_toList.1 hm))).1; omega
        · have := hb' b hm; omega
        · have := HSL.out b (mem_toList.1 hm); omega)
      have HL1 : Hid ((xs.take j).length + 1 ≤ maxLen) := Lib.hid (by rw [HLJ.out]; unfold maxLen; omega)
      have HL2 : Hid (((xs.take j).length + 1) * 128 ≤ 140737488355328) := Lib.hid (by rw [HLJ.out]; omega)
      have HL3 : Hid (w.heap.size ≤ w5.heap.size) := Lib.hid HF5.out.size
      clear hr hc hb' hs hF e5 hF5 hB5 hs5
      go_wp2_with (at_builtin; (rw [E5.out]); refine wpList_append_el Rep.itm (by decide) rfl (.tmp 13) (.tmp 16) 29 rfl w.heap.size 52 (.agg #[.int .i64 0, .int .u32 0, .int .u64 0, .int .u32 0, .int .u32 0, .int .u32 0, .slice none 0 0, .slice none 0 0, .slice none 0 0, .string ⟨#[]⟩]) 128 Try.underlying29 info_ritm rfl (.slice ao j co) (xs.take j) Bj rfl HO.out w4.heap.size 0 1 rfl (itc y (.slice ar y.reps.length cr) (.slice ac2 y.chks.length cc2) (.slice as_ y.srcs.length cs)).toList y _ (box_range HB5.out) HCR.out HDJ.out HL1.out HL2.out HL3.out ?_; intro vs1 w7 hown1 hfr1 hbl1; rw [← HTK.out] at hown1; have HV1 := Lib.hid hown1; have HF7 := Lib.hid hfr1; clear hown1 hfr1 hbl1)
      have HNB : Hid (∀ b ∈ (blockOf (.slice ao j co)).toList, w.heap.size ≤ b) := Lib.hid (fun b hb => (HOB.out b (mem_toList.1 hb)).1)
      refine ⟨⟨j + 1, _, by omega, by go_num, HV1.out, HF5.out.step HF7.out (fun b hb => .inr (HNB.out b hb))⟩, by simp [intOf]; omega⟩
    · obtain rfl : j = n := by omega
      have hO := HO.out
      rw [List.take_of_length_le (by rw [HN.out]; exact Nat.le_refl _)] at hO
      have HO := Lib.hid hO
      clear hO hj hlt
      go_wp2_with fail
      go_ret
      exact ⟨_, _, rfl, HO.out, HF.out⟩
set_option maxRecDepth 100000 in
set_option maxHeartbeats 8000000 in
theorem l07same_any {w : World} {v1 v2 : Value} {l1 l2 : List Itm} {B1 B2 : List Nat} (h1 : SlEls 10 ItR w v1 l1 B1) (h2 : SlEls 10 ItR w v2 l2 B2) (hz1 : ∀ x ∈ l1, Sz7 x) (hz2 : ∀ x ∈ l2, Sz7 x) (hl1 : l1.length ≤ 1099511627776) (hl2 : l2.length ≤ 1099511627776) :
    Calls Try.prog 12 #[v1, v2] w fun e w' => e = .returned (.bool (l1 == l2)) ∧ Fr [] w w' := by
  obtain ⟨a1, c1, rfl⟩ := h1.shape
  obtain ⟨a2, c2, rfl⟩ := h2.shape
  have H1 := Lib.hid h1; have H2 := Lib.hid h2; have HZ1 := Lib.hid hz1; have HZ2 := Lib.hid hz2
  clear h1 h2 hz1 hz2
  by_cases hn : l1.length = l2.length
  · have HN := Lib.hid hn
    have t0 : (((l1.length : Nat) : Int) != ((l2.length : Nat) : Int)) = false := by rw [hn]; simp
    clear hn
    go_enter Try.func12, Try.ntmps12
    go_wp2_with fail
    clear t0
    go_loopw [13] (fun i wr => ∃ j : Nat, j ≤ l1.length ∧ i = .int .i64 j ∧ l1.take j = l2.take j ∧ Fr [] w wr) (fun i _ => l1.length - (intOf i).toNat)
    case atStart => exact ⟨0, Nat.zero_le _, rfl, rfl, Fr.refl _ _⟩
    case round =>
      obtain ⟨j, hj, rfl, htk, hF⟩ := hrel
      have HT := Lib.hid htk; have HF := Lib.hid hF
      clear htk hF
      by_cases hlt : j < l1.length
      · have hlt2 : j < l2.length := by have := HN.out; omega
        obtain ⟨b1, o1, k1, y1, B3, ea, -, hy1, ⟨vr1, vc1, vs1, Bc1, rfl, hr1, hc1, hs1, -⟩, -, hrg1⟩ := (H1.out.keep Rep.itm HF.out).at_ Rep.itm (i := j) hlt
        obtain ⟨b2, o2, k2, y2, B4, eb, -, hy2, ⟨vr2, vc2, vs2, Bc2, rfl, hr2, hc2, hs2, -⟩, -, hrg2⟩ := (H2.out.keep Rep.itm HF.out).at_ Rep.itm (i := j) hlt2
        subst ea eb
        obtain ⟨ar1, cr1, rfl⟩ := hr1.shape
        obtain ⟨ac1, cc1, rfl⟩ := hc1.shape
        obtain ⟨as1, cs1, rfl⟩ := hs1.shape
        obtain ⟨ar2, cr2, rfl⟩ := hr2.shape
        obtain ⟨ac2, cc2, rfl⟩ := hc2.shape
        obtain ⟨as2, cs2, rfl⟩ := hs2.shape
        have HRG1 := Lib.hid hrg1; have HRG2 := Lib.hid hrg2; have HY1 := Lib.hid hy1; have HY2 := Lib.hid hy2
        have HR1 := Lib.hid hr1; have HC1 := Lib.hid hc1; have HS1 := Lib.hid hs1; have HR2 := Lib.hid hr2; have HC2 := Lib.hid hc2; have HS2 := Lib.hid hs2
        have HM1 := Lib.hid (HZ1.out y1 (List.mem_of_getElem? hy1)); have HM2 := Lib.hid (HZ2.out y2 (List.mem_of_getElem? hy2))
        have HT1 : Hid (l1.take (j + 1) = l1.take j ++ [y1]) := Lib.hid (by rw [List.take_add_one, hy1]; rfl)
        have HT2 : Hid (l2.take (j + 1) = l2.take j ++ [y2]) := Lib.hid (by rw [List.take_add_one, hy2]; rfl)
        clear hrg1 hrg2 hy1 hy2 hr1 hc1 hs1 hr2 hc2 hs2
        go_upto_region 6 with fail
        refine wp_region_T (fun w' => Fr [] wr.drew w') [] 10 #[false, false, false, false, false, false, false, false, false, false] (by kernel_rfl) rfl rfl ?_
        try simp only [List.append_eq, List.cons_append, List.nil_append]
        have hF := (Fr.refl [] wr).drew
        have HF := Lib.hid (HF.out.trans hF)
        have HRG1 : Hid (World.rangeAt _ _ _ _) := Lib.hid (fr_rng hF HRG1.out)
        have HRG2 : Hid (World.rangeAt _ _ _ _) := Lib.hid (fr_rng hF HRG2.out)
        have HR1 := Lib.hid (HR1.out.keep Rep.rpt hF); have HC1 := Lib.hid (HC1.out.keep Rep.chk hF); have HS1 := Lib.hid (HS1.out.keep Rep.src hF); have HR2 := Lib.hid (HR2.out.keep Rep.rpt hF); have HC2 := Lib.hid (HC2.out.keep Rep.chk hF); have HS2 := Lib.hid (HS2.out.keep Rep.src hF)
        clear hF
        have HSS : Hid (Fr [] wr.drew wr.drew) := Lib.hid (Fr.refl _ _)
        generalize wr.drew = wd at *
        refine wpAnyT_load (i := 0) (v := ?_) rfl (by kernel_rfl) (by kernel_rfl) (by kernel_rfl) (by kernel_rfl) (by kernel_rfl) (fun _ _ _ h => h) HSS.out (by rfl) ?_ ?_
        rotate_left
        · intro w hSw; skip; go_simp; try with_reducible rfl
        simp only [Act.put, List.getElem_toArray, List.getElem_cons_zero, List.getElem_cons_succ, List.setIfInBounds_toArray, List.set_cons_zero, List.set_cons_succ]
        refine wpAnyT_load (i := 1) (v := ?_) rfl (by kernel_rfl) (by kernel_rfl) (by kernel_rfl) (by kernel_rfl) (by kernel_rfl) (fun _ _ _ h => h) HSS.out (by rfl) ?_ ?_
        rotate_left
        · intro w hSw; skip; go_simp; try with_reducible rfl
        simp only [Act.put, List.getElem_toArray, List.getElem_cons_zero, List.getElem_cons_succ, List.setIfInBounds_toArray, List.set_cons_zero, List.set_cons_succ]
        refine wpAnyT_load (i := 2) (v := ?_) rfl (by kernel_rfl) (by kernel_rfl) (by kernel_rfl) (by kernel_rfl) (by kernel_rfl) (fun _ _ _ h => h) HSS.out (by rfl) ?_ ?_
        rotate_left
        · intro w hSw; skip; go_simp; try with_reducible rfl
        simp only [Act.put, List.getElem_toArray, List.getElem_cons_zero, List.getElem_cons_succ, List.setIfInBounds_toArray, List.set_cons_zero, List.set_cons_succ]
        refine wpAnyT_load (i := 3) (v := ?_) rfl (by kernel_rfl) (by kernel_rfl) (by kernel_rfl) (by kernel_rfl) (by kernel_rfl) (fun _ _ _ h => h) HSS.out (by rfl) ?_ ?_
        rotate_left
        · intro w' hSw; refine run_load_mid_op 52 (.tmp 18) ?_ b1 (o1 + j * 10) ?_ (itc y1 (.slice ar1 y1.reps.length cr1) (.slice ac1 y1.chks.length cc1) (.slice as1 y1.srcs.length cs1)) _ (fr_rng hSw HRG1.out) Try.underlying52 rfl (by kernel_rfl) <;> rfl
        simp only [Act.put, List.getElem_toArray, List.getElem_cons_zero, List.getElem_cons_succ, List.setIfInBounds_toArray, List.set_cons_zero, List.set_cons_succ]
        refine wpAnyT_load (i := 4) (v := ?_) rfl (by kernel_rfl) (by kernel_rfl) (by kernel_rfl) (by kernel_rfl) (by kernel_rfl) (fun _ _ _ h => h) HSS.out (by rfl) ?_ ?_
        rotate_left
        · intro w hSw; skip; go_simp; try with_reducible rfl
        simp only [Act.put, List.getElem_toArray, List.getElem_cons_zero, List.getElem_cons_succ, List.setIfInBounds_toArray, List.set_cons_zero, List.set_cons_succ]
        refine wpAnyT_load (i := 5) (v := ?_) rfl (by kernel_rfl) (by kernel_rfl) (by kernel_rfl) (by kernel_rfl) (by kernel_rfl) (fun _ _ _ h => h) HSS.out (by rfl) ?_ ?_
        rotate_left
        · intro w hSw; skip; go_simp; try with_reducible rfl
        simp only [Act.put, List.getElem_toArray, List.getElem_cons_zero, List.getElem_cons_succ, List.setIfInBounds_toArray, List.set_cons_zero, List.set_cons_succ]
        refine wpAnyT_load (i := 6) (v := ?_) rfl (by kernel_rfl) (by kernel_rfl) (by kernel_rfl) (by kernel_rfl) (by kernel_rfl) (fun _ _ _ h => h) HSS.out (by rfl) ?_ ?_
        rotate_left
        · intro w hSw; skip; go_simp; try with_reducible rfl
        simp only [Act.put, List.getElem_toArray, List.getElem_cons_zero, List.getElem_cons_succ, List.setIfInBounds_toArray, List.set_cons_zero, List.set_cons_succ]
        refine wpAnyT_load (i := 7) (v := ?_) rfl (by kernel_rfl) (by kernel_rfl) (by kernel_rfl) (by kernel_rfl) (by kernel_rfl) (fun _ _ _ h => h) HSS.out (by rfl) ?_ ?_
        rotate_left
        · intro w' hSw; refine run_load_mid_op 52 (.tmp 22) ?_ b2 (o2 + j * 10) ?_ (itc y2 (.slice ar2 y2.reps.length cr2) (.slice ac2 y2.chks.length cc2) (.slice as2 y2.srcs.length cs2)) _ (fr_rng hSw HRG2.out) Try.underlying52 rfl (by kernel_rfl) <;> rfl
        simp only [Act.put, List.getElem_toArray, List.getElem_cons_zero, List.getElem_cons_succ, List.setIfInBounds_toArray, List.set_cons_zero, List.set_cons_succ]
        refine wpAnyT_one (i := 8) (by kernel_rfl) rfl (fun K hK => ?_)
        rw [if_pos (by rfl)]
        go_simp
        refine (r07Same_any HR1.out HC1.out HS1.out HR2.out HC2.out HS2.out HM1.out HM2.out).mono ?_
        rintro e wl ⟨rfl, hF⟩
        have HSS := Lib.hid (HSS.out.trans hF); have HF := Lib.hid (HF.out.trans hF)
        clear hF
        go_simp
        refine hK.out _ _ (fun _ => HSS.out) ?_
        clear hK K
        simp only [Act.put, List.getElem_toArray, List.getElem_cons_zero, List.getElem_cons_succ, List.setIfInBounds_toArray, List.set_cons_zero, List.set_cons_succ]
        generalize hbb : (y1 == y2) = bb
        refine wpAnyT_load (i := 9) (v := ?_) rfl (by kernel_rfl) (by kernel_rfl) (by kernel_rfl) (by kernel_rfl) (by kernel_rfl) (fun _ _ _ h => h) HSS.out (by rfl) ?_ ?_
        rotate_left
        · intro w hSw; skip; go_simp; try with_reducible rfl
        simp only [Act.put, List.getElem_toArray, List.getElem_cons_zero, List.getElem_cons_succ, List.setIfInBounds_toArray, List.set_cons_zero, List.set_cons_succ]
        refine wpAnyT_done (by kernel_rfl) ?_ _
        cases bb with
        | true =>
          have HE := Lib.hid (beq_iff_eq.1 hbb)
          clear hbb
          go_wp2_with fail
          go_roundw
          case rel => exact ⟨j + 1, by omega, by go_num, by rw [HT1.out, HT2.out, HT.out, HE.out], HF.out⟩
          case measure => simp [intOf]; omega
        | false =>
          have HE := Lib.hid (beq_eq_false_iff_ne.1 hbb)
          clear hbb
          go_wp2_with fail
          go_ret
          refine ⟨ret_bool ?_, HF.out⟩
          symm
          rw [beq_eq_false_iff_ne]
          intro h
          subst h
          have := HY1.out.symm.trans HY2.out
          exact HE.out (Option.some.inj this)
      · go_wp2_with fail
        go_ret
        refine ⟨ret_bool ?_, HF.out⟩
        symm
        have := HT.out
        rw [List.take_of_length_le (by omega), List.take_of_length_le (by have := HN.out; omega)] at this
        rw [this]
        simp
  · have t0 : (((l1.length : Nat) : Int) != ((l2.length : Nat) : Int)) = true := by simp; omega
    have HN := Lib.hid hn
    clear hn
    go_enter Try.func12, Try.ntmps12
    go_wp2_with fail
    go_ret
    refine ⟨ret_bool ?_, Fr.refl _ _⟩
    symm
    rw [beq_eq_false_iff_ne]
    intro h
    exact HN.out (congrArg List.length h)
end Go.Proofs.Ytcmpjkopdjncdaa

/- RTCP: what is parsed is written as the same bytes. No program in sight. -/
namespace Go.Proofs.Ytcmpjkopdjncdaa

def sl (l : List UInt8) (k n : Nat) : List UInt8 := (l.drop k).take n
theorem sl_add (l : List UInt8) (k a b : Nat) : sl l k a ++ sl l (k + a) b = sl l k (a + b) := by unfold sl; rw [List.take_add, List.drop_drop]
theorem sl_len {l : List UInt8} {k n : Nat} (h : k + n ≤ l.length) : (sl l k n).length = n := by unfold sl; rw [List.length_take, List.length_drop]; omega
theorem sl_zero (l : List UInt8) (k : Nat) : sl l k 0 = [] := by unfold sl; simp
theorem sl_beN {l : List UInt8} {k m : Nat} (h : k + m ≤ l.length) : beN (nb l k m) m = sl l k m := beN_nb h
theorem sl_32 {l : List UInt8} {k : Nat} (h : k + 4 ≤ l.length) : beN (l32 l k).toNat 4 = sl l k 4 := by rw [l32_nat]; exact sl_beN h
theorem ib_beN (n : Nat) : [ib (n : Int)] = beN n 1 := by
  unfold ib beN
  simp only [List.range_one, List.map_cons, List.map_nil, Nat.sub_self, Nat.pow_zero, Nat.div_one, List.cons.injEq, and_true]
  rw [← UInt8.toNat_inj]
  simp only [UInt8.toNat_ofNat']
  omega
theorem sl_1 {l : List UInt8} {k : Nat} (h : k + 1 ≤ l.length) : [ib ((nb l k 1 : Nat) : Int)] = sl l k 1 := by rw [ib_beN]; exact sl_beN h
theorem ib_mod {a b : Int} (h : a % 256 = b % 256) : ib a = ib b := by unfold ib; rw [h]
theorem rptW_at {l : List UInt8} {k : Nat} (h : k + 24 ≤ l.length) : rptW (rptAt l k) = sl l k 24 := by
  have ha := nb_lt l (k + 5) 1
  have hb := nb_lt l (k + 6) 2
  have e1 : [ib ((rptAt l k).lost / 65536)] = sl l (k + 5) 1 := by
    rw [← sl_1 (by omega)]
    congr 1
    apply ib_mod
    show sgn24 (nb l (k + 5) 1 * 65536 + nb l (k + 6) 2) / 65536 % 256 = _
    unfold sgn24
    split <;> omega
  have e2 : beN ((rptAt l k).lost % 65536).toNat 2 = sl l (k + 6) 2 := by
    rw [← sl_beN (by omega)]
    congr 1
    show (sgn24 (nb l (k + 5) 1 * 65536 + nb l (k + 6) 2) % 65536).toNat = _
    unfold sgn24
    split <;> omega
  have e3 : [ib (rptAt l k).loss] = sl l (k + 4) 1 := sl_1 (by omega)
  unfold rptW rptHead rptTail
  rw [e1, e2, e3]
  show beN (l32 l k).toNat 4 ++ sl l (k + 4) 1 ++ sl l (k + 5) 1 ++ sl l (k + 6) 2 ++ ([l32 l (k + 8), l32 l (k + 12), l32 l (k + 16), l32 l (k + 20)].flatMap fun n => beN n.toNat 4) = _
  simp only [List.flatMap_cons, List.flatMap_nil, List.append_nil]
  rw [sl_32 (by omega), sl_32 (by omega), sl_32 (by omega), sl_32 (by omega), sl_32 (by omega)]
  rw [sl_add, show k + 5 = k + (4 + 1) by omega, sl_add, show k + 6 = k + (4 + 1 + 1) by omega, sl_add, sl_add l (k + 16) 4 4, sl_add l (k + 12), sl_add l (k + 8), show k + 8 = k + (4 + 1 + 1 + 2) by omega, sl_add]
theorem zeros_sl {l : List UInt8} : ∀ {m k : Nat}, zerosR l m k = true → sl l k m = List.replicate m 0
  | 0, k, _ => sl_zero l k
  | m + 1, k, h => by
    unfold zerosR at h
    simp only [Bool.and_eq_true, decide_eq_true_eq, beq_iff_eq] at h
    have h1 := sl_1 h.1.1
    rw [h.1.2] at h1
    have h2 := zeros_sl h.2
    have h3 := sl_add l k 1 m
    rw [Nat.add_comm m 1, ← h3, h2, ← h1, Nat.add_comm 1 m]
    rfl
theorem textsR_back {l : List UInt8} : ∀ {f k : Nat} {ts : List (Int × List UInt8)} {e : Nat}, textsR l f k = some (ts, e) → ts.flatMap txtW ++ [0] = sl l k (e - k) ∧ ∀ t ∈ ts, 1 ≤ t.1 ∧ t.1 ≤ 255 ∧ t.2.length ≤ 255
  | 0, k, ts, e, h => by cases h
  | f + 1, k, ts, e, h => by
    rw [textsR_succ] at h
    split at h
    · rename_i h1
      split at h
      · rename_i h2
        cases h
        refine ⟨?_, by simp⟩
        have h3 := sl_1 h1
        rw [h2] at h3
        rw [Nat.add_sub_cancel_left, ← h3]
        rfl
      · rename_i h2
        split at h
        · rename_i h3
          split at h
          · rename_i h4
            cases ht : textsR l f (k + 2 + nb l (k + 1) 1) with
            | none => rw [ht] at h; cases h
            | some r =>
              rw [ht] at h
              cases h
              have hl := textsR_len l f _ (ts := r.1) (e := r.2) (by rw [ht])
              obtain ⟨g1, g2⟩ := textsR_back (ts := r.1) (e := r.2) (by rw [ht])
              have hlt := nb_lt l (k + 1) 1
              have hlk := nb_lt l k 1
              have hlen : (sl l (k + 2) (nb l (k + 1) 1)).length = nb l (k + 1) 1 := sl_len h4
              refine ⟨?_, fun t ht => ?_⟩
              · show ((((nb l k 1 : Nat) : Int), sl l (k + 2) (nb l (k + 1) 1)) :: r.1).flatMap txtW ++ [0] = _
                rw [List.flatMap_cons, List.append_assoc, g1]
                unfold txtW
                simp only
                rw [hlen]
                have q1 : [ib ((nb l k 1 : Nat) : Int), ib ((nb l (k + 1) 1 : Nat) : Int)] = sl l k 2 := by
                  have := sl_add l k 1 1
                  rw [← sl_1 (by omega), ← sl_1 (by omega)] at this
                  exact this
                rw [q1, sl_add, Nat.add_assoc k 2, sl_add]
                congr 1
                omega
              · rcases List.mem_cons.1 ht with rfl | ht
                · refine ⟨?_, ?_, ?_⟩
                  · show (1 : Int) ≤ ((nb l k 1 : Nat) : Int); omega
                  · show ((nb l k 1 : Nat) : Int) ≤ 255; omega
                  · show (sl l (k + 2) (nb l (k + 1) 1)).length ≤ 255; omega
                · exact g2 t ht
          · cases h
        · cases h
    · cases h
theorem rightCk_of {x : Chk} (h : ∀ t ∈ x.texts, 1 ≤ t.1 ∧ t.1 ≤ 255 ∧ t.2.length ≤ 255) : rightCk x = true := by
  unfold rightCk
  rw [Bool.not_eq_true', List.any_eq_false]
  intro t ht
  have := h t ht
  unfold wrongTx
  simp only [Bool.or_eq_true, decide_eq_true_eq]
  omega
theorem chk1_back {l : List UInt8} {k : Nat} {x : Chk} {e : Nat} (h : chk1 l k = some (x, e)) : chkW x = sl l k (e - k) ∧ rightCk x = true := by
  unfold chk1 at h
  split at h
  · rename_i h4
    cases ht : textsR l (l.length + 1) (k + 4) with
    | none => rw [ht] at h; cases h
    | some r =>
      obtain ⟨ts, e2⟩ := r
      rw [ht] at h
      simp only at h
      have hl := textsR_len l _ _ ht
      obtain ⟨g1, g2⟩ := textsR_back ht
      split at h
      · rename_i hz
        cases h
        refine ⟨?_, rightCk_of g2⟩
        have h0 : chkW0 ⟨l32 l k, ts⟩ = sl l k (e2 - k) := by
          unfold chkW0
          simp only
          rw [List.append_assoc, g1, sl_32 h4, sl_add]
          congr 1
          omega
        unfold chkW
        rw [h0, sl_len (by omega), ← zeros_sl hz]
        have h1 := sl_add l k (e2 - k) (padOf (e2 - k))
        rw [show k + (e2 - k) = e2 by omega] at h1
        rw [h1]
        congr 1
        omega
      · cases h
  · cases h
theorem times_back {α : Type} {l : List UInt8} {P : Nat → Option (α × Nat)} {W : α → List UInt8} {Ok : α → Prop} (hP : ∀ k x e, P k = some (x, e) → k ≤ e ∧ W x = sl l k (e - k) ∧ Ok x) : ∀ {n k : Nat} {xs : List α} {e : Nat}, timesR P n k = some (xs, e) → k ≤ e ∧ xs.length = n ∧ xs.flatMap W = sl l k (e - k) ∧ ∀ x ∈ xs, Ok x
  | 0, k, xs, e, h => by cases h; exact ⟨Nat.le_refl _, rfl, by rw [Nat.sub_self, sl_zero]; rfl, by simp⟩
  | n + 1, k, xs, e, h => by
    unfold timesR at h
    cases hp : P k with
    | none => rw [hp] at h; cases h
    | some p =>
      obtain ⟨x, k1⟩ := p
      rw [hp] at h
      simp only at h
      cases ht : timesR P n k1 with
      | none => rw [ht] at h; cases h
      | some r =>
        rw [ht] at h
        cases h
        obtain ⟨g0, g1, g2⟩ := hP _ _ _ hp
        obtain ⟨q0, q1, q2, q3⟩ := times_back hP (xs := r.1) (e := r.2) (by rw [ht])
        refine ⟨by omega, by rw [List.length_cons, q1], ?_, ?_⟩
        · show (x :: r.1).flatMap W = sl l k (r.2 - k)
          rw [List.flatMap_cons, g1, q2]
          have h1 := sl_add l k (k1 - k) (r.2 - k1)
          rw [show k + (k1 - k) = k1 by omega] at h1
          rw [h1]
          congr 1
          omega
        · intro y hy
          rcases List.mem_cons.1 hy with rfl | hy
          · exact g2
          · exact q3 y hy
theorem rpt1_back {l : List UInt8} : ∀ k x e, rpt1 l k = some (x, e) → k ≤ e ∧ rptW x = sl l k (e - k) ∧ (rightRp x = true) := by
  intro k x e h
  unfold rpt1 at h
  split at h
  · rename_i h24
    cases h
    refine ⟨by omega, by rw [rptW_at h24, Nat.add_sub_cancel_left], ?_⟩
    have ha := nb_lt l (k + 5) 1
    have hb := nb_lt l (k + 6) 2
    have hc := nb_lt l (k + 4) 1
    unfold rightRp
    have hs : -8388608 ≤ sgn24 (nb l (k + 5) 1 * 65536 + nb l (k + 6) 2) ∧ sgn24 (nb l (k + 5) 1 * 65536 + nb l (k + 6) 2) < 8388608 := by unfold sgn24; split <;> omega
    have h1 : (rptAt l k).loss = ((nb l (k + 4) 1 : Nat) : Int) := rfl
    have h2 : (rptAt l k).lost = sgn24 (nb l (k + 5) 1 * 65536 + nb l (k + 6) 2) := rfl
    rw [h1, h2]
    simp only [Bool.and_eq_true, decide_eq_true_eq]
    omega
  · cases h
theorem src1_back {l : List UInt8} : ∀ k x e, src1 l k = some (x, e) → k ≤ e ∧ srcW x = sl l k (e - k) ∧ True := by
  intro k x e h
  unfold src1 at h
  split at h
  · rename_i h4
    cases h
    exact ⟨by omega, by unfold srcW; rw [sl_32 h4, Nat.add_sub_cancel_left], trivial⟩
  · cases h
theorem bodyW_plain {x : Itm} (h : x.reason = []) : bodyW x = body3 x := by unfold bodyW; rw [if_pos h]
theorem bodyW_pad {x : Itm} (h : x.reason ≠ []) : bodyW x = padW (body3 x ++ [ib (x.reason.length : Nat)] ++ x.reason) := by unfold bodyW; rw [if_neg h]
theorem sl_all (l : List UInt8) : sl l 0 l.length = l := by unfold sl; simp
theorem right7_of {x : Itm} {n : Nat} (hc : count7 x = (n, true)) (hn : n ≤ 31) (hr : x.reason.length ≤ 255) (h1 : ∀ r ∈ x.reps, rightRp r = true) (h2 : ∀ c ∈ x.chks, rightCk c = true) : right7 x = true := by
  unfold right7
  rw [hc]
  have e1 : (x.reps.any fun r => !rightRp r) = false := List.any_eq_false.2 (fun r hr => by rw [h1 r hr]; simp)
  have e2 : (x.chks.any fun c => !rightCk c) = false := List.any_eq_false.2 (fun c hc => by rw [h2 c hc]; simp)
  rw [e1, e2, decide_eq_true hn, decide_eq_true hr]
  rfl
/-- A body that is read is written as the same bytes, and is right. -/
theorem body_back {kind : Int} {n : Nat} {l : List UInt8} {x : Itm} (hn : n ≤ 31) (h : bodyR kind n l = some x) : bodyW x = l ∧ x.kind = kind ∧ count7 x = (n, true) ∧ right7 x = true := by
  unfold bodyR at h
  cases hk : bodyK kind n l with
  | none => rw [hk] at h; cases h
  | some p =>
    obtain ⟨y, k⟩ := p
    rw [hk] at h
    simp only at h
    split at h
    · rename_i hkl
      cases h
      unfold bodyK at hk
      split at hk
      · rename_i h200
        subst h200
        split at hk
        · rename_i h24
          cases ht : timesR (rpt1 l) n 24 with
          | none => rw [ht] at hk; cases hk
          | some r =>
            rw [ht] at hk
            cases hk
            obtain ⟨q0, q1, q2, q3⟩ := times_back rpt1_back (xs := r.1) (e := r.2) (by rw [ht])
            have hc : count7 { Itm.zero 200 with ssrc := l32 l 0, ntp := l64 l 4, ts := l32 l 12, pks := l32 l 16, ocs := l32 l 20, reps := r.1 } = (n, true) := by
              unfold count7
              simp [Itm.zero, q1]
            refine ⟨?_, rfl, hc, right7_of hc hn (by simp [Itm.zero]) q3 (by simp [Itm.zero])⟩
            rw [bodyW_plain rfl]
            unfold body3 hd7
            simp only [Itm.zero, if_true, List.flatMap_nil, List.append_nil]
            rw [q2, sl_32 (by omega), l64_nat, sl_beN (by omega), sl_32 (by omega), sl_32 (by omega), sl_32 (by omega)]
            have e1 := sl_add l 0 4 8
            have e2 := sl_add l 0 12 4
            have e3 := sl_add l 0 16 4
            have e4 := sl_add l 0 20 4
            have e5 := sl_add l 0 24 (r.2 - 24)
            simp only [Nat.zero_add] at e1 e2 e3 e4 e5
            rw [e1, e2, e3, e4, e5, show 24 + (r.2 - 24) = l.length by omega]
            exact sl_all l
        · cases hk
      · split at hk
        · rename_i h200 h201
          subst h201
          split at hk
          · rename_i h4
            cases ht : timesR (rpt1 l) n 4 with
            | none => rw [ht] at hk; cases hk
            | some r =>
              rw [ht] at hk
              cases hk
              obtain ⟨q0, q1, q2, q3⟩ := times_back rpt1_back (xs := r.1) (e := r.2) (by rw [ht])
              have hc : count7 { Itm.zero 201 with ssrc := l32 l 0, reps := r.1 } = (n, true) := by
                unfold count7
                simp [Itm.zero, q1, plain7]
              refine ⟨?_, rfl, hc, right7_of hc hn (by simp [Itm.zero]) q3 (by simp [Itm.zero])⟩
              rw [bodyW_plain rfl]
              unfold body3 hd7
              simp only [Itm.zero, List.flatMap_nil, List.append_nil]
              simp only [show ¬ (201 : Int) = 200 by decide, if_false, if_true]
              rw [q2, sl_32 (by omega)]
              have e5 := sl_add l 0 4 (r.2 - 4)
              simp only [Nat.zero_add] at e5
              rw [e5, show 4 + (r.2 - 4) = l.length by omega]
              exact sl_all l
          · cases hk
        · split at hk
          · rename_i h200 h201 h202
            subst h202
            cases ht : timesR (chk1 l) n 0 with
            | none => rw [ht] at hk; cases hk
            | some r =>
              rw [ht] at hk
              cases hk
              obtain ⟨q0, q1, q2, q3⟩ := times_back (fun k x e h => ⟨by have := (chk1_le h).1; omega, (chk1_back h).1, (chk1_back h).2⟩) (xs := r.1) (e := r.2) (by rw [ht])
              have hc : count7 { Itm.zero 202 with chks := r.1 } = (n, true) := by
                unfold count7
                simp [Itm.zero, q1, plain7]
              refine ⟨?_, rfl, hc, right7_of hc hn (by simp [Itm.zero]) (by simp [Itm.zero]) q3⟩
              rw [bodyW_plain rfl]
              unfold body3 hd7
              simp only [Itm.zero, List.flatMap_nil, List.append_nil]
              simp only [show ¬ (202 : Int) = 200 by decide, show ¬ (202 : Int) = 201 by decide, if_false, List.nil_append]
              rw [q2, Nat.sub_zero, hkl]
              exact sl_all l
          · split at hk
            · rename_i h200 h201 h202 h203
              subst h203
              cases ht : timesR (src1 l) n 0 with
              | none => rw [ht] at hk; cases hk
              | some r =>
                obtain ⟨ss, k4⟩ := r
                rw [ht] at hk
                simp only at hk
                obtain ⟨q0, q1, q2, -⟩ := times_back src1_back ht
                have hk4 : k4 = 4 * n := by
                  rw [times_src l n 0 (Nat.zero_le _)] at ht
                  split at ht
                  · cases ht; omega
                  · cases ht
                have hb3 : ∀ s, body3 { Itm.zero 203 with srcs := ss, reason := s } = sl l 0 k4 := by
                  intro s
                  unfold body3 hd7
                  simp only [Itm.zero, List.flatMap_nil, List.append_nil]
                  simp only [show ¬ (203 : Int) = 200 by decide, show ¬ (203 : Int) = 201 by decide, if_false, List.nil_append]
                  rw [q2, Nat.sub_zero]
                have hcn : ∀ s, count7 { Itm.zero 203 with srcs := ss, reason := s } = (n, true) := by
                  intro s
                  unfold count7
                  simp [Itm.zero, q1, plain7]
                cases hrs : reasonR l k4 with
                | none => rw [hrs] at hk; cases hk
                | some r =>
                  obtain ⟨s, e⟩ := r
                  rw [hrs] at hk
                  cases hk
                  subst hkl
                  unfold reasonR at hrs
                  split at hrs
                  · rename_i hkl
                    cases hrs
                    refine ⟨?_, rfl, hcn _, right7_of (hcn _) hn (by simp) (by simp [Itm.zero]) (by simp [Itm.zero])⟩
                    rw [bodyW_plain rfl, hb3, hkl]
                    exact sl_all l
                  · split at hrs
                    · cases hrs
                    · rename_i hkl h1
                      split at hrs
                      · rename_i h2
                        split at hrs
                        · rename_i hz
                          simp only [Option.some.injEq, Prod.mk.injEq] at hrs
                          obtain ⟨rfl, he⟩ := hrs
                          have hlt := nb_lt l k4 1
                          have hsl : (sl l (k4 + 1) (nb l k4 1)).length = nb l k4 1 := sl_len h2
                          have hne : sl l (k4 + 1) (nb l k4 1) ≠ [] := fun h => by rw [h] at hsl; simp at hsl; omega
                          refine ⟨?_, rfl, hcn _, right7_of (hcn _) hn ?_ (by simp [Itm.zero]) (by simp [Itm.zero])⟩
                          · show bodyW { Itm.zero 203 with srcs := ss, reason := sl l (k4 + 1) (nb l k4 1) } = l
                            rw [bodyW_pad hne, hb3]
                            simp only
                            rw [hsl, sl_1 (by omega)]
                            have e1 := sl_add l 0 k4 1
                            have e2 := sl_add l 0 (k4 + 1) (nb l k4 1)
                            simp only [Nat.zero_add] at e1 e2
                            rw [e1, e2]
                            unfold padW
                            rw [sl_len (by omega)]
                            have hpe : padOf (k4 + 1 + nb l k4 1) = padOf (nb l k4 1 + 1) := by unfold padOf; omega
                            rw [hpe, ← zeros_sl hz]
                            have e3 := sl_add l 0 (k4 + 1 + nb l k4 1) (padOf (nb l k4 1 + 1))
                            simp only [Nat.zero_add] at e3
                            rw [e3, he]
                            exact sl_all l
                          · show (sl l (k4 + 1) (nb l k4 1)).length ≤ 255
                            omega
                        · cases hrs
                      · cases hrs
            · cases hk
    · cases h
end Go.Proofs.Ytcmpjkopdjncdaa

/- RTCP: packets that are parsed are written as the same bytes. No program in sight. -/
namespace Go.Proofs.Ytcmpjkopdjncdaa

theorem flat_ge {α : Type} (f : α → List UInt8) (xs : List α) (h : ∀ x ∈ xs, 1 ≤ (f x).length) : xs.length ≤ (xs.flatMap f).length := by
  induction xs with
  | nil => simp
  | cons x xs ih =>
    rw [List.flatMap_cons, List.length_append, List.length_cons]
    have h1 := h x (by simp)
    have h2 := ih (fun y hy => h y (by simp [hy]))
    omega
theorem flat_mem {α : Type} (f : α → List UInt8) {xs : List α} {x : α} (h : x ∈ xs) : (f x).length ≤ (xs.flatMap f).length := by
  induction xs with
  | nil => cases h
  | cons y xs ih =>
    rw [List.flatMap_cons, List.length_append]
    rcases List.mem_cons.1 h with rfl | h
    · omega
    · have := ih h; omega
theorem right7_parts {x : Itm} (h : right7 x = true) : (count7 x).2 = true ∧ (∀ r ∈ x.reps, rightRp r = true) ∧ ∀ c ∈ x.chks, rightCk c = true := by
  unfold right7 at h
  simp only [Bool.and_eq_true, Bool.not_eq_true', List.any_eq_false] at h
  exact ⟨h.1.1.1.1, fun r hr => by have := h.1.2 r hr; simpa using this, fun c hc => by have := h.2 c hc; simpa using this⟩
theorem sz_of {x : Itm} (hb : (body3 x).length + x.reason.length ≤ 1099511000000) (hr : right7 x = true) : Sz7 x := by
  have hp := right7_parts hr
  have h1 := flat_ge rptW x.reps (fun r _ => by unfold rptW rptHead; simp only [List.length_append, beN_len, List.length_singleton]; omega)
  have h2 := flat_ge chkW x.chks (fun c _ => by unfold chkW chkW0; simp only [List.length_append, beN_len]; omega)
  have h3 := flat_ge srcW x.srcs (fun c _ => by unfold srcW; rw [beN_len]; omega)
  have hl : (body3 x).length = (hd7 x).length + (x.reps.flatMap rptW).length + (x.chks.flatMap chkW).length + (x.srcs.flatMap srcW).length := by unfold body3; simp only [List.length_append]
  refine ⟨⟨by omega, by omega, by omega⟩, fun c hc => ?_, hb, fun r hr => ?_⟩
  · have h4 := flat_mem chkW hc
    have h5 := chkW_ge c
    have h6 := flat_ge txtW c.texts (fun t _ => by unfold txtW; simp)
    omega
  · have := hp.2.1 r hr
    unfold rightRp at this
    simp only [Bool.and_eq_true, decide_eq_true_eq] at this
    omega
theorem item_back {l : List UInt8} {x : Itm} {k : Nat} (h : itemR l = .ok (x, k)) (hl : l.length ≤ 1500) : itemW x = l.take k ∧ right7 x = true ∧ k ≤ l.length ∧ k % 4 = 0 ∧ (bodyW x).length ≤ 1500 := by
  unfold itemR at h
  split at h
  · split at h
    · rename_i h1 h4
      split at h
      · split at h
        · rename_i h5 h6
          cases hb : bodyR (nb l 1 1) (nb l 0 1 % 32) ((l.drop 4).take (4 * nb l 2 2)) with
          | none => rw [hb] at h; cases h
          | some y =>
            rw [hb] at h
            cases h
            have hlt := nb_lt l 0 1
            have hl2 := nb_lt l 2 2
            obtain ⟨g1, g2, g3, g4⟩ := body_back (by omega) hb
            have hbl : (bodyW x).length = 4 * nb l 2 2 := by rw [g1]; exact sl_len h6
            refine ⟨?_, g4, h6, by omega, by omega⟩
            unfold itemW
            rw [g3, g2, hbl, g1]
            simp only
            have e0 : [ib ((128 + nb l 0 1 % 32 : Nat) : Int)] = sl l 0 1 := by
              rw [← sl_1 (by omega)]
              congr 2
              omega
            rw [e0, sl_1 (by omega), show 4 * nb l 2 2 / 4 % 65536 = nb l 2 2 by omega, sl_beN (by omega)]
            have e1 := sl_add l 0 1 1
            have e2 := sl_add l 0 2 2
            have e3 := sl_add l 0 4 (4 * nb l 2 2)
            simp only [Nat.zero_add] at e1 e2 e3
            show sl l 0 1 ++ sl l 1 1 ++ sl l 2 2 ++ sl l 4 (4 * nb l 2 2) = _
            rw [e1, e2, e3]
            unfold sl
            rw [List.drop_zero]
        · cases h
      · cases h
    · cases h
  · cases h
theorem each_back : ∀ {f : Nat} {l : List UInt8} {xs : List Itm}, l.length < f → l.length ≤ 1500 → eachR f l = .ok xs → xs.flatMap itemW = l ∧ l.length % 4 = 0 ∧ ∀ x ∈ xs, right7 x = true ∧ (bodyW x).length ≤ 1500
  | 0, l, xs, hf, _, _ => by omega
  | f + 1, l, xs, hf, hl, h => by
    unfold eachR at h
    split at h
    · rename_i h0
      cases h
      have : l = [] := List.eq_nil_of_length_eq_zero h0
      subst this
      exact ⟨rfl, rfl, by simp⟩
    · rename_i h0
      cases hi : itemR l with
      | error e => rw [hi] at h; cases h
      | ok p =>
        obtain ⟨x, n⟩ := p
        rw [hi] at h
        simp only at h
        have hp := itemR_pos hi
        obtain ⟨g1, g2, g3, g4, g5⟩ := item_back hi hl
        cases he : eachR f (l.drop n) with
        | error e => rw [he] at h; cases h
        | ok ys =>
          rw [he] at h
          cases h
          obtain ⟨q1, q2, q3⟩ := each_back (by rw [List.length_drop]; omega) (by rw [List.length_drop]; omega) he
          rw [List.length_drop] at q2
          refine ⟨by rw [List.flatMap_cons, g1, q1, List.take_append_drop], by omega, fun y hy => ?_⟩
          rcases List.mem_cons.1 hy with rfl | hy
          · exact ⟨g2, g5⟩
          · exact q3 y hy
theorem fold_ok : ∀ {xs : List Itm} {out : List UInt8}, (out ++ xs.flatMap itemW).length ≤ 1500 → xs.foldl stepW out = out ++ xs.flatMap itemW
  | [], out, _ => by simp
  | x :: xs, out, h => by
    rw [List.flatMap_cons, ← List.append_assoc] at h ⊢
    rw [List.foldl_cons]
    have h1 : stepW out x = out ++ itemW x := by unfold stepW; rw [if_neg (by simp only [List.length_append] at h; omega)]
    rw [h1]
    exact fold_ok h
theorem fold_stay : ∀ {xs : List Itm} {out : List UInt8}, 1500 < out.length → xs.foldl stepW out = out
  | [], out, _ => rfl
  | x :: xs, out, h => by
    rw [List.foldl_cons]
    have h1 : stepW out x = out := by unfold stepW; rw [if_pos h]
    rw [h1]
    exact fold_stay h
theorem fold_long : ∀ {xs : List Itm} {out : List UInt8}, 1500 < (out ++ xs.flatMap itemW).length → 1500 < (xs.foldl stepW out).length
  | [], out, h => by simpa using h
  | x :: xs, out, h => by
    rw [List.foldl_cons]
    by_cases h0 : 1500 < out.length
    · have h1 : stepW out x = out := by unfold stepW; rw [if_pos h0]
      rw [h1, fold_stay h0]
      exact h0
    · have h1 : stepW out x = out ++ itemW x := by unfold stepW; rw [if_neg h0]
      rw [h1]
      rw [List.flatMap_cons, ← List.append_assoc] at h
      exact fold_long h
/-- What write7 writes, in one. -/
theorem write7_eq (xs : List Itm) : write7 xs = match xs.head? with
    | none => .error 4
    | some x => if begins7 x then if xs.all right7 then if 1500 < (xs.flatMap itemW).length then .error 2 else .ok (xs.flatMap itemW) else .error 1 else .error 1 := by
  unfold write7
  cases xs.head? with
  | none => rfl
  | some x =>
    simp only
    split
    · split
      · by_cases h : 1500 < (xs.flatMap itemW).length
        · rw [if_pos h, if_pos (fold_long (by simpa using h))]
        · have h1 := fold_ok (xs := xs) (out := []) (by simpa using h)
          rw [h1, List.nil_append, if_neg h]
      · rfl
    · rfl
/-- What is parsed is written as the same bytes. -/
theorem parse7_back {l : List UInt8} {xs : List Itm} (h : parse7 l = .ok xs) : write7 xs = .ok l ∧ l.length ≤ 1500 ∧ l.length % 4 = 0 ∧ (∀ x ∈ xs, Sz7 x) ∧ xs.flatMap itemW = l ∧ ∀ x ∈ xs, right7 x = true := by
  unfold parse7 at h
  split at h
  · cases h
  · rename_i hl
    cases he : eachR (l.length + 1) l with
    | error e => rw [he] at h; cases h
    | ok ys =>
      rw [he] at h
      obtain ⟨g1, g2, g3⟩ := each_back (by omega) (by omega) he
      cases ys with
      | nil => cases h
      | cons y ys =>
        simp only at h
        split at h
        · rename_i hb
          cases h
          refine ⟨?_, by omega, g2, fun x hx => ?_, g1, fun x hx => (g3 x hx).1⟩
          · rw [write7_eq]
            simp only [List.head?_cons]
            rw [if_pos hb, if_pos (List.all_eq_true.2 (fun x hx => (g3 x hx).1)), g1, if_neg hl]
          · have h1 := (g3 x hx).2
            have h2 : (body3 x).length + x.reason.length ≤ 1500 + 1500 := by
              by_cases hr : x.reason = []
              · rw [bodyW_plain hr] at h1; rw [hr]; simp; omega
              · rw [bodyW_pad hr] at h1
                unfold padW at h1
                simp only [List.length_append] at h1
                omega
            exact sz_of (by omega) (g3 x hx).1
        · cases h
end Go.Proofs.Ytcmpjkopdjncdaa
