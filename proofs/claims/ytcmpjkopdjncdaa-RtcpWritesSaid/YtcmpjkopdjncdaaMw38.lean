import Derived.Test.YtcmpjkopdjncdaaMw37
import Derived.Test.YtcmpjkopdjncdaaMw36
/- The walks of rtcp's Same$1, slices.EqualFunc, rtcp's Same (printed by gen_7same.py). -/
namespace Go.Proofs.Ytcmpjkopdjncdaa
open Go.RowKit

theorem chk_beq (x y : Chk) : (x == y) = (x.ssrc.toNat == y.ssrc.toNat && x.texts == y.texts) := by
  rw [Bool.eq_iff_iff, beq_iff_eq, Bool.and_eq_true, beq_iff_eq, beq_iff_eq, UInt32.toNat_inj]
  constructor
  · intro h; subst h; simp
  · intro h; cases x; cases y; simp only at h; obtain ⟨rfl, rfl⟩ := h; rfl
theorem words_of {w : World} {v : Value} {xs : List UInt32} {B : List Nat} (h : SlEls 1 SrcR w v xs B) : Words w v xs := by
  obtain ⟨cells, a, cap, rfl, h1, h2, h3, h4, h5⟩ := h
  have hc : ∀ (ys : List UInt32) (cs : List Value) (B : List Nat), Els SrcR ys w cs B → cs = ys.map W32 := by
    intro ys
    induction ys with
    | nil => intro cs B h; exact h.1
    | cons y ys ih =>
      intro cs B h
      obtain ⟨c, rest, B1, B2, rfl, rfl, ⟨rfl, -⟩, h2⟩ := h
      rw [ih rest B2 h2]
      rfl
  have hcl := hc xs cells B h4
  subst hcl
  exact ⟨a, cap, by rw [List.length_map], by rw [List.length_map]; exact h1, h2, h3, h5⟩
set_option maxRecDepth 100000 in
set_option maxHeartbeats 8000000 in
theorem tSame1_any {w : World} (x y : Chk) {v1 v2 : Value} {B1 B2 : List Nat} (h1 : SlEls 2 TxtR w v1 x.texts B1) (h2 : SlEls 2 TxtR w v2 y.texts B2) (hl1 : x.texts.length ≤ 1099511627776) (hl2 : y.texts.length ≤ 1099511627776) :
    Calls Try.prog 40 #[.agg #[.int .u32 (x.ssrc.toNat : Nat), v1], .agg #[.int .u32 (y.ssrc.toNat : Nat), v2]] w fun e w' => e = .returned (.bool (x == y)) ∧ Fr [] w w' := by
  obtain ⟨a1, c1, rfl⟩ := h1.shape
  obtain ⟨a2, c2, rfl⟩ := h2.shape
  obtain ⟨w2, e2, hF2, hB1, hB2, hs2⟩ := two_new w #[.int .u32 (x.ssrc.toNat : Nat), .slice a1 x.texts.length c1] 87 #[.int .u32 (y.ssrc.toNat : Nat), .slice a2 y.texts.length c2] 87
  have HF := Lib.hid hF2; have H1 := Lib.hid (h1.keep Rep.txt hF2); have H2 := Lib.hid (h2.keep Rep.txt hF2); have E2 := Lib.hid e2
  have x0 := hB1.cell 0; have x1 := hB1.cell 1; have y0 := hB2.cell 0; have y1 := hB2.cell 1
  simp only [List.getElem?_toArray, List.getElem?_cons_succ, List.getElem?_cons_zero] at x0 x1 y0 y1
  have HE := Lib.hid (chk_beq x y)
  clear hF2 hB1 hB2 hs2 e2 h1 h2
  obtain ⟨n1, hn1⟩ : ∃ n, x.ssrc.toNat = n := ⟨_, rfl⟩
  obtain ⟨n2, hn2⟩ : ∃ n, y.ssrc.toNat = n := ⟨_, rfl⟩
  rw [hn1] at x0 HE
  rw [hn2] at y0 HE
  have HN1 := Lib.hid hn1; have HN2 := Lib.hid hn2
  clear hn1 hn2
  go_enter Try.func40, Try.ntmps40
  go_upto_region 1 with fail
  rw [E2.out]
  clear E2
  by_cases he : n1 = n2
  · subst he
    go_wp2_with fail
    refine (eqText_any H1.out H2.out hl1 hl2).mono ?_
    rintro e w3 ⟨rfl, hF⟩
    have HF := Lib.hid (HF.out.trans hF)
    clear hF
    go_wp2_with fail
    go_ret
    exact ⟨by rw [HE.out]; simp, HF.out⟩
  · have b1 : ((n1 : Int) == (n2 : Int)) = false := beq_eq_false_iff_ne.2 (by omega)
    have b2 : (n1 == n2) = false := beq_eq_false_iff_ne.2 he
    clear he
    go_wp2_with fail
    go_ret
    exact ⟨by rw [HE.out, b2]; rfl, HF.out⟩
set_option maxRecDepth 100000 in
set_option maxHeartbeats 8000000 in
theorem eqFuncC_any {w : World} {v1 v2 : Value} {l1 l2 : List Chk} {B1 B2 : List Nat} (h1 : SlEls 2 ChkR w v1 l1 B1) (h2 : SlEls 2 ChkR w v2 l2 B2) (hl1 : l1.length ≤ 1099511627776) (hl2 : l2.length ≤ 1099511627776) (ht1 : ∀ c ∈ l1, c.texts.length ≤ 1099511627776) (ht2 : ∀ c ∈ l2, c.texts.length ≤ 1099511627776) :
    Calls Try.prog 39 #[v1, v2, .func (.func 40) #[] #[]] w fun e w' => e = .returned (.bool (l1 == l2)) ∧ Fr [] w w' := by
  obtain ⟨a1, c1, rfl⟩ := h1.shape
  obtain ⟨a2, c2, rfl⟩ := h2.shape
  have H1 := Lib.hid h1; have H2 := Lib.hid h2; have HT1L := Lib.hid ht1; have HT2L := Lib.hid ht2
  clear h1 h2 ht1 ht2
  by_cases hn : l1.length = l2.length
  · have HN := Lib.hid hn
    have t0 : (((l1.length : Nat) : Int) != ((l2.length : Nat) : Int)) = false := by rw [hn]; simp
    clear hn
    go_enter Try.func39, Try.ntmps39
    go_wp2_with fail
    clear t0
    go_loopw [17] (fun i wr => ∃ j : Nat, j ≤ l1.length ∧ i = .int .i64 j ∧ l1.take j = l2.take j ∧ Fr [] w wr) (fun i _ => l1.length - (intOf i).toNat)
    case atStart => exact ⟨0, Nat.zero_le _, rfl, rfl, Fr.refl _ _⟩
    case round =>
      obtain ⟨j, hj, rfl, htk, hF⟩ := hrel
      have HT := Lib.hid htk; have HF := Lib.hid hF
      clear htk hF
      by_cases hlt : j < l1.length
      · have hlt2 : j < l2.length := by have := HN.out; omega
        obtain ⟨b1, o1, k1, y1, B3, ea, -, hy1, ⟨u1, rfl, hu1, -⟩, -, hrg1⟩ := (H1.out.keep Rep.chk HF.out).at_ Rep.chk (i := j) hlt
        obtain ⟨b2, o2, k2, y2, B4, eb, -, hy2, ⟨u2, rfl, hu2, -⟩, -, hrg2⟩ := (H2.out.keep Rep.chk HF.out).at_ Rep.chk (i := j) hlt2
        subst ea eb
        obtain ⟨au1, cu1, rfl⟩ := hu1.shape
        obtain ⟨au2, cu2, rfl⟩ := hu2.shape
        have HRG1 := Lib.hid hrg1; have HY1 := Lib.hid hy1; have HY2 := Lib.hid hy2
        have HT1 : Hid (l1.take (j + 1) = l1.take j ++ [y1]) := Lib.hid (by rw [List.take_add_one, hy1]; rfl)
        have HT2 : Hid (l2.take (j + 1) = l2.take j ++ [y2]) := Lib.hid (by rw [List.take_add_one, hy2]; rfl)
        have HM1 := Lib.hid (HT1L.out y1 (List.mem_of_getElem? hy1)); have HM2 := Lib.hid (HT2L.out y2 (List.mem_of_getElem? hy2))
        obtain ⟨wa, ea, hFa, hBa, hsa⟩ := one_new wr #[.int .u32 (y1.ssrc.toNat : Nat), .slice au1 y1.texts.length cu1] 87
        obtain ⟨wb, eb, hFb, hBb, hsb⟩ := one_new wa #[.int .u32 (y2.ssrc.toNat : Nat), .slice au2 y2.texts.length cu2] 87
        have EA := Lib.hid ea; have EB := Lib.hid eb; have HX1 := Lib.hid (hBa.keep hFb); have HX2 := Lib.hid hBb
        have HU1 := Lib.hid ((hu1.keep Rep.txt hFa).keep Rep.txt hFb); have HU2 := Lib.hid ((hu2.keep Rep.txt hFa).keep Rep.txt hFb)
        have HRG2 := Lib.hid (fr_rng hFa hrg2)
        have HF := Lib.hid ((HF.out.trans hFa).trans hFb)
        clear hrg1 hrg2 hy1 hy2 hu1 hu2 hFa hFb hBa hBb hsa hsb ea eb
        go_upto_region 6 with (refine wpList_load_midA rfl 87 (.tmp 20) rfl b1 (o1 + j * 2) rfl #[.int .u32 (y1.ssrc.toNat : Nat), .slice au1 y1.texts.length cu1] _ HRG1.out Try.underlying87 rfl (by kernel_rfl) ?_)
        rw [EA.out]
        clear EA
        go_upto_region 7 with (refine wpList_load_midA rfl 87 (.tmp 24) rfl b2 (o2 + j * 2) rfl #[.int .u32 (y2.ssrc.toNat : Nat), .slice au2 y2.texts.length cu2] _ HRG2.out Try.underlying87 rfl (by kernel_rfl) ?_)
        rw [EB.out]
        clear EB
        go_wp2_with (first | (refine wpList_load_row_w rfl 87 (.tmp 8) rfl wr.heap.size rfl 87 _ _ HX1.out Try.underlying87 rfl (by kernel_rfl) ?_) | (refine wpList_load_row_w rfl 87 (.tmp 9) rfl wa.heap.size rfl 87 _ _ HX2.out Try.underlying87 rfl (by kernel_rfl) ?_))
        refine (tSame1_any y1 y2 HU1.out HU2.out HM1.out HM2.out).mono ?_
        rintro e w5 ⟨rfl, hF⟩
        have HF := Lib.hid (HF.out.trans hF)
        clear hF
        cases he : (y1 == y2) with
        | true =>
          have HE := Lib.hid (beq_iff_eq.1 he)
          clear he
          go_wp2_with fail
          refine ⟨⟨j + 1, by omega, by go_num, by rw [HT1.out, HT2.out, HT.out, HE.out], HF.out⟩, by simp [intOf]; omega⟩
        | false =>
          have HE := Lib.hid (beq_eq_false_iff_ne.1 he)
          clear he
          go_wp2_with fail
          go_ret
          refine ⟨ret_bool ?_, HF.out⟩
          symm
          rw [beq_eq_false_iff_ne]
          intro h
          subst h
          have := HY1.out.symm.trans HY2.out
          exact HE.out (Option.some.inj this)
      · go_wp2_with fail
        go_ret
        refine ⟨ret_bool ?_, HF.out⟩
        symm
        have := HT.out
        rw [List.take_of_length_le (by omega), List.take_of_length_le (by have := HN.out; omega)] at this
        rw [this]
        simp
  · have t0 : (((l1.length : Nat) : Int) != ((l2.length : Nat) : Int)) = true := by simp; omega
    have HN := Lib.hid hn
    clear hn
    go_enter Try.func39, Try.ntmps39
    go_wp2_with fail
    go_ret
    refine ⟨ret_bool ?_, Fr.refl _ _⟩
    symm
    rw [beq_eq_false_iff_ne]
    intro h
    exact HN.out (congrArg List.length h)
/-- The fixed parts of two items alike? -/
def fixed7 (x y : Itm) : Bool := x.kind == y.kind && x.ssrc.toNat == y.ssrc.toNat && x.ntp.toNat == y.ntp.toNat && x.ts.toNat == y.ts.toNat && x.pks.toNat == y.pks.toNat && x.ocs.toNat == y.ocs.toNat && x.reason == y.reason
theorem itm_beq (x y : Itm) : (x == y) = (fixed7 x y && x.chks == y.chks && x.reps == y.reps && x.srcs == y.srcs) := by
  unfold fixed7
  rw [Bool.eq_iff_iff, beq_iff_eq]
  simp only [Bool.and_eq_true, beq_iff_eq, UInt32.toNat_inj, UInt64.toNat_inj]
  constructor
  · intro h; subst h; simp
  · intro h; cases x; cases y; simp only at h; obtain ⟨⟨⟨⟨⟨⟨⟨⟨⟨rfl, rfl⟩, rfl⟩, rfl⟩, rfl⟩, rfl⟩, rfl⟩, rfl⟩, rfl⟩, rfl⟩ := h; rfl
set_option maxRecDepth 100000 in
set_option maxHeartbeats 8000000 in
theorem tSame_any {w : World} {x y : Itm} {vr vc vs ur uc us : Value} {B1 B2 : List Nat} (hr : SlEls 7 RptR w vr x.reps []) (hc : SlEls 2 ChkR w vc x.chks B1) (hs : SlEls 1 SrcR w vs x.srcs []) (kr : SlEls 7 RptR w ur y.reps []) (kc : SlEls 2 ChkR w uc y.chks B2) (ks : SlEls 1 SrcR w us y.srcs [])
    (hz : Sz7 x) (kz : Sz7 y) :
    Calls Try.prog 18 #[.agg (itc x vr vc vs), .agg (itc y ur uc us)] w fun e w' => e = .returned (.bool (x == y)) ∧ Fr [] w w' := by
  obtain ⟨ar, cr, rfl⟩ := hr.shape
  obtain ⟨ac, cc, rfl⟩ := hc.shape
  obtain ⟨as_, cs, rfl⟩ := hs.shape
  obtain ⟨br, dr, rfl⟩ := kr.shape
  obtain ⟨bc_, dc, rfl⟩ := kc.shape
  obtain ⟨bs, ds, rfl⟩ := ks.shape
  obtain ⟨w2, e2, hF2, hB1, hB2, hs2⟩ := two_new w (itc x (.slice ar x.reps.length cr) (.slice ac x.chks.length cc) (.slice as_ x.srcs.length cs)) 42 (itc y (.slice br y.reps.length dr) (.slice bc_ y.chks.length dc) (.slice bs y.srcs.length ds)) 42
  have HF := Lib.hid hF2; have E2 := Lib.hid e2; have HB1 := Lib.hid hB1; have HB2 := Lib.hid hB2
  have HR := Lib.hid (hr.keep Rep.rpt hF2); have HC := Lib.hid (hc.keep Rep.chk hF2); have HS := Lib.hid (hs.keep Rep.src hF2)
  have KR := Lib.hid (kr.keep Rep.rpt hF2); have KC := Lib.hid (kc.keep Rep.chk hF2); have KS := Lib.hid (ks.keep Rep.src hF2)
  have HE := Lib.hid (itm_beq x y); have HZ := Lib.hid hz; have KZ := Lib.hid kz
  clear hF2 hB1 hB2 hs2 e2 hr hc hs kr kc ks hz kz
  obtain ⟨G2, hG2⟩ : ∃ G, w.heap.size + 1 = G := ⟨_, rfl⟩
  have HGG := Lib.hid hG2
  go_enter Try.func18, Try.ntmps18
  clear hG2
  go_upto_region 1 with fail
  rw [E2.out]
  clear E2
  have HG2 := HGG.out
  try simp only [HG2]
  rw [HG2] at HB2
  clear HG2
  go_cut [5] (fun pv wx => pv = .bool (fixed7 x y) ∧ Fr [] w2 wx)
  case first =>
    have HFX : Hid (fixed7 x y = (x.kind == y.kind && x.ssrc.toNat == y.ssrc.toNat && x.ntp.toNat == y.ntp.toNat && x.ts.toNat == y.ts.toNat && x.pks.toNat == y.pks.toNat && x.ocs.toNat == y.ocs.toNat && x.reason == y.reason)) := Lib.hid rfl
    have x0 := HB1.out.cell 0; have x1 := HB1.out.cell 1; have x2 := HB1.out.cell 2; have x3 := HB1.out.cell 3; have x4 := HB1.out.cell 4; have x5 := HB1.out.cell 5; have x9 := HB1.out.cell 9
    have y0 := HB2.out.cell 0; have y1 := HB2.out.cell 1; have y2 := HB2.out.cell 2; have y3 := HB2.out.cell 3; have y4 := HB2.out.cell 4; have y5 := HB2.out.cell 5; have y9 := HB2.out.cell 9
    simp only [itc, List.getElem?_toArray, List.getElem?_cons_succ, List.getElem?_cons_zero] at x0 x1 x2 x3 x4 x5 x9 y0 y1 y2 y3 y4 y5 y9
    obtain ⟨p1, hp1⟩ : ∃ n, x.ssrc.toNat = n := ⟨_, rfl⟩
    obtain ⟨q1, hq1⟩ : ∃ n, y.ssrc.toNat = n := ⟨_, rfl⟩
    rw [hp1, hq1] at HFX
    rw [hp1] at x1
    rw [hq1] at y1
    clear hp1 hq1
    obtain ⟨p2, hp2⟩ : ∃ n, x.ntp.toNat = n := ⟨_, rfl⟩
    obtain ⟨q2, hq2⟩ : ∃ n, y.ntp.toNat = n := ⟨_, rfl⟩
    rw [hp2, hq2] at HFX
    rw [hp2] at x2
    rw [hq2] at y2
    clear hp2 hq2
    obtain ⟨p3, hp3⟩ : ∃ n, x.ts.toNat = n := ⟨_, rfl⟩
    obtain ⟨q3, hq3⟩ : ∃ n, y.ts.toNat = n := ⟨_, rfl⟩
    rw [hp3, hq3] at HFX
    rw [hp3] at x3
    rw [hq3] at y3
    clear hp3 hq3
    obtain ⟨p4, hp4⟩ : ∃ n, x.pks.toNat = n := ⟨_, rfl⟩
    obtain ⟨q4, hq4⟩ : ∃ n, y.pks.toNat = n := ⟨_, rfl⟩
    rw [hp4, hq4] at HFX
    rw [hp4] at x4
    rw [hq4] at y4
    clear hp4 hq4
    obtain ⟨p5, hp5⟩ : ∃ n, x.ocs.toNat = n := ⟨_, rfl⟩
    obtain ⟨q5, hq5⟩ : ∃ n, y.ocs.toNat = n := ⟨_, rfl⟩
    rw [hp5, hq5] at HFX
    rw [hp5] at x5
    rw [hq5] at y5
    clear hp5 hq5
    by_cases h0 : x.kind = y.kind
    rotate_left
    · have b0 : (x.kind == y.kind) = false := beq_eq_false_iff_ne.2 h0
      go_wp2_with fail
      go_meet
      exact ⟨by rw [HFX.out]; simp [*], Fr.refl _ _⟩
    have b0 : (x.kind == y.kind) = true := beq_iff_eq.2 h0
    clear h0
    by_cases h1 : p1 = q1
    rotate_left
    · have b1 : ((p1 : Int) == (q1 : Int)) = false := beq_eq_false_iff_ne.2 (by omega)
      have d1 : (p1 == q1) = false := beq_eq_false_iff_ne.2 h1
      go_wp2_with fail
      go_meet
      exact ⟨by rw [HFX.out]; simp [*], Fr.refl _ _⟩
    subst h1
    by_cases h2 : p2 = q2
    rotate_left
    · have b2 : ((p2 : Int) == (q2 : Int)) = false := beq_eq_false_iff_ne.2 (by omega)
      have d2 : (p2 == q2) = false := beq_eq_false_iff_ne.2 h2
      go_wp2_with fail
      go_meet
      exact ⟨by rw [HFX.out]; simp [*], Fr.refl _ _⟩
    subst h2
    by_cases h3 : p3 = q3
    rotate_left
    · have b3 : ((p3 : Int) == (q3 : Int)) = false := beq_eq_false_iff_ne.2 (by omega)
      have d3 : (p3 == q3) = false := beq_eq_false_iff_ne.2 h3
      go_wp2_with fail
      go_meet
      exact ⟨by rw [HFX.out]; simp [*], Fr.refl _ _⟩
    subst h3
    by_cases h4 : p4 = q4
    rotate_left
    · have b4 : ((p4 : Int) == (q4 : Int)) = false := beq_eq_false_iff_ne.2 (by omega)
      have d4 : (p4 == q4) = false := beq_eq_false_iff_ne.2 h4
      go_wp2_with fail
      go_meet
      exact ⟨by rw [HFX.out]; simp [*], Fr.refl _ _⟩
    subst h4
    by_cases h5 : p5 = q5
    rotate_left
    · have b5 : ((p5 : Int) == (q5 : Int)) = false := beq_eq_false_iff_ne.2 (by omega)
      have d5 : (p5 == q5) = false := beq_eq_false_iff_ne.2 h5
      go_wp2_with fail
      go_meet
      exact ⟨by rw [HFX.out]; simp [*], Fr.refl _ _⟩
    subst h5
    by_cases h6 : x.reason = y.reason
    rotate_left
    · have b6 : ((strB x.reason).toList == (strB y.reason).toList) = false := by rw [strB_list, strB_list]; exact beq_eq_false_iff_ne.2 h6
      have d6 : (x.reason == y.reason) = false := beq_eq_false_iff_ne.2 h6
      clear h6
      go_wp2_with fail
      go_meet
      exact ⟨by rw [HFX.out]; simp [*], Fr.refl _ _⟩
    have b6 : ((strB x.reason).toList == (strB y.reason).toList) = true := by rw [strB_list, strB_list]; exact beq_iff_eq.2 h6
    have d6 : (x.reason == y.reason) = true := beq_iff_eq.2 h6
    clear h6
    go_wp2_with fail
    go_meet
    exact ⟨by rw [HFX.out]; simp [*], Fr.refl _ _⟩
  case rest =>
    obtain ⟨rfl, hF2⟩ := hcut
    have HF := Lib.hid (HF.out.trans hF2); have HB1 := Lib.hid (HB1.out.keep hF2); have HB2 := Lib.hid (HB2.out.keep hF2)
    have HR := Lib.hid (HR.out.keep Rep.rpt hF2); have HC := Lib.hid (HC.out.keep Rep.chk hF2); have HS := Lib.hid (HS.out.keep Rep.src hF2)
    have KR := Lib.hid (KR.out.keep Rep.rpt hF2); have KC := Lib.hid (KC.out.keep Rep.chk hF2); have KS := Lib.hid (KS.out.keep Rep.src hF2)
    clear hF2
    obtain ⟨P, hP⟩ : ∃ P, fixed7 x y = P := ⟨_, rfl⟩
    rw [hP] at HE ⊢
    clear hP
    have x7 := HB1.out.cell 7; have y7 := HB2.out.cell 7
    simp only [itc, List.getElem?_toArray, List.getElem?_cons_succ, List.getElem?_cons_zero] at x7 y7
    go_wp2_with fail
    refine (eqFuncC_any HC.out KC.out (by have := HZ.out.n; omega) (by have := KZ.out.n; omega) HZ.out.texts KZ.out.texts).mono ?_
    rintro e w3 ⟨rfl, hF⟩
    have HF := Lib.hid (HF.out.trans hF); have HB1 := Lib.hid (HB1.out.keep hF); have HB2 := Lib.hid (HB2.out.keep hF)
    have HR := Lib.hid (HR.out.keep Rep.rpt hF); have HS := Lib.hid (HS.out.keep Rep.src hF)
    have KR := Lib.hid (KR.out.keep Rep.rpt hF); have KS := Lib.hid (KS.out.keep Rep.src hF)
    clear hF x7 y7
    obtain ⟨C, hC⟩ : ∃ C, (x.chks == y.chks) = C := ⟨_, rfl⟩
    rw [hC] at HE ⊢
    clear hC
    cases P
    · go_wp2_with fail
      go_ret
      exact ⟨by rw [HE.out]; rfl, HF.out⟩
    cases C
    · go_wp2_with fail
      go_ret
      exact ⟨by rw [HE.out]; rfl, HF.out⟩
    have x6 := HB1.out.cell 6; have y6 := HB2.out.cell 6
    simp only [itc, List.getElem?_toArray, List.getElem?_cons_succ, List.getElem?_cons_zero] at x6 y6
    go_wp2_with fail
    refine (eqReport_any HR.out KR.out (by have := HZ.out.n; omega) (by have := KZ.out.n; omega)).mono ?_
    rintro e w4 ⟨rfl, hF⟩
    have HF := Lib.hid (HF.out.trans hF); have HB1 := Lib.hid (HB1.out.keep hF); have HB2 := Lib.hid (HB2.out.keep hF); have HS := Lib.hid (HS.out.keep Rep.src hF); have KS := Lib.hid (KS.out.keep Rep.src hF)
    clear hF x6 y6
    obtain ⟨R, hR⟩ : ∃ R, (x.reps == y.reps) = R := ⟨_, rfl⟩
    rw [hR] at HE ⊢
    clear hR
    cases R
    · go_wp2_with fail
      go_ret
      exact ⟨by rw [HE.out]; rfl, HF.out⟩
    have x8 := HB1.out.cell 8; have y8 := HB2.out.cell 8
    simp only [itc, List.getElem?_toArray, List.getElem?_cons_succ, List.getElem?_cons_zero] at x8 y8
    go_wp2_with fail
    refine (equalW_any (words_of HS.out) (words_of KS.out) (by have := HZ.out.n; omega) (by have := KZ.out.n; omega)).mono ?_
    rintro e w5 ⟨rfl, hF⟩
    have HF := Lib.hid (HF.out.trans hF)
    clear hF x8 y8
    go_wp2_with fail
    go_ret
    exact ⟨by rw [HE.out]; simp, HF.out⟩
end Go.Proofs.Ytcmpjkopdjncdaa

/- The walk of confluxref07.chunk (printed by gen_7ref3.py). -/
namespace Go.Proofs.Ytcmpjkopdjncdaa
open Go.RowKit

set_option maxRecDepth 100000 in
theorem info_rtxt : (Try.prog.info? 97).map (fun i => (i.zero, i.size, i.bytes)) = some (some (.agg #[.int .i64 0, .string ⟨#[]⟩]), 2, 24) := by kernel_rfl
/-- What a round of the document's chunk keeps. -/
structure CDl (w W : World) (X B0 : Nat) (l : List UInt8) (f : Nat) (ts : List (Int × List UInt8)) (k' : Nat) (vt : Value) : Prop where
  fuel : l.length < k' + f
  lo : 4 ≤ k'
  hi : k' ≤ l.length
  eq : textsR l (l.length + 1) 4 = (textsR l f k').map fun r => (ts ++ r.1, r.2)
  n : ts.length ≤ k'
  box : Box W X 96 #[.int .u32 ((l32 l 0).toNat : Nat), vt]
  own : OwnEls 2 TxtR W B0 97 vt ts []
  res : Box W w.heap.size 96 #[.int .u32 0, .slice none 0 0]
  f : Fr [] w W
  sz : B0 ≤ W.heap.size
theorem CDl.keep {w W W' : World} {X B0 : Nat} {l : List UInt8} {f : Nat} {ts : List (Int × List UInt8)} {k' : Nat} {vt : Value} (h : CDl w W X B0 l f ts k' vt) (hf : Fr [] W W') : CDl w W' X B0 l f ts k' vt :=
  ⟨h.fuel, h.lo, h.hi, h.eq, h.n, h.box.keep hf, h.own.keep Rep.txt hf, h.res.keep hf, h.f.trans hf, Nat.le_trans h.sz hf.size⟩
theorem padOf_mod {e j : Nat} (h : j ≤ padOf e) : (e + j) % 4 = 0 ↔ j = padOf e := by unfold padOf at *; omega
theorem padOf_le (e : Nat) : padOf e ≤ 3 := by unfold padOf; omega
set_option maxRecDepth 100000 in
set_option maxHeartbeats 8000000 in
theorem r07chunk_any {w : World} {v : Value} {l : List UInt8} (h : Bytes w v l) (hsm : l.length ≤ 1099511000000) :
    Calls Try.prog 55 #[v] w fun e w' => (∃ x k' vt, chk1 l 0 = some (x, k') ∧ e = .returned (.tuple #[.agg #[.int .u32 (x.ssrc.toNat : Nat), vt], .int .i64 (k' : Nat), .bool true]) ∧ OwnEls 2 TxtR w' w.heap.size 97 vt x.texts [] ∧ Fr [] w w') ∨ (chk1 l 0 = none ∧ e = .returned (.tuple #[.agg #[.int .u32 0, .slice none 0 0], .int .i64 0, .bool false]) ∧ Fr [] w w') := by
  obtain ⟨a, cap, rfl⟩ := Sl.shape h
  have hc := (Sl.len h).2.1
  rw [List.length_map] at h hc ⊢
  have HH := Lib.hid h; have HSM := Lib.hid hsm
  obtain ⟨w1, e1, hF1, hB1, hs1⟩ := one_new w #[.int .u32 0, .slice none 0 0] 96
  have HF := Lib.hid hF1; have HB := Lib.hid hB1; have E1 := Lib.hid e1; have HHW := Lib.hid h; have HH := Lib.hid (Sl.keep HH.out hF1)
  have HS1 : Hid (w.heap.size < w1.heap.size) := Lib.hid (by omega)
  obtain ⟨n, hn⟩ : ∃ n, l.length = n := ⟨_, rfl⟩
  rw [hn] at HH HHW hc ⊢
  have hnb : n ≤ 1099511000000 := by omega
  have HN := Lib.hid hn
  clear h hF1 hB1 e1 hs1 hn hsm
  go_enter Try.func55, Try.ntmps55
  go_upto_region 1 with fail
  rw [E1.out]
  clear E1
  by_cases h4 : n < 4
  · have hd : decide ((n : Int) < 4) = true := decide_eq_true (by omega)
    have hdn : decide (n < 4) = true := decide_eq_true (by omega)
    have HNO : Hid (chk1 l 0 = none) := Lib.hid (by unfold chk1; rw [if_neg (by rw [HN.out]; omega)])
    clear h4
    go_wp2_with (refine wpList_store_row rfl 96 (.tmp 2) (.tmp 11) rfl w.heap.size rfl _ _ rfl 96 HB.out (by kernel_rfl) rfl (by simp [Value.oneCell']) ?_; intro w9 hY hG; have HY := Lib.hid hY; have HGn := Lib.hid hG; clear hY hG)
    refine bodyPost_ret (results_row_2 rfl _ _ w.heap.size 96 _ _ rfl HY.out Try.underlying96 rfl (by kernel_rfl)) rfl (.inr ⟨HNO.out, rfl, HF.out.step HGn.out (fun x hx => .inr (by simp at hx; omega))⟩)
  have hd : decide ((n : Int) < 4) = false := decide_eq_false (by omega)
  have hdn : decide (n < 4) = false := decide_eq_false (by omega)
  have hnz : ∃ p, a = some p := by
    cases a with
    | none => have := (Sl.len HH.out).2.2.2 rfl; omega
    | some p => exact ⟨p, rfl⟩
  obtain ⟨⟨b, o, sp⟩, rfl⟩ := hnz
  obtain ⟨b', o', e', hbl, hcell⟩ := Sl.at_ HH.out (k := 0) (by omega)
  simp only [Option.some.injEq, Addr.mk.injEq] at e'
  obtain ⟨rfl, rfl, rfl⟩ := e'
  have HCL : Hid (∀ wi : World, Sl wi (.slice (some ⟨b, o, none⟩) n cap) (l.map B8) → ∀ k, k < n → wi.cell? ⟨b, o + k, none⟩ = some (.int .u8 (nb l k 1 : Nat))) := Lib.hid (fun wi hs k hk => by
    obtain ⟨b', o', e', -, hcell⟩ := Sl.at_ hs (k := k) hk
    simp only [Option.some.injEq, Addr.mk.injEq] at e'
    obtain ⟨rfl, rfl, -⟩ := e'
    have hkl : k < l.length := by rw [HN.out]; exact hk
    have h9 := hcell k (B8 l[k]) (by rw [List.getElem?_map, List.getElem?_eq_getElem hkl]; rfl)
    rw [h9, nb_one hkl]
    rfl)
  clear hbl hcell
  go_wp2_with fail
  refine (r07long_any HH.out (by rw [HN.out]; omega)).mono ?_
  rintro e w2 ⟨rfl, hF⟩
  have HF := Lib.hid (HF.out.trans hF); have HB := Lib.hid (HB.out.keep hF); have HH := Lib.hid (Sl.keep HH.out hF); have HS1 : Hid (w.heap.size < w2.heap.size) := Lib.hid (Nat.lt_of_lt_of_le HS1.out hF.size)
  clear hF
  obtain ⟨w3, e3, hF3, hB3, hs3⟩ := one_new w2 #[.int .u32 ((l32 l 0).toNat : Nat), .slice none 0 0] 96
  have E3 := Lib.hid e3; have HF := Lib.hid (HF.out.trans hF3); have HB := Lib.hid (HB.out.keep hF3); have HH := Lib.hid (Sl.keep HH.out hF3); have HX := Lib.hid hB3
  obtain ⟨X, hX⟩ : ∃ X, w2.heap.size = X := ⟨_, rfl⟩
  obtain ⟨B0, hB0⟩ : ∃ B0, w3.heap.size = B0 := ⟨_, rfl⟩
  have HXX : Hid (w.heap.size < X ∧ X < B0) := Lib.hid (by have := HS1.out; omega)
  have HPL : Hid (CDl w w3 X B0 l (l.length + 1) [] 4 (.slice none 0 0)) := Lib.hid (by
    rw [hX] at hB3
    exact ⟨by omega, Nat.le_refl _, by rw [HN.out]; omega, by cases textsR l (l.length + 1) 4 <;> rfl, Nat.zero_le _, hB3, OwnEls.nil _ _ _, HB.out, HF.out, by omega⟩)
  have HF03 := Lib.hid HF.out
  have HLB : Hid (∀ b', liveOf (.slice (some ⟨b, o, none⟩) n cap) = some b' → b' < w.heap.size) := Lib.hid (fun b' hb => Sl.lt HHW.out b' hb)
  clear hF3 hB3 hs3 e3 hB0 HX HB
  go_upto_region 5 with fail
  rw [E3.out]
  try simp only [hX]
  clear E3 hX hd hdn
  have HC1 : Hid (chk1 l 0 = match textsR l (l.length + 1) 4 with | none => none | some (ts, e) => if zerosR l (padOf e) e then some (⟨l32 l 0, ts⟩, e + padOf e) else none) := Lib.hid (by unfold chk1; rw [if_pos (by rw [HN.out]; omega)]; rfl)
  go_loopw [6] (fun av wr => ∃ (k' : Nat) (f : Nat) (ts : List (Int × List UInt8)) (vt : Value), av = .int .i64 (k' : Nat) ∧ CDl w wr X B0 l f ts k' vt) (fun av _ => n - (intOf av).toNat)
  case atStart => exact ⟨4, _, _, _, rfl, HPL.out⟩
  case round =>
    clear HPL HF HF03 HH
    obtain ⟨k', f, ts, vt, rfl, hc⟩ := hrel
    have hfu := hc.fuel; have hlo := hc.lo; have hhi := hc.hi
    rw [HN.out] at hfu hhi
    obtain ⟨av, cv, rfl⟩ := hc.own.shape
    have HC := Lib.hid hc
    have HBL := Lib.hid (Sl.keep HHW.out hc.f)
    clear hc
    obtain ⟨f, rfl⟩ : ∃ f0, f = f0 + 1 := ⟨f - 1, by omega⟩
    by_cases hkl : k' < n
    rotate_left
    · obtain rfl : k' = n := by omega
      have HNO : Hid (chk1 l 0 = none) := Lib.hid (by rw [HC1.out, HC.out.eq, textsR_succ, if_neg (by rw [HN.out]; omega)]; rfl)
      clear hkl hhi
      go_wp2_with (refine wpList_store_row rfl 96 (.tmp 2) (.tmp 80) rfl w.heap.size rfl _ _ rfl 96 HC.out.res (by kernel_rfl) rfl (by simp [Value.oneCell']) ?_; intro w9 hY hG; have HY := Lib.hid hY; have HGn := Lib.hid hG; clear hY hG)
      refine bodyPost_ret (results_row_2 rfl _ _ w.heap.size 96 _ _ rfl HY.out Try.underlying96 rfl (by kernel_rfl)) rfl (.inr ⟨HNO.out, rfl, HC.out.f.step HGn.out (fun x hx => .inr (by simp at hx; omega))⟩)
    have d1 := HCL.out wr HBL.out k' hkl
    obtain ⟨m, hm⟩ : ∃ m, nb l k' 1 = m := ⟨_, rfl⟩
    have HM := Lib.hid hm
    rw [hm] at d1
    clear hm
    have hd1 : decide ((k' : Int) < (n : Int)) = true := decide_eq_true (by omega)
    have hd1n : decide (k' < n) = true := decide_eq_true (by omega)
    by_cases hz : m = 0
    · have HT : Hid (textsR l (l.length + 1) 4 = some (ts, k' + 1)) := Lib.hid (by rw [HC.out.eq, textsR_succ, if_pos (by rw [HN.out]; omega), if_pos (by rw [HM.out]; exact hz)]; simp)
      have HCZ : Hid (chk1 l 0 = if zerosR l (padOf (k' + 1)) (k' + 1) then some (⟨l32 l 0, ts⟩, k' + 1 + padOf (k' + 1)) else none) := Lib.hid (by rw [HC1.out, HT.out])
      subst hz
      have hd2 : decide ((n : Int) ≤ (k' : Int)) = false := decide_eq_false (by omega)
      have hd2n : decide (n ≤ k') = false := decide_eq_false (by omega)
      have hw1 : wrap64 ((k' : Int) + 1) = ((k' + 1 : Nat) : Int) := by rw [IntWalk.wrap64_in _ ⟨by omega, by omega⟩]; omega
      have hw2 : IntKind.i64.wrap ((k' : Int) + 1) = ((k' + 1 : Nat) : Int) := by rw [IntWalk.i64_in _ (by omega)]; omega
      obtain ⟨e1, he1⟩ : ∃ e1, k' + 1 = e1 := ⟨_, rfl⟩
      rw [he1] at hw1 hw2 HCZ
      have HE1 : Hid (k' + 1 = e1) := Lib.hid he1
      have hw3 : ((k' : Nat) : Int) + 1 = ((e1 : Nat) : Int) := by omega
      have he1n : e1 ≤ n := by omega
      clear he1
      go_upto_region 14 with fail
      clear hw1 hw2 hw3 d1 hd1 hd2 hd1n hd2n
      go_loopw [6] (fun av wy => ∃ j : Nat, j ≤ padOf e1 ∧ av = .int .i64 ((e1 + j : Nat) : Int) ∧ zerosR l (padOf e1) e1 = zerosR l (padOf e1 - j) (e1 + j) ∧ Fr [] wr wy) (fun av _ => e1 + 4 - (intOf av).toNat)
      case atStart => exact ⟨0, Nat.zero_le _, rfl, rfl, Fr.refl _ _⟩
      case round =>
        obtain ⟨j, hj, rfl, hzr, hF⟩ := hrel
        have HZR := Lib.hid hzr; have HC2 := Lib.hid (HC.out.keep hF); have HBL2 := Lib.hid (Sl.keep HBL.out hF); have HF := Lib.hid hF
        clear hzr hF
        have hpm := padOf_mod hj
        have hp3 := padOf_le e1
        obtain ⟨q, hq⟩ : ∃ q, e1 + j = q := ⟨_, rfl⟩
        rw [hq] at hpm HZR ⊢
        have HQ := Lib.hid hq
        have hqb : q ≤ 1099511000004 := by omega
        clear hq
        by_cases hlt : j = padOf e1
        · subst hlt
          have hm4 : q % 4 = 0 := hpm.2 rfl
          have hmb : (((q : Nat) : Int) % 4 != 0) = false := by rw [bne_eq_false_iff_eq]; omega
          have HZT : Hid (chk1 l 0 = some (⟨l32 l 0, ts⟩, q)) := Lib.hid (by rw [HCZ.out, HZR.out, Nat.sub_self, HQ.out]; rfl)
          clear hpm hm4 hp3
          go_wp2_with (first | (refine wpList_load_row_w rfl 96 (.tmp 5) rfl X rfl 96 _ _ HC2.out.box Try.underlying96 rfl (by kernel_rfl) ?_) | (refine wpList_store_row rfl 96 (.tmp 2) (.tmp 100) rfl w.heap.size rfl _ _ rfl 96 HC2.out.res (by kernel_rfl) rfl (by simp [Value.oneCell']) ?_; intro w9 hY hG; have HY := Lib.hid hY; have HGn := Lib.hid hG; clear hY hG))
          refine bodyPost_ret (results_row_2 rfl _ _ w.heap.size 96 _ _ rfl HY.out Try.underlying96 rfl (by kernel_rfl)) rfl (.inl ⟨_, _, _, HZT.out, rfl, ?_, ?_⟩)
          · exact OwnEls.mono (HC2.out.own.fr Rep.txt HGn.out (by simp) (fun b hb hm => by have := (HC2.out.own.block b hb).1; have := HXX.out; simp at hm; omega)) (by have := HXX.out; omega)
          · exact HC2.out.f.step HGn.out (fun b hb => .inr (by simp at hb; omega))
        · have hm4 : ¬ q % 4 = 0 := fun h => hlt (hpm.1 h)
          have hmb : (((q : Nat) : Int) % 4 != 0) = true := by rw [bne_iff_ne]; omega
          obtain ⟨s, hs⟩ : ∃ s, padOf e1 - j = s + 1 := ⟨padOf e1 - j - 1, by omega⟩
          have HZR : Hid (zerosR l (padOf e1) e1 = (decide (q + 1 ≤ l.length) && nb l q 1 == 0 && zerosR l s (q + 1))) := Lib.hid (by rw [HZR.out, hs]; rfl)
          have HSJ : Hid (padOf e1 - (j + 1) = s) := Lib.hid (by omega)
          have HJP : Hid (j + 1 ≤ padOf e1) := Lib.hid (by omega)
          clear hpm hm4 hlt hs
          by_cases hqn : q < n
          · have d2 := HCL.out wr HBL2.out q hqn
            have hd3 : decide ((n : Int) ≤ (q : Int)) = false := decide_eq_false (by omega)
            have hd3n : decide (n ≤ q) = false := decide_eq_false (by omega)
            obtain ⟨y, hy⟩ : ∃ y, nb l q 1 = y := ⟨_, rfl⟩
            rw [hy] at d2 HZR
            clear hy
            by_cases hy0 : y = 0
            · subst hy0
              go_wp2_with fail
              refine ⟨⟨j + 1, HJP.out, by rw [← HQ.out]; go_num, by rw [HZR.out, HSJ.out, ← HQ.out, decide_eq_true (by rw [HN.out, HQ.out]; omega)]; rfl, HF.out⟩, by simp [intOf]; have := HJP.out; have := HQ.out; omega⟩
            · have hyb : (((y : Nat) : Int) != 0) = true := by rw [bne_iff_ne]; omega
              have HNO : Hid (chk1 l 0 = none) := Lib.hid (by rw [HCZ.out, HZR.out, beq_eq_false_iff_ne.2 hy0]; simp)
              clear hy0
              go_wp2_with (refine wpList_store_row rfl 96 (.tmp 2) (.tmp 97) rfl w.heap.size rfl _ _ rfl 96 HC2.out.res (by kernel_rfl) rfl (by simp [Value.oneCell']) ?_; intro w9 hY hG; have HY := Lib.hid hY; have HGn := Lib.hid hG; clear hY hG)
              refine bodyPost_ret (results_row_2 rfl _ _ w.heap.size 96 _ _ rfl HY.out Try.underlying96 rfl (by kernel_rfl)) rfl (.inr ⟨HNO.out, rfl, HC2.out.f.step HGn.out (fun x hx => .inr (by simp at hx; omega))⟩)
          · have hd3 : decide ((n : Int) ≤ (q : Int)) = true := decide_eq_true (by omega)
            have hd3n : decide (n ≤ q) = true := decide_eq_true (by omega)
            have HNO : Hid (chk1 l 0 = none) := Lib.hid (by rw [HCZ.out, HZR.out, decide_eq_false (by rw [HN.out]; omega)]; simp)
            clear hqn
            go_wp2_with (refine wpList_store_row rfl 96 (.tmp 2) (.tmp 97) rfl w.heap.size rfl _ _ rfl 96 HC2.out.res (by kernel_rfl) rfl (by simp [Value.oneCell']) ?_; intro w9 hY hG; have HY := Lib.hid hY; have HGn := Lib.hid hG; clear hY hG)
            refine bodyPost_ret (results_row_2 rfl _ _ w.heap.size 96 _ _ rfl HY.out Try.underlying96 rfl (by kernel_rfl)) rfl (.inr ⟨HNO.out, rfl, HC2.out.f.step HGn.out (fun x hx => .inr (by simp at hx; omega))⟩)
    · have hzb : (((m : Nat) : Int) != 0) = true := by rw [bne_iff_ne]; omega
      have HT : Hid (textsR l (f + 1) k' = if k' + 2 ≤ n then if k' + 2 + nb l (k' + 1) 1 ≤ n then (textsR l f (k' + 2 + nb l (k' + 1) 1)).map fun r => (((((m : Nat) : Int), (l.drop (k' + 2)).take (nb l (k' + 1) 1)) : Int × List UInt8) :: r.1, r.2) else none else none) := Lib.hid (by rw [textsR_succ, if_pos (by rw [HN.out]; omega), HM.out, if_neg hz, HN.out])
      clear hz
      obtain ⟨k2, hk2⟩ : ∃ k2, k' + 2 = k2 := ⟨_, rfl⟩
      rw [hk2] at HT
      have HK2 := Lib.hid hk2
      have hkw : wrap64 (((k' : Nat) : Int) + 2) = ((k2 : Nat) : Int) := by rw [IntWalk.wrap64_in _ ⟨by omega, by omega⟩]; omega
      have hkw2 : ((k' : Nat) : Int) + 2 = ((k2 : Nat) : Int) := by omega
      have hk2b : k2 ≤ 1099511000004 := by omega
      by_cases hg1 : k2 ≤ n
      rotate_left
      · have hd3 : decide ((n : Int) < (k2 : Int)) = true := decide_eq_true (by omega)
        have hd3n : decide (n < k2) = true := decide_eq_true (by omega)
        have HNO : Hid (chk1 l 0 = none) := Lib.hid (by rw [HC1.out, HC.out.eq, HT.out, if_neg hg1]; rfl)
        clear hg1 hk2
        go_wp2_with (refine wpList_store_row rfl 96 (.tmp 2) (.tmp 45) rfl w.heap.size rfl _ _ rfl 96 HC.out.res (by kernel_rfl) rfl (by simp [Value.oneCell']) ?_; intro w9 hY hG; have HY := Lib.hid hY; have HGn := Lib.hid hG; clear hY hG)
        refine bodyPost_ret (results_row_2 rfl _ _ w.heap.size 96 _ _ rfl HY.out Try.underlying96 rfl (by kernel_rfl)) rfl (.inr ⟨HNO.out, rfl, HC.out.f.step HGn.out (fun x hx => .inr (by simp at hx; omega))⟩)
      have hd3 : decide ((n : Int) < (k2 : Int)) = false := decide_eq_false (by omega)
      have hd3n : decide (n < k2) = false := decide_eq_false (by omega)
      have hk1n : k' + 1 < n := by omega
      have d2 := HCL.out wr HBL.out (k' + 1) hk1n
      obtain ⟨tl, htl⟩ : ∃ tl, nb l (k' + 1) 1 = tl := ⟨_, rfl⟩
      have htb : tl < 256 := by rw [← htl]; exact nb_lt l (k' + 1) 1
      rw [htl] at d2 HT
      have htw : wrap64 ((tl : Nat) : Int) = ((tl : Nat) : Int) := IntWalk.wrap64_in _ ⟨by omega, by omega⟩
      obtain ⟨k1, hk1⟩ : ∃ k1, k' + 1 = k1 := ⟨_, rfl⟩
      have hkw3 : ((k' : Nat) : Int) + 1 = ((k1 : Nat) : Int) := by omega
      have d2 : wr.cell? ⟨b, o + k1, none⟩ = some (.int .u8 ((tl : Nat) : Int)) := by rw [← hk1]; exact d2
      have hk1b : ((k1 : Nat) : Int) < (n : Int) := by omega
      obtain ⟨e2, he2⟩ : ∃ e2, k2 + tl = e2 := ⟨_, rfl⟩
      rw [he2] at HT
      have HE2 := Lib.hid he2
      have hew : ((k2 : Nat) : Int) + ((tl : Nat) : Int) = ((e2 : Nat) : Int) := by omega
      have heb : e2 ≤ 1099511000264 := by omega
      clear htl hk1
      by_cases hg2 : e2 ≤ n
      rotate_left
      · have hd4 : decide ((n : Int) < (e2 : Int)) = true := decide_eq_true (by omega)
        have hd4n : decide (n < e2) = true := decide_eq_true (by omega)
        have HNO : Hid (chk1 l 0 = none) := Lib.hid (by rw [HC1.out, HC.out.eq, HT.out, if_pos hg1, if_neg hg2]; rfl)
        clear hg1 hk2 hg2 he2
        go_wp2_with (refine wpList_store_row rfl 96 (.tmp 2) (.tmp 45) rfl w.heap.size rfl _ _ rfl 96 HC.out.res (by kernel_rfl) rfl (by simp [Value.oneCell']) ?_; intro w9 hY hG; have HY := Lib.hid hY; have HGn := Lib.hid hG; clear hY hG)
        refine bodyPost_ret (results_row_2 rfl _ _ w.heap.size 96 _ _ rfl HY.out Try.underlying96 rfl (by kernel_rfl)) rfl (.inr ⟨HNO.out, rfl, HC.out.f.step HGn.out (fun x hx => .inr (by simp at hx; omega))⟩)
      have hd4 : decide ((n : Int) < (e2 : Int)) = false := decide_eq_false (by omega)
      have hd4n : decide (n < e2) = false := decide_eq_false (by omega)
      have HE2L : Hid (e2 ≤ l.length) := Lib.hid (by rw [HN.out]; exact hg2)
      rw [if_pos hg1, if_pos hg2] at HT
      clear hk2 he2
      obtain ⟨tx, htx⟩ : ∃ tx, (l.drop k2).take tl = tx := ⟨_, rfl⟩
      rw [htx] at HT
      have HSB : Hid (Bytes wr (.slice (if cap = k2 then some ⟨b, o, none⟩ else some ⟨b, o + k2, none⟩) tx.length (cap - k2)) tx) := Lib.hid (by
        have h9 := Sl.sub' HBL.out k2 tl (by have := HE2.out; omega)
        rw [← List.map_drop, ← List.map_take, htx] at h9
        have h8 : tx.length = tl := by rw [← htx, List.length_take, List.length_drop, HN.out]; have := HE2.out; omega
        rw [h8]
        exact h9)
      have htxl : tx.length = tl := by rw [← htx, List.length_take, List.length_drop, HN.out]; have := HE2.out; omega
      rw [htxl] at HSB
      clear htx htxl
      obtain ⟨qa, hqa⟩ : ∃ qa, (if cap = k2 then some (⟨b, o, none⟩ : Addr) else some ⟨b, o + k2, none⟩) = qa := ⟨_, rfl⟩
      rw [hqa] at HSB
      have hi1 : IntKind.i64.wrap ((k2 : Nat) : Int) = ((k2 : Nat) : Int) := IntWalk.i64_in _ (by omega)
      have hi2 : IntKind.i64.wrap (((k2 : Nat) : Int) + ((tl : Nat) : Int)) = ((e2 : Nat) : Int) := by rw [hew]; exact IntWalk.i64_in _ (by omega)
      have hcp : ((e2 : Nat) : Int) ≤ ((cap : Nat) : Int) := by omega
      have hmx : ((k2 : Nat) : Int) ≤ max ((e2 : Nat) : Int) 0 := by omega
      have hi3 : IntKind.i64.wrap ((e2 : Nat) : Int) = ((e2 : Nat) : Int) := IntWalk.i64_in _ (by omega)
      have hkn : k2 ≤ e2 := by have := HE2.out; omega
      have him : IntKind.i64.wrap ((m : Nat) : Int) = ((m : Nat) : Int) := IntWalk.i64_in _ (by have := HM.out; have := nb_lt l k' 1; omega)
      have hek : e2 - k2 = tl := by have := HE2.out; omega
      go_upto_region 9 with fail
      refine wp_region_T (fun w' => Fr [] wr.drew w') [18, 19, 20] 21 #[false, false, false, false, false, false, false, false, false, false, false, false, false, false, false, false, false, false, false, false, false] (by kernel_rfl) rfl rfl ?_
      try simp only [List.append_eq, List.cons_append, List.nil_append]
      have hF := (Fr.refl [] wr).drew
      have HC := Lib.hid (HC.out.keep hF)
      have HBL := Lib.hid (Sl.keep HBL.out hF)
      have HSB := Lib.hid (Sl.keep HSB.out hF)
      clear hF d1 d2
      have HSS : Hid (Fr [] wr.drew wr.drew) := Lib.hid (Fr.refl _ _)
      generalize wr.drew = wd at *
      refine wpAnyT_load (i := 0) (v := ?_) rfl (by kernel_rfl) (by kernel_rfl) (by kernel_rfl) (by kernel_rfl) (by kernel_rfl) (fun _ _ _ h => h) HSS.out (by rfl) ?_ ?_
      rotate_left
      · intro w hSw; skip; go_simp; try with_reducible rfl
      simp only [Act.put, List.getElem_toArray, List.getElem_cons_zero, List.getElem_cons_succ, List.setIfInBounds_toArray, List.set_cons_zero, List.set_cons_succ]
      refine wpAnyT_load (i := 1) (v := ?_) rfl (by kernel_rfl) (by kernel_rfl) (by kernel_rfl) (by kernel_rfl) (by kernel_rfl) (fun _ _ _ h => h) HSS.out (by rfl) ?_ ?_
      rotate_left
      · intro w hSw; have n1 := (HC.out.box.keep hSw).cell 1; simp only [List.getElem?_toArray, List.getElem?_cons_succ, List.getElem?_cons_zero] at n1; go_simp; try with_reducible rfl
      simp only [Act.put, List.getElem_toArray, List.getElem_cons_zero, List.getElem_cons_succ, List.setIfInBounds_toArray, List.set_cons_zero, List.set_cons_succ]
      refine wpAnyT_load (i := 2) (v := ?_) rfl (by kernel_rfl) (by kernel_rfl) (by kernel_rfl) (by kernel_rfl) (by kernel_rfl) (fun _ _ _ h => h) HSS.out (by rfl) ?_ ?_
      rotate_left
      · intro w hSw; skip; go_simp; try with_reducible rfl
      simp only [Act.put, List.getElem_toArray, List.getElem_cons_zero, List.getElem_cons_succ, List.setIfInBounds_toArray, List.set_cons_zero, List.set_cons_succ]
      refine wpAnyT_load (i := 3) (v := ?_) rfl (by kernel_rfl) (by kernel_rfl) (by kernel_rfl) (by kernel_rfl) (by kernel_rfl) (fun _ _ _ h => h) HSS.out (by rfl) ?_ ?_
      rotate_left
      · intro w hSw; skip; go_simp; try with_reducible rfl
      simp only [Act.put, List.getElem_toArray, List.getElem_cons_zero, List.getElem_cons_succ, List.setIfInBounds_toArray, List.set_cons_zero, List.set_cons_succ]
      refine wpAnyT_load (i := 4) (v := ?_) rfl (by kernel_rfl) (by kernel_rfl) (by kernel_rfl) (by kernel_rfl) (by kernel_rfl) (fun _ _ _ h => h) HSS.out (by rfl) ?_ ?_
      rotate_left
      · intro w hSw; skip; go_simp; try with_reducible rfl
      simp only [Act.put, List.getElem_toArray, List.getElem_cons_zero, List.getElem_cons_succ, List.setIfInBounds_toArray, List.set_cons_zero, List.set_cons_succ]
      refine wpAnyT_load (i := 5) (v := ?_) rfl (by kernel_rfl) (by kernel_rfl) (by kernel_rfl) (by kernel_rfl) (by kernel_rfl) (fun _ _ _ h => h) HSS.out (by rfl) ?_ ?_
      rotate_left
      · intro w hSw; have d1 := hSw.cellSome (HCL.out wd HBL.out k' hkl) (by simp); rw [HM.out] at d1; go_simp; try with_reducible rfl
      simp only [Act.put, List.getElem_toArray, List.getElem_cons_zero, List.getElem_cons_succ, List.setIfInBounds_toArray, List.set_cons_zero, List.set_cons_succ]
      refine wpAnyT_load (i := 6) (v := ?_) rfl (by kernel_rfl) (by kernel_rfl) (by kernel_rfl) (by kernel_rfl) (by kernel_rfl) (fun _ _ _ h => h) HSS.out (by rfl) ?_ ?_
      rotate_left
      · intro w hSw; skip; go_simp; try with_reducible rfl
      simp only [Act.put, List.getElem_toArray, List.getElem_cons_zero, List.getElem_cons_succ, List.setIfInBounds_toArray, List.set_cons_zero, List.set_cons_succ]
      refine wpAnyT_load (i := 7) (v := ?_) rfl (by kernel_rfl) (by kernel_rfl) (by kernel_rfl) (by kernel_rfl) (by kernel_rfl) (fun _ _ _ h => h) HSS.out (by rfl) ?_ ?_
      rotate_left
      · intro w hSw; skip; go_simp; try with_reducible rfl
      simp only [Act.put, List.getElem_toArray, List.getElem_cons_zero, List.getElem_cons_succ, List.setIfInBounds_toArray, List.set_cons_zero, List.set_cons_succ]
      refine wpAnyT_load (i := 8) (v := ?_) rfl (by kernel_rfl) (by kernel_rfl) (by kernel_rfl) (by kernel_rfl) (by kernel_rfl) (fun _ _ _ h => h) HSS.out (by rfl) ?_ ?_
      rotate_left
      · intro w hSw; skip; go_simp; try with_reducible rfl
      simp only [Act.put, List.getElem_toArray, List.getElem_cons_zero, List.getElem_cons_succ, List.setIfInBounds_toArray, List.set_cons_zero, List.set_cons_succ]
      refine wpAnyT_load (i := 9) (v := ?_) rfl (by kernel_rfl) (by kernel_rfl) (by kernel_rfl) (by kernel_rfl) (by kernel_rfl) (fun _ _ _ h => h) HSS.out (by rfl) ?_ ?_
      rotate_left
      · intro w hSw; skip; go_simp; try with_reducible rfl
      simp only [Act.put, List.getElem_toArray, List.getElem_cons_zero, List.getElem_cons_succ, List.setIfInBounds_toArray, List.set_cons_zero, List.set_cons_succ]
      refine wpAnyT_load (i := 10) (v := ?_) rfl (by kernel_rfl) (by kernel_rfl) (by kernel_rfl) (by kernel_rfl) (by kernel_rfl) (fun _ _ _ h => h) HSS.out (by rfl) ?_ ?_
      rotate_left
      · intro w hSw; skip; go_simp; try with_reducible rfl
      simp only [Act.put, List.getElem_toArray, List.getElem_cons_zero, List.getElem_cons_succ, List.setIfInBounds_toArray, List.set_cons_zero, List.set_cons_succ]
      refine wpAnyT_load (i := 11) (v := ?_) rfl (by kernel_rfl) (by kernel_rfl) (by kernel_rfl) (by kernel_rfl) (by kernel_rfl) (fun _ _ _ h => h) HSS.out (by rfl) ?_ ?_
      rotate_left
      · intro w hSw; skip; go_simp; try with_reducible rfl
      simp only [Act.put, List.getElem_toArray, List.getElem_cons_zero, List.getElem_cons_succ, List.setIfInBounds_toArray, List.set_cons_zero, List.set_cons_succ]
      refine wpAnyT_load (i := 12) (v := ?_) rfl (by kernel_rfl) (by kernel_rfl) (by kernel_rfl) (by kernel_rfl) (by kernel_rfl) (fun _ _ _ h => h) HSS.out (by rfl) ?_ ?_
      rotate_left
      · intro w hSw; skip; go_simp; try with_reducible rfl
      simp only [Act.put, List.getElem_toArray, List.getElem_cons_zero, List.getElem_cons_succ, List.setIfInBounds_toArray, List.set_cons_zero, List.set_cons_succ]
      refine wpAnyT_load (i := 13) (v := ?_) rfl (by kernel_rfl) (by kernel_rfl) (by kernel_rfl) (by kernel_rfl) (by kernel_rfl) (fun _ _ _ h => h) HSS.out (by rfl) ?_ ?_
      rotate_left
      · intro w hSw; skip; go_simp; try with_reducible rfl
      simp only [Act.put, List.getElem_toArray, List.getElem_cons_zero, List.getElem_cons_succ, List.setIfInBounds_toArray, List.set_cons_zero, List.set_cons_succ]
      refine wpAnyT_load (i := 14) (v := ?_) rfl (by kernel_rfl) (by kernel_rfl) (by kernel_rfl) (by kernel_rfl) (by kernel_rfl) (fun _ _ _ h => h) HSS.out (by rfl) ?_ ?_
      rotate_left
      · intro w hSw; skip; go_simp; try with_reducible rfl
      simp only [Act.put, List.getElem_toArray, List.getElem_cons_zero, List.getElem_cons_succ, List.setIfInBounds_toArray, List.set_cons_zero, List.set_cons_succ]
      refine wpAnyT_load (i := 15) (v := ?_) rfl (by kernel_rfl) (by kernel_rfl) (by kernel_rfl) (by kernel_rfl) (by kernel_rfl) (fun _ _ _ h => h) HSS.out (by rfl) ?_ ?_
      rotate_left
      · intro w hSw; have hst := str_of (Sl.keep HSB.out hSw); go_simp; try with_reducible rfl
      simp only [Act.put, List.getElem_toArray, List.getElem_cons_zero, List.getElem_cons_succ, List.setIfInBounds_toArray, List.set_cons_zero, List.set_cons_succ]
      refine wpAnyT_load (i := 16) (v := ?_) rfl (by kernel_rfl) (by kernel_rfl) (by kernel_rfl) (by kernel_rfl) (by kernel_rfl) (fun _ _ _ h => h) HSS.out (by rfl) ?_ ?_
      rotate_left
      · intro w hSw; skip; go_simp; try with_reducible rfl
      simp only [Act.put, List.getElem_toArray, List.getElem_cons_zero, List.getElem_cons_succ, List.setIfInBounds_toArray, List.set_cons_zero, List.set_cons_succ]
      obtain ⟨wa, ea, hFa, hBa, hsa⟩ := one_new wd (txc ((m : Nat), tx)) 97
      have HC := Lib.hid (HC.out.keep hFa); have HBA := Lib.hid hBa; have EA := Lib.hid ea; have HSS := Lib.hid (HSS.out.trans hFa); have HBL := Lib.hid (Sl.keep HBL.out hFa)
      clear hFa hBa ea hsa
      refine wpAnyT_one (i := 17) (by kernel_rfl) rfl (fun K hK => ?_)
      rw [if_pos (by rfl)]
      go_simp
      rw [EA.out]
      refine hK.out _ _ (fun _ => HSS.out) ?_
      clear hK K
      simp only [Act.put, List.getElem_toArray, List.getElem_cons_zero, List.getElem_cons_succ, List.setIfInBounds_toArray, List.set_cons_zero, List.set_cons_succ]
      have HL1 : Hid (ts.length + 1 ≤ maxLen) := Lib.hid (by have := HC.out.n; have := HC.out.hi; have := HSM.out; unfold maxLen; omega)
      have HL2 : Hid ((ts.length + 1) * 24 ≤ 140737488355328) := Lib.hid (by have := HC.out.n; have := HC.out.hi; have := HSM.out; omega)
      have HEL : Hid (Els TxtR [(((m : Nat) : Int), tx)] wa (txc ((m : Nat), tx)).toList []) := Lib.hid ⟨_, [], [], [], by simp, rfl, ⟨rfl, rfl⟩, rfl, rfl⟩
      refine wpAnyT_one (i := 18) (by kernel_rfl) rfl (fun K hK => ?_)
      refine step_append_els Rep.txt (by decide) rfl (.tmp 53) (.tmp 69) 94 rfl B0 97 (.agg #[.int .i64 0, .string ⟨#[]⟩]) 24 Try.underlying94 info_rtxt rfl _ ts [] rfl HC.out.own ⟨wd.heap.size, 0, none⟩ 1 1 rfl [(((m : Nat) : Int), tx)] rfl _ [] HEL.out (fun j u hj => by rw [Addr.add_mid]; exact box_range HBA.out j u hj) (by simp) HL1.out HL2.out HC.out.sz ?_
      intro vs wb hown hfr hbl
      obtain ⟨as1, cs1, es1⟩ := hown.shape
      simp only [List.length_append, List.length_singleton] at es1
      subst es1
      have HOW2 := Lib.hid hown; have HFB := Lib.hid hfr
      clear hown hfr hbl
      refine hK.out _ _ (fun _ => by rename_i h; exact absurd (by simp) h) ?_
      clear hK K
      simp only [Act.put, List.getElem_toArray, List.getElem_cons_zero, List.getElem_cons_succ, List.setIfInBounds_toArray, List.set_cons_zero, List.set_cons_succ]
      have HNB : Hid (∀ b ∈ (blockOf (.slice av ts.length cv)).toList, B0 ≤ b) := Lib.hid (fun b hb => (HC.out.own.block b (mem_toList.1 hb)).1)
      have HBX2 := Lib.hid (Box.fr HC.out.box HFB.out (fun hm => by have := HNB.out _ hm; have := HXX.out; omega))
      have HRS2 := Lib.hid (Box.fr HC.out.res HFB.out (fun hm => by have := HNB.out _ hm; have := HXX.out; omega))
      have n1 := HBX2.out.cell 1; have g1 := HBX2.out.free 1
      simp only [List.getElem?_toArray, List.getElem?_cons_succ, List.getElem?_cons_zero] at n1
      obtain ⟨wc, ec, hFc, hBc, -⟩ := set_new HBX2.out 1 (.slice as1 (ts.length + 1) cs1)
      simp only [List.setIfInBounds_toArray, List.set_cons_zero, List.set_cons_succ] at hBc
      have EC := Lib.hid ec; have HFC := Lib.hid hFc; have HBC := Lib.hid hBc
      clear ec hFc hBc
      refine wpAnyT_one (i := 19) (by kernel_rfl) rfl (fun K hK => ?_)
      rw [if_pos (by rfl)]
      go_simp
      refine hK.out _ _ (fun _ => by rename_i h; exact absurd (by simp) h) ?_
      clear hK K
      simp only [Act.put, List.getElem_toArray, List.getElem_cons_zero, List.getElem_cons_succ, List.setIfInBounds_toArray, List.set_cons_zero, List.set_cons_succ]
      refine wpAnyT_one (i := 20) (by kernel_rfl) rfl (fun K hK => ?_)
      rw [if_pos (by rfl)]
      go_simp
      rw [EC.out]
      refine hK.out _ _ (fun _ => by rename_i h; exact absurd (by simp) h) ?_
      clear hK K
      simp only [Act.put, List.getElem_toArray, List.getElem_cons_zero, List.getElem_cons_succ, List.setIfInBounds_toArray, List.set_cons_zero, List.set_cons_succ]
      refine wpAnyT_done (by kernel_rfl) ?_ _
      clear n1 g1
      have HPL : Hid (CDl w wc X B0 l f (ts ++ [(((m : Nat) : Int), tx)]) e2 (.slice as1 (ts.length + 1) cs1)) := Lib.hid ⟨by have := HC.out.fuel; have := HK2.out; have := HE2.out; omega, by have := HC.out.lo; have := HK2.out; have := HE2.out; omega, HE2L.out, by
          rw [HC.out.eq, HT.out, Option.map_map]
          congr 1
          funext r
          simp [Function.comp], by have := HC.out.n; have := HK2.out; have := HE2.out; rw [List.length_append, List.length_singleton]; omega, HBC.out, HOW2.out.fr Rep.txt HFC.out (by simp) (fun b hb hm => by have := (HOW2.out.block b hb).1; have := HXX.out; simp at hm; omega), HRS2.out.fr HFC.out (by have := HXX.out; simp; omega), (HC.out.f.step HFB.out (fun b hb => .inr (by have := HNB.out b hb; have := HXX.out; omega))).step HFC.out (fun b hb => .inr (by have := HXX.out; simp at hb; omega)), Nat.le_trans HC.out.sz (Nat.le_trans HFB.out.size HFC.out.size)⟩
      go_wp2_with fail
      refine ⟨⟨e2, f, _, _, rfl, HPL.out⟩, ?_⟩
      simp [intOf]
      have := HE2.out; have := HK2.out; have := HE2L.out
      omega
end Go.Proofs.Ytcmpjkopdjncdaa
