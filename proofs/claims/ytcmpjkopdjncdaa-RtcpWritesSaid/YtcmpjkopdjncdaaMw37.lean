import Derived.Deep.CutBlock
import Derived.Test.YtcmpjkopdjncdaaMw36
import Derived.Test.YtcmpjkopdjncdaaMw17
/- The walk of rtcp's writeBody. -/
namespace Go.Proofs.Ytcmpjkopdjncdaa
open Go.RowKit

/-- An item's body. -/
def hd7 (x : Itm) : List UInt8 := if x.kind = 200 then beN x.ssrc.toNat 4 ++ beN x.ntp.toNat 8 ++ beN x.ts.toNat 4 ++ beN x.pks.toNat 4 ++ beN x.ocs.toNat 4 else if x.kind = 201 then beN x.ssrc.toNat 4 else []
def srcW (n : UInt32) : List UInt8 := beN n.toNat 4
def body3 (x : Itm) : List UInt8 := hd7 x ++ x.reps.flatMap rptW ++ x.chks.flatMap chkW ++ x.srcs.flatMap srcW
def padW (l : List UInt8) : List UInt8 := l ++ List.replicate (padOf l.length) 0
def bodyW (x : Itm) : List UInt8 := if x.reason = [] then body3 x else padW (body3 x ++ [ib (x.reason.length : Nat)] ++ x.reason)
theorem flat_take_le {α : Type} (f : α → List UInt8) {xs : List α} {j : Nat} {y : α} (hy : xs[j]? = some y) : ((xs.take j).flatMap f).length + (f y).length ≤ (xs.flatMap f).length := by
  obtain ⟨hj, rfl⟩ := List.getElem?_eq_some_iff.1 hy
  have h := List.take_append_drop (j + 1) xs
  have h2 : (xs.take (j + 1)).flatMap f = (xs.take j).flatMap f ++ f xs[j] := by rw [List.take_succ_eq_append_getElem hj, List.flatMap_append]; simp
  have h3 : (xs.flatMap f) = (xs.take (j + 1)).flatMap f ++ (xs.drop (j + 1)).flatMap f := by rw [← List.flatMap_append, h]
  rw [h3, h2]
  simp only [List.length_append]
  omega
theorem chkW_ge (x : Chk) : (x.texts.flatMap txtW).length ≤ (chkW x).length := by unfold chkW chkW0; simp only [List.length_append]; omega
theorem strB_list (l : List UInt8) : (strB l).toList = l := ByteArray.toList_mk l
theorem strB_inj {a b : List UInt8} (h : strB a = strB b) : a = b := by
  unfold strB at h
  simpa using h
set_option maxRecDepth 100000 in
set_option maxHeartbeats 8000000 in
theorem tWBody_any {w : World} {x : Itm} {vr vc vs : Value} {Bc : List Nat} (hr : SlEls 7 RptR w vr x.reps []) (hc : SlEls 2 ChkR w vc x.chks Bc) (hs : SlEls 1 SrcR w vs x.srcs [])
    (hlost : ∀ r ∈ x.reps, -2147483648 ≤ r.lost ∧ r.lost ≤ 2147483647) (hl : (body3 x).length + x.reason.length ≤ 1099511000000) (hn : x.reps.length ≤ 1099511000000 ∧ x.chks.length ≤ 1099511000000 ∧ x.srcs.length ≤ 1099511000000) :
    Calls Try.prog 30 #[.agg (itc x vr vc vs)] w fun e w' => ∃ v', e = .returned v' ∧ OwnB w' w.heap.size v' (bodyW x) ∧ Fr [] w w' := by
  obtain ⟨ar, cr, rfl⟩ := hr.shape
  obtain ⟨ac, cc, rfl⟩ := hc.shape
  obtain ⟨as_, cs, rfl⟩ := hs.shape
  obtain ⟨w2, e2, hF2, hB2, hW2, hs2⟩ := two_new w (itc x (.slice ar x.reps.length cr) (.slice ac x.chks.length cc) (.slice as_ x.srcs.length cs)) 42 #[.slice none 0 0] 73
  have HRL := Lib.hid (hr.lt Rep.rpt).2; have HCL := Lib.hid (hc.lt Rep.chk); have HSL := Lib.hid (hs.lt Rep.src).2
  have HR := Lib.hid (hr.keep Rep.rpt hF2); have HC := Lib.hid (hc.keep Rep.chk hF2); have HS := Lib.hid (hs.keep Rep.src hF2)
  have HB := Lib.hid hB2; have E2 := Lib.hid e2; have HF2 := Lib.hid hF2; have HS2 := Lib.hid hs2; have HLO := Lib.hid hlost; have HLN := Lib.hid hl
  have HWR0 : Hid (Wr w2 (w.heap.size + 1) (.slice none 0 0) w2.heap.size []) := Lib.hid ⟨hW2, ⟨by simp, .inl ⟨rfl, rfl⟩⟩, by omega, Nat.le_refl _⟩
  clear hr hc hs hF2 hB2 e2 hs2 hlost hl hW2
  go_enter Try.func30, Try.ntmps30
  go_upto_region 2 with fail
  rw [E2.out]
  clear E2
  obtain ⟨W, hW⟩ : ∃ W, w.heap.size + 1 = W := ⟨_, rfl⟩
  try simp only [hW]
  rw [hW] at HWR0
  have HXW : Hid (w.heap.size < W) := Lib.hid (by omega)
  have HBW : Hid (∀ wi : World, Fr (W :: (blockOf (.slice none 0 0)).toList) w2 wi → Box wi w.heap.size 42 (itc x (.slice ar x.reps.length cr) (.slice ac x.chks.length cc) (.slice as_ x.srcs.length cs))) := Lib.hid (fun wi hf => HB.out.fr hf (by have := HXW.out; simp [blockOf]; omega))
  have HRW : Hid (∀ wi : World, Fr (W :: (blockOf (.slice none 0 0)).toList) w2 wi → SlEls 7 RptR wi (.slice ar x.reps.length cr) x.reps []) := Lib.hid (fun wi hf => HR.out.fr Rep.rpt hf (by simp) (fun b hb => by have h1 := HRL.out b hb; have := HXW.out; simp [blockOf]; omega))
  have HCW : Hid (∀ wi : World, Fr (W :: (blockOf (.slice none 0 0)).toList) w2 wi → SlEls 2 ChkR wi (.slice ac x.chks.length cc) x.chks Bc) := Lib.hid (fun wi hf => HC.out.fr Rep.chk hf (fun b hb => by have h1 := HCL.out.1 b hb; have := HXW.out; simp [blockOf]; omega) (fun b hb => by have h1 := HCL.out.2 b hb; have := HXW.out; simp [blockOf]; omega))
  have HSW : Hid (∀ wi : World, Fr (W :: (blockOf (.slice none 0 0)).toList) w2 wi → SlEls 1 SrcR wi (.slice as_ x.srcs.length cs) x.srcs []) := Lib.hid (fun wi hf => HS.out.fr Rep.src hf (by simp) (fun b hb => by have h1 := HSL.out b hb; have := HXW.out; simp [blockOf]; omega))
  have x0 := HB.out.cell 0; have x1 := HB.out.cell 1
  simp only [itc, List.getElem?_toArray, List.getElem?_cons_succ, List.getElem?_cons_zero] at x0 x1
  clear hW
  go_upto_block 0 with fail
  go_cut [] (fun wx => ∃ v', WS w2 wx W (.slice none 0 0) v' w2.heap.size (hd7 x))
  case first =>
    have HWS := Lib.hid (WS.start HWR0.out)
    by_cases h200 : x.kind = 200
    · have HHD : Hid (hd7 x = [] ++ beN x.ssrc.toNat 4 ++ beN x.ntp.toNat 8 ++ beN x.ts.toNat 4 ++ beN x.pks.toNat 4 ++ beN x.ocs.toNat 4) := Lib.hid (by unfold hd7; rw [if_pos h200]; rfl)
      have b200 : (x.kind == 200) = true := beq_iff_eq.2 h200
      clear h200
      go_wp2_with fail
      refine (wlong_any HWS.out.wr x.ssrc.toNat (by have := x.ssrc.toNat_lt; omega) (by simp only [List.length_append, beN_len, List.length_nil]; omega)).mono ?_
      rintro e q1 ⟨p1, rfl, hw⟩
      have HWS := Lib.hid (HWS.out.trans hw)
      clear hw x1
      have x2 := (HBW.out _ HWS.out.fr).cell 2
      simp only [itc, List.getElem?_toArray, List.getElem?_cons_succ, List.getElem?_cons_zero] at x2
      go_wp2_with fail
      refine (wwide_any HWS.out.wr x.ntp.toNat (by have := x.ntp.toNat_lt; omega) (by simp only [List.length_append, beN_len, List.length_nil]; omega)).mono ?_
      rintro e q2 ⟨p2, rfl, hw⟩
      have HWS := Lib.hid (HWS.out.trans hw)
      clear hw x2
      have x3 := (HBW.out _ HWS.out.fr).cell 3
      simp only [itc, List.getElem?_toArray, List.getElem?_cons_succ, List.getElem?_cons_zero] at x3
      go_wp2_with fail
      refine (wlong_any HWS.out.wr x.ts.toNat (by have := x.ts.toNat_lt; omega) (by simp only [List.length_append, beN_len, List.length_nil]; omega)).mono ?_
      rintro e q3 ⟨p3, rfl, hw⟩
      have HWS := Lib.hid (HWS.out.trans hw)
      clear hw x3
      have x4 := (HBW.out _ HWS.out.fr).cell 4
      simp only [itc, List.getElem?_toArray, List.getElem?_cons_succ, List.getElem?_cons_zero] at x4
      go_wp2_with fail
      refine (wlong_any HWS.out.wr x.pks.toNat (by have := x.pks.toNat_lt; omega) (by simp only [List.length_append, beN_len, List.length_nil]; omega)).mono ?_
      rintro e q4 ⟨p4, rfl, hw⟩
      have HWS := Lib.hid (HWS.out.trans hw)
      clear hw x4
      have x5 := (HBW.out _ HWS.out.fr).cell 5
      simp only [itc, List.getElem?_toArray, List.getElem?_cons_succ, List.getElem?_cons_zero] at x5
      go_wp2_with fail
      refine (wlong_any HWS.out.wr x.ocs.toNat (by have := x.ocs.toNat_lt; omega) (by simp only [List.length_append, beN_len, List.length_nil]; omega)).mono ?_
      rintro e q5 ⟨p5, rfl, hw⟩
      have HWS := Lib.hid (HWS.out.trans hw)
      clear hw x5
      go_wp2_with fail
      go_meet
      exact ⟨_, by rw [HHD.out]; exact HWS.out⟩
    have b200 : (x.kind == 200) = false := beq_eq_false_iff_ne.2 h200
    by_cases h201 : x.kind = 201
    · have HHD : Hid (hd7 x = [] ++ beN x.ssrc.toNat 4) := Lib.hid (by unfold hd7; rw [if_neg h200, if_pos h201]; rfl)
      have b201 : (x.kind == 201) = true := beq_iff_eq.2 h201
      clear h200 h201
      go_wp2_with fail
      refine (wlong_any HWS.out.wr x.ssrc.toNat (by have := x.ssrc.toNat_lt; omega) (by simp only [List.length_append, beN_len, List.length_nil]; omega)).mono ?_
      rintro e q1 ⟨p1, rfl, hw⟩
      have HWS := Lib.hid (HWS.out.trans hw)
      clear hw x1
      go_wp2_with fail
      go_meet
      exact ⟨_, by rw [HHD.out]; exact HWS.out⟩
    have b201 : (x.kind == 201) = false := beq_eq_false_iff_ne.2 h201
    have HHD : Hid (hd7 x = []) := Lib.hid (by unfold hd7; rw [if_neg h200, if_neg h201])
    clear h200 h201
    go_wp2_with fail
    go_meet
    exact ⟨_, by rw [HHD.out]; exact HWS.out⟩
  case rest =>
    obtain ⟨v1, hws⟩ := hcut
    have HWS := Lib.hid hws
    clear hws x0 x1
    have x6 := (HBW.out _ HWS.out.fr).cell 6
    simp only [itc, List.getElem?_toArray, List.getElem?_cons_succ, List.getElem?_cons_zero] at x6
    go_upto_region 12 with fail
    clear x6
    have HLB := Lib.hid (show (hd7 x).length + (x.reps.flatMap rptW).length ≤ 1099511000000 by have := HLN.out; unfold body3 at this; simp only [List.length_append] at this ⊢; omega)
    have hmb : x.reps.length ≤ 1099511000000 := by omega
    go_loopw [37] (fun iv wr => ∃ (j : Nat) (v' : Value), j ≤ x.reps.length ∧ iv = .int .i64 j ∧ WS w2 wr W (.slice none 0 0) v' w2.heap.size (hd7 x ++ (x.reps.take j).flatMap rptW)) (fun iv _ => x.reps.length - (intOf iv).toNat)
    case atStart => exact ⟨0, _, Nat.zero_le _, rfl, by simpa using HWS.out⟩
    case round =>
      clear HWS
      obtain ⟨j, v', hj, rfl, hws⟩ := hrel
      have HWS := Lib.hid hws
      clear hws
      by_cases hlt : j < x.reps.length
      · obtain ⟨b, o, c, y, B1, ea, hbl, hy, ⟨rfl, -⟩, -, hrg⟩ := (HRW.out _ HWS.out.fr).at_ Rep.rpt (i := j) hlt
        subst ea
        have HRG := Lib.hid hrg
        have HTK : Hid (x.reps.take (j + 1) = x.reps.take j ++ [y]) := Lib.hid (by rw [List.take_add_one, hy]; rfl)
        have HYL := Lib.hid (show (hd7 x ++ (x.reps.take j).flatMap rptW).length + (rptW y).length ≤ 1099511000000 by have h1 := flat_take_le rptW hy; have := HLB.out; simp only [List.length_append] at this ⊢; omega)
        have HYO := Lib.hid (HLO.out y (List.mem_of_getElem? hy))
        clear hy hrg hbl
        obtain ⟨wa, ea, hFa, hBa, hsa⟩ := one_new wr (rpc7 y) 57
        have EA := Lib.hid ea; have HX := Lib.hid hBa; have HWA := Lib.hid (HWS.out.quiet hFa)
        clear ea hFa hBa hsa
        go_upto_region 14 with (refine wpList_load_midA rfl 57 (.tmp 39) rfl b (o + j * 7) rfl (rpc7 y) _ HRG.out Try.underlying57 rfl (by kernel_rfl) ?_)
        rw [EA.out]
        clear EA HWS
        go_wp2_with (refine wpList_load_row_w rfl 57 (.tmp 5) rfl wr.heap.size rfl 57 _ _ HX.out Try.underlying57 rfl (by kernel_rfl) ?_)
        refine (tWReport_any HWA.out.wr y HYO.out (by have := HYL.out; omega)).mono ?_
        rintro e w4 ⟨v4, rfl, hw⟩
        have HWA := Lib.hid (HWA.out.trans hw)
        clear hw
        go_wp2_with fail
        refine ⟨⟨j + 1, v4, by omega, by go_num, ?_⟩, by simp [intOf]; omega⟩
        have h9 := HWA.out
        rw [HTK.out, List.flatMap_append]
        simpa using h9
      · obtain rfl : j = x.reps.length := by omega
        have hw9 := HWS.out
        rw [List.take_of_length_le (Nat.le_refl _)] at hw9
        have HWS := Lib.hid hw9
        clear hw9 hj hlt
        have x7 := (HBW.out _ HWS.out.fr).cell 7
        simp only [itc, List.getElem?_toArray, List.getElem?_cons_succ, List.getElem?_cons_zero] at x7
        go_upto_region 17 with fail
        clear x7 HLB hmb
        have HLB := Lib.hid (show (hd7 x ++ x.reps.flatMap rptW).length + (x.chks.flatMap chkW).length ≤ 1099511000000 by have := HLN.out; unfold body3 at this; simp only [List.length_append] at this ⊢; omega)
        have hmb : x.chks.length ≤ 1099511000000 := by omega
        go_loopw [47] (fun iv wr => ∃ (j : Nat) (v' : Value), j ≤ x.chks.length ∧ iv = .int .i64 j ∧ WS w2 wr W (.slice none 0 0) v' w2.heap.size (hd7 x ++ x.reps.flatMap rptW ++ (x.chks.take j).flatMap chkW)) (fun iv _ => x.chks.length - (intOf iv).toNat)
        case atStart => exact ⟨0, _, Nat.zero_le _, rfl, by simpa using HWS.out⟩
        case round =>
          clear HWS
          obtain ⟨j, v', hj, rfl, hws⟩ := hrel
          have HWS := Lib.hid hws
          clear hws
          by_cases hlt : j < x.chks.length
          · obtain ⟨b, o, c, y, B1, ea, hbl, hy, ⟨vt, rfl, hvt, rfl⟩, hB1, hrg⟩ := (HCW.out _ HWS.out.fr).at_ Rep.chk (i := j) hlt
            subst ea
            have HRG := Lib.hid hrg
            have HTK : Hid (x.chks.take (j + 1) = x.chks.take j ++ [y]) := Lib.hid (by rw [List.take_add_one, hy]; rfl)
            have HYL := Lib.hid (show (hd7 x ++ x.reps.flatMap rptW ++ (x.chks.take j).flatMap chkW).length + (chkW y).length ≤ 1099511000000 by have h1 := flat_take_le chkW hy; have := HLB.out; simp only [List.length_append] at this ⊢; omega)
            have HVL := Lib.hid (fun b (hb : liveOf vt = some b) => Nat.lt_trans (HCL.out.1 b (hB1 b (mem_toList.2 hb))) HXW.out)
            obtain ⟨at_, ct, rfl⟩ := hvt.shape
            clear hy hrg hbl hB1
            obtain ⟨wa, ea, hFa, hBa, hsa⟩ := one_new wr #[.int .u32 (y.ssrc.toNat : Nat), .slice at_ y.texts.length ct] 87
            have EA := Lib.hid ea; have HX := Lib.hid hBa; have HWA := Lib.hid (HWS.out.quiet hFa); have HVT := Lib.hid (hvt.keep Rep.txt hFa)
            clear ea hFa hBa hsa hvt
            go_upto_region 19 with (refine wpList_load_midA rfl 87 (.tmp 49) rfl b (o + j * 2) rfl #[.int .u32 (y.ssrc.toNat : Nat), .slice at_ y.texts.length ct] _ HRG.out Try.underlying87 rfl (by kernel_rfl) ?_)
            rw [EA.out]
            clear EA HWS
            go_wp2_with (refine wpList_load_row_w rfl 87 (.tmp 7) rfl wr.heap.size rfl 87 _ _ HX.out Try.underlying87 rfl (by kernel_rfl) ?_)
            refine (tWChunk_any HWA.out.wr y HVT.out HVL.out (by have := HYL.out; have := chkW_ge y; omega)).mono ?_
            rintro e w4 ⟨v4, rfl, hw⟩
            have HWA := Lib.hid (HWA.out.trans hw)
            clear hw
            go_wp2_with fail
            refine ⟨⟨j + 1, v4, by omega, by go_num, ?_⟩, by simp [intOf]; omega⟩
            have h9 := HWA.out
            rw [HTK.out, List.flatMap_append]
            simpa using h9
          · obtain rfl : j = x.chks.length := by omega
            have hw9 := HWS.out
            rw [List.take_of_length_le (Nat.le_refl _)] at hw9
            have HWS := Lib.hid hw9
            clear hw9 hj hlt
            have x8 := (HBW.out _ HWS.out.fr).cell 8
            simp only [itc, List.getElem?_toArray, List.getElem?_cons_succ, List.getElem?_cons_zero] at x8
            go_upto_region 22 with fail
            clear x8 HLB hmb
            have HLB := Lib.hid (show (hd7 x ++ x.reps.flatMap rptW ++ x.chks.flatMap chkW).length + (x.srcs.flatMap srcW).length ≤ 1099511000000 by have := HLN.out; unfold body3 at this; simp only [List.length_append] at this ⊢; omega)
            have hmb : x.srcs.length ≤ 1099511000000 := by omega
            go_loopw [57] (fun iv wr => ∃ (j : Nat) (v' : Value), j ≤ x.srcs.length ∧ iv = .int .i64 j ∧ WS w2 wr W (.slice none 0 0) v' w2.heap.size (hd7 x ++ x.reps.flatMap rptW ++ x.chks.flatMap chkW ++ (x.srcs.take j).flatMap srcW)) (fun iv _ => x.srcs.length - (intOf iv).toNat)
            case atStart => exact ⟨0, _, Nat.zero_le _, rfl, by simpa using HWS.out⟩
            case round =>
              clear HWS
              obtain ⟨j, v', hj, rfl, hws⟩ := hrel
              have HWS := Lib.hid hws
              clear hws
              by_cases hlt : j < x.srcs.length
              · obtain ⟨b, o, c, y, B1, ea, hbl, hy, ⟨rfl, -⟩, -, hrg⟩ := (HSW.out _ HWS.out.fr).at_ Rep.src (i := j) hlt
                subst ea
                have e2 : wr.cell? ⟨b, o + j, none⟩ = some (.int .u32 (y.toNat : Nat)) := by have := hrg 0 _ rfl; simpa using this
                have HTK : Hid (x.srcs.take (j + 1) = x.srcs.take j ++ [y]) := Lib.hid (by rw [List.take_add_one, hy]; rfl)
                have HYL := Lib.hid (show (hd7 x ++ x.reps.flatMap rptW ++ x.chks.flatMap chkW ++ (x.srcs.take j).flatMap srcW).length + (srcW y).length ≤ 1099511000000 by have h1 := flat_take_le srcW hy; have := HLB.out; simp only [List.length_append] at this ⊢; omega)
                clear hy hrg hbl
                go_wp2_with fail
                refine (wlong_any HWS.out.wr y.toNat (by have := y.toNat_lt; omega) (by have := HYL.out; omega)).mono ?_
                rintro e w4 ⟨v4, rfl, hw⟩
                have HWA := Lib.hid (HWS.out.trans hw)
                clear hw e2
                go_wp2_with fail
                refine ⟨⟨j + 1, v4, by omega, by go_num, ?_⟩, by simp [intOf]; omega⟩
                have h9 := HWA.out
                rw [HTK.out, List.flatMap_append]
                simpa [srcW] using h9
              · obtain rfl : j = x.srcs.length := by omega
                have hw9 := HWS.out
                rw [List.take_of_length_le (Nat.le_refl _)] at hw9
                have HWS : Hid (WS w2 wr W (.slice none 0 0) v' w2.heap.size (body3 x)) := Lib.hid hw9
                clear hw9 hj hlt
                have x9 := (HBW.out _ HWS.out.fr).cell 9
                simp only [itc, List.getElem?_toArray, List.getElem?_cons_succ, List.getElem?_cons_zero] at x9
                have HB3 : Hid ((body3 x).length ≤ 1099511000000) := Lib.hid (by have := HLN.out; omega)
                clear HLB hmb
                by_cases hrn : x.reason = []
                · have HBW3 : Hid (bodyW x = body3 x) := Lib.hid (by unfold bodyW; rw [if_pos hrn])
                  have hS : (strB x.reason).toList.isEmpty = true := by rw [strB_list, hrn]; rfl
                  clear hrn
                  go_wp2_with fail
                  refine (wdone_any HWS.out.wr (by have := HB3.out; omega)).mono ?_
                  rintro e w9 ⟨v9, rfl, hO, hF⟩
                  have HO := Lib.hid hO; have HFQ := Lib.hid (HWS.out.outer HWR0.out HF2.out (Nat.le_of_lt HXW.out)); have HF9 := Lib.hid hF
                  clear hO hF
                  go_wp2_with fail
                  go_ret
                  exact ⟨v9, rfl, by rw [HBW3.out]; exact HO.out.mono HFQ.out.size, HFQ.out.trans HF9.out⟩
                · have HBW3 : Hid (bodyW x = padW (body3 x ++ [ib (x.reason.length : Nat)] ++ x.reason)) := Lib.hid (by unfold bodyW; rw [if_neg hrn])
                  have hsz := strB_size x.reason
                  have hS : (strB x.reason).toList.isEmpty = false := by rw [strB_list]; exact List.isEmpty_eq_false_iff.2 hrn
                  have HRL2 : Hid ((body3 x).length + x.reason.length ≤ 1099511000000) := HLN
                  clear hrn
                  go_wp2_with fail
                  refine (wbyte_any HWS.out.wr (x.reason.length : Nat) (by have := HB3.out; omega)).mono ?_
                  rintro e w5 ⟨v5, rfl, hw⟩
                  have HWS := Lib.hid (HWS.out.trans hw)
                  clear hw x9
                  have x9 := (HBW.out _ HWS.out.fr).cell 9
                  simp only [itc, List.getElem?_toArray, List.getElem?_cons_succ, List.getElem?_cons_zero] at x9
                  obtain ⟨c6, w6, hcv, hb6, hF6, hs6⟩ := bytes_of w5 x.reason (by have := HRL2.out; unfold maxLen; omega)
                  have HB6 := Lib.hid hb6; have HWS := Lib.hid (HWS.out.quiet hF6)
                  clear hb6 hF6 hs6
                  go_wp2_with fail
                  refine (wput_any HWS.out.wr HB6.out (by have := HRL2.out; omega) (by have := HB3.out; simp only [List.length_append, List.length_singleton]; omega)).mono ?_
                  rintro e w7 ⟨v7, rfl, hw⟩
                  have HWS := Lib.hid (HWS.out.trans hw)
                  clear hw x9 hcv
                  go_wp2_with fail
                  refine (tFill_any HWS.out.wr 0 (Nat.zero_le _) (by have := HRL2.out; simp only [List.length_append, List.length_singleton]; omega)).mono ?_
                  rintro e w8 ⟨v8, rfl, hw⟩
                  have HWS := Lib.hid (HWS.out.trans hw)
                  clear hw
                  rw [Nat.sub_zero] at HWS
                  have HWS : Hid (WS w2 w8 W (.slice none 0 0) v8 w2.heap.size (padW (body3 x ++ [ib (x.reason.length : Nat)] ++ x.reason))) := HWS
                  rw [← HBW3.out] at HWS
                  have HBL : Hid ((bodyW x).length ≤ 1099511627776) := Lib.hid (by rw [HBW3.out]; unfold padW; have h1 := (padOf_int (body3 x ++ [ib (x.reason.length : Nat)] ++ x.reason).length).2; have := HRL2.out; simp only [List.length_append, List.length_replicate, List.length_singleton] at h1 ⊢; omega)
                  go_wp2_with fail
                  refine (wdone_any HWS.out.wr HBL.out).mono ?_
                  rintro e w9 ⟨v9, rfl, hO, hF⟩
                  have HO := Lib.hid hO; have HFQ := Lib.hid (HWS.out.outer HWR0.out HF2.out (Nat.le_of_lt HXW.out)); have HF9 := Lib.hid hF
                  clear hO hF
                  go_wp2_with fail
                  go_ret
                  exact ⟨v9, rfl, HO.out.mono HFQ.out.size, HFQ.out.trans HF9.out⟩
end Go.Proofs.Ytcmpjkopdjncdaa

/- The walk of rtcp's count (printed by gen_7count.py). -/
namespace Go.Proofs.Ytcmpjkopdjncdaa
open Go.RowKit

def plain7 (x : Itm) : Bool := x.ntp == 0 && x.ts == 0 && x.pks == 0 && x.ocs == 0
/-- How many things an item has, and whether it has no others. -/
def count7 (x : Itm) : Nat × Bool :=
  if x.kind = 200 then (x.reps.length, x.chks.length + x.srcs.length == 0 && x.reason.isEmpty)
  else if x.kind = 201 then (x.reps.length, x.chks.length + x.srcs.length == 0 && x.reason.isEmpty && plain7 x)
  else if x.kind = 202 then (x.chks.length, x.reps.length + x.srcs.length == 0 && x.reason.isEmpty && plain7 x && x.ssrc == 0)
  else if x.kind = 203 then (x.srcs.length, x.reps.length + x.chks.length == 0 && plain7 x && x.ssrc == 0)
  else (0, false)
theorem u32_zero {n : UInt32} : (n == 0) = (n.toNat == 0) := by
  rw [Bool.eq_iff_iff, beq_iff_eq, beq_iff_eq, ← UInt32.toNat_inj]; rfl
theorem u64_zero {n : UInt64} : (n == 0) = (n.toNat == 0) := by
  rw [Bool.eq_iff_iff, beq_iff_eq, beq_iff_eq, ← UInt64.toNat_inj]; rfl
set_option maxRecDepth 100000 in
set_option maxHeartbeats 8000000 in
theorem tCount_any {w : World} (x : Itm) {a1 a2 a3 : Option Addr} {c1 c2 c3 : Nat} (hn : x.reps.length ≤ 1099511000000 ∧ x.chks.length ≤ 1099511000000 ∧ x.srcs.length ≤ 1099511000000) :
    Calls Try.prog 31 #[.agg (itc x (.slice a1 x.reps.length c1) (.slice a2 x.chks.length c2) (.slice a3 x.srcs.length c3))] w fun e w' => e = .returned (.tuple #[.int .i64 (count7 x).1, .bool (count7 x).2]) ∧ Fr [] w w' := by
  have HC : Hid (count7 x = if x.kind = 200 then (x.reps.length, x.chks.length + x.srcs.length == 0 && x.reason.isEmpty) else if x.kind = 201 then (x.reps.length, x.chks.length + x.srcs.length == 0 && x.reason.isEmpty && plain7 x) else if x.kind = 202 then (x.chks.length, x.reps.length + x.srcs.length == 0 && x.reason.isEmpty && plain7 x && x.ssrc == 0) else if x.kind = 203 then (x.srcs.length, x.reps.length + x.chks.length == 0 && plain7 x && x.ssrc == 0) else (0, false)) := Lib.hid rfl
  obtain ⟨nr, hnr⟩ : ∃ n, x.reps.length = n := ⟨_, rfl⟩
  obtain ⟨nc, hnc⟩ : ∃ n, x.chks.length = n := ⟨_, rfl⟩
  obtain ⟨ns, hns⟩ : ∃ n, x.srcs.length = n := ⟨_, rfl⟩
  rw [hnr, hnc, hns] at hn HC ⊢
  clear hnr hnc hns
  have hn1 := hn.1; have hn2 := hn.2.1; have hn3 := hn.2.2
  clear hn
  obtain ⟨w1, e1, hF1, hB1, hs1⟩ := one_new w (itc x (.slice a1 nr c1) (.slice a2 nc c2) (.slice a3 ns c3)) 42
  have HF := Lib.hid hF1; have E1 := Lib.hid e1; have HB := Lib.hid hB1
  clear hF1 hB1 e1 hs1
  have HP0 : Hid (plain7 x = (x.ntp.toNat == 0 && x.ts.toNat == 0 && x.pks.toNat == 0 && x.ocs.toNat == 0)) := Lib.hid (by unfold plain7; rw [u64_zero, u32_zero, u32_zero, u32_zero])
  go_enter Try.func31, Try.ntmps31
  go_upto_region 1 with fail
  rw [E1.out]
  clear E1
  go_cut [4] (fun pv wx => pv = .bool (plain7 x) ∧ Fr [] w1 wx)
  case first =>
    have x2 := HB.out.cell 2; have x3 := HB.out.cell 3; have x4 := HB.out.cell 4; have x5 := HB.out.cell 5
    simp only [itc, List.getElem?_toArray, List.getElem?_cons_succ, List.getElem?_cons_zero] at x2 x3 x4 x5
    clear hn1 hn2 hn3
    obtain ⟨n2, hn2⟩ : ∃ n, x.ntp.toNat = n := ⟨_, rfl⟩
    obtain ⟨n3, hn3⟩ : ∃ n, x.ts.toNat = n := ⟨_, rfl⟩
    obtain ⟨n4, hn4⟩ : ∃ n, x.pks.toNat = n := ⟨_, rfl⟩
    obtain ⟨n5, hn5⟩ : ∃ n, x.ocs.toNat = n := ⟨_, rfl⟩
    rw [hn2, hn3, hn4, hn5] at HP0
    rw [hn2] at x2
    rw [hn3] at x3
    rw [hn4] at x4
    rw [hn5] at x5
    clear hn2 hn3 hn4 hn5
    by_cases h2 : n2 = 0
    rotate_left
    · have HP0 := HP0
      have b2 : (((n2 : Nat) : Int) == 0) = false := beq_eq_false_iff_ne.2 (by omega)
      have d2 : (n2 == 0) = false := beq_eq_false_iff_ne.2 h2
      go_wp2_with fail
      go_meet
      exact ⟨by rw [HP0.out]; simp [*], Fr.refl _ _⟩
    subst h2
    by_cases h3 : n3 = 0
    rotate_left
    · have HP0 := HP0
      have b3 : (((n3 : Nat) : Int) == 0) = false := beq_eq_false_iff_ne.2 (by omega)
      have d3 : (n3 == 0) = false := beq_eq_false_iff_ne.2 h3
      go_wp2_with fail
      go_meet
      exact ⟨by rw [HP0.out]; simp [*], Fr.refl _ _⟩
    subst h3
    by_cases h4 : n4 = 0
    rotate_left
    · have HP0 := HP0
      have b4 : (((n4 : Nat) : Int) == 0) = false := beq_eq_false_iff_ne.2 (by omega)
      have d4 : (n4 == 0) = false := beq_eq_false_iff_ne.2 h4
      go_wp2_with fail
      go_meet
      exact ⟨by rw [HP0.out]; simp [*], Fr.refl _ _⟩
    subst h4
    by_cases h5 : n5 = 0
    rotate_left
    · have HP0 := HP0
      have b5 : (((n5 : Nat) : Int) == 0) = false := beq_eq_false_iff_ne.2 (by omega)
      have d5 : (n5 == 0) = false := beq_eq_false_iff_ne.2 h5
      go_wp2_with fail
      go_meet
      exact ⟨by rw [HP0.out]; simp [*], Fr.refl _ _⟩
    subst h5
    go_wp2_with fail
    go_meet
    exact ⟨by rw [HP0.out]; simp [*], Fr.refl _ _⟩
  case rest =>
    obtain ⟨rfl, hF2⟩ := hcut
    have HF := Lib.hid (HF.out.trans hF2); have HB := Lib.hid (HB.out.keep hF2)
    clear hF2 HP0
    obtain ⟨P, hP⟩ : ∃ P, plain7 x = P := ⟨_, rfl⟩
    rw [hP] at HC ⊢
    clear hP
    rw [u32_zero] at HC
    have hS0 : (strB x.reason).toList = x.reason := strB_list _
    have hSS : x.reason.isEmpty = (strB x.reason).toList.isEmpty := by rw [hS0]
    rw [hSS] at HC
    clear hS0 hSS
    have x6 := HB.out.cell 6; have x7 := HB.out.cell 7; have x8 := HB.out.cell 8
    simp only [itc, List.getElem?_toArray, List.getElem?_cons_succ, List.getElem?_cons_zero] at x6 x7 x8
    go_upto_region 2 with fail
    go_quiet (fail)
    generalize hw9 : wc.drewN _ = w9 at *
    have hF9 : Fr [] wc w9 := by rw [← hw9]; exact (Fr.refl [] wc).drewN _
    have HF := Lib.hid (HF.out.trans hF9); have HB := Lib.hid (HB.out.keep hF9)
    clear hw9 hF9 x6 x7 x8
    have x0 := HB.out.cell 0; have x1 := HB.out.cell 1; have x9 := HB.out.cell 9
    simp only [itc, List.getElem?_toArray, List.getElem?_cons_succ, List.getElem?_cons_zero] at x0 x1 x9
    by_cases k200 : x.kind = 200
    · rw [if_pos k200] at HC
      have b200 : (x.kind == 200) = true := beq_iff_eq.2 k200
      obtain ⟨ab, hab⟩ : ∃ ab, nc + ns = ab := ⟨_, rfl⟩
      have had : wrap64 (((nc : Nat) : Int) + ((ns : Nat) : Int)) = ((ab : Nat) : Int) := by rw [IntWalk.wrap64_in _ ⟨by omega, by omega⟩]; omega
      have had2 : IntKind.i64.wrap (((nc : Nat) : Int) + ((ns : Nat) : Int)) = ((ab : Nat) : Int) := by rw [IntWalk.i64_in _ (by omega)]; omega
      have had3 : ((nc : Nat) : Int) + ((ns : Nat) : Int) = ((ab : Nat) : Int) := by omega
      rw [hab] at HC
      clear hab k200
      by_cases hZ : ab = 0
      rotate_left
      · have zt1 : (((ab : Nat) : Int) == 0) = false := beq_eq_false_iff_ne.2 (by omega)
        have zt2 : (ab == 0) = false := beq_eq_false_iff_ne.2 hZ
        clear hZ
        go_upto_region 5 with fail
        go_quiet (fail)
        generalize hw8 : w9.drewN _ = w8 at *
        have HF8 : Hid (Fr [] w9 w8) := Lib.hid (by rw [← hw8]; exact (Fr.refl [] w9).drewN _)
        clear hw8
        go_wp2_with fail
        go_ret2
        exact ⟨by rw [HC.out]; simp [zt2], HF.out.trans HF8.out⟩
      have zt1 : (((ab : Nat) : Int) == 0) = true := beq_iff_eq.2 (by omega)
      have zt2 : (ab == 0) = true := beq_iff_eq.2 hZ
      clear hZ
      by_cases hS : (strB x.reason).toList.isEmpty = true
      rotate_left
      · have st1 : (strB x.reason).toList.isEmpty = false := by simpa using hS
        clear hS
        go_upto_region 5 with fail
        go_quiet (fail)
        generalize hw8 : w9.drewN _ = w8 at *
        have HF8 : Hid (Fr [] w9 w8) := Lib.hid (by rw [← hw8]; exact (Fr.refl [] w9).drewN _)
        clear hw8
        go_wp2_with fail
        go_ret2
        exact ⟨by rw [HC.out]; simp [zt2, st1], HF.out.trans HF8.out⟩
      have st1 : (strB x.reason).toList.isEmpty = true := hS
      clear hS
      go_upto_region 5 with fail
      go_quiet (fail)
      generalize hw8 : w9.drewN _ = w8 at *
      have HF8 : Hid (Fr [] w9 w8) := Lib.hid (by rw [← hw8]; exact (Fr.refl [] w9).drewN _)
      clear hw8
      go_wp2_with fail
      go_ret2
      exact ⟨by rw [HC.out]; simp [zt2, st1], HF.out.trans HF8.out⟩
    rw [if_neg k200] at HC
    have b200 : (x.kind == 200) = false := beq_eq_false_iff_ne.2 k200
    clear k200
    by_cases k201 : x.kind = 201
    · rw [if_pos k201] at HC
      have b201 : (x.kind == 201) = true := beq_iff_eq.2 k201
      obtain ⟨ab, hab⟩ : ∃ ab, nc + ns = ab := ⟨_, rfl⟩
      have had : wrap64 (((nc : Nat) : Int) + ((ns : Nat) : Int)) = ((ab : Nat) : Int) := by rw [IntWalk.wrap64_in _ ⟨by omega, by omega⟩]; omega
      have had2 : IntKind.i64.wrap (((nc : Nat) : Int) + ((ns : Nat) : Int)) = ((ab : Nat) : Int) := by rw [IntWalk.i64_in _ (by omega)]; omega
      have had3 : ((nc : Nat) : Int) + ((ns : Nat) : Int) = ((ab : Nat) : Int) := by omega
      rw [hab] at HC
      clear hab k201
      by_cases hZ : ab = 0
      rotate_left
      · have zt1 : (((ab : Nat) : Int) == 0) = false := beq_eq_false_iff_ne.2 (by omega)
        have zt2 : (ab == 0) = false := beq_eq_false_iff_ne.2 hZ
        clear hZ
        have HF8 : Hid (Fr [] w9 w9) := Lib.hid (Fr.refl _ _)
        go_wp2_with fail
        go_ret2
        exact ⟨by rw [HC.out]; simp [zt2], HF.out.trans HF8.out⟩
      have zt1 : (((ab : Nat) : Int) == 0) = true := beq_iff_eq.2 (by omega)
      have zt2 : (ab == 0) = true := beq_iff_eq.2 hZ
      clear hZ
      by_cases hS : (strB x.reason).toList.isEmpty = true
      rotate_left
      · have st1 : (strB x.reason).toList.isEmpty = false := by simpa using hS
        clear hS
        have HF8 : Hid (Fr [] w9 w9) := Lib.hid (Fr.refl _ _)
        go_wp2_with fail
        go_ret2
        exact ⟨by rw [HC.out]; simp [zt2, st1], HF.out.trans HF8.out⟩
      have st1 : (strB x.reason).toList.isEmpty = true := hS
      clear hS
      by_cases hP : P = true
      rotate_left
      · have pt1 : P = false := by simpa using hP
        clear hP
        have HF8 : Hid (Fr [] w9 w9) := Lib.hid (Fr.refl _ _)
        go_wp2_with fail
        go_ret2
        exact ⟨by rw [HC.out]; simp [zt2, st1, pt1], HF.out.trans HF8.out⟩
      have pt1 : P = true := hP
      clear hP
      have HF8 : Hid (Fr [] w9 w9) := Lib.hid (Fr.refl _ _)
      go_wp2_with fail
      go_ret2
      exact ⟨by rw [HC.out]; simp [zt2, st1, pt1], HF.out.trans HF8.out⟩
    rw [if_neg k201] at HC
    have b201 : (x.kind == 201) = false := beq_eq_false_iff_ne.2 k201
    clear k201
    by_cases k202 : x.kind = 202
    · rw [if_pos k202] at HC
      have b202 : (x.kind == 202) = true := beq_iff_eq.2 k202
      obtain ⟨ab, hab⟩ : ∃ ab, nr + ns = ab := ⟨_, rfl⟩
      have had : wrap64 (((nr : Nat) : Int) + ((ns : Nat) : Int)) = ((ab : Nat) : Int) := by rw [IntWalk.wrap64_in _ ⟨by omega, by omega⟩]; omega
      have had2 : IntKind.i64.wrap (((nr : Nat) : Int) + ((ns : Nat) : Int)) = ((ab : Nat) : Int) := by rw [IntWalk.i64_in _ (by omega)]; omega
      have had3 : ((nr : Nat) : Int) + ((ns : Nat) : Int) = ((ab : Nat) : Int) := by omega
      rw [hab] at HC
      clear hab k202
      by_cases hZ : ab = 0
      rotate_left
      · have zt1 : (((ab : Nat) : Int) == 0) = false := beq_eq_false_iff_ne.2 (by omega)
        have zt2 : (ab == 0) = false := beq_eq_false_iff_ne.2 hZ
        clear hZ
        go_upto_region 9 with fail
        go_quiet (fail)
        generalize hw8 : w9.drewN _ = w8 at *
        have HF8 : Hid (Fr [] w9 w8) := Lib.hid (by rw [← hw8]; exact (Fr.refl [] w9).drewN _)
        clear hw8
        go_wp2_with fail
        go_ret2
        exact ⟨by rw [HC.out]; simp [zt2], HF.out.trans HF8.out⟩
      have zt1 : (((ab : Nat) : Int) == 0) = true := beq_iff_eq.2 (by omega)
      have zt2 : (ab == 0) = true := beq_iff_eq.2 hZ
      clear hZ
      by_cases hS : (strB x.reason).toList.isEmpty = true
      rotate_left
      · have st1 : (strB x.reason).toList.isEmpty = false := by simpa using hS
        clear hS
        go_upto_region 9 with fail
        go_quiet (fail)
        generalize hw8 : w9.drewN _ = w8 at *
        have HF8 : Hid (Fr [] w9 w8) := Lib.hid (by rw [← hw8]; exact (Fr.refl [] w9).drewN _)
        clear hw8
        go_wp2_with fail
        go_ret2
        exact ⟨by rw [HC.out]; simp [zt2, st1], HF.out.trans HF8.out⟩
      have st1 : (strB x.reason).toList.isEmpty = true := hS
      clear hS
      by_cases hP : P = true
      rotate_left
      · have pt1 : P = false := by simpa using hP
        clear hP
        go_upto_region 9 with fail
        go_quiet (fail)
        generalize hw8 : w9.drewN _ = w8 at *
        have HF8 : Hid (Fr [] w9 w8) := Lib.hid (by rw [← hw8]; exact (Fr.refl [] w9).drewN _)
        clear hw8
        go_wp2_with fail
        go_ret2
        exact ⟨by rw [HC.out]; simp [zt2, st1, pt1], HF.out.trans HF8.out⟩
      have pt1 : P = true := hP
      clear hP
      by_cases hQ : x.ssrc.toNat = 0
      rotate_left
      · have qt1 : (((x.ssrc.toNat : Nat) : Int) == 0) = false := beq_eq_false_iff_ne.2 (by omega)
        have qt2 : (x.ssrc.toNat == 0) = false := beq_eq_false_iff_ne.2 hQ
        clear hQ
        go_upto_region 9 with fail
        go_quiet (fail)
        generalize hw8 : w9.drewN _ = w8 at *
        have HF8 : Hid (Fr [] w9 w8) := Lib.hid (by rw [← hw8]; exact (Fr.refl [] w9).drewN _)
        clear hw8
        go_wp2_with fail
        go_ret2
        exact ⟨by rw [HC.out]; simp [zt2, st1, pt1, qt2], HF.out.trans HF8.out⟩
      have qt1 : (((x.ssrc.toNat : Nat) : Int) == 0) = true := beq_iff_eq.2 (by omega)
      have qt2 : (x.ssrc.toNat == 0) = true := beq_iff_eq.2 hQ
      clear hQ
      go_upto_region 9 with fail
      go_quiet (fail)
      generalize hw8 : w9.drewN _ = w8 at *
      have HF8 : Hid (Fr [] w9 w8) := Lib.hid (by rw [← hw8]; exact (Fr.refl [] w9).drewN _)
      clear hw8
      go_wp2_with fail
      go_ret2
      exact ⟨by rw [HC.out]; simp [zt2, st1, pt1, qt2], HF.out.trans HF8.out⟩
    rw [if_neg k202] at HC
    have b202 : (x.kind == 202) = false := beq_eq_false_iff_ne.2 k202
    clear k202
    by_cases k203 : x.kind = 203
    · rw [if_pos k203] at HC
      have b203 : (x.kind == 203) = true := beq_iff_eq.2 k203
      obtain ⟨ab, hab⟩ : ∃ ab, nr + nc = ab := ⟨_, rfl⟩
      have had : wrap64 (((nr : Nat) : Int) + ((nc : Nat) : Int)) = ((ab : Nat) : Int) := by rw [IntWalk.wrap64_in _ ⟨by omega, by omega⟩]; omega
      have had2 : IntKind.i64.wrap (((nr : Nat) : Int) + ((nc : Nat) : Int)) = ((ab : Nat) : Int) := by rw [IntWalk.i64_in _ (by omega)]; omega
      have had3 : ((nr : Nat) : Int) + ((nc : Nat) : Int) = ((ab : Nat) : Int) := by omega
      rw [hab] at HC
      clear hab k203
      by_cases hZ : ab = 0
      rotate_left
      · have zt1 : (((ab : Nat) : Int) == 0) = false := beq_eq_false_iff_ne.2 (by omega)
        have zt2 : (ab == 0) = false := beq_eq_false_iff_ne.2 hZ
        clear hZ
        go_upto_region 11 with fail
        go_quiet (fail)
        generalize hw8 : w9.drewN _ = w8 at *
        have HF8 : Hid (Fr [] w9 w8) := Lib.hid (by rw [← hw8]; exact (Fr.refl [] w9).drewN _)
        clear hw8
        go_wp2_with fail
        go_ret2
        exact ⟨by rw [HC.out]; simp [zt2], HF.out.trans HF8.out⟩
      have zt1 : (((ab : Nat) : Int) == 0) = true := beq_iff_eq.2 (by omega)
      have zt2 : (ab == 0) = true := beq_iff_eq.2 hZ
      clear hZ
      by_cases hP : P = true
      rotate_left
      · have pt1 : P = false := by simpa using hP
        clear hP
        go_upto_region 11 with fail
        go_quiet (fail)
        generalize hw8 : w9.drewN _ = w8 at *
        have HF8 : Hid (Fr [] w9 w8) := Lib.hid (by rw [← hw8]; exact (Fr.refl [] w9).drewN _)
        clear hw8
        go_wp2_with fail
        go_ret2
        exact ⟨by rw [HC.out]; simp [zt2, pt1], HF.out.trans HF8.out⟩
      have pt1 : P = true := hP
      clear hP
      by_cases hQ : x.ssrc.toNat = 0
      rotate_left
      · have qt1 : (((x.ssrc.toNat : Nat) : Int) == 0) = false := beq_eq_false_iff_ne.2 (by omega)
        have qt2 : (x.ssrc.toNat == 0) = false := beq_eq_false_iff_ne.2 hQ
        clear hQ
        go_upto_region 11 with fail
        go_quiet (fail)
        generalize hw8 : w9.drewN _ = w8 at *
        have HF8 : Hid (Fr [] w9 w8) := Lib.hid (by rw [← hw8]; exact (Fr.refl [] w9).drewN _)
        clear hw8
        go_wp2_with fail
        go_ret2
        exact ⟨by rw [HC.out]; simp [zt2, pt1, qt2], HF.out.trans HF8.out⟩
      have qt1 : (((x.ssrc.toNat : Nat) : Int) == 0) = true := beq_iff_eq.2 (by omega)
      have qt2 : (x.ssrc.toNat == 0) = true := beq_iff_eq.2 hQ
      clear hQ
      go_upto_region 11 with fail
      go_quiet (fail)
      generalize hw8 : w9.drewN _ = w8 at *
      have HF8 : Hid (Fr [] w9 w8) := Lib.hid (by rw [← hw8]; exact (Fr.refl [] w9).drewN _)
      clear hw8
      go_wp2_with fail
      go_ret2
      exact ⟨by rw [HC.out]; simp [zt2, pt1, qt2], HF.out.trans HF8.out⟩
    rw [if_neg k203] at HC
    have b203 : (x.kind == 203) = false := beq_eq_false_iff_ne.2 k203
    clear k203
    go_wp2_with fail
    go_ret2
    exact ⟨by rw [HC.out]; rfl, HF.out⟩
end Go.Proofs.Ytcmpjkopdjncdaa

/- The walk of rtcp's right (printed by gen_7rt.py). -/
namespace Go.Proofs.Ytcmpjkopdjncdaa
open Go.RowKit

/-- Is an item right, but for its length? -/
def right7 (x : Itm) : Bool := (count7 x).2 && decide ((count7 x).1 ≤ 31) && decide (x.reason.length ≤ 255) && !(x.reps.any fun r => !rightRp r) && !(x.chks.any fun c => !rightCk c)
set_option maxRecDepth 100000 in
set_option maxHeartbeats 8000000 in
theorem tRight_any {w : World} {x : Itm} {vr vc vs : Value} {Bc : List Nat} (hr : SlEls 7 RptR w vr x.reps []) (hc : SlEls 2 ChkR w vc x.chks Bc) (hs : SlEls 1 SrcR w vs x.srcs [])
    (ht : ∀ c ∈ x.chks, c.texts.length ≤ 1099511627776) (hn : x.reps.length ≤ 1099511000000 ∧ x.chks.length ≤ 1099511000000 ∧ x.srcs.length ≤ 1099511000000) :
    Calls Try.prog 29 #[.agg (itc x vr vc vs)] w fun e w' => e = .returned (.bool (right7 x)) ∧ Fr [] w w' := by
  obtain ⟨ar, cr, rfl⟩ := hr.shape
  obtain ⟨ac, cc, rfl⟩ := hc.shape
  obtain ⟨as_, cs, rfl⟩ := hs.shape
  obtain ⟨w1, e1, hF1, hB1, hs1⟩ := one_new w (itc x (.slice ar x.reps.length cr) (.slice ac x.chks.length cc) (.slice as_ x.srcs.length cs)) 42
  have HF := Lib.hid hF1; have E1 := Lib.hid e1; have HB := Lib.hid hB1; have HRS := Lib.hid (hr.keep Rep.rpt hF1); have HCS := Lib.hid (hc.keep Rep.chk hF1); have HTL := Lib.hid ht; have HN := Lib.hid hn
  clear hF1 hB1 e1 hs1 hr hc hs ht
  have HR : Hid (right7 x = ((count7 x).2 && decide ((count7 x).1 ≤ 31) && decide (x.reason.length ≤ 255) && !(x.reps.any fun r => !rightRp r) && !(x.chks.any fun c => !rightCk c))) := Lib.hid rfl
  have hsz := strB_size x.reason
  go_enter Try.func29, Try.ntmps29
  go_upto_region 1 with fail
  rw [E1.out]
  clear E1
  go_wp2_with (refine wpList_load_row_w rfl 42 (.tmp 1) rfl w.heap.size rfl 42 _ _ HB.out Try.underlying42 rfl (by kernel_rfl) ?_)
  refine (tCount_any x HN.out).mono ?_
  rintro e w2 ⟨rfl, hF⟩
  have HF := Lib.hid (HF.out.trans hF); have HB := Lib.hid (HB.out.keep hF); have HRS := Lib.hid (HRS.out.keep Rep.rpt hF); have HCS := Lib.hid (HCS.out.keep Rep.chk hF)
  clear hF
  have x9 := HB.out.cell 9
  simp only [itc, List.getElem?_toArray, List.getElem?_cons_succ, List.getElem?_cons_zero] at x9
  obtain ⟨A, hA⟩ : ∃ A, (count7 x).2 = A := ⟨_, rfl⟩
  obtain ⟨n, hn1⟩ : ∃ n, (count7 x).1 = n := ⟨_, rfl⟩
  rw [hA, hn1] at HR ⊢
  clear hA hn1 hn
  by_cases hA : A = true
  rotate_left
  · have a1 : A = false := by simpa using hA
    subst a1
    clear hA
    go_wp2_with fail
    go_ret
    exact ⟨by rw [HR.out]; rfl, HF.out⟩
  subst hA
  by_cases h31 : n ≤ 31
  rotate_left
  · have d1 : decide ((31 : Int) < (n : Int)) = true := decide_eq_true (by omega)
    have d2 : decide (31 < n) = true := decide_eq_true (by omega)
    have HD : Hid (decide (n ≤ 31) = false) := Lib.hid (decide_eq_false h31)
    clear h31
    go_wp2_with fail
    go_ret
    exact ⟨by rw [HR.out, HD.out]; rfl, HF.out⟩
  have d1 : decide ((31 : Int) < (n : Int)) = false := decide_eq_false (by omega)
  have d2 : decide (31 < n) = false := decide_eq_false (by omega)
  have HD : Hid (decide (n ≤ 31) = true) := Lib.hid (decide_eq_true h31)
  clear h31
  obtain ⟨q, hq⟩ : ∃ q, x.reason.length = q := ⟨_, rfl⟩
  rw [hq] at HR hsz
  clear hq
  by_cases h255 : q ≤ 255
  rotate_left
  · have d3 : decide ((255 : Int) < (q : Int)) = true := decide_eq_true (by omega)
    have d4 : decide (255 < q) = true := decide_eq_true (by omega)
    have HD2 : Hid (decide (q ≤ 255) = false) := Lib.hid (decide_eq_false h255)
    clear h255
    go_wp2_with fail
    go_ret
    exact ⟨by rw [HR.out, HD.out, HD2.out]; rfl, HF.out⟩
  have d3 : decide ((255 : Int) < (q : Int)) = false := decide_eq_false (by omega)
  have d4 : decide (255 < q) = false := decide_eq_false (by omega)
  have HD2 : Hid (decide (q ≤ 255) = true) := Lib.hid (decide_eq_true h255)
  clear h255
  have x6 := HB.out.cell 6
  simp only [itc, List.getElem?_toArray, List.getElem?_cons_succ, List.getElem?_cons_zero] at x6
  go_wp2_with fail
  refine (cfReport_any HRS.out (by have := HN.out; omega)).mono ?_
  rintro e w3 ⟨rfl, hF⟩
  have HF := Lib.hid (HF.out.trans hF); have HB := Lib.hid (HB.out.keep hF); have HCS := Lib.hid (HCS.out.keep Rep.chk hF)
  clear hF x6 x9
  obtain ⟨R, hR⟩ : ∃ R, (x.reps.any fun r => !rightRp r) = R := ⟨_, rfl⟩
  rw [hR] at HR ⊢
  clear hR
  cases R
  rotate_left
  · go_wp2_with fail
    go_ret
    exact ⟨by rw [HR.out, HD.out, HD2.out]; rfl, HF.out⟩
  have x7 := HB.out.cell 7
  simp only [itc, List.getElem?_toArray, List.getElem?_cons_succ, List.getElem?_cons_zero] at x7
  go_wp2_with fail
  refine (cfChunk_any HCS.out HTL.out (by have := HN.out; omega)).mono ?_
  rintro e w4 ⟨rfl, hF⟩
  have HF := Lib.hid (HF.out.trans hF)
  clear hF x7
  go_wp2_with fail
  go_ret
  exact ⟨by rw [HR.out, HD.out, HD2.out]; rfl, HF.out⟩
end Go.Proofs.Ytcmpjkopdjncdaa

/- The walk of rtcp's Write (printed by gen_7write.py). -/
namespace Go.Proofs.Ytcmpjkopdjncdaa
open Go.RowKit

/-- An item's bytes; items' bytes. -/
def itemW (x : Itm) : List UInt8 := [ib ((128 + (count7 x).1 : Nat) : Int)] ++ [ib x.kind] ++ beN ((bodyW x).length / 4 % 65536) 2 ++ bodyW x
def stepW (out : List UInt8) (x : Itm) : List UInt8 := if 1500 < out.length then out else out ++ itemW x
def write7 (xs : List Itm) : Except Int (List UInt8) :=
  match xs.head? with
  | none => .error 4
  | some x => if begins7 x then if xs.all right7 then if 1500 < (xs.foldl stepW []).length then .error 2 else .ok (xs.foldl stepW []) else .error 1 else .error 1
/-- An item of a size that memory holds. -/
structure Sz7 (x : Itm) : Prop where
  n : x.reps.length ≤ 1099511000000 ∧ x.chks.length ≤ 1099511000000 ∧ x.srcs.length ≤ 1099511000000
  texts : ∀ c ∈ x.chks, c.texts.length ≤ 1099511627776
  body : (body3 x).length + x.reason.length ≤ 1099511000000
  lost : ∀ r ∈ x.reps, -2147483648 ≤ r.lost ∧ r.lost ≤ 2147483647
theorem or128n (n : Nat) (h : n ≤ 31) : bits BinOp.or IntKind.i64 128 (n : Int) = ((128 + n : Nat) : Int) := by
  rw [show (128 : Int) = ((128 : Nat) : Int) from rfl, i64_or_nat _ _ (by omega) (by omega)]
  have h2 := Nat.shiftLeft_add_eq_or_of_lt (i := 7) (b := n) (by omega) 1
  rw [Nat.shiftLeft_eq] at h2
  rw [show (128 : Nat) = 1 * 2 ^ 7 by rfl, ← h2]
theorem right7_count {x : Itm} (h : right7 x = true) : (count7 x).1 ≤ 31 ∧ x.reason.length ≤ 255 := by
  unfold right7 at h
  simp only [Bool.and_eq_true, decide_eq_true_eq] at h
  exact ⟨h.1.1.1.2, h.1.1.2⟩
theorem bodyW_len {x : Itm} : (bodyW x).length ≤ (body3 x).length + x.reason.length + 4 := by
  unfold bodyW
  split
  · omega
  · unfold padW
    have h1 := (padOf_int (body3 x ++ [ib (x.reason.length : Nat)] ++ x.reason).length).2
    simp only [List.length_append, List.length_replicate, List.length_singleton] at h1 ⊢
    omega
set_option maxRecDepth 100000 in
set_option maxHeartbeats 8000000 in
theorem tWrite_any {w : World} {v : Value} {xs : List Itm} {B : List Nat} (h : SlEls 10 ItR w v xs B) (hz : ∀ x ∈ xs, Sz7 x) (hn : xs.length ≤ 1099511627776) :
    Calls Try.prog 16 #[v] w fun e w' => (∃ l u, write7 xs = .ok l ∧ e = .returned (.tuple #[u, .int .i64 0]) ∧ OwnB w' w.heap.size u l ∧ Fr [] w w') ∨ (∃ c, write7 xs = .error c ∧ c ≠ 0 ∧ e = .returned (.tuple #[.slice none 0 0, .int .i64 c]) ∧ Fr [] w w') := by
  obtain ⟨a, cap, rfl⟩ := h.shape
  have HL := Lib.hid h; have HZ := Lib.hid hz; have HF0 : Hid (Fr [] w w) := Lib.hid (Fr.refl _ _)
  clear h hz
  obtain ⟨n, hnn⟩ : ∃ n, xs.length = n := ⟨_, rfl⟩
  rw [hnn] at hn HL ⊢
  have HN := Lib.hid hnn
  clear hnn
  go_enter Try.func16, Try.ntmps16
  by_cases h0 : n = 0
  · subst h0
    have HW : Hid (write7 xs = .error 4) := Lib.hid (by rw [List.eq_nil_of_length_eq_zero HN.out]; rfl)
    go_wp2_with fail
    go_ret2
    exact .inr ⟨4, HW.out, by decide, rfl, HF0.out⟩
  have hm1 : ((n : Int) == 0) = false := beq_eq_false_iff_ne.2 (by omega)
  have hm2 : (n == 0) = false := beq_eq_false_iff_ne.2 h0
  have hpos : 0 < n := by omega
  obtain ⟨b0, o0, c0, y0, B0, ea, -, hy0, ⟨vr0, vc0, vs0, Bc0, rfl, hr0, hc0, hs0, -⟩, -, hrg0⟩ := HL.out.at_ Rep.itm (i := 0) (by omega)
  subst ea
  obtain ⟨ar0, cr0, rfl⟩ := hr0.shape
  obtain ⟨ac0, cc0, rfl⟩ := hc0.shape
  obtain ⟨as0, cs0, rfl⟩ := hs0.shape
  rw [Nat.zero_mul, Nat.add_zero] at hrg0
  have HRG0 := Lib.hid hrg0
  have HH : Hid (xs.head? = some y0) := Lib.hid (by rw [List.head?_eq_getElem?]; exact hy0)
  clear hrg0 hy0 hr0 hc0 hs0 h0
  go_wp2_with (refine wpList_load_midA rfl 42 (.tmp 17) rfl b0 o0 rfl (itc y0 (.slice ar0 y0.reps.length cr0) (.slice ac0 y0.chks.length cc0) (.slice as0 y0.srcs.length cs0)) _ HRG0.out Try.underlying42 rfl (by kernel_rfl) ?_)
  refine (tBegins_any y0).mono ?_
  rintro e w1 ⟨rfl, hF⟩
  have HF := Lib.hid hF; have HF0w := Lib.hid hF; have HL := Lib.hid (HL.out.keep Rep.itm hF)
  clear hF HF0
  cases hb : begins7 y0 with
  | false =>
    have HW : Hid (write7 xs = .error 1) := Lib.hid (by unfold write7; rw [HH.out]; simp only; rw [hb]; rfl)
    clear hb
    go_wp2_with fail
    go_ret2
    exact .inr ⟨1, HW.out, by decide, rfl, HF.out⟩
  | true =>
    have HW : Hid (write7 xs = if xs.all right7 then if 1500 < (xs.foldl stepW []).length then .error 2 else .ok (xs.foldl stepW []) else .error 1) := Lib.hid (by unfold write7; rw [HH.out]; simp only; rw [hb]; rfl)
    clear hb
    obtain ⟨w2, e2, hF2, hB2, hs2⟩ := one_new w1 #[.slice none 0 0] 73
    have HWR0 : Hid (Wr w2 w1.heap.size (.slice none 0 0) w2.heap.size []) := Lib.hid ⟨hB2, ⟨by simp, .inl ⟨rfl, rfl⟩⟩, by omega, Nat.le_refl _⟩
    have HLT := Lib.hid (HL.out.lt Rep.itm)
    have HF := Lib.hid (HF.out.trans hF2); have HL := Lib.hid (HL.out.keep Rep.itm hF2); have E2 := Lib.hid e2
    have HWW := Lib.hid HF0w.out.size
    clear hF2 hB2 e2 hs2
    go_upto_region 8 with fail
    rw [E2.out]
    clear E2
    obtain ⟨W, hW⟩ : ∃ W, w1.heap.size = W := ⟨_, rfl⟩
    try simp only [hW]
    rw [hW] at HWR0 HLT HWW
    have HW1 := Lib.hid hW
    clear hW
    have HLW : Hid (∀ wi : World, Fr (W :: (blockOf (.slice none 0 0)).toList) w2 wi → SlEls 10 ItR wi (.slice (some ⟨b0, o0, none⟩) n cap) xs B) := Lib.hid (fun wi hf => HL.out.fr Rep.itm hf (fun b hb => by have h1 := HLT.out.1 b hb; simp [blockOf]; omega) (fun b hb => by have h1 := HLT.out.2 b hb; simp [blockOf]; omega))
    go_loopw [5, 23] (fun lv iv wr => ∃ (j : Nat) (v' : Value), j ≤ n ∧ iv = .int .i64 j ∧ lv = .bool (decide (1500 < ((xs.take j).foldl stepW []).length)) ∧ (∀ x ∈ xs.take j, right7 x = true) ∧ WS w2 wr W (.slice none 0 0) v' w2.heap.size ((xs.take j).foldl stepW [])) (fun _ iv _ => n - (intOf iv).toNat)
    case atStart => exact ⟨0, _, Nat.zero_le _, rfl, rfl, by simp, WS.start HWR0.out⟩
    case round =>
      obtain ⟨j, v', hj, rfl, rfl, hrt, hws⟩ := hrel
      have HRT := Lib.hid hrt; have HWS := Lib.hid hws
      clear hrt hws
      by_cases hlt : j < n
      · obtain ⟨b, o, c, y, B1, ea, -, hy, ⟨vr, vc, vs, Bc, rfl, hr, hc, hs, -⟩, -, hrg⟩ := (HLW.out _ HWS.out.fr).at_ Rep.itm (i := j) hlt
        cases ea
        obtain ⟨ar, cr, rfl⟩ := hr.shape
        obtain ⟨ac, cc, rfl⟩ := hc.shape
        obtain ⟨as_, cs, rfl⟩ := hs.shape
        have HRG := Lib.hid hrg
        have HYM := Lib.hid (List.mem_of_getElem? hy)
        have HYZ := Lib.hid (HZ.out y HYM.out)
        have HTK : Hid (xs.take (j + 1) = xs.take j ++ [y]) := Lib.hid (by rw [List.take_add_one, hy]; rfl)
        clear hrg hy
        obtain ⟨wa, ea, hFa, hBa, hsa⟩ := one_new wr (itc y (.slice ar y.reps.length cr) (.slice ac y.chks.length cc) (.slice as_ y.srcs.length cs)) 42
        have EA := Lib.hid ea; have HX := Lib.hid hBa; have HR := Lib.hid (hr.keep Rep.rpt hFa); have HC := Lib.hid (hc.keep Rep.chk hFa); have HS := Lib.hid (hs.keep Rep.src hFa)
        have HWSR := Lib.hid HWS.out.wr
        have HWA := Lib.hid (HWS.out.quiet hFa)
        have HGA : Hid (wr.heap.size < wa.heap.size) := Lib.hid (by omega)
        clear ea hFa hBa hsa hr hc hs
        go_upto_region 10 with (refine wpList_load_midA rfl 42 (.tmp 25) rfl b0 (o0 + j * 10) rfl (itc y (.slice ar y.reps.length cr) (.slice ac y.chks.length cc) (.slice as_ y.srcs.length cs)) _ HRG.out Try.underlying42 rfl (by kernel_rfl) ?_)
        rw [EA.out]
        clear EA HWS
        go_wp2_with (refine wpList_load_row_w rfl 42 (.tmp 7) rfl wr.heap.size rfl 42 _ _ HX.out Try.underlying42 rfl (by kernel_rfl) ?_)
        refine (tRight_any HR.out HC.out HS.out HYZ.out.texts HYZ.out.n).mono ?_
        rintro e w4 ⟨rfl, hF⟩
        have HX := Lib.hid (HX.out.keep hF); have HR := Lib.hid (HR.out.keep Rep.rpt hF); have HC := Lib.hid (HC.out.keep Rep.chk hF); have HS := Lib.hid (HS.out.keep Rep.src hF); have HWA := Lib.hid (HWA.out.quiet hF); have HGA : Hid (wr.heap.size < w4.heap.size) := Lib.hid (Nat.lt_of_lt_of_le HGA.out hF.size)
        clear hF
        cases hry : right7 y with
        | false =>
          have HW : Hid (write7 xs = .error 1) := Lib.hid (by rw [HW.out, if_neg]; intro h9; have := List.all_eq_true.1 h9 y HYM.out; rw [hry] at this; cases this)
          clear hry
          go_wp2_with fail
          go_ret2
          exact .inr ⟨1, HW.out, by decide, rfl, HF.out.step HWA.out.fr (fun x hx => .inr (by simp [blockOf] at hx; subst hx; exact HWW.out))⟩
        | true =>
          have HRT : Hid (∀ x ∈ xs.take (j + 1), right7 x = true) := Lib.hid (by rw [HTK.out]; intro x hx; rcases List.mem_append.1 hx with hx | hx; (· exact HRT.out x hx); (· simp at hx; subst hx; exact hry))
          have HRC := Lib.hid (right7_count hry)
          have HFD : Hid ((xs.take (j + 1)).foldl stepW [] = stepW ((xs.take j).foldl stepW []) y) := Lib.hid (by rw [HTK.out, List.foldl_append]; rfl)
          clear hry
          obtain ⟨out, hout⟩ : ∃ out, (xs.take j).foldl stepW [] = out := ⟨_, rfl⟩
          rw [hout] at HFD HWA ⊢
          clear hout
          by_cases hlong : 1500 < out.length
          · have HST : Hid (stepW out y = out) := Lib.hid (by unfold stepW; rw [if_pos hlong])
            have hd : decide (1500 < out.length) = true := decide_eq_true hlong
            have HLG := Lib.hid hd
            rw [hd]
            clear hlong hd
            go_wp2_with fail
            exact ⟨⟨j + 1, v', by omega, by go_num, by rw [HFD.out, HST.out, HLG.out], HRT.out, by rw [HFD.out, HST.out]; exact HWA.out⟩, by simp [intOf]; omega⟩
          · have HST : Hid (stepW out y = out ++ itemW y) := Lib.hid (by unfold stepW; rw [if_neg hlong])
            have hd : decide (1500 < out.length) = false := decide_eq_false hlong
            have HLG := Lib.hid hlong
            rw [hd]
            clear hlong hd
            have HW4R := Lib.hid HWA.out.wr
            have HBD := Lib.hid (bodyW_len (x := y))
            have HBZ : Hid ((bodyW y).length ≤ 1099511000004) := Lib.hid (by have h1 := HBD.out; have h2 := HYZ.out.body; omega)
            have HGA4 := HGA
            go_wp2_with (refine wpList_load_row_w rfl 42 (.tmp 7) rfl wr.heap.size rfl 42 _ _ HX.out Try.underlying42 rfl (by kernel_rfl) ?_)
            refine (tWBody_any HR.out HC.out HS.out HYZ.out.lost HYZ.out.body HYZ.out.n).mono ?_
            rintro e w5 ⟨vb, rfl, hO, hF⟩
            have HX := Lib.hid (HX.out.keep hF); have HWA := Lib.hid (HWA.out.quiet hF); have HGA : Hid (wr.heap.size < w5.heap.size) := Lib.hid (Nat.lt_of_lt_of_le HGA.out hF.size)
            obtain ⟨ab, cb, eb⟩ := Sl.shape hO.bytes
            rw [List.length_map] at eb
            subst eb
            have HBK := Lib.hid (fun b (hb : blockOf (.slice ab (bodyW y).length cb) = some b) => (hO.block b hb).1)
            have HO := Lib.hid hO
            obtain ⟨m, hm⟩ : ∃ m, (bodyW y).length = m := ⟨_, rfl⟩
            rw [hm] at HO HBK HBZ ⊢
            have HM := Lib.hid hm
            clear hF hO hm
            go_wp2_with (refine wpList_load_row_w rfl 42 (.tmp 7) rfl wr.heap.size rfl 42 _ _ HX.out Try.underlying42 rfl (by kernel_rfl) ?_)
            refine (tCount_any y HYZ.out.n).mono ?_
            rintro e w6 ⟨rfl, hF⟩
            have HX := Lib.hid (HX.out.keep hF); have HWA := Lib.hid (HWA.out.quiet hF); have HGA : Hid (wr.heap.size < w6.heap.size) := Lib.hid (Nat.lt_of_lt_of_le HGA.out hF.size); have HO := Lib.hid (HO.out.keep hF)
            clear hF
            have HIW : Hid (itemW y = [ib ((128 + (count7 y).1 : Nat) : Int)] ++ [ib y.kind] ++ beN (m / 4 % 65536) 2 ++ bodyW y) := Lib.hid (by rw [← HM.out]; rfl)
            obtain ⟨k, hk⟩ : ∃ k, (count7 y).1 = k := ⟨_, rfl⟩
            rw [hk] at HIW HRC ⊢
            clear hk
            have hor := or128n k HRC.out.1
            have x0 := HX.out.cell 0
            simp only [itc, List.getElem?_toArray, List.getElem?_cons_succ, List.getElem?_cons_zero] at x0
            have HOL : Hid (out.length ≤ 1500) := Lib.hid (by have := HLG.out; omega)
            have HSS := Lib.hid (WS.start HWA.out.wr)
            have HOB := Lib.hid (fun b (hb : blockOf (.slice ab m cb) = some b) => (HO.out.block b hb).2)
            have HBA : Hid (∀ wi vi li, WS w6 wi W v' vi w2.heap.size li → ∀ b, blockOf (.slice ab m cb) = some b → b ∉ W :: (blockOf vi).toList) := Lib.hid (fun wi vi li h9 b hb => WS.apart HW4R.out h9 (HBK.out b hb) (HOB.out b hb))
            have HBY := Lib.hid HO.out.bytes
            have hq4 : Int.tdiv (m : Int) 4 = ((m / 4 : Nat) : Int) := by rw [Int.tdiv_eq_ediv_of_nonneg (by omega)]; omega
            have hq5 : (m : Int) / 4 = ((m / 4 : Nat) : Int) := by omega
            obtain ⟨m4, hm4⟩ : ∃ m4, m / 4 = m4 := ⟨_, rfl⟩
            rw [hm4] at hq4 hq5 HIW
            have hu16 : IntKind.u16.wrap ((m4 : Nat) : Int) = ((m4 % 65536 : Nat) : Int) := by rw [IntKind.wrap_u16]; omega
            have hmb : m ≤ 1099511000004 := HBZ.out
            have hm4b : m4 ≤ 1099511000004 := by omega
            clear hm4
            go_wp2_with fail
            refine (wbyte_any HSS.out.wr ((128 + k : Nat) : Int) (by have := HOL.out; omega)).mono ?_
            rintro e q7 ⟨p7, rfl, hw⟩
            have HX := Lib.hid (HX.out.fr hw.fr (WS.apart HWSR.out HSS.out (Nat.le_refl _) HGA.out))
            have HBY := Lib.hid (Sl.fr HBY.out hw.fr (HBA.out _ _ _ HSS.out))
            have HSS := Lib.hid (HSS.out.trans hw)
            clear hw
            clear x0 hor
            have x0 := HX.out.cell 0
            simp only [itc, List.getElem?_toArray, List.getElem?_cons_succ, List.getElem?_cons_zero] at x0
            go_wp2_with fail
            refine (wbyte_any HSS.out.wr y.kind (by have := HOL.out; simp only [List.length_append, List.length_singleton]; omega)).mono ?_
            rintro e q8 ⟨p8, rfl, hw⟩
            have HBY := Lib.hid (Sl.fr HBY.out hw.fr (HBA.out _ _ _ HSS.out))
            have HSS := Lib.hid (HSS.out.trans hw)
            clear hw
            clear x0
            obtain ⟨q, hq⟩ : ∃ q, m4 % 65536 = q := ⟨_, rfl⟩
            rw [hq] at hu16 HIW
            have HQ : Hid (q < 65536) := Lib.hid (by omega)
            clear hq
            go_wp2_with fail
            refine (wword_any HSS.out.wr q HQ.out (by have := HOL.out; simp only [List.length_append, List.length_singleton]; omega)).mono ?_
            rintro e q9 ⟨p9, rfl, hw⟩
            have HBY := Lib.hid (Sl.fr HBY.out hw.fr (HBA.out _ _ _ HSS.out))
            have HSS := Lib.hid (HSS.out.trans hw)
            clear hw
            clear hq4 hq5 hu16
            go_wp2_with fail
            refine (wput_any HSS.out.wr HBY.out (by rw [HM.out]; omega) (by have := HOL.out; simp only [List.length_append, List.length_singleton, beN_len]; omega)).mono ?_
            rintro e w10 ⟨p10, rfl, hw⟩
            have HSS := Lib.hid (HSS.out.trans hw)
            clear hw
            have hcat : out ++ [ib ((128 + k : Nat) : Int)] ++ [ib y.kind] ++ beN q 2 ++ bodyW y = out ++ itemW y := by rw [HIW.out]; simp only [List.append_assoc]
            rw [hcat] at HSS
            have HWA := Lib.hid (HWA.out.trans HSS.out)
            clear hcat HSS
            rw [← HST.out] at HWA
            obtain ⟨L, hL⟩ : ∃ L, (stepW out y).length = L := ⟨_, rfl⟩
            have HLN := Lib.hid (wwlen_any HWA.out.wr)
            rw [hL] at HLN
            have HLL := Lib.hid hL
            have hLb : L ≤ 1099511627776 := by
              rw [← hL, HST.out, HIW.out]
              have h1 := HOL.out; have h2 := HM.out
              simp only [List.length_append, List.length_singleton, beN_len]
              omega
            clear hL
            go_wp2_with fail
            refine HLN.out.mono ?_
            rintro e w11 ⟨rfl, hF⟩
            have HWA := Lib.hid (HWA.out.quiet hF)
            clear hF
            have hdd : decide ((1500 : Int) < (L : Int)) = decide (1500 < L) := decide_eq_decide.2 (by omega)
            go_wp2_with fail
            refine ⟨⟨j + 1, p10, by omega, by go_num, by rw [HFD.out, HLL.out, ← hdd], HRT.out, by rw [HFD.out]; exact HWA.out⟩, by simp [intOf]; omega⟩
      · obtain rfl : j = n := by omega
        have hw9 := HWS.out; have hr9 := HRT.out
        rw [← HN.out, List.take_of_length_le (Nat.le_refl _)] at hr9
        rw [← HN.out, List.take_of_length_le (Nat.le_refl _)] at hw9
        have htk : xs.take j = xs := by rw [← HN.out]; exact List.take_of_length_le (Nat.le_refl _)
        rw [htk]
        have HWS := Lib.hid hw9
        have HW : Hid (write7 xs = if 1500 < (xs.foldl stepW []).length then .error 2 else .ok (xs.foldl stepW [])) := Lib.hid (by rw [HW.out, if_pos (List.all_eq_true.2 hr9)])
        have HFE := Lib.hid (HF.out.step HWS.out.fr (fun x hx => .inr (by simp [blockOf] at hx; subst hx; exact HWW.out)))
        clear hw9 hr9 htk HRT hj hlt
        obtain ⟨out, hout⟩ : ∃ out, xs.foldl stepW [] = out := ⟨_, rfl⟩
        rw [hout] at HW HWS ⊢
        clear hout
        by_cases hlong : 1500 < out.length
        · have hd : decide (1500 < out.length) = true := decide_eq_true hlong
          have HW : Hid (write7 xs = .error 2) := Lib.hid (by rw [HW.out, if_pos hlong])
          rw [hd]
          clear hlong hd
          go_wp2_with fail
          go_ret2
          exact .inr ⟨2, HW.out, by decide, rfl, HFE.out⟩
        · have hd : decide (1500 < out.length) = false := decide_eq_false hlong
          have HW : Hid (write7 xs = .ok out) := Lib.hid (by rw [HW.out, if_neg hlong])
          have HOL : Hid (out.length ≤ 1500) := Lib.hid (by omega)
          rw [hd]
          clear hlong hd
          go_wp2_with fail
          refine (wdone_any HWS.out.wr (by have := HOL.out; omega)).mono ?_
          rintro e w9 ⟨v9, rfl, hO, hF⟩
          have HO := Lib.hid hO; have HF9 := Lib.hid hF
          clear hO hF
          go_wp2_with fail
          go_ret2
          exact .inl ⟨out, v9, HW.out, rfl, HO.out.mono HFE.out.size, HFE.out.trans HF9.out⟩
end Go.Proofs.Ytcmpjkopdjncdaa

/- Texts, reports, chunks compared: the walks of slices.Equal, slices.EqualFunc and rtcp's Same$1 (printed by gen_7eq.py). -/
namespace Go.Proofs.Ytcmpjkopdjncdaa
open Go.RowKit

instance : DecidableEq Rpt := fun a b => decidable_of_iff (a.ssrc = b.ssrc ∧ a.loss = b.loss ∧ a.lost = b.lost ∧ a.hi = b.hi ∧ a.jit = b.jit ∧ a.lsr = b.lsr ∧ a.dly = b.dly) ⟨fun h => by
  cases a; cases b; simp only at h; obtain ⟨rfl, rfl, rfl, rfl, rfl, rfl, rfl⟩ := h; rfl, fun h => by subst h; simp⟩
instance : DecidableEq Chk := fun a b => decidable_of_iff (a.ssrc = b.ssrc ∧ a.texts = b.texts) ⟨fun h => by
  cases a; cases b; simp only at h; obtain ⟨rfl, rfl⟩ := h; rfl, fun h => by subst h; simp⟩
instance : DecidableEq Itm := fun a b => decidable_of_iff (a.kind = b.kind ∧ a.ssrc = b.ssrc ∧ a.ntp = b.ntp ∧ a.ts = b.ts ∧ a.pks = b.pks ∧ a.ocs = b.ocs ∧ a.reps = b.reps ∧ a.chks = b.chks ∧ a.srcs = b.srcs ∧ a.reason = b.reason) ⟨fun h => by
  cases a; cases b; simp only at h; obtain ⟨rfl, rfl, rfl, rfl, rfl, rfl, rfl, rfl, rfl, rfl⟩ := h; rfl, fun h => by subst h; simp⟩
set_option maxRecDepth 100000 in
theorem eq_txt (x y : Int × List UInt8) (w : World) : (Op.equalIn 10000 90 (.agg (txc x)) (.agg (txc y))).run Try.prog w = .ok (x == y) w := by
  have h1 : Try.prog.underlying 90 = some (.struct (Try.prog.fieldsOf 90)) := by kernel_rfl
  have h2 : Try.prog.stoodInHeld 90 = false := by kernel_rfl
  rw [show (10000 : Nat) = 9999 + 1 from rfl, run_equalIn_agg w 9999 90 _ _ h1 h2]
  have q1 := Try.underlying90
  have q2 := Try.underlying3
  have q3 := Try.underlying9
  have q4 := Try.sizeOf3
  have q5 := Try.sizeOf9
  have q6 := Try.isAgg3
  have q7 := Try.isAgg9
  clear h1 h2
  simp only [Program.fieldsOf, q1]
  simp only [Op.eqFields]
  go_simp
  rw [strB_list, strB_list]
  obtain ⟨x1, x2⟩ := x
  obtain ⟨y1, y2⟩ := y
  by_cases h1 : x1 = y1
  · by_cases h2 : x2 = y2
    · simp [h1, h2]
    · simp [h1, h2]
  · simp [h1]
set_option maxRecDepth 100000 in
theorem eq_rpt (x y : Rpt) (w : World) : (Op.equalIn 10000 57 (.agg (rpc7 x)) (.agg (rpc7 y))).run Try.prog w = .ok (x == y) w := by
  have h1 : Try.prog.underlying 57 = some (.struct (Try.prog.fieldsOf 57)) := by kernel_rfl
  have h2 : Try.prog.stoodInHeld 57 = false := by kernel_rfl
  rw [show (10000 : Nat) = 9999 + 1 from rfl, run_equalIn_agg w 9999 57 _ _ h1 h2]
  have q1 := Try.underlying57
  have q2 := Try.underlying3
  have q3 := Try.underlying36
  have q4 := Try.underlying21
  have s2 := Try.sizeOf3
  have s3 := Try.sizeOf36
  have s4 := Try.sizeOf21
  have a2 := Try.isAgg3
  have a3 := Try.isAgg36
  have a4 := Try.isAgg21
  clear h1 h2
  simp only [Program.fieldsOf, q1]
  simp only [Op.eqFields]
  go_simp
  have hx : (x == y) = decide (x.ssrc = y.ssrc ∧ x.loss = y.loss ∧ x.lost = y.lost ∧ x.hi = y.hi ∧ x.jit = y.jit ∧ x.lsr = y.lsr ∧ x.dly = y.dly) := by
    rw [Bool.eq_iff_iff, beq_iff_eq, decide_eq_true_eq]
    constructor
    · intro h; subst h; simp
    · intro h; cases x; cases y; simp only at h; obtain ⟨rfl, rfl, rfl, rfl, rfl, rfl, rfl⟩ := h; rfl
  rw [hx]
  simp only [← UInt32.toNat_inj]
  by_cases h0 : x.ssrc.toNat = y.ssrc.toNat <;> by_cases h1 : x.loss = y.loss <;> by_cases h2 : x.lost = y.lost <;> by_cases h3 : x.hi.toNat = y.hi.toNat <;> by_cases h4 : x.jit.toNat = y.jit.toNat <;> by_cases h5 : x.lsr.toNat = y.lsr.toNat <;> by_cases h6 : x.dly.toNat = y.dly.toNat <;> simp [h0, h1, h2, h3, h4, h5, h6, Int.natCast_inj]
theorem neq_txt (x y : Int × List UInt8) (w : World) : (if x.1 = y.1 then if (strB x.2).toList = (strB y.2).toList then Result.ok (Next.value (.bool false)) w else Result.ok (Next.value (.bool true)) w else Result.ok (Next.value (.bool true)) w) = Result.ok (Next.value (.bool (!(x == y)))) w := by
  rw [strB_list, strB_list]
  obtain ⟨x1, x2⟩ := x
  obtain ⟨y1, y2⟩ := y
  by_cases h1 : x1 = y1
  · by_cases h2 : x2 = y2
    · simp [h1, h2]
    · simp [h1, h2]
  · simp [h1]
theorem neq_rpt (x y : Rpt) (w : World) : (if (x.ssrc.toNat : Int) = y.ssrc.toNat then if x.loss = y.loss then if x.lost = y.lost then if (x.hi.toNat : Int) = y.hi.toNat then if (x.jit.toNat : Int) = y.jit.toNat then if (x.lsr.toNat : Int) = y.lsr.toNat then if (x.dly.toNat : Int) = y.dly.toNat then Result.ok (Next.value (.bool false)) w else Result.ok (Next.value (.bool true)) w else Result.ok (Next.value (.bool true)) w else Result.ok (Next.value (.bool true)) w else Result.ok (Next.value (.bool true)) w else Result.ok (Next.value (.bool true)) w else Result.ok (Next.value (.bool true)) w else Result.ok (Next.value (.bool true)) w) = Result.ok (Next.value (.bool (!(x == y)))) w := by
  have hx : (x == y) = decide (x.ssrc = y.ssrc ∧ x.loss = y.loss ∧ x.lost = y.lost ∧ x.hi = y.hi ∧ x.jit = y.jit ∧ x.lsr = y.lsr ∧ x.dly = y.dly) := by
    rw [Bool.eq_iff_iff, beq_iff_eq, decide_eq_true_eq]
    constructor
    · intro h; subst h; simp
    · intro h; cases x; cases y; simp only at h; obtain ⟨rfl, rfl, rfl, rfl, rfl, rfl, rfl⟩ := h; rfl
  rw [hx]
  simp only [← UInt32.toNat_inj, Int.natCast_inj]
  by_cases h0 : x.ssrc.toNat = y.ssrc.toNat <;> by_cases h1 : x.loss = y.loss <;> by_cases h2 : x.lost = y.lost <;> by_cases h3 : x.hi.toNat = y.hi.toNat <;> by_cases h4 : x.jit.toNat = y.jit.toNat <;> by_cases h5 : x.lsr.toNat = y.lsr.toNat <;> by_cases h6 : x.dly.toNat = y.dly.toNat <;> simp [h0, h1, h2, h3, h4, h5, h6]
theorem fr_rng {w w' : World} {b o : Nat} {c : List Value} (hf : Fr [] w w') (h : w.rangeAt b o c) : w'.rangeAt b o c := fun j u hj => hf.cellSome (h j u hj) (by simp)
set_option maxRecDepth 100000 in
set_option maxHeartbeats 8000000 in
theorem eqText_any {w : World} {v1 v2 : Value} {l1 l2 : List (Int × List UInt8)} {B1 B2 : List Nat} (h1 : SlEls 2 TxtR w v1 l1 B1) (h2 : SlEls 2 TxtR w v2 l2 B2) (hl1 : l1.length ≤ 1099511627776) (hl2 : l2.length ≤ 1099511627776) :
    Calls Try.prog 41 #[v1, v2] w fun e w' => e = .returned (.bool (l1 == l2)) ∧ Fr [] w w' := by
  obtain ⟨a1, c1, rfl⟩ := h1.shape
  obtain ⟨a2, c2, rfl⟩ := h2.shape
  have H1 := Lib.hid h1; have H2 := Lib.hid h2
  clear h1 h2
  by_cases hn : l1.length = l2.length
  · have HN := Lib.hid hn
    have t0 : (((l1.length : Nat) : Int) != ((l2.length : Nat) : Int)) = false := by rw [hn]; simp
    clear hn
    go_enter Try.func41, Try.ntmps41
    go_wp2_with fail
    clear t0
    go_loopw [13] (fun i wr => ∃ j : Nat, j ≤ l1.length ∧ i = .int .i64 j ∧ l1.take j = l2.take j ∧ Fr [] w wr) (fun i _ => l1.length - (intOf i).toNat)
    case atStart => exact ⟨0, Nat.zero_le _, rfl, rfl, Fr.refl _ _⟩
    case round =>
      obtain ⟨j, hj, rfl, htk, hF⟩ := hrel
      have HT := Lib.hid htk; have HF := Lib.hid hF
      clear htk hF
      by_cases hlt : j < l1.length
      · have hlt2 : j < l2.length := by have := HN.out; omega
        obtain ⟨b1, o1, k1, y1, B3, ea, -, hy1, ⟨rfl, -⟩, -, hrg1⟩ := (H1.out.keep Rep.txt HF.out).at_ Rep.txt (i := j) hlt
        obtain ⟨b2, o2, k2, y2, B4, eb, -, hy2, ⟨rfl, -⟩, -, hrg2⟩ := (H2.out.keep Rep.txt HF.out).at_ Rep.txt (i := j) hlt2
        subst ea eb
        have HRG1 := Lib.hid hrg1; have HRG2 := Lib.hid hrg2; have HY1 := Lib.hid hy1; have HY2 := Lib.hid hy2
        have HT1 : Hid (l1.take (j + 1) = l1.take j ++ [y1]) := Lib.hid (by rw [List.take_add_one, hy1]; rfl)
        have HT2 : Hid (l2.take (j + 1) = l2.take j ++ [y2]) := Lib.hid (by rw [List.take_add_one, hy2]; rfl)
        clear hrg1 hrg2 hy1 hy2
        go_upto_region 6 with fail
        refine wp_region_T (fun w' => Fr [] wr.drew w') [] 9 #[false, false, false, false, false, false, false, false, false] (by kernel_rfl) rfl rfl ?_
        try simp only [List.append_eq, List.cons_append, List.nil_append]
        have hF := (Fr.refl [] wr).drew
        have HF := Lib.hid (HF.out.trans hF)
        have HRG1 : Hid (World.rangeAt _ _ _ _) := Lib.hid (fr_rng hF HRG1.out)
        have HRG2 : Hid (World.rangeAt _ _ _ _) := Lib.hid (fr_rng hF HRG2.out)
        clear hF
        have HSS : Hid (Fr [] wr.drew wr.drew) := Lib.hid (Fr.refl _ _)
        generalize wr.drew = wd at *
        refine wpAnyT_load (i := 0) (v := ?_) rfl (by kernel_rfl) (by kernel_rfl) (by kernel_rfl) (by kernel_rfl) (by kernel_rfl) (fun _ _ _ h => h) HSS.out (by rfl) ?_ ?_
        rotate_left
        · intro w hSw; skip; go_simp; try with_reducible rfl
        simp only [Act.put, List.getElem_toArray, List.getElem_cons_zero, List.getElem_cons_succ, List.setIfInBounds_toArray, List.set_cons_zero, List.set_cons_succ]
        refine wpAnyT_load (i := 1) (v := ?_) rfl (by kernel_rfl) (by kernel_rfl) (by kernel_rfl) (by kernel_rfl) (by kernel_rfl) (fun _ _ _ h => h) HSS.out (by rfl) ?_ ?_
        rotate_left
        · intro w hSw; skip; go_simp; try with_reducible rfl
        simp only [Act.put, List.getElem_toArray, List.getElem_cons_zero, List.getElem_cons_succ, List.setIfInBounds_toArray, List.set_cons_zero, List.set_cons_succ]
        refine wpAnyT_load (i := 2) (v := ?_) rfl (by kernel_rfl) (by kernel_rfl) (by kernel_rfl) (by kernel_rfl) (by kernel_rfl) (fun _ _ _ h => h) HSS.out (by rfl) ?_ ?_
        rotate_left
        · intro w hSw; skip; go_simp; try with_reducible rfl
        simp only [Act.put, List.getElem_toArray, List.getElem_cons_zero, List.getElem_cons_succ, List.setIfInBounds_toArray, List.set_cons_zero, List.set_cons_succ]
        refine wpAnyT_load (i := 3) (v := ?_) rfl (by kernel_rfl) (by kernel_rfl) (by kernel_rfl) (by kernel_rfl) (by kernel_rfl) (fun _ _ _ h => h) HSS.out (by rfl) ?_ ?_
        rotate_left
        · intro w' hSw; refine run_load_mid_op 90 (.tmp 18) ?_ b1 (o1 + j * 2) ?_ (txc y1) _ (fr_rng hSw HRG1.out) Try.underlying90 rfl (by kernel_rfl) <;> rfl
        simp only [Act.put, List.getElem_toArray, List.getElem_cons_zero, List.getElem_cons_succ, List.setIfInBounds_toArray, List.set_cons_zero, List.set_cons_succ]
        refine wpAnyT_load (i := 4) (v := ?_) rfl (by kernel_rfl) (by kernel_rfl) (by kernel_rfl) (by kernel_rfl) (by kernel_rfl) (fun _ _ _ h => h) HSS.out (by rfl) ?_ ?_
        rotate_left
        · intro w hSw; skip; go_simp; try with_reducible rfl
        simp only [Act.put, List.getElem_toArray, List.getElem_cons_zero, List.getElem_cons_succ, List.setIfInBounds_toArray, List.set_cons_zero, List.set_cons_succ]
        refine wpAnyT_load (i := 5) (v := ?_) rfl (by kernel_rfl) (by kernel_rfl) (by kernel_rfl) (by kernel_rfl) (by kernel_rfl) (fun _ _ _ h => h) HSS.out (by rfl) ?_ ?_
        rotate_left
        · intro w hSw; skip; go_simp; try with_reducible rfl
        simp only [Act.put, List.getElem_toArray, List.getElem_cons_zero, List.getElem_cons_succ, List.setIfInBounds_toArray, List.set_cons_zero, List.set_cons_succ]
        refine wpAnyT_load (i := 6) (v := ?_) rfl (by kernel_rfl) (by kernel_rfl) (by kernel_rfl) (by kernel_rfl) (by kernel_rfl) (fun _ _ _ h => h) HSS.out (by rfl) ?_ ?_
        rotate_left
        · intro w hSw; skip; go_simp; try with_reducible rfl
        simp only [Act.put, List.getElem_toArray, List.getElem_cons_zero, List.getElem_cons_succ, List.setIfInBounds_toArray, List.set_cons_zero, List.set_cons_succ]
        refine wpAnyT_load (i := 7) (v := ?_) rfl (by kernel_rfl) (by kernel_rfl) (by kernel_rfl) (by kernel_rfl) (by kernel_rfl) (fun _ _ _ h => h) HSS.out (by rfl) ?_ ?_
        rotate_left
        · intro w' hSw; refine run_load_mid_op 90 (.tmp 22) ?_ b2 (o2 + j * 2) ?_ (txc y2) _ (fr_rng hSw HRG2.out) Try.underlying90 rfl (by kernel_rfl) <;> rfl
        simp only [Act.put, List.getElem_toArray, List.getElem_cons_zero, List.getElem_cons_succ, List.setIfInBounds_toArray, List.set_cons_zero, List.set_cons_succ]
        refine wpAnyT_load (i := 8) (v := ?_) rfl (by kernel_rfl) (by kernel_rfl) (by kernel_rfl) (by kernel_rfl) (by kernel_rfl) (fun _ _ _ h => h) HSS.out (by rfl) ?_ ?_
        rotate_left
        · intro w' hSw; go_simp; exact neq_txt y1 y2 w'
        simp only [Act.put, List.getElem_toArray, List.getElem_cons_zero, List.getElem_cons_succ, List.setIfInBounds_toArray, List.set_cons_zero, List.set_cons_succ]
        refine wpAnyT_done (by kernel_rfl) ?_ _
        cases he : (y1 == y2) with
        | true =>
          have HE := Lib.hid (beq_iff_eq.1 he)
          clear he
          go_wp2_with fail
          go_roundw
          case rel => exact ⟨j + 1, by omega, by go_num, by rw [HT1.out, HT2.out, HT.out, HE.out], HF.out.trans HSS.out⟩
          case measure => simp [intOf]; omega
        | false =>
          have HE := Lib.hid (beq_eq_false_iff_ne.1 he)
          clear he
          go_wp2_with fail
          go_ret
          refine ⟨ret_bool ?_, HF.out.trans HSS.out⟩
          symm
          rw [beq_eq_false_iff_ne]
          intro h
          subst h
          have := HY1.out.symm.trans HY2.out
          exact HE.out (Option.some.inj this)
      · go_wp2_with fail
        go_ret
        refine ⟨ret_bool ?_, HF.out⟩
        symm
        have := HT.out
        rw [List.take_of_length_le (by omega), List.take_of_length_le (by have := HN.out; omega)] at this
        rw [this]
        simp
  · have t0 : (((l1.length : Nat) : Int) != ((l2.length : Nat) : Int)) = true := by simp; omega
    have HN := Lib.hid hn
    clear hn
    go_enter Try.func41, Try.ntmps41
    go_wp2_with fail
    go_ret
    refine ⟨ret_bool ?_, Fr.refl _ _⟩
    symm
    rw [beq_eq_false_iff_ne]
    intro h
    exact HN.out (congrArg List.length h)
set_option maxRecDepth 100000 in
set_option maxHeartbeats 8000000 in
theorem eqReport_any {w : World} {v1 v2 : Value} {l1 l2 : List Rpt} {B1 B2 : List Nat} (h1 : SlEls 7 RptR w v1 l1 B1) (h2 : SlEls 7 RptR w v2 l2 B2) (hl1 : l1.length ≤ 1099511627776) (hl2 : l2.length ≤ 1099511627776) :
    Calls Try.prog 42 #[v1, v2] w fun e w' => e = .returned (.bool (l1 == l2)) ∧ Fr [] w w' := by
  obtain ⟨a1, c1, rfl⟩ := h1.shape
  obtain ⟨a2, c2, rfl⟩ := h2.shape
  have H1 := Lib.hid h1; have H2 := Lib.hid h2
  clear h1 h2
  by_cases hn : l1.length = l2.length
  · have HN := Lib.hid hn
    have t0 : (((l1.length : Nat) : Int) != ((l2.length : Nat) : Int)) = false := by rw [hn]; simp
    clear hn
    go_enter Try.func42, Try.ntmps42
    go_wp2_with fail
    clear t0
    go_loopw [13] (fun i wr => ∃ j : Nat, j ≤ l1.length ∧ i = .int .i64 j ∧ l1.take j = l2.take j ∧ Fr [] w wr) (fun i _ => l1.length - (intOf i).toNat)
    case atStart => exact ⟨0, Nat.zero_le _, rfl, rfl, Fr.refl _ _⟩
    case round =>
      obtain ⟨j, hj, rfl, htk, hF⟩ := hrel
      have HT := Lib.hid htk; have HF := Lib.hid hF
      clear htk hF
      by_cases hlt : j < l1.length
      · have hlt2 : j < l2.length := by have := HN.out; omega
        obtain ⟨b1, o1, k1, y1, B3, ea, -, hy1, ⟨rfl, -⟩, -, hrg1⟩ := (H1.out.keep Rep.rpt HF.out).at_ Rep.rpt (i := j) hlt
        obtain ⟨b2, o2, k2, y2, B4, eb, -, hy2, ⟨rfl, -⟩, -, hrg2⟩ := (H2.out.keep Rep.rpt HF.out).at_ Rep.rpt (i := j) hlt2
        subst ea eb
        have HRG1 := Lib.hid hrg1; have HRG2 := Lib.hid hrg2; have HY1 := Lib.hid hy1; have HY2 := Lib.hid hy2
        have HT1 : Hid (l1.take (j + 1) = l1.take j ++ [y1]) := Lib.hid (by rw [List.take_add_one, hy1]; rfl)
        have HT2 : Hid (l2.take (j + 1) = l2.take j ++ [y2]) := Lib.hid (by rw [List.take_add_one, hy2]; rfl)
        clear hrg1 hrg2 hy1 hy2
        go_upto_region 6 with fail
        refine wp_region_T (fun w' => Fr [] wr.drew w') [] 9 #[false, false, false, false, false, false, false, false, false] (by kernel_rfl) rfl rfl ?_
        try simp only [List.append_eq, List.cons_append, List.nil_append]
        have hF := (Fr.refl [] wr).drew
        have HF := Lib.hid (HF.out.trans hF)
        have HRG1 : Hid (World.rangeAt _ _ _ _) := Lib.hid (fr_rng hF HRG1.out)
        have HRG2 : Hid (World.rangeAt _ _ _ _) := Lib.hid (fr_rng hF HRG2.out)
        clear hF
        have HSS : Hid (Fr [] wr.drew wr.drew) := Lib.hid (Fr.refl _ _)
        generalize wr.drew = wd at *
        refine wpAnyT_load (i := 0) (v := ?_) rfl (by kernel_rfl) (by kernel_rfl) (by kernel_rfl) (by kernel_rfl) (by kernel_rfl) (fun _ _ _ h => h) HSS.out (by rfl) ?_ ?_
        rotate_left
        · intro w hSw; skip; go_simp; try with_reducible rfl
        simp only [Act.put, List.getElem_toArray, List.getElem_cons_zero, List.getElem_cons_succ, List.setIfInBounds_toArray, List.set_cons_zero, List.set_cons_succ]
        refine wpAnyT_load (i := 1) (v := ?_) rfl (by kernel_rfl) (by kernel_rfl) (by kernel_rfl) (by kernel_rfl) (by kernel_rfl) (fun _ _ _ h => h) HSS.out (by rfl) ?_ ?_
        rotate_left
        · intro w hSw; skip; go_simp; try with_reducible rfl
        simp only [Act.put, List.getElem_toArray, List.getElem_cons_zero, List.getElem_cons_succ, List.setIfInBounds_toArray, List.set_cons_zero, List.set_cons_succ]
        refine wpAnyT_load (i := 2) (v := ?_) rfl (by kernel_rfl) (by kernel_rfl) (by kernel_rfl) (by kernel_rfl) (by kernel_rfl) (fun _ _ _ h => h) HSS.out (by rfl) ?_ ?_
        rotate_left
        · intro w hSw; skip; go_simp; try with_reducible rfl
        simp only [Act.put, List.getElem_toArray, List.getElem_cons_zero, List.getElem_cons_succ, List.setIfInBounds_toArray, List.set_cons_zero, List.set_cons_succ]
        refine wpAnyT_load (i := 3) (v := ?_) rfl (by kernel_rfl) (by kernel_rfl) (by kernel_rfl) (by kernel_rfl) (by kernel_rfl) (fun _ _ _ h => h) HSS.out (by rfl) ?_ ?_
        rotate_left
        · intro w' hSw; refine run_load_mid_op 57 (.tmp 18) ?_ b1 (o1 + j * 7) ?_ (rpc7 y1) _ (fr_rng hSw HRG1.out) Try.underlying57 rfl (by kernel_rfl) <;> rfl
        simp only [Act.put, List.getElem_toArray, List.getElem_cons_zero, List.getElem_cons_succ, List.setIfInBounds_toArray, List.set_cons_zero, List.set_cons_succ]
        refine wpAnyT_load (i := 4) (v := ?_) rfl (by kernel_rfl) (by kernel_rfl) (by kernel_rfl) (by kernel_rfl) (by kernel_rfl) (fun _ _ _ h => h) HSS.out (by rfl) ?_ ?_
        rotate_left
        · intro w hSw; skip; go_simp; try with_reducible rfl
        simp only [Act.put, List.getElem_toArray, List.getElem_cons_zero, List.getElem_cons_succ, List.setIfInBounds_toArray, List.set_cons_zero, List.set_cons_succ]
        refine wpAnyT_load (i := 5) (v := ?_) rfl (by kernel_rfl) (by kernel_rfl) (by kernel_rfl) (by kernel_rfl) (by kernel_rfl) (fun _ _ _ h => h) HSS.out (by rfl) ?_ ?_
        rotate_left
        · intro w hSw; skip; go_simp; try with_reducible rfl
        simp only [Act.put, List.getElem_toArray, List.getElem_cons_zero, List.getElem_cons_succ, List.setIfInBounds_toArray, List.set_cons_zero, List.set_cons_succ]
        refine wpAnyT_load (i := 6) (v := ?_) rfl (by kernel_rfl) (by kernel_rfl) (by kernel_rfl) (by kernel_rfl) (by kernel_rfl) (fun _ _ _ h => h) HSS.out (by rfl) ?_ ?_
        rotate_left
        · intro w hSw; skip; go_simp; try with_reducible rfl
        simp only [Act.put, List.getElem_toArray, List.getElem_cons_zero, List.getElem_cons_succ, List.setIfInBounds_toArray, List.set_cons_zero, List.set_cons_succ]
        refine wpAnyT_load (i := 7) (v := ?_) rfl (by kernel_rfl) (by kernel_rfl) (by kernel_rfl) (by kernel_rfl) (by kernel_rfl) (fun _ _ _ h => h) HSS.out (by rfl) ?_ ?_
        rotate_left
        · intro w' hSw; refine run_load_mid_op 57 (.tmp 22) ?_ b2 (o2 + j * 7) ?_ (rpc7 y2) _ (fr_rng hSw HRG2.out) Try.underlying57 rfl (by kernel_rfl) <;> rfl
        simp only [Act.put, List.getElem_toArray, List.getElem_cons_zero, List.getElem_cons_succ, List.setIfInBounds_toArray, List.set_cons_zero, List.set_cons_succ]
        refine wpAnyT_load (i := 8) (v := ?_) rfl (by kernel_rfl) (by kernel_rfl) (by kernel_rfl) (by kernel_rfl) (by kernel_rfl) (fun _ _ _ h => h) HSS.out (by rfl) ?_ ?_
        rotate_left
        · intro w' hSw; go_simp; exact neq_rpt y1 y2 w'
        simp only [Act.put, List.getElem_toArray, List.getElem_cons_zero, List.getElem_cons_succ, List.setIfInBounds_toArray, List.set_cons_zero, List.set_cons_succ]
        refine wpAnyT_done (by kernel_rfl) ?_ _
        cases he : (y1 == y2) with
        | true =>
          have HE := Lib.hid (beq_iff_eq.1 he)
          clear he
          go_wp2_with fail
          go_roundw
          case rel => exact ⟨j + 1, by omega, by go_num, by rw [HT1.out, HT2.out, HT.out, HE.out], HF.out.trans HSS.out⟩
          case measure => simp [intOf]; omega
        | false =>
          have HE := Lib.hid (beq_eq_false_iff_ne.1 he)
          clear he
          go_wp2_with fail
          go_ret
          refine ⟨ret_bool ?_, HF.out.trans HSS.out⟩
          symm
          rw [beq_eq_false_iff_ne]
          intro h
          subst h
          have := HY1.out.symm.trans HY2.out
          exact HE.out (Option.some.inj this)
      · go_wp2_with fail
        go_ret
        refine ⟨ret_bool ?_, HF.out⟩
        symm
        have := HT.out
        rw [List.take_of_length_le (by omega), List.take_of_length_le (by have := HN.out; omega)] at this
        rw [this]
        simp
  · have t0 : (((l1.length : Nat) : Int) != ((l2.length : Nat) : Int)) = true := by simp; omega
    have HN := Lib.hid hn
    clear hn
    go_enter Try.func42, Try.ntmps42
    go_wp2_with fail
    go_ret
    refine ⟨ret_bool ?_, Fr.refl _ _⟩
    symm
    rw [beq_eq_false_iff_ne]
    intro h
    exact HN.out (congrArg List.length h)
end Go.Proofs.Ytcmpjkopdjncdaa
