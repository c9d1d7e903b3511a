import Derived.Test.YtcmpjkopdjncdaaMw42
import Derived.Test.YtcmpjkopdjncdaaMw43
import Derived.Test.YtcmpjkopdjncdaaMw44
/- The walk of confluxref07.one at kind 203 (printed by gen_7one2.py). -/
namespace Go.Proofs.Ytcmpjkopdjncdaa
open Go.RowKit

set_option maxRecDepth 100000 in
set_option maxHeartbeats 16000000 in
theorem r07one_203 {w : World} {x : Itm} {vr vc vs : Value} {Bc : List Nat} (hr : SlEls 7 RptR w vr x.reps []) (hc : SlEls 2 ChkR w vc x.chks Bc) (hs : SlEls 1 SrcR w vs x.srcs []) (hz : Sz7 x) (hR : right7 x = true) (hk : x.kind = 203) :
    Calls Try.prog 38 #[.agg (itc x vr vc vs)] w fun e w' => ∃ v', e = .returned v' ∧ Bytes w' v' (itemW x) ∧ Fr [] w w' := by
  obtain ⟨ar, cr, rfl⟩ := hr.shape
  obtain ⟨ac, cc, rfl⟩ := hc.shape
  obtain ⟨as_, cs, rfl⟩ := hs.shape
  obtain ⟨nr, hnr⟩ : ∃ n, x.reps.length = n := ⟨_, rfl⟩
  obtain ⟨nc, hnc⟩ : ∃ n, x.chks.length = n := ⟨_, rfl⟩
  obtain ⟨ns, hns⟩ : ∃ n, x.srcs.length = n := ⟨_, rfl⟩
  have HNR := Lib.hid hnr; have HNC := Lib.hid hnc; have HNS := Lib.hid hns
  have HCT := Lib.hid (count_doc hR)
  have HZ := Lib.hid hz; have HRT := Lib.hid hR
  rw [hnr] at hr
  rw [hnc] at hc
  rw [hns] at hs
  rw [hnr, hnc, hns] at HCT ⊢
  obtain ⟨erp, ec⟩ := right_203 hR hk
  have hnr0 : nr = 0 := by rw [← hnr, erp]; rfl
  have hnc0 : nc = 0 := by rw [← hnc, ec]; rfl
  have HK : Hid (x.kind = 203) := Lib.hid hk
  have HEP : Hid (x.reps = []) := Lib.hid erp
  have HEC : Hid (x.chks = []) := Lib.hid ec
  subst hnr0
  subst hnc0
  clear hk erp ec
  clear hnr hnc hns hz hR
  obtain ⟨w1, e1, hF1, hB1, hs1⟩ := one_new w (itc x (.slice ar 0 cr) (.slice ac 0 cc) (.slice as_ ns cs)) 52
  obtain ⟨w2, e2, hF2, hB2, hs2⟩ := one_new w1 #[] 5
  have HB0 : Hid (Bytes w2 (.slice (some ⟨w1.heap.size, 0, none⟩) 0 0) []) := Lib.hid (Sl_none hB2)
  have E1 := Lib.hid e1; have E2 := Lib.hid e2
  have hF := hF1.trans hF2
  have HB := Lib.hid (hB1.keep hF2); have HR := Lib.hid (hr.keep Rep.rpt hF); have HC := Lib.hid (hc.keep Rep.chk hF); have HS := Lib.hid (hs.keep Rep.src hF); have HF := Lib.hid hF
  clear hF1 hB1 hs1 e1 hF2 hB2 hs2 e2 hF hr hc hs
  have hnr31 : 0 ≤ 31 := by have := HCT.out; omega
  have hnc31 : 0 ≤ 31 := by have := HCT.out; omega
  have hns31 : ns ≤ 31 := by have := HCT.out; omega
  go_enter Try.func38, Try.ntmps38
  go_upto_region 1 with fail
  rw [E1.out]
  clear E1
  go_upto_region 2 with fail
  rw [E2.out]
  clear E2
  generalize w1.heap.size = g1 at *
  obtain ⟨g0, hg0⟩ : ∃ g, w.heap.size = g := ⟨_, rfl⟩
  rw [hg0] at HB ⊢
  clear hg0
  have x0 := HB.out.cell 0; have x6 := HB.out.cell 6; have x7 := HB.out.cell 7
  simp only [itc, List.getElem?_toArray, List.getElem?_cons_succ, List.getElem?_cons_zero] at x0 x6 x7
  rw [HK.out] at x0
  have HVB : Hid (Bytes w2 (.slice (some ⟨g1, 0, none⟩) 0 0) []) := HB0
  obtain ⟨P2, hP2⟩ : ∃ P : List UInt8, [] = P := ⟨_, rfl⟩
  rw [hP2] at HVB
  have HP2 : Hid (body3 x = P2 ++ x.srcs.flatMap srcW) := Lib.hid (by
    unfold body3 hd7
    rw [if_neg (by rw [HK.out]; decide), if_neg (by rw [HK.out]; decide), HEP.out, HEC.out, ← hP2]
    simp)
  clear hP2 HB0
  go_upto_region 7 with fail
  go_loopw [3, 4] (fun b i wq => b = (.slice (some ⟨g1, 0, none⟩) 0 0) ∧ i = .int .i64 0 ∧ w2 = wq) (fun _ _ _ => 0)
  case atStart => exact ⟨rfl, rfl, rfl⟩
  case round =>
    obtain ⟨rfl, rfl, ew⟩ := hrel
    subst ew
    go_upto_region 15 with fail
    go_loopw [3, 7] (fun b i wq => b = (.slice (some ⟨g1, 0, none⟩) 0 0) ∧ i = .int .i64 0 ∧ w2 = wq) (fun _ _ _ => 0)
    case atStart => exact ⟨rfl, rfl, rfl⟩
    case round =>
      obtain ⟨rfl, rfl, ew⟩ := hrel
      subst ew
      go_upto_region 25 with fail
      clear x0 x6 x7
      go_loopw [3, 11] (fun b i wq => ∃ j : Nat, j ≤ ns ∧ i = .int .i64 j ∧ Bytes wq b (P2 ++ (x.srcs.take j).flatMap srcW) ∧ Fr [] w2 wq) (fun _ i _ => ns - (intOf i).toNat)
      case atStart => exact ⟨0, Nat.zero_le _, rfl, by simpa using HVB.out, Fr.refl _ _⟩
      case round =>
        clear HVB
        obtain ⟨j, hj, rfl, hb, hF⟩ := hrel
        rename World => wq
        have HVB := Lib.hid hb; have HFW := Lib.hid hF
        obtain ⟨ha, hn, hk, rfl⟩ := Sl.isSlice hb
        have HB := Lib.hid (HB.out.keep hF); have HS := Lib.hid (HS.out.keep Rep.src hF); have HF := Lib.hid (HF.out.trans hF)
        clear hF hb
        have x8 := HB.out.cell 8
        simp only [itc, List.getElem?_toArray, List.getElem?_cons_succ, List.getElem?_cons_zero] at x8
        by_cases hlt : j < ns
        · obtain ⟨b, o, k, y, B1, ea, -, hy, ⟨rfl, -⟩, -, hrg⟩ := HS.out.at_ Rep.src (i := j) hlt
          rw [ea] at x8
          have y0 : wq.cell? ⟨b, o + j, none⟩ = some (.int .u32 (y.toNat : Nat)) := by have := hrg 0 _ rfl; simpa using this
          have HTK : Hid (P2 ++ (x.srcs.take (j + 1)).flatMap srcW = [P2 ++ (x.srcs.take j).flatMap srcW, beN y.toNat 4].flatten) := Lib.hid (by
            rw [List.take_add_one, hy, List.flatMap_append]
            simp [srcW])
          have HSZ : Hid ((P2 ++ (x.srcs.take (j + 1)).flatMap srcW).length ≤ 1099511000000) := Lib.hid (by
            have h1 := HZ.out.body
            have h2 := flat_take_le srcW hy
            rw [HP2.out] at h1
            rw [List.take_add_one, hy, List.flatMap_append]
            simp only [Option.toList_some, List.flatMap_cons, List.flatMap_nil, List.append_nil, List.length_append] at h1 ⊢
            omega)
          clear ea hy hrg
          have hq := y.toNat_lt
          have hwu : IntKind.u64.wrap ((y.toNat : Nat) : Int) = (y.toNat : Nat) := wrap_u64_nat _ (by omega)
          go_wp2_with fail
          refine (Big_own y.toNat 4 (by omega) (by omega)).mono ?_
          rintro e w3 ⟨v3, rfl, hO, hF⟩
          obtain ⟨a3, n3, c3, rfl⟩ := hO.isSlice
          have HO := Lib.hid hO; have HF3 := Lib.hid hF
          clear hO hF hq hwu x8 y0
          go_wp2_with fail
          refine (Join_rows (brows_made (vs := [.slice ha hn hk, .slice a3 n3 c3]) (ls := [P2 ++ (x.srcs.take j).flatMap srcW, beN y.toNat 4]) 22 2 ⟨Sl.keep HVB.out HF3.out, HO.out.bytes, trivial⟩ rfl (by unfold maxLen; omega)) (by rw [← HTK.out]; have := HSZ.out; omega) (by simp)).mono ?_
          rintro e w4 ⟨v4, rfl, hO4, hF4⟩
          rw [← HTK.out] at hO4
          have HO4 := Lib.hid hO4; have HF4 := Lib.hid (HFW.out.trans (HF3.out.trans (((Fr.refl [] w3).alloc _).trans hF4)))
          clear hO4 hF4
          go_wp2_with fail
          refine ⟨⟨j + 1, by omega, by go_num, HO4.out, HF4.out⟩, by simp [intOf]; omega⟩
        · obtain rfl : ns = j := by omega
          have hbb := HVB.out
          rw [List.take_of_length_le (by rw [HNS.out]; exact Nat.le_refl _), ← HP2.out] at hbb
          have HVB := Lib.hid hbb
          clear hbb hlt hj HS HFW HP2
          go_upto_region 28 with fail
          clear x8
          have x9 := HB.out.cell 9
          simp only [itc, List.getElem?_toArray, List.getElem?_cons_succ, List.getElem?_cons_zero] at x9
          have HBL : Hid ((body3 x).length + x.reason.length ≤ 1099511000000) := HZ.out.body
          go_cut [171] (fun s wx => s = .bool (!(strB x.reason).toList.isEmpty) ∧ wq = wx)
          case first =>
            clear HCT HZ HRT HF HB HVB HBL
            by_cases hS : (strB x.reason).toList.isEmpty = true
            · go_wp2_with fail
              go_meet
              exact ⟨by simp [hS], rfl⟩
            · have st : (strB x.reason).toList.isEmpty = false := by simpa using hS
              clear hS
              go_wp2_with fail
              go_meet
              exact ⟨by simp [st], rfl⟩
          case rest =>
          obtain ⟨rfl, ew⟩ := hcut
          subst ew
          obtain ⟨E, hE⟩ : ∃ E, (strB x.reason).toList.isEmpty = E := ⟨_, rfl⟩
          have HEE := Lib.hid hE
          rw [hE]
          clear hE
          go_upto_if 171 with fail
          go_cut [3] (fun s wx => Bytes wx s (bodyW x) ∧ Fr [] wq wx)
          case first =>
            clear HCT HZ HRT HF
            cases E
            rotate_left
            · have HE : Hid (bodyW x = body3 x) := Lib.hid (by
                have h9 := HEE.out
                rw [strB_list] at h9
                unfold bodyW; rw [if_pos (by simpa using h9)])
              go_wp2_with fail
              go_meet
              exact ⟨by rw [HE.out]; exact HVB.out, Fr.refl _ _⟩
            · have HE : Hid (bodyW x = padW [body3 x, [ib (x.reason.length : Nat)], x.reason].flatten) := Lib.hid (by
                have h9 := HEE.out
                rw [strB_list] at h9
                unfold bodyW; rw [if_neg (by simpa using h9)]; simp)
              have hsz := strB_size x.reason
              obtain ⟨q, hq⟩ : ∃ n, x.reason.length = n := ⟨_, rfl⟩
              rw [hq] at hsz
              have HQ := Lib.hid hq
              clear hq
              obtain ⟨wb, eb2, hFb, hBb, hsb⟩ := one_new wq #[.int .u8 ((q : Int) % 256)] 5
              have xb9 : wb.cell? ⟨g0, 9, none⟩ = some (.string (strB x.reason)) := hFb.cellSome x9 (by simp)
              have HLIT : Hid (Bytes wb (.slice (some ⟨wq.heap.size, 0, none⟩) 1 1) [ib (x.reason.length : Nat)]) := Lib.hid (by
                have h9 := sl_made wq [.int .u8 ((q : Int) % 256)] 5 1 rfl (by unfold maxLen; omega)
                rw [eb2] at h9
                have e : [ib (x.reason.length : Nat)].map B8 = [.int .u8 ((q : Int) % 256)] := by rw [HQ.out]; simp only [List.map_cons, List.map_nil, b8_ib]
                unfold Bytes
                rw [e]
                exact h9)
              obtain ⟨c6, w6, hcv, hb6, hF6, hs6⟩ := bytes_of wb x.reason (by have := HBL.out; unfold maxLen; omega)
              rw [HQ.out] at hcv hb6
              have hFt := hFb.trans hF6
              have HFT := Lib.hid hFt; have HB6 := Lib.hid hb6; have HLIT := Lib.hid (Sl.keep HLIT.out hF6); have HVB := Lib.hid (Sl.keep HVB.out hFt)
              clear hFb hBb hsb hb6 hF6 hs6 hFt
              go_wp2_with fail
              refine (Join_rowsO (brows_made (vs := [.slice ha hn hk, .slice (some ⟨wq.heap.size, 0, none⟩) 1 1, .slice (some ⟨wb.heap.size, 0, none⟩) q c6]) (ls := [body3 x, [ib (x.reason.length : Nat)], x.reason]) 22 3 ⟨HVB.out, HLIT.out, HB6.out, trivial⟩ rfl (by unfold maxLen; omega)) (by have := HBL.out; simp only [List.flatten_cons, List.flatten_nil, List.length_append, List.length_nil, List.length_singleton]; omega) (by simp)).mono ?_
              rintro e w8 ⟨v8, rfl, hO8, hF8⟩
              obtain ⟨a8, n8, c8, rfl⟩ := hO8.isSlice
              have HF8 := Lib.hid (HFT.out.trans (((Fr.refl [] w6).alloc _).trans hF8)); have HO8 := Lib.hid (hO8.mono (base' := wq.heap.size) (by have h2 := HFT.out.size; simp; omega))
              clear hO8 hF8 eb2 hcv xb9 x9 hsz
              go_wp2_with fail
              refine (r07whole_any HO8.out HF8.out.size (by have := HBL.out; simp only [List.flatten_cons, List.flatten_nil, List.length_append, List.length_nil, List.length_singleton]; omega)).mono ?_
              rintro e w9 ⟨v9, rfl, hO9, hF9, -⟩
              rw [← HE.out] at hO9
              have HO9 := Lib.hid hO9.bytes; have HF9 := Lib.hid (HF8.out.step hF9 (fun b hb => .inr (HO8.out.block b (mem_toList.1 hb)).1))
              clear hO9 hF9
              go_wp2_with fail
              go_meet
              exact ⟨HO9.out, HF9.out⟩
          case rest =>
            obtain ⟨hb, hF⟩ := hcut
            have HVB := Lib.hid hb
            have HB := Lib.hid (HB.out.keep hF); have HF := Lib.hid (HF.out.trans hF)
            obtain ⟨ha, hn, hk, rfl⟩ := Sl.isSlice hb
            clear hF hb x9
            have x6 := HB.out.cell 6; have x7 := HB.out.cell 7; have x8 := HB.out.cell 8
            simp only [itc, List.getElem?_toArray, List.getElem?_cons_succ, List.getElem?_cons_zero] at x6 x7 x8
            have e10 : hn = (bodyW x).length := by
              obtain ⟨a9, c9, e9⟩ := Sl.shape HVB.out
              rw [List.length_map] at e9
              cases e9
              rfl
            subst e10
            have HBD : Hid ((bodyW x).length ≤ 1099511000010) := Lib.hid (by
              have := HZ.out.body
              unfold bodyW
              split
              · omega
              · unfold padW padOf; simp only [List.length_append, List.length_replicate, List.length_singleton]; omega)
            obtain ⟨bl, hbl⟩ : ∃ n, (bodyW x).length = n := ⟨_, rfl⟩
            rw [hbl] at HVB HBD ⊢
            have HBLN := Lib.hid hbl
            clear hbl
            have HN2 : Hid ((count7 x).1 = ns ∧ ns ≤ 31) := Lib.hid (by have := HCT.out; omega)
            have hwn : wrap64 ((ns : Nat) : Int) = ((ns : Nat) : Int) := IntWalk.wrap64_in _ ⟨by omega, by omega⟩
            go_upto_region 31 with fail
            try simp only [hwn]
            clear x6 x7 x8 hwn
            refine wp_region_rules (fun w' => Fr [] wc.drew w') (Fr []) [isV (.int .i64 (ns : Nat)), isV (.int .i64 ((128 + ns : Nat) : Int)), isV (.int .u8 ((ib ((128 + ns : Nat) : Int)).toNat : Nat)), isV ?p8x3, isV ?p8x4, isV (.int .u8 ((ib x.kind).toNat : Nat)), fun v w' => Bytes w' v [ib ((128 + ns : Nat) : Int), ib x.kind], isV (.slice ha bl hk), isV ?p8x8, isV (.int .i64 ((bl / 4 : Nat) : Int)), isV (.int .u64 ((bl / 4 : Nat) : Int)), fun v w' => Bytes w' v (beN (bl / 4) 2), isV (.slice ha bl hk), fun v w' => BRows w' v [[ib ((128 + ns : Nat) : Int), ib x.kind], beN (bl / 4) 2, bodyW x], fun v w' => Bytes w' v (itemW x), fun v w' => Bytes w' v (itemW x)] [[], [(0, 195)], [(1, 196)], [], [(3, 198)], [(4, 199)], [(2, 197), (5, 200)], [], [(7, 202)], [(8, 203)], [(9, 204)], [(10, 205)], [], [(6, 201), (11, 206), (12, 207)], [(13, 208)], [(14, 209)]] 210 [0, 1, 2, 3, 4, 5, 6, 7, 8, 9, 10, 11, 12, 13, 14, 15] [(0, 195), (1, 196), (2, 197), (3, 198), (4, 199), (5, 200), (6, 201), (7, 202), (8, 203), (9, 204), (10, 205), (11, 206), (12, 207), (13, 208), (14, 209), (15, 2)] (by as_aux_lemma => kernel_rfl) (by as_aux_lemma => kernel_rfl) rfl (by as_aux_lemma => kernel_rfl) (by as_aux_lemma => kernel_rfl) (by as_aux_lemma => kernel_rfl) (by as_aux_lemma => kernel_rfl) (by intro c a a' W h hq; cases a; cases a'; cases h; exact hq) (fun w => Fr.refl _ w) (Fr.refl _ _) ⟨isV_stab, isV_stab, isV_stab, isV_stab, isV_stab, isV_stab, fun _ _ _ h1 h2 => Sl.keep h2 h1, isV_stab, isV_stab, isV_stab, isV_stab, fun _ _ _ h1 h2 => Sl.keep h2 h1, isV_stab, fun _ _ _ h1 h2 => h2.keep h1, fun _ _ _ h1 h2 => Sl.keep h2 h1, fun _ _ _ h1 h2 => Sl.keep h2 h1, trivial⟩ ⟨?_, ?_, ?_, ?_, ?_, ?_, ?_, ?_, ?_, ?_, ?_, ?_, ?_, ?_, ?_, ?_, trivial⟩ ?_
            rotate_left 3
            · intro vs w' hG hd K hK
              clear hd
              simp only [canonD, Act.put, List.getElem_toArray, List.getElem_cons_zero, List.getElem_cons_succ, List.setIfInBounds_toArray, List.set_cons_zero, List.set_cons_succ] at hK ⊢
              refine Eq.mpr (if_pos (by rfl)) ?_
              go_simp
              refine hK.out _ _ (Fr.refl _ _) hG ?_
              show _ = _
              rfl
            · intro vs w' hG hd K hK
              obtain ⟨h0, -⟩ := hd
              replace h0 : vs 0 = _ := h0
              simp only [canonD, Act.put, List.getElem_toArray, List.getElem_cons_zero, List.getElem_cons_succ, List.setIfInBounds_toArray, List.set_cons_zero, List.set_cons_succ, h0] at hK ⊢
              refine Eq.mpr (if_pos (by rfl)) ?_
              go_simp
              refine hK.out _ _ (Fr.refl _ _) hG ?_
              show _ = _
              first | rfl | (have h9 := HN2.out.2; exact congrArg (Value.int .i64) (by rw [IntWalk.i64_in _ (by omega)]; omega)) | (have h9 := HN2.out.2; simp; rw [IntWalk.i64_in _ (by omega)])
            · intro vs w' hG hd K hK
              obtain ⟨h1, -⟩ := hd
              replace h1 : vs 1 = _ := h1
              simp only [canonD, Act.put, List.getElem_toArray, List.getElem_cons_zero, List.getElem_cons_succ, List.setIfInBounds_toArray, List.set_cons_zero, List.set_cons_succ, h1] at hK ⊢
              refine Eq.mpr (if_pos (by rfl)) ?_
              go_simp
              refine hK.out _ _ (Fr.refl _ _) hG ?_
              show _ = _
              first | rfl | exact congrArg (Value.int .u8) (ib_wrap _)
            · intro vs w' hG hd K hK
              clear hd
              simp only [canonD, Act.put, List.getElem_toArray, List.getElem_cons_zero, List.getElem_cons_succ, List.setIfInBounds_toArray, List.set_cons_zero, List.set_cons_succ] at hK ⊢
              refine Eq.mpr (if_pos (by rfl)) ?_
              go_simp
              refine hK.out _ _ (Fr.refl _ _) hG ?_
              show _ = _
              rfl
            · intro vs w' hG hd K hK
              obtain ⟨h3, -⟩ := hd
              replace h3 : vs 3 = _ := h3
              simp only [canonD, Act.put, List.getElem_toArray, List.getElem_cons_zero, List.getElem_cons_succ, List.setIfInBounds_toArray, List.set_cons_zero, List.set_cons_succ, h3] at hK ⊢
              have hW : Fr [] wc w' := (Fr.refl [] wc).drew.trans hG
              have x0 := (HB.out.keep hW).cell 0
              simp only [itc, List.getElem?_toArray, List.getElem?_cons_succ, List.getElem?_cons_zero] at x0
              refine Eq.mpr (if_pos (by rfl)) ?_
              go_simp
              refine hK.out _ _ (Fr.refl _ _) hG ?_
              show _ = _
              rfl
            · intro vs w' hG hd K hK
              obtain ⟨h4, -⟩ := hd
              replace h4 : vs 4 = _ := h4
              simp only [canonD, Act.put, List.getElem_toArray, List.getElem_cons_zero, List.getElem_cons_succ, List.setIfInBounds_toArray, List.set_cons_zero, List.set_cons_succ, h4] at hK ⊢
              refine Eq.mpr (if_pos (by rfl)) ?_
              go_simp
              refine hK.out _ _ (Fr.refl _ _) hG ?_
              show _ = _
              first | rfl | exact congrArg (Value.int .u8) (ib_wrap _)
            · intro vs w' hG hd K hK
              obtain ⟨h2, h5, -⟩ := hd
              replace h2 : vs 2 = _ := h2
              replace h5 : vs 5 = _ := h5
              simp only [canonD, Act.put, List.getElem_toArray, List.getElem_cons_zero, List.getElem_cons_succ, List.setIfInBounds_toArray, List.set_cons_zero, List.set_cons_succ, h2, h5] at hK ⊢
              refine Eq.mpr (if_pos (by rfl)) ?_
              go_simp
              exact hK.out _ _ ((Fr.refl _ _).alloc _) (hG.trans ((Fr.refl _ _).alloc _)) (bytes2_made _ _ _ _)
            · intro vs w' hG hd K hK
              clear hd
              simp only [canonD, Act.put, List.getElem_toArray, List.getElem_cons_zero, List.getElem_cons_succ, List.setIfInBounds_toArray, List.set_cons_zero, List.set_cons_succ] at hK ⊢
              refine Eq.mpr (if_pos (by rfl)) ?_
              go_simp
              refine hK.out _ _ (Fr.refl _ _) hG ?_
              show _ = _
              rfl
            · intro vs w' hG hd K hK
              obtain ⟨h7, -⟩ := hd
              replace h7 : vs 7 = _ := h7
              simp only [canonD, Act.put, List.getElem_toArray, List.getElem_cons_zero, List.getElem_cons_succ, List.setIfInBounds_toArray, List.set_cons_zero, List.set_cons_succ, h7] at hK ⊢
              refine Eq.mpr (if_pos (by rfl)) ?_
              go_simp
              refine hK.out _ _ (Fr.refl _ _) hG ?_
              show _ = _
              rfl
            · intro vs w' hG hd K hK
              obtain ⟨h8, -⟩ := hd
              replace h8 : vs 8 = _ := h8
              simp only [canonD, Act.put, List.getElem_toArray, List.getElem_cons_zero, List.getElem_cons_succ, List.setIfInBounds_toArray, List.set_cons_zero, List.set_cons_succ, h8] at hK ⊢
              have hb1 := HBD.out
              have e4 : IntKind.i64.wrap ((bl : Int) / 4) = ((bl : Int) / 4) := IntWalk.i64_in _ (by omega)
              refine Eq.mpr (if_pos (by rfl)) ?_
              go_simp
              refine hK.out _ _ (Fr.refl _ _) hG ?_
              show _ = _
              first | rfl | (simp; done) | (simp; omega)
            · intro vs w' hG hd K hK
              obtain ⟨h9, -⟩ := hd
              replace h9 : vs 9 = _ := h9
              simp only [canonD, Act.put, List.getElem_toArray, List.getElem_cons_zero, List.getElem_cons_succ, List.setIfInBounds_toArray, List.set_cons_zero, List.set_cons_succ, h9] at hK ⊢
              have hb1 := HBD.out
              have e4 : IntKind.u64.wrap ((bl : Int) / 4) = ((bl : Int) / 4) := by have := wrap_u64_nat (bl / 4) (by omega); simpa using this
              refine Eq.mpr (if_pos (by rfl)) ?_
              go_simp
              refine hK.out _ _ (Fr.refl _ _) hG ?_
              show _ = _
              first | rfl | (simp; done) | (simp; omega)
            · intro vs w' hG hd K hK
              obtain ⟨h10, -⟩ := hd
              replace h10 : vs 10 = _ := h10
              simp only [canonD, Act.put, List.getElem_toArray, List.getElem_cons_zero, List.getElem_cons_succ, List.setIfInBounds_toArray, List.set_cons_zero, List.set_cons_succ, h10] at hK ⊢
              refine Eq.mpr (if_pos (by rfl)) ?_
              go_simp
              have hb1 := HBD.out
              refine (Big_own (bl / 4) 2 (by omega) (by omega)).mono ?_
              rintro e wz ⟨vz, rfl, hO, hF⟩
              go_simp
              exact hK.out _ _ hF (hG.trans hF) hO.bytes
            · intro vs w' hG hd K hK
              clear hd
              simp only [canonD, Act.put, List.getElem_toArray, List.getElem_cons_zero, List.getElem_cons_succ, List.setIfInBounds_toArray, List.set_cons_zero, List.set_cons_succ] at hK ⊢
              refine Eq.mpr (if_pos (by rfl)) ?_
              go_simp
              refine hK.out _ _ (Fr.refl _ _) hG ?_
              show _ = _
              rfl
            · intro vs w' hG hd K hK
              obtain ⟨h6, h11, h12, -⟩ := hd
              replace h6 : Bytes w' (vs 6) [ib ((128 + ns : Nat) : Int), ib x.kind] := h6
              replace h11 : Bytes w' (vs 11) (beN (bl / 4) 2) := h11
              replace h12 : vs 12 = _ := h12
              simp only [canonD, Act.put, List.getElem_toArray, List.getElem_cons_zero, List.getElem_cons_succ, List.setIfInBounds_toArray, List.set_cons_zero, List.set_cons_succ, h12] at hK ⊢
              generalize vs 6 = v6 at *
              generalize vs 11 = v11 at *
              obtain ⟨pa6, pn6, pk6, rfl⟩ := Sl.isSlice h6
              obtain ⟨pa11, pn11, pk11, rfl⟩ := Sl.isSlice h11
              have hW : Fr [] wc w' := (Fr.refl [] wc).drew.trans hG
              refine Eq.mpr (if_pos (by rfl)) ?_
              go_simp
              exact hK.out _ _ ((Fr.refl _ _).alloc _) (hG.trans ((Fr.refl _ _).alloc _)) (brows_made (vs := [_, _, _]) (ls := [[ib ((128 + ns : Nat) : Int), ib x.kind], beN (bl / 4) 2, bodyW x]) _ 3 ⟨h6, h11, Sl.keep HVB.out hW, trivial⟩ rfl (by unfold maxLen; omega))
            · intro vs w' hG hd K hK
              obtain ⟨h13, -⟩ := hd
              replace h13 : BRows w' (vs 13) [[ib ((128 + ns : Nat) : Int), ib x.kind], beN (bl / 4) 2, bodyW x] := h13
              simp only [canonD, Act.put, List.getElem_toArray, List.getElem_cons_zero, List.getElem_cons_succ, List.setIfInBounds_toArray, List.set_cons_zero, List.set_cons_succ] at hK ⊢
              generalize vs 13 = v13 at *
              refine Eq.mpr (if_pos (by rfl)) ?_
              go_simp
              refine (Join_rows h13 (by have := HBD.out; have := HBLN.out; simp only [List.flatten_cons, List.flatten_nil, List.length_append, List.length_nil, List.length_cons, beN_len]; omega) (by simp)).mono ?_
              rintro e wz ⟨vz, rfl, hO, hF⟩
              go_simp
              refine hK.out _ _ hF (hG.trans hF) ?_
              show Bytes wz vz (itemW x)
              unfold itemW
              rw [HN2.out.1, HBLN.out, beN2_mod]
              simpa using hO
            · intro vs w' hG hd K hK
              obtain ⟨h14, -⟩ := hd
              replace h14 : Bytes w' (vs 14) (itemW x) := h14
              simp only [canonD, Act.put, List.getElem_toArray, List.getElem_cons_zero, List.getElem_cons_succ, List.setIfInBounds_toArray, List.set_cons_zero, List.set_cons_succ] at hK ⊢
              generalize vs 14 = v14 at *
              refine Eq.mpr (if_pos (by rfl)) ?_
              go_simp
              exact hK.out _ _ (Fr.refl _ _) hG h14
            intro vs w' hG hP
            obtain ⟨h0, h1, h2, h3, h4, h5, h6, h7, h8, h9, h10, h11, h12, h13, h14, h15, -⟩ := hP
            replace h0 : vs 0 = _ := h0
            replace h1 : vs 1 = _ := h1
            replace h2 : vs 2 = _ := h2
            replace h3 : vs 3 = _ := h3
            replace h4 : vs 4 = _ := h4
            replace h5 : vs 5 = _ := h5
            replace h6 : Bytes w' (vs 6) [ib ((128 + ns : Nat) : Int), ib x.kind] := h6
            replace h7 : vs 7 = _ := h7
            replace h8 : vs 8 = _ := h8
            replace h9 : vs 9 = _ := h9
            replace h10 : vs 10 = _ := h10
            replace h11 : Bytes w' (vs 11) (beN (bl / 4) 2) := h11
            replace h12 : vs 12 = _ := h12
            replace h13 : BRows w' (vs 13) [[ib ((128 + ns : Nat) : Int), ib x.kind], beN (bl / 4) 2, bodyW x] := h13
            replace h14 : Bytes w' (vs 14) (itemW x) := h14
            replace h15 : Bytes w' (vs 15) (itemW x) := h15
            simp only [canonD, Act.put, List.getElem_toArray, List.getElem_cons_zero, List.getElem_cons_succ, List.setIfInBounds_toArray, List.set_cons_zero, List.set_cons_succ, h0, h1, h2, h3, h4, h5, h7, h8, h9, h10, h12]
            generalize vs 6 = v6 at *
            generalize vs 11 = v11 at *
            generalize vs 13 = v13 at *
            generalize vs 14 = v14 at *
            generalize vs 15 = v15 at *
            clear h0 h1 h2 h3 h4 h5 h7 h8 h9 h10 h12
            have hF := (Fr.refl [] wc).drew.trans hG
            have HQ := Lib.hid h15
            have HF := Lib.hid (HF.out.trans hF)
            clear h6 h11 h13 h14 h15 hG hF
            go_wp2_with fail
            go_ret
            exact ⟨_, rfl, HQ.out, HF.out⟩
end Go.Proofs.Ytcmpjkopdjncdaa

/- confluxref07.one: an item's bytes, at every kind (printed by gen_7one2.py). -/
namespace Go.Proofs.Ytcmpjkopdjncdaa
open Go.RowKit

theorem r07one_any {w : World} {x : Itm} {vr vc vs : Value} {Bc : List Nat} (hr : SlEls 7 RptR w vr x.reps []) (hc : SlEls 2 ChkR w vc x.chks Bc) (hs : SlEls 1 SrcR w vs x.srcs []) (hz : Sz7 x) (hR : right7 x = true) :
    Calls Try.prog 38 #[.agg (itc x vr vc vs)] w fun e w' => ∃ v', e = .returned v' ∧ Bytes w' v' (itemW x) ∧ Fr [] w w' := by
  rcases right_kind hR with h | h | h | h
  · exact r07one_200 hr hc hs hz hR h
  · exact r07one_201 hr hc hs hz hR h
  · exact r07one_202 hr hc hs hz hR h
  · exact r07one_203 hr hc hs hz hR h
end Go.Proofs.Ytcmpjkopdjncdaa

/- The walk of confluxref07.Write (printed by gen_7rwrite.py). -/
namespace Go.Proofs.Ytcmpjkopdjncdaa
open Go.RowKit

theorem flat_mem_le {α : Type} (f : α → List UInt8) {xs : List α} {y : α} (hy : y ∈ xs) : (f y).length ≤ (xs.flatMap f).length := by
  obtain ⟨j, hj⟩ := List.getElem?_of_mem hy
  have := flat_take_le f hj
  omega
theorem flat_len_le {α : Type} (f : α → List UInt8) : ∀ (xs : List α), (∀ x ∈ xs, 1 ≤ (f x).length) → xs.length ≤ (xs.flatMap f).length
  | [], _ => by simp
  | x :: xs, h => by
    have h1 := h x (by simp)
    have h2 := flat_len_le f xs (fun y hy => h y (by simp [hy]))
    rw [List.flatMap_cons, List.length_append, List.length_cons]
    omega
theorem sz_texts {x : Itm} (h : Sz7 x) : ∀ c ∈ x.chks, c.texts.length ≤ 1099511000000 ∧ ∀ t ∈ c.texts, t.2.length ≤ 1099511000000 := by
  intro c hc
  have h1 := flat_mem_le chkW hc
  have h2 : (x.chks.flatMap chkW).length ≤ (body3 x).length := by unfold body3; simp only [List.length_append]; omega
  have h3 := h.body
  have h4 : (c.texts.flatMap txtW).length ≤ (chkW c).length := by unfold chkW chkW0; simp only [List.length_append]; omega
  have hl : ∀ t : Int × List UInt8, (txtW t).length = 2 + t.2.length := fun t => by unfold txtW; simp only [List.length_append, List.length_cons, List.length_nil]
  refine ⟨?_, fun t ht => ?_⟩
  · have := flat_len_le txtW c.texts (fun t _ => by rw [hl]; omega)
    omega
  · have := flat_mem_le txtW ht
    rw [hl] at this
    omega
theorem bodyW_le {x : Itm} (h : Sz7 x) : (itemW x).length ≤ 1099511000100 := by
  have h1 := h.body
  rw [itemW_len]
  unfold bodyW
  split
  · omega
  · unfold padW padOf; simp only [List.length_append, List.length_replicate, List.length_singleton]; omega
/-- What Write hands back. -/
def RW7 (w : World) (xs : List Itm) (e : Ending) (w' : World) : Prop := (∃ l u, write7 xs = .ok l ∧ e = .returned (.tuple #[u, .int .i64 0]) ∧ Bytes w' u l ∧ Fr [] w w') ∨ (∃ c, write7 xs = .error c ∧ c ≠ 0 ∧ e = .returned (.tuple #[.slice none 0 0, .int .i64 c]) ∧ Fr [] w w')
theorem RW7.ok {w w' : World} {xs : List Itm} {e : Ending} {u : Value} {l : List UInt8} (h : write7 xs = .ok l) (he : e = .returned (.tuple #[u, .int .i64 0])) (hb : Bytes w' u l) (hf : Fr [] w w') : RW7 w xs e w' := .inl ⟨l, u, h, he, hb, hf⟩
theorem RW7.err {w w' : World} {xs : List Itm} {e : Ending} {c : Int} (h : write7 xs = .error c) (hc : c ≠ 0) (he : e = .returned (.tuple #[.slice none 0 0, .int .i64 c])) (hf : Fr [] w w') : RW7 w xs e w' := .inr ⟨c, h, hc, he, hf⟩
theorem fold_rest {xs : List Itm} {j : Nat} (h : 1500 < ((xs.take j).foldl stepW []).length) : xs.foldl stepW [] = (xs.take j).foldl stepW [] := by
  have h2 : xs.foldl stepW [] = ((xs.take j) ++ (xs.drop j)).foldl stepW [] := by rw [List.take_append_drop]
  rw [h2, List.foldl_append, fold_stay h]
set_option maxRecDepth 100000 in
set_option maxHeartbeats 8000000 in
theorem r07Write_any {w : World} {v : Value} {xs : List Itm} {B : List Nat} (h : SlEls 10 ItR w v xs B) (hz : ∀ x ∈ xs, Sz7 x) (hn : xs.length ≤ 1099511627776) :
    Calls Try.prog 17 #[v] w (RW7 w xs) := by
  obtain ⟨a, cap, rfl⟩ := h.shape
  have HL := Lib.hid h; have HZ := Lib.hid hz; have HF : Hid (Fr [] w w) := Lib.hid (Fr.refl _ _)
  clear h hz
  obtain ⟨n, hnn⟩ : ∃ n, xs.length = n := ⟨_, rfl⟩
  rw [hnn] at hn HL ⊢
  have HN := Lib.hid hnn
  clear hnn
  go_enter Try.func17, Try.ntmps17
  by_cases h0 : n = 0
  · subst h0
    have HW : Hid (write7 xs = .error 4) := Lib.hid (by rw [List.eq_nil_of_length_eq_zero HN.out]; rfl)
    go_wp2_with fail
    go_ret2
    exact RW7.err HW.out (by decide) rfl (HF.out)
  have hm1 : ((n : Int) == 0) = false := beq_eq_false_iff_ne.2 (by omega)
  have hm2 : (n == 0) = false := beq_eq_false_iff_ne.2 h0
  have hpos : 0 < n := by omega
  obtain ⟨b0, o0, c0, y0, B0, ea, -, hy0, ⟨vr0, vc0, vs0, Bc0, rfl, hr0, hc0, hs0, -⟩, -, hrg0⟩ := HL.out.at_ Rep.itm (i := 0) (by omega)
  subst ea
  rw [Nat.zero_mul, Nat.add_zero] at hrg0
  have x0 : w.cell? ⟨b0, o0, none⟩ = some (.int .i64 y0.kind) := hrg0 0 _ rfl
  have HH : Hid (xs.head? = some y0) := Lib.hid (by rw [List.head?_eq_getElem?]; exact hy0)
  have HBG : Hid (begins7 y0 = (y0.kind == 200 || y0.kind == 201)) := Lib.hid rfl
  clear hrg0 hy0 hr0 hc0 hs0 h0
  obtain ⟨kd, hkd⟩ : ∃ k, y0.kind = k := ⟨_, rfl⟩
  rw [hkd] at x0 HBG
  clear hkd
  go_upto_region 3 with fail
  go_cut [21] (fun s wx => s = .bool (!begins7 y0) ∧ w = wx)
  case first =>
    clear HL HZ HF HN HH
    by_cases k0 : kd = 200
    · subst k0
      go_wp2_with fail
      go_meet
      exact ⟨by rw [HBG.out]; rfl, rfl⟩
    · have e0 : (kd != 200) = true := bne_iff_ne.2 k0
      have f0 : (kd == 200) = false := beq_eq_false_iff_ne.2 k0
      by_cases k1 : kd = 201
      · subst k1
        go_wp2_with fail
        go_meet
        exact ⟨by rw [HBG.out]; rfl, rfl⟩
      · have e1 : (kd != 201) = true := bne_iff_ne.2 k1
        have f1 : (kd == 201) = false := beq_eq_false_iff_ne.2 k1
        clear k0 k1
        go_wp2_with fail
        go_meet
        exact ⟨by rw [HBG.out, f0, f1]; rfl, rfl⟩
  case rest =>
    obtain ⟨rfl, ew⟩ := hcut
    subst ew
    clear HBG x0 hm1 hm2
    cases hb : begins7 y0 with
    | false =>
      have HW : Hid (write7 xs = .error 1) := Lib.hid (by unfold write7; rw [HH.out]; simp only; rw [hb]; rfl)
      clear hb
      go_wp2_with fail
      go_ret2
      exact RW7.err HW.out (by decide) rfl (HF.out)
    | true =>
      have HW : Hid (write7 xs = if xs.all right7 then if 1500 < (xs.foldl stepW []).length then .error 2 else .ok (xs.foldl stepW []) else .error 1) := Lib.hid (by unfold write7; rw [HH.out]; simp only; rw [hb]; rfl)
      clear hb HH
      go_upto_region 6 with fail
      go_loopw [4] (fun i wr => ∃ j : Nat, j ≤ n ∧ i = .int .i64 j ∧ (xs.take j).all right7 = true ∧ Fr [] w wr) (fun i _ => n - (intOf i).toNat)
      case atStart => exact ⟨0, Nat.zero_le _, rfl, rfl, Fr.refl _ _⟩
      case round =>
        obtain ⟨j, hj, rfl, hrt, hF⟩ := hrel
        have HRT := Lib.hid hrt; have HFW := Lib.hid hF
        have HL := Lib.hid (HL.out.keep Rep.itm hF); have HF := Lib.hid (HF.out.trans hF)
        clear hrt hF
        by_cases hlt : j < n
        · obtain ⟨b, o, c, y, B1, ea, -, hy, ⟨vr, vc, vs, Bc, rfl, hr, hc, hs, -⟩, -, hrg⟩ := HL.out.at_ Rep.itm (i := j) hlt
          cases ea
          obtain ⟨ar, cr, rfl⟩ := hr.shape
          obtain ⟨ac, cc, rfl⟩ := hc.shape
          obtain ⟨as_, cs, rfl⟩ := hs.shape
          have HRG := Lib.hid hrg; have HR := Lib.hid hr; have HC := Lib.hid hc; have HS := Lib.hid hs
          have HYM := Lib.hid (List.mem_of_getElem? hy)
          have HYZ := Lib.hid (HZ.out y HYM.out)
          have HTK : Hid (xs.take (j + 1) = xs.take j ++ [y]) := Lib.hid (by rw [List.take_add_one, hy]; rfl)
          clear hrg hy hr hc hs
          go_wp2_with (refine wpList_load_midA rfl 52 (.tmp 30) rfl b0 (o0 + j * 10) rfl (itc y (.slice ar y.reps.length cr) (.slice ac y.chks.length cc) (.slice as_ y.srcs.length cs)) _ HRG.out Try.underlying52 rfl (by kernel_rfl) ?_)
          refine (r07right_any HR.out HC.out HS.out HYZ.out.n (by have := HYZ.out.body; omega) (sz_texts HYZ.out)).mono ?_
          rintro e w4 ⟨rfl, hF⟩
          have HF4 := Lib.hid hF
          clear hF
          cases hry : right7 y with
          | false =>
            have HX : Hid (write7 xs = .error 1) := Lib.hid (by rw [HW.out, if_neg]; intro h9; have := List.all_eq_true.1 h9 y HYM.out; rw [hry] at this; cases this)
            clear hry
            go_wp2_with fail
            go_ret2
            exact RW7.err HX.out (by decide) rfl (HF.out.trans HF4.out)
          | true =>
            have HRT2 : Hid ((xs.take (j + 1)).all right7 = true) := Lib.hid (by rw [HTK.out, List.all_append, HRT.out]; simp [hry])
            clear hry
            go_wp2_with fail
            go_roundw
            case rel =>
              repeat apply Exists.intro
              refine ⟨⟨j + 1, by omega, ?_, HRT2.out, HFW.out.trans HF4.out⟩, rfl⟩
              go_num
            case measure => simp [intOf]; omega
        · obtain rfl : n = j := by omega
          have hall := HRT.out
          rw [List.take_of_length_le (by rw [HN.out]; exact Nat.le_refl _)] at hall
          have HALL := Lib.hid hall
          have HW : Hid (write7 xs = if 1500 < (xs.foldl stepW []).length then .error 2 else .ok (xs.foldl stepW [])) := Lib.hid (by rw [HW.out, if_pos hall])
          clear hall hlt hj HRT HFW
          obtain ⟨w2, e2, hF2, hB2, hs2⟩ := one_new wr #[] 5
          have HB0 : Hid (Bytes w2 (.slice (some ⟨wr.heap.size, 0, none⟩) 0 0) []) := Lib.hid (Sl_none hB2)
          have E2 := Lib.hid e2
          have hF := hF2
          have HL := Lib.hid (HL.out.keep Rep.itm hF); have HF := Lib.hid (HF.out.trans hF)
          clear e2 hF hF2 hB2 hs2
          go_upto_region 12 with fail
          rw [E2.out]
          clear E2
          go_loopw [5, 6] (fun v i wq => ∃ j : Nat, j ≤ n ∧ i = .int .i64 j ∧ Bytes wq v ((xs.take j).foldl stepW []) ∧ Fr [] w2 wq) (fun _ i _ => n - (intOf i).toNat)
          case atStart => exact ⟨0, Nat.zero_le _, rfl, HB0.out, Fr.refl _ _⟩
          case round =>
            clear HB0
            obtain ⟨j, hj, rfl, hb, hF⟩ := hrel
            rename World => wq
            obtain ⟨ha, hk, e9⟩ := Sl.shape hb
            rw [List.length_map] at e9
            subst e9
            obtain ⟨out, hout⟩ : ∃ l, (xs.take j).foldl stepW [] = l := ⟨_, rfl⟩
            rw [hout] at hb ⊢
            obtain ⟨L, hL⟩ : ∃ L, out.length = L := ⟨_, rfl⟩
            rw [hL] at hb ⊢
            have HOU := Lib.hid hout; have HLN := Lib.hid hL
            have HVB := Lib.hid hb; have HFW := Lib.hid hF
            have HL := Lib.hid (HL.out.keep Rep.itm hF); have HF := Lib.hid (HF.out.trans hF)
            clear hF hb hout hL
            by_cases hlt : j < n
            · by_cases h15 : L ≤ 1500
              · have t0 : decide (((L : Nat) : Int) ≤ 1500) = true := decide_eq_true (by omega)
                have t2 : decide (L ≤ 1500) = true := decide_eq_true h15
                obtain ⟨b, o, c, y, B1, ea, -, hy, ⟨vr, vc, vs, Bc, rfl, hr, hc, hs, -⟩, -, hrg⟩ := HL.out.at_ Rep.itm (i := j) hlt
                cases ea
                obtain ⟨ar, cr, rfl⟩ := hr.shape
                obtain ⟨ac, cc, rfl⟩ := hc.shape
                obtain ⟨as_, cs, rfl⟩ := hs.shape
                have HRG := Lib.hid hrg; have HR := Lib.hid hr; have HC := Lib.hid hc; have HS := Lib.hid hs
                have HYM := Lib.hid (List.mem_of_getElem? hy)
                have HYZ := Lib.hid (HZ.out y HYM.out)
                have HTK : Hid (xs.take (j + 1) = xs.take j ++ [y]) := Lib.hid (by rw [List.take_add_one, hy]; rfl)
                clear hrg hy hr hc hs
                have HST : Hid ((xs.take (j + 1)).foldl stepW [] = [out, itemW y].flatten) := Lib.hid (by
                  rw [HTK.out, List.foldl_append, HOU.out]
                  show stepW out y = _
                  unfold stepW
                  rw [if_neg (by rw [HLN.out]; omega)]
                  simp)
                have HRY : Hid (right7 y = true) := Lib.hid (List.all_eq_true.1 HALL.out y HYM.out)
                go_wp2_with (refine wpList_load_midA rfl 52 (.tmp 49) rfl b0 (o0 + j * 10) rfl (itc y (.slice ar y.reps.length cr) (.slice ac y.chks.length cc) (.slice as_ y.srcs.length cs)) _ HRG.out Try.underlying52 rfl (by kernel_rfl) ?_)
                refine (r07one_any HR.out HC.out HS.out HYZ.out HRY.out).mono ?_
                rintro e w4 ⟨v4, rfl, hO, hF4⟩
                obtain ⟨a4, n4, c4, rfl⟩ := Sl.isSlice hO
                have HO := Lib.hid hO; have HF4 := Lib.hid hF4
                clear hO hF4 t0 t2
                go_wp2_with fail
                refine (Join_rows (brows_made (vs := [.slice ha L hk, .slice a4 n4 c4]) (ls := [out, itemW y]) 22 2 ⟨Sl.keep HVB.out HF4.out, HO.out, trivial⟩ rfl (by unfold maxLen; omega)) (by have h1 := HLN.out; have h2 := bodyW_le HYZ.out; simp only [List.flatten_cons, List.flatten_nil, List.length_append, List.length_nil]; omega) (by simp)).mono ?_
                rintro e w5 ⟨v5, rfl, hO5, hF5⟩
                rw [← HST.out] at hO5
                have HO5 := Lib.hid hO5; have HF5 := Lib.hid (HFW.out.trans (HF4.out.trans (((Fr.refl [] w4).alloc _).trans hF5)))
                clear hO5 hF5
                go_wp2_with fail
                go_roundw
                case rel =>
                  repeat apply Exists.intro
                  refine ⟨⟨j + 1, by omega, ?_, HO5.out, HF5.out⟩, rfl⟩
                  go_num
                case measure => simp [intOf]; omega
              · have t0 : decide (((L : Nat) : Int) ≤ 1500) = false := decide_eq_false (by omega)
                have t2 : decide (L ≤ 1500) = false := decide_eq_false h15
                have HFE : Hid (xs.foldl stepW [] = out) := Lib.hid (by rw [fold_rest (j := j) (by rw [HOU.out, HLN.out]; omega), HOU.out])
                clear h15
                go_upto_region 15 with fail
                clear t0 t2
                have HOUT : Hid (Bytes wq (.slice ha L hk) out) := HVB
                by_cases hlong : 1500 < L
                · have t1 : (1500 : Int) < ((L : Nat) : Int) := by omega
                  have HX : Hid (write7 xs = .error 2) := Lib.hid (by rw [HW.out, HFE.out, if_pos (by rw [HLN.out]; exact hlong)])
                  clear hlong
                  go_wp2_with fail
                  go_ret2
                  exact RW7.err HX.out (by decide) rfl (HF.out)
                · have t1 : ¬ ((1500 : Int) < ((L : Nat) : Int)) := by omega
                  have HX : Hid (write7 xs = .ok out) := Lib.hid (by rw [HW.out, HFE.out, if_neg (by rw [HLN.out]; exact hlong)])
                  clear hlong
                  go_wp2_with fail
                  go_ret2
                  exact RW7.ok HX.out rfl HOUT.out HF.out
            · obtain rfl : n = j := by omega
              have HFE : Hid (xs.foldl stepW [] = out) := Lib.hid (by have h1 := HOU.out; rwa [List.take_of_length_le (by rw [HN.out]; exact Nat.le_refl _)] at h1)
              go_upto_region 15 with fail
              have HOUT : Hid (Bytes wq (.slice ha L hk) out) := HVB
              by_cases hlong : 1500 < L
              · have t1 : (1500 : Int) < ((L : Nat) : Int) := by omega
                have HX : Hid (write7 xs = .error 2) := Lib.hid (by rw [HW.out, HFE.out, if_pos (by rw [HLN.out]; exact hlong)])
                clear hlong
                go_wp2_with fail
                go_ret2
                exact RW7.err HX.out (by decide) rfl (HF.out)
              · have t1 : ¬ ((1500 : Int) < ((L : Nat) : Int)) := by omega
                have HX : Hid (write7 xs = .ok out) := Lib.hid (by rw [HW.out, HFE.out, if_neg (by rw [HLN.out]; exact hlong)])
                clear hlong
                go_wp2_with fail
                go_ret2
                exact RW7.ok HX.out rfl HOUT.out HF.out
end Go.Proofs.Ytcmpjkopdjncdaa

/- RTCP: two compound packets, one behind the other. No program in sight. -/
namespace Go.Proofs.Ytcmpjkopdjncdaa

theorem write7_parts {xs : List Itm} {l : List UInt8} (h : write7 xs = .ok l) : ∃ x, xs.head? = some x ∧ begins7 x = true ∧ xs.all right7 = true ∧ l = xs.flatMap itemW ∧ l.length ≤ 1500 := by
  rw [write7_eq] at h
  split at h
  · cases h
  · rename_i x hx
    split at h
    · rename_i hb
      split at h
      · rename_i hr
        split at h
        · cases h
        · rename_i hl
          cases h
          exact ⟨x, hx, hb, hr, rfl, by omega⟩
      · cases h
    · cases h
/-- Both together are parsed as the items of both, and written as both, if they aren't too long. -/
theorem joins7 {xs ys : List Itm} {l1 l2 : List UInt8} (h1 : write7 xs = .ok l1) (h2 : write7 ys = .ok l2) :
    (1500 < (l1 ++ l2).length → parse7 (l1 ++ l2) = .error 2) ∧ (¬ 1500 < (l1 ++ l2).length → parse7 (l1 ++ l2) = .ok (xs ++ ys) ∧ write7 (xs ++ ys) = .ok (l1 ++ l2)) := by
  obtain ⟨x, a1, a2, a3, rfl, -⟩ := write7_parts h1
  obtain ⟨y, b1, b2, b3, rfl, -⟩ := write7_parts h2
  refine ⟨fun h => ?_, fun h => ?_⟩
  · unfold parse7
    rw [if_pos h]
  · have hh : (xs ++ ys).head? = some x := by rw [List.head?_append, a1]; rfl
    have hr : (xs ++ ys).all right7 = true := by rw [List.all_append, a3, b3]; rfl
    have hf : xs.flatMap itemW ++ ys.flatMap itemW = (xs ++ ys).flatMap itemW := by rw [List.flatMap_append]
    rw [hf] at h ⊢
    refine ⟨parse_fwd hh a2 (List.all_eq_true.1 hr) (by omega), ?_⟩
    rw [write7_eq, hh]
    simp only
    rw [if_pos a2, if_pos hr, if_neg h]
end Go.Proofs.Ytcmpjkopdjncdaa
