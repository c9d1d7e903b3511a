/- The walks of confluxref01.Add, SameWords and confluxref05.Same (printed by gen_r5same.py). -/
import Derived.Test.YticoongkfhkjgaaRef1
import Derived.Test.YticoongkfhkjgaaRemapPlain
namespace Go.Proofs.Yticoongkfhkjgaa
open Go.RowKit

set_option maxHeartbeats 400000 in
theorem RSameWords_any {w : World} {v1 v2 : Value} {l1 l2 : List UInt32} (h1 : Words w v1 l1) (h2 : Words w v2 l2) (hl1 : l1.length ≤ 1099511627776) (hl2 : l2.length ≤ 1099511627776) :
    Calls Try.prog 94 #[v1, v2] w fun e w' => e = .returned (.bool (l1 == l2)) ∧ Fr [] w w' := by
  obtain ⟨a1, c1, rfl⟩ := h1.shape
  obtain ⟨a2, c2, rfl⟩ := h2.shape
  simp only [List.length_map] at h1 h2 ⊢
  have H1 := Lib.hid h1; have H2 := Lib.hid h2
  clear h1 h2
  by_cases hn : l1.length = l2.length
  · have HN := Lib.hid hn
    have t0 : (((l1.length : Nat) : Int) != ((l2.length : Nat) : Int)) = false := by rw [hn]; simp
    clear hn
    go_enter Try.func94, Try.ntmps94
    go_wp2_with fail
    clear t0
    go_loopw [5] (fun i wr => ∃ j : Nat, j ≤ l1.length ∧ i = .int .i64 j ∧ l1.take j = l2.take j ∧ Fr [] w wr) (fun i _ => l1.length - (intOf i).toNat)
    case atStart => exact ⟨0, Nat.zero_le _, rfl, rfl, Fr.refl _ _⟩
    case round =>
      obtain ⟨j, hj, rfl, htk, hF⟩ := hrel
      have HT := Lib.hid htk; have HF := Lib.hid hF
      clear htk hF
      by_cases hlt : j < l1.length
      · have hlt2 : j < l2.length := by have := HN.out; omega
        obtain ⟨b1, o1, ea, hb1, hc1⟩ := H1.out.at_ hlt
        obtain ⟨b2, o2, eb, hb2, hc2⟩ := H2.out.at_ hlt2
        subst ea eb
        have d1 := HF.out.cellSome (hc1 j (W32 l1[j]) (by rw [List.getElem?_map, List.getElem?_eq_getElem hlt]; rfl)) (by simp)
        have d2 := HF.out.cellSome (hc2 j (W32 l2[j]) (by rw [List.getElem?_map, List.getElem?_eq_getElem hlt2]; rfl)) (by simp)
        unfold W32 at d1 d2
        clear hc1 hc2 hb1 hb2
        by_cases he : l1[j] = l2[j]
        · have t1 : (((l1[j].toNat : Nat) : Int) != ((l2[j].toNat : Nat) : Int)) = false := by rw [he]; simp
          have HE := Lib.hid he
          clear he
          generalize hq1 : l1[j].toNat = q1 at *
          generalize hq2 : l2[j].toNat = q2 at *
          clear hq1 hq2
          go_wp2_with fail
          go_quiet (fail)
          go_wp2_with fail
          go_roundw
          case rel => exact ⟨j + 1, by omega, by go_num, by rw [List.take_succ_eq_append_getElem hlt, List.take_succ_eq_append_getElem hlt2, HT.out, HE.out], HF.out.drewN _⟩
          case measure => simp [intOf]; omega
        · have t1 : (((l1[j].toNat : Nat) : Int) != ((l2[j].toNat : Nat) : Int)) = true := by
            simp only [bne_iff_ne, ne_eq, Int.natCast_inj]
            exact fun h => he (UInt32.toNat_inj.1 h)
          have HE := Lib.hid he
          clear he
          generalize hq1 : l1[j].toNat = q1 at *
          generalize hq2 : l2[j].toNat = q2 at *
          clear hq1 hq2
          go_wp2_with fail
          go_quiet (fail)
          go_wp2_with fail
          go_ret
          refine ⟨ret_bool ?_, HF.out.drewN _⟩
          symm
          simp only [beq_eq_false_iff_ne, ne_eq]
          intro h
          subst h
          exact HE.out rfl
      · go_wp2_with fail
        go_ret
        refine ⟨ret_bool ?_, HF.out⟩
        symm
        have := HT.out
        rw [List.take_of_length_le (by omega), List.take_of_length_le (by have := HN.out; omega)] at this
        rw [this]
        simp
  · have t0 : (((l1.length : Nat) : Int) != ((l2.length : Nat) : Int)) = true := by simp; omega
    have HN := Lib.hid hn
    clear hn
    go_enter Try.func94, Try.ntmps94
    go_wp2_with fail
    go_ret
    refine ⟨ret_bool ?_, Fr.refl _ _⟩
    symm
    simp only [beq_eq_false_iff_ne, ne_eq]
    intro h
    subst h
    exact HN.out rfl

theorem RAdd_any (a : UInt16) (n : Int) (w : World) :
    Calls Try.prog 58 #[.int .u16 (a.toNat : Nat), .int .i64 n] w fun e w' => e = .returned (.int .u16 ((add16 a n).toNat : Nat)) ∧ w = w' := by
  have ha := a.toNat_lt
  have h1 := Int.emod_nonneg n (show (65536 : Int) ≠ 0 by omega)
  have h2 := Int.emod_lt_of_pos n (show (0 : Int) < 65536 by omega)
  have ht := Int.tmod_lt_of_pos n (show (0 : Int) < 65536 by omega)
  have htn : -65536 < n.tmod 65536 := by have := Int.lt_tmod_of_pos n (show (0 : Int) < 65536 by omega); omega
  have he : n.tmod 65536 = n % 65536 ∨ n.tmod 65536 = n % 65536 - 65536 := by
    rw [Int.tmod_eq_emod]
    split <;> simp
  have hw1 : IntKind.i64.wrap (n.tmod 65536) = n.tmod 65536 := IntWalk.i64_in _ (by omega)
  have hfin : ∀ m : Int, m = n % 65536 → (((a.toNat : Int) + m).tmod 65536) % 65536 = ((add16 a n).toNat : Nat) := by
    intro m hm
    subst hm
    rw [add16_nat, Int.tmod_eq_emod_of_nonneg (by omega)]
    omega
  have HFIN := Lib.hid hfin
  have HE := Lib.hid he
  clear hfin he
  by_cases hneg : n.tmod 65536 < 0
  · go_enter Try.func58, Try.ntmps58
    go_wp2
    go_ret
    refine ⟨ret_int ?_, rfl⟩
    rw [add16_nat]
    rcases HE.out with h | h <;> omega
  · go_enter Try.func58, Try.ntmps58
    go_wp2
    go_ret
    refine ⟨ret_int ?_, rfl⟩
    rw [add16_nat]
    rcases HE.out with h | h <;> omega

set_option maxRecDepth 100000 in
set_option maxHeartbeats 4000000 in
theorem R5Same_eq {w : World} {b1 b2 : Nat} {v1 v2 : Value} {p : Pkt} (hV1 : PktV w b1 v1 p) (hV2 : PktV w b2 v2 p) (hS : p.Small) :
    Calls Try.prog 59 #[v1, v2] w fun e w' => e = .returned (.bool true) ∧ Fr [] w w' := by
  have HV1 := Lib.hid hV1; have HV2 := Lib.hid hV2; have HS := Lib.hid hS
  obtain ⟨a1, c1, a2, c2, a3, c3, a4, c4, rfl, hc1, hx1, hl1, hd1⟩ := hV1.open_
  obtain ⟨e1, g1, e2, g2, e3, g3, e4, g4, rfl, hc2, hx2, hl2, hd2⟩ := hV2.open_
  obtain ⟨w2, eq2, hF2, hB2, hD2, hs2⟩ := two_new w (pc p.marker p.pt p.seq.toNat p.ts.toNat p.ssrc.toNat (.slice a1 p.csrc.length c1) p.hasExt p.profile.toNat (.slice a2 p.ext.length c2) (.slice a3 p.payload.length c3) (.slice a4 p.pad.length c4)) 67 (pc p.marker p.pt p.seq.toNat p.ts.toNat p.ssrc.toNat (.slice e1 p.csrc.length g1) p.hasExt p.profile.toNat (.slice e2 p.ext.length g2) (.slice e3 p.payload.length g3) (.slice e4 p.pad.length g4)) 67
  have E2 := Lib.hid eq2
  have HF := Lib.hid hF2; have HB := Lib.hid hB2; have HD := Lib.hid hD2
  have H1 := Lib.hid hc1; have H2 := Lib.hid hx1; have H3 := Lib.hid hl1; have H4 := Lib.hid hd1
  have K1 := Lib.hid hc2; have K2 := Lib.hid hx2; have K3 := Lib.hid hl2; have K4 := Lib.hid hd2
  clear hV1 hV2 hS eq2 hF2 hB2 hD2 hs2 hc1 hx1 hl1 hd1 hc2 hx2 hl2 hd2
  go_enter Try.func59, Try.ntmps59
  obtain ⟨x0, x1, x2, x3, x4, x5, x6, x7, x8, x9, x10⟩ := HB.out.pcells
  obtain ⟨y0, y1, y2, y3, y4, y5, y6, y7, y8, y9, y10⟩ := HD.out.pcells
  have eqw := E2.out
  go_wp2_with fail
  clear eqw E2 x0 x1 x2 x3 x4 x5 x6 x7 x8 x9 x10 y0 y1 y2 y3 y4 y5 y6 y7 y8 y9 y10
  refine (RSameWords_any (Sl.keep H1.out HF.out) (Sl.keep K1.out HF.out) (by have := HS.out.1; omega) (by have := HS.out.1; omega)).mono ?_
  rintro e w3 ⟨rfl, hF⟩
  rw [show (p.csrc == p.csrc) = true by simp]
  have HF := Lib.hid (HF.out.trans hF); have HB := Lib.hid (HB.out.keep hF); have HD := Lib.hid (HD.out.keep hF)
  clear hF
  obtain ⟨x0, x1, x2, x3, x4, x5, x6, x7, x8, x9, x10⟩ := HB.out.pcells
  obtain ⟨y0, y1, y2, y3, y4, y5, y6, y7, y8, y9, y10⟩ := HD.out.pcells
  go_wp2_with fail
  clear x0 x1 x2 x3 x4 x5 x6 x7 x8 x9 x10 y0 y1 y2 y3 y4 y5 y6 y7 y8 y9 y10
  refine (RSame_any (Sl.keep H2.out HF.out) (Sl.keep K2.out HF.out) (by have := HS.out.2.1; omega) (by have := HS.out.2.1; omega)).mono ?_
  rintro e w4 ⟨rfl, hF⟩
  rw [show (p.ext == p.ext) = true by simp]
  have HF := Lib.hid (HF.out.trans hF); have HB := Lib.hid (HB.out.keep hF); have HD := Lib.hid (HD.out.keep hF)
  clear hF
  obtain ⟨x0, x1, x2, x3, x4, x5, x6, x7, x8, x9, x10⟩ := HB.out.pcells
  obtain ⟨y0, y1, y2, y3, y4, y5, y6, y7, y8, y9, y10⟩ := HD.out.pcells
  go_wp2_with fail
  clear x0 x1 x2 x3 x4 x5 x6 x7 x8 x9 x10 y0 y1 y2 y3 y4 y5 y6 y7 y8 y9 y10
  refine (RSame_any (Sl.keep H3.out HF.out) (Sl.keep K3.out HF.out) (by have := HS.out.2.2.1; omega) (by have := HS.out.2.2.1; omega)).mono ?_
  rintro e w5 ⟨rfl, hF⟩
  rw [show (p.payload == p.payload) = true by simp]
  have HF := Lib.hid (HF.out.trans hF); have HB := Lib.hid (HB.out.keep hF); have HD := Lib.hid (HD.out.keep hF)
  clear hF
  obtain ⟨x0, x1, x2, x3, x4, x5, x6, x7, x8, x9, x10⟩ := HB.out.pcells
  obtain ⟨y0, y1, y2, y3, y4, y5, y6, y7, y8, y9, y10⟩ := HD.out.pcells
  go_wp2_with fail
  clear x0 x1 x2 x3 x4 x5 x6 x7 x8 x9 x10 y0 y1 y2 y3 y4 y5 y6 y7 y8 y9 y10
  refine (RSame_any (Sl.keep H4.out HF.out) (Sl.keep K4.out HF.out) (by have := HS.out.2.2.2; omega) (by have := HS.out.2.2.2; omega)).mono ?_
  rintro e w6 ⟨rfl, hF⟩
  rw [show (p.pad == p.pad) = true by simp]
  go_wp2_with fail
  go_ret
  exact ⟨rfl, HF.out.trans hF⟩
end Go.Proofs.Yticoongkfhkjgaa
