import Derived.Test.YtcmpjkopdjncdaaMw46
import Derived.Test.YtcmpjkopdjncdaaMw47
import Derived.Test.YtcmpjkopdjncdaaMw42
/- The walk of RtcpBack (printed by gen_rtback.py). -/
namespace Go.Proofs.Ytcmpjkopdjncdaa
open Go.RowKit

theorem flat_le {α : Type} (f : α → List UInt8) (K : Nat) : ∀ (xs : List α), (∀ x ∈ xs, (f x).length ≤ K) → (xs.flatMap f).length ≤ xs.length * K
  | [], _ => by simp
  | x :: xs, h => by
    have h1 := h x (by simp)
    have h2 := flat_le f K xs (fun y hy => h y (by simp [hy]))
    rw [List.flatMap_cons, List.length_append, List.length_cons, Nat.succ_mul]
    omega
theorem few_sz {x : Itm} (h : few7 x = true) (q : QItm x) : Sz7 x := by
  unfold few7 at h
  simp only [Bool.and_eq_true, decide_eq_true_eq, List.all_eq_true] at h
  obtain ⟨⟨⟨⟨h1, h2⟩, h3⟩, h4⟩, h5⟩ := h
  have hc : ∀ c ∈ x.chks, c.texts.length ≤ 10 ∧ ∀ t ∈ c.texts, t.2.length ≤ 300 := fun c hc => by
    have := h5 c hc
    unfold fewC at this
    simp only [Bool.and_eq_true, decide_eq_true_eq, List.all_eq_true] at this
    exact ⟨this.1, fun t ht => by have := this.2 t ht; unfold fewT at this; simpa using this⟩
  have b1 := flat_le rptW 24 x.reps (fun r _ => by unfold rptW rptHead rptTail; simp only [List.length_append, beN_len, List.flatMap_cons, List.flatMap_nil, List.length_singleton, List.length_nil]; omega)
  have b2 := flat_le chkW 4000 x.chks (fun c hcm => by
    have h6 := flat_le txtW 302 c.texts (fun t ht => by have := (hc c hcm).2 t ht; unfold txtW; simp only [List.length_append, List.length_cons, List.length_nil]; omega)
    have h7 := (hc c hcm).1
    have h8 : c.texts.length * 302 ≤ 10 * 302 := Nat.mul_le_mul_right _ h7
    unfold chkW chkW0 padOf
    simp only [List.length_append, List.length_replicate, beN_len, List.length_singleton]
    omega)
  have b3 := srcs_len x.srcs
  have b4 : (hd7 x).length ≤ 28 := by
    unfold hd7
    split
    · simp only [List.length_append, beN_len]; omega
    · split
      · rw [beN_len]; omega
      · simp
  have b5 : (body3 x).length = (hd7 x).length + (x.reps.flatMap rptW).length + (x.chks.flatMap chkW).length + (x.srcs.flatMap srcW).length := by unfold body3; simp only [List.length_append]
  exact ⟨⟨by omega, by omega, by omega⟩, fun c hcm => by have := (hc c hcm).1; omega, by omega, fun r hr => q.1 r hr⟩
theorem fews_sz {xs : List Itm} (h : fews xs = true) (q : ∀ x ∈ xs, QItm x) : (∀ x ∈ xs, Sz7 x) ∧ xs.length ≤ 8 := by
  unfold fews at h
  simp only [Bool.and_eq_true, decide_eq_true_eq, List.all_eq_true] at h
  exact ⟨fun x hx => few_sz (h.1 x hx) (q x hx), h.2⟩
set_option maxRecDepth 100000 in
set_option maxHeartbeats 8000000 in
theorem RtcpBack_any {w : World} {v0 v : Value} {xs : List Itm} {B : List Nat} {l : List UInt8} (h : SlEls 10 ItR w v0 xs B) (hq : ∀ x ∈ xs, QItm x) (hm : xs.length ≤ 1099511627776) (hl : Bytes w v l) : Calls Try.prog 5 #[v0, v] w fun e w' => e = .returned (.bool true) ∧ Fr [] w w' := by
  obtain ⟨a, cap, rfl⟩ := hl.shape
  obtain ⟨a0, cap0, rfl⟩ := h.shape
  simp only [List.length_map] at hl ⊢
  have HL := Lib.hid hl; have HX := Lib.hid h; have HQ := Lib.hid hq; have HM := Lib.hid hm
  clear hl h hq hm
  obtain ⟨n, hn⟩ : ∃ n, l.length = n := ⟨_, rfl⟩
  rw [hn] at HL ⊢
  have HN := Lib.hid hn
  clear hn
  go_enter Try.func5, Try.ntmps5
  go_wp2_with fail
  refine l07alive_any.mono ?_
  rintro e w1 ⟨rfl, hF⟩
  have HF := Lib.hid hF; have HL := Lib.hid (Sl.keep HL.out hF); have HX := Lib.hid (HX.out.keep Rep.itm hF)
  clear hF
  go_wp2_with fail
  refine (l07few_any HX.out HQ.out HM.out).mono ?_
  rintro e w2 ⟨rfl, hF⟩
  have HL := Lib.hid (Sl.keep HL.out hF); have HX := Lib.hid (HX.out.keep Rep.itm hF); have HF := Lib.hid (HF.out.trans hF)
  clear hF
  cases hfw : fews xs with
  | false =>
    clear hfw
    go_wp2_with fail
    go_ret
    exact ⟨rfl, HF.out⟩
  | true =>
    have HZ := Lib.hid (fews_sz hfw HQ.out)
    clear hfw
    by_cases hn : n ≤ 3000
    rotate_left
    · have t0 : (3000 : Int) < (n : Int) := by omega
      clear hn
      go_wp2_with fail
      go_ret
      exact ⟨rfl, HF.out⟩
    have t0 : ¬ ((3000 : Int) < (n : Int)) := by omega
    clear hn
    go_wp2_with fail
    clear t0
    refine (tWrite_any HX.out HZ.out.1 (by have := HZ.out.2; omega)).mono ?_
    rintro e w3 (⟨l2, v2, hw, rfl, hO2, hF⟩ | ⟨c, hw, hc, rfl, hF⟩)
    · obtain ⟨a2, n2, c2, rfl⟩ := hO2.isSlice
      obtain rfl := hO2.len
      have HB := Lib.hid (write7_ok hw).1; have HO := Lib.hid hO2.bytes; have HL := Lib.hid (Sl.keep HL.out hF); have HX := Lib.hid (HX.out.keep Rep.itm hF); have HF := Lib.hid (HF.out.trans hF)
      have HPB := Lib.hid (parse7_back (write7_ok hw).1)
      clear hw hO2 hF
      go_wp2_with fail
      refine (tParse_any HO.out).mono ?_
      rintro e w4 (⟨ys, u, B2, hp, rfl, hO, -, hF⟩ | ⟨c, hp, hc, rfl, hF⟩)
      rotate_left
      · have h1 := HB.out
        rw [hp] at h1
        cases h1
      obtain rfl : xs = ys := by
        have h1 := HB.out
        rw [hp] at h1
        cases h1
        rfl
      obtain ⟨au, cu, rfl⟩ := hO.shape
      have HY := Lib.hid hO.sl; have HO := Lib.hid (Sl.keep HO.out hF); have HL := Lib.hid (Sl.keep HL.out hF); have HX := Lib.hid (HX.out.keep Rep.itm hF); have HF := Lib.hid (HF.out.trans hF)
      clear hp hO hF
      go_wp2_with fail
      refine (l07all_any HY.out (all_hyps HZ.out.1) (by have := HZ.out.2; omega)).mono ?_
      rintro e w5 ⟨u1, Bu1, rfl, hU, hF⟩
      have HU := Lib.hid hU.sl; have HL := Lib.hid (Sl.keep HL.out hF); have HX := Lib.hid (HX.out.keep Rep.itm hF); have HF := Lib.hid (HF.out.trans hF)
      clear hU hF
      go_wp2_with fail
      refine (l07all_any HX.out (all_hyps HZ.out.1) (by have := HZ.out.2; omega)).mono ?_
      rintro e w5a ⟨u2, Bu2, rfl, hU, hF⟩
      have HU2 := Lib.hid hU.sl; have HU := Lib.hid (HU.out.keep Rep.itm hF); have HL := Lib.hid (Sl.keep HL.out hF); have HF := Lib.hid (HF.out.trans hF)
      clear hU hF
      go_wp2_with fail
      refine (l07same_any HU.out HU2.out HZ.out.1 HZ.out.1 (by have := HZ.out.2; omega) (by have := HZ.out.2; omega)).mono ?_
      rintro e w5b ⟨rfl, hF⟩
      have HL := Lib.hid (Sl.keep HL.out hF); have HF := Lib.hid (HF.out.trans hF)
      clear hF
      simp only [beq_self_eq_true]
      obtain ⟨m, hm⟩ : ∃ m, l2.length = m := ⟨_, rfl⟩
      rw [hm]
      have m4 : ((m : Nat) : Int).tmod 4 = 0 := by
        have h4 := HPB.out.2.2.1
        rw [hm] at h4
        show ((m % 4 : Nat) : Int) = 0
        omega
      have m15 : ¬ ((1500 : Int) < (m : Int)) := by have := HPB.out.2.1; omega
      clear hm
      go_wp2_with fail
      clear m4 m15
      refine (tParse_any HL.out).mono ?_
      rintro e w6 (⟨ys, u, B2, hp, rfl, hO, -, hF⟩ | ⟨c, hp, hc, rfl, hF⟩)
      · obtain ⟨au, cu, rfl⟩ := hO.shape
        have HY := Lib.hid hO.sl; have HP := Lib.hid (parse7_back hp); have HPL := Lib.hid (parse7_len hp); have HL := Lib.hid (Sl.keep HL.out hF); have HF := Lib.hid (HF.out.trans hF)
        clear hp hO hF
        go_wp2_with fail
        refine (tWrite_any HY.out HP.out.2.2.2.1 (by have := HPL.out; omega)).mono ?_
        rintro e w7 (⟨l2, v2, hw, rfl, hO2, hF⟩ | ⟨c, hw, hc, rfl, hF⟩)
        · obtain rfl : l = l2 := by
            have h1 := HP.out.1
            rw [hw] at h1
            cases h1
            rfl
          have HO2 := Lib.hid hO2.bytes; have HL := Lib.hid (Sl.keep HL.out hF); have HF := Lib.hid (HF.out.trans hF)
          clear hw hO2 hF
          go_wp2_with fail
          refine (RSame_any HO2.out HL.out (by have := HP.out.2.1; omega) (by have := HP.out.2.1; omega)).mono ?_
          rintro e w8 ⟨rfl, hF⟩
          have HF := Lib.hid (HF.out.trans hF)
          clear hF
          simp only [beq_self_eq_true]
          go_wp2_with fail
          go_ret
          exact ⟨rfl, HF.out⟩
        · have h1 := HP.out.1
          rw [hw] at h1
          cases h1
      · have HF := Lib.hid (HF.out.trans hF)
        have hcn : (c == 0) = false := beq_eq_false_iff_ne.2 hc
        have hcm : (c != 0) = true := bne_iff_ne.2 hc
        clear hp hF
        go_wp2_with fail
        go_ret
        exact ⟨rfl, HF.out⟩
    · have hcn : (c == 0) = false := beq_eq_false_iff_ne.2 hc
      have HL := Lib.hid (Sl.keep HL.out hF); have HF := Lib.hid (HF.out.trans hF)
      clear hw hF
      go_wp2_with fail
      clear hcn hc
      refine (tParse_any HL.out).mono ?_
      rintro e w6 (⟨ys, u, B2, hp, rfl, hO, -, hF⟩ | ⟨c3, hp, hc, rfl, hF⟩)
      · obtain ⟨au, cu, rfl⟩ := hO.shape
        have HY := Lib.hid hO.sl; have HP := Lib.hid (parse7_back hp); have HPL := Lib.hid (parse7_len hp); have HL := Lib.hid (Sl.keep HL.out hF); have HF := Lib.hid (HF.out.trans hF)
        clear hp hO hF
        go_wp2_with fail
        refine (tWrite_any HY.out HP.out.2.2.2.1 (by have := HPL.out; omega)).mono ?_
        rintro e w7 (⟨l2, v2, hw, rfl, hO2, hF⟩ | ⟨c, hw, hc, rfl, hF⟩)
        · obtain rfl : l = l2 := by
            have h1 := HP.out.1
            rw [hw] at h1
            cases h1
            rfl
          have HO2 := Lib.hid hO2.bytes; have HL := Lib.hid (Sl.keep HL.out hF); have HF := Lib.hid (HF.out.trans hF)
          clear hw hO2 hF
          go_wp2_with fail
          refine (RSame_any HO2.out HL.out (by have := HP.out.2.1; omega) (by have := HP.out.2.1; omega)).mono ?_
          rintro e w8 ⟨rfl, hF⟩
          have HF := Lib.hid (HF.out.trans hF)
          clear hF
          simp only [beq_self_eq_true]
          go_wp2_with fail
          go_ret
          exact ⟨rfl, HF.out⟩
        · have h1 := HP.out.1
          rw [hw] at h1
          cases h1
      · have HF := Lib.hid (HF.out.trans hF)
        have hcn : (c3 == 0) = false := beq_eq_false_iff_ne.2 hc
        have hcm : (c3 != 0) = true := bne_iff_ne.2 hc
        clear hp hF
        go_wp2_with fail
        go_ret
        exact ⟨rfl, HF.out⟩
end Go.Proofs.Ytcmpjkopdjncdaa
