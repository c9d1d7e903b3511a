import Derived.Test.YtngfenjekgdfbaaMu19
import Derived.Test.YtngfenjekgdfbaaMu16
import Derived.Test.YtngfenjekgdfbaaMu1
/- The walks of equate.Peelable; of shape.survives, Burst (printed by gen_sh14.py). -/
namespace Go.Proofs.Ytngfenjekgdfbaa
open Go.RowKit Go.Maps

set_option maxRecDepth 100000 in
set_option maxHeartbeats 4000000 in
theorem qPeelable_any {w : World} {v1 v2 v3 : Value} {lost known : List Int} {eqs : List (List Int)} (h1 : Ints w v1 lost) (h2 : Ints w v2 known) (h3 : IRows w v3 eqs) (hi0 : ∀ x ∈ lost, In64 x) (hi1 : ∀ x ∈ known, In64 x) (hi2 : ∀ r ∈ eqs, ∀ x ∈ r, In64 x) (hz : SzS known eqs) (hzl : lost.length ≤ 1073741824) :
    Calls Try.prog 46 #[v1, v2, v3] w fun e w' => e = .returned (.bool (peelableI lost known eqs)) ∧ Fr [] w w' := by
  obtain ⟨a1, c1, rfl⟩ := h1.shape
  obtain ⟨a2, c2, rfl⟩ := h2.shape
  have hlen2 := h2.len
  have HL1 := Lib.hid h1; have HL2 := Lib.hid h2; have HL3 := Lib.hid h3; have HZ := Lib.hid hz
  have HI0 := Lib.hid hi0; have HI1 := Lib.hid hi1; have HI2 := Lib.hid hi2
  have hlx := hz.lx
  clear h1 h2 h3 hz hi0 hi1 hi2
  go_enter Try.func46, Try.ntmps46
  go_wp2_with fail
  refine (qSet_any HL1.out HI0.out hzl).mono ?_
  rintro e w1 ⟨mb, rfl, hmb, hM, hF⟩
  have HM := Lib.hid hM; have HF := Lib.hid hF
  have HW1 : Hid (mb < w1.heap.size) := Lib.hid hM.lt
  clear hM hF
  go_upto_region 4 with fail
  go_loopw [8, 18] (fun ov iv wr => ∃ (j : Nat) (ys : List Int), j ≤ known.length ∧ iv = .int .i64 j ∧ ys = ((known.take j).filter fun y => !lost.contains y) ∧ OwnV wr w1.heap.size 3 (Value.int .i64) ov ys ∧ Fr [] w1 wr) (fun _ iv _ => known.length - (intOf iv).toNat)
  case atStart => exact ⟨0, [], by omega, rfl, rfl, OwnV.nil _ _ _ _, Fr.refl _ _⟩
  case round =>
    obtain ⟨j, ys, hj, rfl, hys, hO, hF⟩ := hrel
    obtain ⟨ao, co, rfl⟩ := hO.shape
    have HLO : Hid (ys.length ≤ 1073741824) := Lib.hid (by have := HZ.out.lx; have h := List.length_filter_le (fun y => !lost.contains y) (known.take j); rw [List.length_take, ← hys] at h; omega)
    have HYS := Lib.hid hys
    have HO := Lib.hid hO; have HFQ := Lib.hid hF
    clear hys hO hF
    by_cases hlt : j < known.length
    · obtain ⟨b, o, ea, hb, -⟩ := Sl.at_ HL2.out hlt
      subst ea
      have d := HFQ.out.cellSome (HF.out.cellSome (Ints.at_ HL2.out j hlt) (by simp)) (by simp)
      have HT : Hid (known.take (j + 1) = known.take j ++ [known[j]]) := Lib.hid (List.take_succ_eq_append_getElem hlt)
      have HWF : Hid ((Lit.int .i64 known[j]).wf = true) := Lib.hid (HI1.out _ (List.getElem_mem hlt)).wf
      generalize known[j] = y at *
      have HSN := Lib.hid (filter_snoc (fun y => !lost.contains y) (known.take j) y)
      rw [← HT.out, ← HYS.out] at HSN
      have hrun := seen_run (HM.out.fr HFQ.out (by simp)) HWF.out
      by_cases hc : y ∈ lost
      · rw [decide_eq_true hc] at hrun
        rw [List.contains_iff_mem.2 hc] at HSN
        simp only [Bool.not_true, Bool.false_eq_true, if_false, List.append_nil] at HSN
        clear hc
        go_wp2_with fail
        exact ⟨⟨j + 1, ys, by omega, by go_num, HSN.out.symm, HO.out, HFQ.out⟩, by simp [intOf]; omega⟩
      · rw [decide_eq_false hc] at hrun
        have hcb : lost.contains y = false := by rw [← Bool.not_eq_true, List.contains_iff_mem]; exact hc
        rw [hcb] at HSN
        simp only [Bool.not_false, if_true] at HSN
        clear hc hcb
        go_upto_region 7 with fail
        clear hrun
        have A0 : Hid ((wr.alloc (.cells #[Value.int .i64 y] 3)).ownsRow w1.heap.size 3 1 (.slice ao (ys).length co) (ys).length ((ys).map (Value.int .i64))) := Lib.hid (Own.keep HO.out ((Fr.refl [] wr).alloc _))
        have A1 : Hid ((ys).length + [Value.int .i64 y].length ≤ maxLen) := Lib.hid (by have := HLO.out; unfold maxLen; simp only [List.length_singleton]; omega)
        have A2 : Hid (((ys).length + [Value.int .i64 y].length) * 8 ≤ 140737488355328) := Lib.hid (by have := HLO.out; simp only [List.length_singleton]; omega)
        have A3 : Hid (Sl (wr.alloc (.cells #[Value.int .i64 y] 3)) (.slice (some ⟨wr.heap.size, 0, none⟩) 1 1) [Value.int .i64 y]) := Lib.hid (Sl.one wr _ _)
        have A4 : Hid (w1.heap.size ≤ (wr.alloc (.cells #[Value.int .i64 y] 3)).heap.size) := Lib.hid (by have := HFQ.out.size; simp; omega)
        go_wp2_with (at_builtin; refine wpList_append_slf rfl (.tmp 26) (.tmp 28) 33 rfl w1.heap.size 3 (.int .i64 0) 8 Try.underlying33 info_int rfl (.slice ao (ys).length co) (ys).length ((ys).map (Value.int .i64)) rfl A0.out (.slice (some ⟨wr.heap.size, 0, none⟩) 1 1) [Value.int .i64 y] rfl A3.out (by simp [Value.oneCell']) A1.out A2.out A4.out ?_; intro v4 w4 ho hg hfr; have HO3 := Lib.hid ho; have HG := Lib.hid hg; have HBL := Lib.hid hfr; clear ho hg hfr)
        have HN : Hid (OwnV w4 w1.heap.size 3 (Value.int .i64) v4 (ys ++ [y])) := Lib.hid (by
          have := HO3.out
          unfold OwnV
          rw [List.map_append, List.length_append]
          exact this)
        have HF3 : Hid (Fr [] w1 w4) := Lib.hid ((HFQ.out.alloc _).step HG.out (fun x hx => .inr (HO.out.block x (by simpa using hx)).1))
        go_wp2_with fail
        exact ⟨⟨j + 1, ys ++ [y], by omega, by go_num, HSN.out.symm, HN.out, HF3.out⟩, by simp [intOf]; omega⟩
    · have HE : Hid ((known.take j).filter (fun y => !lost.contains y) = known.filter (fun y => !lost.contains y)) := Lib.hid (by rw [List.take_of_length_le (by omega)])
      rw [← HYS.out] at HE
      have HZ2 : Hid (SzS ys eqs) := Lib.hid ⟨HLO.out, HZ.out.ls, HZ.out.lr⟩
      have HI : Hid (Ints wr _ ys) := Lib.hid HO.out.sl
      have HIY : Hid (∀ x ∈ ys, In64 x) := Lib.hid (fun x hx => HI1.out x (by rw [HE.out] at hx; exact (List.mem_filter.1 hx).1))
      have HFW := Lib.hid (HF.out.trans HFQ.out)
      go_wp2_with fail
      refine (qClosure_any HI.out (HL3.out.keep HFW.out) HIY.out HI2.out HZ2.out).mono ?_
      rintro e w3 ⟨cb, cn, rfl, hC, hF3⟩
      have HC := Lib.hid hC
      have HF := Lib.hid (HFW.out.trans hF3)
      have HL1 := Lib.hid (HL1.out.keep HF.out)
      have HNO := Lib.hid (fun x hx => peelable_no (lost := lost) (known := known) (eqs := eqs) (x := x) hx)
      have HYES := Lib.hid (peelable_yes (lost := lost) (known := known) (eqs := eqs))
      rw [← HE.out] at HNO HYES
      generalize closureI ys eqs = cl at *
      clear hC hF3 HO HFQ HLO HE HZ2 HI HZ hlt HYS HIY HFW HM
      go_upto_region 11 with fail
      go_loopw [36] (fun iv wr => ∃ j : Nat, j ≤ lost.length ∧ iv = .int .i64 j ∧ (∀ x ∈ lost.take j, cl.contains x = true) ∧ Fr [] w3 wr) (fun iv _ => lost.length - (intOf iv).toNat)
      case atStart => exact ⟨0, by omega, rfl, by simp, Fr.refl _ _⟩
      case round =>
        obtain ⟨j, hj, rfl, hA, hFQ⟩ := hrel
        have HA := Lib.hid hA; have HFQ := Lib.hid hFQ
        clear hA hFQ
        by_cases hlt : j < lost.length
        · obtain ⟨b, o, ea, hb, -⟩ := Sl.at_ HL1.out hlt
          subst ea
          have d := HFQ.out.cellSome (Ints.at_ HL1.out j hlt) (by simp)
          have HT : Hid (lost.take (j + 1) = lost.take j ++ [lost[j]]) := Lib.hid (List.take_succ_eq_append_getElem hlt)
          have HM : Hid (lost[j] ∈ lost) := Lib.hid (List.getElem_mem hlt)
          have HWF : Hid ((Lit.int .i64 lost[j]).wf = true) := Lib.hid (HI0.out _ (List.getElem_mem hlt)).wf
          generalize lost[j] = y at *
          have hrun := seen_run (HC.out.fr HFQ.out (by simp)) HWF.out
          by_cases hc : y ∈ cl
          · have HCT : Hid (cl.contains y = true) := Lib.hid (List.contains_iff_mem.2 hc)
            rw [decide_eq_true hc] at hrun
            clear hc
            go_wp2_with fail
            exact ⟨⟨j + 1, by omega, by go_num, by
              intro q hq
              rw [HT.out] at hq
              rcases List.mem_append.1 hq with hq | hq
              · exact HA.out q hq
              · simp at hq; rw [hq]; exact HCT.out, HFQ.out⟩, by simp [intOf]; omega⟩
          · have hcb : cl.contains y = false := by rw [← Bool.not_eq_true, List.contains_iff_mem]; exact hc
            have HE := Lib.hid (HNO.out y HM.out hcb)
            rw [decide_eq_false hc] at hrun
            clear hc hcb
            go_wp2_with fail
            go_ret
            exact ⟨by rw [HE.out]; rfl, HF.out.trans HFQ.out⟩
        · have HE : Hid (peelableI lost known eqs = true) := Lib.hid (HYES.out (by have := HA.out; rw [List.take_of_length_le (by omega)] at this; exact this))
          go_wp2_with fail
          go_ret
          exact ⟨by rw [HE.out]; rfl, HF.out.trans HFQ.out⟩
theorem win_sub {a r K : Nat} (h : a + r ≤ K) : ((uptoI K).drop a).take r = winI a r := by
  unfold uptoI winI
  rw [← List.map_drop, ← List.map_take]
  apply List.ext_getElem
  · simp; omega
  · intro i h1 h2
    simp at h1 h2 ⊢
theorem upto_in {K : Nat} (hK : K ≤ 1000) : ∀ x ∈ uptoI K, In64 x := fun x hx => by have := mem_upto.1 hx; exact ⟨by omega, by omega⟩
theorem win_in {a r : Nat} (h : a + r ≤ 1000) : ∀ x ∈ winI a r, In64 x := fun x hx => by have := mem_win.1 hx; exact ⟨by omega, by omega⟩
set_option maxRecDepth 100000 in
set_option maxHeartbeats 4000000 in
theorem shSurvives_any {w : World} {v : Value} {s : List (List Int)} (h : IRows w v s) (hi : ∀ r ∈ s, ∀ x ∈ r, In64 x) (hz : SzS [] s) (K r : Nat) (hK : K ≤ 48) (hr : r ≤ K) (hr1 : 1 ≤ r) :
    Calls Try.prog 38 #[v, .int .i64 (K : Nat), .int .i64 (r : Nat)] w fun e w' => e = .returned (.bool (survivesS s K r)) ∧ Fr [] w w' := by
  have HS := Lib.hid h; have HI := Lib.hid hi; have HZ := Lib.hid hz
  clear h hi hz
  obtain ⟨m, hm⟩ : ∃ m : Nat, K + 1 - r = m := ⟨_, rfl⟩
  have hmi : (K : Int) - (r : Int) + 1 = (m : Int) := by omega
  have hmn : m ≤ 48 := by omega
  have HMM : Hid (m + r = K + 1) := Lib.hid (by omega)
  have hkb : (K : Int) ≤ 1000 := by omega
  clear hm
  go_enter Try.func38, Try.ntmps38
  go_wp2_with fail
  refine (shPlaces_any (K : Int) hkb).mono ?_
  rintro e w1 ⟨v1, rfl, hO, hF⟩
  have HO : Hid (Ints w1 v1 (uptoI K)) := Lib.hid hO.sl
  have HF := Lib.hid hF
  obtain ⟨a1, c1, rfl⟩ := HO.out.shape
  have HLC : Hid ((uptoI K).length ≤ c1 ∧ c1 ≤ 9223372036854775807) := Lib.hid (by have h := Sl.len HO.out; unfold maxLen at h; rw [List.length_map] at h; omega)
  rw [upto_len] at HO HLC ⊢
  clear hO hF
  go_upto_region 3 with fail
  obtain ⟨b, o, ea, hb, -⟩ := Sl.at_ HO.out (k := 0) (by omega)
  subst ea
  have hc1 := HLC.out.1; have hc2 := HLC.out.2
  go_loopw [15] (fun iv wr => ∃ a : Nat, a ≤ m ∧ iv = .int .i64 a ∧ (∀ b, b < a → peelableI (winI b r) (uptoI K) s = true) ∧ Fr [] w1 wr) (fun iv _ => m - (intOf iv).toNat)
  case atStart => exact ⟨0, by omega, rfl, fun b hb => by omega, Fr.refl _ _⟩
  case round =>
    obtain ⟨a, ha, rfl, hA, hFQ⟩ := hrel
    have HA := Lib.hid hA; have HFQ := Lib.hid hFQ
    clear hA hFQ
    by_cases hlt : a < m
    · have har : a + r ≤ K := by have := HMM.out; omega
      have hs1 : (a : Int) + (r : Int) ≤ (c1 : Int) := by omega
      have hs2 : (a : Int) ≤ (a : Int) + (r : Int) := by omega
      have hs3 : (a : Int) + (r : Int) - (a : Int) = (r : Int) := by omega
      have hs4 : (c1 : Int) - (a : Int) = ((c1 - a : Nat) : Int) := by omega
      have HOW := Lib.hid (HO.out.keep HFQ.out)
      have HSB : Hid (Ints wr (.slice (some ⟨b, o + a, none⟩) r (c1 - a)) (winI a r)) := Lib.hid (by
        have h := Sl.sub' HOW.out a r har
        rw [← List.map_drop, ← List.map_take, win_sub har, if_neg (by omega)] at h
        exact h)
      have HW1 : Hid (∀ x ∈ winI a r, In64 x) := Lib.hid (win_in (by omega))
      have HW2 : Hid (∀ x ∈ uptoI K, In64 x) := Lib.hid (upto_in (by omega))
      have HZ2 : Hid (SzS (uptoI K) s) := Lib.hid ⟨by rw [upto_len]; omega, HZ.out.ls, HZ.out.lr⟩
      have HZL : Hid ((winI a r).length ≤ 1073741824) := Lib.hid (by rw [win_len]; omega)
      have HSR := Lib.hid (HS.out.keep (HF.out.trans HFQ.out))
      go_wp2_with fail
      refine (qPeelable_any HSB.out HOW.out HSR.out HW1.out HW2.out HI.out HZ2.out HZL.out).mono ?_
      rintro e w4 ⟨rfl, hF4⟩
      have HFQ := Lib.hid (HFQ.out.trans hF4)
      clear hF4
      cases hc : peelableI (winI a r) (uptoI K) s with
      | true =>
        have HC := Lib.hid hc
        clear hc
        go_wp2_with fail
        exact ⟨⟨a + 1, by omega, by go_num, fun b hb => by
          by_cases e : b = a
          · rw [e]; exact HC.out
          · exact HA.out b (by omega), HFQ.out⟩, by simp [intOf]; omega⟩
      | false =>
        have HE := Lib.hid (survives_no har hc)
        clear hc
        go_wp2_with fail
        go_ret
        exact ⟨by rw [HE.out]; rfl, HF.out.trans HFQ.out⟩
    · have HE : Hid (survivesS s K r = true) := Lib.hid (survives_yes (a := a) (by have := HMM.out; omega) (fun b hb _ => HA.out b hb))
      go_wp2_with fail
      go_ret
      exact ⟨by rw [HE.out]; rfl, HF.out.trans HFQ.out⟩
set_option maxRecDepth 100000 in
set_option maxHeartbeats 4000000 in
theorem shBurst_any {w : World} {v : Value} {s : List (List Int)} (h : IRows w v s) (hi : ∀ r ∈ s, ∀ x ∈ r, In64 x) (hz : SzS [] s) (k : Int) :
    Calls Try.prog 19 #[v, .int .i64 k] w fun e w' => e = .returned (.int .i64 (burstI s k : Nat)) ∧ Fr [] w w' := by
  have HS := Lib.hid h; have HI := Lib.hid hi; have HZ := Lib.hid hz
  clear h hi hz
  by_cases h1 : k < 1
  · have HE : Hid (burstI s k = 0) := Lib.hid (by unfold burstI; rw [if_pos (.inl h1)])
    go_enter Try.func19, Try.ntmps19
    go_wp2_with fail
    go_ret
    exact ⟨by rw [HE.out]; rfl, Fr.refl _ _⟩
  by_cases h2 : 48 < k
  · have HE : Hid (burstI s k = 0) := Lib.hid (by unfold burstI; rw [if_pos (.inr h2)])
    go_enter Try.func19, Try.ntmps19
    go_wp2_with fail
    go_ret
    exact ⟨by rw [HE.out]; rfl, Fr.refl _ _⟩
  obtain ⟨K, rfl⟩ := Int.eq_ofNat_of_zero_le (by omega : 0 ≤ k)
  have HE : Hid (burstI s (K : Int) = burstS s K) := Lib.hid (by unfold burstI; rw [if_neg (by omega)]; rfl)
  have hK1 : 1 ≤ K := by omega
  have hK2 : K ≤ 48 := by omega
  go_enter Try.func19, Try.ntmps19
  go_wp2_with fail
  go_loopw [5] (fun rv wr => ∃ r : Nat, r ≤ K ∧ rv = .int .i64 r ∧ (∀ q, 1 ≤ q → q ≤ r → survivesS s K q = true) ∧ Fr [] w wr) (fun rv _ => K - (intOf rv).toNat)
  case atStart => exact ⟨0, by omega, rfl, fun q h1 h2 => by omega, Fr.refl _ _⟩
  case round =>
    obtain ⟨r, hr, rfl, hS, hF⟩ := hrel
    have HSV := Lib.hid hS; have HF := Lib.hid hF
    clear hS hF
    by_cases hrk : r < K
    · have hcast : (r : Int) + 1 = ((r + 1 : Nat) : Int) := rfl
      have HSU := Lib.hid (shSurvives_any (HS.out.keep HF.out) HI.out HZ.out K (r + 1) hK2 (by omega) (by omega))
      clear hcast
      go_wp2_with fail
      refine HSU.out.mono ?_
      rintro e w2 ⟨rfl, hF2⟩
      have HF := Lib.hid (HF.out.trans hF2)
      clear hF2 HSU
      cases hc : survivesS s K (r + 1) with
      | true =>
        have HC := Lib.hid hc
        clear hc
        go_wp2_with fail
        exact ⟨⟨r + 1, by omega, by go_num, fun q h1 h2 => by
          by_cases e : q = r + 1
          · rw [e]; exact HC.out
          · exact HSV.out q h1 (by omega), HF.out⟩, by simp [intOf]; omega⟩
      | false =>
        have HB : Hid (burstS s K = r) := Lib.hid (by
          have h := burst_first (s := s) (k := K) (r := r + 1) (by omega) (by omega) (fun q h1 h2 => HSV.out q h1 (by omega)) hc
          omega)
        clear hc
        go_wp2_with fail
        go_ret
        exact ⟨by rw [HE.out, HB.out]; rfl, HF.out⟩
    · obtain rfl : r = K := by omega
      have HB : Hid (burstS s r = r) := Lib.hid (burst_all (fun q h1 h2 => HSV.out q h1 h2))
      go_wp2_with fail
      go_ret
      exact ⟨by rw [HE.out, HB.out]; rfl, HF.out⟩
end Go.Proofs.Ytngfenjekgdfbaa
