import Derived.Test.YtcmpjkopdjncdaaMq40
import Derived.Test.YtcmpjkopdjncdaaMq35
import Derived.Test.YtcmpjkopdjncdaaMq37
import Derived.Test.YtcmpjkopdjncdaaMq41
import Derived.Test.YtcmpjkopdjncdaaMq18
/- The walk of confluxref07.Few (printed by gen_7few.py). -/
namespace Go.Proofs.Ytcmpjkopdjncdaa
open Go.RowKit

def fewT (t : Int × List UInt8) : Bool := decide (t.2.length ≤ 300)
def fewC (c : Chk) : Bool := decide (c.texts.length ≤ 10) && c.texts.all fewT
/-- An item of few parts. -/
def few7 (x : Itm) : Bool := decide (x.reps.length ≤ 40) && decide (x.chks.length ≤ 40) && decide (x.srcs.length ≤ 40) && decide (x.reason.length ≤ 300) && x.chks.all fewC
theorem all_take_next {α : Type} {f : α → Bool} {l : List α} {j : Nat} {y : α} (hy : l[j]? = some y) (h : (l.take j).all f = true) (hf : f y = true) : (l.take (j + 1)).all f = true := by
  rw [List.take_add_one, hy]
  simp only [Option.toList_some, List.all_append, List.all_cons, List.all_nil, Bool.and_true, h, hf]
theorem all_no {α : Type} {f : α → Bool} {l : List α} {y : α} (hy : y ∈ l) (hf : f y = false) : l.all f = false := by
  rw [List.all_eq_false]
  exact ⟨y, hy, by rw [hf]; simp⟩
set_option maxRecDepth 100000 in
set_option maxHeartbeats 8000000 in
theorem r07Few_any {w : World} {x : Itm} {vr vc vs : Value} {Bc : List Nat} (hr : SlEls 7 RptR w vr x.reps []) (hc : SlEls 2 ChkR w vc x.chks Bc) (hs : SlEls 1 SrcR w vs x.srcs []) :
    Calls Try.prog 28 #[.agg (itc x vr vc vs)] w fun e w' => e = .returned (.bool (few7 x)) ∧ Fr [] w w' := by
  obtain ⟨ar, cr, rfl⟩ := hr.shape
  obtain ⟨ac, cc, rfl⟩ := hc.shape
  obtain ⟨as_, cs, rfl⟩ := hs.shape
  obtain ⟨w1, e1, hF1, hB1, hs1⟩ := one_new w (itc x (.slice ar x.reps.length cr) (.slice ac x.chks.length cc) (.slice as_ x.srcs.length cs)) 52
  have HF := Lib.hid hF1; have E1 := Lib.hid e1; have HB := Lib.hid hB1
  have HR := Lib.hid (hr.keep Rep.rpt hF1); have HC := Lib.hid (hc.keep Rep.chk hF1); have HS := Lib.hid (hs.keep Rep.src hF1)
  clear hF1 hB1 e1 hs1 hr hc hs
  have x6 := HB.out.cell 6; have x7 := HB.out.cell 7; have x8 := HB.out.cell 8; have x9 := HB.out.cell 9
  simp only [itc, List.getElem?_toArray, List.getElem?_cons_succ, List.getElem?_cons_zero] at x6 x7 x8 x9
  have hsz := strB_size x.reason
  obtain ⟨nr, hnr⟩ : ∃ n, x.reps.length = n := ⟨_, rfl⟩
  obtain ⟨nc, hnc⟩ : ∃ n, x.chks.length = n := ⟨_, rfl⟩
  obtain ⟨ns, hns⟩ : ∃ n, x.srcs.length = n := ⟨_, rfl⟩
  obtain ⟨nz, hnz⟩ : ∃ n, x.reason.length = n := ⟨_, rfl⟩
  have HNR := Lib.hid hnr; have HNC := Lib.hid hnc; have HNS := Lib.hid hns; have HNZ := Lib.hid hnz
  rw [hnz] at hsz
  rw [hnr] at x6
  rw [hnc] at x7 HC
  rw [hns] at x8
  rw [hnr, hnc, hns] at E1 HB
  rw [hnr] at HR
  rw [hns] at HS
  rw [hnr, hnc, hns]
  clear hnr hnc hns hnz
  go_enter Try.func28, Try.ntmps28
  go_upto_region 1 with fail
  rw [E1.out]
  clear E1
  by_cases h0 : nr ≤ 40
  rotate_left
  · have t0 : (40 : Int) < ((nr : Nat) : Int) := by omega
    have HX : Hid (few7 x = false) := Lib.hid (by unfold few7; rw [HNR.out, decide_eq_false (p := nr ≤ 40) (by omega)]; simp)
    clear h0 HR HC HS HB
    go_wp2_with fail
    go_ret
    exact ⟨ret_bool HX.out.symm, HF.out⟩
  have t0 : ¬ ((40 : Int) < ((nr : Nat) : Int)) := by omega
  by_cases h1 : nc ≤ 40
  rotate_left
  · have t1 : (40 : Int) < ((nc : Nat) : Int) := by omega
    have HX : Hid (few7 x = false) := Lib.hid (by unfold few7; rw [HNC.out, decide_eq_false (p := nc ≤ 40) (by omega)]; simp)
    clear h1 HR HC HS HB
    go_wp2_with fail
    go_ret
    exact ⟨ret_bool HX.out.symm, HF.out⟩
  have t1 : ¬ ((40 : Int) < ((nc : Nat) : Int)) := by omega
  by_cases h2 : ns ≤ 40
  rotate_left
  · have t2 : (40 : Int) < ((ns : Nat) : Int) := by omega
    have HX : Hid (few7 x = false) := Lib.hid (by unfold few7; rw [HNS.out, decide_eq_false (p := ns ≤ 40) (by omega)]; simp)
    clear h2 HR HC HS HB
    go_wp2_with fail
    go_ret
    exact ⟨ret_bool HX.out.symm, HF.out⟩
  have t2 : ¬ ((40 : Int) < ((ns : Nat) : Int)) := by omega
  by_cases h3 : nz ≤ 300
  rotate_left
  · have t3 : (300 : Int) < ((nz : Nat) : Int) := by omega
    have HX : Hid (few7 x = false) := Lib.hid (by unfold few7; rw [HNZ.out, decide_eq_false (p := nz ≤ 300) (by omega)]; simp)
    clear h3 HR HC HS HB
    go_wp2_with fail
    go_ret
    exact ⟨ret_bool HX.out.symm, HF.out⟩
  have t3 : ¬ ((300 : Int) < ((nz : Nat) : Int)) := by omega
  have HFX : Hid (few7 x = x.chks.all fewC) := Lib.hid (by unfold few7; rw [HNR.out, HNC.out, HNS.out, HNZ.out, decide_eq_true h0, decide_eq_true h1, decide_eq_true h2, decide_eq_true h3]; simp)
  clear h0 h2 h3
  go_upto_region 4 with fail
  clear t0 t1 t2 t3 x6 x7 x8 x9 hsz HR HS
  go_loopw [3] (fun i wr => ∃ j : Nat, j ≤ nc ∧ i = .int .i64 j ∧ (x.chks.take j).all fewC = true ∧ Fr [] w1 wr) (fun i _ => nc - (intOf i).toNat)
  case atStart => exact ⟨0, Nat.zero_le _, rfl, rfl, Fr.refl _ _⟩
  case round =>
    obtain ⟨j, hj, rfl, htk, hF⟩ := hrel
    have HT := Lib.hid htk; have HB := Lib.hid (HB.out.keep hF); have HC := Lib.hid (HC.out.keep Rep.chk hF); have HF2 := Lib.hid (HF.out.trans hF); have HFW := Lib.hid hF
    clear htk hF
    have x7 := HB.out.cell 7
    simp only [itc, List.getElem?_toArray, List.getElem?_cons_succ, List.getElem?_cons_zero] at x7
    by_cases hlt : j < nc
    · obtain ⟨b, o, k, y, B1, ea, -, hy, ⟨vt, rfl, ht, -⟩, -, hrg⟩ := HC.out.at_ Rep.chk (i := j) hlt
      subst ea
      obtain ⟨at_, ct, rfl⟩ := ht.shape
      have HRG := Lib.hid hrg; have HTX := Lib.hid ht; have HY := Lib.hid hy
      obtain ⟨nt, hnt⟩ : ∃ n, y.texts.length = n := ⟨_, rfl⟩
      rw [hnt] at HRG HTX
      have HNT := Lib.hid hnt
      clear hrg ht hy hnt
      have y1 := HRG.out 1 _ rfl
      have y1 : wr.cell? ⟨b, o + j * 2 + 1, none⟩ = some (.slice at_ nt ct) := y1
      by_cases h10 : nt ≤ 10
      rotate_left
      · have t0 : (10 : Int) < ((nt : Nat) : Int) := by omega
        have HX : Hid (few7 x = false) := Lib.hid (by rw [HFX.out]; exact all_no (List.mem_of_getElem? HY.out) (by unfold fewC; rw [HNT.out, decide_eq_false h10]; rfl))
        clear h10
        go_wp2_with fail
        go_ret
        exact ⟨ret_bool HX.out.symm, HF2.out⟩
      have t0 : ¬ ((10 : Int) < ((nt : Nat) : Int)) := by omega
      have HT0 : Hid (nt ≤ 10) := Lib.hid h10
      go_upto_region 9 with fail
      clear t0 x7 y1
      go_loopw [4] (fun i wz => ∃ k : Nat, k ≤ nt ∧ i = .int .i64 k ∧ (y.texts.take k).all fewT = true ∧ Fr [] wr wz) (fun i _ => nt - (intOf i).toNat)
      case atStart => exact ⟨0, Nat.zero_le _, rfl, rfl, Fr.refl _ _⟩
      case round =>
        obtain ⟨k, hk, rfl, htk, hF⟩ := hrel
        have HTT := Lib.hid htk; have HB := Lib.hid (HB.out.keep hF); have HTX := Lib.hid (HTX.out.keep Rep.txt hF); have HFV := Lib.hid hF
        have HRG := Lib.hid (fr_rng hF HRG.out)
        clear htk hF
        have x7 := HB.out.cell 7
        simp only [itc, List.getElem?_toArray, List.getElem?_cons_succ, List.getElem?_cons_zero] at x7
        have y1 := HRG.out 1 _ rfl
        rename World => wz
        have y1 : wz.cell? ⟨b, o + j * 2 + 1, none⟩ = some (.slice at_ nt ct) := y1
        by_cases hlk : k < nt
        · obtain ⟨b2, o2, k2, z, B4, eb, -, hz, ⟨rfl, -⟩, -, hrg2⟩ := HTX.out.at_ Rep.txt (i := k) hlk
          subst eb
          have HZ := Lib.hid hz
          have z1 : wz.cell? ⟨b2, o2 + k * 2 + 1, none⟩ = some (.string (strB z.2)) := hrg2 1 _ rfl
          clear hrg2 hz
          have hsz := strB_size z.2
          obtain ⟨q, hq⟩ : ∃ n, z.2.length = n := ⟨_, rfl⟩
          rw [hq] at hsz
          have HQ := Lib.hid hq
          clear hq
          by_cases h300 : q ≤ 300
          · have t0 : ¬ ((300 : Int) < ((q : Nat) : Int)) := by omega
            have HE : Hid (fewT z = true) := Lib.hid (by unfold fewT; rw [HQ.out]; exact decide_eq_true h300)
            clear h300
            go_wp2_with fail
            refine ⟨⟨k + 1, by omega, by go_num, all_take_next HZ.out HTT.out HE.out, HFV.out⟩, by simp [intOf]; omega⟩
          · have t0 : (300 : Int) < ((q : Nat) : Int) := by omega
            have HX : Hid (few7 x = false) := Lib.hid (by rw [HFX.out]; exact all_no (List.mem_of_getElem? HY.out) (by unfold fewC; rw [all_no (List.mem_of_getElem? HZ.out) (by unfold fewT; rw [HQ.out]; exact decide_eq_false h300)]; simp))
            clear h300
            go_wp2_with fail
            go_ret
            exact ⟨ret_bool HX.out.symm, HF2.out.trans HFV.out⟩
        · obtain rfl : k = nt := by omega
          have hT := HTT.out
          rw [List.take_of_length_le (by rw [HNT.out]; exact Nat.le_refl _)] at hT
          have HE : Hid (fewC y = true) := Lib.hid (by unfold fewC; rw [hT, HNT.out, decide_eq_true HT0.out]; rfl)
          clear hT
          go_wp2_with fail
          refine ⟨⟨j + 1, by omega, by go_num, all_take_next HY.out HT.out HE.out, HFW.out.trans HFV.out⟩, by simp [intOf]; omega⟩
    · obtain rfl : j = nc := by omega
      have hT := HT.out
      rw [List.take_of_length_le (by rw [HNC.out]; exact Nat.le_refl _)] at hT
      have HX : Hid (few7 x = true) := Lib.hid (by rw [HFX.out, hT])
      clear hT
      go_wp2_with fail
      go_ret
      exact ⟨ret_bool HX.out.symm, HF2.out⟩
end Go.Proofs.Ytcmpjkopdjncdaa

/- RTCP: what is written reads as the same. No program in sight. -/
namespace Go.Proofs.Ytcmpjkopdjncdaa

/-- These bytes stand there. -/
def Hs (l : List UInt8) (k : Nat) (p : List UInt8) : Prop := p <+: l.drop k
theorem Hs.app {l : List UInt8} {k : Nat} {a b : List UInt8} (h : Hs l k (a ++ b)) : Hs l k a ∧ Hs l (k + a.length) b := by
  obtain ⟨r, hr⟩ := h
  refine ⟨⟨b ++ r, by rw [← hr, List.append_assoc]⟩, r, ?_⟩
  rw [← List.drop_drop, ← hr, List.append_assoc, List.drop_left]
theorem Hs.len {l : List UInt8} {k : Nat} {p : List UInt8} (h : Hs l k p) (hp : 0 < p.length) : k + p.length ≤ l.length := by
  have := h.length_le
  rw [List.length_drop] at this
  omega
theorem Hs.num {l : List UInt8} {k n m : Nat} (h : Hs l k (beN n m)) (hn : n < 256 ^ m) : nb l k m = n := by
  obtain ⟨r, hr⟩ := h
  have h1 := nb_drop l k 0 m
  rw [Nat.add_zero, ← hr] at h1
  have h2 := nb_at (a := []) (b := r) (k := 0) (n := n) (m := m) rfl
  rw [List.nil_append] at h2
  rw [← h1, h2, Nat.mod_eq_of_lt hn]
theorem Hs.sl {l : List UInt8} {k : Nat} {p : List UInt8} (h : Hs l k p) : (l.drop k).take p.length = p := by
  obtain ⟨r, hr⟩ := h
  rw [← hr, List.take_left]
theorem Hs.u32 {l : List UInt8} {k : Nat} {n : UInt32} (h : Hs l k (beN n.toNat 4)) : l32 l k = n := by
  unfold l32
  rw [h.num (by have := n.toNat_lt; omega)]
  simp
theorem Hs.u64 {l : List UInt8} {k : Nat} {n : UInt64} (h : Hs l k (beN n.toNat 8)) : l64 l k = n := by
  unfold l64
  rw [h.num (by have := n.toNat_lt; omega)]
  simp
theorem Hs.one {l : List UInt8} {k : Nat} {z : Int} (h : Hs l k [ib z]) : nb l k 1 = (z % 256).toNat := by
  have h1 : [ib z] = beN (z % 256).toNat 1 := by
    rw [← ib_beN]
    congr 1
    apply ib_mod
    omega
  rw [h1] at h
  exact h.num (by omega)
theorem rpt_fwd {l : List UInt8} {k : Nat} {x : Rpt} (h : Hs l k (rptW x)) (hr : rightRp x = true) : rpt1 l k = some (x, k + (rptW x).length) := by
  have hlen : (rptW x).length = 24 := by unfold rptW rptHead rptTail; simp only [List.length_append, beN_len, List.flatMap_cons, List.flatMap_nil, List.length_singleton, List.length_nil]
  have h0 := h.len (by omega)
  unfold rightRp at hr
  simp only [Bool.and_eq_true, decide_eq_true_eq] at hr
  unfold rptW rptHead rptTail at h
  simp only [List.flatMap_cons, List.flatMap_nil, List.append_nil] at h
  obtain ⟨h1, h2⟩ := h.app
  obtain ⟨h1, b4⟩ := h1.app
  obtain ⟨h1, b3⟩ := h1.app
  obtain ⟨b1, b2⟩ := h1.app
  obtain ⟨b5, h2⟩ := h2.app
  obtain ⟨b6, h2⟩ := h2.app
  obtain ⟨b7, b8⟩ := h2.app
  simp only [List.length_append, beN_len, List.length_singleton, Nat.add_assoc, Nat.reduceAdd] at b2 b3 b4 b5 b6 b7 b8
  unfold rpt1
  rw [hlen] at h0 ⊢
  rw [if_pos h0]
  unfold rptAt
  rw [b1.u32, b5.u32, b6.u32, b7.u32, b8.u32, b2.one, b3.one, b4.num (by omega)]
  have e1 : (((x.loss % 256).toNat : Nat) : Int) = x.loss := by omega
  have e2 : sgn24 ((x.lost / 65536 % 256).toNat * 65536 + (x.lost % 65536).toNat) = x.lost := by unfold sgn24; split <;> omega
  rw [e1, e2]
theorem zeros_fwd {l : List UInt8} : ∀ {m k : Nat}, Hs l k (List.replicate m 0) → zerosR l m k = true
  | 0, k, _ => rfl
  | m + 1, k, h => by
    have h0 := h.len (by simp)
    rw [List.length_replicate] at h0
    rw [show m + 1 = 1 + m by omega, ← List.replicate_append_replicate] at h
    obtain ⟨h1, h2⟩ := h.app
    have h3 : nb l k 1 = 0 := Hs.num (n := 0) (m := 1) h1 (by decide)
    have h4 := zeros_fwd h2
    rw [List.length_replicate] at h4
    unfold zerosR
    rw [h3, decide_eq_true (by omega), h4]
    rfl
theorem texts_fwd {l : List UInt8} : ∀ {ts : List (Int × List UInt8)} {f k : Nat}, Hs l k (ts.flatMap txtW ++ [0]) → (∀ t ∈ ts, 1 ≤ t.1 ∧ t.1 ≤ 255 ∧ t.2.length ≤ 255) → l.length < k + f → textsR l f k = some (ts, k + (ts.flatMap txtW ++ [0]).length)
  | ts, 0, k, h, _, hf => by have := h.len (by simp); omega
  | [], f + 1, k, h, _, hf => by
    have h0 := h.len (by simp)
    have h3 : nb l k 1 = 0 := Hs.num (n := 0) (m := 1) h (by decide)
    simp at h0
    rw [textsR_succ, if_pos h0, if_pos h3]
    rfl
  | t :: ts, f + 1, k, h, ht, hf => by
    have h0 := h.len (by rw [List.length_append, List.length_singleton]; omega)
    obtain ⟨g1, g2, g3⟩ := ht t (by simp)
    rw [List.flatMap_cons, List.append_assoc] at h
    obtain ⟨h1, h2⟩ := h.app
    have hl0 := h2.len (by simp)
    have htl : (txtW t).length = 2 + t.2.length := by unfold txtW; simp; omega
    rw [htl] at h2 hl0
    unfold txtW at h1
    rw [show [ib t.1, ib (t.2.length : Nat)] = [ib t.1] ++ [ib (t.2.length : Nat)] from rfl] at h1
    obtain ⟨h1, c3⟩ := h1.app
    obtain ⟨c1, c2⟩ := h1.app
    simp only [List.length_append, List.length_singleton, Nat.reduceAdd] at c2 c3 hl0
    have e1 : nb l k 1 = t.1.toNat := by rw [c1.one]; omega
    have e2 : nb l (k + 1) 1 = t.2.length := by rw [c2.one]; omega
    rw [textsR_succ, if_pos (by omega), e1, e2, if_neg (by omega), if_pos (by omega), if_pos (by omega), texts_fwd (ts := ts) (by rw [show k + 2 + t.2.length = k + (2 + t.2.length) by omega]; exact h2) (fun t ht' => ht t (by simp [ht'])) (by omega), c3.sl]
    simp only [Option.map_some]
    have e3 : ((t.1.toNat : Nat) : Int) = t.1 := by omega
    rw [e3]
    simp only [List.flatMap_cons, List.length_append, htl]
    congr 2
    omega
theorem right_texts {x : Chk} (h : rightCk x = true) : ∀ t ∈ x.texts, 1 ≤ t.1 ∧ t.1 ≤ 255 ∧ t.2.length ≤ 255 := by
  unfold rightCk at h
  rw [Bool.not_eq_true', List.any_eq_false] at h
  intro t ht
  have := h t ht
  unfold wrongTx at this
  simp only [Bool.or_eq_true, decide_eq_true_eq] at this
  omega
theorem chk_fwd {l : List UInt8} {k : Nat} {x : Chk} (h : Hs l k (chkW x)) (hr : rightCk x = true) : chk1 l k = some (x, k + (chkW x).length) := by
  unfold chkW at h ⊢
  obtain ⟨h0, hz⟩ := h.app
  have hlen : (chkW0 x).length = 4 + (x.texts.flatMap txtW ++ [0]).length := by unfold chkW0; simp only [List.length_append, beN_len]; omega
  unfold chkW0 at h0
  rw [List.append_assoc] at h0
  obtain ⟨h1, h2⟩ := h0.app
  rw [beN_len] at h2
  have h4 := h1.len (by rw [beN_len]; omega)
  rw [beN_len] at h4
  have ht : textsR l (l.length + 1) (k + 4) = some (x.texts, k + (chkW0 x).length) := (texts_fwd h2 (right_texts hr) (by omega)).trans (by rw [hlen]; congr 2; omega)
  unfold chk1
  rw [if_pos h4, ht]
  simp only
  rw [show k + (chkW0 x).length - k = (chkW0 x).length by omega, if_pos (zeros_fwd hz), h1.u32, List.length_append, List.length_replicate, Nat.add_assoc]
theorem src_fwd {l : List UInt8} {k : Nat} {x : UInt32} (h : Hs l k (srcW x)) : src1 l k = some (x, k + (srcW x).length) := by
  unfold srcW at h ⊢
  have h4 := h.len (by rw [beN_len]; omega)
  rw [beN_len] at h4 ⊢
  unfold src1
  rw [if_pos h4, h.u32]
theorem times_fwd {α : Type} {l : List UInt8} {P : Nat → Option (α × Nat)} {W : α → List UInt8} : ∀ {xs : List α} {k : Nat}, (∀ x ∈ xs, ∀ k, Hs l k (W x) → P k = some (x, k + (W x).length)) → Hs l k (xs.flatMap W) → timesR P xs.length k = some (xs, k + (xs.flatMap W).length)
  | [], k, _, _ => rfl
  | x :: xs, k, hP, h => by
    rw [List.flatMap_cons] at h
    obtain ⟨h1, h2⟩ := h.app
    rw [List.length_cons]
    unfold timesR
    rw [hP x (by simp) k h1]
    simp only
    rw [times_fwd (fun y hy => hP y (by simp [hy])) h2]
    simp only [Option.map_some, List.flatMap_cons, List.length_append]
    congr 2
    omega
end Go.Proofs.Ytcmpjkopdjncdaa

/- RTCP: what is written reads as the same: items. No program in sight. -/
namespace Go.Proofs.Ytcmpjkopdjncdaa

theorem Hs.all (l : List UInt8) : Hs l 0 l := ⟨[], by simp⟩
theorem bodyR_of {kind : Int} {n : Nat} {l : List UInt8} {x : Itm} (h : bodyK kind n l = some (x, l.length)) : bodyR kind n l = some x := by
  unfold bodyR
  rw [h]
  simp
theorem srcs_len : ∀ (srcs : List UInt32), (srcs.flatMap srcW).length = 4 * srcs.length
  | [] => rfl
  | s :: ss => by rw [List.flatMap_cons, List.length_append, srcs_len ss]; unfold srcW; rw [beN_len, List.length_cons]; omega
theorem flat_four {α : Type} (W : α → List UInt8) : ∀ (xs : List α), (∀ x ∈ xs, (W x).length % 4 = 0) → (xs.flatMap W).length % 4 = 0
  | [], _ => rfl
  | x :: xs, h => by rw [List.flatMap_cons, List.length_append]; have h1 := h x (by simp); have h2 := flat_four W xs (fun y hy => h y (by simp [hy])); omega
theorem body3_len4 (x : Itm) : (body3 x).length % 4 = 0 := by
  have h1 := flat_four rptW x.reps (fun x _ => by unfold rptW rptHead rptTail; simp only [List.length_append, beN_len, List.flatMap_cons, List.flatMap_nil, List.length_singleton, List.length_nil])
  have h2 := flat_four chkW x.chks (fun x _ => by unfold chkW padOf; simp only [List.length_append, List.length_replicate]; omega)
  have h3 := srcs_len x.srcs
  have h4 : (hd7 x).length % 4 = 0 := by
    unfold hd7
    split
    · simp only [List.length_append, beN_len]
    · split
      · rw [beN_len]
      · rfl
  unfold body3
  simp only [List.length_append]
  omega
theorem bodyW_len4 (x : Itm) : (bodyW x).length % 4 = 0 := by
  unfold bodyW
  split
  · exact body3_len4 x
  · unfold padW padOf
    simp only [List.length_append, List.length_replicate]
    omega
/-- A right item's body reads as it. -/
theorem body_fwd {x : Itm} (hr : right7 x = true) : bodyR x.kind (count7 x).1 (bodyW x) = some x := by
  have hp := right7_parts hr
  have hc := right7_count hr
  obtain ⟨kind, ssrc, ntp, ts, pks, ocs, reps, chks, srcs, reason⟩ := x
  obtain ⟨h1, h2, h3⟩ := hp
  simp only at h2 h3
  have hrp : ∀ x ∈ reps, ∀ {l : List UInt8} (k : Nat), Hs l k (rptW x) → rpt1 l k = some (x, k + (rptW x).length) := fun x hx l k h => rpt_fwd h (h2 x hx)
  have hck : ∀ x ∈ chks, ∀ {l : List UInt8} (k : Nat), Hs l k (chkW x) → chk1 l k = some (x, k + (chkW x).length) := fun x hx l k h => chk_fwd h (h3 x hx)
  unfold count7 at h1 hc ⊢
  simp only at h1 hc ⊢
  by_cases h200 : kind = 200
  · subst h200
    simp only [if_true, Bool.and_eq_true, beq_iff_eq, List.isEmpty_iff] at h1 ⊢
    obtain ⟨g1, rfl⟩ := h1
    obtain rfl : chks = [] := List.eq_nil_of_length_eq_zero (by omega)
    obtain rfl : srcs = [] := List.eq_nil_of_length_eq_zero (by omega)
    rw [bodyW_plain rfl]
    generalize hl : body3 _ = l
    have hs := Hs.all l
    conv at hs => arg 3; rw [← hl]
    unfold body3 hd7 at hs hl
    simp only [if_true, List.flatMap_nil, List.append_nil] at hs hl
    obtain ⟨a1, a2⟩ := hs.app
    obtain ⟨a1, b5⟩ := a1.app
    obtain ⟨a1, b4⟩ := a1.app
    obtain ⟨a1, b3⟩ := a1.app
    obtain ⟨b1, b2⟩ := a1.app
    simp only [List.length_append, beN_len, Nat.zero_add, Nat.reduceAdd] at b2 b3 b4 b5 a2
    have hlen : l.length = 24 + (reps.flatMap rptW).length := by rw [← hl]; simp only [List.length_append, beN_len]
    refine bodyR_of ?_
    unfold bodyK
    rw [if_pos rfl, if_pos (by omega), times_fwd (fun x hx k h => hrp x hx k h) a2, Option.map_some, b1.u32, b2.u64, b3.u32, b4.u32, b5.u32, ← hlen]
    rfl
  · by_cases h201 : kind = 201
    · subst h201
      simp only [show ¬ (201 : Int) = 200 by decide, if_false, if_true, Bool.and_eq_true, beq_iff_eq, List.isEmpty_iff, plain7] at h1 ⊢
      obtain ⟨⟨g1, rfl⟩, ⟨⟨rfl, rfl⟩, rfl⟩, rfl⟩ := h1
      obtain rfl : chks = [] := List.eq_nil_of_length_eq_zero (by omega)
      obtain rfl : srcs = [] := List.eq_nil_of_length_eq_zero (by omega)
      rw [bodyW_plain rfl]
      generalize hl : body3 _ = l
      have hs := Hs.all l
      conv at hs => arg 3; rw [← hl]
      unfold body3 hd7 at hs hl
      simp only [show ¬ (201 : Int) = 200 by decide, if_false, if_true, List.flatMap_nil, List.append_nil] at hs hl
      obtain ⟨b1, a2⟩ := hs.app
      simp only [beN_len, Nat.zero_add] at a2
      have hlen : l.length = 4 + (reps.flatMap rptW).length := by rw [← hl]; simp only [List.length_append, beN_len]
      refine bodyR_of ?_
      unfold bodyK
      rw [if_neg (by decide), if_pos rfl, if_pos (by omega), times_fwd (fun x hx k h => hrp x hx k h) a2, Option.map_some, b1.u32, ← hlen]
      rfl
    · by_cases h202 : kind = 202
      · subst h202
        simp only [show ¬ (202 : Int) = 200 by decide, show ¬ (202 : Int) = 201 by decide, if_false, if_true, Bool.and_eq_true, beq_iff_eq, List.isEmpty_iff, plain7] at h1 ⊢
        obtain ⟨⟨⟨g1, rfl⟩, ⟨⟨rfl, rfl⟩, rfl⟩, rfl⟩, rfl⟩ := h1
        obtain rfl : reps = [] := List.eq_nil_of_length_eq_zero (by omega)
        obtain rfl : srcs = [] := List.eq_nil_of_length_eq_zero (by omega)
        rw [bodyW_plain rfl]
        generalize hl : body3 _ = l
        have hs := Hs.all l
        conv at hs => arg 3; rw [← hl]
        unfold body3 hd7 at hs hl
        simp only [show ¬ (202 : Int) = 200 by decide, show ¬ (202 : Int) = 201 by decide, if_false, List.flatMap_nil, List.append_nil, List.nil_append] at hs hl
        refine bodyR_of ?_
        unfold bodyK
        rw [if_neg (by decide), if_neg (by decide), if_pos rfl, times_fwd (fun x hx k h => hck x hx k h) hs, Option.map_some, Nat.zero_add, hl]
        rfl
      · by_cases h203 : kind = 203
        · subst h203
          simp only [show ¬ (203 : Int) = 200 by decide, show ¬ (203 : Int) = 201 by decide, show ¬ (203 : Int) = 202 by decide, if_false, if_true, Bool.and_eq_true, beq_iff_eq, plain7] at h1 hc ⊢
          obtain ⟨⟨g1, ⟨⟨rfl, rfl⟩, rfl⟩, rfl⟩, rfl⟩ := h1
          obtain rfl : reps = [] := List.eq_nil_of_length_eq_zero (by omega)
          obtain rfl : chks = [] := List.eq_nil_of_length_eq_zero (by omega)
          have hb3 : body3 ⟨203, 0, 0, 0, 0, 0, [], [], srcs, reason⟩ = srcs.flatMap srcW := by
            unfold body3 hd7
            simp only [show ¬ (203 : Int) = 200 by decide, show ¬ (203 : Int) = 201 by decide, if_false, List.flatMap_nil, List.append_nil, List.nil_append]
          by_cases hre : reason = []
          · subst hre
            rw [bodyW_plain rfl, hb3]
            have hs := Hs.all (srcs.flatMap srcW)
            refine bodyR_of ?_
            unfold bodyK
            rw [if_neg (by decide), if_neg (by decide), if_neg (by decide), if_pos rfl, times_fwd (fun x hx k h => src_fwd h) hs]
            simp only [Nat.zero_add]
            unfold reasonR
            rw [if_pos rfl]
            rfl
          · rw [bodyW_pad hre, hb3]
            generalize hl : padW (srcs.flatMap srcW ++ [ib (reason.length : Nat)] ++ reason) = l
            have hs := Hs.all l
            conv at hs => arg 3; rw [← hl]
            unfold padW at hs hl
            obtain ⟨a1, a4⟩ := hs.app
            obtain ⟨a1, a3⟩ := a1.app
            obtain ⟨a1, a2⟩ := a1.app
            have hpos : 0 < reason.length := by cases reason with | nil => exact absurd rfl hre | cons _ _ => simp
            have hsl := srcs_len srcs
            have hpad : padOf ((srcs.flatMap srcW).length + 1 + reason.length) = padOf (reason.length + 1) := by rw [hsl]; unfold padOf; omega
            simp only [List.length_append, List.length_singleton, Nat.zero_add] at a2 a3 a4
            rw [hpad] at a4
            have hlen : l.length = (srcs.flatMap srcW).length + 1 + reason.length + padOf (reason.length + 1) := by rw [← hl]; simp only [List.length_append, List.length_singleton, List.length_replicate]; rw [hpad]
            have e1 : nb l (srcs.flatMap srcW).length 1 = reason.length := by rw [a2.one]; omega
            refine bodyR_of ?_
            unfold bodyK
            rw [if_neg (by decide), if_neg (by decide), if_neg (by decide), if_pos rfl, times_fwd (fun x hx k h => src_fwd h) a1]
            simp only [Nat.zero_add]
            unfold reasonR
            rw [if_neg (by omega), e1, if_neg (by omega), if_pos (by omega), if_pos (zeros_fwd a4), a3.sl, Option.map_some, hlen]
            rfl
        · simp [h200, h201, h202, h203] at h1
theorem kind_in {x : Itm} (hr : right7 x = true) : x.kind = 200 ∨ x.kind = 201 ∨ x.kind = 202 ∨ x.kind = 203 := by
  have h1 := (right7_parts hr).1
  unfold count7 at h1
  by_cases h200 : x.kind = 200
  · exact .inl h200
  · by_cases h201 : x.kind = 201
    · exact .inr (.inl h201)
    · by_cases h202 : x.kind = 202
      · exact .inr (.inr (.inl h202))
      · by_cases h203 : x.kind = 203
        · exact .inr (.inr (.inr h203))
        · simp [h200, h201, h202, h203] at h1
theorem itemW_len (x : Itm) : (itemW x).length = 4 + (bodyW x).length := by unfold itemW; simp only [List.length_append, List.length_singleton, beN_len]
/-- A right item's bytes read as it, whatever stands behind. -/
theorem item_fwd {x : Itm} (hr : right7 x = true) (hl : (bodyW x).length ≤ 1500) (r : List UInt8) : itemR (itemW x ++ r) = .ok (x, (itemW x).length) := by
  have h4 := bodyW_len4 x
  have hc := right7_count hr
  have hk := kind_in hr
  have hlen := itemW_len x
  generalize hL : itemW x ++ r = l
  have hs : Hs l 0 (itemW x) := ⟨r, by rw [hL]; rfl⟩
  have hll := hs.len (by omega)
  unfold itemW at hs
  obtain ⟨a1, b4⟩ := hs.app
  obtain ⟨a1, b3⟩ := a1.app
  obtain ⟨b1, b2⟩ := a1.app
  simp only [List.length_append, List.length_singleton, beN_len, Nat.zero_add, Nat.reduceAdd] at b2 b3 b4
  have e0 : nb l 0 1 = 128 + (count7 x).1 := by rw [b1.one]; omega
  have e1 : ((nb l 1 1 : Nat) : Int) = x.kind := by rw [b2.one]; omega
  have e2 : nb l 2 2 = (bodyW x).length / 4 := by rw [b3.num (by omega)]; omega
  unfold itemR
  rw [if_pos (by omega), if_pos (by omega), if_pos (by omega), if_pos (by omega), e1, e2, show 4 * ((bodyW x).length / 4) = (bodyW x).length by omega, b4.sl, e0, show (128 + (count7 x).1) % 32 = (count7 x).1 by omega, body_fwd hr]
  simp only
  rw [hlen]
theorem each_fwd : ∀ {xs : List Itm} {f : Nat}, (∀ x ∈ xs, right7 x = true) → (xs.flatMap itemW).length ≤ 1500 → (xs.flatMap itemW).length < f → eachR f (xs.flatMap itemW) = .ok xs
  | _, 0, _, _, h => by omega
  | [], f + 1, _, _, _ => rfl
  | x :: xs, f + 1, hr, hl, hf => by
    rw [List.flatMap_cons, List.length_append] at hl hf
    have hlen := itemW_len x
    rw [List.flatMap_cons]
    unfold eachR
    rw [if_neg (by rw [List.length_append]; omega), item_fwd (hr x (by simp)) (by omega)]
    simp only
    rw [List.drop_left, each_fwd (fun y hy => hr y (by simp [hy])) (by omega) (by omega)]
/-- What is written parses as the items. -/
theorem parse_fwd {xs : List Itm} {x : Itm} (h0 : xs.head? = some x) (hb : begins7 x = true) (hr : ∀ x ∈ xs, right7 x = true) (hl : (xs.flatMap itemW).length ≤ 1500) : parse7 (xs.flatMap itemW) = .ok xs := by
  unfold parse7
  rw [if_neg (by omega), each_fwd hr hl (by omega)]
  cases xs with
  | nil => cases h0
  | cons y ys =>
    cases h0
    simp only
    rw [if_pos hb]
/-- What is written, taken apart. -/
theorem write7_ok {xs : List Itm} {l : List UInt8} (h : write7 xs = .ok l) : parse7 l = .ok xs ∧ l = xs.flatMap itemW := by
  rw [write7_eq] at h
  split at h
  · cases h
  · rename_i x hx
    split at h
    · rename_i hb
      split at h
      · rename_i hr
        split at h
        · cases h
        · rename_i hl
          cases h
          exact ⟨parse_fwd hx hb (List.all_eq_true.1 hr) (by omega), rfl⟩
      · cases h
    · cases h
end Go.Proofs.Ytcmpjkopdjncdaa

/- RTCP: a beginning of a compound packet. No program in sight. -/
namespace Go.Proofs.Ytcmpjkopdjncdaa

theorem nb_take7 {l : List UInt8} {k m c : Nat} (h : k + m ≤ c) : nb (l.take c) k m = nb l k m := by
  unfold nb
  rw [List.drop_take, List.take_take, Nat.min_eq_left (by omega)]
theorem itemR_parts {l : List UInt8} {x : Itm} {n : Nat} (h : itemR l = .ok (x, n)) : 4 ≤ l.length ∧ nb l 0 1 / 32 = 4 ∧ n = 4 + 4 * nb l 2 2 ∧ n ≤ l.length ∧ bodyR (nb l 1 1) (nb l 0 1 % 32) ((l.drop 4).take (4 * nb l 2 2)) = some x := by
  unfold itemR at h
  split at h
  · split at h
    · split at h
      · split at h
        · split at h
          · rename_i h1 h2 h3 h4 _ y hy
            cases h
            exact ⟨h3, h2, rfl, h4, hy⟩
          · cases h
        · cases h
      · cases h
    · cases h
  · cases h
theorem itemR_take {l : List UInt8} {x : Itm} {n c : Nat} (h : itemR l = .ok (x, n)) (hc : c ≤ l.length) (hn : n ≤ c) : itemR (l.take c) = .ok (x, n) := by
  obtain ⟨h1, h2, h3, h4, h5⟩ := itemR_parts h
  have hl : (l.take c).length = c := by rw [List.length_take]; omega
  unfold itemR
  rw [hl, nb_take7 (by omega), nb_take7 (by omega), nb_take7 (by omega), if_pos (by omega), if_pos h2, if_pos (by omega), if_pos (by omega)]
  have e : ((l.take c).drop 4).take (4 * nb l 2 2) = (l.drop 4).take (4 * nb l 2 2) := by
    rw [List.drop_take, List.take_take, Nat.min_eq_left (by omega)]
  rw [e, h5, h3]
theorem itemR_short {l : List UInt8} {x : Itm} {n c : Nat} (h : itemR l = .ok (x, n)) (h0 : 0 < c) (hn : c < n) : itemR (l.take c) = .error 20 := by
  obtain ⟨h1, h2, h3, h4, -⟩ := itemR_parts h
  have hl : (l.take c).length = c := by rw [List.length_take]; omega
  unfold itemR
  rw [hl, nb_take7 (by omega), if_pos (by omega), if_pos h2]
  by_cases h5 : 4 ≤ c
  · rw [if_pos h5, nb_take7 (by omega), if_neg (by omega)]
  · rw [if_neg h5]
theorem each_cut : ∀ {f : Nat} {l : List UInt8} {xs : List Itm}, eachR f l = .ok xs → l.length < f → ∀ {f2 c : Nat}, c ≤ l.length → c < f2 →
    eachR f2 (l.take c) = .error 20 ∨ ∃ j, eachR f2 (l.take c) = .ok (xs.take j) ∧ (0 < c → 0 < j ∧ 0 < xs.length)
  | 0, l, xs, h, hl, f2, c, hc, hf => by omega
  | f + 1, l, xs, h, hl, f2, c, hc, hf => by
    obtain ⟨g, rfl⟩ : ∃ g, f2 = g + 1 := ⟨f2 - 1, by omega⟩
    have hlc : (l.take c).length = c := by rw [List.length_take]; omega
    by_cases h0 : c = 0
    · subst h0
      refine .inr ⟨0, ?_, by omega⟩
      unfold eachR
      rw [if_pos hlc]
      rfl
    · unfold eachR at h
      rw [if_neg (by omega)] at h
      cases hi : itemR l with
      | error e => rw [hi] at h; cases h
      | ok p =>
        obtain ⟨x, n⟩ := p
        rw [hi] at h
        simp only at h
        cases he : eachR f (l.drop n) with
        | error e => rw [he] at h; cases h
        | ok ys =>
          rw [he] at h
          cases h
          obtain ⟨p1, p2⟩ := itemR_pos hi
          by_cases hn : n ≤ c
          · have hd : (l.drop n).length = l.length - n := List.length_drop
            have ih := each_cut (f := f) he (by omega) (f2 := g) (c := c - n) (by omega) (by omega)
            have hs : eachR (g + 1) (l.take c) = match eachR g ((l.drop n).take (c - n)) with
                | .error e => .error e
                | .ok xs => .ok (x :: xs) := by
              conv => lhs; unfold eachR
              rw [if_neg (by omega), itemR_take hi hc hn]
              simp only
              rw [List.drop_take]
              cases eachR g (List.take (c - n) (List.drop n l)) <;> rfl
            rcases ih with ih | ⟨j, ih, -⟩
            · left
              rw [hs, ih]
            · right
              refine ⟨j + 1, ?_, fun _ => ⟨by omega, by simp⟩⟩
              rw [hs, ih]
              rfl
          · left
            unfold eachR
            rw [if_neg (by omega), itemR_short hi (by omega) (by omega)]
/-- A beginning of a compound packet: its items, or it is short, or nothing. -/
theorem parse7_cut {l : List UInt8} {xs : List Itm} (h : parse7 l = .ok xs) {c : Nat} (hc : c ≤ l.length) :
    (∃ ys, parse7 (l.take c) = .ok ys) ∨ parse7 (l.take c) = .error 20 ∨ (c = 0 ∧ parse7 (l.take c) = .error 4) := by
  have hlc : (l.take c).length = c := by rw [List.length_take]; omega
  unfold parse7 at h ⊢
  split at h
  · cases h
  rename_i hl
  rw [hlc, if_neg (by omega)]
  cases he : eachR (l.length + 1) l with
  | error e => rw [he] at h; cases h
  | ok zs =>
    rw [he] at h
    cases zs with
    | nil => cases h
    | cons x zs =>
      simp only at h
      split at h
      · rename_i hb
        cases h
        rcases each_cut he (by omega) (f2 := c + 1) hc (by omega) with ih | ⟨j, ih, hj⟩
        · rw [ih]; exact .inr (.inl rfl)
        · rw [ih]
          cases j with
          | zero =>
            refine .inr (.inr ⟨?_, rfl⟩)
            rcases Nat.eq_zero_or_pos c with h0 | h0
            · exact h0
            · have := (hj h0).1; omega
          | succ j =>
            left
            simp only [List.take_succ_cons]
            rw [if_pos hb]
            exact ⟨_, rfl⟩
      · cases h
end Go.Proofs.Ytcmpjkopdjncdaa

/- RTCP: two compound packets, one behind the other. No program in sight. -/
namespace Go.Proofs.Ytcmpjkopdjncdaa

theorem write7_parts {xs : List Itm} {l : List UInt8} (h : write7 xs = .ok l) : ∃ x, xs.head? = some x ∧ begins7 x = true ∧ xs.all right7 = true ∧ l = xs.flatMap itemW ∧ l.length ≤ 1500 := by
  rw [write7_eq] at h
  split at h
  · cases h
  · rename_i x hx
    split at h
    · rename_i hb
      split at h
      · rename_i hr
        split at h
        · cases h
        · rename_i hl
          cases h
          exact ⟨x, hx, hb, hr, rfl, by omega⟩
      · cases h
    · cases h
/-- Both together are parsed as the items of both, and written as both, if they aren't too long. -/
theorem joins7 {xs ys : List Itm} {l1 l2 : List UInt8} (h1 : write7 xs = .ok l1) (h2 : write7 ys = .ok l2) :
    (1500 < (l1 ++ l2).length → parse7 (l1 ++ l2) = .error 2) ∧ (¬ 1500 < (l1 ++ l2).length → parse7 (l1 ++ l2) = .ok (xs ++ ys) ∧ write7 (xs ++ ys) = .ok (l1 ++ l2)) := by
  obtain ⟨x, a1, a2, a3, rfl, -⟩ := write7_parts h1
  obtain ⟨y, b1, b2, b3, rfl, -⟩ := write7_parts h2
  refine ⟨fun h => ?_, fun h => ?_⟩
  · unfold parse7
    rw [if_pos h]
  · have hh : (xs ++ ys).head? = some x := by rw [List.head?_append, a1]; rfl
    have hr : (xs ++ ys).all right7 = true := by rw [List.all_append, a3, b3]; rfl
    have hf : xs.flatMap itemW ++ ys.flatMap itemW = (xs ++ ys).flatMap itemW := by rw [List.flatMap_append]
    rw [hf] at h ⊢
    refine ⟨parse_fwd hh a2 (List.all_eq_true.1 hr) (by omega), ?_⟩
    rw [write7_eq, hh]
    simp only
    rw [if_pos a2, if_pos hr, if_neg h]
end Go.Proofs.Ytcmpjkopdjncdaa
