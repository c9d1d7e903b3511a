import Derived.Test.YtcmpjkopdjncdaaMw40
import Derived.Test.YtcmpjkopdjncdaaMw35
import Derived.Test.YtcmpjkopdjncdaaMw37
import Derived.Test.YtcmpjkopdjncdaaMw41
import Derived.Test.YtcmpjkopdjncdaaMw17
import Derived.Test.YtcmpjkopdjncdaaMw24
/- The walk of confluxref07.Few (printed by gen_7few.py). -/
namespace Go.Proofs.Ytcmpjkopdjncdaa
open Go.RowKit

def fewT (t : Int × List UInt8) : Bool := decide (t.2.length ≤ 300)
def fewC (c : Chk) : Bool := decide (c.texts.length ≤ 10) && c.texts.all fewT
/-- An item of few parts. -/
def few7 (x : Itm) : Bool := decide (x.reps.length ≤ 40) && decide (x.chks.length ≤ 40) && decide (x.srcs.length ≤ 40) && decide (x.reason.length ≤ 300) && x.chks.all fewC
theorem all_take_next {α : Type} {f : α → Bool} {l : List α} {j : Nat} {y : α} (hy : l[j]? = some y) (h : (l.take j).all f = true) (hf : f y = true) : (l.take (j + 1)).all f = true := by
  rw [List.take_add_one, hy]
  simp only [Option.toList_some, List.all_append, List.all_cons, List.all_nil, Bool.and_true, h, hf]
theorem all_no {α : Type} {f : α → Bool} {l : List α} {y : α} (hy : y ∈ l) (hf : f y = false) : l.all f = false := by
  rw [List.all_eq_false]
  exact ⟨y, hy, by rw [hf]; simp⟩
set_option maxRecDepth 100000 in
set_option maxHeartbeats 8000000 in
theorem r07Few_any {w : World} {x : Itm} {vr vc vs : Value} {Bc : List Nat} (hr : SlEls 7 RptR w vr x.reps []) (hc : SlEls 2 ChkR w vc x.chks Bc) (hs : SlEls 1 SrcR w vs x.srcs []) :
    Calls Try.prog 28 #[.agg (itc x vr vc vs)] w fun e w' => e = .returned (.bool (few7 x)) ∧ Fr [] w w' := by
  obtain ⟨ar, cr, rfl⟩ := hr.shape
  obtain ⟨ac, cc, rfl⟩ := hc.shape
  obtain ⟨as_, cs, rfl⟩ := hs.shape
  obtain ⟨w1, e1, hF1, hB1, hs1⟩ := one_new w (itc x (.slice ar x.reps.length cr) (.slice ac x.chks.length cc) (.slice as_ x.srcs.length cs)) 52
  have HF := Lib.hid hF1; have E1 := Lib.hid e1; have HB := Lib.hid hB1
  have HR := Lib.hid (hr.keep Rep.rpt hF1); have HC := Lib.hid (hc.keep Rep.chk hF1); have HS := Lib.hid (hs.keep Rep.src hF1)
  clear hF1 hB1 e1 hs1 hr hc hs
  have x6 := HB.out.cell 6; have x7 := HB.out.cell 7; have x8 := HB.out.cell 8; have x9 := HB.out.cell 9
  simp only [itc, List.getElem?_toArray, List.getElem?_cons_succ, List.getElem?_cons_zero] at x6 x7 x8 x9
  have hsz := strB_size x.reason
  obtain ⟨nr, hnr⟩ : ∃ n, x.reps.length = n := ⟨_, rfl⟩
  obtain ⟨nc, hnc⟩ : ∃ n, x.chks.length = n := ⟨_, rfl⟩
  obtain ⟨ns, hns⟩ : ∃ n, x.srcs.length = n := ⟨_, rfl⟩
  obtain ⟨nz, hnz⟩ : ∃ n, x.reason.length = n := ⟨_, rfl⟩
  have HNR := Lib.hid hnr; have HNC := Lib.hid hnc; have HNS := Lib.hid hns; have HNZ := Lib.hid hnz
  rw [hnz] at hsz
  rw [hnr] at x6
  rw [hnc] at x7 HC
  rw [hns] at x8
  rw [hnr, hnc, hns] at E1 HB
  rw [hnr] at HR
  rw [hns] at HS
  rw [hnr, hnc, hns]
  clear hnr hnc hns hnz
  go_enter Try.func28, Try.ntmps28
  go_upto_region 1 with fail
  rw [E1.out]
  clear E1
  by_cases h0 : nr ≤ 40
  rotate_left
  · have t0 : (40 : Int) < ((nr : Nat) : Int) := by omega
    have HX : Hid (few7 x = false) := Lib.hid (by unfold few7; rw [HNR.out, decide_eq_false (p := nr ≤ 40) (by omega)]; simp)
    clear h0 HR HC HS HB
    go_wp2_with fail
    go_ret
    exact ⟨ret_bool HX.out.symm, HF.out⟩
  have t0 : ¬ ((40 : Int) < ((nr : Nat) : Int)) := by omega
  by_cases h1 : nc ≤ 40
  rotate_left
  · have t1 : (40 : Int) < ((nc : Nat) : Int) := by omega
    have HX : Hid (few7 x = false) := Lib.hid (by unfold few7; rw [HNC.out, decide_eq_false (p := nc ≤ 40) (by omega)]; simp)
    clear h1 HR HC HS HB
    go_wp2_with fail
    go_ret
    exact ⟨ret_bool HX.out.symm, HF.out⟩
  have t1 : ¬ ((40 : Int) < ((nc : Nat) : Int)) := by omega
  by_cases h2 : ns ≤ 40
  rotate_left
  · have t2 : (40 : Int) < ((ns : Nat) : Int) := by omega
    have HX : Hid (few7 x = false) := Lib.hid (by unfold few7; rw [HNS.out, decide_eq_false (p := ns ≤ 40) (by omega)]; simp)
    clear h2 HR HC HS HB
    go_wp2_with fail
    go_ret
    exact ⟨ret_bool HX.out.symm, HF.out⟩
  have t2 : ¬ ((40 : Int) < ((ns : Nat) : Int)) := by omega
  by_cases h3 : nz ≤ 300
  rotate_left
  · have t3 : (300 : Int) < ((nz : Nat) : Int) := by omega
    have HX : Hid (few7 x = false) := Lib.hid (by unfold few7; rw [HNZ.out, decide_eq_false (p := nz ≤ 300) (by omega)]; simp)
    clear h3 HR HC HS HB
    go_wp2_with fail
    go_ret
    exact ⟨ret_bool HX.out.symm, HF.out⟩
  have t3 : ¬ ((300 : Int) < ((nz : Nat) : Int)) := by omega
  have HFX : Hid (few7 x = x.chks.all fewC) := Lib.hid (by unfold few7; rw [HNR.out, HNC.out, HNS.out, HNZ.out, decide_eq_true h0, decide_eq_true h1, decide_eq_true h2, decide_eq_true h3]; simp)
  clear h0 h2 h3
  go_upto_region 4 with fail
  clear t0 t1 t2 t3 x6 x7 x8 x9 hsz HR HS
  go_loopw [3] (fun i wr => ∃ j : Nat, j ≤ nc ∧ i = .int .i64 j ∧ (x.chks.take j).all fewC = true ∧ Fr [] w1 wr) (fun i _ => nc - (intOf i).toNat)
  case atStart => exact ⟨0, Nat.zero_le _, rfl, rfl, Fr.refl _ _⟩
  case round =>
    obtain ⟨j, hj, rfl, htk, hF⟩ := hrel
    have HT := Lib.hid htk; have HB := Lib.hid (HB.out.keep hF); have HC := Lib.hid (HC.out.keep Rep.chk hF); have HF2 := Lib.hid (HF.out.trans hF); have HFW := Lib.hid hF
    clear htk hF
    have x7 := HB.out.cell 7
    simp only [itc, List.getElem?_toArray, List.getElem?_cons_succ, List.getElem?_cons_zero] at x7
    by_cases hlt : j < nc
    · obtain ⟨b, o, k, y, B1, ea, -, hy, ⟨vt, rfl, ht, -⟩, -, hrg⟩ := HC.out.at_ Rep.chk (i := j) hlt
      subst ea
      obtain ⟨at_, ct, rfl⟩ := ht.shape
      have HRG := Lib.hid hrg; have HTX := Lib.hid ht; have HY := Lib.hid hy
      obtain ⟨nt, hnt⟩ : ∃ n, y.texts.length = n := ⟨_, rfl⟩
      rw [hnt] at HRG HTX
      have HNT := Lib.hid hnt
      clear hrg ht hy hnt
      have y1 := HRG.out 1 _ rfl
      have y1 : wr.cell? ⟨b, o + j * 2 + 1, none⟩ = some (.slice at_ nt ct) := y1
      by_cases h10 : nt ≤ 10
      rotate_left
      · have t0 : (10 : Int) < ((nt : Nat) : Int) := by omega
        have HX : Hid (few7 x = false) := Lib.hid (by rw [HFX.out]; exact all_no (List.mem_of_getElem? HY.out) (by unfold fewC; rw [HNT.out, decide_eq_false h10]; rfl))
        clear h10
        go_wp2_with fail
        go_ret
        exact ⟨ret_bool HX.out.symm, HF2.out⟩
      have t0 : ¬ ((10 : Int) < ((nt : Nat) : Int)) := by omega
      have HT0 : Hid (nt ≤ 10) := Lib.hid h10
      go_upto_region 9 with fail
      clear t0 x7 y1
      go_loopw [4] (fun i wz => ∃ k : Nat, k ≤ nt ∧ i = .int .i64 k ∧ (y.texts.take k).all fewT = true ∧ Fr [] wr wz) (fun i _ => nt - (intOf i).toNat)
      case atStart => exact ⟨0, Nat.zero_le _, rfl, rfl, Fr.refl _ _⟩
      case round =>
        obtain ⟨k, hk, rfl, htk, hF⟩ := hrel
        have HTT := Lib.hid htk; have HB := Lib.hid (HB.out.keep hF); have HTX := Lib.hid (HTX.out.keep Rep.txt hF); have HFV := Lib.hid hF
        have HRG := Lib.hid (fr_rng hF HRG.out)
        clear htk hF
        have x7 := HB.out.cell 7
        simp only [itc, List.getElem?_toArray, List.getElem?_cons_succ, List.getElem?_cons_zero] at x7
        have y1 := HRG.out 1 _ rfl
        rename World => wz
        have y1 : wz.cell? ⟨b, o + j * 2 + 1, none⟩ = some (.slice at_ nt ct) := y1
        by_cases hlk : k < nt
        · obtain ⟨b2, o2, k2, z, B4, eb, -, hz, ⟨rfl, -⟩, -, hrg2⟩ := HTX.out.at_ Rep.txt (i := k) hlk
          subst eb
          have HZ := Lib.hid hz
          have z1 : wz.cell? ⟨b2, o2 + k * 2 + 1, none⟩ = some (.string (strB z.2)) := hrg2 1 _ rfl
          clear hrg2 hz
          have hsz := strB_size z.2
          obtain ⟨q, hq⟩ : ∃ n, z.2.length = n := ⟨_, rfl⟩
          rw [hq] at hsz
          have HQ := Lib.hid hq
          clear hq
          by_cases h300 : q ≤ 300
          · have t0 : ¬ ((300 : Int) < ((q : Nat) : Int)) := by omega
            have HE : Hid (fewT z = true) := Lib.hid (by unfold fewT; rw [HQ.out]; exact decide_eq_true h300)
            clear h300
            go_wp2_with fail
            refine ⟨⟨k + 1, by omega, by go_num, all_take_next HZ.out HTT.out HE.out, HFV.out⟩, by simp [intOf]; omega⟩
          · have t0 : (300 : Int) < ((q : Nat) : Int) := by omega
            have HX : Hid (few7 x = false) := Lib.hid (by rw [HFX.out]; exact all_no (List.mem_of_getElem? HY.out) (by unfold fewC; rw [all_no (List.mem_of_getElem? HZ.out) (by unfold fewT; rw [HQ.out]; exact decide_eq_false h300)]; simp))
            clear h300
            go_wp2_with fail
            go_ret
            exact ⟨ret_bool HX.out.symm, HF2.out.trans HFV.out⟩
        · obtain rfl : k = nt := by omega
          have hT := HTT.out
          rw [List.take_of_length_le (by rw [HNT.out]; exact Nat.le_refl _)] at hT
          have HE : Hid (fewC y = true) := Lib.hid (by unfold fewC; rw [hT, HNT.out, decide_eq_true HT0.out]; rfl)
          clear hT
          go_wp2_with fail
          refine ⟨⟨j + 1, by omega, by go_num, all_take_next HY.out HT.out HE.out, HFW.out.trans HFV.out⟩, by simp [intOf]; omega⟩
    · obtain rfl : j = nc := by omega
      have hT := HT.out
      rw [List.take_of_length_le (by rw [HNC.out]; exact Nat.le_refl _)] at hT
      have HX : Hid (few7 x = true) := Lib.hid (by rw [HFX.out, hT])
      clear hT
      go_wp2_with fail
      go_ret
      exact ⟨ret_bool HX.out.symm, HF2.out⟩
end Go.Proofs.Ytcmpjkopdjncdaa

/- RTCP: what is written reads as the same. No program in sight. -/
namespace Go.Proofs.Ytcmpjkopdjncdaa

/-- These bytes stand there. -/
def Hs (l : List UInt8) (k : Nat) (p : List UInt8) : Prop := p <+: l.drop k
theorem Hs.app {l : List UInt8} {k : Nat} {a b : List UInt8} (h : Hs l k (a ++ b)) : Hs l k a ∧ Hs l (k + a.length) b := by
  obtain ⟨r, hr⟩ := h
  refine ⟨⟨b ++ r, by rw [← hr, List.append_assoc]⟩, r, ?_⟩
  rw [← List.drop_drop, ← hr, List.append_assoc, List.drop_left]
theorem Hs.len {l : List UInt8} {k : Nat} {p : List UInt8} (h : Hs l k p) (hp : 0 < p.length) : k + p.length ≤ l.length := by
  have := h.length_le
  rw [List.length_drop] at this
  omega
theorem Hs.num {l : List UInt8} {k n m : Nat} (h : Hs l k (beN n m)) (hn : n < 256 ^ m) : nb l k m = n := by
  obtain ⟨r, hr⟩ := h
  have h1 := nb_drop l k 0 m
  rw [Nat.add_zero, ← hr] at h1
  have h2 := nb_at (a := []) (b := r) (k := 0) (n := n) (m := m) rfl
  rw [List.nil_append] at h2
  rw [← h1, h2, Nat.mod_eq_of_lt hn]
theorem Hs.sl {l : List UInt8} {k : Nat} {p : List UInt8} (h : Hs l k p) : (l.drop k).take p.length = p := by
  obtain ⟨r, hr⟩ := h
  rw [← hr, List.take_left]
theorem Hs.u32 {l : List UInt8} {k : Nat} {n : UInt32} (h : Hs l k (beN n.toNat 4)) : l32 l k = n := by
  unfold l32
  rw [h.num (by have := n.toNat_lt; omega)]
  simp
theorem Hs.u64 {l : List UInt8} {k : Nat} {n : UInt64} (h : Hs l k (beN n.toNat 8)) : l64 l k = n := by
  unfold l64
  rw [h.num (by have := n.toNat_lt; omega)]
  simp
theorem Hs.one {l : List UInt8} {k : Nat} {z : Int} (h : Hs l k [ib z]) : nb l k 1 = (z % 256).toNat := by
  have h1 : [ib z] = beN (z % 256).toNat 1 := by
    rw [← ib_beN]
    congr 1
    apply ib_mod
    omega
  rw [h1] at h
  exact h.num (by omega)
theorem rpt_fwd {l : List UInt8} {k : Nat} {x : Rpt} (h : Hs l k (rptW x)) (hr : rightRp x = true) : rpt1 l k = some (x, k + (rptW x).length) := by
  have hlen : (rptW x).length = 24 := by unfold rptW rptHead rptTail; simp only [List.length_append, beN_len, List.flatMap_cons, List.flatMap_nil, List.length_singleton, List.length_nil]
  have h0 := h.len (by omega)
  unfold rightRp at hr
  simp only [Bool.and_eq_true, decide_eq_true_eq] at hr
  unfold rptW rptHead rptTail at h
  simp only [List.flatMap_cons, List.flatMap_nil, List.append_nil] at h
  obtain ⟨h1, h2⟩ := h.app
  obtain ⟨h1, b4⟩ := h1.app
  obtain ⟨h1, b3⟩ := h1.app
  obtain ⟨b1, b2⟩ := h1.app
  obtain ⟨b5, h2⟩ := h2.app
  obtain ⟨b6, h2⟩ := h2.app
  obtain ⟨b7, b8⟩ := h2.app
  simp only [List.length_append, beN_len, List.length_singleton, Nat.add_assoc, Nat.reduceAdd] at b2 b3 b4 b5 b6 b7 b8
  unfold rpt1
  rw [hlen] at h0 ⊢
  rw [if_pos h0]
  unfold rptAt
  rw [b1.u32, b5.u32, b6.u32, b7.u32, b8.u32, b2.one, b3.one, b4.num (by omega)]
  have e1 : (((x.loss % 256).toNat : Nat) : Int) = x.loss := by omega
  have e2 : sgn24 ((x.lost / 65536 % 256).toNat * 65536 + (x.lost % 65536).toNat) = x.lost := by unfold sgn24; split <;> omega
  rw [e1, e2]
theorem zeros_fwd {l : List UInt8} : ∀ {m k : Nat}, Hs l k (List.replicate m 0) → zerosR l m k = true
  | 0, k, _ => rfl
  | m + 1, k, h => by
    have h0 := h.len (by simp)
    rw [List.length_replicate] at h0
    rw [show m + 1 = 1 + m by omega, ← List.replicate_append_replicate] at h
    obtain ⟨h1, h2⟩ := h.app
    have h3 : nb l k 1 = 0 := Hs.num (n := 0) (m := 1) h1 (by decide)
    have h4 := zeros_fwd h2
    rw [List.length_replicate] at h4
    unfold zerosR
    rw [h3, decide_eq_true (by omega), h4]
    rfl
theorem texts_fwd {l : List UInt8} : ∀ {ts : List (Int × List UInt8)} {f k : Nat}, Hs l k (ts.flatMap txtW ++ [0]) → (∀ t ∈ ts, 1 ≤ t.1 ∧ t.1 ≤ 255 ∧ t.2.length ≤ 255) → l.length < k + f → textsR l f k = some (ts, k + (ts.flatMap txtW ++ [0]).length)
  | ts, 0, k, h, _, hf => by have := h.len (by simp); omega
  | [], f + 1, k, h, _, hf => by
    have h0 := h.len (by simp)
    have h3 : nb l k 1 = 0 := Hs.num (n := 0) (m := 1) h (by decide)
    simp at h0
    rw [textsR_succ, if_pos h0, if_pos h3]
    rfl
  | t :: ts, f + 1, k, h, ht, hf => by
    have h0 := h.len (by rw [List.length_append, List.length_singleton]; omega)
    obtain ⟨g1, g2, g3⟩ := ht t (by simp)
    rw [List.flatMap_cons, List.append_assoc] at h
    obtain ⟨h1, h2⟩ := h.app
    have hl0 := h2.len (by simp)
    have htl : (txtW t).length = 2 + t.2.length := by unfold txtW; simp; omega
    rw [htl] at h2 hl0
    unfold txtW at h1
    rw [show [ib t.1, ib (t.2.length : Nat)] = [ib t.1] ++ [ib (t.2.length : Nat)] from rfl] at h1
    obtain ⟨h1, c3⟩ := h1.app
    obtain ⟨c1, c2⟩ := h1.app
    simp only [List.length_append, List.length_singleton, Nat.reduceAdd] at c2 c3 hl0
    have e1 : nb l k 1 = t.1.toNat := by rw [c1.one]; omega
    have e2 : nb l (k + 1) 1 = t.2.length := by rw [c2.one]; omega
    rw [textsR_succ, if_pos (by omega), e1, e2, if_neg (by omega), if_pos (by omega), if_pos (by omega), texts_fwd (ts := ts) (by rw [show k + 2 + t.2.length = k + (2 + t.2.length) by omega]; exact h2) (fun t ht' => ht t (by simp [ht'])) (by omega), c3.sl]
    simp only [Option.map_some]
    have e3 : ((t.1.toNat : Nat) : Int) = t.1 := by omega
    rw [e3]
    simp only [List.flatMap_cons, List.length_append, htl]
    congr 2
    omega
theorem right_texts {x : Chk} (h : rightCk x = true) : ∀ t ∈ x.texts, 1 ≤ t.1 ∧ t.1 ≤ 255 ∧ t.2.length ≤ 255 := by
  unfold rightCk at h
  rw [Bool.not_eq_true', List.any_eq_false] at h
  intro t ht
  have := h t ht
  unfold wrongTx at this
  simp only [Bool.or_eq_true, decide_eq_true_eq] at this
  omega
theorem chk_fwd {l : List UInt8} {k : Nat} {x : Chk} (h : Hs l k (chkW x)) (hr : rightCk x = true) : chk1 l k = some (x, k + (chkW x).length) := by
  unfold chkW at h ⊢
  obtain ⟨h0, hz⟩ := h.app
  have hlen : (chkW0 x).length = 4 + (x.texts.flatMap txtW ++ [0]).length := by unfold chkW0; simp only [List.length_append, beN_len]; omega
  unfold chkW0 at h0
  rw [List.append_assoc] at h0
  obtain ⟨h1, h2⟩ := h0.app
  rw [beN_len] at h2
  have h4 := h1.len (by rw [beN_len]; omega)
  rw [beN_len] at h4
  have ht : textsR l (l.length + 1) (k + 4) = some (x.texts, k + (chkW0 x).length) := (texts_fwd h2 (right_texts hr) (by omega)).trans (by rw [hlen]; congr 2; omega)
  unfold chk1
  rw [if_pos h4, ht]
  simp only
  rw [show k + (chkW0 x).length - k = (chkW0 x).length by omega, if_pos (zeros_fwd hz), h1.u32, List.length_append, List.length_replicate, Nat.add_assoc]
theorem src_fwd {l : List UInt8} {k : Nat} {x : UInt32} (h : Hs l k (srcW x)) : src1 l k = some (x, k + (srcW x).length) := by
  unfold srcW at h ⊢
  have h4 := h.len (by rw [beN_len]; omega)
  rw [beN_len] at h4 ⊢
  unfold src1
  rw [if_pos h4, h.u32]
theorem times_fwd {α : Type} {l : List UInt8} {P : Nat → Option (α × Nat)} {W : α → List UInt8} : ∀ {xs : List α} {k : Nat}, (∀ x ∈ xs, ∀ k, Hs l k (W x) → P k = some (x, k + (W x).length)) → Hs l k (xs.flatMap W) → timesR P xs.length k = some (xs, k + (xs.flatMap W).length)
  | [], k, _, _ => rfl
  | x :: xs, k, hP, h => by
    rw [List.flatMap_cons] at h
    obtain ⟨h1, h2⟩ := h.app
    rw [List.length_cons]
    unfold timesR
    rw [hP x (by simp) k h1]
    simp only
    rw [times_fwd (fun y hy => hP y (by simp [hy])) h2]
    simp only [Option.map_some, List.flatMap_cons, List.length_append]
    congr 2
    omega
end Go.Proofs.Ytcmpjkopdjncdaa

/- RTCP: what is written reads as the same: items. No program in sight. -/
namespace Go.Proofs.Ytcmpjkopdjncdaa

theorem Hs.all (l : List UInt8) : Hs l 0 l := ⟨[], by simp⟩
theorem bodyR_of {kind : Int} {n : Nat} {l : List UInt8} {x : Itm} (h : bodyK kind n l = some (x, l.length)) : bodyR kind n l = some x := by
  unfold bodyR
  rw [h]
  simp
theorem srcs_len : ∀ (srcs : List UInt32), (srcs.flatMap srcW).length = 4 * srcs.length
  | [] => rfl
  | s :: ss => by rw [List.flatMap_cons, List.length_append, srcs_len ss]; unfold srcW; rw [beN_len, List.length_cons]; omega
theorem flat_four {α : Type} (W : α → List UInt8) : ∀ (xs : List α), (∀ x ∈ xs, (W x).length % 4 = 0) → (xs.flatMap W).length % 4 = 0
  | [], _ => rfl
  | x :: xs, h => by rw [List.flatMap_cons, List.length_append]; have h1 := h x (by simp); have h2 := flat_four W xs (fun y hy => h y (by simp [hy])); omega
theorem body3_len4 (x : Itm) : (body3 x).length % 4 = 0 := by
  have h1 := flat_four rptW x.reps (fun x _ => by unfold rptW rptHead rptTail; simp only [List.length_append, beN_len, List.flatMap_cons, List.flatMap_nil, List.length_singleton, List.length_nil])
  have h2 := flat_four chkW x.chks (fun x _ => by unfold chkW padOf; simp only [List.length_append, List.length_replicate]; omega)
  have h3 := srcs_len x.srcs
  have h4 : (hd7 x).length % 4 = 0 := by
    unfold hd7
    split
    · simp only [List.length_append, beN_len]
    · split
      · rw [beN_len]
      · rfl
  unfold body3
  simp only [List.length_append]
  omega
theorem bodyW_len4 (x : Itm) : (bodyW x).length % 4 = 0 := by
  unfold bodyW
  split
  · exact body3_len4 x
  · unfold padW padOf
    simp only [List.length_append, List.length_replicate]
    omega
/-- A right item's body reads as it. -/
theorem body_fwd {x : Itm} (hr : right7 x = true) : bodyR x.kind (count7 x).1 (bodyW x) = some x := by
  have hp := right7_parts hr
  have hc := right7_count hr
  obtain ⟨kind, ssrc, ntp, ts, pks, ocs, reps, chks, srcs, reason⟩ := x
  obtain ⟨h1, h2, h3⟩ := hp
  simp only at h2 h3
  have hrp : ∀ x ∈ reps, ∀ {l : List UInt8} (k : Nat), Hs l k (rptW x) → rpt1 l k = some (x, k + (rptW x).length) := fun x hx l k h => rpt_fwd h (h2 x hx)
  have hck : ∀ x ∈ chks, ∀ {l : List UInt8} (k : Nat), Hs l k (chkW x) → chk1 l k = some (x, k + (chkW x).length) := fun x hx l k h => chk_fwd h (h3 x hx)
  unfold count7 at h1 hc ⊢
  simp only at h1 hc ⊢
  by_cases h200 : kind = 200
  · subst h200
    simp only [if_true, Bool.and_eq_true, beq_iff_eq, List.isEmpty_iff] at h1 ⊢
    obtain ⟨g1, rfl⟩ := h1
    obtain rfl : chks = [] := List.eq_nil_of_length_eq_zero (by omega)
    obtain rfl : srcs = [] := List.eq_nil_of_length_eq_zero (by omega)
    rw [bodyW_plain rfl]
    generalize hl : body3 _ = l
    have hs := Hs.all l
    conv at hs => arg 3; rw [← hl]
    unfold body3 hd7 at hs hl
    simp only [if_true, List.flatMap_nil, List.append_nil] at hs hl
    obtain ⟨a1, a2⟩ := hs.app
    obtain ⟨a1, b5⟩ := a1.app
    obtain ⟨a1, b4⟩ := a1.app
    obtain ⟨a1, b3⟩ := a1.app
    obtain ⟨b1, b2⟩ := a1.app
    simp only [List.length_append, beN_len, Nat.zero_add, Nat.reduceAdd] at b2 b3 b4 b5 a2
    have hlen : l.length = 24 + (reps.flatMap rptW).length := by rw [← hl]; simp only [List.length_append, beN_len]
    refine bodyR_of ?_
    unfold bodyK
    rw [if_pos rfl, if_pos (by omega), times_fwd (fun x hx k h => hrp x hx k h) a2, Option.map_some, b1.u32, b2.u64, b3.u32, b4.u32, b5.u32, ← hlen]
    rfl
  · by_cases h201 : kind = 201
    · subst h201
      simp only [show ¬ (201 : Int) = 200 by decide, if_false, if_true, Bool.and_eq_true, beq_iff_eq, List.isEmpty_iff, plain7] at h1 ⊢
      obtain ⟨⟨g1, rfl⟩, ⟨⟨rfl, rfl⟩, rfl⟩, rfl⟩ := h1
      obtain rfl : chks = [] := List.eq_nil_of_length_eq_zero (by omega)
      obtain rfl : srcs = [] := List.eq_nil_of_length_eq_zero (by omega)
      rw [bodyW_plain rfl]
      generalize hl : body3 _ = l
      have hs := Hs.all l
      conv at hs => arg 3; rw [← hl]
      unfold body3 hd7 at hs hl
      simp only [show ¬ (201 : Int) = 200 by decide, if_false, if_true, List.flatMap_nil, List.append_nil] at hs hl
      obtain ⟨b1, a2⟩ := hs.app
      simp only [beN_len, Nat.zero_add] at a2
      have hlen : l.length = 4 + (reps.flatMap rptW).length := by rw [← hl]; simp only [List.length_append, beN_len]
      refine bodyR_of ?_
      unfold bodyK
      rw [if_neg (by decide), if_pos rfl, if_pos (by omega), times_fwd (fun x hx k h => hrp x hx k h) a2, Option.map_some, b1.u32, ← hlen]
      rfl
    · by_cases h202 : kind = 202
      · subst h202
        simp only [show ¬ (202 : Int) = 200 by decide, show ¬ (202 : Int) = 201 by decide, if_false, if_true, Bool.and_eq_true, beq_iff_eq, List.isEmpty_iff, plain7] at h1 ⊢
        obtain ⟨⟨⟨g1, rfl⟩, ⟨⟨rfl, rfl⟩, rfl⟩, rfl⟩, rfl⟩ := h1
        obtain rfl : reps = [] := List.eq_nil_of_length_eq_zero (by omega)
        obtain rfl : srcs = [] := List.eq_nil_of_length_eq_zero (by omega)
        rw [bodyW_plain rfl]
        generalize hl : body3 _ = l
        have hs := Hs.all l
        conv at hs => arg 3; rw [← hl]
        unfold body3 hd7 at hs hl
        simp only [show ¬ (202 : Int) = 200 by decide, show ¬ (202 : Int) = 201 by decide, if_false, List.flatMap_nil, List.append_nil, List.nil_append] at hs hl
        refine bodyR_of ?_
        unfold bodyK
        rw [if_neg (by decide), if_neg (by decide), if_pos rfl, times_fwd (fun x hx k h => hck x hx k h) hs, Option.map_some, Nat.zero_add, hl]
        rfl
      · by_cases h203 : kind = 203
        · subst h203
          simp only [show ¬ (203 : Int) = 200 by decide, show ¬ (203 : Int) = 201 by decide, show ¬ (203 : Int) = 202 by decide, if_false, if_true, Bool.and_eq_true, beq_iff_eq, plain7] at h1 hc ⊢
          obtain ⟨⟨g1, ⟨⟨rfl, rfl⟩, rfl⟩, rfl⟩, rfl⟩ := h1
          obtain rfl : reps = [] := List.eq_nil_of_length_eq_zero (by omega)
          obtain rfl : chks = [] := List.eq_nil_of_length_eq_zero (by omega)
          have hb3 : body3 ⟨203, 0, 0, 0, 0, 0, [], [], srcs, reason⟩ = srcs.flatMap srcW := by
            unfold body3 hd7
            simp only [show ¬ (203 : Int) = 200 by decide, show ¬ (203 : Int) = 201 by decide, if_false, List.flatMap_nil, List.append_nil, List.nil_append]
          by_cases hre : reason = []
          · subst hre
            rw [bodyW_plain rfl, hb3]
            have hs := Hs.all (srcs.flatMap srcW)
            refine bodyR_of ?_
            unfold bodyK
            rw [if_neg (by decide), if_neg (by decide), if_neg (by decide), if_pos rfl, times_fwd (fun x hx k h => src_fwd h) hs]
            simp only [Nat.zero_add]
            unfold reasonR
            rw [if_pos rfl]
            rfl
          · rw [bodyW_pad hre, hb3]
            generalize hl : padW (srcs.flatMap srcW ++ [ib (reason.length : Nat)] ++ reason) = l
            have hs := Hs.all l
            conv at hs => arg 3; rw [← hl]
            unfold padW at hs hl
            obtain ⟨a1, a4⟩ := hs.app
            obtain ⟨a1, a3⟩ := a1.app
            obtain ⟨a1, a2⟩ := a1.app
            have hpos : 0 < reason.length := by cases reason with | nil => exact absurd rfl hre | cons _ _ => simp
            have hsl := srcs_len srcs
            have hpad : padOf ((srcs.flatMap srcW).length + 1 + reason.length) = padOf (reason.length + 1) := by rw [hsl]; unfold padOf; omega
            simp only [List.length_append, List.length_singleton, Nat.zero_add] at a2 a3 a4
            rw [hpad] at a4
            have hlen : l.length = (srcs.flatMap srcW).length + 1 + reason.length + padOf (reason.length + 1) := by rw [← hl]; simp only [List.length_append, List.length_singleton, List.length_replicate]; rw [hpad]
            have e1 : nb l (srcs.flatMap srcW).length 1 = reason.length := by rw [a2.one]; omega
            refine bodyR_of ?_
            unfold bodyK
            rw [if_neg (by decide), if_neg (by decide), if_neg (by decide), if_pos rfl, times_fwd (fun x hx k h => src_fwd h) a1]
            simp only [Nat.zero_add]
            unfold reasonR
            rw [if_neg (by omega), e1, if_neg (by omega), if_pos (by omega), if_pos (zeros_fwd a4), a3.sl, Option.map_some, hlen]
            rfl
        · simp [h200, h201, h202, h203] at h1
theorem kind_in {x : Itm} (hr : right7 x = true) : x.kind = 200 ∨ x.kind = 201 ∨ x.kind = 202 ∨ x.kind = 203 := by
  have h1 := (right7_parts hr).1
  unfold count7 at h1
  by_cases h200 : x.kind = 200
  · exact .inl h200
  · by_cases h201 : x.kind = 201
    · exact .inr (.inl h201)
    · by_cases h202 : x.kind = 202
      · exact .inr (.inr (.inl h202))
      · by_cases h203 : x.kind = 203
        · exact .inr (.inr (.inr h203))
        · simp [h200, h201, h202, h203] at h1
theorem itemW_len (x : Itm) : (itemW x).length = 4 + (bodyW x).length := by unfold itemW; simp only [List.length_append, List.length_singleton, beN_len]
/-- A right item's bytes read as it, whatever stands behind. -/
theorem item_fwd {x : Itm} (hr : right7 x = true) (hl : (bodyW x).length ≤ 1500) (r : List UInt8) : itemR (itemW x ++ r) = .ok (x, (itemW x).length) := by
  have h4 := bodyW_len4 x
  have hc := right7_count hr
  have hk := kind_in hr
  have hlen := itemW_len x
  generalize hL : itemW x ++ r = l
  have hs : Hs l 0 (itemW x) := ⟨r, by rw [hL]; rfl⟩
  have hll := hs.len (by omega)
  unfold itemW at hs
  obtain ⟨a1, b4⟩ := hs.app
  obtain ⟨a1, b3⟩ := a1.app
  obtain ⟨b1, b2⟩ := a1.app
  simp only [List.length_append, List.length_singleton, beN_len, Nat.zero_add, Nat.reduceAdd] at b2 b3 b4
  have e0 : nb l 0 1 = 128 + (count7 x).1 := by rw [b1.one]; omega
  have e1 : ((nb l 1 1 : Nat) : Int) = x.kind := by rw [b2.one]; omega
  have e2 : nb l 2 2 = (bodyW x).length / 4 := by rw [b3.num (by omega)]; omega
  unfold itemR
  rw [if_pos (by omega), if_pos (by omega), if_pos (by omega), if_pos (by omega), e1, e2, show 4 * ((bodyW x).length / 4) = (bodyW x).length by omega, b4.sl, e0, show (128 + (count7 x).1) % 32 = (count7 x).1 by omega, body_fwd hr]
  simp only
  rw [hlen]
theorem each_fwd : ∀ {xs : List Itm} {f : Nat}, (∀ x ∈ xs, right7 x = true) → (xs.flatMap itemW).length ≤ 1500 → (xs.flatMap itemW).length < f → eachR f (xs.flatMap itemW) = .ok xs
  | _, 0, _, _, h => by omega
  | [], f + 1, _, _, _ => rfl
  | x :: xs, f + 1, hr, hl, hf => by
    rw [List.flatMap_cons, List.length_append] at hl hf
    have hlen := itemW_len x
    rw [List.flatMap_cons]
    unfold eachR
    rw [if_neg (by rw [List.length_append]; omega), item_fwd (hr x (by simp)) (by omega)]
    simp only
    rw [List.drop_left, each_fwd (fun y hy => hr y (by simp [hy])) (by omega) (by omega)]
/-- What is written parses as the items. -/
theorem parse_fwd {xs : List Itm} {x : Itm} (h0 : xs.head? = some x) (hb : begins7 x = true) (hr : ∀ x ∈ xs, right7 x = true) (hl : (xs.flatMap itemW).length ≤ 1500) : parse7 (xs.flatMap itemW) = .ok xs := by
  unfold parse7
  rw [if_neg (by omega), each_fwd hr hl (by omega)]
  cases xs with
  | nil => cases h0
  | cons y ys =>
    cases h0
    simp only
    rw [if_pos hb]
/-- What is written, taken apart. -/
theorem write7_ok {xs : List Itm} {l : List UInt8} (h : write7 xs = .ok l) : parse7 l = .ok xs ∧ l = xs.flatMap itemW := by
  rw [write7_eq] at h
  split at h
  · cases h
  · rename_i x hx
    split at h
    · rename_i hb
      split at h
      · rename_i hr
        split at h
        · cases h
        · rename_i hl
          cases h
          exact ⟨parse_fwd hx hb (List.all_eq_true.1 hr) (by omega), rfl⟩
      · cases h
    · cases h
end Go.Proofs.Ytcmpjkopdjncdaa

/- The walks of confluxref01.Big (its bytes are its own) and of confluxref07.whole. -/
namespace Go.Proofs.Ytcmpjkopdjncdaa
open Go.RowKit

set_option maxHeartbeats 1000000 in
theorem Big_own {w : World} (n m : Nat) (hn : n < 18446744073709551616) (hm : m ≤ 8) :
    Calls Try.prog 69 #[.int .u64 n, .int .i64 m] w fun e w' => ∃ v', e = .returned v' ∧ OwnB w' w.heap.size v' (beN n m) ∧ Fr [] w w' := by
  have HN := Lib.hid hn
  clear hn
  obtain ⟨w1, e1, hF1, hB1, hs1⟩ := one_new w #[] 5
  have H1 : Hid (OwnB w1 w.heap.size (.slice (some ⟨w.heap.size, 0, none⟩) 0 0) []) := Lib.hid ⟨rfl, .inr ⟨w.heap.size, 0, #[], rfl, Nat.le_refl _, hB1, Nat.le_refl _, by unfold maxLen; omega, rfl, rfl⟩⟩
  have E1 := Lib.hid e1; have HF1 := Lib.hid hF1
  clear e1 hF1 hB1 hs1
  go_enter Try.func69, Try.ntmps69
  go_upto_region 3 with (fail)
  try rw [E1.out]
  clear E1
  go_loopw [0, 5, 6] (fun nv out iv wr => ∃ j : Nat, j ≤ m ∧ nv = .int .u64 (n / 256 ^ j : Nat) ∧ iv = .int .i64 j ∧ OwnB wr w.heap.size out (beN n j) ∧ Fr [] w wr) (fun _ _ iv _ => m - (intOf iv).toNat)
  case atStart => exact ⟨0, Nat.zero_le _, by simp, rfl, H1.out, HF1.out⟩
  case round =>
    obtain ⟨j, hj, rfl, rfl, hB, hF⟩ := hrel
    have HO0 := Lib.hid hB; have HB := Lib.hid hB.bytes; have HF := Lib.hid hF
    by_cases hlt : j < m
    · have hq1 := wrap_u8_nat (n / 256 ^ j)
      have hq3 := wrap_div (n / 256 ^ j) (Nat.lt_of_le_of_lt (Nat.div_le_self _ _) HN.out)
      have hqd : n / 256 ^ j / 256 = n / 256 ^ (j + 1) := by rw [Nat.div_div_eq_div_mul, Nat.pow_succ]
      have HQD := Lib.hid hqd
      have HBC := Lib.hid (beN_cons n j)
      clear hB hF hqd
      generalize n / 256 ^ j = q at *
      obtain ⟨ao, co, ho⟩ := HB.out.shape
      rw [List.length_map, beN_len] at ho
      subst ho
      have A1 : Hid (1 + ((beN n j).map B8).length ≤ maxLen) := Lib.hid (by rw [List.length_map, beN_len]; unfold maxLen; omega)
      have A2 : Hid ((1 + ((beN n j).map B8).length) * 1 ≤ 140737488355328) := Lib.hid (by rw [List.length_map, beN_len]; omega)
      have A4 : Hid (wr.heap.size ≤ (wr.alloc (.cells #[.int .u8 ((q : Int) % 256)] 5)).heap.size) := Lib.hid (by simp)
      have A3 := Lib.hid (Sl.keep HB.out ((Fr.refl [] wr).alloc (.cells #[.int .u8 ((q : Int) % 256)] 5)))
      have A5 : Hid ((wr.alloc (.cells #[.int .u8 ((q : Int) % 256)] 5)).ownsRow wr.heap.size 5 1 (.slice (some ⟨wr.heap.size, 0, none⟩) 1 1) 1 [.int .u8 ((q : Int) % 256)]) := Lib.hid (oneOwn rfl)
      have hB8 : B8 (UInt8.ofNat q) = .int .u8 ((q : Int) % 256) := by unfold B8; simp
      have HB8 := Lib.hid hB8
      clear hB8
      go_wp2_with (at_builtin; refine wpList_append_slf rfl (.tmp 16) (.tmp 17) 22 rfl wr.heap.size 5 (.int .u8 0) 1 Try.underlying22 info_u8 rfl (.slice (some ⟨wr.heap.size, 0, none⟩) 1 1) 1 [.int .u8 ((q : Int) % 256)] rfl A5.out (.slice ao j co) ((beN n j).map B8) rfl A3.out (oneCell_B8 _) A1.out A2.out A4.out ?_; intro v' w2 ho hg hfr; have HO := Lib.hid ho; have HG := Lib.hid hg; clear ho hg hfr)
      have hF2 : Fr [] w w2 := HF.out.trans (((Fr.refl [] wr).alloc _).step HG.out (fun x hx => by simp [blockOf] at hx; subst hx; exact .inr (Nat.le_refl _)))
      have hN : OwnB w2 w.heap.size v' (beN n (j + 1)) := by
        have := HO.out
        rw [HBC.out]
        unfold OwnB
        rw [List.map_cons, HB8.out, List.length_cons, Nat.add_comm, ← List.length_map (f := B8)]
        exact Own.mono this HF.out.size
      have HN2 := Lib.hid hN; have HF2 := Lib.hid hF2
      clear hN hF2
      go_roundw
      case rel => exact ⟨j + 1, by omega, by rw [HQD.out.symm]; go_num, by go_num, HN2.out, HF2.out⟩
      case measure => simp [intOf]; omega
    · obtain rfl : j = m := by omega
      clear hB hF
      go_wp2_with fail
      go_ret
      exact ⟨_, rfl, HO0.out, HF.out⟩
def slLen : Value → Nat
  | .slice _ n _ => n
  | _ => 0
theorem OwnB.snoc {w : World} {base : Nat} {v : Value} {l : List UInt8} {b : UInt8} (h : w.ownsRow base 5 1 v (l.length + [Value.int .u8 (b.toNat : Nat)].length) (l.map B8 ++ [.int .u8 (b.toNat : Nat)])) : OwnB w base v (l ++ [b]) := by
  unfold OwnB
  rw [List.map_append, List.length_append]
  exact h
set_option maxRecDepth 100000 in
set_option maxHeartbeats 4000000 in
theorem r07whole_any {w : World} {base : Nat} {v : Value} {l : List UInt8} (hO : OwnB w base v l) (hb : base ≤ w.heap.size) (hl : l.length ≤ 1099511627000) :
    Calls Try.prog 70 #[v] w fun e w' => ∃ v', e = .returned v' ∧ OwnB w' base v' (padW l) ∧ Fr (blockOf v).toList w w' ∧ ∀ b, blockOf v' = some b → blockOf v = some b ∨ w.heap.size ≤ b := by
  have HO := Lib.hid hO; have HBS := Lib.hid hb
  obtain ⟨n, hn⟩ : ∃ n, l.length = n := ⟨_, rfl⟩
  have HN := Lib.hid hn
  rw [hn] at hl
  have hp3 : padOf n ≤ 3 := by unfold padOf; omega
  clear hO hb hn
  go_enter Try.func70, Try.ntmps70
  go_upto_region 1 with fail
  go_loopw [0] (fun b wr => ∃ j : Nat, j ≤ padOf n ∧ slLen b = n + j ∧ OwnB wr base b (l ++ List.replicate j 0) ∧ Fr (blockOf v).toList w wr ∧ ∀ x, blockOf b = some x → blockOf v = some x ∨ w.heap.size ≤ x) (fun b _ => padOf n + n - slLen b)
  case atStart =>
    refine ⟨0, Nat.zero_le _, ?_, by simpa using HO.out, (Fr.refl _ _).any, fun x hx => .inl hx⟩
    obtain ⟨a, c, e⟩ := Sl.shape HO.out.bytes
    rw [e, List.length_map, HN.out]; rfl
  case round =>
    clear HO
    obtain ⟨j, hj, hsl, hO, hF, hbl⟩ := hrel
    rename_i b0
    obtain ⟨a, c, e⟩ := Sl.shape hO.bytes
    rw [List.length_map, List.length_append, List.length_replicate, HN.out] at e
    subst e
    have HO := Lib.hid hO; have HF := Lib.hid hF; have HBL := Lib.hid hbl
    obtain ⟨k, hk⟩ : ∃ k, n + j = k := ⟨_, rfl⟩
    rw [hk] at HO HBL ⊢
    have HK := Lib.hid hk
    have hkb : k ≤ 1099511627776 := by omega
    clear hsl hO hF hbl
    by_cases hlt : j < padOf n
    · have hm : k % 4 ≠ 0 := by rw [← hk]; exact pad_step hlt
      have hmb : (((k : Nat) : Int) % 4 != 0) = true := by rw [bne_iff_ne]; omega
      clear hm hk
      have hLL : (l ++ List.replicate j (0 : UInt8)).length = k := by rw [List.length_append, List.length_replicate, HN.out]; exact HK.out
      have HLL := Lib.hid hLL
      have A0 : Hid ((wr.alloc (.cells #[.int .u8 0] 5)).ownsRow base 5 1 (.slice a k c) (l ++ List.replicate j (0 : UInt8)).length ((l ++ List.replicate j (0 : UInt8)).map B8)) := Lib.hid (HO.out.keep ((Fr.refl [] wr).alloc _))
      have A1 : Hid ((l ++ List.replicate j (0 : UInt8)).length + [Value.int .u8 ((0 : UInt8).toNat : Nat)].length ≤ maxLen) := Lib.hid (by rw [hLL]; unfold maxLen; simp only [List.length_singleton]; omega)
      have A2 : Hid (((l ++ List.replicate j (0 : UInt8)).length + [Value.int .u8 ((0 : UInt8).toNat : Nat)].length) * 1 ≤ 140737488355328) := Lib.hid (by rw [hLL]; simp only [List.length_singleton]; omega)
      have A3 : Hid (Sl (wr.alloc (.cells #[.int .u8 0] 5)) (.slice (some ⟨wr.heap.size, 0, none⟩) 1 1) [.int .u8 ((0 : UInt8).toNat : Nat)]) := Lib.hid (Sl.one wr _ _)
      have A4 : Hid (base ≤ (wr.alloc (.cells #[.int .u8 0] 5)).heap.size) := Lib.hid (by have := HBS.out; have := HF.out.size; simp; omega)
      clear hLL
      go_wp2_with (at_builtin; refine wpList_append_slf rfl (.tmp 7) (.tmp 8) 22 rfl base 5 (.int .u8 0) 1 Try.underlying22 info_u8 rfl (.slice a k c) (l ++ List.replicate j (0 : UInt8)).length ((l ++ List.replicate j (0 : UInt8)).map B8) rfl A0.out (.slice (some ⟨wr.heap.size, 0, none⟩) 1 1) [.int .u8 ((0 : UInt8).toNat : Nat)] rfl A3.out (by simp [Value.oneCell']) A1.out A2.out A4.out ?_; intro v' w2 ho hg hfr; have HO2 := Lib.hid (OwnB.snoc ho); have HG := Lib.hid hg; have HFR := Lib.hid hfr; clear ho hg hfr)
      rw [List.append_assoc, ← List.replicate_succ'] at HO2
      obtain ⟨a2, c2, e2⟩ := Sl.shape HO2.out.bytes
      rw [List.length_map, List.length_append, List.length_replicate, HN.out] at e2
      have hkk := HK.out
      refine ⟨⟨j + 1, by omega, by rw [e2]; rfl, HO2.out, ?_, ?_⟩, by rw [e2]; simp only [slLen]; omega⟩
      · have f1 : Fr (blockOf v).toList w (wr.alloc (.cells #[.int .u8 0] 5)) := HF.out.trans ((Fr.refl [] wr).alloc _).any
        refine f1.step HG.out (fun x hx => ?_)
        rcases HBL.out x (mem_toList.1 hx) with h | h
        · exact .inl (mem_toList.2 h)
        · exact .inr h
      · intro x hx
        rcases HFR.out x hx with h | h
        · exact HBL.out x h
        · exact .inr (by have := HF.out.size; simp at h; omega)
    · obtain rfl : j = padOf n := by omega
      have hm : k % 4 = 0 := by rw [← hk]; exact pad_done n
      have hmb : (((k : Nat) : Int) % 4 != 0) = false := by rw [bne_eq_false_iff_eq]; omega
      clear hm hk
      have HE : Hid (padW l = l ++ List.replicate (padOf n) 0) := Lib.hid (by unfold padW; rw [HN.out])
      go_wp2_with fail
      go_ret
      exact ⟨_, rfl, by rw [HE.out]; exact HO.out, HF.out, HBL.out⟩
end Go.Proofs.Ytcmpjkopdjncdaa

/- The walk of confluxref07.right (printed by gen_7rr.py). -/
namespace Go.Proofs.Ytcmpjkopdjncdaa
open Go.RowKit

/-- What an item of a kind may not have. -/
def bad7 (x : Itm) : Bool := decide (x.kind < 200) || decide (203 < x.kind) || (x.kind != 200 && !plain7 x) || (decide (201 < x.kind) && (x.ssrc.toNat != 0 || decide (0 < x.reps.length))) || (x.kind != 202 && decide (0 < x.chks.length)) || (x.kind != 203 && (decide (0 < x.srcs.length) || !x.reason.isEmpty))
def okTx (t : Int × List UInt8) : Bool := !wrongTx t
def okCk (c : Chk) : Bool := c.texts.all okTx
def long7 (x : Itm) : Bool := decide (31 < x.reps.length) || decide (31 < x.chks.length) || decide (31 < x.srcs.length) || decide (255 < x.reason.length)
theorem any_all {α : Type} (f : α → Bool) (xs : List α) : (!xs.any fun x => !f x) = xs.all f := by
  induction xs with
  | nil => rfl
  | cons x xs ih => simp only [List.any_cons, List.all_cons, Bool.not_or, Bool.not_not, ih]
theorem okCk_eq (c : Chk) : okCk c = rightCk c := by
  unfold okCk rightCk okTx
  induction c.texts with
  | nil => rfl
  | cons x xs ih => simp only [List.any_cons, List.all_cons, Bool.not_or, ih]
theorem right7_doc (x : Itm) : right7 x = (!bad7 x && !long7 x && x.reps.all rightRp && x.chks.all okCk) := by
  unfold right7
  rw [any_all rightRp, any_all rightCk, show okCk = rightCk from funext okCk_eq]
  generalize x.reps.all rightRp = A
  generalize x.chks.all rightCk = B
  have h : ((count7 x).2 && decide ((count7 x).1 ≤ 31) && decide (x.reason.length ≤ 255)) = (!bad7 x && !long7 x) := by
    unfold count7 bad7 long7
    rw [u32_zero]
    generalize plain7 x = P
    generalize x.ssrc.toNat = S
    generalize x.reps.length = a
    generalize x.chks.length = b
    generalize x.srcs.length = c
    have hr : x.reason.isEmpty = decide (x.reason.length = 0) := by cases x.reason <;> simp
    rw [hr]
    generalize x.reason.length = d
    generalize x.kind = k
    by_cases h0 : k = 200
    · subst h0; rw [Bool.eq_iff_iff]; cases P <;> simp <;> omega
    by_cases h1 : k = 201
    · subst h1; rw [Bool.eq_iff_iff]; cases P <;> simp <;> omega
    by_cases h2 : k = 202
    · subst h2; rw [Bool.eq_iff_iff]; cases P <;> simp <;> omega
    by_cases h3 : k = 203
    · subst h3; rw [Bool.eq_iff_iff]; cases P <;> simp <;> omega
    rw [if_neg h0, if_neg h1, if_neg h2, if_neg h3]
    have h4 : k < 200 ∨ 203 < k := by omega
    rcases h4 with h4 | h4 <;> simp [h4]
  rw [← h]
set_option maxRecDepth 100000 in
set_option maxHeartbeats 8000000 in
theorem r07right_any {w : World} {x : Itm} {vr vc vs : Value} {Bc : List Nat} (hr : SlEls 7 RptR w vr x.reps []) (hc : SlEls 2 ChkR w vc x.chks Bc) (hs : SlEls 1 SrcR w vs x.srcs [])
    (hn : x.reps.length ≤ 1099511000000 ∧ x.chks.length ≤ 1099511000000 ∧ x.srcs.length ≤ 1099511000000) (hrn : x.reason.length ≤ 1099511000000) (htx : ∀ c ∈ x.chks, c.texts.length ≤ 1099511000000 ∧ ∀ t ∈ c.texts, t.2.length ≤ 1099511000000) :
    Calls Try.prog 37 #[.agg (itc x vr vc vs)] w fun e w' => e = .returned (.bool (right7 x)) ∧ Fr [] w w' := by
  obtain ⟨ar, cr, rfl⟩ := hr.shape
  obtain ⟨ac, cc, rfl⟩ := hc.shape
  obtain ⟨as_, cs, rfl⟩ := hs.shape
  obtain ⟨w1, e1, hF1, hB1, hs1⟩ := one_new w (itc x (.slice ar x.reps.length cr) (.slice ac x.chks.length cc) (.slice as_ x.srcs.length cs)) 52
  have HF := Lib.hid hF1; have E1 := Lib.hid e1; have HB := Lib.hid hB1
  have HR := Lib.hid (hr.keep Rep.rpt hF1); have HC := Lib.hid (hc.keep Rep.chk hF1)
  have HN := Lib.hid hn; have HRN := Lib.hid hrn; have HTXL := Lib.hid htx
  clear hF1 hB1 e1 hs1 hr hc hs hn hrn htx
  have HD := Lib.hid (right7_doc x)
  have HP0 : Hid (plain7 x = (x.ntp.toNat == 0 && x.ts.toNat == 0 && x.pks.toNat == 0 && x.ocs.toNat == 0)) := Lib.hid (by unfold plain7; rw [u64_zero, u32_zero, u32_zero, u32_zero])
  go_enter Try.func37, Try.ntmps37
  go_upto_region 1 with fail
  rw [E1.out]
  clear E1
  go_cut [3] (fun pv wx => pv = .bool (plain7 x) ∧ Fr [] w1 wx)
  case first =>
    as_aux_lemma =>
      have x2 := HB.out.cell 2; have x3 := HB.out.cell 3; have x4 := HB.out.cell 4; have x5 := HB.out.cell 5
      simp only [itc, List.getElem?_toArray, List.getElem?_cons_succ, List.getElem?_cons_zero] at x2 x3 x4 x5
      obtain ⟨n2, hn2⟩ : ∃ n, x.ntp.toNat = n := ⟨_, rfl⟩
      obtain ⟨n3, hn3⟩ : ∃ n, x.ts.toNat = n := ⟨_, rfl⟩
      obtain ⟨n4, hn4⟩ : ∃ n, x.pks.toNat = n := ⟨_, rfl⟩
      obtain ⟨n5, hn5⟩ : ∃ n, x.ocs.toNat = n := ⟨_, rfl⟩
      rw [hn2, hn3, hn4, hn5] at HP0
      rw [hn2] at x2
      rw [hn3] at x3
      rw [hn4] at x4
      rw [hn5] at x5
      clear hn2 hn3 hn4 hn5 HB HR HC HN HRN HTXL HD
      by_cases h2 : n2 = 0
      rotate_left
      · have HP0 := HP0
        have b2 : (((n2 : Nat) : Int) == 0) = false := beq_eq_false_iff_ne.2 (by omega)
        have d2 : (n2 == 0) = false := beq_eq_false_iff_ne.2 h2
        go_wp2_with fail
        go_meet
        exact ⟨by rw [HP0.out]; simp [*], Fr.refl _ _⟩
      subst h2
      by_cases h3 : n3 = 0
      rotate_left
      · have HP0 := HP0
        have b3 : (((n3 : Nat) : Int) == 0) = false := beq_eq_false_iff_ne.2 (by omega)
        have d3 : (n3 == 0) = false := beq_eq_false_iff_ne.2 h3
        go_wp2_with fail
        go_meet
        exact ⟨by rw [HP0.out]; simp [*], Fr.refl _ _⟩
      subst h3
      by_cases h4 : n4 = 0
      rotate_left
      · have HP0 := HP0
        have b4 : (((n4 : Nat) : Int) == 0) = false := beq_eq_false_iff_ne.2 (by omega)
        have d4 : (n4 == 0) = false := beq_eq_false_iff_ne.2 h4
        go_wp2_with fail
        go_meet
        exact ⟨by rw [HP0.out]; simp [*], Fr.refl _ _⟩
      subst h4
      by_cases h5 : n5 = 0
      rotate_left
      · have HP0 := HP0
        have b5 : (((n5 : Nat) : Int) == 0) = false := beq_eq_false_iff_ne.2 (by omega)
        have d5 : (n5 == 0) = false := beq_eq_false_iff_ne.2 h5
        go_wp2_with fail
        go_meet
        exact ⟨by rw [HP0.out]; simp [*], Fr.refl _ _⟩
      subst h5
      go_wp2_with fail
      go_meet
      exact ⟨by rw [HP0.out]; simp [*], Fr.refl _ _⟩
  case rest =>
    obtain ⟨rfl, hF2⟩ := hcut
    have HF := Lib.hid (HF.out.trans hF2); have HB := Lib.hid (HB.out.keep hF2); have HR := Lib.hid (HR.out.keep Rep.rpt hF2); have HC := Lib.hid (HC.out.keep Rep.chk hF2)
    clear hF2 HP0
    have HBAD : Hid (bad7 x = (decide (x.kind < 200) || decide (203 < x.kind) || (x.kind != 200 && !plain7 x) || (decide (201 < x.kind) && (x.ssrc.toNat != 0 || decide (0 < x.reps.length))) || (x.kind != 202 && decide (0 < x.chks.length)) || (x.kind != 203 && (decide (0 < x.srcs.length) || !(strB x.reason).toList.isEmpty)))) := Lib.hid (by rw [strB_list]; rfl)
    obtain ⟨P, hP⟩ : ∃ P, plain7 x = P := ⟨_, rfl⟩
    rw [hP] at HBAD ⊢
    clear hP
    have x0 := HB.out.cell 0; have x1 := HB.out.cell 1; have x6 := HB.out.cell 6; have x7 := HB.out.cell 7; have x8 := HB.out.cell 8; have x9 := HB.out.cell 9
    simp only [itc, List.getElem?_toArray, List.getElem?_cons_succ, List.getElem?_cons_zero] at x0 x1 x6 x7 x8 x9
    have hsz := strB_size x.reason
    obtain ⟨nr, hnr⟩ : ∃ n, x.reps.length = n := ⟨_, rfl⟩
    obtain ⟨nc, hnc⟩ : ∃ n, x.chks.length = n := ⟨_, rfl⟩
    obtain ⟨ns, hns⟩ : ∃ n, x.srcs.length = n := ⟨_, rfl⟩
    obtain ⟨nz, hnz⟩ : ∃ n, x.reason.length = n := ⟨_, rfl⟩
    have HNR := Lib.hid hnr; have HNC := Lib.hid hnc; have HNS := Lib.hid hns; have HNZ := Lib.hid hnz
    rw [hnz] at hsz HRN
    rw [hnr] at x6 HR
    rw [hnc] at x7 HC
    rw [hns] at x8
    rw [hnr, hnc, hns] at HB HBAD HN
    clear hnr hnc hns hnz
    go_upto_region 2 with fail
    go_cut [86] (fun pv wx => pv = .bool (bad7 x) ∧ wc = wx)
    case first =>
      as_aux_lemma =>
        clear HR HC HB HF HN HRN HTXL HD
        by_cases k200 : x.kind = 200
        · rw [k200] at x0 HBAD
          clear k200
          by_cases hZ : nc = 0
          rotate_left
          · have cz : decide ((0 : Int) < ((nc : Nat) : Int)) = true := decide_eq_true (by omega)
            have cz2 : decide (0 < nc) = true := decide_eq_true (by omega)
            clear hZ
            go_wp2_with fail
            go_meet
            exact ⟨by rw [HBAD.out]; simp [*], rfl⟩
          have cz : decide ((0 : Int) < ((nc : Nat) : Int)) = false := decide_eq_false (by omega)
          have cz2 : decide (0 < nc) = false := decide_eq_false (by omega)
          clear hZ
          by_cases hV : ns = 0
          rotate_left
          · have sz : decide ((0 : Int) < ((ns : Nat) : Int)) = true := decide_eq_true (by omega)
            have sz2 : decide (0 < ns) = true := decide_eq_true (by omega)
            clear hV
            go_wp2_with fail
            go_meet
            exact ⟨by rw [HBAD.out]; simp [*], rfl⟩
          have sz : decide ((0 : Int) < ((ns : Nat) : Int)) = false := decide_eq_false (by omega)
          have sz2 : decide (0 < ns) = false := decide_eq_false (by omega)
          clear hV
          by_cases hS : (strB x.reason).toList.isEmpty = true
          rotate_left
          · have st : (strB x.reason).toList.isEmpty = false := by simpa using hS
            clear hS
            go_wp2_with fail
            go_meet
            exact ⟨by rw [HBAD.out]; simp [*], rfl⟩
          have st : (strB x.reason).toList.isEmpty = true := hS
          clear hS
          go_wp2_with fail
          go_meet
          exact ⟨by rw [HBAD.out]; simp [*], rfl⟩
        by_cases k201 : x.kind = 201
        · rw [k201] at x0 HBAD
          clear k201
          by_cases hP : P = true
          rotate_left
          · have pt : P = false := by simpa using hP
            clear hP
            go_wp2_with fail
            go_meet
            exact ⟨by rw [HBAD.out]; simp [*], rfl⟩
          have pt : P = true := hP
          clear hP
          by_cases hZ : nc = 0
          rotate_left
          · have cz : decide ((0 : Int) < ((nc : Nat) : Int)) = true := decide_eq_true (by omega)
            have cz2 : decide (0 < nc) = true := decide_eq_true (by omega)
            clear hZ
            go_wp2_with fail
            go_meet
            exact ⟨by rw [HBAD.out]; simp [*], rfl⟩
          have cz : decide ((0 : Int) < ((nc : Nat) : Int)) = false := decide_eq_false (by omega)
          have cz2 : decide (0 < nc) = false := decide_eq_false (by omega)
          clear hZ
          by_cases hV : ns = 0
          rotate_left
          · have sz : decide ((0 : Int) < ((ns : Nat) : Int)) = true := decide_eq_true (by omega)
            have sz2 : decide (0 < ns) = true := decide_eq_true (by omega)
            clear hV
            go_wp2_with fail
            go_meet
            exact ⟨by rw [HBAD.out]; simp [*], rfl⟩
          have sz : decide ((0 : Int) < ((ns : Nat) : Int)) = false := decide_eq_false (by omega)
          have sz2 : decide (0 < ns) = false := decide_eq_false (by omega)
          clear hV
          by_cases hS : (strB x.reason).toList.isEmpty = true
          rotate_left
          · have st : (strB x.reason).toList.isEmpty = false := by simpa using hS
            clear hS
            go_wp2_with fail
            go_meet
            exact ⟨by rw [HBAD.out]; simp [*], rfl⟩
          have st : (strB x.reason).toList.isEmpty = true := hS
          clear hS
          go_wp2_with fail
          go_meet
          exact ⟨by rw [HBAD.out]; simp [*], rfl⟩
        by_cases k202 : x.kind = 202
        · rw [k202] at x0 HBAD
          clear k202
          by_cases hP : P = true
          rotate_left
          · have pt : P = false := by simpa using hP
            clear hP
            go_wp2_with fail
            go_meet
            exact ⟨by rw [HBAD.out]; simp [*], rfl⟩
          have pt : P = true := hP
          clear hP
          by_cases hQ : x.ssrc.toNat = 0
          rotate_left
          · have qt : (((x.ssrc.toNat : Nat) : Int) != 0) = true := by rw [bne_iff_ne]; omega
            have qt2 : (x.ssrc.toNat != 0) = true := by rw [bne_iff_ne]; omega
            clear hQ
            go_wp2_with fail
            go_meet
            exact ⟨by rw [HBAD.out]; simp [*], rfl⟩
          have qt : (((x.ssrc.toNat : Nat) : Int) != 0) = false := by rw [bne_eq_false_iff_eq]; omega
          have qt2 : (x.ssrc.toNat != 0) = false := by rw [bne_eq_false_iff_eq]; omega
          clear hQ
          by_cases hU : nr = 0
          rotate_left
          · have rz : decide ((0 : Int) < ((nr : Nat) : Int)) = true := decide_eq_true (by omega)
            have rz2 : decide (0 < nr) = true := decide_eq_true (by omega)
            clear hU
            go_wp2_with fail
            go_meet
            exact ⟨by rw [HBAD.out]; simp [*], rfl⟩
          have rz : decide ((0 : Int) < ((nr : Nat) : Int)) = false := decide_eq_false (by omega)
          have rz2 : decide (0 < nr) = false := decide_eq_false (by omega)
          clear hU
          by_cases hV : ns = 0
          rotate_left
          · have sz : decide ((0 : Int) < ((ns : Nat) : Int)) = true := decide_eq_true (by omega)
            have sz2 : decide (0 < ns) = true := decide_eq_true (by omega)
            clear hV
            go_wp2_with fail
            go_meet
            exact ⟨by rw [HBAD.out]; simp [*], rfl⟩
          have sz : decide ((0 : Int) < ((ns : Nat) : Int)) = false := decide_eq_false (by omega)
          have sz2 : decide (0 < ns) = false := decide_eq_false (by omega)
          clear hV
          by_cases hS : (strB x.reason).toList.isEmpty = true
          rotate_left
          · have st : (strB x.reason).toList.isEmpty = false := by simpa using hS
            clear hS
            go_wp2_with fail
            go_meet
            exact ⟨by rw [HBAD.out]; simp [*], rfl⟩
          have st : (strB x.reason).toList.isEmpty = true := hS
          clear hS
          go_wp2_with fail
          go_meet
          exact ⟨by rw [HBAD.out]; simp [*], rfl⟩
        by_cases k203 : x.kind = 203
        · rw [k203] at x0 HBAD
          clear k203
          by_cases hP : P = true
          rotate_left
          · have pt : P = false := by simpa using hP
            clear hP
            go_wp2_with fail
            go_meet
            exact ⟨by rw [HBAD.out]; simp [*], rfl⟩
          have pt : P = true := hP
          clear hP
          by_cases hQ : x.ssrc.toNat = 0
          rotate_left
          · have qt : (((x.ssrc.toNat : Nat) : Int) != 0) = true := by rw [bne_iff_ne]; omega
            have qt2 : (x.ssrc.toNat != 0) = true := by rw [bne_iff_ne]; omega
            clear hQ
            go_wp2_with fail
            go_meet
            exact ⟨by rw [HBAD.out]; simp [*], rfl⟩
          have qt : (((x.ssrc.toNat : Nat) : Int) != 0) = false := by rw [bne_eq_false_iff_eq]; omega
          have qt2 : (x.ssrc.toNat != 0) = false := by rw [bne_eq_false_iff_eq]; omega
          clear hQ
          by_cases hU : nr = 0
          rotate_left
          · have rz : decide ((0 : Int) < ((nr : Nat) : Int)) = true := decide_eq_true (by omega)
            have rz2 : decide (0 < nr) = true := decide_eq_true (by omega)
            clear hU
            go_wp2_with fail
            go_meet
            exact ⟨by rw [HBAD.out]; simp [*], rfl⟩
          have rz : decide ((0 : Int) < ((nr : Nat) : Int)) = false := decide_eq_false (by omega)
          have rz2 : decide (0 < nr) = false := decide_eq_false (by omega)
          clear hU
          by_cases hZ : nc = 0
          rotate_left
          · have cz : decide ((0 : Int) < ((nc : Nat) : Int)) = true := decide_eq_true (by omega)
            have cz2 : decide (0 < nc) = true := decide_eq_true (by omega)
            clear hZ
            go_wp2_with fail
            go_meet
            exact ⟨by rw [HBAD.out]; simp [*], rfl⟩
          have cz : decide ((0 : Int) < ((nc : Nat) : Int)) = false := decide_eq_false (by omega)
          have cz2 : decide (0 < nc) = false := decide_eq_false (by omega)
          clear hZ
          go_wp2_with fail
          go_meet
          exact ⟨by rw [HBAD.out]; simp [*], rfl⟩
        have hk : x.kind < 200 ∨ 203 < x.kind := by omega
        clear k200 k201 k202 k203
        rcases hk with hk | hk
        · have q1 : decide (x.kind < 200) = true := decide_eq_true hk
          go_wp2_with fail
          go_meet
          exact ⟨by rw [HBAD.out]; simp [*], rfl⟩
        · have q1 : decide (x.kind < 200) = false := decide_eq_false (by omega)
          have q2 : decide (203 < x.kind) = true := decide_eq_true hk
          clear hk
          go_wp2_with fail
          go_meet
          exact ⟨by rw [HBAD.out]; simp [*], rfl⟩
    case rest =>
      obtain ⟨rfl, ew⟩ := hcut
      subst ew
      clear HBAD x0 x1
      have HLG : Hid (long7 x = (decide (31 < nr) || decide (31 < nc) || decide (31 < ns) || decide (255 < nz))) := Lib.hid (by unfold long7; rw [HNR.out, HNC.out, HNS.out, HNZ.out])
      obtain ⟨A, hA⟩ : ∃ A, bad7 x = A := ⟨_, rfl⟩
      rw [hA] at HD ⊢
      clear hA
      cases A
      rotate_left
      · go_wp2_with fail
        go_ret
        exact ⟨ret_bool (by rw [HD.out]; rfl), HF.out⟩
      go_upto_region 4 with fail
      go_cut [108] (fun pv wx => pv = .bool (long7 x) ∧ wc = wx)
      case first =>
        as_aux_lemma =>
          clear HR HC HB HF HN HTXL HD
          by_cases hR : 31 < nr
          · have lR : decide ((31 : Int) < ((nr : Nat) : Int)) = true := decide_eq_true (by omega)
            have mR : decide (31 < nr) = true := decide_eq_true (by omega)
            clear hR
            go_wp2_with fail
            go_meet
            exact ⟨by rw [HLG.out]; simp [*], rfl⟩
          have lR : decide ((31 : Int) < ((nr : Nat) : Int)) = false := decide_eq_false (by omega)
          have mR : decide (31 < nr) = false := decide_eq_false (by omega)
          clear hR
          by_cases hC : 31 < nc
          · have lC : decide ((31 : Int) < ((nc : Nat) : Int)) = true := decide_eq_true (by omega)
            have mC : decide (31 < nc) = true := decide_eq_true (by omega)
            clear hC
            go_wp2_with fail
            go_meet
            exact ⟨by rw [HLG.out]; simp [*], rfl⟩
          have lC : decide ((31 : Int) < ((nc : Nat) : Int)) = false := decide_eq_false (by omega)
          have mC : decide (31 < nc) = false := decide_eq_false (by omega)
          clear hC
          by_cases hS : 31 < ns
          · have lS : decide ((31 : Int) < ((ns : Nat) : Int)) = true := decide_eq_true (by omega)
            have mS : decide (31 < ns) = true := decide_eq_true (by omega)
            clear hS
            go_wp2_with fail
            go_meet
            exact ⟨by rw [HLG.out]; simp [*], rfl⟩
          have lS : decide ((31 : Int) < ((ns : Nat) : Int)) = false := decide_eq_false (by omega)
          have mS : decide (31 < ns) = false := decide_eq_false (by omega)
          clear hS
          by_cases hZ : 255 < nz
          · have lZ : decide ((255 : Int) < ((nz : Nat) : Int)) = true := decide_eq_true (by omega)
            have mZ : decide (255 < nz) = true := decide_eq_true (by omega)
            clear hZ
            go_wp2_with fail
            go_meet
            exact ⟨by rw [HLG.out]; simp [*], rfl⟩
          have lZ : decide ((255 : Int) < ((nz : Nat) : Int)) = false := decide_eq_false (by omega)
          have mZ : decide (255 < nz) = false := decide_eq_false (by omega)
          clear hZ
          go_wp2_with fail
          go_meet
          exact ⟨by rw [HLG.out]; simp [*], rfl⟩
      case rest =>
        obtain ⟨rfl, ew⟩ := hcut
        subst ew
        clear HLG
        obtain ⟨A, hA⟩ : ∃ A, long7 x = A := ⟨_, rfl⟩
        rw [hA] at HD ⊢
        clear hA
        cases A
        rotate_left
        · go_wp2_with fail
          go_ret
          exact ⟨ret_bool (by rw [HD.out]; rfl), HF.out⟩
        have HD : Hid (right7 x = (x.reps.all rightRp && x.chks.all okCk)) := Lib.hid (by rw [HD.out]; rfl)
        have hnrb : nr ≤ 1099511000000 := HN.out.1
        go_upto_region 6 with fail
        go_upto_region 7 with fail
        clear x6 x7 x8 x9 hsz
        go_loopw [4] (fun i wr => ∃ j : Nat, j ≤ nr ∧ i = .int .i64 j ∧ (x.reps.take j).all rightRp = true ∧ Fr [] wc wr) (fun i _ => nr - (intOf i).toNat)
        case atStart => exact ⟨0, Nat.zero_le _, rfl, rfl, Fr.refl _ _⟩
        case round =>
          obtain ⟨j, hj, rfl, htk, hF⟩ := hrel
          have HT := Lib.hid htk; have HB := Lib.hid (HB.out.keep hF); have HR := Lib.hid (HR.out.keep Rep.rpt hF); have HC := Lib.hid (HC.out.keep Rep.chk hF); have HF2 := Lib.hid (HF.out.trans hF); have HFW := Lib.hid hF
          clear htk hF
          have x6 := HB.out.cell 6
          simp only [itc, List.getElem?_toArray, List.getElem?_cons_succ, List.getElem?_cons_zero] at x6
          by_cases hlt : j < nr
          · obtain ⟨b, o, k, y, B1, ea, -, hy, ⟨rfl, -⟩, -, hrg⟩ := HR.out.at_ Rep.rpt (i := j) hlt
            subst ea
            have HRG := Lib.hid hrg; have HY := Lib.hid hy
            obtain ⟨w2, e2, hF2, hB2, hs2⟩ := one_new wr (rpc7 y) 57
            have E2 := Lib.hid e2; have HFX := Lib.hid hF2
            have z1 := hB2.cell 1; have z2 := hB2.cell 2
            simp only [rpc7, List.getElem?_toArray, List.getElem?_cons_succ, List.getElem?_cons_zero] at z1 z2
            clear hrg hy hF2 hB2 hs2 e2
            have HRR : Hid (rightRp y = (decide (0 ≤ y.loss) && decide (y.loss ≤ 255) && decide (-8388608 ≤ y.lost) && decide (y.lost < 8388608))) := Lib.hid rfl
            go_upto_region 10 with (refine wpList_load_midA rfl 57 (.tmp 119) rfl b (o + j * 7) rfl (rpc7 y) _ HRG.out Try.underlying57 rfl (by kernel_rfl) ?_)
            rw [E2.out]
            clear E2
            go_cut [138] (fun pv wx => pv = .bool (!rightRp y) ∧ w2 = wx)
            case first =>
              as_aux_lemma =>
                clear HT HB HR HC HF2 HFW HY HD HN HRN HTXL HF HRG HFX x6
                by_cases h : y.loss < 0
                · have a0 : decide (y.loss < 0) = true := decide_eq_true h
                  have a1 : decide (0 ≤ y.loss) = false := decide_eq_false (by omega)
                  clear h
                  go_wp2_with fail
                  go_meet
                  exact ⟨by rw [HRR.out]; simp [*], rfl⟩
                have a0 : decide (y.loss < 0) = false := decide_eq_false h
                have a1 : decide (0 ≤ y.loss) = true := decide_eq_true (by omega)
                clear h
                by_cases h : 255 < y.loss
                · have b0 : decide (255 < y.loss) = true := decide_eq_true h
                  have b1 : decide (y.loss ≤ 255) = false := decide_eq_false (by omega)
                  clear h
                  go_wp2_with fail
                  go_meet
                  exact ⟨by rw [HRR.out]; simp [*], rfl⟩
                have b0 : decide (255 < y.loss) = false := decide_eq_false h
                have b1 : decide (y.loss ≤ 255) = true := decide_eq_true (by omega)
                clear h
                by_cases h : y.lost < -8388608
                · have c0 : decide (y.lost < -8388608) = true := decide_eq_true h
                  have c1 : decide (-8388608 ≤ y.lost) = false := decide_eq_false (by omega)
                  clear h
                  go_wp2_with fail
                  go_meet
                  exact ⟨by rw [HRR.out]; simp [*], rfl⟩
                have c0 : decide (y.lost < -8388608) = false := decide_eq_false h
                have c1 : decide (-8388608 ≤ y.lost) = true := decide_eq_true (by omega)
                clear h
                by_cases h : 8388607 < y.lost
                · have d0 : decide (8388607 < y.lost) = true := decide_eq_true h
                  have d1 : decide (y.lost < 8388608) = false := decide_eq_false (by omega)
                  clear h
                  go_wp2_with fail
                  go_meet
                  exact ⟨by rw [HRR.out]; simp [*], rfl⟩
                have d0 : decide (8388607 < y.lost) = false := decide_eq_false h
                have d1 : decide (y.lost < 8388608) = true := decide_eq_true (by omega)
                clear h
                go_wp2_with fail
                go_meet
                exact ⟨by rw [HRR.out]; simp [*], rfl⟩
            case rest =>
              obtain ⟨rfl, ew⟩ := hcut
              subst ew
              clear HRR z1 z2
              obtain ⟨A, hA⟩ : ∃ A, rightRp y = A := ⟨_, rfl⟩
              have HA := Lib.hid hA
              rw [hA]
              clear hA
              cases A
              · go_wp2_with fail
                go_ret
                exact ⟨ret_bool (by rw [HD.out, all_no (List.mem_of_getElem? HY.out) HA.out]; rfl), HF2.out.trans HFX.out⟩
              go_wp2_with fail
              refine ⟨⟨j + 1, by omega, by go_num, all_take_next HY.out HT.out HA.out, HFW.out.trans HFX.out⟩, by simp [intOf]; omega⟩
          · obtain rfl : j = nr := by omega
            have hT := HT.out
            rw [List.take_of_length_le (by rw [HNR.out]; exact Nat.le_refl _)] at hT
            have HD : Hid (right7 x = x.chks.all okCk) := Lib.hid (by rw [HD.out, hT]; rfl)
            clear hT hj hlt
            have hncb : nc ≤ 1099511000000 := HN.out.2.1
            go_upto_region 13 with fail
            clear x6
            go_loopw [6] (fun i wp => ∃ j : Nat, j ≤ nc ∧ i = .int .i64 j ∧ (x.chks.take j).all okCk = true ∧ Fr [] wr wp) (fun i _ => nc - (intOf i).toNat)
            case atStart => exact ⟨0, Nat.zero_le _, rfl, rfl, Fr.refl _ _⟩
            case round =>
              obtain ⟨j, hj, rfl, htk, hF⟩ := hrel
              rename World => wp
              have HT := Lib.hid htk; have HB := Lib.hid (HB.out.keep hF); have HC := Lib.hid (HC.out.keep Rep.chk hF); have HF2 := Lib.hid (HF2.out.trans hF); have HFW := Lib.hid hF
              clear htk hF
              have x7 := HB.out.cell 7
              simp only [itc, List.getElem?_toArray, List.getElem?_cons_succ, List.getElem?_cons_zero] at x7
              by_cases hlt : j < nc
              · obtain ⟨b, o, k, y, B1, ea, -, hy, ⟨vt, rfl, ht, -⟩, -, hrg⟩ := HC.out.at_ Rep.chk (i := j) hlt
                subst ea
                obtain ⟨at_, ct, rfl⟩ := ht.shape
                have HRG := Lib.hid hrg; have HTX := Lib.hid ht; have HY := Lib.hid hy
                have HTL := Lib.hid (HTXL.out y (List.mem_of_getElem? hy))
                obtain ⟨nt, hnt⟩ : ∃ n, y.texts.length = n := ⟨_, rfl⟩
                rw [hnt] at HRG HTX
                have HNT := Lib.hid hnt
                clear hrg ht hy hnt
                have hntb : nt ≤ 1099511000000 := by have := HTL.out.1; rw [HNT.out] at this; exact this
                go_upto_region 16 with fail
                clear x7
                go_loopw [7] (fun i wz => ∃ k : Nat, k ≤ nt ∧ i = .int .i64 k ∧ (y.texts.take k).all okTx = true ∧ Fr [] wp wz) (fun i _ => nt - (intOf i).toNat)
                case atStart => exact ⟨0, Nat.zero_le _, rfl, rfl, Fr.refl _ _⟩
                case round =>
                  obtain ⟨k, hk, rfl, htk, hF⟩ := hrel
                  have HTT := Lib.hid htk; have HB := Lib.hid (HB.out.keep hF); have HTX := Lib.hid (HTX.out.keep Rep.txt hF); have HFV := Lib.hid hF
                  have HRG := Lib.hid (fr_rng hF HRG.out)
                  clear htk hF
                  have x7 := HB.out.cell 7
                  simp only [itc, List.getElem?_toArray, List.getElem?_cons_succ, List.getElem?_cons_zero] at x7
                  have y1 := HRG.out 1 _ rfl
                  rename World => wz
                  have y1 : wz.cell? ⟨b, o + j * 2 + 1, none⟩ = some (.slice at_ nt ct) := y1
                  by_cases hlk : k < nt
                  · obtain ⟨b2, o2, k2, z, B4, eb, -, hz, ⟨rfl, -⟩, -, hrg2⟩ := HTX.out.at_ Rep.txt (i := k) hlk
                    subst eb
                    have HZ := Lib.hid hz; have HZL := Lib.hid (HTL.out.2 z (List.mem_of_getElem? hz)); have HRG2 := Lib.hid hrg2
                    obtain ⟨w3, e3, hF3, hB3, hs3⟩ := one_new wz (txc z) 97
                    have E3 := Lib.hid e3; have HFX := Lib.hid hF3
                    have z0 := hB3.cell 0; have z1 := hB3.cell 1
                    simp only [txc, List.getElem?_toArray, List.getElem?_cons_succ, List.getElem?_cons_zero] at z0 z1
                    clear hrg2 hz hF3 hB3 hs3 e3
                    have hsz := strB_size z.2
                    have HWT : Hid (wrongTx z = (decide (z.1 < 1) || decide (255 < z.1) || decide (255 < z.2.length))) := Lib.hid rfl
                    obtain ⟨q, hq⟩ : ∃ n, z.2.length = n := ⟨_, rfl⟩
                    rw [hq] at hsz HWT
                    have hq2 : q ≤ 1099511000000 := by rw [← hq]; exact HZL.out
                    clear hq
                    go_upto_region 19 with (refine wpList_load_midA rfl 97 (.tmp 164) rfl b2 (o2 + k * 2) rfl (txc z) _ HRG2.out Try.underlying97 rfl (by kernel_rfl) ?_)
                    rw [E3.out]
                    clear E3
                    go_cut [179] (fun pv wx => pv = .bool (wrongTx z) ∧ w3 = wx)
                    case first =>
                      as_aux_lemma =>
                        clear HT HTT HTX HB HC HF2 HFW HFV HY HZ HD HN HRN HTXL HTL HF HRG HRG2 HFX x7 y1 HR HZL
                        by_cases h : z.1 < 1
                        · have a0 : decide (z.1 < 1) = true := decide_eq_true (by omega)
                          clear h
                          go_wp2_with fail
                          go_meet
                          exact ⟨by rw [HWT.out]; simp [*], rfl⟩
                        have a0 : decide (z.1 < 1) = false := decide_eq_false (by omega)
                        clear h
                        by_cases h : 255 < z.1
                        · have a1 : decide (255 < z.1) = true := decide_eq_true (by omega)
                          clear h
                          go_wp2_with fail
                          go_meet
                          exact ⟨by rw [HWT.out]; simp [*], rfl⟩
                        have a1 : decide (255 < z.1) = false := decide_eq_false (by omega)
                        clear h
                        by_cases h : 255 < q
                        · have a2 : decide ((255 : Int) < ((q : Nat) : Int)) = true := decide_eq_true (by omega)
                          have b2 : decide (255 < q) = true := decide_eq_true (by omega)
                          clear h
                          go_wp2_with fail
                          go_meet
                          exact ⟨by rw [HWT.out]; simp [*], rfl⟩
                        have a2 : decide ((255 : Int) < ((q : Nat) : Int)) = false := decide_eq_false (by omega)
                        have b2 : decide (255 < q) = false := decide_eq_false (by omega)
                        clear h
                        go_wp2_with fail
                        go_meet
                        exact ⟨by rw [HWT.out]; simp [*], rfl⟩
                    case rest =>
                      obtain ⟨rfl, ew⟩ := hcut
                      subst ew
                      clear HWT z0 z1 hsz
                      obtain ⟨A, hA⟩ : ∃ A, wrongTx z = A := ⟨_, rfl⟩
                      have HA : Hid (okTx z = !A) := Lib.hid (by unfold okTx; rw [hA])
                      rw [hA]
                      clear hA
                      cases A
                      rotate_left
                      · go_wp2_with fail
                        go_ret
                        exact ⟨ret_bool (by rw [HD.out, all_no (List.mem_of_getElem? HY.out) (by unfold okCk; exact all_no (List.mem_of_getElem? HZ.out) HA.out)]), (HF2.out.trans HFV.out).trans HFX.out⟩
                      go_wp2_with fail
                      refine ⟨⟨k + 1, by omega, by go_num, all_take_next HZ.out HTT.out HA.out, HFV.out.trans HFX.out⟩, by simp [intOf]; omega⟩
                  · obtain rfl : k = nt := by omega
                    have hT := HTT.out
                    rw [List.take_of_length_le (by rw [HNT.out]; exact Nat.le_refl _)] at hT
                    have HE : Hid (okCk y = true) := Lib.hid hT
                    clear hT
                    go_wp2_with fail
                    refine ⟨⟨j + 1, by omega, by go_num, all_take_next HY.out HT.out HE.out, HFW.out.trans HFV.out⟩, by simp [intOf]; omega⟩
              · obtain rfl : j = nc := by omega
                have hT := HT.out
                rw [List.take_of_length_le (by rw [HNC.out]; exact Nat.le_refl _)] at hT
                have HX : Hid (right7 x = true) := Lib.hid (by rw [HD.out, hT])
                clear hT
                go_wp2_with fail
                go_ret
                exact ⟨ret_bool HX.out.symm, HF2.out⟩
end Go.Proofs.Ytcmpjkopdjncdaa

/- RTCP: an item's bytes, as the document makes them. No program in sight. -/
namespace Go.Proofs.Ytcmpjkopdjncdaa
open Go.RowKit

theorem u8_eq {a b : Nat} (h : a % 256 = b % 256) : UInt8.ofNat a = UInt8.ofNat b := UInt8.toNat_inj.1 (by rw [UInt8.toNat_ofNat', UInt8.toNat_ofNat']; omega)
theorem beN2' (n : Nat) : beN n 2 = [UInt8.ofNat (n / 256), UInt8.ofNat n] := by simp [beN, List.range_succ]
theorem beN3' (n : Nat) : beN n 3 = [UInt8.ofNat (n / 65536), UInt8.ofNat (n / 256), UInt8.ofNat n] := by simp [beN, List.range_succ]
theorem beN2_mod (n : Nat) : beN (n % 65536) 2 = beN n 2 := by
  rw [beN2', beN2', u8_eq (a := n % 65536 / 256) (b := n / 256) (by omega), u8_eq (a := n % 65536) (b := n) (by omega)]
theorem lost_bytes (z : Int) : beN (z % 16777216).toNat 3 = [ib (z / 65536)] ++ beN (z % 65536).toNat 2 := by
  rw [beN3', beN2']
  unfold ib
  rw [u8_eq (a := (z % 16777216).toNat / 65536) (b := (z / 65536 % 256).toNat) (by omega), u8_eq (a := (z % 16777216).toNat / 256) (b := (z % 65536).toNat / 256) (by omega), u8_eq (a := (z % 16777216).toNat) (b := (z % 65536).toNat) (by omega)]
  rfl
/-- A report's bytes, part by part. -/
def rptB (x : Rpt) : List (List UInt8) := [beN x.ssrc.toNat 4, [ib x.loss], beN (x.lost % 16777216).toNat 3, beN x.hi.toNat 4, beN x.jit.toNat 4, beN x.lsr.toNat 4, beN x.dly.toNat 4]
theorem rptW_doc (x : Rpt) : rptW x = (rptB x).flatten := by
  unfold rptW rptHead rptTail rptB
  rw [lost_bytes]
  simp
theorem rptW_len (x : Rpt) : (rptW x).length = 24 := by
  unfold rptW rptHead rptTail
  simp only [List.length_append, beN_len, List.flatMap_cons, List.flatMap_nil, List.length_singleton, List.length_nil]
def hdA (x : Itm) : List UInt8 := if (x.kind == 200 || x.kind == 201) = true then beN x.ssrc.toNat 4 else []
theorem b8_ib (z : Int) : B8 (ib z) = .int .u8 (z % 256) := by
  unfold B8 ib
  rw [UInt8.toNat_ofNat']
  congr 1
  omega
theorem hdA_len (x : Itm) : (hdA x).length ≤ 4 := by
  unfold hdA
  split
  · rw [beN_len]; omega
  · simp
theorem hd7_200 {x : Itm} (h : x.kind = 200) : hd7 x = [hdA x, beN x.ntp.toNat 8, beN x.ts.toNat 4, beN x.pks.toNat 4, beN x.ocs.toNat 4].flatten := by
  unfold hd7 hdA
  rw [if_pos h, h]
  simp
theorem hd7_not {x : Itm} (h : x.kind ≠ 200) : hd7 x = hdA x := by
  unfold hd7 hdA
  rw [if_neg h]
  by_cases h1 : x.kind = 201
  · rw [if_pos h1, h1]; rfl
  · rw [if_neg h1, if_neg (by simp [h, h1])]
/-- How many things an item has, whatever they are. -/
theorem count_doc {x : Itm} (h : right7 x = true) : (count7 x).1 = x.reps.length + x.chks.length + x.srcs.length ∧ (count7 x).1 ≤ 31 := by
  unfold right7 at h
  simp only [Bool.and_eq_true, decide_eq_true_eq] at h
  obtain ⟨⟨⟨⟨h1, h2⟩, -⟩, -⟩, -⟩ := h
  refine ⟨?_, h2⟩
  clear h2
  revert h1
  unfold count7
  generalize x.reps.length = a
  generalize x.chks.length = b
  generalize x.srcs.length = c
  split
  · simp only [Bool.and_eq_true, beq_iff_eq]; omega
  split
  · simp only [Bool.and_eq_true, beq_iff_eq]; omega
  split
  · simp only [Bool.and_eq_true, beq_iff_eq]; omega
  split
  · simp only [Bool.and_eq_true, beq_iff_eq]; omega
  · simp
theorem bad_no {x : Itm} (h : right7 x = true) : bad7 x = false := by
  rw [right7_doc] at h
  simp only [Bool.and_eq_true, Bool.not_eq_true'] at h
  exact h.1.1.1
theorem right_rep {x : Itm} (h : right7 x = true) (hk : x.kind = 200 ∨ x.kind = 201) : x.chks = [] ∧ x.srcs = [] ∧ x.reason = [] := by
  have h1 := bad_no h
  unfold bad7 at h1
  rcases hk with hk | hk <;> rw [hk] at h1 <;> simp at h1 <;> exact ⟨by simp [h1], by simp [h1], by simp [h1]⟩
theorem right_202 {x : Itm} (h : right7 x = true) (hk : x.kind = 202) : x.reps = [] ∧ x.srcs = [] ∧ x.reason = [] := by
  have h1 := bad_no h
  unfold bad7 at h1
  rw [hk] at h1
  simp at h1
  exact ⟨by simp [h1], by simp [h1], by simp [h1]⟩
theorem right_203 {x : Itm} (h : right7 x = true) (hk : x.kind = 203) : x.reps = [] ∧ x.chks = [] := by
  have h1 := bad_no h
  unfold bad7 at h1
  rw [hk] at h1
  simp at h1
  exact ⟨by simp [h1], by simp [h1]⟩
theorem right_kind {x : Itm} (h : right7 x = true) : x.kind = 200 ∨ x.kind = 201 ∨ x.kind = 202 ∨ x.kind = 203 := by
  have h1 := bad_no h
  unfold bad7 at h1
  simp only [Bool.or_eq_false_iff, decide_eq_false_iff_not] at h1
  omega
end Go.Proofs.Ytcmpjkopdjncdaa
