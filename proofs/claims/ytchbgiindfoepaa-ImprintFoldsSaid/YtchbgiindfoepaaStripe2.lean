/- The walks of stripe.Sum.Add, Bytes, Fit; slices.IndexFunc. -/
import Derived.Test.YtchbgiindfoepaaStripe1
namespace Go.Proofs.Ytchbgiindfoepaa
open Go.RowKit

/-- A byte of an own row written. -/
theorem OwnB.live {w : World} {base : Nat} {v : Value} {l : List UInt8} (h : OwnB w base v l) (h0 : 0 < l.length) :
    ∃ g cap, v = .slice (some ⟨g, 0, none⟩) l.length cap ∧ base ≤ g ∧ g < w.heap.size ∧ l.length ≤ cap ∧ (∀ i (hi : i < l.length), w.cell? ⟨g, i, none⟩ = some (B8 l[i])) ∧ (∀ i, w.frozen? ⟨g, i, none⟩ = false) ∧
      ∀ i c, i < l.length → OwnB (w.setCell ⟨g, i, none⟩ (B8 c)) base v (l.set i c) ∧ Fr [g] w (w.setCell ⟨g, i, none⟩ (B8 c)) := by
  rcases h.2 with ⟨rfl, hn⟩ | ⟨g, cap, cur, rfl, hbg, hg, hnc, hcm, hcs, htake⟩
  · omega
  · refine ⟨g, cap, rfl, hbg, (Array.getElem?_eq_some_iff.1 hg).1, hnc, fun i hi => ?_, fun i => frozen_of_row w g i cur _ hg, fun i c hi => ⟨?_, ?_⟩⟩
    · have := h.cells (g := g) rfl i (B8 l[i]) (by rw [List.getElem?_map, List.getElem?_eq_getElem hi]; rfl)
      have hadd : (⟨g, 0, none⟩ : Addr).add i = ⟨g, i, none⟩ := by unfold Addr.add; split <;> simp_all
      rwa [hadd] at this
    · refine ⟨by simp, .inr ⟨g, cap, cur.setIfInBounds i (B8 c), by simp, hbg, heap_setCell_same w g i cur _ _ hg, by simpa using hnc, hcm, by simpa using hcs, ?_⟩⟩
      simp only [Array.toList_setIfInBounds, List.length_set, List.take_set, List.map_set]
      have := htake
      simp only [Nat.mul_one] at this ⊢
      rw [this]
    · exact (Fr.refl [g] w).set (.inl (by simp)) _

theorem OwnB.len {w : World} {base : Nat} {a : Option Addr} {n c : Nat} {l : List UInt8} (h : OwnB w base (.slice a n c) l) : n = l.length := by
  have h1 : Sl w (.slice a n c) (l.map B8) := h.bytes
  have := h1.len.1
  rwa [List.length_map] at this
/-- A stripe.Sum at block S: n rows were added, their sum is l. -/
structure Sm (w : World) (S base : Nat) (n : Nat) (v : Value) (l : List UInt8) : Prop where
  box : Box w S 197 #[v, .int .i64 n]
  own : OwnB w base v l
  low : S < base
  size : base ≤ w.heap.size
theorem gD (l : List UInt8) (i : Nat) : l.getD i 0 = l[i]?.getD 0 := List.getD_eq_getElem?_getD
theorem xb_pad (l b : List UInt8) : xb (l ++ List.replicate (b.length - l.length) 0) b = xb l b := by
  refine ext_getD (by simp [xb_len]; omega) fun i => ?_
  rw [xb_get, xb_get]
  congr 1
  rw [List.getD_eq_getElem?_getD, List.getD_eq_getElem?_getD, List.getElem?_append]
  split
  · rfl
  · rename_i h
    rw [List.getElem?_replicate, List.getElem?_eq_none_iff.2 (by omega : l.length ≤ i)]
    split <;> rfl
theorem xb_take_len {l b : List UInt8} (h : b.length ≤ l.length) (j : Nat) : (xb l (b.take j)).length = l.length := by rw [xb_len, List.length_take]; omega
theorem getD_take (b : List UInt8) (j i : Nat) : (b.take j).getD i 0 = if i < j then b.getD i 0 else 0 := by
  rw [List.getD_eq_getElem?_getD, List.getElem?_take]
  split
  · rw [List.getD_eq_getElem?_getD]
  · rfl
theorem xb_step {l b : List UInt8} (h : b.length ≤ l.length) {j : Nat} (hj : j < b.length) : xb l (b.take (j + 1)) = (xb l (b.take j)).set j (l.getD j 0 ^^^ b.getD j 0) := by
  refine ext_getD (by rw [List.length_set, xb_take_len h, xb_take_len h]) fun i => ?_
  rw [gD ((xb l (b.take j)).set _ _), List.getElem?_set, xb_take_len h, xb_get, getD_take]
  by_cases e : j = i
  · subst e
    rw [if_pos rfl, if_pos (by omega), if_pos (by omega)]
    rfl
  · rw [if_neg e, ← gD, xb_get, getD_take]
    by_cases h1 : i < j
    · rw [if_pos (by omega), if_pos h1]
    · rw [if_neg (by omega), if_neg h1]
theorem xb_at {l b : List UInt8} (h : b.length ≤ l.length) {j : Nat} (hj : j < b.length) (hj2 : j < (xb l (b.take j)).length) : (xb l (b.take j))[j] = l.getD j 0 := by
  have h1 := xb_get l (b.take j) j
  rw [getD_take, if_neg (by omega), gD (xb l (b.take j)), List.getElem?_eq_getElem hj2] at h1
  simpa using h1

set_option maxRecDepth 100000 in
set_option maxHeartbeats 4000000 in
theorem sumAdd_any {w : World} {S base n : Nat} {v : Value} {l : List UInt8} (h : Sm w S base n v l) {vb : Value} {b : List UInt8} (hb : Bytes w vb b) (hbl : b.length ≤ 1099511627776) (hl : l.length ≤ 1099511627776) (hn : n ≤ 1099511627776)
    (hsep : ∀ k, liveOf vb = some k → k < S) :
    Calls Try.prog 125 #[.pointer (some ⟨S, 0, none⟩), vb] w fun e w' => ∃ v', e = .returned (.tuple #[]) ∧ Sm w' S base (n + 1) v' (xb l b) ∧ Fr (S :: (blockOf v).toList) w w' ∧ ∀ k, blockOf v' = some k → blockOf v = some k ∨ w.heap.size ≤ k := by
  obtain ⟨ab, cb, rfl⟩ := hb.shape
  simp only [List.length_map] at hb ⊢
  have hlow := h.low
  have hT0 : Hid (Fr [] w w) := Lib.hid (Fr.refl _ _)
  simp only [List.length_map] at hsep
  have HB := Lib.hid hb; have HS := Lib.hid h; have HSEP := Lib.hid hsep
  have b0 := h.box.cell 0; have b1 := h.box.cell 1; have f1 := h.box.free 1
  simp only [List.getElem?_toArray, List.getElem?_cons_zero, List.getElem?_cons_succ] at b0 b1
  obtain ⟨w1, e1, hF1, hB1, hs1⟩ := set_new h.box 1 (.int .i64 ((n : Int) + 1))
  simp only [List.setIfInBounds_toArray, List.set_cons_zero, List.set_cons_succ] at hB1
  have H1 : Hid (Sm w1 S base (n + 1) v l) := Lib.hid ⟨hB1, h.own.low hF1 (by simp; omega), h.low, by have := h.size; omega⟩
  obtain ⟨a0, n0, c0, rfl⟩ := h.own.isSlice
  obtain ⟨rfl, hc0, hc1, hc2⟩ := Sl.len (show Sl w (.slice a0 n0 c0) (l.map B8) from h.own.bytes)
  simp only [List.length_map] at hc0 hc1 hc2 b0 HS H1 hB1 e1 ⊢
  have HF1 : Hid (Fr (S :: (blockOf (.slice a0 l.length c0)).toList) w w1) := Lib.hid (hF1.mono (by simp))
  have HB1 : Hid (Bytes w1 (.slice ab b.length cb) b) := Lib.hid (hb.frL hF1 (fun k hk hm => by have := hsep k hk; simp at hm; omega))
  clear h hb hsep hB1 hF1 hs1
  go_enter Try.func125, Try.ntmps125
  go_upto_region 1 with (fail)
  try rw [e1]
  clear e1 b0 b1 f1
  have b0 := H1.out.box.cell 0; have f0 := H1.out.box.free 0
  simp only [List.getElem?_toArray, List.getElem?_cons_zero, List.getElem?_cons_succ] at b0
  by_cases hlt : l.length < b.length
  · have hd2 : (b.length : Int) - (l.length : Int) = ((b.length - l.length : Nat) : Int) := by omega
    have HD2 := Lib.hid hd2
    clear hd2
    obtain ⟨iu8, hi1, hi2, hi3, hi4⟩ := info_parts info_u8
    obtain ⟨v3, w3, hr3, ho3, hF3, hn3⟩ := run_append_zeros (P := Try.prog) w1 base 25 3 25 5 iu8 (.int .u8 0) 1 Try.underlying25 Try.underlying3 hi1 hi2 hi3 hi4 rfl rfl _ _ _ H1.out.own (b.length - l.length) (by omega) (by unfold maxLen; omega) (by omega) H1.out.size
    have HR3 := Lib.hid hr3
    have hO3 : OwnB w3 base v3 (l ++ List.replicate (b.length - l.length) 0) := by
      unfold OwnB
      simpa [B8] using ho3
    have hB3 : Box w3 S 197 #[.slice a0 l.length c0, .int .i64 ((n + 1 : Nat) : Int)] := H1.out.box.fr hF3 (fun hm => by have := H1.out.own.block S (by simpa using hm); have := H1.out.low; omega)
    obtain ⟨a3, m3, c3, rfl⟩ := hO3.isSlice
    obtain ⟨w4, e4, hF4, hB4, hs4⟩ := set_new hB3 0 (.slice a3 m3 c3)
    simp only [List.setIfInBounds_toArray, List.set_cons_zero, List.set_cons_succ] at hB4
    have g0 := hB3.cell 0; have gf := hB3.free 0
    simp only [List.getElem?_toArray, List.getElem?_cons_zero] at g0
    have H4 : Hid (Sm w4 S base (n + 1) (.slice a3 m3 c3) (l ++ List.replicate (b.length - l.length) 0)) := Lib.hid ⟨hB4, hO3.low hF4 (by have := H1.out.low; simp; omega), H1.out.low, Nat.le_trans H1.out.size (Nat.le_trans hF3.size hF4.size)⟩
    have hpos : (0 : Int) < (b.length : Int) - (l.length : Int) := by omega
    obtain rfl := hO3.len
    have HL3 : Hid (b.length ≤ (l ++ List.replicate (b.length - l.length) 0).length) := Lib.hid (by simp; omega)
    have HEQ : Hid (xb (l ++ List.replicate (b.length - l.length) 0) b = xb l b) := Lib.hid (xb_pad l b)
    have HF4 : Hid (Fr (S :: (blockOf (.slice a0 l.length c0)).toList) w w4) := Lib.hid ((HF1.out.trans (hF3.mono (fun x hx => by simp at hx ⊢; exact .inr hx))).trans (hF4.mono (by simp)))
    have HB4 : Hid (Bytes w4 (.slice ab b.length cb) b) := Lib.hid ((HB1.out.frL hF3 (fun k hk hm => by have h1 := H1.out.own.block k (by simpa using hm); have h2 := HSEP.out k hk; have h3 := H1.out.low; omega)).frL hF4 (fun k hk hm => by have := HSEP.out k hk; simp at hm; omega))
    have HNEW : Hid (∀ k, blockOf (.slice a3 (l ++ List.replicate (b.length - l.length) 0).length c3) = some k → blockOf (.slice a0 l.length c0) = some k ∨ w.heap.size ≤ k) := Lib.hid (fun k hk => by
      rcases hn3 k hk with h | h
      · exact .inl h
      · exact .inr (by have := HF1.out.size; omega))
    clear hr3 ho3 hO3 hF3 hn3 hB3 hB4 hF4 hs4 H1 HF1 HB1
    generalize hl3 : l ++ List.replicate (b.length - l.length) 0 = l3 at *
    have hl3m : l3.length ≤ 1099511627776 := by rw [← hl3]; simp; omega
    clear hl3
    go_upto_region 3 with (fail)
    rw [HD2.out]
    go_upto_region 4 with (at_builtin; refine Lib.wpList_append_run _ rfl _ _ _ _ rfl _ _ rfl rfl _ _ HR3.out ?_)
    try rw [e4]
    clear e4 g0 gf b0 f0 HR3 hi1 hi2 hi3 hi4 hpos HD2
    go_upto_region 5 with (fail)
    go_loopw [35] (fun iv wr => ∃ j : Nat, j ≤ b.length ∧ iv = .int .i64 j ∧ Sm wr S base (n + 1) (.slice a3 l3.length c3) (xb l3 (b.take j)) ∧ Fr (S :: (blockOf (.slice a0 l.length c0)).toList) w wr ∧ Bytes wr (.slice ab b.length cb) b) (fun iv _ => b.length - (intOf iv).toNat)
    case atStart => exact ⟨0, Nat.zero_le _, rfl, by simpa [xb_nil_right] using H4.out, HF4.out, HB4.out⟩
    case round =>
      obtain ⟨j, hj, rfl, hS, hF, hBB⟩ := hrel
      have HS := Lib.hid hS; have HF := Lib.hid hF; have HBB := Lib.hid hBB
      clear hS hF hBB
      by_cases hjl : j < b.length
      · have hl3b := HL3.out
        obtain ⟨g, cap, ev, hbg, hgl, hlc, hcell, hfree, hset⟩ := HS.out.own.live (by rw [xb_take_len HL3.out]; omega)
        rw [xb_take_len HL3.out] at ev hlc
        simp only [Value.slice.injEq, true_and] at ev
        obtain ⟨rfl, rfl⟩ := ev
        have hj3 : j < (xb l3 (b.take j)).length := by rw [xb_take_len HL3.out]; omega
        have d1 := hcell j hj3
        rw [xb_at HL3.out hjl hj3] at d1
        have d2 := hfree j
        obtain ⟨hN, hFn⟩ := hset j (l3.getD j 0 ^^^ b.getD j 0) hj3
        rw [← xb_step HL3.out hjl] at hN
        obtain ⟨bb, ob, eb, hbb, hcb⟩ := HBB.out.at_ hjl
        subst eb
        have d3 := hcb j (B8 b[j]) (by rw [List.getElem?_map, List.getElem?_eq_getElem hjl]; rfl)
        have hgb : b[j] = b.getD j 0 := by rw [gD, List.getElem?_eq_getElem hjl]; rfl
        rw [hgb] at d3
        have d0 := HS.out.box.cell 0
        simp only [List.getElem?_toArray, List.getElem?_cons_zero] at d0
        have hx := u8_xor_nat (l3.getD j 0).toNat (b.getD j 0).toNat (getD_lt _ _) (getD_lt _ _)
        rw [← UInt8.toNat_xor] at hx
        have HN := Lib.hid hN; have HFN := Lib.hid hFn
        unfold B8 at d1 d3
        have HSB : Hid (S < g) := Lib.hid (by have := HS.out.low; omega)
        have hj63 : j < l3.length := by have := HL3.out; omega
        clear hcell hfree hset hN hFn hcb hgb hbb hbg hgl hj3 hl3b
        obtain ⟨w5, e5⟩ : ∃ w5, wr.setCell ⟨g, j, none⟩ (B8 (l3.getD j 0 ^^^ b.getD j 0)) = w5 := ⟨_, rfl⟩
        rw [e5] at HN HFN
        unfold B8 at e5
        generalize (l3.getD j 0 ^^^ b.getD j 0).toNat = cx at *
        generalize (l3.getD j 0).toNat = c1 at *
        generalize (b.getD j 0).toNat = c2 at *
        go_wp2_with fail
        have HS5 : Hid (Sm w5 S base (n + 1) (.slice (some ⟨g, 0, none⟩) l3.length c3) (xb l3 (b.take (j + 1)))) := Lib.hid ⟨HS.out.box.fr HFN.out (by have := HSB.out; simp; omega), HN.out, HS.out.low, Nat.le_trans HS.out.size HFN.out.size⟩
        have HF5 : Hid (Fr (S :: (blockOf (.slice a0 l.length c0)).toList) w w5) := Lib.hid (HF.out.step HFN.out (fun x hx => by
          simp at hx; subst hx
          rcases HNEW.out x rfl with h | h
          · exact .inl (by simp [h])
          · exact .inr h))
        have HB5 : Hid (Bytes w5 (.slice (some ⟨bb, ob, none⟩) b.length cb) b) := Lib.hid (HBB.out.frL HFN.out (fun k hk hm => by have := HSEP.out k hk; have := HSB.out; simp at hm; omega))
        go_roundw
        case rel => exact ⟨j + 1, by omega, by go_num, HS5.out, HF5.out, HB5.out⟩
        case measure => simp [intOf]; omega
      · obtain rfl : j = b.length := by omega
        go_wp2_with fail
        go_end0
        refine ⟨_, rfl, ?_, HF.out, HNEW.out⟩
        have := HS.out
        rw [List.take_of_length_le (Nat.le_refl _)] at this
        exact HEQ.out ▸ this
  · have HL3 : Hid (b.length ≤ l.length) := Lib.hid (by omega)
    obtain ⟨l3, hl3⟩ : ∃ l3, l3 = l := ⟨_, rfl⟩
    obtain ⟨a3, ha3⟩ : ∃ a3, a3 = a0 := ⟨_, rfl⟩
    obtain ⟨c3, hc3⟩ : ∃ c3, c3 = c0 := ⟨_, rfl⟩
    have H4 : Hid (Sm w1 S base (n + 1) (.slice a3 l3.length c3) l3) := Lib.hid (by subst hl3 ha3 hc3; exact H1.out)
    have HL3 : Hid (b.length ≤ l3.length) := Lib.hid (by subst hl3; exact HL3.out)
    have HEQ : Hid (xb l3 b = xb l b) := Lib.hid (by subst hl3; rfl)
    have hl3m : l3.length ≤ 1099511627776 := by subst hl3; exact hl
    have HNEW : Hid (∀ k, blockOf (.slice a3 l3.length c3) = some k → blockOf (.slice a0 l.length c0) = some k ∨ w.heap.size ≤ k) := Lib.hid (fun k hk => by subst hl3 ha3 hc3; exact .inl hk)
    have HF4 := HF1; have HB4 := HB1
    clear H1 HF1 HB1 hl3 ha3 hc3
    go_upto_region 5 with (fail)
    clear b0 f0
    go_loopw [35] (fun iv wr => ∃ j : Nat, j ≤ b.length ∧ iv = .int .i64 j ∧ Sm wr S base (n + 1) (.slice a3 l3.length c3) (xb l3 (b.take j)) ∧ Fr (S :: (blockOf (.slice a0 l.length c0)).toList) w wr ∧ Bytes wr (.slice ab b.length cb) b) (fun iv _ => b.length - (intOf iv).toNat)
    case atStart => exact ⟨0, Nat.zero_le _, rfl, by simpa [xb_nil_right] using H4.out, HF4.out, HB4.out⟩
    case round =>
      obtain ⟨j, hj, rfl, hS, hF, hBB⟩ := hrel
      have HS := Lib.hid hS; have HF := Lib.hid hF; have HBB := Lib.hid hBB
      clear hS hF hBB
      by_cases hjl : j < b.length
      · have hl3b := HL3.out
        obtain ⟨g, cap, ev, hbg, hgl, hlc, hcell, hfree, hset⟩ := HS.out.own.live (by rw [xb_take_len HL3.out]; omega)
        rw [xb_take_len HL3.out] at ev hlc
        simp only [Value.slice.injEq, true_and] at ev
        obtain ⟨rfl, rfl⟩ := ev
        have hj3 : j < (xb l3 (b.take j)).length := by rw [xb_take_len HL3.out]; omega
        have d1 := hcell j hj3
        rw [xb_at HL3.out hjl hj3] at d1
        have d2 := hfree j
        obtain ⟨hN, hFn⟩ := hset j (l3.getD j 0 ^^^ b.getD j 0) hj3
        rw [← xb_step HL3.out hjl] at hN
        obtain ⟨bb, ob, eb, hbb, hcb⟩ := HBB.out.at_ hjl
        subst eb
        have d3 := hcb j (B8 b[j]) (by rw [List.getElem?_map, List.getElem?_eq_getElem hjl]; rfl)
        have hgb : b[j] = b.getD j 0 := by rw [gD, List.getElem?_eq_getElem hjl]; rfl
        rw [hgb] at d3
        have d0 := HS.out.box.cell 0
        simp only [List.getElem?_toArray, List.getElem?_cons_zero] at d0
        have hx := u8_xor_nat (l3.getD j 0).toNat (b.getD j 0).toNat (getD_lt _ _) (getD_lt _ _)
        rw [← UInt8.toNat_xor] at hx
        have HN := Lib.hid hN; have HFN := Lib.hid hFn
        unfold B8 at d1 d3
        have HSB : Hid (S < g) := Lib.hid (by have := HS.out.low; omega)
        have hj63 : j < l3.length := by have := HL3.out; omega
        clear hcell hfree hset hN hFn hcb hgb hbb hbg hgl hj3 hl3b
        obtain ⟨w5, e5⟩ : ∃ w5, wr.setCell ⟨g, j, none⟩ (B8 (l3.getD j 0 ^^^ b.getD j 0)) = w5 := ⟨_, rfl⟩
        rw [e5] at HN HFN
        unfold B8 at e5
        generalize (l3.getD j 0 ^^^ b.getD j 0).toNat = cx at *
        generalize (l3.getD j 0).toNat = c1 at *
        generalize (b.getD j 0).toNat = c2 at *
        go_wp2_with fail
        have HS5 : Hid (Sm w5 S base (n + 1) (.slice (some ⟨g, 0, none⟩) l3.length c3) (xb l3 (b.take (j + 1)))) := Lib.hid ⟨HS.out.box.fr HFN.out (by have := HSB.out; simp; omega), HN.out, HS.out.low, Nat.le_trans HS.out.size HFN.out.size⟩
        have HF5 : Hid (Fr (S :: (blockOf (.slice a0 l.length c0)).toList) w w5) := Lib.hid (HF.out.step HFN.out (fun x hx => by
          simp at hx; subst hx
          rcases HNEW.out x rfl with h | h
          · exact .inl (by simp [h])
          · exact .inr h))
        have HB5 : Hid (Bytes w5 (.slice (some ⟨bb, ob, none⟩) b.length cb) b) := Lib.hid (HBB.out.frL HFN.out (fun k hk hm => by have := HSEP.out k hk; have := HSB.out; simp at hm; omega))
        go_roundw
        case rel => exact ⟨j + 1, by omega, by go_num, HS5.out, HF5.out, HB5.out⟩
        case measure => simp [intOf]; omega
      · obtain rfl : j = b.length := by omega
        go_wp2_with fail
        go_end0
        refine ⟨_, rfl, ?_, HF.out, HNEW.out⟩
        have := HS.out
        rw [List.take_of_length_le (Nat.le_refl _)] at this
        exact HEQ.out ▸ this

set_option maxHeartbeats 400000 in
theorem sumBytes_any {w : World} {S base n : Nat} {v : Value} {l : List UInt8} (h : Sm w S base n v l) (hl : l.length ≤ 1099511627776) :
    Calls Try.prog 126 #[.pointer (some ⟨S, 0, none⟩)] w fun e w' => ∃ v', e = .returned v' ∧ OwnB w' w.heap.size v' l ∧ Fr [] w w' := by
  have HW := Lib.hid h
  have b0 := h.box.cell 0
  simp only [List.getElem?_toArray, List.getElem?_cons_zero] at b0
  clear h
  go_enter Try.func126, Try.ntmps126
  go_wp2_with fail
  refine (cloneB_any HW.out.own.bytes hl).mono ?_
  rintro e w1 ⟨v', rfl, hO, hF⟩
  have H1 := Lib.hid hO; have H2 := Lib.hid hF
  clear hO hF
  go_wp2_with fail
  go_ret
  exact ⟨v', rfl, H1.out, H2.out⟩

set_option maxHeartbeats 400000 in
theorem Gap1_any {w : World} (c : Nat) : Calls Try.prog 88 #[.int .u8 c] w fun e w' => e = .returned (.bool ((c : Int) != 0)) ∧ w' = w := by
  go_enter Try.func88, Try.ntmps88
  go_wp2_with fail
  go_ret
  first | exact ⟨rfl, rfl⟩ | exact ⟨ret_bool (by simp), rfl⟩

set_option maxHeartbeats 1000000 in
theorem indexB_any {w : World} {v : Value} {l : List UInt8} (h : Bytes w v l) (hl : l.length ≤ 1099511627776) :
    Calls Try.prog 87 #[v, .func (.func 88) #[] #[]] w fun e w' => ∃ n : Int, e = .returned (.int .i64 n) ∧ decide (n < 0) = l.all (· == 0) ∧ Fr [] w w' := by
  obtain ⟨av, cv, rfl⟩ := h.shape
  simp only [List.length_map] at h ⊢
  have H := Lib.hid h
  clear h
  go_enter Try.func87, Try.ntmps87
  go_upto_region 2 with (fail)
  go_loopw [8] (fun jv wr => ∃ j : Nat, j ≤ l.length ∧ jv = .int .i64 j ∧ (∀ i < j, l.getD i 0 = 0) ∧ Fr [] w wr) (fun jv _ => l.length - (intOf jv).toNat)
  case atStart => exact ⟨0, Nat.zero_le _, rfl, fun i hi => by omega, Fr.refl _ _⟩
  case round =>
    obtain ⟨j, hj, rfl, heq, hF2⟩ := hrel
    have HF2 := Lib.hid hF2; have HEQ := Lib.hid heq
    clear hF2 heq
    by_cases hjl : j < l.length
    · obtain ⟨b, o, ea, hb, hc⟩ := H.out.at_ hjl
      subst ea
      have e2 := HF2.out.cellSome (hc j (B8 l[j]) (by rw [List.getElem?_map, List.getElem?_eq_getElem hjl]; rfl)) (by simp)
      unfold B8 at e2
      have HG : Hid (l.getD j 0 = l[j]) := Lib.hid (by rw [List.getD_eq_getElem?_getD, List.getElem?_eq_getElem hjl]; rfl)
      have HM : Hid (l[j] ∈ l) := Lib.hid (List.getElem_mem hjl)
      have HN : Hid (l[j].toNat = 0 ↔ l[j] = 0) := Lib.hid (by rw [← UInt8.toNat_inj]; rfl)
      generalize hx : l[j] = x at *
      clear hx hc hb
      have HC := Lib.hid (show x.toNat = x.toNat from rfl)
      generalize hcc : x.toNat = c at *
      clear hcc HC
      go_wp2_with fail
      refine (Gap1_any c).mono ?_
      rintro e w3 ⟨rfl, rfl⟩
      by_cases hc0 : c = 0
      · have HX0 := Lib.hid (HG.out.trans (HN.out.1 hc0))
        subst hc0
        go_wp2_with fail
        go_roundw
        case rel => exact ⟨j + 1, by omega, by go_num, fun i hi => (by rcases Nat.lt_succ_iff_lt_or_eq.1 hi with h | rfl; exact HEQ.out i h; exact HX0.out), HF2.out⟩
        case measure => simp [intOf]; omega
      · have hcb : ((c : Int) != 0) = true := by simp; omega
        have HZ : Hid (x ≠ 0) := Lib.hid fun h => hc0 (HN.out.2 h)
        rw [hcb]
        go_wp2_with fail
        go_ret
        refine ⟨j, rfl, ?_, HF2.out⟩
        have : ¬ ((j : Int) < 0) := by omega
        cases hg : l.all (· == 0) with
        | true => exact absurd (by simpa using List.all_eq_true.1 hg x HM.out) HZ.out
        | false => simp
    · obtain rfl : j = l.length := by omega
      have hg : l.all (· == 0) = true := List.all_eq_true.2 fun x hx => by
        obtain ⟨i, hi, rfl⟩ := List.getElem_of_mem hx
        have := HEQ.out i hi
        rw [List.getD_eq_getElem?_getD, List.getElem?_eq_getElem hi, Option.getD_some] at this
        simp [this]
      have HG := Lib.hid hg
      clear hg
      go_wp2_with fail
      go_ret
      exact ⟨-1, rfl, by rw [HG.out]; rfl, HF2.out⟩
end Go.Proofs.Ytchbgiindfoepaa
