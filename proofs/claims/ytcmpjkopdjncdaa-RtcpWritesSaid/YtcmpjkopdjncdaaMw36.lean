import Derived.Test.YtcmpjkopdjncdaaMw35
import Derived.Test.YtcmpjkopdjncdaaMw17
import Derived.Test.YtcmpjkopdjncdaaMw10
import Derived.Test.YtcmpjkopdjncdaaMw9
import Derived.Test.YtcmpjkopdjncdaaMw19
import Derived.Test.YtcmpjkopdjncdaaMw34
/- A string as bytes; the walk of rtcp's writeChunk. -/
namespace Go.Proofs.Ytcmpjkopdjncdaa
open Go.RowKit

set_option maxRecDepth 100000 in
theorem bytes_of (w : World) (l : List UInt8) (h : l.length ≤ maxLen) :
    ∃ c w', (Go.convert 9 22 (.string (strB l))).run Try.prog w = .ok (.slice (some ⟨w.heap.size, 0, none⟩) l.length c) w' ∧ Bytes w' (.slice (some ⟨w.heap.size, 0, none⟩) l.length c) l ∧ Fr [] w w' ∧ w'.heap.size = w.heap.size + 1 := by
  have h1 := run_bytes_of_string (P := Try.prog) w 9 22 5 (strB l) Try.underlying9 Try.underlying22 Try.underlying5
  rw [strB_size] at h1
  have hge := grownCap_ge w l.length 0 5
  have hle := grownCap_le_maxLen w l.length 0 5 h
  refine ⟨_, _, h1, ?_, ((Fr.refl [] w).drew).alloc _, by simp⟩
  refine ⟨some ⟨w.heap.size, 0, none⟩, grownCap w l.length 0 5, by rw [List.length_map], by rw [List.length_map]; exact hge, hle, (fun h => by cases h), ?_⟩
  rintro p hp -
  cases hp
  refine ⟨rfl, by simp, fun i u hu => ?_⟩
  rw [List.getElem?_map] at hu
  cases hl : l[i]? with
  | none => rw [hl] at hu; cases hu
  | some b =>
    rw [hl] at hu
    cases hu
    have hi := (List.getElem?_eq_some_iff.1 hl).1
    obtain ⟨-, hb⟩ := List.getElem?_eq_some_iff.1 hl
    rw [Nat.zero_add, cell_of_row (w.drew.alloc (.cells (bytesRow (strB l) (grownCap w l.length 0 5)) 5 _)) w.heap.size i _ _ _ (heap_alloc_new w.drew _)]
    unfold bytesRow
    rw [Array.getElem?_append_left (by simp [strB, hi]), Array.getElem?_map]
    simp [strB, hl, B8]
/-- A text's bytes, a chunk's. -/
def txtW (t : Int × List UInt8) : List UInt8 := [ib t.1, ib (t.2.length : Nat)] ++ t.2
def chkW0 (x : Chk) : List UInt8 := beN x.ssrc.toNat 4 ++ x.texts.flatMap txtW ++ [0]
def chkW (x : Chk) : List UInt8 := chkW0 x ++ List.replicate (padOf (chkW0 x).length) 0
theorem WS.apart {w w1 wi : World} {W G base : Nat} {v vi : Value} {l li : List UInt8} (h0 : Wr w W v base l) (h : WS w1 wi W v vi base li) (hG : w.heap.size ≤ G) (hGa : G < w1.heap.size) : G ∉ W :: (blockOf vi).toList := by
  intro hm
  simp only [List.mem_cons, Option.mem_toList] at hm
  rcases hm with hm | hm
  · have := h0.box.lt; omega
  · rcases h.fresh _ hm with h1 | h1
    · have := (h0.own.block _ h1).2; omega
    · omega
set_option maxRecDepth 100000 in
set_option maxHeartbeats 4000000 in
theorem tWChunk_any {w : World} {W base : Nat} {v vt : Value} {l : List UInt8} (hW : Wr w W v base l) (x : Chk) (h : SlEls 2 TxtR w vt x.texts []) (hne : ∀ b, liveOf vt = some b → b < W) (hl : l.length + (x.texts.flatMap txtW).length ≤ 1099511600000) :
    Calls Try.prog 65 #[.pointer (some ⟨W, 0, none⟩), .agg #[.int .u32 (x.ssrc.toNat : Nat), vt]] w fun e w' => ∃ v', e = .returned (.tuple #[]) ∧ WS w w' W v v' base (l ++ chkW x) := by
  obtain ⟨avt, cvt, rfl⟩ := h.shape
  obtain ⟨n, hn⟩ : ∃ n, x.texts.length = n := ⟨_, rfl⟩
  rw [hn] at h hne ⊢
  have HN := Lib.hid hn; have HLL := Lib.hid hl
  have hnb : n ≤ 1099511627776 := by
    have h9 : x.texts.length ≤ (x.texts.flatMap txtW).length := by
      generalize x.texts = ts
      induction ts with
      | nil => simp
      | cons t ts ih => rw [List.flatMap_cons, List.length_append, List.length_cons]; simp only [txtW, List.length_append, List.length_cons]; omega
    omega
  obtain ⟨w1, e1, hF1, hB1, hs1⟩ := one_new w #[.int .u32 (x.ssrc.toNat : Nat), .slice avt n cvt] 87
  have HW0 := Lib.hid ((WS.start hW).quiet hF1)
  have HT0 := Lib.hid (h.keep Rep.txt hF1)
  have HNE : Hid (∀ b, liveOf (.slice avt n cvt) = some b → b ∉ W :: (blockOf v).toList) := Lib.hid (fun b hb hm => by
    have h1 := hne b hb
    simp only [List.mem_cons, Option.mem_toList] at hm
    rcases hm with hm | hm
    · omega
    · have := (hW.own.block b hm).1; have := hW.low; omega)
  have HB := Lib.hid hB1; have E1 := Lib.hid e1
  have HWR := Lib.hid hW; have HG1 : Hid (w.heap.size < w1.heap.size) := Lib.hid (by omega)
  clear hF1 hB1 e1 hs1 h hne hW hn hl
  go_enter Try.func65, Try.ntmps65
  go_upto_region 1 with fail
  rw [E1.out]
  clear E1
  go_wp2_with fail
  refine (wwlen_any HW0.out.wr).mono ?_
  rintro e w2 ⟨rfl, hF⟩
  have HW2 := Lib.hid (HW0.out.quiet hF); have HB := Lib.hid (HB.out.keep hF); have HT := Lib.hid (HT0.out.keep Rep.txt hF)
  have HG2 : Hid (w.heap.size < w2.heap.size) := Lib.hid (Nat.lt_of_lt_of_le HG1.out hF.size)
  clear hF
  have HWS := Lib.hid (WS.start HW2.out.wr)
  have x0 := HB.out.cell 0
  simp only [List.getElem?_toArray, List.getElem?_cons_succ, List.getElem?_cons_zero] at x0
  go_wp2_with fail
  refine (wlong_any HWS.out.wr x.ssrc.toNat (by have := x.ssrc.toNat_lt; omega) (by have := HLL.out; omega)).mono ?_
  rintro e w3 ⟨v3, rfl, hw⟩
  have HB := Lib.hid (HB.out.fr hw.fr (WS.apart HWR.out HWS.out (Nat.le_refl _) HG2.out)); have HWS := Lib.hid (HWS.out.trans hw)
  clear hw x0
  have x1 := HB.out.cell 1
  simp only [List.getElem?_toArray, List.getElem?_cons_succ, List.getElem?_cons_zero] at x1
  go_upto_region 4 with fail
  clear x1
  go_loopw [16] (fun iv wr => ∃ (j : Nat) (v' : Value), j ≤ n ∧ iv = .int .i64 j ∧ WS w2 wr W v v' base (l ++ beN x.ssrc.toNat 4 ++ (x.texts.take j).flatMap txtW)) (fun iv _ => n - (intOf iv).toNat)
  case atStart => exact ⟨0, v3, by omega, rfl, by simpa using HWS.out⟩
  case round =>
    clear HWS HB
    obtain ⟨j, v', hj, rfl, hws⟩ := hrel
    have HWS := Lib.hid hws
    clear hws
    have HLJ : Hid ((l ++ beN x.ssrc.toNat 4 ++ (x.texts.take j).flatMap txtW).length + ((x.texts.drop j).flatMap txtW).length ≤ 1099511600004) := Lib.hid (by
      have h9 : ((x.texts.take j).flatMap txtW).length + ((x.texts.drop j).flatMap txtW).length = (x.texts.flatMap txtW).length := by rw [← List.length_append, ← List.flatMap_append, List.take_append_drop]
      have := HLL.out
      simp only [List.length_append, beN_len]
      omega)
    by_cases hlt : j < n
    · obtain ⟨b, o, c, y, B1, ea, -, hy, ⟨rfl, -⟩, -, hrg⟩ := (HT.out.fr Rep.txt HWS.out.fr (by simp) HNE.out).at_ Rep.txt (i := j) hlt
      subst ea
      have HRG := Lib.hid hrg
      have HTK : Hid (x.texts.take (j + 1) = x.texts.take j ++ [y]) := Lib.hid (by rw [List.take_add_one, hy]; rfl)
      have HYL : Hid ((l ++ beN x.ssrc.toNat 4 ++ (x.texts.take j).flatMap txtW).length + (y.2.length + 2) ≤ 1099511600004) := Lib.hid (by
        have h9 := HLJ.out
        have h8 : x.texts.drop j = y :: x.texts.drop (j + 1) := by
          obtain ⟨hj9, rfl⟩ := List.getElem?_eq_some_iff.1 hy
          exact List.drop_eq_getElem_cons hj9
        rw [h8, List.flatMap_cons] at h9
        simp only [txtW, List.length_append, List.length_cons, List.length_nil] at h9 ⊢
        omega)
      have hsz := strB_size y.2
      obtain ⟨lj, hlj⟩ : ∃ lj, l ++ beN x.ssrc.toNat 4 ++ (x.texts.take j).flatMap txtW = lj := ⟨_, rfl⟩
      rw [hlj] at HYL HWS
      have HLJ2 := Lib.hid hlj
      clear hy hrg HLJ hlj
      obtain ⟨wa, ea, hFa, hBa, hsa⟩ := one_new wr (txc y) 90
      have EA := Lib.hid ea; have HX := Lib.hid hBa
      have HWA := Lib.hid (HWS.out.quiet hFa)
      have HGA : Hid (wr.heap.size < wa.heap.size) := Lib.hid (by omega)
      have HFA := Lib.hid hFa
      clear ea hFa hBa hsa
      have HWSR := Lib.hid (HWS.out.wr); have HW6 := HWS
      have HSS := Lib.hid (WS.start HWA.out.wr)
      go_upto_region 6 with (refine wpList_load_midA rfl 90 (.tmp 18) rfl b (o + j * 2) rfl (txc y) _ HRG.out Try.underlying90 rfl (by kernel_rfl) ?_)
      rw [EA.out]
      clear EA HWS
      have x0 := HX.out.cell 0; have x1 := HX.out.cell 1
      simp only [txc, List.getElem?_toArray, List.getElem?_cons_succ, List.getElem?_cons_zero] at x0 x1
      go_wp2_with fail
      refine (wbyte_any HSS.out.wr y.1 (by have := HYL.out; omega)).mono ?_
      rintro e w4 ⟨v4, rfl, hw⟩
      have HX := Lib.hid (HX.out.fr hw.fr (WS.apart HWSR.out HSS.out (Nat.le_refl _) HGA.out)); have HSS := Lib.hid (HSS.out.trans hw)
      clear hw x0 x1
      have x1 := HX.out.cell 1
      simp only [txc, List.getElem?_toArray, List.getElem?_cons_succ, List.getElem?_cons_zero] at x1
      go_wp2_with fail
      refine (wbyte_any HSS.out.wr (y.2.length : Nat) (by have := HYL.out; simp only [List.length_append, List.length_singleton]; omega)).mono ?_
      rintro e w5 ⟨v5, rfl, hw⟩
      have HX := Lib.hid (HX.out.fr hw.fr (WS.apart HWSR.out HSS.out (Nat.le_refl _) HGA.out)); have HSS := Lib.hid (HSS.out.trans hw)
      clear hw x1
      have x1 := HX.out.cell 1
      simp only [txc, List.getElem?_toArray, List.getElem?_cons_succ, List.getElem?_cons_zero] at x1
      obtain ⟨c6, w6, hcv, hb6, hF6, hs6⟩ := bytes_of w5 y.2 (by have := HYL.out; unfold maxLen; omega)
      have HB6 := Lib.hid hb6; have HSS := Lib.hid (HSS.out.quiet hF6)
      clear hb6 hF6 hs6
      go_wp2_with fail
      refine (wput_any HSS.out.wr HB6.out (by have := HYL.out; omega) (by have := HYL.out; simp only [List.length_append, List.length_singleton]; omega)).mono ?_
      rintro e w7 ⟨v7, rfl, hw⟩
      have HSS := Lib.hid (HSS.out.trans hw)
      clear hw x1 hcv
      go_wp2_with fail
      refine ⟨⟨j + 1, v7, by omega, by go_num, ?_⟩, by simp [intOf]; omega⟩
      have h9 := (HW6.out.quiet HFA.out).trans HSS.out
      rw [← HLJ2.out] at h9
      rw [HTK.out, List.flatMap_append]
      simpa [txtW] using h9
    · obtain rfl : j = n := by omega
      clear hj hlt
      have hw9 := HWS.out
      rw [List.take_of_length_le (by rw [HN.out]; exact Nat.le_refl _)] at hw9
      have HWS := Lib.hid hw9
      clear hw9
      have HLZ : Hid ((l ++ beN x.ssrc.toNat 4 ++ x.texts.flatMap txtW).length ≤ 1099511600004) := Lib.hid (by have := HLL.out; simp only [List.length_append, beN_len]; omega)
      go_wp2_with fail
      refine (wbyte_any HWS.out.wr 0 (by have := HLZ.out; omega)).mono ?_
      rintro e w8 ⟨v8, rfl, hw⟩
      have HWS := Lib.hid (HWS.out.trans hw)
      clear hw
      rw [ib_zero] at HWS
      go_wp2_with fail
      refine (tFill_any HWS.out.wr l.length (by simp only [List.length_append]; omega) (by have := HLZ.out; simp only [List.length_append, List.length_singleton] at this ⊢; omega)).mono ?_
      rintro e w9 ⟨v9, rfl, hw⟩
      have HWS := Lib.hid (HWS.out.trans hw)
      clear hw
      go_wp2_with fail
      go_end0
      refine ⟨v9, rfl, ?_⟩
      have h9 := HW2.out.trans HWS.out
      have e1 : (l ++ beN x.ssrc.toNat 4 ++ x.texts.flatMap txtW ++ [0]).length - l.length = (chkW0 x).length := by unfold chkW0; simp only [List.length_append]; omega
      rw [e1] at h9
      have e2 : l ++ beN x.ssrc.toNat 4 ++ x.texts.flatMap txtW ++ [0] ++ List.replicate (padOf (chkW0 x).length) 0 = l ++ chkW x := by unfold chkW chkW0; simp only [List.append_assoc]
      rw [e2] at h9
      exact h9
end Go.Proofs.Ytcmpjkopdjncdaa

/- The walk of confluxref07.long (printed by gen_7ref1.py). -/
namespace Go.Proofs.Ytcmpjkopdjncdaa
open Go.RowKit

set_option maxRecDepth 100000 in
set_option maxHeartbeats 4000000 in
theorem r07long_any {w : World} {v : Value} {l : List UInt8} (h : Bytes w v l) (h4 : 4 ≤ l.length) :
    Calls Try.prog 53 #[v] w fun e w' => e = .returned (.int .u32 ((l32 l 0).toNat : Nat)) ∧ Fr [] w w' := by
  obtain ⟨a, cap, rfl⟩ := Sl.shape h
  have hc := (Sl.len h).2.1
  have HP : Hid (Bytes w (.slice a 4 cap) (l.take 4)) := Lib.hid (by
    have h9 := Sl.pre h 4 cap (by simpa using h4) (by simp at hc; omega) (Nat.le_refl _)
    rw [← List.map_take] at h9
    exact h9)
  rw [List.length_map] at hc ⊢
  have hn := nb_lt l 0 4
  have HE := Lib.hid (l32_nat l 0)
  clear h
  have h4c : 4 ≤ cap := by omega
  go_enter Try.func53, Try.ntmps53
  go_wp2_with fail
  refine (RNumber_any HP.out (by rw [List.length_take]; omega)).mono ?_
  rintro e w2 ⟨rfl, hF⟩
  have HF := Lib.hid hF
  clear hF
  rw [show be (l.take 4) = nb l 0 4 from rfl]
  go_wp2_with fail
  go_ret
  exact ⟨by rw [HE.out]; rfl, HF.out⟩
end Go.Proofs.Ytcmpjkopdjncdaa

/- The walk of confluxref07.report (printed by gen_7ref2.py). -/
namespace Go.Proofs.Ytcmpjkopdjncdaa
open Go.RowKit

theorem r07long_at {w : World} {b o : Nat} {cap : Nat} {l : List UInt8} (h : Bytes w (.slice (some ⟨b, o, none⟩) l.length cap) l) (k : Nat) (hk : k + 4 ≤ l.length) (hc : k < cap) :
    Calls Try.prog 53 #[.slice (some ⟨b, o + k, none⟩) (l.length - k) (cap - k)] w fun e w' => e = .returned (.int .u32 ((l32 l k).toNat : Nat)) ∧ Fr [] w w' := by
  have hs := Sl.sub' h k (l.length - k) (by omega)
  rw [if_neg (by omega), ← List.map_drop, ← List.map_take, List.take_of_length_le (by rw [List.length_drop]; exact Nat.le_refl _)] at hs
  have h9 := r07long_any (l := l.drop k) hs (by rw [List.length_drop]; omega)
  have he : l32 (l.drop k) 0 = l32 l k := by unfold l32 nb; rw [List.drop_drop, Nat.add_zero]
  rw [he] at h9
  exact h9
set_option maxRecDepth 100000 in
set_option maxHeartbeats 8000000 in
theorem r07report_any {w : World} {v : Value} {l : List UInt8} (h : Bytes w v l) (h24 : 24 ≤ l.length) :
    Calls Try.prog 54 #[v] w fun e w' => e = .returned (.agg (rpc7 (rptAt l 0))) ∧ Fr [] w w' := by
  obtain ⟨a, cap, rfl⟩ := Sl.shape h
  have hc := (Sl.len h).2.1
  have hnz : ∃ p, a = some p := by
    cases a with
    | none => have := (Sl.len h).2.2.2 rfl; simp at hc; omega
    | some p => exact ⟨p, rfl⟩
  obtain ⟨⟨b, o, sp⟩, rfl⟩ := hnz
  obtain ⟨b', o', e', hbl, hcell⟩ := Sl.at_ h (k := 4) (by rw [List.length_map]; omega)
  simp only [Option.some.injEq, Addr.mk.injEq] at e'
  obtain ⟨rfl, rfl, rfl⟩ := e'
  rw [List.length_map] at h hc ⊢
  have HH := Lib.hid h
  obtain ⟨m, hm⟩ : ∃ m, l.length = m := ⟨_, rfl⟩
  have HM := Lib.hid hm
  have H5 := Lib.hid (RNum_at h 5 3 (by omega) (by omega) (by omega))
  have d4 := hcell 4 (B8 (l[4]'(by omega))) (by rw [List.getElem?_map, List.getElem?_eq_getElem (by omega)]; rfl)
  have hn1 : nb l 4 1 = (l[4]'(by omega)).toNat := nb_one (by omega)
  unfold B8 at d4
  rw [← hn1] at d4
  have HD4 := Lib.hid d4
  have HNB4 : Hid (nb l 4 1 < 256) := Lib.hid (by rw [hn1]; exact UInt8.toNat_lt _)
  rw [hm] at h24 hc ⊢
  have hc24 : 24 ≤ cap := by omega
  have hc5 : ¬ cap = 5 := by omega
  have HSP : Hid (nb l 5 3 = nb l 5 1 * 65536 + nb l 6 2) := Lib.hid (nb_split (m := 1) (n := 2) (by omega))
  clear h hm hn1 d4 hcell hbl
  obtain ⟨w1, e1, hF1, hB1, hs1⟩ := one_new w #[.int .u32 0, .int .i64 0, .int .i32 0, .int .u32 0, .int .u32 0, .int .u32 0, .int .u32 0] 57
  have HF := Lib.hid hF1; have HB := Lib.hid hB1; have E1 := Lib.hid e1; have HH := Lib.hid (Sl.keep HH.out hF1); have HD4 := Lib.hid (hF1.cellSome HD4.out (by simp))
  have H5 := Lib.hid (RNum_at HH.out 5 3 (by rw [HM.out]; omega) (by omega) (by omega))
  clear hF1 hB1 e1 hs1
  have hnn3 := nb_lt l 5 3
  obtain ⟨nn, hnn⟩ : ∃ nn, nb l 5 3 = nn := ⟨_, rfl⟩
  rw [hnn] at H5 HSP hnn3
  clear hnn
  have hw64 : wrap64 ((nn : Nat) : Int) = ((nn : Nat) : Int) := IntWalk.wrap64_in _ ⟨by omega, by omega⟩
  go_enter Try.func54, Try.ntmps54
  go_upto_region 1 with fail
  rw [E1.out]
  clear E1
  go_wp2_with fail
  refine H5.out.mono ?_
  rintro e w2 ⟨rfl, hF⟩
  have HF := Lib.hid (HF.out.trans hF); have HB := Lib.hid (HB.out.keep hF); have HH := Lib.hid (Sl.keep HH.out hF); have HD4 := Lib.hid (hF.cellSome HD4.out (by simp))
  clear hF H5
  obtain ⟨N, hN⟩ : ∃ N : Int, ((nn : Nat) : Int) = N := ⟨_, rfl⟩
  rw [hN] at hw64 ⊢
  have HN := Lib.hid hN
  have HNB : Hid (nn < 16777216) := Lib.hid (by omega)
  have hnlt : 0 ≤ N ∧ N ≤ 16777216 := by omega
  clear hN hnn3
  go_upto_if 9 with fail
  go_cut [3] (fun sv wx => sv = .int .i64 (sgn24 nn) ∧ Fr [] w2 wx)
  case first =>
    by_cases hge : 8388608 ≤ N
    · have hg1 : decide (8388608 ≤ N) = true := decide_eq_true hge
      have hs : sgn24 nn = N - 16777216 := by have := HN.out; unfold sgn24; rw [if_pos (by omega)]; omega
      have HSG := Lib.hid hs
      clear hs
      go_wp2_with fail
      go_meet
      exact ⟨by rw [HSG.out], Fr.refl _ _⟩
    · have hg1 : decide (8388608 ≤ N) = false := decide_eq_false hge
      have hs : sgn24 nn = N := by have := HN.out; unfold sgn24; rw [if_neg (by omega)]; exact this
      have HSG := Lib.hid hs
      clear hs
      go_wp2_with fail
      go_meet
      exact ⟨by rw [HSG.out], Fr.refl _ _⟩
  case rest =>
    obtain ⟨rfl, hF⟩ := hcut
    have HF := Lib.hid (HF.out.trans hF); have HB := Lib.hid (HB.out.keep hF); have HH := Lib.hid (Sl.keep HH.out hF); have HD4 := Lib.hid (hF.cellSome HD4.out (by simp))
    clear hF hw64 hnlt HN
    have hsb : -8388608 ≤ sgn24 nn ∧ sgn24 nn < 8388608 := by have := HNB.out; unfold sgn24; split <;> omega
    obtain ⟨sg, hsg⟩ : ∃ sg, sgn24 nn = sg := ⟨_, rfl⟩
    rw [hsg] at hsb ⊢
    have HSG := Lib.hid hsg
    clear hsg
    have h32 : IntKind.i32.wrap sg = sg := IntWalk.i32_in _ (by omega)
    have h64 : wrap64 ((nb l 4 1 : Nat) : Int) = ((nb l 4 1 : Nat) : Int) := IntWalk.wrap64_in _ ⟨by omega, by have := HNB4.out; omega⟩
    have h64b : IntKind.i64.wrap ((nb l 4 1 : Nat) : Int) = ((nb l 4 1 : Nat) : Int) := IntWalk.i64_in _ (by have := HNB4.out; omega)
    have hc8 : ¬ cap = 8 := by omega
    have hc12 : ¬ cap = 12 := by omega
    have hc16 : ¬ cap = 16 := by omega
    have hc20 : ¬ cap = 20 := by omega
    have hm4 : (4 : Int) < (m : Int) := by omega
    have hm8 : (8 : Int) ≤ (m : Int) := by omega
    have hm12 : (12 : Int) ≤ (m : Int) := by omega
    have hm16 : (16 : Int) ≤ (m : Int) := by omega
    have hm20 : (20 : Int) ≤ (m : Int) := by omega
    clear hsb
    go_upto_region 4 with fail
    refine wp_region_T (fun w' => Fr [] wc.drew w') [21] 22 #[false, false, false, false, false, false, false, false, false, false, false, false, false, false, false, false, false, false, false, false, false, false] (by kernel_rfl) rfl rfl ?_
    try simp only [List.append_eq, List.cons_append, List.nil_append]
    have hF := (Fr.refl [] wc).drew
    have HF := Lib.hid (HF.out.trans hF)
    have HB := Lib.hid (HB.out.keep hF)
    have HH := Lib.hid (Sl.keep HH.out hF)
    have HD4 := Lib.hid (hF.cellSome HD4.out (by simp))
    clear hF
    have HSS : Hid (Fr [] wc.drew wc.drew) := Lib.hid (Fr.refl _ _)
    generalize wc.drew = wd at *
    refine wpAnyT_load (i := 0) (v := ?_) rfl (by kernel_rfl) (by kernel_rfl) (by kernel_rfl) (by kernel_rfl) (by kernel_rfl) (fun _ _ _ h => h) HSS.out (by rfl) ?_ ?_
    rotate_left
    · intro w hSw; skip; go_simp; try with_reducible rfl
    simp only [Act.put, List.getElem_toArray, List.getElem_cons_zero, List.getElem_cons_succ, List.setIfInBounds_toArray, List.set_cons_zero, List.set_cons_succ]
    refine wpAnyT_load (i := 2) (v := ?_) rfl (by kernel_rfl) (by kernel_rfl) (by kernel_rfl) (by kernel_rfl) (by kernel_rfl) (fun _ _ _ h => h) HSS.out (by rfl) ?_ ?_
    rotate_left
    · intro w hSw; skip; go_simp; try with_reducible rfl
    simp only [Act.put, List.getElem_toArray, List.getElem_cons_zero, List.getElem_cons_succ, List.setIfInBounds_toArray, List.set_cons_zero, List.set_cons_succ]
    refine wpAnyT_load (i := 3) (v := ?_) rfl (by kernel_rfl) (by kernel_rfl) (by kernel_rfl) (by kernel_rfl) (by kernel_rfl) (fun _ _ _ h => h) HSS.out (by rfl) ?_ ?_
    rotate_left
    · intro w hSw; skip; go_simp; try with_reducible rfl
    simp only [Act.put, List.getElem_toArray, List.getElem_cons_zero, List.getElem_cons_succ, List.setIfInBounds_toArray, List.set_cons_zero, List.set_cons_succ]
    refine wpAnyT_load (i := 4) (v := ?_) rfl (by kernel_rfl) (by kernel_rfl) (by kernel_rfl) (by kernel_rfl) (by kernel_rfl) (fun _ _ _ h => h) HSS.out (by rfl) ?_ ?_
    rotate_left
    · intro w hSw; have d4 := hSw.cellSome HD4.out (by simp); go_simp; try with_reducible rfl
    simp only [Act.put, List.getElem_toArray, List.getElem_cons_zero, List.getElem_cons_succ, List.setIfInBounds_toArray, List.set_cons_zero, List.set_cons_succ]
    refine wpAnyT_load (i := 5) (v := ?_) rfl (by kernel_rfl) (by kernel_rfl) (by kernel_rfl) (by kernel_rfl) (by kernel_rfl) (fun _ _ _ h => h) HSS.out (by rfl) ?_ ?_
    rotate_left
    · intro w hSw; skip; go_simp; try with_reducible rfl
    simp only [Act.put, List.getElem_toArray, List.getElem_cons_zero, List.getElem_cons_succ, List.setIfInBounds_toArray, List.set_cons_zero, List.set_cons_succ]
    refine wpAnyT_load (i := 6) (v := ?_) rfl (by kernel_rfl) (by kernel_rfl) (by kernel_rfl) (by kernel_rfl) (by kernel_rfl) (fun _ _ _ h => h) HSS.out (by rfl) ?_ ?_
    rotate_left
    · intro w hSw; skip; go_simp; try with_reducible rfl
    simp only [Act.put, List.getElem_toArray, List.getElem_cons_zero, List.getElem_cons_succ, List.setIfInBounds_toArray, List.set_cons_zero, List.set_cons_succ]
    refine wpAnyT_load (i := 7) (v := ?_) rfl (by kernel_rfl) (by kernel_rfl) (by kernel_rfl) (by kernel_rfl) (by kernel_rfl) (fun _ _ _ h => h) HSS.out (by rfl) ?_ ?_
    rotate_left
    · intro w hSw; skip; go_simp; try with_reducible rfl
    simp only [Act.put, List.getElem_toArray, List.getElem_cons_zero, List.getElem_cons_succ, List.setIfInBounds_toArray, List.set_cons_zero, List.set_cons_succ]
    refine wpAnyT_load (i := 8) (v := ?_) rfl (by kernel_rfl) (by kernel_rfl) (by kernel_rfl) (by kernel_rfl) (by kernel_rfl) (fun _ _ _ h => h) HSS.out (by rfl) ?_ ?_
    rotate_left
    · intro w hSw; skip; go_simp; try with_reducible rfl
    simp only [Act.put, List.getElem_toArray, List.getElem_cons_zero, List.getElem_cons_succ, List.setIfInBounds_toArray, List.set_cons_zero, List.set_cons_succ]
    refine wpAnyT_load (i := 9) (v := ?_) rfl (by kernel_rfl) (by kernel_rfl) (by kernel_rfl) (by kernel_rfl) (by kernel_rfl) (fun _ _ _ h => h) HSS.out (by rfl) ?_ ?_
    rotate_left
    · intro w hSw; skip; go_simp; try with_reducible rfl
    simp only [Act.put, List.getElem_toArray, List.getElem_cons_zero, List.getElem_cons_succ, List.setIfInBounds_toArray, List.set_cons_zero, List.set_cons_succ]
    refine wpAnyT_load (i := 11) (v := ?_) rfl (by kernel_rfl) (by kernel_rfl) (by kernel_rfl) (by kernel_rfl) (by kernel_rfl) (fun _ _ _ h => h) HSS.out (by rfl) ?_ ?_
    rotate_left
    · intro w hSw; skip; go_simp; try with_reducible rfl
    simp only [Act.put, List.getElem_toArray, List.getElem_cons_zero, List.getElem_cons_succ, List.setIfInBounds_toArray, List.set_cons_zero, List.set_cons_succ]
    refine wpAnyT_load (i := 12) (v := ?_) rfl (by kernel_rfl) (by kernel_rfl) (by kernel_rfl) (by kernel_rfl) (by kernel_rfl) (fun _ _ _ h => h) HSS.out (by rfl) ?_ ?_
    rotate_left
    · intro w hSw; skip; go_simp; try with_reducible rfl
    simp only [Act.put, List.getElem_toArray, List.getElem_cons_zero, List.getElem_cons_succ, List.setIfInBounds_toArray, List.set_cons_zero, List.set_cons_succ]
    refine wpAnyT_load (i := 14) (v := ?_) rfl (by kernel_rfl) (by kernel_rfl) (by kernel_rfl) (by kernel_rfl) (by kernel_rfl) (fun _ _ _ h => h) HSS.out (by rfl) ?_ ?_
    rotate_left
    · intro w hSw; skip; go_simp; try with_reducible rfl
    simp only [Act.put, List.getElem_toArray, List.getElem_cons_zero, List.getElem_cons_succ, List.setIfInBounds_toArray, List.set_cons_zero, List.set_cons_succ]
    refine wpAnyT_load (i := 15) (v := ?_) rfl (by kernel_rfl) (by kernel_rfl) (by kernel_rfl) (by kernel_rfl) (by kernel_rfl) (fun _ _ _ h => h) HSS.out (by rfl) ?_ ?_
    rotate_left
    · intro w hSw; skip; go_simp; try with_reducible rfl
    simp only [Act.put, List.getElem_toArray, List.getElem_cons_zero, List.getElem_cons_succ, List.setIfInBounds_toArray, List.set_cons_zero, List.set_cons_succ]
    refine wpAnyT_load (i := 17) (v := ?_) rfl (by kernel_rfl) (by kernel_rfl) (by kernel_rfl) (by kernel_rfl) (by kernel_rfl) (fun _ _ _ h => h) HSS.out (by rfl) ?_ ?_
    rotate_left
    · intro w hSw; skip; go_simp; try with_reducible rfl
    simp only [Act.put, List.getElem_toArray, List.getElem_cons_zero, List.getElem_cons_succ, List.setIfInBounds_toArray, List.set_cons_zero, List.set_cons_succ]
    refine wpAnyT_load (i := 18) (v := ?_) rfl (by kernel_rfl) (by kernel_rfl) (by kernel_rfl) (by kernel_rfl) (by kernel_rfl) (fun _ _ _ h => h) HSS.out (by rfl) ?_ ?_
    rotate_left
    · intro w hSw; skip; go_simp; try with_reducible rfl
    simp only [Act.put, List.getElem_toArray, List.getElem_cons_zero, List.getElem_cons_succ, List.setIfInBounds_toArray, List.set_cons_zero, List.set_cons_succ]
    have HCL1 := Lib.hid (r07long_any HH.out (by rw [HM.out]; omega))
    rw [HM.out] at HCL1
    refine wpAnyT_one (i := 1) (by kernel_rfl) rfl (fun K hK => ?_)
    rw [if_pos (by rfl)]
    go_simp
    refine HCL1.out.mono ?_
    rintro e wl1 ⟨rfl, hF⟩
    have HSS := Lib.hid (HSS.out.trans hF)
    have HB := Lib.hid (HB.out.keep hF); have HH := Lib.hid (Sl.keep HH.out hF)
    clear hF HCL1
    go_simp
    refine hK.out _ _ (fun _ => HSS.out) ?_
    clear hK K
    simp only [Act.put, List.getElem_toArray, List.getElem_cons_zero, List.getElem_cons_succ, List.setIfInBounds_toArray, List.set_cons_zero, List.set_cons_succ]
    have HCL2 := Lib.hid (r07long_at HH.out 8 (by rw [HM.out]; omega) (by omega))
    rw [HM.out] at HCL2
    refine wpAnyT_one (i := 10) (by kernel_rfl) rfl (fun K hK => ?_)
    rw [if_pos (by rfl)]
    go_simp
    refine HCL2.out.mono ?_
    rintro e wl2 ⟨rfl, hF⟩
    have HSS := Lib.hid (HSS.out.trans hF)
    have HB := Lib.hid (HB.out.keep hF); have HH := Lib.hid (Sl.keep HH.out hF)
    clear hF HCL2
    go_simp
    refine hK.out _ _ (fun _ => HSS.out) ?_
    clear hK K
    simp only [Act.put, List.getElem_toArray, List.getElem_cons_zero, List.getElem_cons_succ, List.setIfInBounds_toArray, List.set_cons_zero, List.set_cons_succ]
    have HCL3 := Lib.hid (r07long_at HH.out 12 (by rw [HM.out]; omega) (by omega))
    rw [HM.out] at HCL3
    refine wpAnyT_one (i := 13) (by kernel_rfl) rfl (fun K hK => ?_)
    rw [if_pos (by rfl)]
    go_simp
    refine HCL3.out.mono ?_
    rintro e wl3 ⟨rfl, hF⟩
    have HSS := Lib.hid (HSS.out.trans hF)
    have HB := Lib.hid (HB.out.keep hF); have HH := Lib.hid (Sl.keep HH.out hF)
    clear hF HCL3
    go_simp
    refine hK.out _ _ (fun _ => HSS.out) ?_
    clear hK K
    simp only [Act.put, List.getElem_toArray, List.getElem_cons_zero, List.getElem_cons_succ, List.setIfInBounds_toArray, List.set_cons_zero, List.set_cons_succ]
    have HCL4 := Lib.hid (r07long_at HH.out 16 (by rw [HM.out]; omega) (by omega))
    rw [HM.out] at HCL4
    refine wpAnyT_one (i := 16) (by kernel_rfl) rfl (fun K hK => ?_)
    rw [if_pos (by rfl)]
    go_simp
    refine HCL4.out.mono ?_
    rintro e wl4 ⟨rfl, hF⟩
    have HSS := Lib.hid (HSS.out.trans hF)
    have HB := Lib.hid (HB.out.keep hF); have HH := Lib.hid (Sl.keep HH.out hF)
    clear hF HCL4
    go_simp
    refine hK.out _ _ (fun _ => HSS.out) ?_
    clear hK K
    simp only [Act.put, List.getElem_toArray, List.getElem_cons_zero, List.getElem_cons_succ, List.setIfInBounds_toArray, List.set_cons_zero, List.set_cons_succ]
    have HCL5 := Lib.hid (r07long_at HH.out 20 (by rw [HM.out]; omega) (by omega))
    rw [HM.out] at HCL5
    refine wpAnyT_one (i := 19) (by kernel_rfl) rfl (fun K hK => ?_)
    rw [if_pos (by rfl)]
    go_simp
    refine HCL5.out.mono ?_
    rintro e wl5 ⟨rfl, hF⟩
    have HSS := Lib.hid (HSS.out.trans hF)
    have HB := Lib.hid (HB.out.keep hF); have HH := Lib.hid (Sl.keep HH.out hF)
    clear hF HCL5
    go_simp
    refine hK.out _ _ (fun _ => HSS.out) ?_
    clear hK K
    simp only [Act.put, List.getElem_toArray, List.getElem_cons_zero, List.getElem_cons_succ, List.setIfInBounds_toArray, List.set_cons_zero, List.set_cons_succ]
    refine wpAnyT_load (i := 20) (v := ?_) rfl (by kernel_rfl) (by kernel_rfl) (by kernel_rfl) (by kernel_rfl) (by kernel_rfl) (fun _ _ _ h => h) HSS.out (by rfl) ?_ ?_
    rotate_left
    · intro w hSw; skip; go_simp; try with_reducible rfl
    simp only [Act.put, List.getElem_toArray, List.getElem_cons_zero, List.getElem_cons_succ, List.setIfInBounds_toArray, List.set_cons_zero, List.set_cons_succ]
    refine wpAnyT_one (i := 21) (by kernel_rfl) rfl (fun K hK => ?_)
    refine wp_store_row rfl 57 (.tmp 2) (.tmp 32) rfl w.heap.size rfl _ _ rfl 57 HB.out (by kernel_rfl) rfl (by simp [Value.oneCell']) ?_
    intro w9 hY hG
    have HY := Lib.hid hY; have HGn := Lib.hid hG
    clear hY hG
    refine hK.out _ _ (fun _ => (by first | trivial | exact absurd ‹_› (by simp))) ?_
    clear hK K
    simp only [Act.put, List.getElem_toArray, List.getElem_cons_zero, List.getElem_cons_succ, List.setIfInBounds_toArray, List.set_cons_zero, List.set_cons_succ]
    refine wpAnyT_done (by kernel_rfl) ?_ _
    go_wp2_with fail
    refine bodyPost_ret (results_cell_row rfl _ _ w.heap.size 57 _ (0, 0) _ rfl HY.out Try.underlying57 rfl (by kernel_rfl)) rfl ⟨?_, ?_⟩
    · have hr : rptAt l 0 = ⟨l32 l 0, nb l 4 1, sg, l32 l 8, l32 l 12, l32 l 16, l32 l 20⟩ := by unfold rptAt; rw [← HSP.out, HSG.out]
      rw [hr]
    · exact (HF.out.trans HSS.out).step HGn.out (fun x hx => .inr (by simp at hx; omega))
end Go.Proofs.Ytcmpjkopdjncdaa

/- RTCP: a body as the document reads it. No program in sight. -/
namespace Go.Proofs.Ytcmpjkopdjncdaa

theorem nb_drop (l : List UInt8) (a k m : Nat) : nb (l.drop a) k m = nb l (a + k) m := by
  unfold nb
  rw [List.drop_drop]
theorem l32_drop (l : List UInt8) (a k : Nat) : l32 (l.drop a) k = l32 l (a + k) := by unfold l32; rw [nb_drop]
theorem rptAt_drop (l : List UInt8) (a k : Nat) : rptAt (l.drop a) k = rptAt l (a + k) := by
  unfold rptAt
  simp only [l32_drop, nb_drop, Nat.add_assoc]
theorem zerosR_drop (l : List UInt8) (a : Nat) (ha : a ≤ l.length) : ∀ (m k : Nat), zerosR (l.drop a) m k = zerosR l m (a + k)
  | 0, _ => rfl
  | m + 1, k => by
    unfold zerosR
    rw [zerosR_drop l a ha m (k + 1), nb_drop, List.length_drop]
    congr 2
    exact decide_eq_decide.2 (by omega)
theorem textsR_more (l : List UInt8) : ∀ (f g k : Nat), l.length < k + f → l.length < k + g → textsR l f k = textsR l g k
  | 0, g, k, h, _ => by
    cases g with
    | zero => rfl
    | succ g => rw [textsR_succ, if_neg (by omega)]; rfl
  | f + 1, 0, k, _, h => by rw [textsR_succ, if_neg (by omega)]; rfl
  | f + 1, g + 1, k, h1, h2 => by
    rw [textsR_succ, textsR_succ]
    by_cases h3 : k + 1 ≤ l.length
    · rw [if_pos h3, if_pos h3]
      by_cases h4 : nb l k 1 = 0
      · rw [if_pos h4, if_pos h4]
      · rw [if_neg h4, if_neg h4, textsR_more l f g _ (by omega) (by omega)]
    · rw [if_neg h3, if_neg h3]
theorem textsR_drop (l : List UInt8) (a : Nat) (ha : a ≤ l.length) : ∀ (f k : Nat), textsR (l.drop a) f k = (textsR l f (a + k)).map fun r => (r.1, r.2 - a)
  | 0, _ => rfl
  | f + 1, k => by
    rw [textsR_succ, textsR_succ, List.length_drop, nb_drop, nb_drop, ← Nat.add_assoc]
    by_cases h1 : a + k + 1 ≤ l.length
    · rw [if_pos h1, if_pos (by omega)]
      by_cases h2 : nb l (a + k) 1 = 0
      · rw [if_pos h2, if_pos h2]
        simp only [Option.map_some, Option.some.injEq, Prod.mk.injEq, true_and]
        omega
      · rw [if_neg h2, if_neg h2]
        by_cases h3 : a + k + 2 ≤ l.length
        · rw [if_pos h3, if_pos (by omega)]
          by_cases h4 : a + k + 2 + nb l (a + k + 1) 1 ≤ l.length
          · rw [if_pos h4, if_pos (by omega), textsR_drop l a ha f, Option.map_map, Option.map_map, List.drop_drop]
            rw [show a + (k + 2 + nb l (a + k + 1) 1) = a + k + 2 + nb l (a + k + 1) 1 by omega, show a + (k + 2) = a + k + 2 by omega]
            rfl
          · rw [if_neg h4, if_neg (by omega)]; rfl
        · rw [if_neg h3, if_neg (by omega)]; rfl
    · rw [if_neg h1, if_neg (by omega)]; rfl
theorem chk1_drop (l : List UInt8) (a : Nat) (ha : a ≤ l.length) : chk1 l a = (chk1 (l.drop a) 0).map fun r => (r.1, a + r.2) := by
  unfold chk1
  rw [List.length_drop]
  by_cases h4 : a + 4 ≤ l.length
  · rw [if_pos h4, if_pos (by omega), textsR_more (l.drop a) (l.length - a + 1) (l.length + 1) _ (by rw [List.length_drop]; omega) (by rw [List.length_drop]; omega), textsR_drop l a ha, Nat.zero_add]
    cases ht : textsR l (l.length + 1) (a + 4) with
    | none => rfl
    | some r =>
      obtain ⟨ts, e⟩ := r
      have he := textsR_len l _ _ ht
      simp only [Option.map_some, Nat.sub_zero]
      rw [zerosR_drop l a ha, show a + (e - a) = e by omega, l32_drop, Nat.add_zero]
      split
      · simp only [Option.map_some, Option.some.injEq, Prod.mk.injEq, true_and]
        omega
      · rfl
  · rw [if_neg h4, if_neg (by omega)]; rfl
theorem zerosR_len {l : List UInt8} : ∀ {m k : Nat}, zerosR l m k = true → m ≠ 0 → k + m ≤ l.length
  | 0, _, _, h => absurd rfl h
  | m + 1, k, h, _ => by
    unfold zerosR at h
    simp only [Bool.and_eq_true, decide_eq_true_eq] at h
    by_cases hm : m = 0
    · omega
    · have := zerosR_len h.2 hm; omega
theorem chk1_le {l : List UInt8} {k : Nat} {x : Chk} {e : Nat} (h : chk1 l k = some (x, e)) : k + 5 ≤ e ∧ e ≤ l.length := by
  unfold chk1 at h
  split at h
  · cases ht : textsR l (l.length + 1) (k + 4) with
    | none => rw [ht] at h; cases h
    | some r =>
      obtain ⟨ts, e2⟩ := r
      rw [ht] at h
      simp only at h
      have he := textsR_len l _ _ ht
      split at h
      · rename_i hz
        cases h
        by_cases hp : padOf (e2 - k) = 0
        · omega
        · have := zerosR_len hz hp; omega
      · cases h
  · cases h
theorem times_le {l : List UInt8} : ∀ {n k : Nat} {xs : List Chk} {e : Nat}, timesR (chk1 l) n k = some (xs, e) → k ≤ l.length → e ≤ l.length
  | 0, k, xs, e, h, hk => by cases h; exact hk
  | n + 1, k, xs, e, h, hk => by
    unfold timesR at h
    cases hp : chk1 l k with
    | none => rw [hp] at h; cases h
    | some p =>
      obtain ⟨x, k1⟩ := p
      rw [hp] at h
      simp only at h
      cases ht : timesR (chk1 l) n k1 with
      | none => rw [ht] at h; cases h
      | some r =>
        rw [ht] at h
        cases h
        exact times_le (xs := r.1) (e := r.2) (by rw [ht]) (chk1_le hp).2
theorem timesR_at {α : Type} (l : List UInt8) (f : Nat → α) (s : Nat) (hs : 0 < s) : ∀ (n k : Nat), k ≤ l.length → timesR (fun k => if k + s ≤ l.length then some (f k, k + s) else none) n k = if k + s * n ≤ l.length then some ((List.range n).map fun i => f (k + s * i), k + s * n) else none
  | 0, k, hk => by
    rw [if_pos (by simpa using hk)]
    rfl
  | n + 1, k, hk => by
    unfold timesR
    by_cases h1 : k + s ≤ l.length
    · rw [if_pos h1]
      simp only
      rw [timesR_at l f s hs n (k + s) h1]
      have e1 : k + s + s * n = k + s * (n + 1) := by rw [Nat.mul_succ]; omega
      rw [e1]
      by_cases h2 : k + s * (n + 1) ≤ l.length
      · rw [if_pos h2, if_pos h2]
        simp only [Option.map_some, Option.some.injEq, Prod.mk.injEq, and_true]
        rw [List.range_succ_eq_map, List.map_cons, List.map_map, Nat.mul_zero, Nat.add_zero]
        congr 1
        apply List.map_congr_left
        intro i _
        simp only [Function.comp, Nat.mul_succ]
        congr 1
        omega
      · rw [if_neg h2, if_neg h2]; rfl
    · rw [if_neg h1, if_neg (by rw [Nat.mul_succ]; omega)]
theorem times_rpt (l : List UInt8) (n k : Nat) (hk : k ≤ l.length) : timesR (rpt1 l) n k = if k + 24 * n ≤ l.length then some ((List.range n).map fun i => rptAt l (k + 24 * i), k + 24 * n) else none := timesR_at l (rptAt l) 24 (by omega) n k hk
theorem times_src (l : List UInt8) (n k : Nat) (hk : k ≤ l.length) : timesR (src1 l) n k = if k + 4 * n ≤ l.length then some ((List.range n).map fun i => l32 l (k + 4 * i), k + 4 * n) else none := timesR_at l (l32 l) 4 (by omega) n k hk
theorem body200 (l : List UInt8) (n : Nat) : bodyR 200 n l = if l.length = 24 + 24 * n then some { Itm.zero 200 with ssrc := l32 l 0, ntp := l64 l 4, ts := l32 l 12, pks := l32 l 16, ocs := l32 l 20, reps := (List.range n).map fun i => rptAt l (24 + 24 * i) } else none := by
  unfold bodyR bodyK
  rw [if_pos rfl]
  by_cases h : 24 ≤ l.length
  · rw [if_pos h, times_rpt l n 24 h]
    by_cases h2 : 24 + 24 * n ≤ l.length
    · rw [if_pos h2]
      simp only [Option.map_some]
      by_cases h3 : l.length = 24 + 24 * n
      · rw [if_pos h3, if_pos h3.symm]
      · rw [if_neg h3, if_neg (fun h => h3 h.symm)]
    · rw [if_neg h2, if_neg (by omega)]; rfl
  · rw [if_neg h, if_neg (by omega)]
theorem body201 (l : List UInt8) (n : Nat) : bodyR 201 n l = if l.length = 4 + 24 * n then some { Itm.zero 201 with ssrc := l32 l 0, reps := (List.range n).map fun i => rptAt l (4 + 24 * i) } else none := by
  unfold bodyR bodyK
  rw [if_neg (by decide), if_pos rfl]
  by_cases h : 4 ≤ l.length
  · rw [if_pos h, times_rpt l n 4 h]
    by_cases h2 : 4 + 24 * n ≤ l.length
    · rw [if_pos h2]
      simp only [Option.map_some]
      by_cases h3 : l.length = 4 + 24 * n
      · rw [if_pos h3, if_pos h3.symm]
      · rw [if_neg h3, if_neg (fun h => h3 h.symm)]
    · rw [if_neg h2, if_neg (by omega)]; rfl
  · rw [if_neg h, if_neg (by omega)]
theorem body202 (l : List UInt8) (n : Nat) : bodyR 202 n l = match timesR (chk1 l) n 0 with | some (cs, k) => if k = l.length then some { Itm.zero 202 with chks := cs } else none | none => none := by
  unfold bodyR bodyK
  rw [if_neg (by decide), if_neg (by decide), if_pos rfl]
  cases timesR (chk1 l) n 0 <;> rfl
/-- A reason as the document reads it. -/
def reasonD (m : List UInt8) : Option (List UInt8) :=
  if m.length = 0 then some []
  else if nb m 0 1 = 0 then none
  else if m.length = (nb m 0 1 + 4) / 4 * 4 then if zerosR m (m.length - (nb m 0 1 + 1)) (nb m 0 1 + 1) then some ((m.drop 1).take (nb m 0 1)) else none
  else none
theorem pad_four (s : Nat) : (s + 4) / 4 * 4 = s + 1 + padOf (s + 1) := by unfold padOf; omega
theorem body203 (l : List UInt8) (n : Nat) : bodyR 203 n l = if 4 * n ≤ l.length then (reasonD (l.drop (4 * n))).map fun s => { Itm.zero 203 with srcs := (List.range n).map fun i => l32 l (4 * i), reason := s } else none := by
  unfold bodyR bodyK
  rw [if_neg (by decide), if_neg (by decide), if_neg (by decide), if_pos rfl, times_src l n 0 (Nat.zero_le _)]
  simp only [Nat.zero_add]
  by_cases h : 4 * n ≤ l.length
  · rw [if_pos h, if_pos h]
    simp only
    generalize 4 * n = k at *
    unfold reasonR reasonD
    rw [List.length_drop, nb_drop]
    simp only [Nat.add_zero]
    by_cases h0 : k = l.length
    · rw [if_pos h0, if_pos (show l.length - k = 0 by omega)]
      simp only [Option.map_some]
      rw [if_pos h0]
    · rw [if_neg h0, if_neg (show ¬ l.length - k = 0 by omega)]
      by_cases h1 : nb l k 1 = 0
      · rw [if_pos h1, if_pos h1]; rfl
      · rw [if_neg h1, if_neg h1, pad_four]
        by_cases h2 : k + 1 + nb l k 1 ≤ l.length
        · rw [if_pos h2]
          by_cases h3 : l.length - k = nb l k 1 + 1 + padOf (nb l k 1 + 1)
          · rw [if_pos h3, zerosR_drop l k h, h3, show nb l k 1 + 1 + padOf (nb l k 1 + 1) - (nb l k 1 + 1) = padOf (nb l k 1 + 1) by omega, show k + (nb l k 1 + 1) = k + 1 + nb l k 1 by omega, List.drop_drop]
            by_cases hz : zerosR l (padOf (nb l k 1 + 1)) (k + 1 + nb l k 1) = true
            · rw [if_pos hz, if_pos hz]
              simp only [Option.map_some]
              rw [if_pos (by omega)]
            · rw [if_neg hz, if_neg hz]
              rfl
          · rw [if_neg h3]
            by_cases hz : zerosR l (padOf (nb l k 1 + 1)) (k + 1 + nb l k 1) = true
            · rw [if_pos hz]
              simp only [Option.map_some]
              rw [if_neg (by omega)]
              rfl
            · rw [if_neg hz]
              rfl
        · rw [if_neg h2, if_neg (by omega)]; rfl
  · rw [if_neg h, if_neg h]
theorem bodyOther (l : List UInt8) (n : Nat) (kind : Int) (h : kind ≠ 200 ∧ kind ≠ 201 ∧ kind ≠ 202 ∧ kind ≠ 203) : bodyR kind n l = none := by
  unfold bodyR bodyK
  rw [if_neg h.1, if_neg h.2.1, if_neg h.2.2.1, if_neg h.2.2.2]
end Go.Proofs.Ytcmpjkopdjncdaa
