/- The walk of RtcpJoins (printed by gen_rtjoins.py). -/
import Derived.Test.YtcmpjkopdjncdaaMj45
import Derived.Test.YtcmpjkopdjncdaaMj42
import Derived.Test.YtcmpjkopdjncdaaMj33
import Derived.Test.YtcmpjkopdjncdaaMj24
import Derived.Test.YtcmpjkopdjncdaaMj35
namespace Go.Proofs.Ytcmpjkopdjncdaa
open Go.RowKit

theorem SlEls.addr {α : Type} {k : Nat} {R : World → List Value → α → List Nat → Prop} {w : World} {a : Option Addr} {n cap : Nat} {ys : List α} {B : List Nat} (h : SlEls k R w (.slice a n cap) ys B) (hn : 0 < n) : ∃ b o, a = some ⟨b, o, none⟩ ∧ b < w.heap.size := by
  obtain ⟨cells, a', cap', e, h1, h2, h3, h4, h5⟩ := h
  simp only [Value.slice.injEq] at e
  obtain ⟨rfl, rfl, rfl⟩ := e
  cases a with
  | none => have := h3 rfl; omega
  | some p =>
    have h6 := h5 p rfl (by omega)
    obtain ⟨ab, ao, asp⟩ := p
    obtain ⟨h7, h8, -⟩ := h6
    simp only at h7 h8
    subst h7
    exact ⟨ab, ao, rfl, h8⟩
set_option maxRecDepth 100000 in
set_option maxHeartbeats 8000000 in
theorem RtcpJoins_any {w : World} {v0 v1 : Value} {xs ys : List Itm} {B1 B2 : List Nat} (h : SlEls 10 ItR w v0 xs B1) (hq : ∀ x ∈ xs, QItm x) (hm : xs.length ≤ 1099511627776) (k : SlEls 10 ItR w v1 ys B2) (kq : ∀ x ∈ ys, QItm x) (km : ys.length ≤ 1099511627776) : Calls Try.prog 7 #[v0, v1] w fun e w' => e = .returned (.bool true) ∧ Fr [] w w' := by
  obtain ⟨a0, cap0, rfl⟩ := h.shape
  obtain ⟨a1, cap1, rfl⟩ := k.shape
  have HX := Lib.hid h; have HQ := Lib.hid hq; have HM := Lib.hid hm; have KX := Lib.hid k; have KQ := Lib.hid kq; have KM := Lib.hid km
  have HXL := Lib.hid (h.lt Rep.itm).1; have KXL := Lib.hid (k.lt Rep.itm).1
  clear h hq hm k kq km
  go_enter Try.func7, Try.ntmps7
  go_wp2_with fail
  refine l07alive_any.mono ?_
  rintro e w1 ⟨rfl, hF⟩
  have HF := Lib.hid hF; have HX := Lib.hid (HX.out.keep Rep.itm hF); have KX := Lib.hid (KX.out.keep Rep.itm hF)
  clear hF
  go_wp2_with fail
  refine (l07few_any HX.out HQ.out HM.out).mono ?_
  rintro e w2 ⟨rfl, hF⟩
  have HX := Lib.hid (HX.out.keep Rep.itm hF); have KX := Lib.hid (KX.out.keep Rep.itm hF); have HF := Lib.hid (HF.out.trans hF)
  clear hF
  cases hfw : fews xs with
  | false =>
    clear hfw
    go_wp2_with fail
    go_ret
    exact ⟨rfl, HF.out⟩
  | true =>
  have HZ := Lib.hid (fews_sz hfw HQ.out)
  clear hfw
  go_wp2_with fail
  refine (l07few_any KX.out KQ.out KM.out).mono ?_
  rintro e w3 ⟨rfl, hF⟩
  have HX := Lib.hid (HX.out.keep Rep.itm hF); have KX := Lib.hid (KX.out.keep Rep.itm hF); have HF := Lib.hid (HF.out.trans hF)
  clear hF
  cases hfw : fews ys with
  | false =>
    clear hfw
    go_wp2_with fail
    go_ret
    exact ⟨rfl, HF.out⟩
  | true =>
  have KZ := Lib.hid (fews_sz hfw KQ.out)
  clear hfw
  go_wp2_with fail
  refine (tWrite_any HX.out HZ.out.1 (by have := HZ.out.2; omega)).mono ?_
  rintro e w4 hw1
  have hw1 : ∃ u r, e = .returned (.tuple #[u, .int .i64 r]) ∧ Fr [] w3 w4 ∧ ((r = 0 ∧ ∃ l, write7 xs = .ok l ∧ Bytes w4 u l) ∨ (r ≠ 0 ∧ u = .slice none 0 0)) := by
    rcases hw1 with ⟨l2, v2, hw, he, hO2, hF⟩ | ⟨c, hw, hc, he, hF⟩
    · exact ⟨_, _, he, hF, .inl ⟨rfl, l2, hw, hO2.bytes⟩⟩
    · exact ⟨_, _, he, hF, .inr ⟨hc, rfl⟩⟩
  obtain ⟨u1, r1, rfl, hF, hw1⟩ := hw1
  have HX := Lib.hid (HX.out.keep Rep.itm hF); have KX := Lib.hid (KX.out.keep Rep.itm hF); have HF := Lib.hid (HF.out.trans hF); have HW1 := Lib.hid hw1
  clear hF hw1
  go_wp2_with fail
  refine (tWrite_any KX.out KZ.out.1 (by have := KZ.out.2; omega)).mono ?_
  rintro e w5 hw2
  have hw2 : ∃ u r, e = .returned (.tuple #[u, .int .i64 r]) ∧ Fr [] w4 w5 ∧ ((r = 0 ∧ ∃ l, write7 ys = .ok l ∧ Bytes w5 u l) ∨ (r ≠ 0 ∧ u = .slice none 0 0)) := by
    rcases hw2 with ⟨l2, v2, hw, he, hO2, hF⟩ | ⟨c, hw, hc, he, hF⟩
    · exact ⟨_, _, he, hF, .inl ⟨rfl, l2, hw, hO2.bytes⟩⟩
    · exact ⟨_, _, he, hF, .inr ⟨hc, rfl⟩⟩
  obtain ⟨u2, r2, rfl, hF, hw2⟩ := hw2
  have HX := Lib.hid (HX.out.keep Rep.itm hF); have KX := Lib.hid (KX.out.keep Rep.itm hF); have HF := Lib.hid (HF.out.trans hF)
  rcases HW1.out with ⟨rfl, l1, hl1, hb1⟩ | ⟨hr1, rfl⟩
  rotate_left
  · have e1 : (r1 != 0) = true := bne_iff_ne.2 hr1
    have e2 : (r1 == 0) = false := beq_eq_false_iff_ne.2 hr1
    clear hw2 hF hr1
    go_wp2_with fail
    go_ret
    exact ⟨rfl, HF.out⟩
  have HB1 := Lib.hid (Sl.keep hb1 hF)
  rcases hw2 with ⟨rfl, l2, hl2, hb2⟩ | ⟨hr2, rfl⟩
  rotate_left
  · have e1 : (r2 != 0) = true := bne_iff_ne.2 hr2
    clear hF hr2 hb1 hl1
    go_wp2_with fail
    go_ret
    exact ⟨rfl, HF.out⟩
  have HB2 := Lib.hid hb2; have HJ := Lib.hid (joins7 hl1 hl2)
  have HLL : Hid (l1.length ≤ 1500 ∧ l2.length ≤ 1500 ∧ 0 < xs.length ∧ 0 < ys.length) := Lib.hid (by
    obtain ⟨x, g1, -, -, -, g2⟩ := write7_parts hl1
    obtain ⟨y, g3, -, -, -, g4⟩ := write7_parts hl2
    refine ⟨g2, g4, ?_, ?_⟩
    · cases xs with | nil => cases g1 | cons _ _ => simp
    · cases ys with | nil => cases g3 | cons _ _ => simp)
  clear hb1 hb2 hl1 hl2 hF
  obtain ⟨au1, cu1, rfl⟩ := HB1.out.shape
  obtain ⟨au2, cu2, rfl⟩ := HB2.out.shape
  simp only [List.length_map] at HB1 HB2 ⊢
  go_wp2_with fail
  refine (Join_rowsO (brows_made (vs := [.slice au1 l1.length cu1, .slice au2 l2.length cu2]) (ls := [l1, l2]) 22 2 ⟨HB1.out, HB2.out, trivial⟩ rfl (by unfold maxLen; omega)) (by have := HLL.out; simp; omega) (by simp)).mono ?_
  rw [show [l1, l2].flatten = l1 ++ l2 by simp]
  rintro e w6 ⟨vo, rfl, hO, hF0⟩
  have hF := ((Fr.refl [] w5).alloc (.cells #[.slice au1 l1.length cu1, .slice au2 l2.length cu2] 22)).trans hF0
  obtain ⟨lb, hlb⟩ : ∃ lb, l1 ++ l2 = lb := ⟨_, rfl⟩
  rw [hlb] at hO HJ
  obtain ⟨ao, nb_, co, rfl⟩ := hO.isSlice
  obtain rfl := hO.len
  have HO := Lib.hid hO.bytes; have HX := Lib.hid (HX.out.keep Rep.itm hF); have KX := Lib.hid (KX.out.keep Rep.itm hF); have HF := Lib.hid (HF.out.trans hF)
  clear hO hF0 hF hlb HB1 HB2
  go_wp2_with fail
  refine (tParse_any HO.out).mono ?_
  rintro e w7 hps
  by_cases hlong : 1500 < lb.length
  · have h2 := HJ.out.1 hlong
    rcases hps with ⟨zs, u, B2, hp, rfl, hO, -, hF⟩ | ⟨c, hp, hc, rfl, hF⟩
    · rw [h2] at hp; cases hp
    · obtain rfl : c = 2 := by rw [h2] at hp; cases hp; rfl
      have HF := Lib.hid (HF.out.trans hF)
      have t0 : (1500 : Int) < ((lb.length : Nat) : Int) := by omega
      clear hp hc hF h2
      go_wp2_with fail
      go_ret
      exact ⟨rfl, HF.out⟩
  have h2 := HJ.out.2 hlong
  rcases hps with ⟨zs, u, Bz, hp, rfl, hZ, -, hF⟩ | ⟨c, hp, hc, rfl, hF⟩
  rotate_left
  · rw [h2.1] at hp; cases hp
  obtain rfl : xs ++ ys = zs := by rw [h2.1] at hp; cases hp; rfl
  obtain ⟨az, cz, rfl⟩ := hZ.shape
  have HW := Lib.hid h2.2; have HZS := Lib.hid hZ.sl; have HO := Lib.hid (Sl.keep HO.out hF); have HX := Lib.hid (HX.out.keep Rep.itm hF); have KX := Lib.hid (KX.out.keep Rep.itm hF); have HF := Lib.hid (HF.out.trans hF)
  have t0 : ¬ ((1500 : Int) < ((lb.length : Nat) : Int)) := by omega
  have HLB : Hid (lb.length ≤ 1500) := Lib.hid (by omega)
  clear hp hZ hF h2 hlong
  obtain ⟨w8, e8, hF8, hB8, hs8⟩ := one_new w7 #[] 42
  have E8 := Lib.hid e8; have HO8 : Hid (OwnEls 10 ItR w8 w7.heap.size 42 (.slice (some ⟨w7.heap.size, 0, none⟩) 0 0) [] []) := Lib.hid (by rw [← e8]; exact OwnEls.made w7 w7.heap.size _ (Nat.le_refl _))
  have HX8 := Lib.hid (HX.out.keep Rep.itm hF8); have KX8 := Lib.hid (KX.out.keep Rep.itm hF8)
  obtain ⟨b0, o0, rfl, hb0⟩ := HX.out.addr (by have := HLL.out; omega)
  obtain ⟨b1, o1, rfl, hb1⟩ := KX.out.addr (by have := HLL.out; omega)
  have HBB := Lib.hid hb1
  have HSZ := Lib.hid HF.out.size; have HSZ8 := Lib.hid hF8.size
  have HF8 := Lib.hid hF8
  have D1 : Hid (∀ b, blockOf (.slice (some ⟨w7.heap.size, 0, none⟩) 0 0) = some b → b ∉ B1) := Lib.hid (fun b hb hm => by have := HXL.out b hm; have := HSZ.out; simp [blockOf] at hb; omega)
  clear e8 hF8 hB8 hs8 hb0 hb1
  go_upto_region 14 with (first
    | (at_builtin; (rw [E8.out]); refine wpList_append_els Rep.itm (by decide) rfl (.tmp 63) (.tmp 64) 25 rfl w7.heap.size 42 (.agg #[.int .i64 0, .int .u32 0, .int .u64 0, .int .u32 0, .int .u32 0, .int .u32 0, .slice none 0 0, .slice none 0 0, .slice none 0 0, .string ⟨#[]⟩]) 128 Try.underlying25 info_itm rfl (.slice (some ⟨w7.heap.size, 0, none⟩) 0 0) [] [] rfl HO8.out b0 o0 xs.length cap0 rfl xs (by have := HLL.out; omega) B1 HX8.out D1.out (by have := HZ.out.2; unfold maxLen; simp only [List.length_nil]; omega) (by have := HZ.out.2; simp only [List.length_nil]; omega) HSZ8.out ?_; intro va wv hown hfr hbl; rw [List.nil_append, List.nil_append] at hown; obtain ⟨aa, ca, rfl⟩ := hown.shape; have hFA := HF8.out.step hfr (fun b hb => .inr (by simp [blockOf] at hb; omega)); have HOA := Lib.hid hown; have HFA := Lib.hid hFA; have KXA := Lib.hid (KX.out.keep Rep.itm hFA); have HSA := Lib.hid hFA.size; have DA : Hid (∀ b, blockOf (.slice aa xs.length ca) = some b → b ∉ B2) := Lib.hid (fun b hb hm => by have := KXL.out b hm; have := HSZ.out; have := (HOA.out.block b hb).1; omega); clear hown hfr hbl hFA)
    | (at_builtin; refine wpList_append_els Rep.itm (by decide) rfl (.tmp 65) (.tmp 66) 25 rfl w7.heap.size 42 (.agg #[.int .i64 0, .int .u32 0, .int .u64 0, .int .u32 0, .int .u32 0, .int .u32 0, .slice none 0 0, .slice none 0 0, .slice none 0 0, .string ⟨#[]⟩]) 128 Try.underlying25 info_itm rfl (.slice aa xs.length ca) xs B1 rfl HOA.out b1 o1 ys.length cap1 rfl ys (by have := HLL.out; omega) B2 KXA.out DA.out (by have := HZ.out.2; have := KZ.out.2; unfold maxLen; omega) (by have := HZ.out.2; have := KZ.out.2; omega) HSA.out ?_; intro vb wx hown hfr hbl; obtain ⟨ab, cb, rfl⟩ := hown.shape; have hFB := HFA.out.step hfr (fun b hb => .inr (HOA.out.block b (mem_toList.1 hb)).1); have HOB := Lib.hid hown; have HFB := Lib.hid hFB; clear hown hfr hbl hFB))
  have HZB : Hid ((∀ x ∈ xs ++ ys, Sz7 x) ∧ (xs ++ ys).length ≤ 16) := Lib.hid ⟨fun x hx => (List.mem_append.1 hx).elim (fun h => HZ.out.1 x h) (fun h => KZ.out.1 x h), by have := HZ.out.2; have := KZ.out.2; rw [List.length_append]; omega⟩
  have HZS := Lib.hid (HZS.out.keep Rep.itm HFB.out); have HO := Lib.hid (Sl.keep HO.out HFB.out); have HF := Lib.hid (HF.out.trans HFB.out); have HWT := Lib.hid HOB.out.sl
  clear HFB HOB HX KX HX8 KX8 HF8 HO8 E8 D1 HOA HFA KXA DA HSA HSZ HSZ8
  obtain ⟨n, hn⟩ : ∃ n, (xs ++ ys).length = n := ⟨_, rfl⟩
  have hn2 : xs.length + ys.length = n := by rw [← List.length_append]; exact hn
  rw [hn2]
  rw [hn] at HZS HWT HZB
  obtain ⟨zs, hzs⟩ : ∃ zs, xs ++ ys = zs := ⟨_, rfl⟩
  rw [hzs] at hn HZS HWT HZB HW
  have HN := Lib.hid hn
  clear hn hn2 hzs
  go_wp2_with fail
  refine (tWrite_any HWT.out HZB.out.1 (by have := HZB.out.2; have := HN.out; omega)).mono ?_
  rintro e wy (⟨l3, v3, hw, rfl, hO3, hF⟩ | ⟨c, hw, hc, rfl, hF⟩)
  rotate_left
  · have h1 := HW.out
    rw [hw] at h1
    cases h1
  obtain rfl : lb = l3 := by
    have h1 := HW.out
    rw [hw] at h1
    cases h1
    rfl
  have HO3 := Lib.hid hO3.bytes; have HO := Lib.hid (Sl.keep HO.out hF); have HZS := Lib.hid (HZS.out.keep Rep.itm hF); have HWT := Lib.hid (HWT.out.keep Rep.itm hF); have HF := Lib.hid (HF.out.trans hF)
  clear hw hO3 hF
  clear HW t0
  go_wp2_with fail
  refine (RSame_any HO3.out HO.out (by have := HLB.out; omega) (by have := HLB.out; omega)).mono ?_
  rintro e wq ⟨rfl, hF⟩
  have HZS := Lib.hid (HZS.out.keep Rep.itm hF); have HWT := Lib.hid (HWT.out.keep Rep.itm hF); have HF := Lib.hid (HF.out.trans hF)
  clear hF
  simp only [beq_self_eq_true]
  go_upto_region 18 with fail
  have hn16 := HZB.out.2
  go_loopw [94] (fun i wr => ∃ j : Nat, j ≤ n ∧ i = .int .i64 j ∧ Fr [] wq wr) (fun i _ => n - (intOf i).toNat)
  case atStart => exact ⟨0, Nat.zero_le _, rfl, Fr.refl _ _⟩
  case round =>
    obtain ⟨j, hj, rfl, hF⟩ := hrel
    have HFW := Lib.hid hF
    clear hF
    by_cases hlt : j < n
    · obtain ⟨b1, o1, k1, y1, B3, ea, -, hy1, ⟨vr1, vc1, vs1, Bc1, rfl, hr1, hc1, hs1, -⟩, -, hrg1⟩ := (HZS.out.keep Rep.itm HFW.out).at_ Rep.itm (i := j) hlt
      obtain ⟨b2, o2, k2, y2, B4, eb, -, hy2, ⟨vr2, vc2, vs2, Bc2, rfl, hr2, hc2, hs2, -⟩, -, hrg2⟩ := (HWT.out.keep Rep.itm HFW.out).at_ Rep.itm (i := j) hlt
      obtain rfl : y1 = y2 := Option.some.inj (hy1.symm.trans hy2)
      subst ea eb
      obtain ⟨ar1, cr1, rfl⟩ := hr1.shape
      obtain ⟨ac1, cc1, rfl⟩ := hc1.shape
      obtain ⟨as1, cs1, rfl⟩ := hs1.shape
      obtain ⟨ar2, cr2, rfl⟩ := hr2.shape
      obtain ⟨ac2, cc2, rfl⟩ := hc2.shape
      obtain ⟨as2, cs2, rfl⟩ := hs2.shape
      have HRG1 := Lib.hid hrg1; have HRG2 := Lib.hid hrg2
      have HR1 := Lib.hid hr1; have HC1 := Lib.hid hc1; have HS1 := Lib.hid hs1; have HR2 := Lib.hid hr2; have HC2 := Lib.hid hc2; have HS2 := Lib.hid hs2
      have HM1 := Lib.hid (HZB.out.1 y1 (List.mem_of_getElem? hy1))
      clear hrg1 hrg2 hy1 hy2 hr1 hc1 hs1 hr2 hc2 hs2
      go_upto_region 20 with fail
      refine wp_region_T (fun w' => Fr [] wr.drew w') [] 10 #[false, false, false, false, false, false, false, false, false, false] (by kernel_rfl) rfl rfl ?_
      try simp only [List.append_eq, List.cons_append, List.nil_append]
      have hF := (Fr.refl [] wr).drew
      have HFW := Lib.hid (HFW.out.trans hF)
      have HRG1 : Hid (World.rangeAt _ _ _ _) := Lib.hid (fr_rng hF HRG1.out)
      have HRG2 : Hid (World.rangeAt _ _ _ _) := Lib.hid (fr_rng hF HRG2.out)
      have HR1 := Lib.hid (HR1.out.keep Rep.rpt hF); have HC1 := Lib.hid (HC1.out.keep Rep.chk hF); have HS1 := Lib.hid (HS1.out.keep Rep.src hF); have HR2 := Lib.hid (HR2.out.keep Rep.rpt hF); have HC2 := Lib.hid (HC2.out.keep Rep.chk hF); have HS2 := Lib.hid (HS2.out.keep Rep.src hF)
      clear hF
      have HSS : Hid (Fr [] wr.drew wr.drew) := Lib.hid (Fr.refl _ _)
      generalize wr.drew = wd at *
      refine wpAnyT_load (i := 0) (v := ?_) rfl (by kernel_rfl) (by kernel_rfl) (by kernel_rfl) (by kernel_rfl) (by kernel_rfl) (fun _ _ _ h => h) HSS.out (by rfl) ?_ ?_
      rotate_left
      · intro w hSw; skip; go_simp; try with_reducible rfl
      simp only [Act.put, List.getElem_toArray, List.getElem_cons_zero, List.getElem_cons_succ, List.setIfInBounds_toArray, List.set_cons_zero, List.set_cons_succ]
      refine wpAnyT_load (i := 1) (v := ?_) rfl (by kernel_rfl) (by kernel_rfl) (by kernel_rfl) (by kernel_rfl) (by kernel_rfl) (fun _ _ _ h => h) HSS.out (by rfl) ?_ ?_
      rotate_left
      · intro w hSw; skip; go_simp; try with_reducible rfl
      simp only [Act.put, List.getElem_toArray, List.getElem_cons_zero, List.getElem_cons_succ, List.setIfInBounds_toArray, List.set_cons_zero, List.set_cons_succ]
      refine wpAnyT_load (i := 2) (v := ?_) rfl (by kernel_rfl) (by kernel_rfl) (by kernel_rfl) (by kernel_rfl) (by kernel_rfl) (fun _ _ _ h => h) HSS.out (by rfl) ?_ ?_
      rotate_left
      · intro w hSw; skip; go_simp; try with_reducible rfl
      simp only [Act.put, List.getElem_toArray, List.getElem_cons_zero, List.getElem_cons_succ, List.setIfInBounds_toArray, List.set_cons_zero, List.set_cons_succ]
      refine wpAnyT_load (i := 3) (v := ?_) rfl (by kernel_rfl) (by kernel_rfl) (by kernel_rfl) (by kernel_rfl) (by kernel_rfl) (fun _ _ _ h => h) HSS.out (by rfl) ?_ ?_
      rotate_left
      · intro w' hSw; refine run_load_mid_op 42 (.tmp 99) ?_ b1 (o1 + j * 10) ?_ (itc y1 (.slice ar1 y1.reps.length cr1) (.slice ac1 y1.chks.length cc1) (.slice as1 y1.srcs.length cs1)) _ (fr_rng hSw HRG1.out) Try.underlying42 rfl (by kernel_rfl) <;> rfl
      simp only [Act.put, List.getElem_toArray, List.getElem_cons_zero, List.getElem_cons_succ, List.setIfInBounds_toArray, List.set_cons_zero, List.set_cons_succ]
      refine wpAnyT_load (i := 4) (v := ?_) rfl (by kernel_rfl) (by kernel_rfl) (by kernel_rfl) (by kernel_rfl) (by kernel_rfl) (fun _ _ _ h => h) HSS.out (by rfl) ?_ ?_
      rotate_left
      · intro w hSw; skip; go_simp; try with_reducible rfl
      simp only [Act.put, List.getElem_toArray, List.getElem_cons_zero, List.getElem_cons_succ, List.setIfInBounds_toArray, List.set_cons_zero, List.set_cons_succ]
      refine wpAnyT_load (i := 5) (v := ?_) rfl (by kernel_rfl) (by kernel_rfl) (by kernel_rfl) (by kernel_rfl) (by kernel_rfl) (fun _ _ _ h => h) HSS.out (by rfl) ?_ ?_
      rotate_left
      · intro w hSw; skip; go_simp; try with_reducible rfl
      simp only [Act.put, List.getElem_toArray, List.getElem_cons_zero, List.getElem_cons_succ, List.setIfInBounds_toArray, List.set_cons_zero, List.set_cons_succ]
      refine wpAnyT_load (i := 6) (v := ?_) rfl (by kernel_rfl) (by kernel_rfl) (by kernel_rfl) (by kernel_rfl) (by kernel_rfl) (fun _ _ _ h => h) HSS.out (by rfl) ?_ ?_
      rotate_left
      · intro w hSw; skip; go_simp; try with_reducible rfl
      simp only [Act.put, List.getElem_toArray, List.getElem_cons_zero, List.getElem_cons_succ, List.setIfInBounds_toArray, List.set_cons_zero, List.set_cons_succ]
      refine wpAnyT_load (i := 7) (v := ?_) rfl (by kernel_rfl) (by kernel_rfl) (by kernel_rfl) (by kernel_rfl) (by kernel_rfl) (fun _ _ _ h => h) HSS.out (by rfl) ?_ ?_
      rotate_left
      · intro w' hSw; refine run_load_mid_op 42 (.tmp 103) ?_ b2 (o2 + j * 10) ?_ (itc y1 (.slice ar2 y1.reps.length cr2) (.slice ac2 y1.chks.length cc2) (.slice as2 y1.srcs.length cs2)) _ (fr_rng hSw HRG2.out) Try.underlying42 rfl (by kernel_rfl) <;> rfl
      simp only [Act.put, List.getElem_toArray, List.getElem_cons_zero, List.getElem_cons_succ, List.setIfInBounds_toArray, List.set_cons_zero, List.set_cons_succ]
      refine wpAnyT_one (i := 8) (by kernel_rfl) rfl (fun K hK => ?_)
      rw [if_pos (by rfl)]
      go_simp
      refine (tSame_any HR1.out HC1.out HS1.out HR2.out HC2.out HS2.out HM1.out HM1.out).mono ?_
      rw [beq_self_eq_true]
      rintro e wl ⟨rfl, hF⟩
      have HSS := Lib.hid (HSS.out.trans hF); have HFW := Lib.hid (HFW.out.trans hF)
      clear hF
      go_simp
      refine hK.out _ _ (fun _ => HSS.out) ?_
      clear hK K
      simp only [Act.put, List.getElem_toArray, List.getElem_cons_zero, List.getElem_cons_succ, List.setIfInBounds_toArray, List.set_cons_zero, List.set_cons_succ]
      refine wpAnyT_load (i := 9) (v := ?_) rfl (by kernel_rfl) (by kernel_rfl) (by kernel_rfl) (by kernel_rfl) (by kernel_rfl) (fun _ _ _ h => h) HSS.out (by rfl) ?_ ?_
      rotate_left
      · intro w hSw; skip; go_simp; try with_reducible rfl
      simp only [Act.put, List.getElem_toArray, List.getElem_cons_zero, List.getElem_cons_succ, List.setIfInBounds_toArray, List.set_cons_zero, List.set_cons_succ]
      refine wpAnyT_done (by kernel_rfl) ?_ _
      go_wp2_with fail
      go_roundw
      case rel => exact ⟨j + 1, by omega, by go_num, HFW.out⟩
      case measure => simp [intOf]; omega
    · go_wp2_with fail
      go_ret
      exact ⟨rfl, HF.out.trans HFW.out⟩
end Go.Proofs.Ytcmpjkopdjncdaa
