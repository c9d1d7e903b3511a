import Derived.Test.YtchbgiindfoepaaMq9
import Derived.Test.YtchbgiindfoepaaMq29
import Derived.Test.YtchbgiindfoepaaMq28
import Derived.Test.YtchbgiindfoepaaMq16
import Derived.Test.YtchbgiindfoepaaMq18
/- The walk of confluxref12.All; imprints as elements of slices (printed by gen_imp14.py). -/
namespace Go.Proofs.Ytchbgiindfoepaa
open Go.RowKit

/-- An imprint as nine cells; the reference's as two. -/
def BtR (w : World) (c : List Value) (x : Bt) (B : List Nat) : Prop := ∃ vb, c = (bc x vb).toList ∧ Bytes w vb x.body ∧ B = (liveOf vb).toList
def RbR (w : World) (c : List Value) (x : Bt) (B : List Nat) : Prop := ∃ vh vb, c = [vh, vb] ∧ Bytes w vh x.head ∧ Bytes w vb x.body ∧ B = (liveOf vh).toList ++ (liveOf vb).toList
theorem slice_one {w : World} {v : Value} {xs : List Value} (h : Sl w v xs) : v.oneCell' = true := by
  obtain ⟨a, c, rfl⟩ := h.shape
  rfl
theorem Rep.bt : Rep 9 BtR where
  len := by rintro w c y B ⟨vb, rfl, -, -⟩; rfl
  one := by
    rintro w c y B ⟨vb, rfl, h, -⟩ u hu
    simp [bc] at hu
    rcases hu with rfl | rfl | rfl | rfl | rfl | rfl | rfl | rfl | rfl
    all_goals first | rfl | exact slice_one h
  lt := by
    rintro w c y B ⟨vb, rfl, h, rfl⟩ b hb
    exact Sl.lt h b (by simpa using hb)
  fr := by
    rintro w w' c y B S ⟨vb, rfl, h, rfl⟩ hf hS
    exact ⟨vb, rfl, Sl.frL h hf (fun b hb => hS b (by simp [hb])), rfl⟩
theorem Rep.rb : Rep 2 RbR where
  len := by rintro w c y B ⟨vh, vb, rfl, -, -, -⟩; rfl
  one := by
    rintro w c y B ⟨vh, vb, rfl, h1, h2, -⟩ u hu
    simp only [List.mem_cons, List.not_mem_nil, or_false] at hu
    rcases hu with rfl | rfl
    · exact slice_one h1
    · exact slice_one h2
  lt := by
    rintro w c y B ⟨vh, vb, rfl, h1, h2, rfl⟩ b hb
    rcases List.mem_append.1 hb with hb | hb
    · exact Sl.lt h1 b (by simpa using hb)
    · exact Sl.lt h2 b (by simpa using hb)
  fr := by
    rintro w w' c y B S ⟨vh, vb, rfl, h1, h2, rfl⟩ hf hS
    exact ⟨vh, vb, rfl, Sl.frL h1 hf (fun b hb => hS b (by simp [hb])), Sl.frL h2 hf (fun b hb => hS b (by simp [hb])), rfl⟩
theorem all_take (xs : List Bt) (j : Nat) (h : j < xs.length) : Bt.all (xs.take (j + 1)) = (Bt.all (xs.take j)).add xs[j] := by
  rw [List.take_succ_eq_append_getElem h, bt_all_snoc]
theorem all_small {xs : List Bt} {n : Nat} (h : ∀ x ∈ xs, x.body.length ≤ n) : (Bt.all xs).body.length ≤ n := Bt.fold_small _ _ _ (by simp [Bt.zero]) h

set_option maxRecDepth 100000 in
set_option maxHeartbeats 4000000 in
theorem r12AllN_any {w : World} {v : Value} {xs : List Bt} {B : List Nat} (h : SlEls 2 RbR w v xs B) (hs : ∀ x ∈ xs, x.body.length ≤ 1099511627776) :
    Calls Try.prog 18 #[v] w fun e w' => ∃ v', e = .returned v' ∧ RBN w' w.heap.size v' (Bt.all xs).head (Bt.all xs).body ∧ Fr [] w w' := by
  obtain ⟨av, cv, rfl⟩ := h.shape
  have hlen := h.len.2.1; have hlen2 := h.len.2.2.1
  unfold maxLen at hlen2
  have HV := Lib.hid h; have HS := Lib.hid hs; have HVB0 := Lib.hid (h.lt Rep.rb)
  clear h hs
  go_enter Try.func18, Try.ntmps18
  obtain ⟨iu8, hi1, hi2, hi3, hi4⟩ := info_parts info_u8
  have HI1 := Lib.hid hi1; have HI2 := Lib.hid hi2; have HI3 := Lib.hid hi3; have HI4 := Lib.hid hi4
  clear hi1 hi2 hi3 hi4
  obtain ⟨w1, e1, hF1, hB1, hs1⟩ := one_new w #[.slice none 0 0, .slice none 0 0] 37
  have HF := Lib.hid hF1; have HR := Lib.hid hB1; have HV := Lib.hid (HV.out.keep Rep.rb hF1); have E1 := Lib.hid e1
  obtain ⟨w2, e2, hF2, hB2, hs2⟩ := one_new w1 (madeCells #[.int .u8 0] 8) 5
  rw [madeCells_one] at hB2
  have HF := Lib.hid (HF.out.trans hF2); have HR := Lib.hid (HR.out.keep hF2); have HV := Lib.hid (HV.out.keep Rep.rb hF2); have HH := Lib.hid hB2
  have E2 := Lib.hid e2
  have HS1 := Lib.hid hs1; have HS2 := Lib.hid hs2
  clear hF1 hB1 e1 hF2 hB2 e2 hs1 hs2
  go_upto_region 1 with fail
  rw [E1.out]
  clear E1
  generalize hg : w.heap.size = g at *
  have HG := Lib.hid hg
  clear hg
  go_upto_region 2 with (first | (refine wpList_make_row _ rfl _ _ _ rfl 5 iu8 (.int .u8 0) Try.underlying25 HI1.out HI2.out HI3.out rfl .i64 .i64 8 rfl rfl (by rw [HI4.out]; omega) (by omega) ?_; rw [E2.out]; clear E2) | (refine wpList_store_row rfl 37 (.tmp 3) (.tmp 6) rfl w2.heap.size rfl _ #[.slice (some ⟨w1.heap.size, 0, none⟩) 8 8, .slice none 0 0] rfl 37 (Box.new w2 37 #[.slice none 0 0, .slice none 0 0]) (by kernel_rfl) rfl (by simp [Value.oneCell']) ?_; intro w3 hY hG; have hFn := ((Fr.refl [] w2).alloc _).step hG (by simp); have HFn := Lib.hid hFn; have HY := Lib.hid hY; clear hG hFn hY))
  have hF := HFn.out
  have HH : Hid (Bytes w3 (.slice (some ⟨w1.heap.size, 0, none⟩) 8 8) Bt.zero.head) := Lib.hid (Sl.keep (box_sl (off := 0) (cap := 8) HH.out (Bt.zero.head.map B8) (by intro i y hy; simpa [B8, Bt.zero, Bt.head] using hy) (by simp [Bt.zero, Bt.head]) (by unfold maxLen; omega)) hF)
  have HF := Lib.hid (HF.out.trans hF); have HR := Lib.hid (HR.out.keep hF); have HV := Lib.hid (HV.out.keep Rep.rb hF); have HA := HY
  clear hF HFn HY
  have hgz : g + 2 = w2.heap.size := by have := HS1.out; have := HS2.out; omega
  have hq1 : w1.heap.size < w2.heap.size := by have := HS2.out; omega
  have hq2 : g < w1.heap.size := by have := HS1.out; omega
  generalize hq : w1.heap.size = q1 at *
  generalize hG2 : w2.heap.size = G at *
  clear hG2 hq
  have hgG : g < G := by omega
  have HQ1 : Hid (g < q1) := Lib.hid (by omega)
  have hwG : Hid (w.heap.size ≤ G) := Lib.hid (by have := HG.out; omega)
  have HVB : Hid ((∀ b ∈ B, b ∉ [G]) ∧ ∀ b, liveOf (.slice av xs.length cv) = some b → b ∉ [G]) := Lib.hid ⟨fun b hb hm => by have := HVB0.out.1 b hb; have := HG.out; simp at hm; omega, fun b hb hm => by have := HVB0.out.2 b hb; have := HG.out; simp at hm; omega⟩
  clear hgz
  go_wp2_with fail
  go_loopw [4] (fun iv wr => ∃ (j : Nat) (vh vb : Value), j ≤ xs.length ∧ iv = .int .i64 j ∧ Box wr G 37 #[vh, vb] ∧ Bytes wr vh (Bt.all (xs.take j)).head ∧ Bytes wr vb (Bt.all (xs.take j)).body ∧ (∀ b, liveOf vh = some b ∨ liveOf vb = some b → b ≠ G ∧ g < b) ∧ Box wr g 37 #[.slice none 0 0, .slice none 0 0] ∧ SlEls 2 RbR wr (.slice av xs.length cv) xs B ∧ Fr [] w wr) (fun iv _ => xs.length - (intOf iv).toNat)
  case atStart => exact ⟨0, _, _, Nat.zero_le _, rfl, HA.out, HH.out, Sl.nil _, by simp [liveOf]; have := HQ1.out; omega, HR.out, HV.out, HF.out⟩
  case round =>
    clear HA HH HR HV HF
    obtain ⟨j, vh, vb, hj, rfl, hA, hH, hb, hne, hR, hV, hF⟩ := hrel
    have HA := Lib.hid hA; have HH := Lib.hid hH; have HB := Lib.hid hb; have HNE := Lib.hid hne; have HR := Lib.hid hR; have HV := Lib.hid hV; have HF := Lib.hid hF
    obtain ⟨ah, nh, ch, rfl⟩ := Sl.isSlice hH
    obtain ⟨ab, nb, cb, rfl⟩ := Sl.isSlice hb
    have hlw : w.heap.size ≤ G := hwG.out
    have hgl := hA.lt
    clear hA hH hb hne hR hV hF
    by_cases hlt : j < xs.length
    rotate_left
    · obtain rfl : j = xs.length := by omega
      rw [List.take_length] at HH HB
      go_wp2_with (first | (refine wpList_load_row_w rfl 37 (.tmp 3) rfl G rfl 37 _ _ HA.out Try.underlying37 rfl (by kernel_rfl) ?_) | (refine wpList_store_row rfl 37 (.tmp 2) (.tmp 19) rfl g rfl _ _ rfl 37 HR.out (by kernel_rfl) rfl (by simp [Value.oneCell']) ?_; intro w5 hY hG; have HY := Lib.hid hY; have HGr := Lib.hid hG; clear hY hG))
      refine bodyPost_ret (results_cell_row rfl _ _ g 37 _ (0, 0) _ rfl HY.out Try.underlying37 rfl (by kernel_rfl)) rfl ⟨_, rfl, ⟨_, _, rfl, ?_, ?_, fun k hk => by have := (HNE.out k hk).2; have := HG.out; omega⟩, HF.out.step HGr.out (by simp; have := HG.out; omega)⟩
      · exact Sl.frL HH.out HGr.out (fun k hk hm => by have := HNE.out k (.inl hk); simp at hm; omega)
      · exact Sl.frL HB.out HGr.out (fun k hk hm => by have := HNE.out k (.inr hk); simp at hm; omega)
    obtain ⟨b, o, c, y, B1, ea, hb, hy, ⟨eh, eb, rfl, hEh, hEb, -⟩, -, hrg⟩ := HV.out.at_ Rep.rb hlt
    subst ea
    have d0 := hrg 0 eh rfl; have d1 := hrg 1 eb rfl
    obtain ⟨x1, n1, k1, rfl⟩ := Sl.isSlice hEh
    obtain ⟨x2, n2, k2, rfl⟩ := Sl.isSlice hEb
    obtain rfl : xs[j] = y := by rw [List.getElem?_eq_getElem hlt] at hy; simpa using hy
    simp only [Nat.add_zero] at d0 d1
    have HSS : Hid (Box wr G 37 #[.slice ah nh ch, .slice ab nb cb] ∧ wr.cell? ⟨b, o + j * 2, none⟩ = some (.slice x1 n1 k1) ∧ wr.cell? ⟨b, o + j * 2 + 1, none⟩ = some (.slice x2 n2 k2)) := Lib.hid ⟨HA.out, d0, d1⟩
    have HEH := Lib.hid hEh; have HEB := Lib.hid hEb
    have HL1 : Hid ((Bt.all (xs.take j)).body.length ≤ 1099511627776) := Lib.hid (all_small fun x hx => HS.out x (List.mem_of_mem_take hx))
    have HL2 : Hid ((xs[j]).body.length ≤ 1099511627776) := Lib.hid (HS.out _ (List.getElem_mem hlt))
    clear hrg hb d0 d1 hy hEh hEb HA
    go_upto_region 5 with fail
    refine wp_region_T (fun w' => Box w' G 37 #[.slice ah nh ch, .slice ab nb cb] ∧ w'.cell? ⟨b, o + j * 2, none⟩ = some (.slice x1 n1 k1) ∧ w'.cell? ⟨b, o + j * 2 + 1, none⟩ = some (.slice x2 n2 k2)) [6] 7 #[false, false, false, false, false, false, false] (by kernel_rfl) rfl rfl ?_
    have hF := (Fr.refl [] wr).drew
    have HSS := Lib.hid (And.intro (HSS.out.1.keep hF) (And.intro (hF.cellSome HSS.out.2.1 (by simp)) (hF.cellSome HSS.out.2.2 (by simp)))); have HR := Lib.hid (HR.out.keep hF); have HV := Lib.hid (HV.out.keep Rep.rb hF); have HH := Lib.hid (Sl.keep HH.out hF); have HB := Lib.hid (Sl.keep HB.out hF); have HEH := Lib.hid (Sl.keep HEH.out hF); have HEB := Lib.hid (Sl.keep HEB.out hF); have HF := Lib.hid (HF.out.trans hF)
    have hgl2 : G < wr.drew.heap.size := hgl
    clear hF
    generalize wr.drew = wd at *
    refine wpAnyT_load (i := 0) (v := ?_) rfl (by kernel_rfl) (by kernel_rfl) (by kernel_rfl) (by kernel_rfl) (by kernel_rfl) (fun _ _ _ h => h) HSS.out (by rfl) ?_ ?_
    rotate_left
    · intro w hSw; have y0 := hSw.1.cell 0; have y1 := hSw.1.cell 1; simp only [List.getElem?_toArray, List.getElem?_cons_succ, List.getElem?_cons_zero] at y0 y1; obtain ⟨-, z0, z1⟩ := hSw; go_simp; try with_reducible rfl
    simp only [Act.put, List.getElem_toArray, List.getElem_cons_zero, List.getElem_cons_succ, List.setIfInBounds_toArray, List.set_cons_zero, List.set_cons_succ]
    refine wpAnyT_load (i := 1) (v := ?_) rfl (by kernel_rfl) (by kernel_rfl) (by kernel_rfl) (by kernel_rfl) (by kernel_rfl) (fun _ _ _ h => h) HSS.out (by rfl) ?_ ?_
    rotate_left
    · intro w hSw; have y0 := hSw.1.cell 0; have y1 := hSw.1.cell 1; simp only [List.getElem?_toArray, List.getElem?_cons_succ, List.getElem?_cons_zero] at y0 y1; obtain ⟨-, z0, z1⟩ := hSw; go_simp; try with_reducible rfl
    simp only [Act.put, List.getElem_toArray, List.getElem_cons_zero, List.getElem_cons_succ, List.setIfInBounds_toArray, List.set_cons_zero, List.set_cons_succ]
    refine wpAnyT_load (i := 2) (v := ?_) rfl (by kernel_rfl) (by kernel_rfl) (by kernel_rfl) (by kernel_rfl) (by kernel_rfl) (fun _ _ _ h => h) HSS.out (by rfl) ?_ ?_
    rotate_left
    · intro w hSw; have y0 := hSw.1.cell 0; have y1 := hSw.1.cell 1; simp only [List.getElem?_toArray, List.getElem?_cons_succ, List.getElem?_cons_zero] at y0 y1; obtain ⟨-, z0, z1⟩ := hSw; go_simp; try with_reducible rfl
    simp only [Act.put, List.getElem_toArray, List.getElem_cons_zero, List.getElem_cons_succ, List.setIfInBounds_toArray, List.set_cons_zero, List.set_cons_succ]
    refine wpAnyT_load (i := 3) (v := ?_) rfl (by kernel_rfl) (by kernel_rfl) (by kernel_rfl) (by kernel_rfl) (by kernel_rfl) (fun _ _ _ h => h) HSS.out (by rfl) ?_ ?_
    rotate_left
    · intro w hSw; have y0 := hSw.1.cell 0; have y1 := hSw.1.cell 1; simp only [List.getElem?_toArray, List.getElem?_cons_succ, List.getElem?_cons_zero] at y0 y1; obtain ⟨-, z0, z1⟩ := hSw; go_simp; try with_reducible rfl
    simp only [Act.put, List.getElem_toArray, List.getElem_cons_zero, List.getElem_cons_succ, List.setIfInBounds_toArray, List.set_cons_zero, List.set_cons_succ]
    refine wpAnyT_load (i := 4) (v := ?_) rfl (by kernel_rfl) (by kernel_rfl) (by kernel_rfl) (by kernel_rfl) (by kernel_rfl) (fun _ _ _ h => h) HSS.out (by rfl) ?_ ?_
    rotate_left
    · intro w hSw; have y0 := hSw.1.cell 0; have y1 := hSw.1.cell 1; simp only [List.getElem?_toArray, List.getElem?_cons_succ, List.getElem?_cons_zero] at y0 y1; obtain ⟨-, z0, z1⟩ := hSw; go_simp; try with_reducible rfl
    simp only [Act.put, List.getElem_toArray, List.getElem_cons_zero, List.getElem_cons_succ, List.setIfInBounds_toArray, List.set_cons_zero, List.set_cons_succ]
    refine wpAnyT_one (i := 5) (by kernel_rfl) rfl (fun K hK => ?_)
    rw [if_pos (by rfl)]
    go_simp
    refine (r12Add_own (h1 := (Bt.all (xs.take j)).head) (b1 := (Bt.all (xs.take j)).body) (h2 := (xs[j]).head) (b2 := (xs[j]).body) ⟨_, _, rfl, HH.out, HB.out⟩ ⟨_, _, rfl, HEH.out, HEB.out⟩ (by simp [Bt.head]) (by simp [Bt.head]) HL1.out HL2.out).mono ?_
    rintro e w2 ⟨vh2, vb2, rfl, hO1, hO2, hF⟩
    have HO1 := Lib.hid hO1; have HO2 := Lib.hid hO2; have hz2 := hF.size
    have HSS := Lib.hid (And.intro (HSS.out.1.keep hF) (And.intro (hF.cellSome HSS.out.2.1 (by simp)) (hF.cellSome HSS.out.2.2 (by simp)))); have HR := Lib.hid (HR.out.keep hF); have HV := Lib.hid (HV.out.keep Rep.rb hF); have HH := Lib.hid (Sl.keep HH.out hF); have HB := Lib.hid (Sl.keep HB.out hF); have HEH := Lib.hid (Sl.keep HEH.out hF); have HEB := Lib.hid (Sl.keep HEB.out hF); have HF := Lib.hid (HF.out.trans hF)
    clear hO1 hO2 hF
    obtain ⟨aa, na, ca, rfl⟩ := HO1.out.isSlice
    obtain ⟨ac, nc, cc, rfl⟩ := HO2.out.isSlice
    go_simp
    refine hK.out _ _ (fun _ => HSS.out) ?_
    clear hK K
    simp only [Act.put, List.getElem_toArray, List.getElem_cons_zero, List.getElem_cons_succ, List.setIfInBounds_toArray, List.set_cons_zero, List.set_cons_succ]
    refine wpAnyT_one (i := 6) (by kernel_rfl) rfl (fun K hK => ?_)
    refine wp_store_row rfl 37 (.tmp 3) (.tmp 18) rfl G rfl _ _ rfl 37 HSS.out.1 (by kernel_rfl) rfl (by simp [Value.oneCell']) ?_
    intro w4 hY hG
    have HY := Lib.hid hY; have HGr := Lib.hid hG
    clear hY hG
    refine hK.out _ _ (fun _ => (by first | trivial | exact absurd ‹_› (by simp))) ?_
    clear hK K
    simp only [Act.put, List.getElem_toArray, List.getElem_cons_zero, List.getElem_cons_succ, List.setIfInBounds_toArray, List.set_cons_zero, List.set_cons_succ]
    refine wpAnyT_done (by kernel_rfl) ?_ _
    go_wp2_with fail
    have hF := HGr.out
    have HA2 : Hid (Bytes w4 (.slice aa na ca) (Bt.all (xs.take (j + 1))).head) := Lib.hid (by rw [all_take _ _ hlt, Bt.head_add]; exact Sl.frL HO1.out.bytes hF (fun k hk hm => by have := HO1.out.block k (live_block hk); simp at hm; omega))
    have HA3 : Hid (Bytes w4 (.slice ac nc cc) (Bt.all (xs.take (j + 1))).body) := Lib.hid (by rw [all_take _ _ hlt]; exact Sl.frL HO2.out.bytes hF (fun k hk hm => by have := HO2.out.block k (live_block hk); simp at hm; omega))
    have HNE2 : Hid (∀ b, liveOf (.slice aa na ca) = some b ∨ liveOf (.slice ac nc cc) = some b → b ≠ G ∧ g < b) := Lib.hid (fun b hb => by
      rcases hb with hb | hb
      · have := HO1.out.block b (live_block hb); omega
      · have := HO2.out.block b (live_block hb); omega)
    have HR := Lib.hid (HR.out.fr hF (by simp; omega)); have HV := Lib.hid (HV.out.fr Rep.rb hF HVB.out.1 HVB.out.2); have HF := Lib.hid (HF.out.step hF (by simp; omega))
    go_roundw
    case rel => exact ⟨j + 1, _, _, by omega, by go_num, HY.out, HA2.out, HA3.out, HNE2.out, HR.out, HV.out, HF.out⟩
    case measure => simp [intOf]; omega
theorem r12All_any {w : World} {v : Value} {xs : List Bt} {B : List Nat} (h : SlEls 2 RbR w v xs B) (hs : ∀ x ∈ xs, x.body.length ≤ 1099511627776) :
    Calls Try.prog 18 #[v] w fun e w' => ∃ v', e = .returned v' ∧ RBV w' v' (Bt.all xs).head (Bt.all xs).body ∧ Fr [] w w' := by
  refine (r12AllN_any h hs).mono ?_
  rintro e w' ⟨v', h1, h2, h3⟩
  exact ⟨v', h1, h2.rbv, h3⟩
end Go.Proofs.Ytchbgiindfoepaa

/- Small lemmas on boxes, elements and imprints (out of the walk of ImprintFolds). -/
namespace Go.Proofs.Ytchbgiindfoepaa
open Go.RowKit

set_option maxRecDepth 100000 in
theorem info_bits : (Try.prog.info? 28).map (fun i => (i.zero, i.size, i.bytes)) = some (some (.agg (bc Bt.zero (.slice none 0 0))), 9, 32) := by kernel_rfl
set_option maxRecDepth 100000 in
theorem info_u8s : (Try.prog.info? 25).map (fun i => (i.zero, i.size, i.bytes)) = some (some (.slice none 0 0), 1, 24) := by kernel_rfl
theorem box_range {w : World} {g : Nat} {t : TypeId} {c : Array Value} (h : Box w g t c) : w.rangeAt g 0 c.toList := fun j u hj => by
  rw [Nat.zero_add, h.cell, ← Array.getElem?_toList]
  exact hj
theorem mem_toList {b : Nat} {o : Option Nat} : b ∈ o.toList ↔ o = some b := by cases o <;> simp [eq_comm]
theorem OwnEls.open_ {α : Type} {k : Nat} {R : World → List Value → α → List Nat → Prop} {w : World} {base : Nat} {e : TypeId} {a : Option Addr} {n cap : Nat} {ys : List α} {B : List Nat} (h : OwnEls k R w base e (.slice a n cap) ys B) (hb : ∃ g, blockOf (.slice a n cap) = some g) :
    ∃ g o cells, a = some ⟨g, o, none⟩ ∧ base ≤ g ∧ g < w.heap.size ∧ Els R ys w cells B ∧ w.rangeAt g o cells ∧ n = ys.length := by
  obtain ⟨cells, ⟨h1, h | ⟨g, cap', cur, e1, h2, h3, h4, h5, h6, h7⟩⟩, h8, h9⟩ := h
  · obtain ⟨h, _⟩ := h
    obtain ⟨g, hg⟩ := hb
    rw [h] at hg
    simp [blockOf] at hg
  · simp only [Value.slice.injEq] at e1
    obtain ⟨rfl, rfl, rfl⟩ := e1
    refine ⟨g, 0, cells, rfl, h2, (Array.getElem?_eq_some_iff.1 h3).1, h8, fun i x hx => ?_, rfl⟩
    rw [Nat.zero_add, cell_of_row w g i cur _ _ h3, ← Array.getElem?_toList]
    rw [← h7, List.getElem?_take] at hx
    split at hx
    · exact hx
    · cases hx
theorem imp_small {l : List UInt8} (h : l.length ≤ 500) : (imp l).body.length ≤ 500 := by
  show (l.drop 12).length ≤ 500
  rw [List.length_drop]
  omega
theorem wpList_load_midA {P : Program} {ops : Array Oper} {rest : List Oper} {op : Oper} {a : Act} {w : World} {Q : Exit → Act → World → Prop} (hgd : op.guard = none) (ty : TypeId) (x : Operand) (ho : op.op = .load ty x)
    (b o : Nat) (hx : a.eval x = .pointer (some ⟨b, o, none⟩)) (cs : Array Value) (d : TypeDesc) (hc : w.rangeAt b o cs.toList)
    (hu : P.underlying ty = some d) (hd : d.isRow = true) (hi : (P.info? ty).map (·.size) = some cs.size)
    (h : wpList P ops Q rest (a.put op.dst (.agg cs)) w) : wpList P ops Q (op :: rest) a w :=
  wpList_load_mid hgd ty x ho b o hx cs.toList d hc hu hd hi h
set_option maxRecDepth 100000 in
theorem info_rbits : (Try.prog.info? 37).map (fun i => (i.zero, i.size, i.bytes)) = some (some (.agg #[.slice none 0 0, .slice none 0 0]), 2, 48) := by kernel_rfl
theorem imp_lenb {l : List UInt8} {p : Pkt} (h : parseR l = .ok p) : (imp l).len = (imp l).body.length := by
  obtain ⟨h1, h2⟩ := parse_back h
  rw [← h2, imp_len h1, imp_bytes]
theorem and1023 (c : Int) : ∃ n : Nat, bits .and .i64 c 1023 = (n : Int) ∧ n ≤ 1023 := by
  have h : (BitVec.ofInt 64 c &&& BitVec.ofInt 64 1023).toNat ≤ 1023 := by
    rw [BitVec.toNat_and]
    exact Nat.and_le_right
  refine ⟨_, ?_, h⟩
  show IntKind.i64.wrap ((BitVec.ofInt 64 c &&& BitVec.ofInt 64 1023).toNat : Int) = _
  exact IntWalk.i64_in _ (by omega)
end Go.Proofs.Ytchbgiindfoepaa
