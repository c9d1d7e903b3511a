import Derived.Test.YtngfenjekgdfbaaMu18
import Derived.Test.YtngfenjekgdfbaaMu16
import Derived.Test.YtngfenjekgdfbaaMu20
/- The walks of confluxlaw18.same, alive (printed by gen_sh20.py). -/
namespace Go.Proofs.Ytngfenjekgdfbaa
open Go.RowKit

set_option maxRecDepth 100000 in
set_option maxHeartbeats 8000000 in
theorem l18same_any {w : World} {v1 v2 : Value} {a b : List (List Int)} (h1 : IRows w v1 a) (h2 : IRows w v2 b) :
    Calls Try.prog 8 #[v1, v2] w fun e w' => e = .returned (.bool (a == b)) ∧ Fr [] w w' := by
  obtain ⟨aa, ca, rfl⟩ := SlOf.shape h1
  obtain ⟨ab, cb, rfl⟩ := SlOf.shape h2
  have hlen := h1.len; have hlen2 := h2.len
  have HL := Lib.hid h1; have HL2 := Lib.hid h2
  clear h1 h2
  by_cases hn : a.length = b.length
  · obtain ⟨n, hna⟩ : ∃ n, a.length = n := ⟨_, rfl⟩
    have hnb : b.length = n := by omega
    have HNA := Lib.hid hna; have HNB := Lib.hid hnb
    rw [hna] at HL hlen ⊢
    rw [hnb] at HL2 ⊢
    clear hn hna hnb hlen2
    go_enter Try.func8, Try.ntmps8
    go_upto_region 4 with fail
    have HF : Hid (Fr [] w w) := Lib.hid (Fr.refl _ _)
    go_loopw [13] (fun i wr => ∃ j : Nat, j ≤ n ∧ i = .int .i64 j ∧ a.take j = b.take j ∧ IRows wr (.slice aa n ca) a ∧ IRows wr (.slice ab n cb) b ∧ Fr [] w wr) (fun i _ => n - (intOf i).toNat)
    case atStart => exact ⟨0, Nat.zero_le _, rfl, by simp, HL.out, HL2.out, HF.out⟩
    case round =>
      clear HL HL2 HF
      obtain ⟨j, hj, rfl, hno, hl, hl2, hF⟩ := hrel
      have HNO := Lib.hid hno; have HF := Lib.hid hF; have HL := Lib.hid hl; have HL2 := Lib.hid hl2
      clear hno hF hl hl2
      by_cases hlt : j < n
      · have k1 : j < a.length := by rw [HNA.out]; exact hlt
        have k2 : j < b.length := by rw [HNB.out]; exact hlt
        obtain ⟨ba, oa, al, cl, ea, hb, hcell, hR⟩ := IRows.at_ HL.out j k1
        obtain ⟨bb, ob, al2, cl2, ea2, hb2, hcell2, hR2⟩ := IRows.at_ HL2.out j k2
        subst ea ea2
        have H1 := Lib.hid hcell; have H2 := Lib.hid hcell2
        have HT : Hid (a.take (j + 1) = a.take j ++ [a[j]]) := Lib.hid (List.take_succ_eq_append_getElem k1)
        have HT2 : Hid (b.take (j + 1) = b.take j ++ [b[j]]) := Lib.hid (List.take_succ_eq_append_getElem k2)
        have HG : Hid (a[j]? = some a[j]) := Lib.hid (List.getElem?_eq_getElem k1)
        have HG2 : Hid (b[j]? = some b[j]) := Lib.hid (List.getElem?_eq_getElem k2)
        have HRx := Lib.hid hR; have HRy := Lib.hid hR2
        clear hcell hcell2 hR hR2
        generalize a[j] = x at *
        generalize b[j] = y at *
        clear k1 k2
        obtain ⟨e, hxy⟩ : ∃ e, (x == y) = e := ⟨_, rfl⟩
        have HXY := Lib.hid hxy
        clear hxy
        go_upto_region 6 with fail
        refine wp_region_T (fun w' => Fr [] wr.drew w') [] 10 #[false, false, false, false, false, false, false, false, false, false] (by kernel_rfl) rfl rfl ?_
        try simp only [List.append_eq, List.cons_append, List.nil_append]
        have hF := (Fr.refl [] wr).drew
        have HL := Lib.hid (HL.out.keep hF)
        have HL2 := Lib.hid (HL2.out.keep hF)
        have HF := Lib.hid (HF.out.trans hF)
        have H1 := Lib.hid (hF.cellSome H1.out (by simp))
        have H2 := Lib.hid (hF.cellSome H2.out (by simp))
        have HRx : Hid (Ints wr.drew _ x) := Lib.hid (HRx.out.keep hF)
        have HRy : Hid (Ints wr.drew _ y) := Lib.hid (HRy.out.keep hF)
        clear hF
        have HSS : Hid (Fr [] wr.drew wr.drew) := Lib.hid (Fr.refl _ _)
        generalize wr.drew = wd at *
        refine wpAnyT_load (i := 0) (v := ?_) rfl (by kernel_rfl) (by kernel_rfl) (by kernel_rfl) (by kernel_rfl) (by kernel_rfl) (fun _ _ _ h => h) HSS.out (by rfl) ?_ ?_
        rotate_left
        · intro w hSw; have x1 := hSw.cellSome H1.out (by simp); have x2 := hSw.cellSome H2.out (by simp); go_simp; try with_reducible rfl
        simp only [Act.put, List.getElem_toArray, List.getElem_cons_zero, List.getElem_cons_succ, List.setIfInBounds_toArray, List.set_cons_zero, List.set_cons_succ]
        refine wpAnyT_load (i := 1) (v := ?_) rfl (by kernel_rfl) (by kernel_rfl) (by kernel_rfl) (by kernel_rfl) (by kernel_rfl) (fun _ _ _ h => h) HSS.out (by rfl) ?_ ?_
        rotate_left
        · intro w hSw; have x1 := hSw.cellSome H1.out (by simp); have x2 := hSw.cellSome H2.out (by simp); go_simp; try with_reducible rfl
        simp only [Act.put, List.getElem_toArray, List.getElem_cons_zero, List.getElem_cons_succ, List.setIfInBounds_toArray, List.set_cons_zero, List.set_cons_succ]
        refine wpAnyT_load (i := 2) (v := ?_) rfl (by kernel_rfl) (by kernel_rfl) (by kernel_rfl) (by kernel_rfl) (by kernel_rfl) (fun _ _ _ h => h) HSS.out (by rfl) ?_ ?_
        rotate_left
        · intro w hSw; have x1 := hSw.cellSome H1.out (by simp); have x2 := hSw.cellSome H2.out (by simp); go_simp; try with_reducible rfl
        simp only [Act.put, List.getElem_toArray, List.getElem_cons_zero, List.getElem_cons_succ, List.setIfInBounds_toArray, List.set_cons_zero, List.set_cons_succ]
        refine wpAnyT_load (i := 3) (v := ?_) rfl (by kernel_rfl) (by kernel_rfl) (by kernel_rfl) (by kernel_rfl) (by kernel_rfl) (fun _ _ _ h => h) HSS.out (by rfl) ?_ ?_
        rotate_left
        · intro w hSw; have x1 := hSw.cellSome H1.out (by simp); have x2 := hSw.cellSome H2.out (by simp); go_simp; try with_reducible rfl
        simp only [Act.put, List.getElem_toArray, List.getElem_cons_zero, List.getElem_cons_succ, List.setIfInBounds_toArray, List.set_cons_zero, List.set_cons_succ]
        refine wpAnyT_load (i := 4) (v := ?_) rfl (by kernel_rfl) (by kernel_rfl) (by kernel_rfl) (by kernel_rfl) (by kernel_rfl) (fun _ _ _ h => h) HSS.out (by rfl) ?_ ?_
        rotate_left
        · intro w hSw; have x1 := hSw.cellSome H1.out (by simp); have x2 := hSw.cellSome H2.out (by simp); go_simp; try with_reducible rfl
        simp only [Act.put, List.getElem_toArray, List.getElem_cons_zero, List.getElem_cons_succ, List.setIfInBounds_toArray, List.set_cons_zero, List.set_cons_succ]
        refine wpAnyT_load (i := 5) (v := ?_) rfl (by kernel_rfl) (by kernel_rfl) (by kernel_rfl) (by kernel_rfl) (by kernel_rfl) (fun _ _ _ h => h) HSS.out (by rfl) ?_ ?_
        rotate_left
        · intro w hSw; have x1 := hSw.cellSome H1.out (by simp); have x2 := hSw.cellSome H2.out (by simp); go_simp; try with_reducible rfl
        simp only [Act.put, List.getElem_toArray, List.getElem_cons_zero, List.getElem_cons_succ, List.setIfInBounds_toArray, List.set_cons_zero, List.set_cons_succ]
        refine wpAnyT_load (i := 6) (v := ?_) rfl (by kernel_rfl) (by kernel_rfl) (by kernel_rfl) (by kernel_rfl) (by kernel_rfl) (fun _ _ _ h => h) HSS.out (by rfl) ?_ ?_
        rotate_left
        · intro w hSw; have x1 := hSw.cellSome H1.out (by simp); have x2 := hSw.cellSome H2.out (by simp); go_simp; try with_reducible rfl
        simp only [Act.put, List.getElem_toArray, List.getElem_cons_zero, List.getElem_cons_succ, List.setIfInBounds_toArray, List.set_cons_zero, List.set_cons_succ]
        refine wpAnyT_load (i := 7) (v := ?_) rfl (by kernel_rfl) (by kernel_rfl) (by kernel_rfl) (by kernel_rfl) (by kernel_rfl) (fun _ _ _ h => h) HSS.out (by rfl) ?_ ?_
        rotate_left
        · intro w hSw; have x1 := hSw.cellSome H1.out (by simp); have x2 := hSw.cellSome H2.out (by simp); go_simp; try with_reducible rfl
        simp only [Act.put, List.getElem_toArray, List.getElem_cons_zero, List.getElem_cons_succ, List.setIfInBounds_toArray, List.set_cons_zero, List.set_cons_succ]
        refine wpAnyT_one (i := 8) (by kernel_rfl) rfl (fun K hK => ?_)
        rw [if_pos (by rfl)]
        go_simp
        refine (r01SameInts_any (HRx.out.keep HSS.out) (HRy.out.keep HSS.out)).mono ?_
        rintro e w6 ⟨rfl, hF6⟩
        rw [HXY.out]
        have HSS := Lib.hid (HSS.out.trans hF6)
        clear hF6
        go_simp
        refine hK.out _ _ (fun _ => HSS.out) ?_
        clear hK K
        simp only [Act.put, List.getElem_toArray, List.getElem_cons_zero, List.getElem_cons_succ, List.setIfInBounds_toArray, List.set_cons_zero, List.set_cons_succ]
        refine wpAnyT_load (i := 9) (v := ?_) rfl (by kernel_rfl) (by kernel_rfl) (by kernel_rfl) (by kernel_rfl) (by kernel_rfl) (fun _ _ _ h => h) HSS.out (by rfl) ?_ ?_
        rotate_left
        · intro w hSw; have x1 := hSw.cellSome H1.out (by simp); have x2 := hSw.cellSome H2.out (by simp); go_simp; try with_reducible rfl
        simp only [Act.put, List.getElem_toArray, List.getElem_cons_zero, List.getElem_cons_succ, List.setIfInBounds_toArray, List.set_cons_zero, List.set_cons_succ]
        refine wpAnyT_done (by kernel_rfl) ?_ _
        cases e with
        | true =>
          have HE : Hid (x = y) := Lib.hid (by have := HXY.out; simpa using this)
          go_wp2_with fail
          exact ⟨⟨j + 1, by omega, by go_num, by rw [HT.out, HT2.out, HNO.out, HE.out], HL.out.keep HSS.out, HL2.out.keep HSS.out, HF.out.trans HSS.out⟩, by simp [intOf]; omega⟩
        | false =>
          have HE : Hid ((a == b) = false) := Lib.hid (beq_eq_false_iff_ne.2 (fun e => by
            subst e
            have h1 := HG.out.symm.trans HG2.out
            have h2 := HXY.out
            rw [Option.some.inj h1] at h2
            simp at h2))
          go_wp2_with fail
          go_ret
          exact ⟨by rw [HE.out]; rfl, HF.out.trans HSS.out⟩
      · have HE : Hid ((a == b) = true) := Lib.hid (by
          have h := HNO.out
          rw [List.take_of_length_le (by have := HNA.out; omega), List.take_of_length_le (by have := HNB.out; omega)] at h
          rw [h]; simp)
        go_wp2_with fail
        go_ret
        exact ⟨by rw [HE.out]; rfl, HF.out⟩
  · have HE : Hid ((a == b) = false) := Lib.hid (beq_eq_false_iff_ne.2 (fun e => hn (by rw [e])))
    have hnn : ¬ (a.length : Int) = (b.length : Int) := by omega
    clear hn
    go_enter Try.func8, Try.ntmps8
    go_wp2_with fail
    go_ret
    exact ⟨by rw [HE.out]; rfl, Fr.refl _ _⟩
end Go.Proofs.Ytngfenjekgdfbaa

/- The walk of confluxlaw18.alive (printed by gen_sh21.py). -/
namespace Go.Proofs.Ytngfenjekgdfbaa
open Go.RowKit

theorem row_lit (w : World) (c : List Int) (hc : c.length ≤ 100) : ∃ W, w.alloc (.cells (c.map (Value.int .i64)).toArray 3) = W ∧ Ints W (.slice (some ⟨w.heap.size, 0, none⟩) c.length c.length) c ∧ Fr [] w W ∧ W.heap.size = w.heap.size + 1 := by
  obtain ⟨W, e, hF, hB, hs⟩ := one_new w (c.map (Value.int .i64)).toArray 3
  refine ⟨W, e, ⟨some ⟨w.heap.size, 0, none⟩, c.length, by simp, by simp, by unfold maxLen; omega, (fun h => by cases h), ?_⟩, hF, hs⟩
  rintro p hp -
  cases hp
  refine ⟨rfl, by show w.heap.size < W.heap.size; omega, fun i x hx => ?_⟩
  show W.cell? ⟨w.heap.size, 0 + i, none⟩ = some x
  have h := hB.cell i
  rw [Nat.zero_add]
  rw [h]
  simpa using hx
theorem rows_lit {w : World} {vs : List Value} {s : List (List Int)} (hl : vs.length = s.length) (hs : s.length ≤ 100) (h : ∀ (i : Nat) x a, vs[i]? = some x → s[i]? = some a → Ints w x a) : ∃ W, w.alloc (.cells vs.toArray 33) = W ∧ IRows W (.slice (some ⟨w.heap.size, 0, none⟩) vs.length vs.length) s ∧ Fr [] w W := by
  obtain ⟨W, e, hF, hB, hz⟩ := one_new w vs.toArray 33
  refine ⟨W, e, ⟨vs, ⟨some ⟨w.heap.size, 0, none⟩, vs.length, rfl, Nat.le_refl _, by unfold maxLen; omega, (fun h => by cases h), ?_⟩, hl, fun i x a hx ha => Ints.keep (h i x a hx ha) hF⟩, hF⟩
  rintro p hp -
  cases hp
  refine ⟨rfl, by show w.heap.size < W.heap.size; omega, fun i x hx => ?_⟩
  show W.cell? ⟨w.heap.size, 0 + i, none⟩ = some x
  have h := hB.cell i
  rw [Nat.zero_add]
  rw [h]
  simpa using hx
theorem lit2 (w : World) (c1 c2 : List Int) (h1 : c1.length ≤ 100) (h2 : c2.length ≤ 100) : ∃ W, ((w.alloc (.cells (c1.map (Value.int .i64)).toArray 3)).alloc (.cells (c2.map (Value.int .i64)).toArray 3)).alloc (.cells #[.slice (some ⟨w.heap.size, 0, none⟩) c1.length c1.length, .slice (some ⟨w.heap.size + 1, 0, none⟩) c2.length c2.length] 33) = W ∧ IRows W (.slice (some ⟨w.heap.size + 1 + 1, 0, none⟩) 2 2) [c1, c2] ∧ Fr [] w W := by
  obtain ⟨W1, e1, i1, f1, s1⟩ := row_lit w c1 h1
  obtain ⟨W2, e2, i2, f2, s2⟩ := row_lit W1 c2 h2
  rw [s1] at i2
  obtain ⟨W3, e3, i3, f3⟩ := rows_lit (w := W2) (vs := [.slice (some ⟨w.heap.size, 0, none⟩) c1.length c1.length, .slice (some ⟨w.heap.size + 1, 0, none⟩) c2.length c2.length]) (s := [c1, c2]) rfl (by simp) (by
    intro i x a hx ha
    match i, hx, ha with
    | 0, hx, ha => cases hx; cases ha; exact i1.keep f2
    | 1, hx, ha => cases hx; cases ha; exact i2
    | n + 2, hx, _ => simp at hx)
  rw [s2, s1] at i3
  exact ⟨W3, by rw [e1, e2]; exact e3, i3, f1.trans (f2.trans f3)⟩
theorem lit1 (w : World) (c1 : List Int) (h1 : c1.length ≤ 100) : ∃ W, (w.alloc (.cells (c1.map (Value.int .i64)).toArray 3)).alloc (.cells #[.slice (some ⟨w.heap.size, 0, none⟩) c1.length c1.length] 33) = W ∧ IRows W (.slice (some ⟨w.heap.size + 1, 0, none⟩) 1 1) [c1] ∧ Fr [] w W := by
  obtain ⟨W1, e1, i1, f1, s1⟩ := row_lit w c1 h1
  obtain ⟨W3, e3, i3, f3⟩ := rows_lit (w := W1) (vs := [.slice (some ⟨w.heap.size, 0, none⟩) c1.length c1.length]) (s := [c1]) rfl (by simp) (by
    intro i x a hx ha
    match i, hx, ha with
    | 0, hx, ha => cases hx; cases ha; exact i1
    | n + 1, hx, _ => simp at hx)
  rw [s1] at i3
  exact ⟨W3, by rw [e1]; exact e3, i3, f1.trans f3⟩
theorem al_run : ofS 0 0 5 2 = [[0, 1], [2, 3, 4]] := by rfl
theorem al_spr : ofS 1 0 5 2 = [[0, 2, 4], [1, 3]] := by rfl
theorem al_rnd : (ofS 2 0 5 2).length = 2 := by
  have h : ofS 2 0 5 2 = randomS 0 5 2 := by rfl
  rw [h]
  exact (random_full 0 (k := 5) (n := 2) (by omega) (by omega)).good.len
theorem al_no : ofS 2 7 49 2 = [] := by rfl
theorem al_cov : coversS [[0, 1], [2, 3, 4]] 5 = true := by rfl
theorem al_cov2 : coversS [[0]] 2 = false := by rfl
theorem al_b1 : burstI [[0, 2, 4], [1, 3]] 5 = 2 := by rfl
theorem al_b2 : burstI [[0, 1], [2, 3, 4]] 5 = 1 := by rfl
theorem al_next : (nextS 0).toNat = 1442695040888963407 := by rfl
theorem small_in {s : List (List Int)} (h : s = [[0, 1], [2, 3, 4]] ∨ s = [[0, 2, 4], [1, 3]]) : ∀ r ∈ s, ∀ x ∈ r, In64 x := by
  rcases h with rfl | rfl <;> (intro r hr x hx; simp at hr; rcases hr with rfl | rfl <;> (simp at hx; unfold In64; omega))
theorem small_sz {s : List (List Int)} (h : s = [[0, 1], [2, 3, 4]] ∨ s = [[0, 2, 4], [1, 3]]) : SzS [] s := by
  rcases h with rfl | rfl <;> exact ⟨by simp, by simp, by intro r hr; simp at hr; rcases hr with rfl | rfl <;> simp⟩
set_option maxRecDepth 100000 in
set_option maxHeartbeats 8000000 in
theorem l18alive_any {w : World} :
    Calls Try.prog 7 #[] w fun e w' => e = .returned (.bool true) ∧ Fr [] w w' := by
  obtain ⟨w1, e1, hF1, hB1, hs1⟩ := one_new w #[.int .u64 0] 25
  have E1 := Lib.hid e1; have HF := Lib.hid hF1; have HB := Lib.hid hB1
  clear hF1 hB1 hs1 e1
  go_enter Try.func7, Try.ntmps7
  go_upto_region 2 with fail
  rw [E1.out]
  clear E1
  have x0 := HB.out.cell 0
  simp only [List.getElem?_toArray, List.getElem?_cons_zero] at x0
  go_wp2_with (refine wpList_load_row_w rfl 25 (.tmp 1) rfl w.heap.size rfl 25 _ _ HB.out Try.underlying25 rfl (by kernel_rfl) ?_)
  refine (shRun_any (w := w1) 0 5 2).mono ?_
  rintro e w2 ⟨v1, rfl, hR, hF⟩
  rw [al_run] at hR
  obtain ⟨a1, c1, rfl⟩ := hR.shape
  simp only [List.length_cons, List.length_nil, Nat.reduceAdd] at hR ⊢
  have HR1 := Lib.hid hR.irows
  have HF := Lib.hid (HF.out.trans hF); have HB := Lib.hid (HB.out.keep hF)
  clear hR hF
  have x0 := HB.out.cell 0
  simp only [List.getElem?_toArray, List.getElem?_cons_zero] at x0
  obtain ⟨w3, e3, hL, hF3⟩ := lit2 w2 [0, 1] [2, 3, 4] (by simp) (by simp)
  simp only [List.map_cons, List.map_nil, List.length_cons, List.length_nil, Nat.reduceAdd] at e3
  have E3 := Lib.hid e3; have HL := Lib.hid hL
  have HF := Lib.hid (HF.out.trans hF3); have HB := Lib.hid (HB.out.keep hF3)
  have HR1 := Lib.hid (HR1.out.keep hF3)
  clear e3 hL hF3 x0
  go_wp2_with fail
  rw [E3.out]
  refine (l18same_any HR1.out HL.out).mono ?_
  rintro e w4 ⟨rfl, hF⟩
  have HF := Lib.hid (HF.out.trans hF); have HB := Lib.hid (HB.out.keep hF)
  clear hF E3 HL HR1
  have hbb : (([[0, 1], [2, 3, 4]] : List (List Int)) == [[0, 1], [2, 3, 4]]) = true := by rfl
  rw [hbb]
  clear hbb
  have x0 := HB.out.cell 0
  simp only [List.getElem?_toArray, List.getElem?_cons_zero] at x0
  go_wp2_with (refine wpList_load_row_w rfl 25 (.tmp 1) rfl w.heap.size rfl 25 _ _ HB.out Try.underlying25 rfl (by kernel_rfl) ?_)
  refine (shSpread_any (w := w4) 0 5 2).mono ?_
  rintro e w5 ⟨v2, rfl, hR, hF⟩
  rw [al_spr] at hR
  obtain ⟨a2, c2, rfl⟩ := hR.shape
  simp only [List.length_cons, List.length_nil, Nat.reduceAdd] at hR ⊢
  have HR2 := Lib.hid hR.irows
  have HF := Lib.hid (HF.out.trans hF); have HB := Lib.hid (HB.out.keep hF)
  clear hR hF x0
  obtain ⟨w6, e6, hL, hF6⟩ := lit2 w5 [0, 2, 4] [1, 3] (by simp) (by simp)
  simp only [List.map_cons, List.map_nil, List.length_cons, List.length_nil, Nat.reduceAdd] at e6
  have E6 := Lib.hid e6; have HL := Lib.hid hL
  have HF := Lib.hid (HF.out.trans hF6); have HB := Lib.hid (HB.out.keep hF6)
  have HR2 := Lib.hid (HR2.out.keep hF6)
  clear e6 hL hF6
  go_wp2_with fail
  rw [E6.out]
  refine (l18same_any HR2.out HL.out).mono ?_
  rintro e w7 ⟨rfl, hF⟩
  have HF := Lib.hid (HF.out.trans hF); have HB := Lib.hid (HB.out.keep hF)
  clear hF E6 HL HR2
  have hbb : (([[0, 2, 4], [1, 3]] : List (List Int)) == [[0, 2, 4], [1, 3]]) = true := by rfl
  rw [hbb]
  clear hbb
  have x0 := HB.out.cell 0
  simp only [List.getElem?_toArray, List.getElem?_cons_zero] at x0
  go_wp2_with (refine wpList_load_row_w rfl 25 (.tmp 1) rfl w.heap.size rfl 25 _ _ HB.out Try.underlying25 rfl (by kernel_rfl) ?_)
  refine (shRandom_any (w := w7) 0 5 2).mono ?_
  rintro e w8 ⟨v3, rfl, hR, hF⟩
  obtain ⟨a3, c3, rfl⟩ := hR.shape
  rw [al_rnd]
  have HF := Lib.hid (HF.out.trans hF); have HB := Lib.hid (HB.out.keep hF)
  clear hR hF x0
  go_wp2_with fail
  refine (shOf_any (w := w8) 2 7 49 2).mono ?_
  rintro e w9 ⟨v4, rfl, hR, hF⟩
  rw [al_no] at hR
  obtain ⟨a4, c4, rfl⟩ := hR.shape
  simp only [List.length_nil]
  have HF := Lib.hid (HF.out.trans hF); have HB := Lib.hid (HB.out.keep hF)
  clear hR hF
  have x0 := HB.out.cell 0
  simp only [List.getElem?_toArray, List.getElem?_cons_zero] at x0
  go_wp2_with (refine wpList_load_row_w rfl 25 (.tmp 1) rfl w.heap.size rfl 25 _ _ HB.out Try.underlying25 rfl (by kernel_rfl) ?_)
  refine (shRun_any (w := w9) 0 5 2).mono ?_
  rintro e w10 ⟨v5, rfl, hR, hF⟩
  rw [al_run] at hR
  obtain ⟨a5, c5, rfl⟩ := hR.shape
  simp only [List.length_cons, List.length_nil, Nat.reduceAdd] at hR ⊢
  have HR5 := Lib.hid hR.irows
  have HF := Lib.hid (HF.out.trans hF); have HB := Lib.hid (HB.out.keep hF)
  clear hR hF x0
  go_wp2_with fail
  refine (shCovers_any HR5.out 5 (by simp [sumLen])).mono ?_
  rintro e w11 ⟨rfl, hF⟩
  rw [al_cov]
  have HF := Lib.hid (HF.out.trans hF); have HB := Lib.hid (HB.out.keep hF)
  clear hF HR5
  obtain ⟨w12, e12, hL, hF12⟩ := lit1 w11 [0] (by simp)
  simp only [List.map_cons, List.map_nil, List.length_cons, List.length_nil, Nat.reduceAdd] at e12
  have E12 := Lib.hid e12; have HL := Lib.hid hL
  have HF := Lib.hid (HF.out.trans hF12); have HB := Lib.hid (HB.out.keep hF12)
  clear e12 hL hF12
  go_wp2_with fail
  rw [E12.out]
  refine (shCovers_any HL.out 2 (by simp [sumLen])).mono ?_
  rintro e w13 ⟨rfl, hF⟩
  rw [al_cov2]
  have HF := Lib.hid (HF.out.trans hF); have HB := Lib.hid (HB.out.keep hF)
  clear hF E12 HL
  have x0 := HB.out.cell 0
  simp only [List.getElem?_toArray, List.getElem?_cons_zero] at x0
  go_wp2_with (refine wpList_load_row_w rfl 25 (.tmp 1) rfl w.heap.size rfl 25 _ _ HB.out Try.underlying25 rfl (by kernel_rfl) ?_)
  refine (shSpread_any (w := w13) 0 5 2).mono ?_
  rintro e w14 ⟨v6, rfl, hR, hF⟩
  rw [al_spr] at hR
  obtain ⟨a6, c6, rfl⟩ := hR.shape
  simp only [List.length_cons, List.length_nil, Nat.reduceAdd] at hR ⊢
  have HR6 := Lib.hid hR.irows
  have HF := Lib.hid (HF.out.trans hF); have HB := Lib.hid (HB.out.keep hF)
  clear hR hF x0
  go_wp2_with fail
  refine (shBurst_any HR6.out (small_in (.inr rfl)) (small_sz (.inr rfl)) 5).mono ?_
  rintro e w15 ⟨rfl, hF⟩
  rw [al_b1]
  have HF := Lib.hid (HF.out.trans hF); have HB := Lib.hid (HB.out.keep hF)
  clear hF HR6
  have x0 := HB.out.cell 0
  simp only [List.getElem?_toArray, List.getElem?_cons_zero] at x0
  go_wp2_with (refine wpList_load_row_w rfl 25 (.tmp 1) rfl w.heap.size rfl 25 _ _ HB.out Try.underlying25 rfl (by kernel_rfl) ?_)
  refine (shRun_any (w := w15) 0 5 2).mono ?_
  rintro e w16 ⟨v7, rfl, hR, hF⟩
  rw [al_run] at hR
  obtain ⟨a7, c7, rfl⟩ := hR.shape
  simp only [List.length_cons, List.length_nil, Nat.reduceAdd] at hR ⊢
  have HR7 := Lib.hid hR.irows
  have HF := Lib.hid (HF.out.trans hF); have HB := Lib.hid (HB.out.keep hF)
  clear hR hF x0
  go_wp2_with fail
  refine (shBurst_any HR7.out (small_in (.inl rfl)) (small_sz (.inl rfl)) 5).mono ?_
  rintro e w17 ⟨rfl, hF⟩
  rw [al_b2]
  have HF := Lib.hid (HF.out.trans hF); have HB := Lib.hid (HB.out.keep hF)
  clear hF HR7
  go_wp2_with fail
  refine (shNext_any (w := w17) 0).mono ?_
  rintro e w18 ⟨rfl, hF⟩
  rw [al_next]
  have HF := Lib.hid (HF.out.trans hF); have HB := Lib.hid (HB.out.keep hF)
  clear hF
  go_wp2_with fail
  go_ret
  exact ⟨rfl, HF.out⟩
end Go.Proofs.Ytngfenjekgdfbaa
