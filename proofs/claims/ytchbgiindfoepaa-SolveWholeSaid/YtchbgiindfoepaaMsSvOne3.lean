/- The walk of solve.One, its bytes in a block of their own (printed by gen_one.py). -/
import Derived.Test.YtchbgiindfoepaaMs35
namespace Go.Proofs.Ytchbgiindfoepaa
open Go.RowKit

set_option maxRecDepth 100000 in
set_option maxHeartbeats 8000000 in
theorem svOne_own {w : World} {v : Value} {r : Rep_} {gf : Nat} {lb : Array Value} {K : UInt16 → Option (List UInt8)} (h : RpV w v r) (hs : r.bt.body.length ≤ 1099511627776) (hK : Knows w gf lb K) (ss : UInt32) :
    Calls Try.prog 43 #[v, .int .u32 (ss.toNat : Nat), .func (.func gf) #[] lb] w fun e w' => ∃ v', e = .returned (.tuple #[.int .u16 ((oneL K ss r).1.toNat : Nat), v', .int .i64 (oneL K ss r).2.2]) ∧ OwnB w' w.heap.size v' (oneL K ss r).2.1 ∧ Fr [] w w' := by
  obtain ⟨vb, rfl, hb⟩ := h
  obtain ⟨a, n, c, rfl⟩ := Sl.isSlice hb
  obtain ⟨w1, e1, hF1, hB1, hs1⟩ := one_new w (rpc r (.slice a n c)) 58
  have HF := Lib.hid hF1; have HR := Lib.hid hB1; have E1 := Lib.hid e1; have HK := Lib.hid (hK.keep hF1); have HBD := Lib.hid (Sl.keep hb hF1)
  clear hF1 hB1 e1 hs1 hb hK
  go_enter Try.func43, Try.ntmps43
  go_upto_region 1 with fail
  rw [E1.out]
  clear E1
  go_wp2_with (refine wpList_load_row_w rfl 58 (.tmp 3) rfl w.heap.size rfl 58 _ _ HR.out Try.underlying58 rfl (by kernel_rfl) ?_)
  refine (svRest_any (r := r) ⟨_, rfl, HBD.out⟩ hs HK.out ss).mono ?_
  rintro e w2 ⟨vx, vm, rfl, ⟨vz, rfl, hz⟩, hm, hF⟩
  have hxs := restL_small (K := K) (ss := ss) (r := r) hs
  have HRE0 : Hid (restL K ss r = ((restL K ss r).1, (restL K ss r).2)) := Lib.hid rfl
  have HXS := Lib.hid hxs
  obtain ⟨x, ms, hRE⟩ : ∃ x ms, restL K ss r = (x, ms) := ⟨_, _, rfl⟩
  rw [hRE] at hz hm HXS ⊢
  clear hxs HRE0
  obtain ⟨az, nz, cz, rfl⟩ := Sl.isSlice hz
  obtain ⟨am, cm, rfl⟩ : ∃ a c, vm = .slice a ms.length c := by
    have := Sl.shape hm
    simpa using this
  have HZ := Lib.hid hz; have HM := Lib.hid hm; have HRE := Lib.hid hRE
  have HF := Lib.hid (HF.out.trans hF)
  have HR := Lib.hid (HR.out.keep hF)
  clear hF hz hm hRE HK HBD
  go_upto_region 2 with (refine wpList_store_row rfl 28 (.tmp 9) (.tmp 18) rfl w2.heap.size rfl _ _ rfl 28 (Box.new w2 28 (bc Bt.zero (.slice none 0 0))) (by kernel_rfl) rfl (by simp [bc, Value.oneCell']) ?_; intro w3 hY hG; have hFn := ((Fr.refl [] w2).alloc _).step hG (by simp); have HFn := Lib.hid hFn; have HY := Lib.hid hY; clear hG hFn hY)
  have hF := HFn.out
  have HF := Lib.hid (HF.out.trans hF)
  have HR := Lib.hid (HR.out.keep hF)
  have HZ := Lib.hid (Sl.keep HZ.out hF)
  have HM := Lib.hid (Sl.keep HM.out hF)
  have HX := HY
  clear hF HFn HY
  generalize hgx : w2.heap.size = gx at *
  clear hgx
  have x9 := HR.out.cell 9; have x10 := HR.out.cell 10
  simp only [rpc, List.getElem?_toArray, List.getElem?_cons_succ, List.getElem?_cons_zero] at x9 x10
  by_cases hz : r.m.hi = 0 ∧ r.m.lo = 0
  · have t1 : (((r.m.hi.toNat : Nat) : Int) == 0) = true := by rw [bv_beq0, hz.1]; rfl
    have t2 : (((r.m.lo.toNat : Nat) : Int) == 0) = true := by rw [bv_beq0, hz.2]; rfl
    have HL : Hid (oneL K ss r = (0, [], 30)) := Lib.hid (by unfold oneL; rw [if_pos hz])
    clear hz
    go_upto_region 3 with fail
    clear t1 t2 x9 x10
    go_wp2_with fail
    exact bodyPost_ret (res_tmp3 rfl _ _ _) rfl ⟨.slice none 0 0, by rw [HL.out]; rfl, by rw [HL.out]; exact ⟨by simp, .inl ⟨rfl, rfl⟩⟩, HF.out⟩
  have HOL : Hid (oneL K ss r = oneF ss x ms) := Lib.hid (oneL_ne hz HRE.out)
  have hor : (((r.m.hi.toNat : Nat) : Int) == 0) = false ∨ (((r.m.hi.toNat : Nat) : Int) == 0) = true ∧ (((r.m.lo.toNat : Nat) : Int) == 0) = false := by
    rw [bv_beq0, bv_beq0]
    by_cases h1 : r.m.hi = 0
    · right
      exact ⟨by simpa using h1, by simpa using fun h2 => hz ⟨h1, h2⟩⟩
    · left
      simpa using h1
  have HOR := Lib.hid hor
  clear hz hor
  cases ms with
  | nil =>
    have HL : Hid (oneL K ss r = (0, [], 40)) := Lib.hid (HOL.out.trans rfl)
    simp only [List.length_nil] at HM ⊢
    rcases HOR.out with t1 | ⟨t1, t2⟩
    · go_upto_region 5 with fail
      clear t1 x9 x10
      go_wp2_with fail
      exact bodyPost_ret (res_tmp3 rfl _ _ _) rfl ⟨.slice none 0 0, by rw [HL.out]; rfl, by rw [HL.out]; exact ⟨by simp, .inl ⟨rfl, rfl⟩⟩, HF.out⟩
    · go_upto_region 5 with fail
      clear t1 t2 x9 x10
      go_wp2_with fail
      exact bodyPost_ret (res_tmp3 rfl _ _ _) rfl ⟨.slice none 0 0, by rw [HL.out]; rfl, by rw [HL.out]; exact ⟨by simp, .inl ⟨rfl, rfl⟩⟩, HF.out⟩
  | cons n rest =>
    cases rest with
    | cons m rest =>
      have HL : Hid (oneL K ss r = (0, [], 41)) := Lib.hid (HOL.out.trans rfl)
      simp only [List.length_cons] at HM ⊢
      rcases HOR.out with t1 | ⟨t1, t2⟩
      · go_upto_region 7 with fail
        clear t1 x9 x10
        go_wp2_with fail
        exact bodyPost_ret (res_tmp3 rfl _ _ _) rfl ⟨.slice none 0 0, by rw [HL.out]; rfl, by rw [HL.out]; exact ⟨by simp, .inl ⟨rfl, rfl⟩⟩, HF.out⟩
      · go_upto_region 7 with fail
        clear t1 t2 x9 x10
        go_wp2_with fail
        exact bodyPost_ret (res_tmp3 rfl _ _ _) rfl ⟨.slice none 0 0, by rw [HL.out]; rfl, by rw [HL.out]; exact ⟨by simp, .inl ⟨rfl, rfl⟩⟩, HF.out⟩
    | nil =>
      obtain ⟨b, o, ea, -, hc⟩ := Sl.at_ HM.out (k := 0) (by simp)
      subst ea
      have HC : Hid (w3.cell? ⟨b, o, none⟩ = some (.int .u16 (n.toNat : Nat))) := Lib.hid (by have := hc 0 _ rfl; simpa [W16] using this)
      clear hc
      simp only [List.length_cons, List.length_nil, Nat.zero_add] at HM ⊢
      have HW0 : Hid (Fr [] w w3) := Lib.hid HF.out
      cases hpk : x.pack n ss with
      | ok l0 =>
        have HL : Hid (oneL K ss r = (n, l0, 0)) := Lib.hid (HOL.out.trans (oneF_ok hpk))
        have HPK := Lib.hid hpk
        clear hpk
        rcases HOR.out with t1 | ⟨t1, t2⟩
        · go_upto_region 8 with fail
          clear t1 x9 x10
          refine wp_region_T (fun w' => Fr [] w3.drew w') [] 11 #[false, false, false, false, false, false, false, false, false, false, false] (by kernel_rfl) rfl rfl ?_
          have hF := (Fr.refl [] w3).drew
          have HF := Lib.hid (HF.out.trans hF)
          have HR := Lib.hid (HR.out.keep hF)
          have HZ := Lib.hid (Sl.keep HZ.out hF)
          have HM := Lib.hid (Sl.keep HM.out hF)
          have HX := Lib.hid (HX.out.keep hF)
          have HC := Lib.hid (hF.cellSome HC.out (by simp))
          clear hF
          have HSS : Hid (Fr [] w3.drew w3.drew) := Lib.hid (Fr.refl _ _)
          generalize w3.drew = wd at *
          refine wpAnyT_load (i := 0) (v := ?_) rfl (by kernel_rfl) (by kernel_rfl) (by kernel_rfl) (by kernel_rfl) (by kernel_rfl) (fun _ _ _ h => h) HSS.out (by rfl) ?_ ?_
          rotate_left
          · intro w' hSw; refine run_load_row 28 (.tmp 9) ?_ gx ?_ 28 _ _ (HX.out.keep hSw) Try.underlying28 rfl (by kernel_rfl) <;> rfl
          simp only [Act.put, List.getElem_toArray, List.getElem_cons_zero, List.getElem_cons_succ, List.setIfInBounds_toArray, List.set_cons_zero, List.set_cons_succ]
          refine wpAnyT_load (i := 1) (v := ?_) rfl (by kernel_rfl) (by kernel_rfl) (by kernel_rfl) (by kernel_rfl) (by kernel_rfl) (fun _ _ _ h => h) HSS.out (by rfl) ?_ ?_
          rotate_left
          · intro w hSw; skip; go_simp; try with_reducible rfl
          simp only [Act.put, List.getElem_toArray, List.getElem_cons_zero, List.getElem_cons_succ, List.setIfInBounds_toArray, List.set_cons_zero, List.set_cons_succ]
          refine wpAnyT_load (i := 2) (v := ?_) rfl (by kernel_rfl) (by kernel_rfl) (by kernel_rfl) (by kernel_rfl) (by kernel_rfl) (fun _ _ _ h => h) HSS.out (by rfl) ?_ ?_
          rotate_left
          · intro w hSw; skip; go_simp; try with_reducible rfl
          simp only [Act.put, List.getElem_toArray, List.getElem_cons_zero, List.getElem_cons_succ, List.setIfInBounds_toArray, List.set_cons_zero, List.set_cons_succ]
          refine wpAnyT_load (i := 3) (v := ?_) rfl (by kernel_rfl) (by kernel_rfl) (by kernel_rfl) (by kernel_rfl) (by kernel_rfl) (fun _ _ _ h => h) HSS.out (by rfl) ?_ ?_
          rotate_left
          · intro w hSw; have d0 := hSw.cellSome HC.out (by simp); go_simp; try with_reducible rfl
          simp only [Act.put, List.getElem_toArray, List.getElem_cons_zero, List.getElem_cons_succ, List.setIfInBounds_toArray, List.set_cons_zero, List.set_cons_succ]
          refine wpAnyT_load (i := 4) (v := ?_) rfl (by kernel_rfl) (by kernel_rfl) (by kernel_rfl) (by kernel_rfl) (by kernel_rfl) (fun _ _ _ h => h) HSS.out (by rfl) ?_ ?_
          rotate_left
          · intro w hSw; skip; go_simp; try with_reducible rfl
          simp only [Act.put, List.getElem_toArray, List.getElem_cons_zero, List.getElem_cons_succ, List.setIfInBounds_toArray, List.set_cons_zero, List.set_cons_succ]
          refine wpAnyT_one (i := 5) (by kernel_rfl) rfl (fun K hK => ?_)
          rw [if_pos (by rfl)]
          go_simp
          refine (impPacket_any (x := x) ⟨_, rfl, HZ.out⟩ HXS.out n ss).mono ?_
          rintro e w5 (⟨l, v5, hp2, rfl, hO, hF⟩ | ⟨hp2, rfl, hF⟩)
          rotate_left
          · rw [HPK.out] at hp2; cases hp2
          obtain rfl : l0 = l := by rw [HPK.out] at hp2; cases hp2; rfl
          obtain ⟨a9, n9, c9, rfl⟩ := hO.isSlice
          have HO9 : Hid (OwnB w5 w.heap.size (.slice a9 n9 c9) l0) := Lib.hid (hO.mono (by have h1 := HF.out.size; have h2 := HSS.out.size; omega))
          have HSS := Lib.hid (HSS.out.trans hF)
          clear hp2 hO hF
          go_simp
          refine hK.out _ _ (fun _ => HSS.out) ?_
          clear hK K
          simp only [Act.put, List.getElem_toArray, List.getElem_cons_zero, List.getElem_cons_succ, List.setIfInBounds_toArray, List.set_cons_zero, List.set_cons_succ]
          refine wpAnyT_load (i := 6) (v := ?_) rfl (by kernel_rfl) (by kernel_rfl) (by kernel_rfl) (by kernel_rfl) (by kernel_rfl) (fun _ _ _ h => h) HSS.out (by rfl) ?_ ?_
          rotate_left
          · intro w hSw; skip; go_simp; try with_reducible rfl
          simp only [Act.put, List.getElem_toArray, List.getElem_cons_zero, List.getElem_cons_succ, List.setIfInBounds_toArray, List.set_cons_zero, List.set_cons_succ]
          refine wpAnyT_load (i := 7) (v := ?_) rfl (by kernel_rfl) (by kernel_rfl) (by kernel_rfl) (by kernel_rfl) (by kernel_rfl) (fun _ _ _ h => h) HSS.out (by rfl) ?_ ?_
          rotate_left
          · intro w hSw; skip; go_simp; try with_reducible rfl
          simp only [Act.put, List.getElem_toArray, List.getElem_cons_zero, List.getElem_cons_succ, List.setIfInBounds_toArray, List.set_cons_zero, List.set_cons_succ]
          refine wpAnyT_load (i := 8) (v := ?_) rfl (by kernel_rfl) (by kernel_rfl) (by kernel_rfl) (by kernel_rfl) (by kernel_rfl) (fun _ _ _ h => h) HSS.out (by rfl) ?_ ?_
          rotate_left
          · intro w hSw; skip; go_simp; try with_reducible rfl
          simp only [Act.put, List.getElem_toArray, List.getElem_cons_zero, List.getElem_cons_succ, List.setIfInBounds_toArray, List.set_cons_zero, List.set_cons_succ]
          refine wpAnyT_load (i := 9) (v := ?_) rfl (by kernel_rfl) (by kernel_rfl) (by kernel_rfl) (by kernel_rfl) (by kernel_rfl) (fun _ _ _ h => h) HSS.out (by rfl) ?_ ?_
          rotate_left
          · intro w hSw; skip; go_simp; try with_reducible rfl
          simp only [Act.put, List.getElem_toArray, List.getElem_cons_zero, List.getElem_cons_succ, List.setIfInBounds_toArray, List.set_cons_zero, List.set_cons_succ]
          refine wpAnyT_load (i := 10) (v := ?_) rfl (by kernel_rfl) (by kernel_rfl) (by kernel_rfl) (by kernel_rfl) (by kernel_rfl) (fun _ _ _ h => h) HSS.out (by rfl) ?_ ?_
          rotate_left
          · intro w hSw; skip; go_simp; try with_reducible rfl
          simp only [Act.put, List.getElem_toArray, List.getElem_cons_zero, List.getElem_cons_succ, List.setIfInBounds_toArray, List.set_cons_zero, List.set_cons_succ]
          refine wpAnyT_done (by kernel_rfl) ?_ _
          have d0 := HSS.out.cellSome HC.out (by simp)
          go_wp2_with fail
          exact bodyPost_ret (res_tmp3 rfl _ _ _) rfl ⟨.slice a9 n9 c9, by rw [HL.out]; rfl, by rw [HL.out]; exact HO9.out, HF.out.trans HSS.out⟩
        · go_upto_region 8 with fail
          clear t1 t2 x9 x10
          refine wp_region_T (fun w' => Fr [] w3.drew w') [] 11 #[false, false, false, false, false, false, false, false, false, false, false] (by kernel_rfl) rfl rfl ?_
          have hF := (Fr.refl [] w3).drew
          have HF := Lib.hid (HF.out.trans hF)
          have HR := Lib.hid (HR.out.keep hF)
          have HZ := Lib.hid (Sl.keep HZ.out hF)
          have HM := Lib.hid (Sl.keep HM.out hF)
          have HX := Lib.hid (HX.out.keep hF)
          have HC := Lib.hid (hF.cellSome HC.out (by simp))
          clear hF
          have HSS : Hid (Fr [] w3.drew w3.drew) := Lib.hid (Fr.refl _ _)
          generalize w3.drew = wd at *
          refine wpAnyT_load (i := 0) (v := ?_) rfl (by kernel_rfl) (by kernel_rfl) (by kernel_rfl) (by kernel_rfl) (by kernel_rfl) (fun _ _ _ h => h) HSS.out (by rfl) ?_ ?_
          rotate_left
          · intro w' hSw; refine run_load_row 28 (.tmp 9) ?_ gx ?_ 28 _ _ (HX.out.keep hSw) Try.underlying28 rfl (by kernel_rfl) <;> rfl
          simp only [Act.put, List.getElem_toArray, List.getElem_cons_zero, List.getElem_cons_succ, List.setIfInBounds_toArray, List.set_cons_zero, List.set_cons_succ]
          refine wpAnyT_load (i := 1) (v := ?_) rfl (by kernel_rfl) (by kernel_rfl) (by kernel_rfl) (by kernel_rfl) (by kernel_rfl) (fun _ _ _ h => h) HSS.out (by rfl) ?_ ?_
          rotate_left
          · intro w hSw; skip; go_simp; try with_reducible rfl
          simp only [Act.put, List.getElem_toArray, List.getElem_cons_zero, List.getElem_cons_succ, List.setIfInBounds_toArray, List.set_cons_zero, List.set_cons_succ]
          refine wpAnyT_load (i := 2) (v := ?_) rfl (by kernel_rfl) (by kernel_rfl) (by kernel_rfl) (by kernel_rfl) (by kernel_rfl) (fun _ _ _ h => h) HSS.out (by rfl) ?_ ?_
          rotate_left
          · intro w hSw; skip; go_simp; try with_reducible rfl
          simp only [Act.put, List.getElem_toArray, List.getElem_cons_zero, List.getElem_cons_succ, List.setIfInBounds_toArray, List.set_cons_zero, List.set_cons_succ]
          refine wpAnyT_load (i := 3) (v := ?_) rfl (by kernel_rfl) (by kernel_rfl) (by kernel_rfl) (by kernel_rfl) (by kernel_rfl) (fun _ _ _ h => h) HSS.out (by rfl) ?_ ?_
          rotate_left
          · intro w hSw; have d0 := hSw.cellSome HC.out (by simp); go_simp; try with_reducible rfl
          simp only [Act.put, List.getElem_toArray, List.getElem_cons_zero, List.getElem_cons_succ, List.setIfInBounds_toArray, List.set_cons_zero, List.set_cons_succ]
          refine wpAnyT_load (i := 4) (v := ?_) rfl (by kernel_rfl) (by kernel_rfl) (by kernel_rfl) (by kernel_rfl) (by kernel_rfl) (fun _ _ _ h => h) HSS.out (by rfl) ?_ ?_
          rotate_left
          · intro w hSw; skip; go_simp; try with_reducible rfl
          simp only [Act.put, List.getElem_toArray, List.getElem_cons_zero, List.getElem_cons_succ, List.setIfInBounds_toArray, List.set_cons_zero, List.set_cons_succ]
          refine wpAnyT_one (i := 5) (by kernel_rfl) rfl (fun K hK => ?_)
          rw [if_pos (by rfl)]
          go_simp
          refine (impPacket_any (x := x) ⟨_, rfl, HZ.out⟩ HXS.out n ss).mono ?_
          rintro e w5 (⟨l, v5, hp2, rfl, hO, hF⟩ | ⟨hp2, rfl, hF⟩)
          rotate_left
          · rw [HPK.out] at hp2; cases hp2
          obtain rfl : l0 = l := by rw [HPK.out] at hp2; cases hp2; rfl
          obtain ⟨a9, n9, c9, rfl⟩ := hO.isSlice
          have HO9 : Hid (OwnB w5 w.heap.size (.slice a9 n9 c9) l0) := Lib.hid (hO.mono (by have h1 := HF.out.size; have h2 := HSS.out.size; omega))
          have HSS := Lib.hid (HSS.out.trans hF)
          clear hp2 hO hF
          go_simp
          refine hK.out _ _ (fun _ => HSS.out) ?_
          clear hK K
          simp only [Act.put, List.getElem_toArray, List.getElem_cons_zero, List.getElem_cons_succ, List.setIfInBounds_toArray, List.set_cons_zero, List.set_cons_succ]
          refine wpAnyT_load (i := 6) (v := ?_) rfl (by kernel_rfl) (by kernel_rfl) (by kernel_rfl) (by kernel_rfl) (by kernel_rfl) (fun _ _ _ h => h) HSS.out (by rfl) ?_ ?_
          rotate_left
          · intro w hSw; skip; go_simp; try with_reducible rfl
          simp only [Act.put, List.getElem_toArray, List.getElem_cons_zero, List.getElem_cons_succ, List.setIfInBounds_toArray, List.set_cons_zero, List.set_cons_succ]
          refine wpAnyT_load (i := 7) (v := ?_) rfl (by kernel_rfl) (by kernel_rfl) (by kernel_rfl) (by kernel_rfl) (by kernel_rfl) (fun _ _ _ h => h) HSS.out (by rfl) ?_ ?_
          rotate_left
          · intro w hSw; skip; go_simp; try with_reducible rfl
          simp only [Act.put, List.getElem_toArray, List.getElem_cons_zero, List.getElem_cons_succ, List.setIfInBounds_toArray, List.set_cons_zero, List.set_cons_succ]
          refine wpAnyT_load (i := 8) (v := ?_) rfl (by kernel_rfl) (by kernel_rfl) (by kernel_rfl) (by kernel_rfl) (by kernel_rfl) (fun _ _ _ h => h) HSS.out (by rfl) ?_ ?_
          rotate_left
          · intro w hSw; skip; go_simp; try with_reducible rfl
          simp only [Act.put, List.getElem_toArray, List.getElem_cons_zero, List.getElem_cons_succ, List.setIfInBounds_toArray, List.set_cons_zero, List.set_cons_succ]
          refine wpAnyT_load (i := 9) (v := ?_) rfl (by kernel_rfl) (by kernel_rfl) (by kernel_rfl) (by kernel_rfl) (by kernel_rfl) (fun _ _ _ h => h) HSS.out (by rfl) ?_ ?_
          rotate_left
          · intro w hSw; skip; go_simp; try with_reducible rfl
          simp only [Act.put, List.getElem_toArray, List.getElem_cons_zero, List.getElem_cons_succ, List.setIfInBounds_toArray, List.set_cons_zero, List.set_cons_succ]
          refine wpAnyT_load (i := 10) (v := ?_) rfl (by kernel_rfl) (by kernel_rfl) (by kernel_rfl) (by kernel_rfl) (by kernel_rfl) (fun _ _ _ h => h) HSS.out (by rfl) ?_ ?_
          rotate_left
          · intro w hSw; skip; go_simp; try with_reducible rfl
          simp only [Act.put, List.getElem_toArray, List.getElem_cons_zero, List.getElem_cons_succ, List.setIfInBounds_toArray, List.set_cons_zero, List.set_cons_succ]
          refine wpAnyT_done (by kernel_rfl) ?_ _
          have d0 := HSS.out.cellSome HC.out (by simp)
          go_wp2_with fail
          exact bodyPost_ret (res_tmp3 rfl _ _ _) rfl ⟨.slice a9 n9 c9, by rw [HL.out]; rfl, by rw [HL.out]; exact HO9.out, HF.out.trans HSS.out⟩
      | error k0 =>
        have HL : Hid (oneL K ss r = (0, [], 42)) := Lib.hid (HOL.out.trans (oneF_err hpk))
        have HPK := Lib.hid hpk
        clear hpk
        rcases HOR.out with t1 | ⟨t1, t2⟩
        · go_upto_region 8 with fail
          clear t1 x9 x10
          refine wp_region_T (fun w' => Fr [] w3.drew w') [] 11 #[false, false, false, false, false, false, false, false, false, false, false] (by kernel_rfl) rfl rfl ?_
          have hF := (Fr.refl [] w3).drew
          have HF := Lib.hid (HF.out.trans hF)
          have HR := Lib.hid (HR.out.keep hF)
          have HZ := Lib.hid (Sl.keep HZ.out hF)
          have HM := Lib.hid (Sl.keep HM.out hF)
          have HX := Lib.hid (HX.out.keep hF)
          have HC := Lib.hid (hF.cellSome HC.out (by simp))
          clear hF
          have HSS : Hid (Fr [] w3.drew w3.drew) := Lib.hid (Fr.refl _ _)
          generalize w3.drew = wd at *
          refine wpAnyT_load (i := 0) (v := ?_) rfl (by kernel_rfl) (by kernel_rfl) (by kernel_rfl) (by kernel_rfl) (by kernel_rfl) (fun _ _ _ h => h) HSS.out (by rfl) ?_ ?_
          rotate_left
          · intro w' hSw; refine run_load_row 28 (.tmp 9) ?_ gx ?_ 28 _ _ (HX.out.keep hSw) Try.underlying28 rfl (by kernel_rfl) <;> rfl
          simp only [Act.put, List.getElem_toArray, List.getElem_cons_zero, List.getElem_cons_succ, List.setIfInBounds_toArray, List.set_cons_zero, List.set_cons_succ]
          refine wpAnyT_load (i := 1) (v := ?_) rfl (by kernel_rfl) (by kernel_rfl) (by kernel_rfl) (by kernel_rfl) (by kernel_rfl) (fun _ _ _ h => h) HSS.out (by rfl) ?_ ?_
          rotate_left
          · intro w hSw; skip; go_simp; try with_reducible rfl
          simp only [Act.put, List.getElem_toArray, List.getElem_cons_zero, List.getElem_cons_succ, List.setIfInBounds_toArray, List.set_cons_zero, List.set_cons_succ]
          refine wpAnyT_load (i := 2) (v := ?_) rfl (by kernel_rfl) (by kernel_rfl) (by kernel_rfl) (by kernel_rfl) (by kernel_rfl) (fun _ _ _ h => h) HSS.out (by rfl) ?_ ?_
          rotate_left
          · intro w hSw; skip; go_simp; try with_reducible rfl
          simp only [Act.put, List.getElem_toArray, List.getElem_cons_zero, List.getElem_cons_succ, List.setIfInBounds_toArray, List.set_cons_zero, List.set_cons_succ]
          refine wpAnyT_load (i := 3) (v := ?_) rfl (by kernel_rfl) (by kernel_rfl) (by kernel_rfl) (by kernel_rfl) (by kernel_rfl) (fun _ _ _ h => h) HSS.out (by rfl) ?_ ?_
          rotate_left
          · intro w hSw; have d0 := hSw.cellSome HC.out (by simp); go_simp; try with_reducible rfl
          simp only [Act.put, List.getElem_toArray, List.getElem_cons_zero, List.getElem_cons_succ, List.setIfInBounds_toArray, List.set_cons_zero, List.set_cons_succ]
          refine wpAnyT_load (i := 4) (v := ?_) rfl (by kernel_rfl) (by kernel_rfl) (by kernel_rfl) (by kernel_rfl) (by kernel_rfl) (fun _ _ _ h => h) HSS.out (by rfl) ?_ ?_
          rotate_left
          · intro w hSw; skip; go_simp; try with_reducible rfl
          simp only [Act.put, List.getElem_toArray, List.getElem_cons_zero, List.getElem_cons_succ, List.setIfInBounds_toArray, List.set_cons_zero, List.set_cons_succ]
          refine wpAnyT_one (i := 5) (by kernel_rfl) rfl (fun K hK => ?_)
          rw [if_pos (by rfl)]
          go_simp
          refine (impPacket_any (x := x) ⟨_, rfl, HZ.out⟩ HXS.out n ss).mono ?_
          rintro e w5 (⟨l, v5, hp2, rfl, hO, hF⟩ | ⟨hp2, rfl, hF⟩)
          · rw [HPK.out] at hp2; cases hp2
          have HSS := Lib.hid (HSS.out.trans hF)
          clear hp2 hF
          go_simp
          refine hK.out _ _ (fun _ => HSS.out) ?_
          clear hK K
          simp only [Act.put, List.getElem_toArray, List.getElem_cons_zero, List.getElem_cons_succ, List.setIfInBounds_toArray, List.set_cons_zero, List.set_cons_succ]
          refine wpAnyT_load (i := 6) (v := ?_) rfl (by kernel_rfl) (by kernel_rfl) (by kernel_rfl) (by kernel_rfl) (by kernel_rfl) (fun _ _ _ h => h) HSS.out (by rfl) ?_ ?_
          rotate_left
          · intro w hSw; skip; go_simp; try with_reducible rfl
          simp only [Act.put, List.getElem_toArray, List.getElem_cons_zero, List.getElem_cons_succ, List.setIfInBounds_toArray, List.set_cons_zero, List.set_cons_succ]
          refine wpAnyT_load (i := 7) (v := ?_) rfl (by kernel_rfl) (by kernel_rfl) (by kernel_rfl) (by kernel_rfl) (by kernel_rfl) (fun _ _ _ h => h) HSS.out (by rfl) ?_ ?_
          rotate_left
          · intro w hSw; skip; go_simp; try with_reducible rfl
          simp only [Act.put, List.getElem_toArray, List.getElem_cons_zero, List.getElem_cons_succ, List.setIfInBounds_toArray, List.set_cons_zero, List.set_cons_succ]
          refine wpAnyT_load (i := 8) (v := ?_) rfl (by kernel_rfl) (by kernel_rfl) (by kernel_rfl) (by kernel_rfl) (by kernel_rfl) (fun _ _ _ h => h) HSS.out (by rfl) ?_ ?_
          rotate_left
          · intro w hSw; skip; go_simp; try with_reducible rfl
          simp only [Act.put, List.getElem_toArray, List.getElem_cons_zero, List.getElem_cons_succ, List.setIfInBounds_toArray, List.set_cons_zero, List.set_cons_succ]
          refine wpAnyT_load (i := 9) (v := ?_) rfl (by kernel_rfl) (by kernel_rfl) (by kernel_rfl) (by kernel_rfl) (by kernel_rfl) (fun _ _ _ h => h) HSS.out (by rfl) ?_ ?_
          rotate_left
          · intro w hSw; skip; go_simp; try with_reducible rfl
          simp only [Act.put, List.getElem_toArray, List.getElem_cons_zero, List.getElem_cons_succ, List.setIfInBounds_toArray, List.set_cons_zero, List.set_cons_succ]
          refine wpAnyT_load (i := 10) (v := ?_) rfl (by kernel_rfl) (by kernel_rfl) (by kernel_rfl) (by kernel_rfl) (by kernel_rfl) (fun _ _ _ h => h) HSS.out (by rfl) ?_ ?_
          rotate_left
          · intro w hSw; skip; go_simp; try with_reducible rfl
          simp only [Act.put, List.getElem_toArray, List.getElem_cons_zero, List.getElem_cons_succ, List.setIfInBounds_toArray, List.set_cons_zero, List.set_cons_succ]
          refine wpAnyT_done (by kernel_rfl) ?_ _
          go_wp2_with fail
          exact bodyPost_ret (res_tmp3 rfl _ _ _) rfl ⟨.slice none 0 0, by rw [HL.out]; rfl, by rw [HL.out]; exact ⟨by simp, .inl ⟨rfl, rfl⟩⟩, HF.out.trans HSS.out⟩
        · go_upto_region 8 with fail
          clear t1 t2 x9 x10
          refine wp_region_T (fun w' => Fr [] w3.drew w') [] 11 #[false, false, false, false, false, false, false, false, false, false, false] (by kernel_rfl) rfl rfl ?_
          have hF := (Fr.refl [] w3).drew
          have HF := Lib.hid (HF.out.trans hF)
          have HR := Lib.hid (HR.out.keep hF)
          have HZ := Lib.hid (Sl.keep HZ.out hF)
          have HM := Lib.hid (Sl.keep HM.out hF)
          have HX := Lib.hid (HX.out.keep hF)
          have HC := Lib.hid (hF.cellSome HC.out (by simp))
          clear hF
          have HSS : Hid (Fr [] w3.drew w3.drew) := Lib.hid (Fr.refl _ _)
          generalize w3.drew = wd at *
          refine wpAnyT_load (i := 0) (v := ?_) rfl (by kernel_rfl) (by kernel_rfl) (by kernel_rfl) (by kernel_rfl) (by kernel_rfl) (fun _ _ _ h => h) HSS.out (by rfl) ?_ ?_
          rotate_left
          · intro w' hSw; refine run_load_row 28 (.tmp 9) ?_ gx ?_ 28 _ _ (HX.out.keep hSw) Try.underlying28 rfl (by kernel_rfl) <;> rfl
          simp only [Act.put, List.getElem_toArray, List.getElem_cons_zero, List.getElem_cons_succ, List.setIfInBounds_toArray, List.set_cons_zero, List.set_cons_succ]
          refine wpAnyT_load (i := 1) (v := ?_) rfl (by kernel_rfl) (by kernel_rfl) (by kernel_rfl) (by kernel_rfl) (by kernel_rfl) (fun _ _ _ h => h) HSS.out (by rfl) ?_ ?_
          rotate_left
          · intro w hSw; skip; go_simp; try with_reducible rfl
          simp only [Act.put, List.getElem_toArray, List.getElem_cons_zero, List.getElem_cons_succ, List.setIfInBounds_toArray, List.set_cons_zero, List.set_cons_succ]
          refine wpAnyT_load (i := 2) (v := ?_) rfl (by kernel_rfl) (by kernel_rfl) (by kernel_rfl) (by kernel_rfl) (by kernel_rfl) (fun _ _ _ h => h) HSS.out (by rfl) ?_ ?_
          rotate_left
          · intro w hSw; skip; go_simp; try with_reducible rfl
          simp only [Act.put, List.getElem_toArray, List.getElem_cons_zero, List.getElem_cons_succ, List.setIfInBounds_toArray, List.set_cons_zero, List.set_cons_succ]
          refine wpAnyT_load (i := 3) (v := ?_) rfl (by kernel_rfl) (by kernel_rfl) (by kernel_rfl) (by kernel_rfl) (by kernel_rfl) (fun _ _ _ h => h) HSS.out (by rfl) ?_ ?_
          rotate_left
          · intro w hSw; have d0 := hSw.cellSome HC.out (by simp); go_simp; try with_reducible rfl
          simp only [Act.put, List.getElem_toArray, List.getElem_cons_zero, List.getElem_cons_succ, List.setIfInBounds_toArray, List.set_cons_zero, List.set_cons_succ]
          refine wpAnyT_load (i := 4) (v := ?_) rfl (by kernel_rfl) (by kernel_rfl) (by kernel_rfl) (by kernel_rfl) (by kernel_rfl) (fun _ _ _ h => h) HSS.out (by rfl) ?_ ?_
          rotate_left
          · intro w hSw; skip; go_simp; try with_reducible rfl
          simp only [Act.put, List.getElem_toArray, List.getElem_cons_zero, List.getElem_cons_succ, List.setIfInBounds_toArray, List.set_cons_zero, List.set_cons_succ]
          refine wpAnyT_one (i := 5) (by kernel_rfl) rfl (fun K hK => ?_)
          rw [if_pos (by rfl)]
          go_simp
          refine (impPacket_any (x := x) ⟨_, rfl, HZ.out⟩ HXS.out n ss).mono ?_
          rintro e w5 (⟨l, v5, hp2, rfl, hO, hF⟩ | ⟨hp2, rfl, hF⟩)
          · rw [HPK.out] at hp2; cases hp2
          have HSS := Lib.hid (HSS.out.trans hF)
          clear hp2 hF
          go_simp
          refine hK.out _ _ (fun _ => HSS.out) ?_
          clear hK K
          simp only [Act.put, List.getElem_toArray, List.getElem_cons_zero, List.getElem_cons_succ, List.setIfInBounds_toArray, List.set_cons_zero, List.set_cons_succ]
          refine wpAnyT_load (i := 6) (v := ?_) rfl (by kernel_rfl) (by kernel_rfl) (by kernel_rfl) (by kernel_rfl) (by kernel_rfl) (fun _ _ _ h => h) HSS.out (by rfl) ?_ ?_
          rotate_left
          · intro w hSw; skip; go_simp; try with_reducible rfl
          simp only [Act.put, List.getElem_toArray, List.getElem_cons_zero, List.getElem_cons_succ, List.setIfInBounds_toArray, List.set_cons_zero, List.set_cons_succ]
          refine wpAnyT_load (i := 7) (v := ?_) rfl (by kernel_rfl) (by kernel_rfl) (by kernel_rfl) (by kernel_rfl) (by kernel_rfl) (fun _ _ _ h => h) HSS.out (by rfl) ?_ ?_
          rotate_left
          · intro w hSw; skip; go_simp; try with_reducible rfl
          simp only [Act.put, List.getElem_toArray, List.getElem_cons_zero, List.getElem_cons_succ, List.setIfInBounds_toArray, List.set_cons_zero, List.set_cons_succ]
          refine wpAnyT_load (i := 8) (v := ?_) rfl (by kernel_rfl) (by kernel_rfl) (by kernel_rfl) (by kernel_rfl) (by kernel_rfl) (fun _ _ _ h => h) HSS.out (by rfl) ?_ ?_
          rotate_left
          · intro w hSw; skip; go_simp; try with_reducible rfl
          simp only [Act.put, List.getElem_toArray, List.getElem_cons_zero, List.getElem_cons_succ, List.setIfInBounds_toArray, List.set_cons_zero, List.set_cons_succ]
          refine wpAnyT_load (i := 9) (v := ?_) rfl (by kernel_rfl) (by kernel_rfl) (by kernel_rfl) (by kernel_rfl) (by kernel_rfl) (fun _ _ _ h => h) HSS.out (by rfl) ?_ ?_
          rotate_left
          · intro w hSw; skip; go_simp; try with_reducible rfl
          simp only [Act.put, List.getElem_toArray, List.getElem_cons_zero, List.getElem_cons_succ, List.setIfInBounds_toArray, List.set_cons_zero, List.set_cons_succ]
          refine wpAnyT_load (i := 10) (v := ?_) rfl (by kernel_rfl) (by kernel_rfl) (by kernel_rfl) (by kernel_rfl) (by kernel_rfl) (fun _ _ _ h => h) HSS.out (by rfl) ?_ ?_
          rotate_left
          · intro w hSw; skip; go_simp; try with_reducible rfl
          simp only [Act.put, List.getElem_toArray, List.getElem_cons_zero, List.getElem_cons_succ, List.setIfInBounds_toArray, List.set_cons_zero, List.set_cons_succ]
          refine wpAnyT_done (by kernel_rfl) ?_ _
          go_wp2_with fail
          exact bodyPost_ret (res_tmp3 rfl _ _ _) rfl ⟨.slice none 0 0, by rw [HL.out]; rfl, by rw [HL.out]; exact ⟨by simp, .inl ⟨rfl, rfl⟩⟩, HF.out.trans HSS.out⟩
end Go.Proofs.Ytchbgiindfoepaa
