/- The walks of confluxref14.One and Check (printed by gen_r14b.py). -/
import Derived.Test.YtchbgiindfoepaaGreatMzR14
import Derived.Test.YtchbgiindfoepaaGreatMz37
import Derived.Test.YtchbgiindfoepaaGreatMz30
namespace Go.Proofs.YtchbgiindfoepaaGreat
open Go.RowKit

set_option maxRecDepth 100000 in
set_option maxHeartbeats 8000000 in
theorem r14One_any {w : World} {v vp : Value} {r : Rep_} {ls : List (List UInt8)} (h : RpV w v r) (hs : r.bt.body.length ≤ 1099511627776) (ss : UInt32) (hl : BRows w vp ls) :
    Calls Tryz.prog 8 #[v, .int .u32 (ss.toNat : Nat), vp] w fun e w' => ∃ v', e = .returned (.tuple #[.int .u16 ((oneL (findL ls) ss r).1.toNat : Nat), v', .int .i64 (oneL (findL ls) ss r).2.2]) ∧ Bytes w' v' (oneL (findL ls) ss r).2.1 ∧ Fr [] w w' := by
  obtain ⟨vb, rfl, hb⟩ := h
  obtain ⟨a, n, c, rfl⟩ := Sl.isSlice hb
  obtain ⟨w1, e1, hF1, hB1, hs1⟩ := one_new w (rpc r (.slice a n c)) 27
  have HF := Lib.hid hF1; have HR := Lib.hid hB1; have E1 := Lib.hid e1; have HL := Lib.hid (hl.keep hF1); have HBD := Lib.hid (Sl.keep hb hF1)
  obtain ⟨av, cv, rfl⟩ := hl.shape
  clear hF1 hB1 e1 hs1 hb hl
  go_enter Tryz.func8, Tryz.ntmps8
  go_upto_region 1 with fail
  rw [E1.out]
  clear E1
  have x9 := HR.out.cell 9; have x10 := HR.out.cell 10
  simp only [rpc, List.getElem?_toArray, List.getElem?_cons_succ, List.getElem?_cons_zero] at x9 x10
  by_cases hz : r.m.hi = 0 ∧ r.m.lo = 0
  · have t1 : (((r.m.hi.toNat : Nat) : Int) == 0) = true := by rw [bv_beq0, hz.1]; rfl
    have t2 : (((r.m.lo.toNat : Nat) : Int) == 0) = true := by rw [bv_beq0, hz.2]; rfl
    have HO : Hid (oneL (findL ls) ss r = (0, [], 30)) := Lib.hid (by unfold oneL; rw [if_pos hz])
    clear hz
    go_wp2_with fail
    exact bodyPost_ret (res_tmp3 rfl _ _ _) rfl ⟨.slice none 0 0, by rw [HO.out]; rfl, by rw [HO.out]; exact Sl.nil _, HF.out⟩
  have HOL : Hid (∀ x ms, restL (findL ls) ss r = (x, ms) → oneL (findL ls) ss r = oneF ss x ms) := Lib.hid (fun x ms e => oneL_ne hz e)
  have hor : (((r.m.hi.toNat : Nat) : Int) == 0) = false ∨ (((r.m.hi.toNat : Nat) : Int) == 0) = true ∧ (((r.m.lo.toNat : Nat) : Int) == 0) = false := by
    rw [bv_beq0, bv_beq0]
    by_cases h1 : r.m.hi = 0
    · right
      exact ⟨by simpa using h1, by simpa using fun h2 => hz ⟨h1, h2⟩⟩
    · left
      simpa using h1
  have HOR := Lib.hid hor
  clear hz hor
  rcases HOR.out with t1 | ⟨t1, t2⟩
  · go_upto_region 3 with fail
    clear t1 x9 x10
    go_wp2_with (refine wpList_load_row_w rfl 27 (.tmp 3) rfl w.heap.size rfl 27 _ _ HR.out Tryz.underlying27 rfl (by kernel_rfl) ?_)
    refine (r14Rest_any (r := r) ⟨_, rfl, HBD.out⟩ hs ss HL.out).mono ?_
    rintro e w2 ⟨⟨vh, vx, vm, rfl, hh, hx, hm⟩, hF⟩
    have hxs := restL_small (K := findL ls) (ss := ss) (r := r) hs
    have HXS := Lib.hid hxs
    obtain ⟨x, ms, hRE⟩ : ∃ x ms, restL (findL ls) ss r = (x, ms) := ⟨_, _, rfl⟩
    rw [hRE] at hh hx hm HXS
    clear hxs
    obtain ⟨ah, nh, ch, rfl⟩ := Sl.isSlice hh
    obtain ⟨ax, nx, cx, rfl⟩ := Sl.isSlice hx
    obtain ⟨am, cm, rfl⟩ : ∃ a c, vm = .slice a ms.length c := by
      have := Sl.shape hm
      simpa using this
    have HH := Lib.hid hh; have HX := Lib.hid hx; have HM := Lib.hid hm; have HRE := Lib.hid hRE
    have HF := Lib.hid (HF.out.trans hF)
    clear hF hh hx hm hRE HBD HL HR
    go_upto_region 4 with (refine wpList_store_row rfl 40 (.tmp 9) (.tmp 26) rfl w2.heap.size rfl _ _ rfl 40 (Box.new w2 40 #[.slice none 0 0, .slice none 0 0]) (by kernel_rfl) rfl (by simp [Value.oneCell']) ?_; intro w3 hY hG; have hFn := ((Fr.refl [] w2).alloc _).step hG (by simp); have HFn := Lib.hid hFn; have HY := Lib.hid hY; clear hG hFn hY)
    have hF := HFn.out
    have HF := Lib.hid (HF.out.trans hF)
    have HH := Lib.hid (Sl.keep HH.out hF); have HX := Lib.hid (Sl.keep HX.out hF); have HM := Lib.hid (Sl.keep HM.out hF)
    have HBX := HY
    clear hF HFn HY
    generalize hgx : w2.heap.size = gx at *
    clear hgx
    cases ms with
    | nil =>
      have HO : Hid (oneL (findL ls) ss r = (0, [], 40)) := Lib.hid ((HOL.out _ _ HRE.out).trans rfl)
      simp only [List.length_nil] at HM ⊢
      go_wp2_with fail
      exact bodyPost_ret (res_tmp3 rfl _ _ _) rfl ⟨.slice none 0 0, by rw [HO.out]; rfl, by rw [HO.out]; exact Sl.nil _, HF.out⟩
    | cons n rest =>
      cases rest with
      | cons m rest =>
        have HO : Hid (oneL (findL ls) ss r = (0, [], 41)) := Lib.hid ((HOL.out _ _ HRE.out).trans rfl)
        simp only [List.length_cons] at HM ⊢
        go_wp2_with fail
        exact bodyPost_ret (res_tmp3 rfl _ _ _) rfl ⟨.slice none 0 0, by rw [HO.out]; rfl, by rw [HO.out]; exact Sl.nil _, HF.out⟩
      | nil =>
        obtain ⟨b, o, ea, -, hc⟩ := Sl.at_ HM.out (k := 0) (by simp)
        subst ea
        have HC : Hid (w3.cell? ⟨b, o, none⟩ = some (.int .u16 (n.toNat : Nat))) := Lib.hid (by have := hc 0 _ rfl; simpa [W16] using this)
        clear hc
        simp only [List.length_cons, List.length_nil, Nat.zero_add] at HM ⊢
        cases hpk : x.pack n ss with
        | ok l0 =>
          have HO : Hid (oneL (findL ls) ss r = (n, l0, 0)) := Lib.hid ((HOL.out _ _ HRE.out).trans (oneF_ok hpk))
          have HPK := Lib.hid hpk
          clear hpk
          go_upto_region 8 with fail
          refine wp_region_T (fun w' => Fr [] w3.drew w') [] 11 #[false, false, false, false, false, false, false, false, false, false, false] (by kernel_rfl) rfl rfl ?_
          try simp only [List.append_eq, List.cons_append, List.nil_append]
          have hF := (Fr.refl [] w3).drew
          have HF := Lib.hid (HF.out.trans hF)
          have HH := Lib.hid (Sl.keep HH.out hF)
          have HX := Lib.hid (Sl.keep HX.out hF)
          have HM := Lib.hid (Sl.keep HM.out hF)
          have HBX := Lib.hid (HBX.out.keep hF)
          have HC := Lib.hid (hF.cellSome HC.out (by simp))
          clear hF
          have HSS : Hid (Fr [] w3.drew w3.drew) := Lib.hid (Fr.refl _ _)
          generalize w3.drew = wd at *
          refine wpAnyT_load (i := 0) (v := ?_) rfl (by kernel_rfl) (by kernel_rfl) (by kernel_rfl) (by kernel_rfl) (by kernel_rfl) (fun _ _ _ h => h) HSS.out (by rfl) ?_ ?_
          rotate_left
          · intro w' hSw; refine run_load_row 40 (.tmp 9) ?_ gx ?_ 40 _ _ (HBX.out.keep hSw) Tryz.underlying40 rfl (by kernel_rfl) <;> rfl
          simp only [Act.put, List.getElem_toArray, List.getElem_cons_zero, List.getElem_cons_succ, List.setIfInBounds_toArray, List.set_cons_zero, List.set_cons_succ]
          refine wpAnyT_load (i := 1) (v := ?_) rfl (by kernel_rfl) (by kernel_rfl) (by kernel_rfl) (by kernel_rfl) (by kernel_rfl) (fun _ _ _ h => h) HSS.out (by rfl) ?_ ?_
          rotate_left
          · intro w hSw; skip; go_simp; try with_reducible rfl
          simp only [Act.put, List.getElem_toArray, List.getElem_cons_zero, List.getElem_cons_succ, List.setIfInBounds_toArray, List.set_cons_zero, List.set_cons_succ]
          refine wpAnyT_load (i := 2) (v := ?_) rfl (by kernel_rfl) (by kernel_rfl) (by kernel_rfl) (by kernel_rfl) (by kernel_rfl) (fun _ _ _ h => h) HSS.out (by rfl) ?_ ?_
          rotate_left
          · intro w hSw; skip; go_simp; try with_reducible rfl
          simp only [Act.put, List.getElem_toArray, List.getElem_cons_zero, List.getElem_cons_succ, List.setIfInBounds_toArray, List.set_cons_zero, List.set_cons_succ]
          refine wpAnyT_load (i := 3) (v := ?_) rfl (by kernel_rfl) (by kernel_rfl) (by kernel_rfl) (by kernel_rfl) (by kernel_rfl) (fun _ _ _ h => h) HSS.out (by rfl) ?_ ?_
          rotate_left
          · intro w hSw; have n0 := hSw.cellSome HC.out (by simp); go_simp; try with_reducible rfl
          simp only [Act.put, List.getElem_toArray, List.getElem_cons_zero, List.getElem_cons_succ, List.setIfInBounds_toArray, List.set_cons_zero, List.set_cons_succ]
          refine wpAnyT_load (i := 4) (v := ?_) rfl (by kernel_rfl) (by kernel_rfl) (by kernel_rfl) (by kernel_rfl) (by kernel_rfl) (fun _ _ _ h => h) HSS.out (by rfl) ?_ ?_
          rotate_left
          · intro w hSw; skip; go_simp; try with_reducible rfl
          simp only [Act.put, List.getElem_toArray, List.getElem_cons_zero, List.getElem_cons_succ, List.setIfInBounds_toArray, List.set_cons_zero, List.set_cons_succ]
          refine wpAnyT_one (i := 5) (by kernel_rfl) rfl (fun K hK => ?_)
          rw [if_pos (by rfl)]
          go_simp
          refine (r12Packet_any (x := x) ⟨_, _, rfl, Sl.keep HH.out HSS.out, Sl.keep HX.out HSS.out⟩ HXS.out n ss).mono ?_
          rintro e w5 (⟨l, v5, hp2, rfl, hO, hF⟩ | ⟨hp2, rfl, hF⟩)
          rotate_left
          · rw [HPK.out] at hp2; cases hp2
          obtain rfl : l0 = l := by rw [HPK.out] at hp2; cases hp2; rfl
          obtain ⟨a9, n9, c9, rfl⟩ := Sl.isSlice hO
          have HO9 := Lib.hid hO
          have HSS := Lib.hid (HSS.out.trans hF)
          clear hp2 hO hF
          go_simp
          refine hK.out _ _ (fun _ => HSS.out) ?_
          clear hK K
          simp only [Act.put, List.getElem_toArray, List.getElem_cons_zero, List.getElem_cons_succ, List.setIfInBounds_toArray, List.set_cons_zero, List.set_cons_succ]
          refine wpAnyT_load (i := 6) (v := ?_) rfl (by kernel_rfl) (by kernel_rfl) (by kernel_rfl) (by kernel_rfl) (by kernel_rfl) (fun _ _ _ h => h) HSS.out (by rfl) ?_ ?_
          rotate_left
          · intro w hSw; skip; go_simp; try with_reducible rfl
          simp only [Act.put, List.getElem_toArray, List.getElem_cons_zero, List.getElem_cons_succ, List.setIfInBounds_toArray, List.set_cons_zero, List.set_cons_succ]
          refine wpAnyT_load (i := 7) (v := ?_) rfl (by kernel_rfl) (by kernel_rfl) (by kernel_rfl) (by kernel_rfl) (by kernel_rfl) (fun _ _ _ h => h) HSS.out (by rfl) ?_ ?_
          rotate_left
          · intro w hSw; skip; go_simp; try with_reducible rfl
          simp only [Act.put, List.getElem_toArray, List.getElem_cons_zero, List.getElem_cons_succ, List.setIfInBounds_toArray, List.set_cons_zero, List.set_cons_succ]
          refine wpAnyT_load (i := 8) (v := ?_) rfl (by kernel_rfl) (by kernel_rfl) (by kernel_rfl) (by kernel_rfl) (by kernel_rfl) (fun _ _ _ h => h) HSS.out (by rfl) ?_ ?_
          rotate_left
          · intro w hSw; skip; go_simp; try with_reducible rfl
          simp only [Act.put, List.getElem_toArray, List.getElem_cons_zero, List.getElem_cons_succ, List.setIfInBounds_toArray, List.set_cons_zero, List.set_cons_succ]
          refine wpAnyT_load (i := 9) (v := ?_) rfl (by kernel_rfl) (by kernel_rfl) (by kernel_rfl) (by kernel_rfl) (by kernel_rfl) (fun _ _ _ h => h) HSS.out (by rfl) ?_ ?_
          rotate_left
          · intro w hSw; skip; go_simp; try with_reducible rfl
          simp only [Act.put, List.getElem_toArray, List.getElem_cons_zero, List.getElem_cons_succ, List.setIfInBounds_toArray, List.set_cons_zero, List.set_cons_succ]
          refine wpAnyT_load (i := 10) (v := ?_) rfl (by kernel_rfl) (by kernel_rfl) (by kernel_rfl) (by kernel_rfl) (by kernel_rfl) (fun _ _ _ h => h) HSS.out (by rfl) ?_ ?_
          rotate_left
          · intro w hSw; skip; go_simp; try with_reducible rfl
          simp only [Act.put, List.getElem_toArray, List.getElem_cons_zero, List.getElem_cons_succ, List.setIfInBounds_toArray, List.set_cons_zero, List.set_cons_succ]
          refine wpAnyT_done (by kernel_rfl) ?_ _
          have hF := HSS.out
          have HF := Lib.hid (HF.out.trans hF)
          have HH := Lib.hid (Sl.keep HH.out hF)
          have HX := Lib.hid (Sl.keep HX.out hF)
          have HM := Lib.hid (Sl.keep HM.out hF)
          have HBX := Lib.hid (HBX.out.keep hF)
          have HC := Lib.hid (hF.cellSome HC.out (by simp))
          clear hF
          have d0 := HC.out
          go_wp2_with fail
          exact bodyPost_ret (res_tmp3 rfl _ _ _) rfl ⟨.slice a9 n9 c9, by rw [HO.out]; rfl, by rw [HO.out]; exact HO9.out, HF.out⟩
        | error k0 =>
          have HO : Hid (oneL (findL ls) ss r = (0, [], 42)) := Lib.hid ((HOL.out _ _ HRE.out).trans (oneF_err hpk))
          have HPK := Lib.hid hpk
          clear hpk
          go_upto_region 8 with fail
          refine wp_region_T (fun w' => Fr [] w3.drew w') [] 11 #[false, false, false, false, false, false, false, false, false, false, false] (by kernel_rfl) rfl rfl ?_
          try simp only [List.append_eq, List.cons_append, List.nil_append]
          have hF := (Fr.refl [] w3).drew
          have HF := Lib.hid (HF.out.trans hF)
          have HH := Lib.hid (Sl.keep HH.out hF)
          have HX := Lib.hid (Sl.keep HX.out hF)
          have HM := Lib.hid (Sl.keep HM.out hF)
          have HBX := Lib.hid (HBX.out.keep hF)
          have HC := Lib.hid (hF.cellSome HC.out (by simp))
          clear hF
          have HSS : Hid (Fr [] w3.drew w3.drew) := Lib.hid (Fr.refl _ _)
          generalize w3.drew = wd at *
          refine wpAnyT_load (i := 0) (v := ?_) rfl (by kernel_rfl) (by kernel_rfl) (by kernel_rfl) (by kernel_rfl) (by kernel_rfl) (fun _ _ _ h => h) HSS.out (by rfl) ?_ ?_
          rotate_left
          · intro w' hSw; refine run_load_row 40 (.tmp 9) ?_ gx ?_ 40 _ _ (HBX.out.keep hSw) Tryz.underlying40 rfl (by kernel_rfl) <;> rfl
          simp only [Act.put, List.getElem_toArray, List.getElem_cons_zero, List.getElem_cons_succ, List.setIfInBounds_toArray, List.set_cons_zero, List.set_cons_succ]
          refine wpAnyT_load (i := 1) (v := ?_) rfl (by kernel_rfl) (by kernel_rfl) (by kernel_rfl) (by kernel_rfl) (by kernel_rfl) (fun _ _ _ h => h) HSS.out (by rfl) ?_ ?_
          rotate_left
          · intro w hSw; skip; go_simp; try with_reducible rfl
          simp only [Act.put, List.getElem_toArray, List.getElem_cons_zero, List.getElem_cons_succ, List.setIfInBounds_toArray, List.set_cons_zero, List.set_cons_succ]
          refine wpAnyT_load (i := 2) (v := ?_) rfl (by kernel_rfl) (by kernel_rfl) (by kernel_rfl) (by kernel_rfl) (by kernel_rfl) (fun _ _ _ h => h) HSS.out (by rfl) ?_ ?_
          rotate_left
          · intro w hSw; skip; go_simp; try with_reducible rfl
          simp only [Act.put, List.getElem_toArray, List.getElem_cons_zero, List.getElem_cons_succ, List.setIfInBounds_toArray, List.set_cons_zero, List.set_cons_succ]
          refine wpAnyT_load (i := 3) (v := ?_) rfl (by kernel_rfl) (by kernel_rfl) (by kernel_rfl) (by kernel_rfl) (by kernel_rfl) (fun _ _ _ h => h) HSS.out (by rfl) ?_ ?_
          rotate_left
          · intro w hSw; have n0 := hSw.cellSome HC.out (by simp); go_simp; try with_reducible rfl
          simp only [Act.put, List.getElem_toArray, List.getElem_cons_zero, List.getElem_cons_succ, List.setIfInBounds_toArray, List.set_cons_zero, List.set_cons_succ]
          refine wpAnyT_load (i := 4) (v := ?_) rfl (by kernel_rfl) (by kernel_rfl) (by kernel_rfl) (by kernel_rfl) (by kernel_rfl) (fun _ _ _ h => h) HSS.out (by rfl) ?_ ?_
          rotate_left
          · intro w hSw; skip; go_simp; try with_reducible rfl
          simp only [Act.put, List.getElem_toArray, List.getElem_cons_zero, List.getElem_cons_succ, List.setIfInBounds_toArray, List.set_cons_zero, List.set_cons_succ]
          refine wpAnyT_one (i := 5) (by kernel_rfl) rfl (fun K hK => ?_)
          rw [if_pos (by rfl)]
          go_simp
          refine (r12Packet_any (x := x) ⟨_, _, rfl, Sl.keep HH.out HSS.out, Sl.keep HX.out HSS.out⟩ HXS.out n ss).mono ?_
          rintro e w5 (⟨l, v5, hp2, rfl, hO, hF⟩ | ⟨hp2, rfl, hF⟩)
          · rw [HPK.out] at hp2; cases hp2
          have HSS := Lib.hid (HSS.out.trans hF)
          clear hp2 hF
          go_simp
          refine hK.out _ _ (fun _ => HSS.out) ?_
          clear hK K
          simp only [Act.put, List.getElem_toArray, List.getElem_cons_zero, List.getElem_cons_succ, List.setIfInBounds_toArray, List.set_cons_zero, List.set_cons_succ]
          refine wpAnyT_load (i := 6) (v := ?_) rfl (by kernel_rfl) (by kernel_rfl) (by kernel_rfl) (by kernel_rfl) (by kernel_rfl) (fun _ _ _ h => h) HSS.out (by rfl) ?_ ?_
          rotate_left
          · intro w hSw; skip; go_simp; try with_reducible rfl
          simp only [Act.put, List.getElem_toArray, List.getElem_cons_zero, List.getElem_cons_succ, List.setIfInBounds_toArray, List.set_cons_zero, List.set_cons_succ]
          refine wpAnyT_load (i := 7) (v := ?_) rfl (by kernel_rfl) (by kernel_rfl) (by kernel_rfl) (by kernel_rfl) (by kernel_rfl) (fun _ _ _ h => h) HSS.out (by rfl) ?_ ?_
          rotate_left
          · intro w hSw; skip; go_simp; try with_reducible rfl
          simp only [Act.put, List.getElem_toArray, List.getElem_cons_zero, List.getElem_cons_succ, List.setIfInBounds_toArray, List.set_cons_zero, List.set_cons_succ]
          refine wpAnyT_load (i := 8) (v := ?_) rfl (by kernel_rfl) (by kernel_rfl) (by kernel_rfl) (by kernel_rfl) (by kernel_rfl) (fun _ _ _ h => h) HSS.out (by rfl) ?_ ?_
          rotate_left
          · intro w hSw; skip; go_simp; try with_reducible rfl
          simp only [Act.put, List.getElem_toArray, List.getElem_cons_zero, List.getElem_cons_succ, List.setIfInBounds_toArray, List.set_cons_zero, List.set_cons_succ]
          refine wpAnyT_load (i := 9) (v := ?_) rfl (by kernel_rfl) (by kernel_rfl) (by kernel_rfl) (by kernel_rfl) (by kernel_rfl) (fun _ _ _ h => h) HSS.out (by rfl) ?_ ?_
          rotate_left
          · intro w hSw; skip; go_simp; try with_reducible rfl
          simp only [Act.put, List.getElem_toArray, List.getElem_cons_zero, List.getElem_cons_succ, List.setIfInBounds_toArray, List.set_cons_zero, List.set_cons_succ]
          refine wpAnyT_load (i := 10) (v := ?_) rfl (by kernel_rfl) (by kernel_rfl) (by kernel_rfl) (by kernel_rfl) (by kernel_rfl) (fun _ _ _ h => h) HSS.out (by rfl) ?_ ?_
          rotate_left
          · intro w hSw; skip; go_simp; try with_reducible rfl
          simp only [Act.put, List.getElem_toArray, List.getElem_cons_zero, List.getElem_cons_succ, List.setIfInBounds_toArray, List.set_cons_zero, List.set_cons_succ]
          refine wpAnyT_done (by kernel_rfl) ?_ _
          have hF := HSS.out
          have HF := Lib.hid (HF.out.trans hF)
          have HH := Lib.hid (Sl.keep HH.out hF)
          have HX := Lib.hid (Sl.keep HX.out hF)
          have HM := Lib.hid (Sl.keep HM.out hF)
          have HBX := Lib.hid (HBX.out.keep hF)
          have HC := Lib.hid (hF.cellSome HC.out (by simp))
          clear hF
          go_wp2_with fail
          exact bodyPost_ret (res_tmp3 rfl _ _ _) rfl ⟨.slice none 0 0, by rw [HO.out]; rfl, by rw [HO.out]; exact Sl.nil _, HF.out⟩
  · go_upto_region 3 with fail
    clear t1 t2 x9 x10
    go_wp2_with (refine wpList_load_row_w rfl 27 (.tmp 3) rfl w.heap.size rfl 27 _ _ HR.out Tryz.underlying27 rfl (by kernel_rfl) ?_)
    refine (r14Rest_any (r := r) ⟨_, rfl, HBD.out⟩ hs ss HL.out).mono ?_
    rintro e w2 ⟨⟨vh, vx, vm, rfl, hh, hx, hm⟩, hF⟩
    have hxs := restL_small (K := findL ls) (ss := ss) (r := r) hs
    have HXS := Lib.hid hxs
    obtain ⟨x, ms, hRE⟩ : ∃ x ms, restL (findL ls) ss r = (x, ms) := ⟨_, _, rfl⟩
    rw [hRE] at hh hx hm HXS
    clear hxs
    obtain ⟨ah, nh, ch, rfl⟩ := Sl.isSlice hh
    obtain ⟨ax, nx, cx, rfl⟩ := Sl.isSlice hx
    obtain ⟨am, cm, rfl⟩ : ∃ a c, vm = .slice a ms.length c := by
      have := Sl.shape hm
      simpa using this
    have HH := Lib.hid hh; have HX := Lib.hid hx; have HM := Lib.hid hm; have HRE := Lib.hid hRE
    have HF := Lib.hid (HF.out.trans hF)
    clear hF hh hx hm hRE HBD HL HR
    go_upto_region 4 with (refine wpList_store_row rfl 40 (.tmp 9) (.tmp 26) rfl w2.heap.size rfl _ _ rfl 40 (Box.new w2 40 #[.slice none 0 0, .slice none 0 0]) (by kernel_rfl) rfl (by simp [Value.oneCell']) ?_; intro w3 hY hG; have hFn := ((Fr.refl [] w2).alloc _).step hG (by simp); have HFn := Lib.hid hFn; have HY := Lib.hid hY; clear hG hFn hY)
    have hF := HFn.out
    have HF := Lib.hid (HF.out.trans hF)
    have HH := Lib.hid (Sl.keep HH.out hF); have HX := Lib.hid (Sl.keep HX.out hF); have HM := Lib.hid (Sl.keep HM.out hF)
    have HBX := HY
    clear hF HFn HY
    generalize hgx : w2.heap.size = gx at *
    clear hgx
    cases ms with
    | nil =>
      have HO : Hid (oneL (findL ls) ss r = (0, [], 40)) := Lib.hid ((HOL.out _ _ HRE.out).trans rfl)
      simp only [List.length_nil] at HM ⊢
      go_wp2_with fail
      exact bodyPost_ret (res_tmp3 rfl _ _ _) rfl ⟨.slice none 0 0, by rw [HO.out]; rfl, by rw [HO.out]; exact Sl.nil _, HF.out⟩
    | cons n rest =>
      cases rest with
      | cons m rest =>
        have HO : Hid (oneL (findL ls) ss r = (0, [], 41)) := Lib.hid ((HOL.out _ _ HRE.out).trans rfl)
        simp only [List.length_cons] at HM ⊢
        go_wp2_with fail
        exact bodyPost_ret (res_tmp3 rfl _ _ _) rfl ⟨.slice none 0 0, by rw [HO.out]; rfl, by rw [HO.out]; exact Sl.nil _, HF.out⟩
      | nil =>
        obtain ⟨b, o, ea, -, hc⟩ := Sl.at_ HM.out (k := 0) (by simp)
        subst ea
        have HC : Hid (w3.cell? ⟨b, o, none⟩ = some (.int .u16 (n.toNat : Nat))) := Lib.hid (by have := hc 0 _ rfl; simpa [W16] using this)
        clear hc
        simp only [List.length_cons, List.length_nil, Nat.zero_add] at HM ⊢
        cases hpk : x.pack n ss with
        | ok l0 =>
          have HO : Hid (oneL (findL ls) ss r = (n, l0, 0)) := Lib.hid ((HOL.out _ _ HRE.out).trans (oneF_ok hpk))
          have HPK := Lib.hid hpk
          clear hpk
          go_upto_region 8 with fail
          refine wp_region_T (fun w' => Fr [] w3.drew w') [] 11 #[false, false, false, false, false, false, false, false, false, false, false] (by kernel_rfl) rfl rfl ?_
          try simp only [List.append_eq, List.cons_append, List.nil_append]
          have hF := (Fr.refl [] w3).drew
          have HF := Lib.hid (HF.out.trans hF)
          have HH := Lib.hid (Sl.keep HH.out hF)
          have HX := Lib.hid (Sl.keep HX.out hF)
          have HM := Lib.hid (Sl.keep HM.out hF)
          have HBX := Lib.hid (HBX.out.keep hF)
          have HC := Lib.hid (hF.cellSome HC.out (by simp))
          clear hF
          have HSS : Hid (Fr [] w3.drew w3.drew) := Lib.hid (Fr.refl _ _)
          generalize w3.drew = wd at *
          refine wpAnyT_load (i := 0) (v := ?_) rfl (by kernel_rfl) (by kernel_rfl) (by kernel_rfl) (by kernel_rfl) (by kernel_rfl) (fun _ _ _ h => h) HSS.out (by rfl) ?_ ?_
          rotate_left
          · intro w' hSw; refine run_load_row 40 (.tmp 9) ?_ gx ?_ 40 _ _ (HBX.out.keep hSw) Tryz.underlying40 rfl (by kernel_rfl) <;> rfl
          simp only [Act.put, List.getElem_toArray, List.getElem_cons_zero, List.getElem_cons_succ, List.setIfInBounds_toArray, List.set_cons_zero, List.set_cons_succ]
          refine wpAnyT_load (i := 1) (v := ?_) rfl (by kernel_rfl) (by kernel_rfl) (by kernel_rfl) (by kernel_rfl) (by kernel_rfl) (fun _ _ _ h => h) HSS.out (by rfl) ?_ ?_
          rotate_left
          · intro w hSw; skip; go_simp; try with_reducible rfl
          simp only [Act.put, List.getElem_toArray, List.getElem_cons_zero, List.getElem_cons_succ, List.setIfInBounds_toArray, List.set_cons_zero, List.set_cons_succ]
          refine wpAnyT_load (i := 2) (v := ?_) rfl (by kernel_rfl) (by kernel_rfl) (by kernel_rfl) (by kernel_rfl) (by kernel_rfl) (fun _ _ _ h => h) HSS.out (by rfl) ?_ ?_
          rotate_left
          · intro w hSw; skip; go_simp; try with_reducible rfl
          simp only [Act.put, List.getElem_toArray, List.getElem_cons_zero, List.getElem_cons_succ, List.setIfInBounds_toArray, List.set_cons_zero, List.set_cons_succ]
          refine wpAnyT_load (i := 3) (v := ?_) rfl (by kernel_rfl) (by kernel_rfl) (by kernel_rfl) (by kernel_rfl) (by kernel_rfl) (fun _ _ _ h => h) HSS.out (by rfl) ?_ ?_
          rotate_left
          · intro w hSw; have n0 := hSw.cellSome HC.out (by simp); go_simp; try with_reducible rfl
          simp only [Act.put, List.getElem_toArray, List.getElem_cons_zero, List.getElem_cons_succ, List.setIfInBounds_toArray, List.set_cons_zero, List.set_cons_succ]
          refine wpAnyT_load (i := 4) (v := ?_) rfl (by kernel_rfl) (by kernel_rfl) (by kernel_rfl) (by kernel_rfl) (by kernel_rfl) (fun _ _ _ h => h) HSS.out (by rfl) ?_ ?_
          rotate_left
          · intro w hSw; skip; go_simp; try with_reducible rfl
          simp only [Act.put, List.getElem_toArray, List.getElem_cons_zero, List.getElem_cons_succ, List.setIfInBounds_toArray, List.set_cons_zero, List.set_cons_succ]
          refine wpAnyT_one (i := 5) (by kernel_rfl) rfl (fun K hK => ?_)
          rw [if_pos (by rfl)]
          go_simp
          refine (r12Packet_any (x := x) ⟨_, _, rfl, Sl.keep HH.out HSS.out, Sl.keep HX.out HSS.out⟩ HXS.out n ss).mono ?_
          rintro e w5 (⟨l, v5, hp2, rfl, hO, hF⟩ | ⟨hp2, rfl, hF⟩)
          rotate_left
          · rw [HPK.out] at hp2; cases hp2
          obtain rfl : l0 = l := by rw [HPK.out] at hp2; cases hp2; rfl
          obtain ⟨a9, n9, c9, rfl⟩ := Sl.isSlice hO
          have HO9 := Lib.hid hO
          have HSS := Lib.hid (HSS.out.trans hF)
          clear hp2 hO hF
          go_simp
          refine hK.out _ _ (fun _ => HSS.out) ?_
          clear hK K
          simp only [Act.put, List.getElem_toArray, List.getElem_cons_zero, List.getElem_cons_succ, List.setIfInBounds_toArray, List.set_cons_zero, List.set_cons_succ]
          refine wpAnyT_load (i := 6) (v := ?_) rfl (by kernel_rfl) (by kernel_rfl) (by kernel_rfl) (by kernel_rfl) (by kernel_rfl) (fun _ _ _ h => h) HSS.out (by rfl) ?_ ?_
          rotate_left
          · intro w hSw; skip; go_simp; try with_reducible rfl
          simp only [Act.put, List.getElem_toArray, List.getElem_cons_zero, List.getElem_cons_succ, List.setIfInBounds_toArray, List.set_cons_zero, List.set_cons_succ]
          refine wpAnyT_load (i := 7) (v := ?_) rfl (by kernel_rfl) (by kernel_rfl) (by kernel_rfl) (by kernel_rfl) (by kernel_rfl) (fun _ _ _ h => h) HSS.out (by rfl) ?_ ?_
          rotate_left
          · intro w hSw; skip; go_simp; try with_reducible rfl
          simp only [Act.put, List.getElem_toArray, List.getElem_cons_zero, List.getElem_cons_succ, List.setIfInBounds_toArray, List.set_cons_zero, List.set_cons_succ]
          refine wpAnyT_load (i := 8) (v := ?_) rfl (by kernel_rfl) (by kernel_rfl) (by kernel_rfl) (by kernel_rfl) (by kernel_rfl) (fun _ _ _ h => h) HSS.out (by rfl) ?_ ?_
          rotate_left
          · intro w hSw; skip; go_simp; try with_reducible rfl
          simp only [Act.put, List.getElem_toArray, List.getElem_cons_zero, List.getElem_cons_succ, List.setIfInBounds_toArray, List.set_cons_zero, List.set_cons_succ]
          refine wpAnyT_load (i := 9) (v := ?_) rfl (by kernel_rfl) (by kernel_rfl) (by kernel_rfl) (by kernel_rfl) (by kernel_rfl) (fun _ _ _ h => h) HSS.out (by rfl) ?_ ?_
          rotate_left
          · intro w hSw; skip; go_simp; try with_reducible rfl
          simp only [Act.put, List.getElem_toArray, List.getElem_cons_zero, List.getElem_cons_succ, List.setIfInBounds_toArray, List.set_cons_zero, List.set_cons_succ]
          refine wpAnyT_load (i := 10) (v := ?_) rfl (by kernel_rfl) (by kernel_rfl) (by kernel_rfl) (by kernel_rfl) (by kernel_rfl) (fun _ _ _ h => h) HSS.out (by rfl) ?_ ?_
          rotate_left
          · intro w hSw; skip; go_simp; try with_reducible rfl
          simp only [Act.put, List.getElem_toArray, List.getElem_cons_zero, List.getElem_cons_succ, List.setIfInBounds_toArray, List.set_cons_zero, List.set_cons_succ]
          refine wpAnyT_done (by kernel_rfl) ?_ _
          have hF := HSS.out
          have HF := Lib.hid (HF.out.trans hF)
          have HH := Lib.hid (Sl.keep HH.out hF)
          have HX := Lib.hid (Sl.keep HX.out hF)
          have HM := Lib.hid (Sl.keep HM.out hF)
          have HBX := Lib.hid (HBX.out.keep hF)
          have HC := Lib.hid (hF.cellSome HC.out (by simp))
          clear hF
          have d0 := HC.out
          go_wp2_with fail
          exact bodyPost_ret (res_tmp3 rfl _ _ _) rfl ⟨.slice a9 n9 c9, by rw [HO.out]; rfl, by rw [HO.out]; exact HO9.out, HF.out⟩
        | error k0 =>
          have HO : Hid (oneL (findL ls) ss r = (0, [], 42)) := Lib.hid ((HOL.out _ _ HRE.out).trans (oneF_err hpk))
          have HPK := Lib.hid hpk
          clear hpk
          go_upto_region 8 with fail
          refine wp_region_T (fun w' => Fr [] w3.drew w') [] 11 #[false, false, false, false, false, false, false, false, false, false, false] (by kernel_rfl) rfl rfl ?_
          try simp only [List.append_eq, List.cons_append, List.nil_append]
          have hF := (Fr.refl [] w3).drew
          have HF := Lib.hid (HF.out.trans hF)
          have HH := Lib.hid (Sl.keep HH.out hF)
          have HX := Lib.hid (Sl.keep HX.out hF)
          have HM := Lib.hid (Sl.keep HM.out hF)
          have HBX := Lib.hid (HBX.out.keep hF)
          have HC := Lib.hid (hF.cellSome HC.out (by simp))
          clear hF
          have HSS : Hid (Fr [] w3.drew w3.drew) := Lib.hid (Fr.refl _ _)
          generalize w3.drew = wd at *
          refine wpAnyT_load (i := 0) (v := ?_) rfl (by kernel_rfl) (by kernel_rfl) (by kernel_rfl) (by kernel_rfl) (by kernel_rfl) (fun _ _ _ h => h) HSS.out (by rfl) ?_ ?_
          rotate_left
          · intro w' hSw; refine run_load_row 40 (.tmp 9) ?_ gx ?_ 40 _ _ (HBX.out.keep hSw) Tryz.underlying40 rfl (by kernel_rfl) <;> rfl
          simp only [Act.put, List.getElem_toArray, List.getElem_cons_zero, List.getElem_cons_succ, List.setIfInBounds_toArray, List.set_cons_zero, List.set_cons_succ]
          refine wpAnyT_load (i := 1) (v := ?_) rfl (by kernel_rfl) (by kernel_rfl) (by kernel_rfl) (by kernel_rfl) (by kernel_rfl) (fun _ _ _ h => h) HSS.out (by rfl) ?_ ?_
          rotate_left
          · intro w hSw; skip; go_simp; try with_reducible rfl
          simp only [Act.put, List.getElem_toArray, List.getElem_cons_zero, List.getElem_cons_succ, List.setIfInBounds_toArray, List.set_cons_zero, List.set_cons_succ]
          refine wpAnyT_load (i := 2) (v := ?_) rfl (by kernel_rfl) (by kernel_rfl) (by kernel_rfl) (by kernel_rfl) (by kernel_rfl) (fun _ _ _ h => h) HSS.out (by rfl) ?_ ?_
          rotate_left
          · intro w hSw; skip; go_simp; try with_reducible rfl
          simp only [Act.put, List.getElem_toArray, List.getElem_cons_zero, List.getElem_cons_succ, List.setIfInBounds_toArray, List.set_cons_zero, List.set_cons_succ]
          refine wpAnyT_load (i := 3) (v := ?_) rfl (by kernel_rfl) (by kernel_rfl) (by kernel_rfl) (by kernel_rfl) (by kernel_rfl) (fun _ _ _ h => h) HSS.out (by rfl) ?_ ?_
          rotate_left
          · intro w hSw; have n0 := hSw.cellSome HC.out (by simp); go_simp; try with_reducible rfl
          simp only [Act.put, List.getElem_toArray, List.getElem_cons_zero, List.getElem_cons_succ, List.setIfInBounds_toArray, List.set_cons_zero, List.set_cons_succ]
          refine wpAnyT_load (i := 4) (v := ?_) rfl (by kernel_rfl) (by kernel_rfl) (by kernel_rfl) (by kernel_rfl) (by kernel_rfl) (fun _ _ _ h => h) HSS.out (by rfl) ?_ ?_
          rotate_left
          · intro w hSw; skip; go_simp; try with_reducible rfl
          simp only [Act.put, List.getElem_toArray, List.getElem_cons_zero, List.getElem_cons_succ, List.setIfInBounds_toArray, List.set_cons_zero, List.set_cons_succ]
          refine wpAnyT_one (i := 5) (by kernel_rfl) rfl (fun K hK => ?_)
          rw [if_pos (by rfl)]
          go_simp
          refine (r12Packet_any (x := x) ⟨_, _, rfl, Sl.keep HH.out HSS.out, Sl.keep HX.out HSS.out⟩ HXS.out n ss).mono ?_
          rintro e w5 (⟨l, v5, hp2, rfl, hO, hF⟩ | ⟨hp2, rfl, hF⟩)
          · rw [HPK.out] at hp2; cases hp2
          have HSS := Lib.hid (HSS.out.trans hF)
          clear hp2 hF
          go_simp
          refine hK.out _ _ (fun _ => HSS.out) ?_
          clear hK K
          simp only [Act.put, List.getElem_toArray, List.getElem_cons_zero, List.getElem_cons_succ, List.setIfInBounds_toArray, List.set_cons_zero, List.set_cons_succ]
          refine wpAnyT_load (i := 6) (v := ?_) rfl (by kernel_rfl) (by kernel_rfl) (by kernel_rfl) (by kernel_rfl) (by kernel_rfl) (fun _ _ _ h => h) HSS.out (by rfl) ?_ ?_
          rotate_left
          · intro w hSw; skip; go_simp; try with_reducible rfl
          simp only [Act.put, List.getElem_toArray, List.getElem_cons_zero, List.getElem_cons_succ, List.setIfInBounds_toArray, List.set_cons_zero, List.set_cons_succ]
          refine wpAnyT_load (i := 7) (v := ?_) rfl (by kernel_rfl) (by kernel_rfl) (by kernel_rfl) (by kernel_rfl) (by kernel_rfl) (fun _ _ _ h => h) HSS.out (by rfl) ?_ ?_
          rotate_left
          · intro w hSw; skip; go_simp; try with_reducible rfl
          simp only [Act.put, List.getElem_toArray, List.getElem_cons_zero, List.getElem_cons_succ, List.setIfInBounds_toArray, List.set_cons_zero, List.set_cons_succ]
          refine wpAnyT_load (i := 8) (v := ?_) rfl (by kernel_rfl) (by kernel_rfl) (by kernel_rfl) (by kernel_rfl) (by kernel_rfl) (fun _ _ _ h => h) HSS.out (by rfl) ?_ ?_
          rotate_left
          · intro w hSw; skip; go_simp; try with_reducible rfl
          simp only [Act.put, List.getElem_toArray, List.getElem_cons_zero, List.getElem_cons_succ, List.setIfInBounds_toArray, List.set_cons_zero, List.set_cons_succ]
          refine wpAnyT_load (i := 9) (v := ?_) rfl (by kernel_rfl) (by kernel_rfl) (by kernel_rfl) (by kernel_rfl) (by kernel_rfl) (fun _ _ _ h => h) HSS.out (by rfl) ?_ ?_
          rotate_left
          · intro w hSw; skip; go_simp; try with_reducible rfl
          simp only [Act.put, List.getElem_toArray, List.getElem_cons_zero, List.getElem_cons_succ, List.setIfInBounds_toArray, List.set_cons_zero, List.set_cons_succ]
          refine wpAnyT_load (i := 10) (v := ?_) rfl (by kernel_rfl) (by kernel_rfl) (by kernel_rfl) (by kernel_rfl) (by kernel_rfl) (fun _ _ _ h => h) HSS.out (by rfl) ?_ ?_
          rotate_left
          · intro w hSw; skip; go_simp; try with_reducible rfl
          simp only [Act.put, List.getElem_toArray, List.getElem_cons_zero, List.getElem_cons_succ, List.setIfInBounds_toArray, List.set_cons_zero, List.set_cons_succ]
          refine wpAnyT_done (by kernel_rfl) ?_ _
          have hF := HSS.out
          have HF := Lib.hid (HF.out.trans hF)
          have HH := Lib.hid (Sl.keep HH.out hF)
          have HX := Lib.hid (Sl.keep HX.out hF)
          have HM := Lib.hid (Sl.keep HM.out hF)
          have HBX := Lib.hid (HBX.out.keep hF)
          have HC := Lib.hid (hF.cellSome HC.out (by simp))
          clear hF
          go_wp2_with fail
          exact bodyPost_ret (res_tmp3 rfl _ _ _) rfl ⟨.slice none 0 0, by rw [HO.out]; rfl, by rw [HO.out]; exact Sl.nil _, HF.out⟩
set_option maxRecDepth 100000 in
set_option maxHeartbeats 8000000 in
theorem r14Check_any {w : World} {v vp : Value} {r : Rep_} {ls : List (List UInt8)} (h : RpV w v r) (hs : r.bt.body.length ≤ 1099511627776) (ss : UInt32) (hl : BRows w vp ls) :
    Calls Tryz.prog 12 #[v, .int .u32 (ss.toNat : Nat), vp] w fun e w' => e = .returned (.bool (checkL (findL ls) ss r)) ∧ Fr [] w w' := by
  obtain ⟨vb, rfl, hb⟩ := h
  obtain ⟨a, n, c, rfl⟩ := Sl.isSlice hb
  obtain ⟨w1, e1, hF1, hB1, hs1⟩ := one_new w (rpc r (.slice a n c)) 27
  have HF := Lib.hid hF1; have HR := Lib.hid hB1; have E1 := Lib.hid e1; have HL := Lib.hid (hl.keep hF1); have HBD := Lib.hid (Sl.keep hb hF1)
  obtain ⟨av, cv, rfl⟩ := hl.shape
  clear hF1 hB1 e1 hs1 hb hl
  go_enter Tryz.func12, Tryz.ntmps12
  go_upto_region 1 with fail
  rw [E1.out]
  clear E1
  go_wp2_with (refine wpList_load_row_w rfl 27 (.tmp 3) rfl w.heap.size rfl 27 _ _ HR.out Tryz.underlying27 rfl (by kernel_rfl) ?_)
  refine (r14Rest_any (r := r) ⟨_, rfl, HBD.out⟩ hs ss HL.out).mono ?_
  rintro e w2 ⟨⟨vh, vx, vm, rfl, hh, hx, hm⟩, hF⟩
  have hxs := restL_small (K := findL ls) (ss := ss) (r := r) hs
  have HXS := Lib.hid hxs
  obtain ⟨x, ms, hRE⟩ : ∃ x ms, restL (findL ls) ss r = (x, ms) := ⟨_, _, rfl⟩
  rw [hRE] at hh hx hm HXS
  clear hxs
  obtain ⟨ah, nh, ch, rfl⟩ := Sl.isSlice hh
  obtain ⟨ax, nx, cx, rfl⟩ := Sl.isSlice hx
  obtain ⟨am, cm, rfl⟩ : ∃ a c, vm = .slice a ms.length c := by
    have := Sl.shape hm
    simpa using this
  have HH := Lib.hid hh; have HX := Lib.hid hx; have HM := Lib.hid hm; have HRE := Lib.hid hRE
  have HF := Lib.hid (HF.out.trans hF)
  clear hF hh hx hm hRE HBD HL HR
  go_upto_region 2 with (refine wpList_store_row rfl 40 (.tmp 7) (.tmp 14) rfl w2.heap.size rfl _ _ rfl 40 (Box.new w2 40 #[.slice none 0 0, .slice none 0 0]) (by kernel_rfl) rfl (by simp [Value.oneCell']) ?_; intro w3 hY hG; have hFn := ((Fr.refl [] w2).alloc _).step hG (by simp); have HFn := Lib.hid hFn; have HY := Lib.hid hY; clear hG hFn hY)
  have hF := HFn.out
  have HF := Lib.hid (HF.out.trans hF)
  have HH := Lib.hid (Sl.keep HH.out hF); have HX := Lib.hid (Sl.keep HX.out hF); have HM := Lib.hid (Sl.keep HM.out hF)
  have HBX := HY
  clear hF HFn HY
  generalize hgx : w2.heap.size = gx at *
  clear hgx
  cases ms with
  | cons n rest =>
    have HO : Hid (checkL (findL ls) ss r = false) := Lib.hid (by unfold checkL; rw [HRE.out]; rfl)
    simp only [List.length_cons] at HM ⊢
    have hne : ((((rest.length + 1 : Nat)) : Int) == 0) = false := by rw [beq_eq_false_iff_ne]; omega
    have hne2 : ((((rest.length : Nat)) : Int) + 1 == 0) = false := by rw [beq_eq_false_iff_ne]; omega
    refine wp_region_T (fun w' => Fr [] w3.drew w') [] 10 #[false, false, false, false, false, false, false, false, false, false] (by kernel_rfl) rfl rfl ?_
    try simp only [List.append_eq, List.cons_append, List.nil_append]
    have hF := (Fr.refl [] w3).drew
    have HF := Lib.hid (HF.out.trans hF)
    have HH := Lib.hid (Sl.keep HH.out hF)
    have HX := Lib.hid (Sl.keep HX.out hF)
    have HM := Lib.hid (Sl.keep HM.out hF)
    have HBX := Lib.hid (HBX.out.keep hF)
    clear hF
    have HSS : Hid (Fr [] w3.drew w3.drew) := Lib.hid (Fr.refl _ _)
    generalize w3.drew = wd at *
    refine wpAnyT_load (i := 0) (v := ?_) rfl (by kernel_rfl) (by kernel_rfl) (by kernel_rfl) (by kernel_rfl) (by kernel_rfl) (fun _ _ _ h => h) HSS.out (by rfl) ?_ ?_
    rotate_left
    · intro w hSw; skip; go_simp; try with_reducible rfl
    simp only [Act.put, List.getElem_toArray, List.getElem_cons_zero, List.getElem_cons_succ, List.setIfInBounds_toArray, List.set_cons_zero, List.set_cons_succ]
    refine wpAnyT_load (i := 1) (v := ?_) rfl (by kernel_rfl) (by kernel_rfl) (by kernel_rfl) (by kernel_rfl) (by kernel_rfl) (fun _ _ _ h => h) HSS.out (by rfl) ?_ ?_
    rotate_left
    · intro w hSw; skip; go_simp; try with_reducible rfl
    simp only [Act.put, List.getElem_toArray, List.getElem_cons_zero, List.getElem_cons_succ, List.setIfInBounds_toArray, List.set_cons_zero, List.set_cons_succ]
    refine wpAnyT_load (i := 2) (v := ?_) rfl (by kernel_rfl) (by kernel_rfl) (by kernel_rfl) (by kernel_rfl) (by kernel_rfl) (fun _ _ _ h => h) HSS.out (by rfl) ?_ ?_
    rotate_left
    · intro w hSw; skip; go_simp; try with_reducible rfl
    simp only [Act.put, List.getElem_toArray, List.getElem_cons_zero, List.getElem_cons_succ, List.setIfInBounds_toArray, List.set_cons_zero, List.set_cons_succ]
    refine wpAnyT_load (i := 3) (v := ?_) rfl (by kernel_rfl) (by kernel_rfl) (by kernel_rfl) (by kernel_rfl) (by kernel_rfl) (fun _ _ _ h => h) HSS.out (by rfl) ?_ ?_
    rotate_left
    · intro w hSw; skip; go_simp; try with_reducible rfl
    simp only [Act.put, List.getElem_toArray, List.getElem_cons_zero, List.getElem_cons_succ, List.setIfInBounds_toArray, List.set_cons_zero, List.set_cons_succ]
    refine wpAnyT_skip (i := 4) rfl (by kernel_rfl) (by kernel_rfl) (by kernel_rfl) (by kernel_rfl) (by kernel_rfl) (fun _ _ _ h => h) HSS.out (by rfl) ?_
    simp only [Act.put, List.getElem_toArray, List.getElem_cons_zero, List.getElem_cons_succ, List.setIfInBounds_toArray, List.set_cons_zero, List.set_cons_succ]
    refine wpAnyT_skip (i := 5) rfl (by kernel_rfl) (by kernel_rfl) (by kernel_rfl) (by kernel_rfl) (by kernel_rfl) (fun _ _ _ h => h) HSS.out (by rfl) ?_
    simp only [Act.put, List.getElem_toArray, List.getElem_cons_zero, List.getElem_cons_succ, List.setIfInBounds_toArray, List.set_cons_zero, List.set_cons_succ]
    refine wpAnyT_skip (i := 6) rfl (by kernel_rfl) (by kernel_rfl) (by kernel_rfl) (by kernel_rfl) (by kernel_rfl) (fun _ _ _ h => h) HSS.out (by rfl) ?_
    simp only [Act.put, List.getElem_toArray, List.getElem_cons_zero, List.getElem_cons_succ, List.setIfInBounds_toArray, List.set_cons_zero, List.set_cons_succ]
    refine wpAnyT_skip (i := 7) rfl (by kernel_rfl) (by kernel_rfl) (by kernel_rfl) (by kernel_rfl) (by kernel_rfl) (fun _ _ _ h => h) HSS.out (by rfl) ?_
    simp only [Act.put, List.getElem_toArray, List.getElem_cons_zero, List.getElem_cons_succ, List.setIfInBounds_toArray, List.set_cons_zero, List.set_cons_succ]
    refine wpAnyT_load (i := 8) (v := ?_) rfl (by kernel_rfl) (by kernel_rfl) (by kernel_rfl) (by kernel_rfl) (by kernel_rfl) (fun _ _ _ h => h) HSS.out (by rfl) ?_ ?_
    rotate_left
    · intro w hSw; skip; go_simp; try with_reducible rfl
    simp only [Act.put, List.getElem_toArray, List.getElem_cons_zero, List.getElem_cons_succ, List.setIfInBounds_toArray, List.set_cons_zero, List.set_cons_succ]
    refine wpAnyT_load (i := 9) (v := ?_) rfl (by kernel_rfl) (by kernel_rfl) (by kernel_rfl) (by kernel_rfl) (by kernel_rfl) (fun _ _ _ h => h) HSS.out (by rfl) ?_ ?_
    rotate_left
    · intro w hSw; skip; go_simp; try with_reducible rfl
    simp only [Act.put, List.getElem_toArray, List.getElem_cons_zero, List.getElem_cons_succ, List.setIfInBounds_toArray, List.set_cons_zero, List.set_cons_succ]
    refine wpAnyT_done (by kernel_rfl) ?_ _
    have HF := Lib.hid (HF.out.trans HSS.out)
    go_wp2_with fail
    go_ret
    exact ⟨by rw [HO.out]; rfl, HF.out⟩
  | nil =>
    have HO : Hid (checkL (findL ls) ss r = (x.head == Bt.zero.head && gap0 x.body [])) := Lib.hid (by unfold checkL; rw [HRE.out]; simp [Bt.same, Bt.zero])
    simp only [List.length_nil] at HM ⊢
    refine wp_region_T (fun w' => Fr [] w3.drew w') [] 10 #[false, false, false, false, false, false, false, false, false, false] (by kernel_rfl) rfl rfl ?_
    try simp only [List.append_eq, List.cons_append, List.nil_append]
    have hF := (Fr.refl [] w3).drew
    have HF := Lib.hid (HF.out.trans hF)
    have HH := Lib.hid (Sl.keep HH.out hF)
    have HX := Lib.hid (Sl.keep HX.out hF)
    have HM := Lib.hid (Sl.keep HM.out hF)
    have HBX := Lib.hid (HBX.out.keep hF)
    clear hF
    have HSS : Hid (Fr [] w3.drew w3.drew) := Lib.hid (Fr.refl _ _)
    generalize w3.drew = wd at *
    refine wpAnyT_load (i := 0) (v := ?_) rfl (by kernel_rfl) (by kernel_rfl) (by kernel_rfl) (by kernel_rfl) (by kernel_rfl) (fun _ _ _ h => h) HSS.out (by rfl) ?_ ?_
    rotate_left
    · intro w hSw; skip; go_simp; try with_reducible rfl
    simp only [Act.put, List.getElem_toArray, List.getElem_cons_zero, List.getElem_cons_succ, List.setIfInBounds_toArray, List.set_cons_zero, List.set_cons_succ]
    refine wpAnyT_load (i := 1) (v := ?_) rfl (by kernel_rfl) (by kernel_rfl) (by kernel_rfl) (by kernel_rfl) (by kernel_rfl) (fun _ _ _ h => h) HSS.out (by rfl) ?_ ?_
    rotate_left
    · intro w hSw; skip; go_simp; try with_reducible rfl
    simp only [Act.put, List.getElem_toArray, List.getElem_cons_zero, List.getElem_cons_succ, List.setIfInBounds_toArray, List.set_cons_zero, List.set_cons_succ]
    refine wpAnyT_load (i := 2) (v := ?_) rfl (by kernel_rfl) (by kernel_rfl) (by kernel_rfl) (by kernel_rfl) (by kernel_rfl) (fun _ _ _ h => h) HSS.out (by rfl) ?_ ?_
    rotate_left
    · intro w hSw; skip; go_simp; try with_reducible rfl
    simp only [Act.put, List.getElem_toArray, List.getElem_cons_zero, List.getElem_cons_succ, List.setIfInBounds_toArray, List.set_cons_zero, List.set_cons_succ]
    refine wpAnyT_load (i := 3) (v := ?_) rfl (by kernel_rfl) (by kernel_rfl) (by kernel_rfl) (by kernel_rfl) (by kernel_rfl) (fun _ _ _ h => h) HSS.out (by rfl) ?_ ?_
    rotate_left
    · intro w hSw; skip; go_simp; try with_reducible rfl
    simp only [Act.put, List.getElem_toArray, List.getElem_cons_zero, List.getElem_cons_succ, List.setIfInBounds_toArray, List.set_cons_zero, List.set_cons_succ]
    refine wpAnyT_load (i := 4) (v := ?_) rfl (by kernel_rfl) (by kernel_rfl) (by kernel_rfl) (by kernel_rfl) (by kernel_rfl) (fun _ _ _ h => h) HSS.out (by rfl) ?_ ?_
    rotate_left
    · intro w' hSw; refine run_load_row 40 (.tmp 7) ?_ gx ?_ 40 _ _ (HBX.out.keep hSw) Tryz.underlying40 rfl (by kernel_rfl) <;> rfl
    simp only [Act.put, List.getElem_toArray, List.getElem_cons_zero, List.getElem_cons_succ, List.setIfInBounds_toArray, List.set_cons_zero, List.set_cons_succ]
    refine wpAnyT_one (i := 5) (by kernel_rfl) rfl (fun K hK => ?_)
    rw [if_pos (by rfl)]
    have hmk := run_make_row' (P := Tryz.prog) 25 5 (.int .u8 0) 1 Tryz.underlying25 info_u8 rfl .i64 .i64 8 (by omega) (by omega)
    simp only [show (((8 : Nat)) : Int) = 8 from rfl] at hmk
    go_simp
    obtain ⟨w4, e4, hF, hB4, -⟩ := one_new wd (madeCells #[.int .u8 0] 8) 5
    rw [madeCells_one] at hB4
    rw [e4]
    have HZ : Hid (Bytes w4 (.slice (some ⟨wd.heap.size, 0, none⟩) 8 8) Bt.zero.head) := Lib.hid (box_sl (off := 0) (cap := 8) hB4 (Bt.zero.head.map B8) (by intro i y hy; simpa [B8, Bt.zero, Bt.head] using hy) (by simp [Bt.zero, Bt.head]) (by unfold maxLen; omega))
    have HSS := Lib.hid (HSS.out.trans hF)
    clear hF hB4 e4 hmk
    refine hK.out _ _ (fun _ => HSS.out) ?_
    clear hK K
    simp only [Act.put, List.getElem_toArray, List.getElem_cons_zero, List.getElem_cons_succ, List.setIfInBounds_toArray, List.set_cons_zero, List.set_cons_succ]
    refine wpAnyT_load (i := 6) (v := ?_) rfl (by kernel_rfl) (by kernel_rfl) (by kernel_rfl) (by kernel_rfl) (by kernel_rfl) (fun _ _ _ h => h) HSS.out (by rfl) ?_ ?_
    rotate_left
    · intro w hSw; skip; go_simp; try with_reducible rfl
    simp only [Act.put, List.getElem_toArray, List.getElem_cons_zero, List.getElem_cons_succ, List.setIfInBounds_toArray, List.set_cons_zero, List.set_cons_succ]
    refine wpAnyT_one (i := 7) (by kernel_rfl) rfl (fun K hK => ?_)
    rw [if_pos (by rfl)]
    go_simp
    refine (r12Same_any (h1 := x.head) (b1 := x.body) (h2 := Bt.zero.head) (b2 := []) ⟨_, _, rfl, Sl.keep HH.out HSS.out, Sl.keep HX.out HSS.out⟩ ⟨_, _, rfl, HZ.out, Sl.nil _⟩ (by simp [Bt.head]) (by simp [Bt.head]) HXS.out (by simp)).mono ?_
    rintro e w5 ⟨rfl, hF⟩
    go_simp
    have HSS := Lib.hid (HSS.out.trans hF)
    clear hF
    refine hK.out _ _ (fun _ => HSS.out) ?_
    clear hK K
    simp only [Act.put, List.getElem_toArray, List.getElem_cons_zero, List.getElem_cons_succ, List.setIfInBounds_toArray, List.set_cons_zero, List.set_cons_succ]
    refine wpAnyT_load (i := 8) (v := ?_) rfl (by kernel_rfl) (by kernel_rfl) (by kernel_rfl) (by kernel_rfl) (by kernel_rfl) (fun _ _ _ h => h) HSS.out (by rfl) ?_ ?_
    rotate_left
    · intro w hSw; skip; go_simp; try with_reducible rfl
    simp only [Act.put, List.getElem_toArray, List.getElem_cons_zero, List.getElem_cons_succ, List.setIfInBounds_toArray, List.set_cons_zero, List.set_cons_succ]
    refine wpAnyT_load (i := 9) (v := ?_) rfl (by kernel_rfl) (by kernel_rfl) (by kernel_rfl) (by kernel_rfl) (by kernel_rfl) (fun _ _ _ h => h) HSS.out (by rfl) ?_ ?_
    rotate_left
    · intro w hSw; skip; go_simp; try with_reducible rfl
    simp only [Act.put, List.getElem_toArray, List.getElem_cons_zero, List.getElem_cons_succ, List.setIfInBounds_toArray, List.set_cons_zero, List.set_cons_succ]
    refine wpAnyT_done (by kernel_rfl) ?_ _
    have HF := Lib.hid (HF.out.trans HSS.out)
    go_wp2_with fail
    go_ret
    exact ⟨by rw [HO.out]; rfl, HF.out⟩
end Go.Proofs.YtchbgiindfoepaaGreat
