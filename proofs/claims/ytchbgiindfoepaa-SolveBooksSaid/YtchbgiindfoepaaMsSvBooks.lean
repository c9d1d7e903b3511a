/- The walk of confluxlaw14.SolveBooks (printed by gen_svbooks.py). -/
import Derived.Test.YtchbgiindfoepaaMs38
import Derived.Test.YtchbgiindfoepaaMs37
import Derived.Test.YtchbgiindfoepaaMs23
namespace Go.Proofs.Ytchbgiindfoepaa
open Go.RowKit Go.Maps

theorem find_ok {ls : List (List UInt8)} {n : UInt16} {x : List UInt8} (h : findL ls n = some x) : 0 < x.length ∧ x.length ≤ 1500 := by
  have h1 := List.find?_some h
  obtain ⟨⟨p, hp⟩, -⟩ := isNo_iff.1 h1
  have := parse_len hp
  omega
theorem find_small (ls : List (List UInt8)) (n : UInt16) : ((findL ls n).getD []).length ≤ 1099511627776 := by
  cases h : findL ls n with
  | none => simp
  | some x => have := (find_ok h).2; show x.length ≤ _; omega
theorem find_has {ls : List (List UInt8)} {l : List UInt8} {p : Pkt} (hl : l ∈ ls) (hp : parseR l = .ok p) : ∃ x, findL ls p.seq = some x := by
  have : (findL ls p.seq).isSome := by
    unfold findL
    rw [List.find?_isSome]
    exact ⟨l, hl, by unfold isNo; rw [hp]; simp⟩
  exact Option.isSome_iff_exists.1 this
set_option maxRecDepth 100000 in
set_option maxHeartbeats 16000000 in
theorem SolveBooks_any {w : World} {v : Value} {ls : List (List UInt8)} (hl : BRows w v ls) (ask : UInt16) :
    Calls Try.prog 9 #[v, .int .u16 (ask.toNat : Nat)] w fun e w' => e = .returned (.bool true) ∧ Fr [] w w' := by
  obtain ⟨av, cv, rfl⟩ := hl.shape
  have hlen := hl.len
  unfold maxLen at hlen
  have HB := Lib.hid hl; have HF : Hid (Fr [] w w) := Lib.hid (Fr.refl _ _)
  clear hl
  go_enter Try.func9, Try.ntmps9
  go_wp2_with fail
  refine l14alive_any.mono ?_
  rintro e w1 ⟨rfl, hF⟩
  have HF := Lib.hid (HF.out.trans hF)
  have HB := Lib.hid (HB.out.keep hF)
  clear hF
  go_wp2_with fail
  refine (RFew13_any HB.out 60 1600 (by omega) (by omega)).mono ?_
  rintro e w2 ⟨rfl, hF⟩
  have HF := Lib.hid (HF.out.trans hF)
  have HB := Lib.hid (HB.out.keep hF)
  clear hF
  by_cases hfew : few13 ls 60 1600 = true
  rotate_left
  · have hfew2 : few13 ls 60 1600 = false := by simpa using hfew
    rw [hfew2]
    go_wp2_with fail
    go_ret
    first | exact ⟨rfl, HF.out⟩ | exact ⟨ret_bool (by simp), HF.out⟩
  rw [hfew]
  obtain ⟨hn60, hsz⟩ := few13_true hfew
  clear hfew hsz
  go_wp2_with fail
  refine (svBook_any HB.out (by omega)).mono ?_
  rintro e w3 ⟨bm, D, rfl, hBk, hF⟩
  have HBK := Lib.hid hBk
  have HF := Lib.hid (HF.out.trans hF)
  have HB := Lib.hid (HB.out.keep hF)
  clear hF
  clear hBk
  go_wp2_with fail
  refine (r14Find_any HB.out ask).mono ?_
  rintro e w4 ⟨v4, rfl, hb, hF⟩
  obtain ⟨a4, n4, c4, rfl⟩ := Sl.isSlice hb
  have HW := Lib.hid hb
  have HF := Lib.hid (HF.out.trans hF)
  have HB := Lib.hid (HB.out.keep hF)
  have HBK := Lib.hid (HBK.out.keep hF)
  clear hb hF
  obtain ⟨v5, hrun, hv5⟩ := HBK.out.run ask
  replace hrun := hrun true
  simp only [if_true] at hrun
  obtain ⟨a5, n5, c5, rfl⟩ := Sl.isSlice hv5
  have HV5 := Lib.hid hv5
  clear hv5
  have HS5 := Lib.hid (find_small ls ask)
  generalize (findL ls ask).isSome = fo at *
  go_wp2_with fail
  refine (RSame_any HV5.out HW.out HS5.out HS5.out).mono ?_
  rintro e w6 ⟨rfl, hF⟩
  rw [beq_self_eq_true]
  clear hrun
  have HF := Lib.hid (HF.out.trans hF)
  have HB := Lib.hid (HB.out.keep hF)
  have HBK := Lib.hid (HBK.out.keep hF)
  clear hF HW HV5 HS5
  have HB0 := HB
  have HBK0 := HBK
  go_wp2_with fail
  go_loopw [10, 49] (fun nv iv wr => ∃ k : Nat, k ≤ ls.length ∧ iv = .int .i64 k ∧ nv = .int .i64 (bookC ls k : Nat) ∧ Fr [] w6 wr) (fun _ iv _ => ls.length - (intOf iv).toNat)
  case atStart => exact ⟨0, Nat.zero_le _, rfl, rfl, Fr.refl _ _⟩
  case round =>
    obtain ⟨k, hk, rfl, rfl, hF⟩ := hrel
    have hbk := bookC_le ls k
    have HFQ := Lib.hid hF
    have HB := Lib.hid (HB0.out.keep hF)
    have HBK := Lib.hid (HBK0.out.keep hF)
    clear hF
    by_cases hlt : k < ls.length
    · obtain ⟨b, o, al, cl, ea, -, hc, hx⟩ := HB.out.at_ k hlt
      subst ea
      have HX := Lib.hid hx
      have d0 := hc
      clear hx hc
      have HG : Hid (ls.getD k [] = ls[k]) := Lib.hid (by rw [List.getD_eq_getElem?_getD, List.getElem?_eq_getElem hlt]; rfl)
      have HMM : Hid (ls[k] ∈ ls) := Lib.hid (List.getElem_mem hlt)
      have HCS := Lib.hid (bookC_succ ls k)
      rw [HG.out] at HCS
      generalize ls[k] = l at *
      go_wp2_with fail
      refine (R5Parse_any HX.out).mono ?_
      rintro e w7 (⟨vp, p, hp, rfl, hVp, hF⟩ | ⟨k2, hp, rfl, hF⟩)
      rotate_left
      · have hk2 : (k2 != 0) = true := by simpa using parseR_err hp
        have HC : Hid (bookC ls (k + 1) = bookC ls k) := Lib.hid (by rw [HCS.out, show fresh (ls.take k) l = false by unfold fresh; rw [hp]]; rfl)
        have HFQ := Lib.hid (HFQ.out.trans hF)
        clear hp hF d0
        unfold pz
        go_wp2_with (refine wpList_store_row rfl 88 (.tmp 13) (.tmp 57) rfl w7.heap.size rfl _ _ rfl 88 (Box.new w7 88 #[.bool false, .int .i64 0, .int .u16 0, .int .u32 0, .int .u32 0, .slice none 0 0, .bool false, .int .u16 0, .slice none 0 0, .slice none 0 0, .slice none 0 0]) (by kernel_rfl) rfl (oneCell_pz) ?_; intro w8 hY hG; have hFn := ((Fr.refl [] w7).alloc _).step hG (by simp); have HFn := Lib.hid hFn; have HY := Lib.hid hY; clear hG hFn hY)
        have HFQ := Lib.hid (HFQ.out.trans HFn.out)
        go_roundw
        case rel => exact ⟨k + 1, by omega, by go_num, by rw [HC.out], HFQ.out⟩
        case measure => simp [intOf]; omega
      obtain ⟨q1, k1, q2, k2, q3, k3, q4, k4, rfl, -, -, -, -⟩ := hVp.open_
      have HP := Lib.hid hp
      have HFQ := Lib.hid (HFQ.out.trans hF)
      have HB := Lib.hid (HB.out.keep hF)
      have HBK := Lib.hid (HBK.out.keep hF)
      clear hp hF hVp d0 HX
      go_upto_region 15 with (refine wpList_store_row rfl 88 (.tmp 13) (.tmp 57) rfl w7.heap.size rfl _ _ rfl 88 (Box.new w7 88 #[.bool false, .int .i64 0, .int .u16 0, .int .u32 0, .int .u32 0, .slice none 0 0, .bool false, .int .u16 0, .slice none 0 0, .slice none 0 0, .slice none 0 0]) (by kernel_rfl) rfl (oneCell_pc _ _ _ _ _ _ _ _ _ _ _ ⟨_, _, _, rfl⟩ ⟨_, _, _, rfl⟩ ⟨_, _, _, rfl⟩ ⟨_, _, _, rfl⟩) ?_; intro w8 hY hG; have hFn := ((Fr.refl [] w7).alloc _).step hG (by simp); have HFn := Lib.hid hFn; have HY := Lib.hid hY; clear hG hFn hY)
      have hF := HFn.out
      have HFQ := Lib.hid (HFQ.out.trans hF)
      have HB := Lib.hid (HB.out.keep hF)
      have HBK := Lib.hid (HBK.out.keep hF)
      clear hF
      have HPB := HY
      clear HFn HY
      generalize hgp : w7.heap.size = gp at *
      clear hgp
      have hkc : k ≤ cv := by omega
      go_upto_region 16 with fail
      refine wp_region_T (fun w' => Fr [] w8.drew w') [] 11 #[false, false, false, false, false, false, false, false, false, false, false] (by kernel_rfl) rfl rfl ?_
      try simp only [List.append_eq, List.cons_append, List.nil_append]
      have hF := (Fr.refl [] w8).drew
      have HFQ := Lib.hid (HFQ.out.trans hF)
      have HB := Lib.hid (HB.out.keep hF)
      have HBK := Lib.hid (HBK.out.keep hF)
      have HPB := Lib.hid (HPB.out.keep hF)
      clear hF
      have HSS : Hid (Fr [] w8.drew w8.drew) := Lib.hid (Fr.refl _ _)
      generalize w8.drew = wd at *
      refine wpAnyT_load (i := 0) (v := ?_) rfl (by kernel_rfl) (by kernel_rfl) (by kernel_rfl) (by kernel_rfl) (by kernel_rfl) (fun _ _ _ h => h) HSS.out (by rfl) ?_ ?_
      rotate_left
      · intro w hSw; skip; go_simp; try with_reducible rfl
      simp only [Act.put, List.getElem_toArray, List.getElem_cons_zero, List.getElem_cons_succ, List.setIfInBounds_toArray, List.set_cons_zero, List.set_cons_succ]
      refine wpAnyT_load (i := 1) (v := ?_) rfl (by kernel_rfl) (by kernel_rfl) (by kernel_rfl) (by kernel_rfl) (by kernel_rfl) (fun _ _ _ h => h) HSS.out (by rfl) ?_ ?_
      rotate_left
      · intro w hSw; skip; go_simp; try with_reducible rfl
      simp only [Act.put, List.getElem_toArray, List.getElem_cons_zero, List.getElem_cons_succ, List.setIfInBounds_toArray, List.set_cons_zero, List.set_cons_succ]
      refine wpAnyT_load (i := 2) (v := ?_) rfl (by kernel_rfl) (by kernel_rfl) (by kernel_rfl) (by kernel_rfl) (by kernel_rfl) (fun _ _ _ h => h) HSS.out (by rfl) ?_ ?_
      rotate_left
      · intro w hSw; skip; go_simp; try with_reducible rfl
      simp only [Act.put, List.getElem_toArray, List.getElem_cons_zero, List.getElem_cons_succ, List.setIfInBounds_toArray, List.set_cons_zero, List.set_cons_succ]
      refine wpAnyT_load (i := 3) (v := ?_) rfl (by kernel_rfl) (by kernel_rfl) (by kernel_rfl) (by kernel_rfl) (by kernel_rfl) (fun _ _ _ h => h) HSS.out (by rfl) ?_ ?_
      rotate_left
      · intro w hSw; skip; go_simp; try with_reducible rfl
      simp only [Act.put, List.getElem_toArray, List.getElem_cons_zero, List.getElem_cons_succ, List.setIfInBounds_toArray, List.set_cons_zero, List.set_cons_succ]
      refine wpAnyT_load (i := 4) (v := ?_) rfl (by kernel_rfl) (by kernel_rfl) (by kernel_rfl) (by kernel_rfl) (by kernel_rfl) (fun _ _ _ h => h) HSS.out (by rfl) ?_ ?_
      rotate_left
      · intro w hSw; obtain ⟨p0, p1, p2, p3, p4, p5, p6, p7, p8, p9, p10⟩ := (HPB.out.keep hSw).pcells; go_simp; try with_reducible rfl
      simp only [Act.put, List.getElem_toArray, List.getElem_cons_zero, List.getElem_cons_succ, List.setIfInBounds_toArray, List.set_cons_zero, List.set_cons_succ]
      refine wpAnyT_one (i := 5) (by kernel_rfl) rfl (fun K hK => ?_)
      rw [if_pos (by rfl)]
      go_simp
      refine (r14Find_any ((HB.out.keep HSS.out).pre k (by omega) cv (by omega) (Nat.le_refl _)) p.seq).mono ?_
      rintro e w9 ⟨v9, rfl, hb, hF⟩
      obtain ⟨a9, c9, rfl⟩ := Sl.shape hb
      have HSS := Lib.hid (HSS.out.trans hF)
      clear hF hb
      go_simp
      refine hK.out _ _ (fun _ => HSS.out) ?_
      clear hK K
      simp only [Act.put, List.getElem_toArray, List.getElem_cons_zero, List.getElem_cons_succ, List.setIfInBounds_toArray, List.set_cons_zero, List.set_cons_succ]
      refine wpAnyT_load (i := 6) (v := ?_) rfl (by kernel_rfl) (by kernel_rfl) (by kernel_rfl) (by kernel_rfl) (by kernel_rfl) (fun _ _ _ h => h) HSS.out (by rfl) ?_ ?_
      rotate_left
      · intro w hSw; skip; go_simp; try with_reducible rfl
      simp only [Act.put, List.getElem_toArray, List.getElem_cons_zero, List.getElem_cons_succ, List.setIfInBounds_toArray, List.set_cons_zero, List.set_cons_succ]
      refine wpAnyT_load (i := 7) (v := ?_) rfl (by kernel_rfl) (by kernel_rfl) (by kernel_rfl) (by kernel_rfl) (by kernel_rfl) (fun _ _ _ h => h) HSS.out (by rfl) ?_ ?_
      rotate_left
      · intro w hSw; skip; go_simp; try with_reducible rfl
      simp only [Act.put, List.getElem_toArray, List.getElem_cons_zero, List.getElem_cons_succ, List.setIfInBounds_toArray, List.set_cons_zero, List.set_cons_succ]
      refine wpAnyT_load (i := 8) (v := ?_) rfl (by kernel_rfl) (by kernel_rfl) (by kernel_rfl) (by kernel_rfl) (by kernel_rfl) (fun _ _ _ h => h) HSS.out (by rfl) ?_ ?_
      rotate_left
      · intro w hSw; skip; go_simp; try with_reducible rfl
      simp only [Act.put, List.getElem_toArray, List.getElem_cons_zero, List.getElem_cons_succ, List.setIfInBounds_toArray, List.set_cons_zero, List.set_cons_succ]
      refine wpAnyT_load (i := 9) (v := ?_) rfl (by kernel_rfl) (by kernel_rfl) (by kernel_rfl) (by kernel_rfl) (by kernel_rfl) (fun _ _ _ h => h) HSS.out (by rfl) ?_ ?_
      rotate_left
      · intro w hSw; skip; go_simp; try with_reducible rfl
      simp only [Act.put, List.getElem_toArray, List.getElem_cons_zero, List.getElem_cons_succ, List.setIfInBounds_toArray, List.set_cons_zero, List.set_cons_succ]
      refine wpAnyT_load (i := 10) (v := ?_) rfl (by kernel_rfl) (by kernel_rfl) (by kernel_rfl) (by kernel_rfl) (by kernel_rfl) (fun _ _ _ h => h) HSS.out (by rfl) ?_ ?_
      rotate_left
      · intro w hSw; skip; go_simp; try with_reducible rfl
      simp only [Act.put, List.getElem_toArray, List.getElem_cons_zero, List.getElem_cons_succ, List.setIfInBounds_toArray, List.set_cons_zero, List.set_cons_succ]
      refine wpAnyT_done (by kernel_rfl) ?_ _
      have hF := HSS.out
      have HFQ := Lib.hid (HFQ.out.trans hF)
      have HB := Lib.hid (HB.out.keep hF)
      have HBK := Lib.hid (HBK.out.keep hF)
      have HPB := Lib.hid (HPB.out.keep hF)
      clear hF HSS
      obtain ⟨x, hfx⟩ := find_has HMM.out HP.out
      have hxl := (find_ok hfx).1
      obtain ⟨vq, hrun, hvq⟩ := HBK.out.run p.seq
      replace hrun := hrun true
      simp only [if_true] at hrun
      rw [hfx] at hrun hvq
      obtain ⟨aq, cq, rfl⟩ : ∃ a c, vq = .slice a x.length c := by have := Sl.shape hvq; simpa using this
      clear hvq
      obtain ⟨p0, p1, p2, p3, p4, p5, p6, p7, p8, p9, p10⟩ := HPB.out.pcells
      have hxi : ((x.length : Nat) : Int) ≠ 0 := by omega
      cases hfk : findL (ls.take k) p.seq with
      | some y =>
        have hyl := (find_ok hfk).1
        have hyi : ((y.length : Nat) : Int) ≠ 0 := by omega
        have HC : Hid (bookC ls (k + 1) = bookC ls k) := Lib.hid (by rw [HCS.out, show fresh (ls.take k) l = false by unfold fresh; rw [HP.out]; simp only [hfk]; rfl]; rfl)
        clear hfk hfx
        simp only [Option.getD_some, List.length_map]
        go_wp2_with fail
        go_roundw
        case rel => exact ⟨k + 1, by omega, by go_num, by rw [HC.out], HFQ.out⟩
        case measure => simp [intOf]; omega
      | none =>
        have HC : Hid (bookC ls (k + 1) = bookC ls k + 1) := Lib.hid (by rw [HCS.out, show fresh (ls.take k) l = true by unfold fresh; rw [HP.out]; simp only [hfk]; rfl]; rfl)
        clear hfk hfx
        simp only [Option.getD_none, List.map_nil, List.length_nil]
        go_wp2_with fail
        go_roundw
        case rel => exact ⟨k + 1, by omega, by go_num, by rw [HC.out]; go_num, HFQ.out⟩
        case measure => simp [intOf]; omega
    · obtain rfl : k = ls.length := by omega
      have hln := HBK.out.own.len Try.underlying96
      rw [HBK.out.size] at hln
      have HF := Lib.hid (HF.out.trans HFQ.out)
      go_wp2_with fail
      go_ret
      first | exact ⟨rfl, HF.out⟩ | exact ⟨ret_bool (by simp), HF.out⟩
end Go.Proofs.Ytchbgiindfoepaa
