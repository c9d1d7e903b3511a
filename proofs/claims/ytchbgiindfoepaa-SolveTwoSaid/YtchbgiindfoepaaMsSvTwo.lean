/- The walk of confluxlaw14.SolveTwo (printed by gen_svtwo.py). -/
import Derived.Test.YtchbgiindfoepaaMs38
import Derived.Test.YtchbgiindfoepaaMs37
import Derived.Test.YtchbgiindfoepaaMs23
import Derived.Test.YtchbgiindfoepaaMs29
import Derived.Test.YtchbgiindfoepaaMs34
namespace Go.Proofs.Ytchbgiindfoepaa
open Go.RowKit

theorem rev_take' {ls : List (List UInt8)} {k j : Nat} (h : j + (k + 1) = ls.length) (hj : j < ls.length) : ls.reverse.take (k + 1) = ls.reverse.take k ++ [ls[j]] := by
  have hk : k < ls.reverse.length := by rw [List.length_reverse]; omega
  rw [List.take_succ_eq_append_getElem hk, List.getElem_reverse]
  congr 3
  omega
theorem nodup_of_map {α β : Type} (f : α → β) : ∀ {ls : List α}, (ls.map f).Nodup → ls.Nodup
  | [], _ => List.nodup_nil
  | x :: xs, h => by
    rw [List.map_cons, List.nodup_cons] at h
    rw [List.nodup_cons]
    exact ⟨fun hm => h.1 (List.mem_map_of_mem hm), nodup_of_map f h.2⟩
theorem at_ne {ls : List (List UInt8)} (hn : ls.Nodup) {i j : Nat} (hi : i < ls.length) (hj : j < ls.length) (h : i ≠ j) : ls[i] ≠ ls[j] := fun e => h ((List.getElem_inj hn).1 e)
def restP (ls : List (List UInt8)) (lx : List UInt8) : List (List UInt8) := ls.reverse.filter (· != lx)
theorem restP_mem {ls : List (List UInt8)} {lx l : List UInt8} : l ∈ restP ls lx ↔ l ∈ ls ∧ l ≠ lx := by
  unfold restP
  rw [List.mem_filter, List.mem_reverse, bne_iff_ne]
theorem restP_find {ls : List (List UInt8)} {lx : List UInt8} (ho : ∀ l ∈ ls, okF l) (hn : (ls.map seqF).Nodup) (hx : lx ∈ ls) : (∀ l ∈ ls, l ≠ lx → findL (restP ls lx) (seqF l) = some l) ∧ findL (restP ls lx) (seqF lx) = none := by
  have h1 : ∀ l ∈ restP ls lx, okF l := fun l hl => ho l (restP_mem.1 hl).1
  have h2 : ((restP ls lx).map seqF).Nodup := by
    have hs : ((restP ls lx).map seqF).Sublist (ls.reverse.map seqF) := List.filter_sublist.map seqF
    refine hs.nodup ?_
    exact ((List.reverse_perm ls).map seqF).nodup_iff.2 hn
  refine ⟨fun l hl hne => find_in h1 h2 l (restP_mem.2 ⟨hl, hne⟩), find_not fun x hm _ e => ?_⟩
  obtain ⟨g1, g2⟩ := restP_mem.1 hm
  have key : ∀ {ys : List (List UInt8)}, (ys.map seqF).Nodup → ∀ a ∈ ys, ∀ b ∈ ys, seqF a = seqF b → a = b := by
    intro ys
    induction ys with
    | nil => intro _ a ha; cases ha
    | cons y ys ih =>
      intro hy a ha b hb e
      rw [List.map_cons, List.nodup_cons] at hy
      rcases List.mem_cons.1 ha with ha2 | ha2
      · rcases List.mem_cons.1 hb with hb2 | hb2
        · rw [ha2, hb2]
        · exact absurd (by rw [← ha2, e]; exact List.mem_map_of_mem hb2) hy.1
      · rcases List.mem_cons.1 hb with hb2 | hb2
        · exact absurd (by rw [← hb2, ← e]; exact List.mem_map_of_mem ha2) hy.1
        · exact ih hy.2 a ha2 b hb2 e
  exact g2 (key hn x g1 lx hx e)
/-- A repair of some of the packets, all but one of which are known. -/
theorem two_law {ls zs : List (List UInt8)} {q r : Rep_} {lx : List UInt8} {ss : UInt32} (hm : mkP ls = .ok q) (hr : mkP zs = .ok r) (hs : ∀ l ∈ zs, l ∈ ls) (hx : lx ∈ ls) (hss : ∀ l ∈ ls, ssF l = ss) :
    (lx ∈ zs → oneL (findL (restP ls lx)) ss r = (seqF lx, lx, 0)) ∧ (lx ∉ zs → oneL (findL (restP ls lx)) ss r = (0, [], 40)) := by
  have hk := restP_find (mkP_iff.1 hm).ok (mkP_nodup hm) hx
  have hz : zs.Nodup := nodup_of_map seqF (mkP_nodup hr)
  constructor
  · intro h
    have hp : zs.Perm (zs.erase lx ++ [lx]) := (List.perm_cons_erase h).trans (List.perm_append_singleton _ _).symm
    refine (one_lost hr hp (fun l hl => hss l (hs l hl)) (fun l hl => ?_) hk.2).1
    obtain ⟨g1, g2⟩ := (hz.mem_erase_iff).1 hl
    exact hk.1 l (hs l g2) g1
  · intro h
    exact (none_lost hr (fun l hl => hss l (hs l hl)) (fun l hl => hk.1 l (hs l hl) (fun e => h (e ▸ hl)))).1
theorem someR_ok {ls : List (List UInt8)} {xs : List Int} {r : Rep_} (h : someR ls xs = .ok r) : pickOk ls.length xs ∧ mkP (pick ls xs) = .ok r := by
  unfold someR at h
  split at h
  · rename_i hp
    exact ⟨hp, h⟩
  · cases h
theorem pick_sub {ls : List (List UInt8)} {xs : List Int} (h : pickOk ls.length xs) : ∀ l ∈ pick ls xs, l ∈ ls := by
  intro l hl
  obtain ⟨x, hx, rfl⟩ := List.mem_map.1 hl
  have := h.1 x hx
  rw [List.getD_eq_getElem?_getD, List.getElem?_eq_getElem (by omega : x.toNat < ls.length)]
  exact List.getElem_mem _
theorem pick_mem {ls : List (List UInt8)} {xs : List Int} (hn : ls.Nodup) (h : pickOk ls.length xs) {i : Nat} (hi : i < ls.length) : ls[i] ∈ pick ls xs ↔ (i : Int) ∈ xs := by
  constructor
  · intro hl
    obtain ⟨x, hx, e⟩ := List.mem_map.1 hl
    have hb := h.1 x hx
    have hxl : x.toNat < ls.length := by omega
    rw [List.getD_eq_getElem?_getD, List.getElem?_eq_getElem hxl] at e
    have := (List.getElem_inj (h₀ := hxl) (h₁ := hi) hn).1 e
    have : x = (i : Int) := by omega
    rwa [← this]
  · intro hx
    refine List.mem_map.2 ⟨_, hx, ?_⟩
    rw [Int.toNat_natCast, List.getD_eq_getElem?_getD, List.getElem?_eq_getElem hi]
    rfl
/-- What a repair's making gives, right or wrong. -/
def MadeU (x : Except Int Rep_) (e : Ending) (w' : World) : Prop := ∃ r vb k, e = .returned (.tuple #[.agg (rpc r vb), .int .i64 k]) ∧ Bytes w' vb r.bt.body ∧ (k = 0 ∧ x = .ok r ∨ k ≠ 0)
theorem Made.u {x : Except Int Rep_} {n : Nat} {e : Ending} {w' : World} (h : Made x n e w') : MadeU x e w' := by
  rcases h with ⟨r, v', hm, rfl, hv⟩ | ⟨kk, hm, hk0, rfl⟩
  · obtain ⟨vb, rfl, hb, -⟩ := hv
    exact ⟨r, vb, 0, rfl, hb, .inl ⟨rfl, hm⟩⟩
  · exact ⟨zrep14, .slice none 0 0, kk, rfl, Sl.nil _, .inr hk0⟩
set_option maxRecDepth 100000 in
set_option maxHeartbeats 16000000 in
theorem SolveTwo_any {w : World} {v va vb : Value} {ls : List (List UInt8)} {xs ys : List Int} (hl : BRows w v ls) (hxs : Ints w va xs) (hys : Ints w vb ys) (c : Int) :
    Calls Try.prog 11 #[v, va, vb, .int .i64 c] w fun e w' => e = .returned (.bool true) ∧ Fr [] w w' := by
  obtain ⟨av, cv, rfl⟩ := hl.shape
  obtain ⟨ax, cx, rfl⟩ := Sl.shape hxs
  obtain ⟨ay, cy, rfl⟩ := Sl.shape hys
  rw [List.length_map] at hxs hys ⊢
  have hlen := hl.len
  unfold maxLen at hlen
  rw [List.length_map]
  have HB := Lib.hid hl; have HX := Lib.hid hxs; have HYS := Lib.hid hys; have HF : Hid (Fr [] w w) := Lib.hid (Fr.refl _ _)
  clear hl hxs hys
  go_enter Try.func11, Try.ntmps11
  go_wp2_with fail
  refine l14alive_any.mono ?_
  rintro e w1 ⟨rfl, hF⟩
  have HF := Lib.hid (HF.out.trans hF)
  have HB := Lib.hid (HB.out.keep hF)
  have HX := Lib.hid (Sl.keep HX.out hF)
  have HYS := Lib.hid (Sl.keep HYS.out hF)
  clear hF
  go_wp2_with fail
  refine (RFew13_any HB.out 40 300 (by omega) (by omega)).mono ?_
  rintro e w2 ⟨rfl, hF⟩
  have HF := Lib.hid (HF.out.trans hF)
  have HB := Lib.hid (HB.out.keep hF)
  have HX := Lib.hid (Sl.keep HX.out hF)
  have HYS := Lib.hid (Sl.keep HYS.out hF)
  clear hF
  by_cases hfew : few13 ls 40 300 = true
  rotate_left
  · have hfew2 : few13 ls 40 300 = false := by simpa using hfew
    rw [hfew2]
    go_wp2_with fail
    go_ret
    first | exact ⟨rfl, HF.out⟩ | exact ⟨ret_bool (by simp), HF.out⟩
  rw [hfew]
  obtain ⟨hn40, hsz⟩ := few13_true hfew
  clear hfew hsz
  by_cases h0 : ls.length = 0
  · have e0 : ((ls.length : Int) == 0) = true := by rw [h0]; rfl
    go_wp2_with fail
    go_ret
    first | exact ⟨rfl, HF.out⟩ | exact ⟨ret_bool (by simp), HF.out⟩
  have e0 : ((ls.length : Int) == 0) = false := by rw [beq_eq_false_iff_ne]; omega
  by_cases hxl : 40 < xs.length
  · have e1 : decide ((40 : Int) < (xs.length : Int)) = true := decide_eq_true (by omega)
    go_wp2_with fail
    go_ret
    first | exact ⟨rfl, HF.out⟩ | exact ⟨ret_bool (by simp), HF.out⟩
  have e1 : decide ((40 : Int) < (xs.length : Int)) = false := decide_eq_false (by omega)
  by_cases hyl : 40 < ys.length
  · have e2 : decide ((40 : Int) < (ys.length : Int)) = true := decide_eq_true (by omega)
    go_wp2_with fail
    go_ret
    first | exact ⟨rfl, HF.out⟩ | exact ⟨ret_bool (by simp), HF.out⟩
  have e2 : decide ((40 : Int) < (ys.length : Int)) = false := decide_eq_false (by omega)
  go_wp2_with fail
  refine (pSome_any HB.out HX.out (by omega) (by omega)).mono ?_
  rintro e w3 ⟨hF, hmd⟩
  obtain ⟨r, vbr, kr, rfl, hb, hmr⟩ := Made.u hmd
  obtain ⟨ar, nr, cr, rfl⟩ := Sl.isSlice hb
  have HMr := Lib.hid hmr
  have HF := Lib.hid (HF.out.trans hF)
  have HB := Lib.hid (HB.out.keep hF)
  have HX := Lib.hid (Sl.keep HX.out hF)
  have HYS := Lib.hid (Sl.keep HYS.out hF)
  have HBDr := Lib.hid hb
  clear hb hF hmr hmd
  go_upto_region 6 with (refine wpList_store_row rfl 58 (.tmp 9) (.tmp 57) rfl w3.heap.size rfl _ _ rfl 58 (Box.new w3 58 rpz) (by kernel_rfl) rfl (by simp [Value.oneCell']) ?_; intro w4 hY hG; have hFn := ((Fr.refl [] w3).alloc _).step hG (by simp); have HFn := Lib.hid hFn; have HY := Lib.hid hY; clear hG hFn hY)
  have hF := HFn.out
  have HF := Lib.hid (HF.out.trans hF)
  have HB := Lib.hid (HB.out.keep hF)
  have HX := Lib.hid (Sl.keep HX.out hF)
  have HYS := Lib.hid (Sl.keep HYS.out hF)
  have HBDr := Lib.hid (Sl.keep HBDr.out hF)
  have HR := HY
  clear hF HFn HY
  generalize hgr : w3.heap.size = gr at *
  clear hgr
  go_wp2_with fail
  refine (pSome_any HB.out HYS.out (by omega) (by omega)).mono ?_
  rintro e w5 ⟨hF, hmd⟩
  obtain ⟨q, vbq, kq, rfl, hb, hmq⟩ := Made.u hmd
  obtain ⟨aq, nq, cq, rfl⟩ := Sl.isSlice hb
  have HMq := Lib.hid hmq
  have HF := Lib.hid (HF.out.trans hF)
  have HB := Lib.hid (HB.out.keep hF)
  have HX := Lib.hid (Sl.keep HX.out hF)
  have HYS := Lib.hid (Sl.keep HYS.out hF)
  have HBDr := Lib.hid (Sl.keep HBDr.out hF)
  have HR := Lib.hid (HR.out.keep hF)
  have HBDq := Lib.hid hb
  clear hb hF hmq hmd
  go_upto_region 7 with (refine wpList_store_row rfl 58 (.tmp 11) (.tmp 63) rfl w5.heap.size rfl _ _ rfl 58 (Box.new w5 58 rpz) (by kernel_rfl) rfl (by simp [Value.oneCell']) ?_; intro w6 hY hG; have hFn := ((Fr.refl [] w5).alloc _).step hG (by simp); have HFn := Lib.hid hFn; have HY := Lib.hid hY; clear hG hFn hY)
  have hF := HFn.out
  have HF := Lib.hid (HF.out.trans hF)
  have HB := Lib.hid (HB.out.keep hF)
  have HX := Lib.hid (Sl.keep HX.out hF)
  have HYS := Lib.hid (Sl.keep HYS.out hF)
  have HBDr := Lib.hid (Sl.keep HBDr.out hF)
  have HR := Lib.hid (HR.out.keep hF)
  have HBDq := Lib.hid (Sl.keep HBDq.out hF)
  have HQ := HY
  clear hF HFn HY
  generalize hgq : w5.heap.size = gq at *
  clear hgq
  go_wp2_with fail
  refine (pMake_any HB.out).mono ?_
  rintro e w7 ⟨hF, hmd⟩
  obtain ⟨u, vbu, ku, rfl, hb, hmu⟩ := Made.u hmd
  obtain ⟨au, nu, cu, rfl⟩ := Sl.isSlice hb
  have HMu := Lib.hid hmu
  have HF := Lib.hid (HF.out.trans hF)
  have HB := Lib.hid (HB.out.keep hF)
  have HX := Lib.hid (Sl.keep HX.out hF)
  have HYS := Lib.hid (Sl.keep HYS.out hF)
  have HBDr := Lib.hid (Sl.keep HBDr.out hF)
  have HR := Lib.hid (HR.out.keep hF)
  have HBDq := Lib.hid (Sl.keep HBDq.out hF)
  have HQ := Lib.hid (HQ.out.keep hF)
  have HBDu := Lib.hid hb
  clear hb hF hmu hmd
  go_upto_region 8 with (refine wpList_store_row rfl 58 (.tmp 13) (.tmp 68) rfl w7.heap.size rfl _ _ rfl 58 (Box.new w7 58 rpz) (by kernel_rfl) rfl (by simp [Value.oneCell']) ?_; intro w8 hY hG; have hFn := ((Fr.refl [] w7).alloc _).step hG (by simp); have HFn := Lib.hid hFn; have HY := Lib.hid hY; clear hG hFn hY)
  have hF := HFn.out
  have HF := Lib.hid (HF.out.trans hF)
  have HB := Lib.hid (HB.out.keep hF)
  have HX := Lib.hid (Sl.keep HX.out hF)
  have HYS := Lib.hid (Sl.keep HYS.out hF)
  have HBDr := Lib.hid (Sl.keep HBDr.out hF)
  have HR := Lib.hid (HR.out.keep hF)
  have HBDq := Lib.hid (Sl.keep HBDq.out hF)
  have HQ := Lib.hid (HQ.out.keep hF)
  have HBDu := Lib.hid (Sl.keep HBDu.out hF)
  have HU := HY
  clear hF HFn HY
  generalize hgu : w7.heap.size = gu at *
  clear hgu
  rcases HMr.out with ⟨rfl, hmr⟩ | hkr
  rotate_left
  · have hkb : (kr != 0) = true := bne_iff_ne.2 hkr
    go_wp2_with fail
    go_ret
    first | exact ⟨rfl, HF.out⟩ | exact ⟨ret_bool (by simp), HF.out⟩
  clear HMr
  have HMr := Lib.hid hmr
  clear hmr
  rcases HMq.out with ⟨rfl, hmq⟩ | hkq
  rotate_left
  · have hkb : (kq != 0) = true := bne_iff_ne.2 hkq
    go_wp2_with fail
    go_ret
    first | exact ⟨rfl, HF.out⟩ | exact ⟨ret_bool (by simp), HF.out⟩
  clear HMq
  have HMq := Lib.hid hmq
  clear hmq
  rcases HMu.out with ⟨rfl, hmu⟩ | hku
  rotate_left
  · have hkb : (ku != 0) = true := bne_iff_ne.2 hku
    go_wp2_with fail
    go_ret
    first | exact ⟨rfl, HF.out⟩ | exact ⟨ret_bool (by simp), HF.out⟩
  clear HMu
  have HMu := Lib.hid hmu
  clear hmu
  by_cases hx0 : xs.length = 0
  · go_wp2_with fail
    go_ret
    first | exact ⟨rfl, HF.out⟩ | exact ⟨ret_bool (by simp), HF.out⟩
  obtain ⟨cn, hcn, hcl⟩ := and1023 c
  obtain ⟨kk, hkk⟩ : ∃ kk, kk = cn % xs.length := ⟨_, rfl⟩
  have hkl : kk < xs.length := by rw [hkk]; exact Nat.mod_lt _ (by omega)
  have hKK : ((cn : Int) % (xs.length : Int)) = (kk : Int) := by rw [hkk]; omega
  clear hkk
  obtain ⟨bx, ox, ea, -, -⟩ := Sl.at_ HX.out hkl
  subst ea
  have d0 := Ints.at_ HX.out kk hkl
  have HXM : Hid (xs[kk] ∈ xs) := Lib.hid (List.getElem_mem hkl)
  have hpx := someR_ok HMr.out
  have hpy := someR_ok HMq.out
  have hbx := hpx.1.1 _ (List.getElem_mem hkl)
  have HPX := Lib.hid hpx
  have HPY := Lib.hid hpy
  clear hpx hpy
  generalize xs[kk] = x at *
  obtain ⟨i, rfl⟩ := Int.eq_ofNat_of_zero_le hbx.1
  have hil : i < ls.length := by omega
  clear hbx
  go_upto_region 11 with fail
  clear d0 hcn hKK
  go_wp2_with fail
  have HYS0 := HYS
  go_loopw [16, 95] (fun bv iv wr => ∃ k : Nat, k ≤ ys.length ∧ iv = .int .i64 k ∧ bv = .bool (decide ((i : Int) ∈ ys.take k)) ∧ wr = w8) (fun _ iv _ => ys.length - (intOf iv).toNat)
  case atStart => exact ⟨0, Nat.zero_le _, rfl, by simp, rfl⟩
  case round =>
    obtain ⟨k, hk, rfl, rfl, rfl⟩ := hrel
    by_cases hlt : k < ys.length
    · obtain ⟨by_, oy, ea, -, -⟩ := Sl.at_ HYS.out hlt
      subst ea
      have d0 := Ints.at_ HYS.out k hlt
      have HT : Hid (ys.take (k + 1) = ys.take k ++ [ys[k]]) := Lib.hid (List.take_succ_eq_append_getElem hlt)
      generalize ys[k] = y at *
      by_cases hm : (i : Int) ∈ ys.take k
      · have HD : Hid (decide ((i : Int) ∈ ys.take (k + 1)) = true) := Lib.hid (by rw [HT.out]; simp [hm])
        rw [decide_eq_true hm]
        clear hm
        go_wp2_with fail
        exact ⟨⟨k + 1, by omega, by go_num, by rw [HD.out], by first | rfl | trivial⟩, by simp [intOf]; omega⟩
      rw [decide_eq_false hm]
      by_cases hy : y = (i : Int)
      · subst hy
        have HD : Hid (decide ((i : Int) ∈ ys.take (k + 1)) = true) := Lib.hid (by rw [HT.out]; simp)
        clear hm
        go_wp2_with fail
        exact ⟨⟨k + 1, by omega, by go_num, by rw [HD.out], by first | rfl | trivial⟩, by simp [intOf]; omega⟩
      · have HD : Hid (decide ((i : Int) ∈ ys.take (k + 1)) = false) := Lib.hid (by rw [HT.out]; simp only [List.mem_append, List.mem_singleton, hm, false_or, decide_eq_false_iff_not]; exact fun e => hy e.symm)
        have hyb : (y == (i : Int)) = false := by simpa using hy
        clear hm hy
        go_wp2_with fail
        exact ⟨⟨k + 1, by omega, by go_num, by rw [HD.out], by first | rfl | trivial⟩, by simp [intOf]; omega⟩
    · obtain rfl : k = ys.length := by omega
      rw [List.take_length]
      clear hlt
      have HBM : Hid (decide ((i : Int) ∈ ys) = decide ((i : Int) ∈ ys)) := Lib.hid rfl
      have hn := nodup_of_map seqF (mkP_nodup HMu.out)
      have HN := Lib.hid hn
      obtain ⟨b, o, al0, cl0, ea, -, hc0, hx0'⟩ := HB.out.at_ 0 (by omega)
      subst ea
      simp only [Nat.add_zero] at hc0
      have HX0 := Lib.hid hx0'
      go_wp2_with fail
      refine (SSRC_any HX0.out).mono ?_
      rintro e w9 (⟨p0, hp0, rfl, hF⟩ | ⟨k2, hp0, -, -⟩)
      rotate_left
      · obtain ⟨p, hp⟩ := (mkP_iff.1 HMu.out).ok ls[0] (List.getElem_mem (by omega))
        rw [hp] at hp0
        cases hp0
      have hss : ∀ l ∈ ls, ssF l = p0.ssrc := fun l hl => by
        rw [(mkP_iff.1 HMu.out).alike l hl ls[0] (List.getElem_mem (by omega))]
        unfold ssF
        rw [hp0]
      have HSC := Lib.hid hss
      clear hss hp0 HX0 hx0' hc0 hn
      generalize p0.ssrc = ss at *
      have HF := Lib.hid (HF.out.trans hF)
      have HB := Lib.hid (HB.out.keep hF)
      have HBDr := Lib.hid (Sl.keep HBDr.out hF)
      have HR := Lib.hid (HR.out.keep hF)
      have HBDq := Lib.hid (Sl.keep HBDq.out hF)
      have HQ := Lib.hid (HQ.out.keep hF)
      have HBDu := Lib.hid (Sl.keep HBDu.out hF)
      have HU := Lib.hid (HU.out.keep hF)
      clear hF
      clear HX HYS HYS0
      have HLX1 := Lib.hid (two_law HMu.out HPX.out.2 (pick_sub HPX.out.1) (List.getElem_mem hil) HSC.out)
      have HLX2 := Lib.hid (two_law HMu.out HPY.out.2 (pick_sub HPY.out.1) (List.getElem_mem hil) HSC.out)
      have HLX3 := Lib.hid (two_law HMu.out HMu.out (fun l hl => hl) (List.getElem_mem hil) HSC.out)
      have HO1 : Hid (oneL (findL (restP ls ls[i])) ss r = (seqF ls[i], ls[i], 0)) := Lib.hid (HLX1.out.1 ((pick_mem HN.out HPX.out.1 hil).2 HXM.out))
      have HO3 : Hid (oneL (findL (restP ls ls[i])) ss u = (seqF ls[i], ls[i], 0)) := Lib.hid (HLX3.out.1 (List.getElem_mem hil))
      have HO2a : Hid ((i : Int) ∈ ys → oneL (findL (restP ls ls[i])) ss q = (seqF ls[i], ls[i], 0)) := Lib.hid (fun h => HLX2.out.1 ((pick_mem HN.out HPY.out.1 hil).2 h))
      have HO2b : Hid ((i : Int) ∉ ys → oneL (findL (restP ls ls[i])) ss q = (0, [], 40)) := Lib.hid (fun h => HLX2.out.2 (fun hm => h ((pick_mem HN.out HPY.out.1 hil).1 hm)))
      clear HLX1 HLX2 HLX3 HXM HBM HPX HPY
      go_upto_region 18 with fail
      obtain ⟨w10, e10, hF, hB10, hs10⟩ := one_new w9 #[] 25
      have HO : Hid (OwnEls 1 BytesR w10 w9.heap.size 25 (.slice (some ⟨w9.heap.size, 0, none⟩) 0 0) [] []) := Lib.hid (by rw [← e10]; exact OwnEls.made w9 w9.heap.size _ (Nat.le_refl _))
      have E10 := Lib.hid e10
      have HB9 := HB
      have HF9 := HF
      have HBDr9 := HBDr
      have HR9 := HR
      have HBDq9 := HBDq
      have HQ9 := HQ
      have HBDu9 := HBDu
      have HU9 := HU
      have HF := Lib.hid (HF.out.trans hF)
      have HB := Lib.hid (HB.out.keep hF)
      have HBDr := Lib.hid (Sl.keep HBDr.out hF)
      have HR := Lib.hid (HR.out.keep hF)
      have HBDq := Lib.hid (Sl.keep HBDq.out hF)
      have HQ := Lib.hid (HQ.out.keep hF)
      have HBDu := Lib.hid (Sl.keep HBDu.out hF)
      have HU := Lib.hid (HU.out.keep hF)
      have HN9 : Hid (w9.heap.size ≤ w10.heap.size) := Lib.hid hF.size
      have HFW := Lib.hid hF
      clear e10 hF hB10 hs10
      obtain ⟨N, hN⟩ : ∃ N, w9.heap.size = N := ⟨_, rfl⟩
      have HNE := Lib.hid hN
      go_upto_region 19 with fail
      rw [E10.out]
      clear E10
      rw [hN] at HO HN9
      clear hN
      go_wp2_with fail
      have HF10 := HF; have HB10 := HB
      have HBDr0 := HBDr
      have HR0 := HR
      have HBDq0 := HBDq
      have HQ0 := HQ
      have HBDu0 := HBDu
      have HU0 := HU
      go_loopw [21, 116] (fun sv iv wr => ∃ (k : Nat) (Bs : List Nat), k ≤ ls.length ∧ iv = .int .i64 k ∧ OwnEls 1 BytesR wr N 25 sv ((ls.reverse.take k).filter (· != ls[i])) Bs ∧ (∀ b ∈ Bs, b < N) ∧ Fr [] w9 wr) (fun _ iv _ => ls.length - (intOf iv).toNat)
      case atStart => exact ⟨0, [], Nat.zero_le _, rfl, HO.out, by simp, by have := HFW.out; exact this⟩
      case round =>
        clear HO
        obtain ⟨k, Bs, hk, rfl, hO, hBs, hF⟩ := hrel
        obtain ⟨as_, cs, rfl⟩ := hO.shape
        have HO := Lib.hid hO; have HBS := Lib.hid hBs; have HFQ := Lib.hid hF
        clear hO hBs hF
        have hfl : ((ls.reverse.take k).filter (· != ls[i])).length ≤ k := by
          refine Nat.le_trans (List.length_filter_le _ _) ?_
          rw [List.length_take]
          omega
        have HFL := Lib.hid hfl
        clear hfl
        by_cases hlt : k < ls.length
        · obtain ⟨j, hj⟩ : ∃ j, j + (k + 1) = ls.length := ⟨ls.length - (k + 1), by omega⟩
          have hjl : j < ls.length := by omega
          have hj1 : (ls.length : Int) - 1 - (k : Int) = (j : Int) := by omega
          have HT := Lib.hid (rev_take' hj hjl)
          by_cases hji : j = i
          · subst hji
            have HT2 : Hid ((ls.reverse.take (k + 1)).filter (· != ls[j]) = (ls.reverse.take k).filter (· != ls[j])) := Lib.hid (by rw [HT.out, List.filter_append, List.filter_cons_of_neg (by simp)]; simp)
            have hwj : IntKind.i64.wrap (IntKind.i64.wrap ((ls.length : Int) - 1) - (k : Int)) = (j : Int) := by rw [IntWalk.i64_in _ (by omega : -9223372036854775808 ≤ (ls.length : Int) - 1 ∧ (ls.length : Int) - 1 ≤ 9223372036854775807), IntWalk.i64_in _ (by omega)]; omega
            generalize List.length ((ls.reverse.take k).filter (· != ls[j])) = fl at *
            go_wp2_with fail
            exact ⟨⟨k + 1, Bs, by omega, by go_num, by rw [HT2.out]; exact HO.out, HBS.out, HFQ.out⟩, by simp [intOf]; omega⟩
          have HT2 : Hid ((ls.reverse.take (k + 1)).filter (· != ls[i]) = (ls.reverse.take k).filter (· != ls[i]) ++ [ls[j]]) := Lib.hid (by rw [HT.out, List.filter_append, List.filter_cons_of_pos (by rw [bne_iff_ne]; exact at_ne HN.out hjl hil hji)]; simp)
          obtain ⟨b', o', al, cl, ea, hbl, hc, hx⟩ := HB9.out.at_ j hjl
          cases ea
          have HXL : Hid (∀ x ∈ (liveOf (.slice al ls[j].length cl)).toList, x < N) := Lib.hid (fun x hm => by have h1 := Sl.lt hx x (mem_toList.1 hm); have := HNE.out; omega)
          have HX := Lib.hid (Sl.keep hx HFQ.out)
          have d0 := HFQ.out.cellSome hc (by simp)
          clear hx hc
          generalize hfs : (ls.reverse.take k).filter (· != ls[i]) = fs at *
          have HFS := Lib.hid hfs
          clear hfs
          generalize ls[j] = y at *
          obtain ⟨w11, e11, hF11, hB11, hs11⟩ := one_new wr #[.slice al y.length cl] 25
          have E11 := Lib.hid e11; have HF11 := Lib.hid hF11; have HB11 := Lib.hid hB11
          clear e11 hF11 hB11 hs11
          have HOS : Hid (OwnEls 1 BytesR w11 N 25 (.slice as_ fs.length cs) fs Bs) := Lib.hid (HO.out.keep Rep.bytes HF11.out)
          have HDJ : Hid (∀ b, blockOf (.slice as_ fs.length cs) = some b → b ∉ (liveOf (.slice al y.length cl)).toList) := Lib.hid (fun b hb hm => by have h1 := HXL.out b hm; have h2 := (HO.out.block b hb).1; omega)
          have HX6 := Lib.hid (Sl.keep HX.out HF11.out)
          have HL1 : Hid (fs.length + 1 ≤ maxLen) := Lib.hid (by have := HFL.out; unfold maxLen; omega)
          have HL2 : Hid ((fs.length + 1) * 24 ≤ 140737488355328) := Lib.hid (by have := HFL.out; omega)
          have HL3 : Hid (N ≤ w11.heap.size) := Lib.hid (by have := HFQ.out.size; have := HF11.out.size; have := HNE.out; omega)
          have hji2 : (j : Int) ≠ (i : Int) := by omega
          go_wp2_with (at_builtin; (rw [E11.out]); refine wpList_append_el Rep.bytes (by decide) rfl (.tmp 127) (.tmp 132) 22 rfl N 25 (.slice none 0 0) 24 Try.underlying22 info_bs rfl (.slice as_ fs.length cs) fs Bs rfl HOS.out wr.heap.size 0 1 rfl [.slice al y.length cl] y (liveOf (.slice al y.length cl)).toList (box_range HB11.out) ⟨_, rfl, HX6.out, rfl⟩ HDJ.out HL1.out HL2.out HL3.out ?_; intro vs1 w12 hown1 hfr1 hbl1; have HV1 := Lib.hid hown1; have HF12 := Lib.hid hfr1; obtain ⟨as1, cs1, rfl⟩ := hown1.shape; clear hown1 hfr1 hbl1)
          exact ⟨⟨k + 1, _, by omega, by go_num, by rw [HT2.out]; have h1 := HV1.out; rw [List.length_append] at h1; exact h1, fun x hx => by
              rcases List.mem_append.1 hx with hx | hx
              · exact HBS.out x hx
              · exact HXL.out x hx, (HFQ.out.trans HF11.out).step HF12.out (fun x hx => .inr (by have h1 := (HOS.out.block x (mem_toList.1 hx)).1; have := HNE.out; omega))⟩, by simp [intOf]; omega⟩
        · obtain rfl : k = ls.length := by omega
          have hfr : (ls.reverse.take ls.length).filter (· != ls[i]) = restP ls ls[i] := by unfold restP; rw [List.take_of_length_le (by rw [List.length_reverse]; omega)]
          rw [hfr] at HO ⊢
          have HRS : Hid (BRows wr (.slice as_ (restP ls ls[i]).length cs) (restP ls ls[i])) := Lib.hid HO.out.sl.rows
          clear hfr HO HBS HFL hlt
          have hF : Fr [] w9 wr := HFQ.out
          have HFa : Hid (Fr [] w wr) := Lib.hid (HF9.out.trans hF)
          have HBDr := Lib.hid (Sl.keep HBDr9.out hF)
          have HR := Lib.hid (HR9.out.keep hF)
          have HBDq := Lib.hid (Sl.keep HBDq9.out hF)
          have HQ := Lib.hid (HQ9.out.keep hF)
          have HBDu := Lib.hid (Sl.keep HBDu9.out hF)
          have HU := Lib.hid (HU9.out.keep hF)
          have HB := Lib.hid (HB9.out.keep hF)
          have HF := HFa
          clear hF HFa HFQ
          clear HBDr9 HBDr0 HR9 HR0 HBDq9 HBDq0 HQ9 HQ0 HBDu9 HBDu0 HU9 HU0 HB9 HF9 HF10 HB10
          generalize restP ls ls[i] = rs at *
          obtain ⟨b', o', al, cl, ea, -, hc, hx⟩ := HB.out.at_ i hil
          cases ea
          have HX := Lib.hid hx; have HC := Lib.hid hc
          clear hc hx
          have HLK : Hid (ls[i].length ≤ 1099511627776) := Lib.hid (by obtain ⟨p, hp⟩ := (mkP_iff.1 HMu.out).ok ls[i] (List.getElem_mem hil); have := (parse_len hp).2; omega)
          generalize ls[i] = lx at *
          have HS1 : Hid (r.bt.body.length ≤ 1099511627776) := Lib.hid (by have := someR_1500 HMr.out; omega)
          have HS2 : Hid (q.bt.body.length ≤ 1099511627776) := Lib.hid (by have := someR_1500 HMq.out; omega)
          have HS3 : Hid (u.bt.body.length ≤ 1099511627776) := Lib.hid (mkP_small HMu.out)
          go_upto_region 26 with fail
          refine wp_region_T (fun w' => Fr [] wr.drew w') [] 12 #[false, false, false, false, false, false, false, false, false, false, false, false] (by kernel_rfl) rfl rfl ?_
          try simp only [List.append_eq, List.cons_append, List.nil_append]
          have hF := (Fr.refl [] wr).drew
          have HF := Lib.hid (HF.out.trans hF)
          have HB := Lib.hid (HB.out.keep hF)
          have HBDr := Lib.hid (Sl.keep HBDr.out hF)
          have HR := Lib.hid (HR.out.keep hF)
          have HBDq := Lib.hid (Sl.keep HBDq.out hF)
          have HQ := Lib.hid (HQ.out.keep hF)
          have HBDu := Lib.hid (Sl.keep HBDu.out hF)
          have HU := Lib.hid (HU.out.keep hF)
          have HRS := Lib.hid (HRS.out.keep hF)
          have HX := Lib.hid (Sl.keep HX.out hF)
          have HC := Lib.hid (hF.cellSome HC.out (by simp))
          clear hF
          have HSS : Hid (Fr [] wr.drew wr.drew) := Lib.hid (Fr.refl _ _)
          generalize wr.drew = wd1 at *
          refine wpAnyT_load (i := 0) (v := ?_) rfl (by kernel_rfl) (by kernel_rfl) (by kernel_rfl) (by kernel_rfl) (by kernel_rfl) (fun _ _ _ h => h) HSS.out (by rfl) ?_ ?_
          rotate_left
          · intro w' hSw; refine run_load_row 58 (.tmp 9) ?_ gr ?_ 58 _ _ (HR.out.keep hSw) Try.underlying58 rfl (by kernel_rfl) <;> rfl
          simp only [Act.put, List.getElem_toArray, List.getElem_cons_zero, List.getElem_cons_succ, List.setIfInBounds_toArray, List.set_cons_zero, List.set_cons_succ]
          refine wpAnyT_load (i := 1) (v := ?_) rfl (by kernel_rfl) (by kernel_rfl) (by kernel_rfl) (by kernel_rfl) (by kernel_rfl) (fun _ _ _ h => h) HSS.out (by rfl) ?_ ?_
          rotate_left
          · intro w hSw; skip; go_simp; try with_reducible rfl
          simp only [Act.put, List.getElem_toArray, List.getElem_cons_zero, List.getElem_cons_succ, List.setIfInBounds_toArray, List.set_cons_zero, List.set_cons_succ]
          refine wpAnyT_load (i := 2) (v := ?_) rfl (by kernel_rfl) (by kernel_rfl) (by kernel_rfl) (by kernel_rfl) (by kernel_rfl) (fun _ _ _ h => h) HSS.out (by rfl) ?_ ?_
          rotate_left
          · intro w hSw; skip; go_simp; try with_reducible rfl
          simp only [Act.put, List.getElem_toArray, List.getElem_cons_zero, List.getElem_cons_succ, List.setIfInBounds_toArray, List.set_cons_zero, List.set_cons_succ]
          refine wpAnyT_one (i := 3) (by kernel_rfl) rfl (fun K hK => ?_)
          rw [if_pos (by rfl)]
          go_simp
          refine (l14by_any (HRS.out.keep HSS.out)).mono ?_
          rintro e wbr ⟨gk, rfl, hk, hF⟩
          have HK := Lib.hid hk
          have HSS := Lib.hid (HSS.out.trans hF)
          clear hk hF
          go_simp
          refine hK.out _ _ (fun _ => HSS.out) ?_
          clear hK K
          simp only [Act.put, List.getElem_toArray, List.getElem_cons_zero, List.getElem_cons_succ, List.setIfInBounds_toArray, List.set_cons_zero, List.set_cons_succ]
          refine wpAnyT_one (i := 4) (by kernel_rfl) rfl (fun K hK => ?_)
          rw [if_pos (by rfl)]
          go_simp
          refine (svOne_any (r := r) ⟨_, rfl, Sl.keep HBDr.out HSS.out⟩ HS1.out HK.out ss).mono ?_
          rw [HO1.out]
          rintro e wor ⟨vor, rfl, hO, hF⟩
          have HSS := Lib.hid (HSS.out.trans hF)
          obtain ⟨aor, nor, cor, rfl⟩ := Sl.isSlice hO
          have HOr := Lib.hid hO
          clear HK hO hF
          go_simp
          refine hK.out _ _ (fun _ => HSS.out) ?_
          clear hK K
          simp only [Act.put, List.getElem_toArray, List.getElem_cons_zero, List.getElem_cons_succ, List.setIfInBounds_toArray, List.set_cons_zero, List.set_cons_succ]
          refine wpAnyT_load (i := 5) (v := ?_) rfl (by kernel_rfl) (by kernel_rfl) (by kernel_rfl) (by kernel_rfl) (by kernel_rfl) (fun _ _ _ h => h) HSS.out (by rfl) ?_ ?_
          rotate_left
          · intro w hSw; skip; go_simp; try with_reducible rfl
          simp only [Act.put, List.getElem_toArray, List.getElem_cons_zero, List.getElem_cons_succ, List.setIfInBounds_toArray, List.set_cons_zero, List.set_cons_succ]
          refine wpAnyT_load (i := 6) (v := ?_) rfl (by kernel_rfl) (by kernel_rfl) (by kernel_rfl) (by kernel_rfl) (by kernel_rfl) (fun _ _ _ h => h) HSS.out (by rfl) ?_ ?_
          rotate_left
          · intro w hSw; skip; go_simp; try with_reducible rfl
          simp only [Act.put, List.getElem_toArray, List.getElem_cons_zero, List.getElem_cons_succ, List.setIfInBounds_toArray, List.set_cons_zero, List.set_cons_succ]
          refine wpAnyT_load (i := 7) (v := ?_) rfl (by kernel_rfl) (by kernel_rfl) (by kernel_rfl) (by kernel_rfl) (by kernel_rfl) (fun _ _ _ h => h) HSS.out (by rfl) ?_ ?_
          rotate_left
          · intro w hSw; skip; go_simp; try with_reducible rfl
          simp only [Act.put, List.getElem_toArray, List.getElem_cons_zero, List.getElem_cons_succ, List.setIfInBounds_toArray, List.set_cons_zero, List.set_cons_succ]
          refine wpAnyT_load (i := 8) (v := ?_) rfl (by kernel_rfl) (by kernel_rfl) (by kernel_rfl) (by kernel_rfl) (by kernel_rfl) (fun _ _ _ h => h) HSS.out (by rfl) ?_ ?_
          rotate_left
          · intro w hSw; skip; go_simp; try with_reducible rfl
          simp only [Act.put, List.getElem_toArray, List.getElem_cons_zero, List.getElem_cons_succ, List.setIfInBounds_toArray, List.set_cons_zero, List.set_cons_succ]
          refine wpAnyT_load (i := 9) (v := ?_) rfl (by kernel_rfl) (by kernel_rfl) (by kernel_rfl) (by kernel_rfl) (by kernel_rfl) (fun _ _ _ h => h) HSS.out (by rfl) ?_ ?_
          rotate_left
          · intro w hSw; skip; go_simp; try with_reducible rfl
          simp only [Act.put, List.getElem_toArray, List.getElem_cons_zero, List.getElem_cons_succ, List.setIfInBounds_toArray, List.set_cons_zero, List.set_cons_succ]
          refine wpAnyT_load (i := 10) (v := ?_) rfl (by kernel_rfl) (by kernel_rfl) (by kernel_rfl) (by kernel_rfl) (by kernel_rfl) (fun _ _ _ h => h) HSS.out (by rfl) ?_ ?_
          rotate_left
          · intro w hSw; skip; go_simp; try with_reducible rfl
          simp only [Act.put, List.getElem_toArray, List.getElem_cons_zero, List.getElem_cons_succ, List.setIfInBounds_toArray, List.set_cons_zero, List.set_cons_succ]
          refine wpAnyT_load (i := 11) (v := ?_) rfl (by kernel_rfl) (by kernel_rfl) (by kernel_rfl) (by kernel_rfl) (by kernel_rfl) (fun _ _ _ h => h) HSS.out (by rfl) ?_ ?_
          rotate_left
          · intro w hSw; skip; go_simp; try with_reducible rfl
          simp only [Act.put, List.getElem_toArray, List.getElem_cons_zero, List.getElem_cons_succ, List.setIfInBounds_toArray, List.set_cons_zero, List.set_cons_succ]
          refine wpAnyT_done (by kernel_rfl) ?_ _
          have hF := HSS.out
          have HF := Lib.hid (HF.out.trans hF)
          have HB := Lib.hid (HB.out.keep hF)
          have HBDr := Lib.hid (Sl.keep HBDr.out hF)
          have HR := Lib.hid (HR.out.keep hF)
          have HBDq := Lib.hid (Sl.keep HBDq.out hF)
          have HQ := Lib.hid (HQ.out.keep hF)
          have HBDu := Lib.hid (Sl.keep HBDu.out hF)
          have HU := Lib.hid (HU.out.keep hF)
          have HRS := Lib.hid (HRS.out.keep hF)
          have HX := Lib.hid (Sl.keep HX.out hF)
          have HC := Lib.hid (hF.cellSome HC.out (by simp))
          clear hF HSS
          by_cases hboth : (i : Int) ∈ ys
          · have HO2 := Lib.hid (HO2a.out hboth)
            rw [decide_eq_true hboth]
            clear hboth HO2a HO2b
            go_upto_region 27 with fail
            refine wp_region_T (fun w' => Fr [] wor.drew w') [] 12 #[false, false, false, false, false, false, false, false, false, false, false, false] (by kernel_rfl) rfl rfl ?_
            try simp only [List.append_eq, List.cons_append, List.nil_append]
            have hF := (Fr.refl [] wor).drew
            have HF := Lib.hid (HF.out.trans hF)
            have HB := Lib.hid (HB.out.keep hF)
            have HBDr := Lib.hid (Sl.keep HBDr.out hF)
            have HR := Lib.hid (HR.out.keep hF)
            have HBDq := Lib.hid (Sl.keep HBDq.out hF)
            have HQ := Lib.hid (HQ.out.keep hF)
            have HBDu := Lib.hid (Sl.keep HBDu.out hF)
            have HU := Lib.hid (HU.out.keep hF)
            have HRS := Lib.hid (HRS.out.keep hF)
            have HX := Lib.hid (Sl.keep HX.out hF)
            have HC := Lib.hid (hF.cellSome HC.out (by simp))
            have HOr := Lib.hid (Sl.keep HOr.out hF)
            clear hF
            have HSS : Hid (Fr [] wor.drew wor.drew) := Lib.hid (Fr.refl _ _)
            generalize wor.drew = wd2 at *
            refine wpAnyT_load (i := 0) (v := ?_) rfl (by kernel_rfl) (by kernel_rfl) (by kernel_rfl) (by kernel_rfl) (by kernel_rfl) (fun _ _ _ h => h) HSS.out (by rfl) ?_ ?_
            rotate_left
            · intro w' hSw; refine run_load_row 58 (.tmp 11) ?_ gq ?_ 58 _ _ (HQ.out.keep hSw) Try.underlying58 rfl (by kernel_rfl) <;> rfl
            simp only [Act.put, List.getElem_toArray, List.getElem_cons_zero, List.getElem_cons_succ, List.setIfInBounds_toArray, List.set_cons_zero, List.set_cons_succ]
            refine wpAnyT_load (i := 1) (v := ?_) rfl (by kernel_rfl) (by kernel_rfl) (by kernel_rfl) (by kernel_rfl) (by kernel_rfl) (fun _ _ _ h => h) HSS.out (by rfl) ?_ ?_
            rotate_left
            · intro w hSw; skip; go_simp; try with_reducible rfl
            simp only [Act.put, List.getElem_toArray, List.getElem_cons_zero, List.getElem_cons_succ, List.setIfInBounds_toArray, List.set_cons_zero, List.set_cons_succ]
            refine wpAnyT_load (i := 2) (v := ?_) rfl (by kernel_rfl) (by kernel_rfl) (by kernel_rfl) (by kernel_rfl) (by kernel_rfl) (fun _ _ _ h => h) HSS.out (by rfl) ?_ ?_
            rotate_left
            · intro w hSw; skip; go_simp; try with_reducible rfl
            simp only [Act.put, List.getElem_toArray, List.getElem_cons_zero, List.getElem_cons_succ, List.setIfInBounds_toArray, List.set_cons_zero, List.set_cons_succ]
            refine wpAnyT_one (i := 3) (by kernel_rfl) rfl (fun K hK => ?_)
            rw [if_pos (by rfl)]
            go_simp
            refine (l14by_any (HRS.out.keep HSS.out)).mono ?_
            rintro e wbq ⟨gk, rfl, hk, hF⟩
            have HK := Lib.hid hk
            have HSS := Lib.hid (HSS.out.trans hF)
            clear hk hF
            go_simp
            refine hK.out _ _ (fun _ => HSS.out) ?_
            clear hK K
            simp only [Act.put, List.getElem_toArray, List.getElem_cons_zero, List.getElem_cons_succ, List.setIfInBounds_toArray, List.set_cons_zero, List.set_cons_succ]
            refine wpAnyT_one (i := 4) (by kernel_rfl) rfl (fun K hK => ?_)
            rw [if_pos (by rfl)]
            go_simp
            refine (svOne_any (r := q) ⟨_, rfl, Sl.keep HBDq.out HSS.out⟩ HS2.out HK.out ss).mono ?_
            rw [HO2.out]
            rintro e woq ⟨voq, rfl, hO, hF⟩
            have HSS := Lib.hid (HSS.out.trans hF)
            obtain ⟨aoq, noq, coq, rfl⟩ := Sl.isSlice hO
            have HOq := Lib.hid hO
            clear HK hO hF
            go_simp
            refine hK.out _ _ (fun _ => HSS.out) ?_
            clear hK K
            simp only [Act.put, List.getElem_toArray, List.getElem_cons_zero, List.getElem_cons_succ, List.setIfInBounds_toArray, List.set_cons_zero, List.set_cons_succ]
            refine wpAnyT_load (i := 5) (v := ?_) rfl (by kernel_rfl) (by kernel_rfl) (by kernel_rfl) (by kernel_rfl) (by kernel_rfl) (fun _ _ _ h => h) HSS.out (by rfl) ?_ ?_
            rotate_left
            · intro w hSw; skip; go_simp; try with_reducible rfl
            simp only [Act.put, List.getElem_toArray, List.getElem_cons_zero, List.getElem_cons_succ, List.setIfInBounds_toArray, List.set_cons_zero, List.set_cons_succ]
            refine wpAnyT_load (i := 6) (v := ?_) rfl (by kernel_rfl) (by kernel_rfl) (by kernel_rfl) (by kernel_rfl) (by kernel_rfl) (fun _ _ _ h => h) HSS.out (by rfl) ?_ ?_
            rotate_left
            · intro w hSw; skip; go_simp; try with_reducible rfl
            simp only [Act.put, List.getElem_toArray, List.getElem_cons_zero, List.getElem_cons_succ, List.setIfInBounds_toArray, List.set_cons_zero, List.set_cons_succ]
            refine wpAnyT_load (i := 7) (v := ?_) rfl (by kernel_rfl) (by kernel_rfl) (by kernel_rfl) (by kernel_rfl) (by kernel_rfl) (fun _ _ _ h => h) HSS.out (by rfl) ?_ ?_
            rotate_left
            · intro w hSw; skip; go_simp; try with_reducible rfl
            simp only [Act.put, List.getElem_toArray, List.getElem_cons_zero, List.getElem_cons_succ, List.setIfInBounds_toArray, List.set_cons_zero, List.set_cons_succ]
            refine wpAnyT_load (i := 8) (v := ?_) rfl (by kernel_rfl) (by kernel_rfl) (by kernel_rfl) (by kernel_rfl) (by kernel_rfl) (fun _ _ _ h => h) HSS.out (by rfl) ?_ ?_
            rotate_left
            · intro w hSw; skip; go_simp; try with_reducible rfl
            simp only [Act.put, List.getElem_toArray, List.getElem_cons_zero, List.getElem_cons_succ, List.setIfInBounds_toArray, List.set_cons_zero, List.set_cons_succ]
            refine wpAnyT_load (i := 9) (v := ?_) rfl (by kernel_rfl) (by kernel_rfl) (by kernel_rfl) (by kernel_rfl) (by kernel_rfl) (fun _ _ _ h => h) HSS.out (by rfl) ?_ ?_
            rotate_left
            · intro w hSw; skip; go_simp; try with_reducible rfl
            simp only [Act.put, List.getElem_toArray, List.getElem_cons_zero, List.getElem_cons_succ, List.setIfInBounds_toArray, List.set_cons_zero, List.set_cons_succ]
            refine wpAnyT_load (i := 10) (v := ?_) rfl (by kernel_rfl) (by kernel_rfl) (by kernel_rfl) (by kernel_rfl) (by kernel_rfl) (fun _ _ _ h => h) HSS.out (by rfl) ?_ ?_
            rotate_left
            · intro w hSw; skip; go_simp; try with_reducible rfl
            simp only [Act.put, List.getElem_toArray, List.getElem_cons_zero, List.getElem_cons_succ, List.setIfInBounds_toArray, List.set_cons_zero, List.set_cons_succ]
            refine wpAnyT_load (i := 11) (v := ?_) rfl (by kernel_rfl) (by kernel_rfl) (by kernel_rfl) (by kernel_rfl) (by kernel_rfl) (fun _ _ _ h => h) HSS.out (by rfl) ?_ ?_
            rotate_left
            · intro w hSw; skip; go_simp; try with_reducible rfl
            simp only [Act.put, List.getElem_toArray, List.getElem_cons_zero, List.getElem_cons_succ, List.setIfInBounds_toArray, List.set_cons_zero, List.set_cons_succ]
            refine wpAnyT_done (by kernel_rfl) ?_ _
            have hF := HSS.out
            have HF := Lib.hid (HF.out.trans hF)
            have HB := Lib.hid (HB.out.keep hF)
            have HBDr := Lib.hid (Sl.keep HBDr.out hF)
            have HR := Lib.hid (HR.out.keep hF)
            have HBDq := Lib.hid (Sl.keep HBDq.out hF)
            have HQ := Lib.hid (HQ.out.keep hF)
            have HBDu := Lib.hid (Sl.keep HBDu.out hF)
            have HU := Lib.hid (HU.out.keep hF)
            have HRS := Lib.hid (HRS.out.keep hF)
            have HX := Lib.hid (Sl.keep HX.out hF)
            have HC := Lib.hid (hF.cellSome HC.out (by simp))
            have HOr := Lib.hid (Sl.keep HOr.out hF)
            clear hF HSS
            go_upto_region 28 with fail
            refine wp_region_T (fun w' => Fr [] woq.drew w') [] 12 #[false, false, false, false, false, false, false, false, false, false, false, false] (by kernel_rfl) rfl rfl ?_
            try simp only [List.append_eq, List.cons_append, List.nil_append]
            have hF := (Fr.refl [] woq).drew
            have HF := Lib.hid (HF.out.trans hF)
            have HB := Lib.hid (HB.out.keep hF)
            have HBDr := Lib.hid (Sl.keep HBDr.out hF)
            have HR := Lib.hid (HR.out.keep hF)
            have HBDq := Lib.hid (Sl.keep HBDq.out hF)
            have HQ := Lib.hid (HQ.out.keep hF)
            have HBDu := Lib.hid (Sl.keep HBDu.out hF)
            have HU := Lib.hid (HU.out.keep hF)
            have HRS := Lib.hid (HRS.out.keep hF)
            have HX := Lib.hid (Sl.keep HX.out hF)
            have HC := Lib.hid (hF.cellSome HC.out (by simp))
            have HOr := Lib.hid (Sl.keep HOr.out hF)
            have HOq := Lib.hid (Sl.keep HOq.out hF)
            clear hF
            have HSS : Hid (Fr [] woq.drew woq.drew) := Lib.hid (Fr.refl _ _)
            generalize woq.drew = wd3 at *
            refine wpAnyT_load (i := 0) (v := ?_) rfl (by kernel_rfl) (by kernel_rfl) (by kernel_rfl) (by kernel_rfl) (by kernel_rfl) (fun _ _ _ h => h) HSS.out (by rfl) ?_ ?_
            rotate_left
            · intro w' hSw; refine run_load_row 58 (.tmp 13) ?_ gu ?_ 58 _ _ (HU.out.keep hSw) Try.underlying58 rfl (by kernel_rfl) <;> rfl
            simp only [Act.put, List.getElem_toArray, List.getElem_cons_zero, List.getElem_cons_succ, List.setIfInBounds_toArray, List.set_cons_zero, List.set_cons_succ]
            refine wpAnyT_load (i := 1) (v := ?_) rfl (by kernel_rfl) (by kernel_rfl) (by kernel_rfl) (by kernel_rfl) (by kernel_rfl) (fun _ _ _ h => h) HSS.out (by rfl) ?_ ?_
            rotate_left
            · intro w hSw; skip; go_simp; try with_reducible rfl
            simp only [Act.put, List.getElem_toArray, List.getElem_cons_zero, List.getElem_cons_succ, List.setIfInBounds_toArray, List.set_cons_zero, List.set_cons_succ]
            refine wpAnyT_load (i := 2) (v := ?_) rfl (by kernel_rfl) (by kernel_rfl) (by kernel_rfl) (by kernel_rfl) (by kernel_rfl) (fun _ _ _ h => h) HSS.out (by rfl) ?_ ?_
            rotate_left
            · intro w hSw; skip; go_simp; try with_reducible rfl
            simp only [Act.put, List.getElem_toArray, List.getElem_cons_zero, List.getElem_cons_succ, List.setIfInBounds_toArray, List.set_cons_zero, List.set_cons_succ]
            refine wpAnyT_one (i := 3) (by kernel_rfl) rfl (fun K hK => ?_)
            rw [if_pos (by rfl)]
            go_simp
            refine (l14by_any (HRS.out.keep HSS.out)).mono ?_
            rintro e wbu ⟨gk, rfl, hk, hF⟩
            have HK := Lib.hid hk
            have HSS := Lib.hid (HSS.out.trans hF)
            clear hk hF
            go_simp
            refine hK.out _ _ (fun _ => HSS.out) ?_
            clear hK K
            simp only [Act.put, List.getElem_toArray, List.getElem_cons_zero, List.getElem_cons_succ, List.setIfInBounds_toArray, List.set_cons_zero, List.set_cons_succ]
            refine wpAnyT_one (i := 4) (by kernel_rfl) rfl (fun K hK => ?_)
            rw [if_pos (by rfl)]
            go_simp
            refine (svOne_any (r := u) ⟨_, rfl, Sl.keep HBDu.out HSS.out⟩ HS3.out HK.out ss).mono ?_
            rw [HO3.out]
            rintro e wou ⟨vou, rfl, hO, hF⟩
            have HSS := Lib.hid (HSS.out.trans hF)
            obtain ⟨aou, nou, cou, rfl⟩ := Sl.isSlice hO
            have HOu := Lib.hid hO
            clear HK hO hF
            go_simp
            refine hK.out _ _ (fun _ => HSS.out) ?_
            clear hK K
            simp only [Act.put, List.getElem_toArray, List.getElem_cons_zero, List.getElem_cons_succ, List.setIfInBounds_toArray, List.set_cons_zero, List.set_cons_succ]
            refine wpAnyT_load (i := 5) (v := ?_) rfl (by kernel_rfl) (by kernel_rfl) (by kernel_rfl) (by kernel_rfl) (by kernel_rfl) (fun _ _ _ h => h) HSS.out (by rfl) ?_ ?_
            rotate_left
            · intro w hSw; skip; go_simp; try with_reducible rfl
            simp only [Act.put, List.getElem_toArray, List.getElem_cons_zero, List.getElem_cons_succ, List.setIfInBounds_toArray, List.set_cons_zero, List.set_cons_succ]
            refine wpAnyT_load (i := 6) (v := ?_) rfl (by kernel_rfl) (by kernel_rfl) (by kernel_rfl) (by kernel_rfl) (by kernel_rfl) (fun _ _ _ h => h) HSS.out (by rfl) ?_ ?_
            rotate_left
            · intro w hSw; skip; go_simp; try with_reducible rfl
            simp only [Act.put, List.getElem_toArray, List.getElem_cons_zero, List.getElem_cons_succ, List.setIfInBounds_toArray, List.set_cons_zero, List.set_cons_succ]
            refine wpAnyT_load (i := 7) (v := ?_) rfl (by kernel_rfl) (by kernel_rfl) (by kernel_rfl) (by kernel_rfl) (by kernel_rfl) (fun _ _ _ h => h) HSS.out (by rfl) ?_ ?_
            rotate_left
            · intro w hSw; skip; go_simp; try with_reducible rfl
            simp only [Act.put, List.getElem_toArray, List.getElem_cons_zero, List.getElem_cons_succ, List.setIfInBounds_toArray, List.set_cons_zero, List.set_cons_succ]
            refine wpAnyT_load (i := 8) (v := ?_) rfl (by kernel_rfl) (by kernel_rfl) (by kernel_rfl) (by kernel_rfl) (by kernel_rfl) (fun _ _ _ h => h) HSS.out (by rfl) ?_ ?_
            rotate_left
            · intro w hSw; skip; go_simp; try with_reducible rfl
            simp only [Act.put, List.getElem_toArray, List.getElem_cons_zero, List.getElem_cons_succ, List.setIfInBounds_toArray, List.set_cons_zero, List.set_cons_succ]
            refine wpAnyT_load (i := 9) (v := ?_) rfl (by kernel_rfl) (by kernel_rfl) (by kernel_rfl) (by kernel_rfl) (by kernel_rfl) (fun _ _ _ h => h) HSS.out (by rfl) ?_ ?_
            rotate_left
            · intro w hSw; skip; go_simp; try with_reducible rfl
            simp only [Act.put, List.getElem_toArray, List.getElem_cons_zero, List.getElem_cons_succ, List.setIfInBounds_toArray, List.set_cons_zero, List.set_cons_succ]
            refine wpAnyT_load (i := 10) (v := ?_) rfl (by kernel_rfl) (by kernel_rfl) (by kernel_rfl) (by kernel_rfl) (by kernel_rfl) (fun _ _ _ h => h) HSS.out (by rfl) ?_ ?_
            rotate_left
            · intro w hSw; skip; go_simp; try with_reducible rfl
            simp only [Act.put, List.getElem_toArray, List.getElem_cons_zero, List.getElem_cons_succ, List.setIfInBounds_toArray, List.set_cons_zero, List.set_cons_succ]
            refine wpAnyT_load (i := 11) (v := ?_) rfl (by kernel_rfl) (by kernel_rfl) (by kernel_rfl) (by kernel_rfl) (by kernel_rfl) (fun _ _ _ h => h) HSS.out (by rfl) ?_ ?_
            rotate_left
            · intro w hSw; skip; go_simp; try with_reducible rfl
            simp only [Act.put, List.getElem_toArray, List.getElem_cons_zero, List.getElem_cons_succ, List.setIfInBounds_toArray, List.set_cons_zero, List.set_cons_succ]
            refine wpAnyT_done (by kernel_rfl) ?_ _
            have hF := HSS.out
            have HF := Lib.hid (HF.out.trans hF)
            have HB := Lib.hid (HB.out.keep hF)
            have HBDr := Lib.hid (Sl.keep HBDr.out hF)
            have HR := Lib.hid (HR.out.keep hF)
            have HBDq := Lib.hid (Sl.keep HBDq.out hF)
            have HQ := Lib.hid (HQ.out.keep hF)
            have HBDu := Lib.hid (Sl.keep HBDu.out hF)
            have HU := Lib.hid (HU.out.keep hF)
            have HRS := Lib.hid (HRS.out.keep hF)
            have HX := Lib.hid (Sl.keep HX.out hF)
            have HC := Lib.hid (hF.cellSome HC.out (by simp))
            have HOr := Lib.hid (Sl.keep HOr.out hF)
            have HOq := Lib.hid (Sl.keep HOq.out hF)
            clear hF HSS
            have d0 := HC.out
            go_wp2_with fail
            refine (RSame_any HOr.out HX.out HLK.out HLK.out).mono ?_
            rintro e ws1 ⟨rfl, hF⟩
            rw [beq_self_eq_true]
            clear d0
            have HF := Lib.hid (HF.out.trans hF)
            have HB := Lib.hid (HB.out.keep hF)
            have HBDr := Lib.hid (Sl.keep HBDr.out hF)
            have HR := Lib.hid (HR.out.keep hF)
            have HBDq := Lib.hid (Sl.keep HBDq.out hF)
            have HQ := Lib.hid (HQ.out.keep hF)
            have HBDu := Lib.hid (Sl.keep HBDu.out hF)
            have HU := Lib.hid (HU.out.keep hF)
            have HRS := Lib.hid (HRS.out.keep hF)
            have HX := Lib.hid (Sl.keep HX.out hF)
            have HC := Lib.hid (hF.cellSome HC.out (by simp))
            have HOr := Lib.hid (Sl.keep HOr.out hF)
            have HOq := Lib.hid (Sl.keep HOq.out hF)
            have HOu := Lib.hid (Sl.keep HOu.out hF)
            clear hF
            go_wp2_with fail
            refine (RSame_any HOu.out HOr.out HLK.out HLK.out).mono ?_
            rintro e ws2 ⟨rfl, hF⟩
            rw [beq_self_eq_true]
            have HF := Lib.hid (HF.out.trans hF)
            have HB := Lib.hid (HB.out.keep hF)
            have HBDr := Lib.hid (Sl.keep HBDr.out hF)
            have HR := Lib.hid (HR.out.keep hF)
            have HBDq := Lib.hid (Sl.keep HBDq.out hF)
            have HQ := Lib.hid (HQ.out.keep hF)
            have HBDu := Lib.hid (Sl.keep HBDu.out hF)
            have HU := Lib.hid (HU.out.keep hF)
            have HRS := Lib.hid (HRS.out.keep hF)
            have HX := Lib.hid (Sl.keep HX.out hF)
            have HC := Lib.hid (hF.cellSome HC.out (by simp))
            have HOr := Lib.hid (Sl.keep HOr.out hF)
            have HOq := Lib.hid (Sl.keep HOq.out hF)
            have HOu := Lib.hid (Sl.keep HOu.out hF)
            clear hF
            go_wp2_with fail
            refine (RSame_any HOr.out HOq.out HLK.out HLK.out).mono ?_
            rintro e wz ⟨rfl, hF⟩
            rw [beq_self_eq_true]
            have HF := Lib.hid (HF.out.trans hF)
            clear hF
            go_wp2_with fail
            go_ret
            first | exact ⟨rfl, HF.out⟩ | exact ⟨ret_bool (by simp), HF.out⟩
          · have HO2 := Lib.hid (HO2b.out hboth)
            rw [decide_eq_false hboth]
            clear hboth HO2a HO2b
            go_upto_region 27 with fail
            refine wp_region_T (fun w' => Fr [] wor.drew w') [] 12 #[false, false, false, false, false, false, false, false, false, false, false, false] (by kernel_rfl) rfl rfl ?_
            try simp only [List.append_eq, List.cons_append, List.nil_append]
            have hF := (Fr.refl [] wor).drew
            have HF := Lib.hid (HF.out.trans hF)
            have HB := Lib.hid (HB.out.keep hF)
            have HBDr := Lib.hid (Sl.keep HBDr.out hF)
            have HR := Lib.hid (HR.out.keep hF)
            have HBDq := Lib.hid (Sl.keep HBDq.out hF)
            have HQ := Lib.hid (HQ.out.keep hF)
            have HBDu := Lib.hid (Sl.keep HBDu.out hF)
            have HU := Lib.hid (HU.out.keep hF)
            have HRS := Lib.hid (HRS.out.keep hF)
            have HX := Lib.hid (Sl.keep HX.out hF)
            have HC := Lib.hid (hF.cellSome HC.out (by simp))
            have HOr := Lib.hid (Sl.keep HOr.out hF)
            clear hF
            have HSS : Hid (Fr [] wor.drew wor.drew) := Lib.hid (Fr.refl _ _)
            generalize wor.drew = wd2 at *
            refine wpAnyT_load (i := 0) (v := ?_) rfl (by kernel_rfl) (by kernel_rfl) (by kernel_rfl) (by kernel_rfl) (by kernel_rfl) (fun _ _ _ h => h) HSS.out (by rfl) ?_ ?_
            rotate_left
            · intro w' hSw; refine run_load_row 58 (.tmp 11) ?_ gq ?_ 58 _ _ (HQ.out.keep hSw) Try.underlying58 rfl (by kernel_rfl) <;> rfl
            simp only [Act.put, List.getElem_toArray, List.getElem_cons_zero, List.getElem_cons_succ, List.setIfInBounds_toArray, List.set_cons_zero, List.set_cons_succ]
            refine wpAnyT_load (i := 1) (v := ?_) rfl (by kernel_rfl) (by kernel_rfl) (by kernel_rfl) (by kernel_rfl) (by kernel_rfl) (fun _ _ _ h => h) HSS.out (by rfl) ?_ ?_
            rotate_left
            · intro w hSw; skip; go_simp; try with_reducible rfl
            simp only [Act.put, List.getElem_toArray, List.getElem_cons_zero, List.getElem_cons_succ, List.setIfInBounds_toArray, List.set_cons_zero, List.set_cons_succ]
            refine wpAnyT_load (i := 2) (v := ?_) rfl (by kernel_rfl) (by kernel_rfl) (by kernel_rfl) (by kernel_rfl) (by kernel_rfl) (fun _ _ _ h => h) HSS.out (by rfl) ?_ ?_
            rotate_left
            · intro w hSw; skip; go_simp; try with_reducible rfl
            simp only [Act.put, List.getElem_toArray, List.getElem_cons_zero, List.getElem_cons_succ, List.setIfInBounds_toArray, List.set_cons_zero, List.set_cons_succ]
            refine wpAnyT_one (i := 3) (by kernel_rfl) rfl (fun K hK => ?_)
            rw [if_pos (by rfl)]
            go_simp
            refine (l14by_any (HRS.out.keep HSS.out)).mono ?_
            rintro e wbq ⟨gk, rfl, hk, hF⟩
            have HK := Lib.hid hk
            have HSS := Lib.hid (HSS.out.trans hF)
            clear hk hF
            go_simp
            refine hK.out _ _ (fun _ => HSS.out) ?_
            clear hK K
            simp only [Act.put, List.getElem_toArray, List.getElem_cons_zero, List.getElem_cons_succ, List.setIfInBounds_toArray, List.set_cons_zero, List.set_cons_succ]
            refine wpAnyT_one (i := 4) (by kernel_rfl) rfl (fun K hK => ?_)
            rw [if_pos (by rfl)]
            go_simp
            refine (svOne_any (r := q) ⟨_, rfl, Sl.keep HBDq.out HSS.out⟩ HS2.out HK.out ss).mono ?_
            rw [HO2.out]
            rintro e woq ⟨voq, rfl, hO, hF⟩
            have HSS := Lib.hid (HSS.out.trans hF)
            obtain ⟨aoq, noq, coq, rfl⟩ := Sl.isSlice hO
            have HOq := Lib.hid hO
            clear HK hO hF
            go_simp
            refine hK.out _ _ (fun _ => HSS.out) ?_
            clear hK K
            simp only [Act.put, List.getElem_toArray, List.getElem_cons_zero, List.getElem_cons_succ, List.setIfInBounds_toArray, List.set_cons_zero, List.set_cons_succ]
            refine wpAnyT_load (i := 5) (v := ?_) rfl (by kernel_rfl) (by kernel_rfl) (by kernel_rfl) (by kernel_rfl) (by kernel_rfl) (fun _ _ _ h => h) HSS.out (by rfl) ?_ ?_
            rotate_left
            · intro w hSw; skip; go_simp; try with_reducible rfl
            simp only [Act.put, List.getElem_toArray, List.getElem_cons_zero, List.getElem_cons_succ, List.setIfInBounds_toArray, List.set_cons_zero, List.set_cons_succ]
            refine wpAnyT_load (i := 6) (v := ?_) rfl (by kernel_rfl) (by kernel_rfl) (by kernel_rfl) (by kernel_rfl) (by kernel_rfl) (fun _ _ _ h => h) HSS.out (by rfl) ?_ ?_
            rotate_left
            · intro w hSw; skip; go_simp; try with_reducible rfl
            simp only [Act.put, List.getElem_toArray, List.getElem_cons_zero, List.getElem_cons_succ, List.setIfInBounds_toArray, List.set_cons_zero, List.set_cons_succ]
            refine wpAnyT_load (i := 7) (v := ?_) rfl (by kernel_rfl) (by kernel_rfl) (by kernel_rfl) (by kernel_rfl) (by kernel_rfl) (fun _ _ _ h => h) HSS.out (by rfl) ?_ ?_
            rotate_left
            · intro w hSw; skip; go_simp; try with_reducible rfl
            simp only [Act.put, List.getElem_toArray, List.getElem_cons_zero, List.getElem_cons_succ, List.setIfInBounds_toArray, List.set_cons_zero, List.set_cons_succ]
            refine wpAnyT_load (i := 8) (v := ?_) rfl (by kernel_rfl) (by kernel_rfl) (by kernel_rfl) (by kernel_rfl) (by kernel_rfl) (fun _ _ _ h => h) HSS.out (by rfl) ?_ ?_
            rotate_left
            · intro w hSw; skip; go_simp; try with_reducible rfl
            simp only [Act.put, List.getElem_toArray, List.getElem_cons_zero, List.getElem_cons_succ, List.setIfInBounds_toArray, List.set_cons_zero, List.set_cons_succ]
            refine wpAnyT_load (i := 9) (v := ?_) rfl (by kernel_rfl) (by kernel_rfl) (by kernel_rfl) (by kernel_rfl) (by kernel_rfl) (fun _ _ _ h => h) HSS.out (by rfl) ?_ ?_
            rotate_left
            · intro w hSw; skip; go_simp; try with_reducible rfl
            simp only [Act.put, List.getElem_toArray, List.getElem_cons_zero, List.getElem_cons_succ, List.setIfInBounds_toArray, List.set_cons_zero, List.set_cons_succ]
            refine wpAnyT_load (i := 10) (v := ?_) rfl (by kernel_rfl) (by kernel_rfl) (by kernel_rfl) (by kernel_rfl) (by kernel_rfl) (fun _ _ _ h => h) HSS.out (by rfl) ?_ ?_
            rotate_left
            · intro w hSw; skip; go_simp; try with_reducible rfl
            simp only [Act.put, List.getElem_toArray, List.getElem_cons_zero, List.getElem_cons_succ, List.setIfInBounds_toArray, List.set_cons_zero, List.set_cons_succ]
            refine wpAnyT_load (i := 11) (v := ?_) rfl (by kernel_rfl) (by kernel_rfl) (by kernel_rfl) (by kernel_rfl) (by kernel_rfl) (fun _ _ _ h => h) HSS.out (by rfl) ?_ ?_
            rotate_left
            · intro w hSw; skip; go_simp; try with_reducible rfl
            simp only [Act.put, List.getElem_toArray, List.getElem_cons_zero, List.getElem_cons_succ, List.setIfInBounds_toArray, List.set_cons_zero, List.set_cons_succ]
            refine wpAnyT_done (by kernel_rfl) ?_ _
            have hF := HSS.out
            have HF := Lib.hid (HF.out.trans hF)
            have HB := Lib.hid (HB.out.keep hF)
            have HBDr := Lib.hid (Sl.keep HBDr.out hF)
            have HR := Lib.hid (HR.out.keep hF)
            have HBDq := Lib.hid (Sl.keep HBDq.out hF)
            have HQ := Lib.hid (HQ.out.keep hF)
            have HBDu := Lib.hid (Sl.keep HBDu.out hF)
            have HU := Lib.hid (HU.out.keep hF)
            have HRS := Lib.hid (HRS.out.keep hF)
            have HX := Lib.hid (Sl.keep HX.out hF)
            have HC := Lib.hid (hF.cellSome HC.out (by simp))
            have HOr := Lib.hid (Sl.keep HOr.out hF)
            clear hF HSS
            obtain ⟨aq0, cq0, eq0⟩ : ∃ a c, Value.slice aoq noq coq = .slice a 0 c := Sl.shape HOq.out
            cases eq0
            clear HOq
            go_upto_region 28 with fail
            refine wp_region_T (fun w' => Fr [] woq.drew w') [] 12 #[false, false, false, false, false, false, false, false, false, false, false, false] (by kernel_rfl) rfl rfl ?_
            try simp only [List.append_eq, List.cons_append, List.nil_append]
            have hF := (Fr.refl [] woq).drew
            have HF := Lib.hid (HF.out.trans hF)
            have HB := Lib.hid (HB.out.keep hF)
            have HBDr := Lib.hid (Sl.keep HBDr.out hF)
            have HR := Lib.hid (HR.out.keep hF)
            have HBDq := Lib.hid (Sl.keep HBDq.out hF)
            have HQ := Lib.hid (HQ.out.keep hF)
            have HBDu := Lib.hid (Sl.keep HBDu.out hF)
            have HU := Lib.hid (HU.out.keep hF)
            have HRS := Lib.hid (HRS.out.keep hF)
            have HX := Lib.hid (Sl.keep HX.out hF)
            have HC := Lib.hid (hF.cellSome HC.out (by simp))
            have HOr := Lib.hid (Sl.keep HOr.out hF)
            clear hF
            have HSS : Hid (Fr [] woq.drew woq.drew) := Lib.hid (Fr.refl _ _)
            generalize woq.drew = wd3 at *
            refine wpAnyT_load (i := 0) (v := ?_) rfl (by kernel_rfl) (by kernel_rfl) (by kernel_rfl) (by kernel_rfl) (by kernel_rfl) (fun _ _ _ h => h) HSS.out (by rfl) ?_ ?_
            rotate_left
            · intro w' hSw; refine run_load_row 58 (.tmp 13) ?_ gu ?_ 58 _ _ (HU.out.keep hSw) Try.underlying58 rfl (by kernel_rfl) <;> rfl
            simp only [Act.put, List.getElem_toArray, List.getElem_cons_zero, List.getElem_cons_succ, List.setIfInBounds_toArray, List.set_cons_zero, List.set_cons_succ]
            refine wpAnyT_load (i := 1) (v := ?_) rfl (by kernel_rfl) (by kernel_rfl) (by kernel_rfl) (by kernel_rfl) (by kernel_rfl) (fun _ _ _ h => h) HSS.out (by rfl) ?_ ?_
            rotate_left
            · intro w hSw; skip; go_simp; try with_reducible rfl
            simp only [Act.put, List.getElem_toArray, List.getElem_cons_zero, List.getElem_cons_succ, List.setIfInBounds_toArray, List.set_cons_zero, List.set_cons_succ]
            refine wpAnyT_load (i := 2) (v := ?_) rfl (by kernel_rfl) (by kernel_rfl) (by kernel_rfl) (by kernel_rfl) (by kernel_rfl) (fun _ _ _ h => h) HSS.out (by rfl) ?_ ?_
            rotate_left
            · intro w hSw; skip; go_simp; try with_reducible rfl
            simp only [Act.put, List.getElem_toArray, List.getElem_cons_zero, List.getElem_cons_succ, List.setIfInBounds_toArray, List.set_cons_zero, List.set_cons_succ]
            refine wpAnyT_one (i := 3) (by kernel_rfl) rfl (fun K hK => ?_)
            rw [if_pos (by rfl)]
            go_simp
            refine (l14by_any (HRS.out.keep HSS.out)).mono ?_
            rintro e wbu ⟨gk, rfl, hk, hF⟩
            have HK := Lib.hid hk
            have HSS := Lib.hid (HSS.out.trans hF)
            clear hk hF
            go_simp
            refine hK.out _ _ (fun _ => HSS.out) ?_
            clear hK K
            simp only [Act.put, List.getElem_toArray, List.getElem_cons_zero, List.getElem_cons_succ, List.setIfInBounds_toArray, List.set_cons_zero, List.set_cons_succ]
            refine wpAnyT_one (i := 4) (by kernel_rfl) rfl (fun K hK => ?_)
            rw [if_pos (by rfl)]
            go_simp
            refine (svOne_any (r := u) ⟨_, rfl, Sl.keep HBDu.out HSS.out⟩ HS3.out HK.out ss).mono ?_
            rw [HO3.out]
            rintro e wou ⟨vou, rfl, hO, hF⟩
            have HSS := Lib.hid (HSS.out.trans hF)
            obtain ⟨aou, nou, cou, rfl⟩ := Sl.isSlice hO
            have HOu := Lib.hid hO
            clear HK hO hF
            go_simp
            refine hK.out _ _ (fun _ => HSS.out) ?_
            clear hK K
            simp only [Act.put, List.getElem_toArray, List.getElem_cons_zero, List.getElem_cons_succ, List.setIfInBounds_toArray, List.set_cons_zero, List.set_cons_succ]
            refine wpAnyT_load (i := 5) (v := ?_) rfl (by kernel_rfl) (by kernel_rfl) (by kernel_rfl) (by kernel_rfl) (by kernel_rfl) (fun _ _ _ h => h) HSS.out (by rfl) ?_ ?_
            rotate_left
            · intro w hSw; skip; go_simp; try with_reducible rfl
            simp only [Act.put, List.getElem_toArray, List.getElem_cons_zero, List.getElem_cons_succ, List.setIfInBounds_toArray, List.set_cons_zero, List.set_cons_succ]
            refine wpAnyT_load (i := 6) (v := ?_) rfl (by kernel_rfl) (by kernel_rfl) (by kernel_rfl) (by kernel_rfl) (by kernel_rfl) (fun _ _ _ h => h) HSS.out (by rfl) ?_ ?_
            rotate_left
            · intro w hSw; skip; go_simp; try with_reducible rfl
            simp only [Act.put, List.getElem_toArray, List.getElem_cons_zero, List.getElem_cons_succ, List.setIfInBounds_toArray, List.set_cons_zero, List.set_cons_succ]
            refine wpAnyT_load (i := 7) (v := ?_) rfl (by kernel_rfl) (by kernel_rfl) (by kernel_rfl) (by kernel_rfl) (by kernel_rfl) (fun _ _ _ h => h) HSS.out (by rfl) ?_ ?_
            rotate_left
            · intro w hSw; skip; go_simp; try with_reducible rfl
            simp only [Act.put, List.getElem_toArray, List.getElem_cons_zero, List.getElem_cons_succ, List.setIfInBounds_toArray, List.set_cons_zero, List.set_cons_succ]
            refine wpAnyT_load (i := 8) (v := ?_) rfl (by kernel_rfl) (by kernel_rfl) (by kernel_rfl) (by kernel_rfl) (by kernel_rfl) (fun _ _ _ h => h) HSS.out (by rfl) ?_ ?_
            rotate_left
            · intro w hSw; skip; go_simp; try with_reducible rfl
            simp only [Act.put, List.getElem_toArray, List.getElem_cons_zero, List.getElem_cons_succ, List.setIfInBounds_toArray, List.set_cons_zero, List.set_cons_succ]
            refine wpAnyT_load (i := 9) (v := ?_) rfl (by kernel_rfl) (by kernel_rfl) (by kernel_rfl) (by kernel_rfl) (by kernel_rfl) (fun _ _ _ h => h) HSS.out (by rfl) ?_ ?_
            rotate_left
            · intro w hSw; skip; go_simp; try with_reducible rfl
            simp only [Act.put, List.getElem_toArray, List.getElem_cons_zero, List.getElem_cons_succ, List.setIfInBounds_toArray, List.set_cons_zero, List.set_cons_succ]
            refine wpAnyT_load (i := 10) (v := ?_) rfl (by kernel_rfl) (by kernel_rfl) (by kernel_rfl) (by kernel_rfl) (by kernel_rfl) (fun _ _ _ h => h) HSS.out (by rfl) ?_ ?_
            rotate_left
            · intro w hSw; skip; go_simp; try with_reducible rfl
            simp only [Act.put, List.getElem_toArray, List.getElem_cons_zero, List.getElem_cons_succ, List.setIfInBounds_toArray, List.set_cons_zero, List.set_cons_succ]
            refine wpAnyT_load (i := 11) (v := ?_) rfl (by kernel_rfl) (by kernel_rfl) (by kernel_rfl) (by kernel_rfl) (by kernel_rfl) (fun _ _ _ h => h) HSS.out (by rfl) ?_ ?_
            rotate_left
            · intro w hSw; skip; go_simp; try with_reducible rfl
            simp only [Act.put, List.getElem_toArray, List.getElem_cons_zero, List.getElem_cons_succ, List.setIfInBounds_toArray, List.set_cons_zero, List.set_cons_succ]
            refine wpAnyT_done (by kernel_rfl) ?_ _
            have hF := HSS.out
            have HF := Lib.hid (HF.out.trans hF)
            have HB := Lib.hid (HB.out.keep hF)
            have HBDr := Lib.hid (Sl.keep HBDr.out hF)
            have HR := Lib.hid (HR.out.keep hF)
            have HBDq := Lib.hid (Sl.keep HBDq.out hF)
            have HQ := Lib.hid (HQ.out.keep hF)
            have HBDu := Lib.hid (Sl.keep HBDu.out hF)
            have HU := Lib.hid (HU.out.keep hF)
            have HRS := Lib.hid (HRS.out.keep hF)
            have HX := Lib.hid (Sl.keep HX.out hF)
            have HC := Lib.hid (hF.cellSome HC.out (by simp))
            have HOr := Lib.hid (Sl.keep HOr.out hF)
            clear hF HSS
            have d0 := HC.out
            go_wp2_with fail
            refine (RSame_any HOr.out HX.out HLK.out HLK.out).mono ?_
            rintro e ws1 ⟨rfl, hF⟩
            rw [beq_self_eq_true]
            clear d0
            have HF := Lib.hid (HF.out.trans hF)
            have HB := Lib.hid (HB.out.keep hF)
            have HBDr := Lib.hid (Sl.keep HBDr.out hF)
            have HR := Lib.hid (HR.out.keep hF)
            have HBDq := Lib.hid (Sl.keep HBDq.out hF)
            have HQ := Lib.hid (HQ.out.keep hF)
            have HBDu := Lib.hid (Sl.keep HBDu.out hF)
            have HU := Lib.hid (HU.out.keep hF)
            have HRS := Lib.hid (HRS.out.keep hF)
            have HX := Lib.hid (Sl.keep HX.out hF)
            have HC := Lib.hid (hF.cellSome HC.out (by simp))
            have HOr := Lib.hid (Sl.keep HOr.out hF)
            have HOu := Lib.hid (Sl.keep HOu.out hF)
            clear hF
            go_wp2_with fail
            refine (RSame_any HOu.out HOr.out HLK.out HLK.out).mono ?_
            rintro e ws2 ⟨rfl, hF⟩
            rw [beq_self_eq_true]
            have HF := Lib.hid (HF.out.trans hF)
            have HB := Lib.hid (HB.out.keep hF)
            have HBDr := Lib.hid (Sl.keep HBDr.out hF)
            have HR := Lib.hid (HR.out.keep hF)
            have HBDq := Lib.hid (Sl.keep HBDq.out hF)
            have HQ := Lib.hid (HQ.out.keep hF)
            have HBDu := Lib.hid (Sl.keep HBDu.out hF)
            have HU := Lib.hid (HU.out.keep hF)
            have HRS := Lib.hid (HRS.out.keep hF)
            have HX := Lib.hid (Sl.keep HX.out hF)
            have HC := Lib.hid (hF.cellSome HC.out (by simp))
            have HOr := Lib.hid (Sl.keep HOr.out hF)
            have HOu := Lib.hid (Sl.keep HOu.out hF)
            clear hF
            go_wp2_with fail
            go_ret
            first | exact ⟨rfl, HF.out⟩ | exact ⟨ret_bool (by simp), HF.out⟩
end Go.Proofs.Ytchbgiindfoepaa
