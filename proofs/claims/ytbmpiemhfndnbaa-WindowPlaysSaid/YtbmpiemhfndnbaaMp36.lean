import Derived.Test.YtbmpiemhfndnbaaMp35
import Derived.Test.YtbmpiemhfndnbaaMp28
/- The walk of a window's Release (printed by gen_win5.py). -/
namespace Go.Proofs.Ytbmpiemhfndnbaa
open Go.RowKit Go.Maps

/-- How far the next number is behind the highest one: what the loop of Release is measured by. -/
def behind (w : World) (g : Nat) : Nat := match w.cell? ⟨g, 2, none⟩, w.cell? ⟨g, 4, none⟩ with
  | some (.int _ h), some (.int _ n) => (h + 1 - n).toNat
  | _, _ => 0
theorem WinV.behind {w : World} {g mb : Nat} {s : Win} (h : WinV w g mb s) : behind w g = (s.hi.getD 0 + 1 - s.next).toNat := by
  have x2 := h.box.cell 2; have x4 := h.box.cell 4
  simp only [winc, List.getElem?_toArray, List.getElem?_cons_succ, List.getElem?_cons_zero] at x2 x4
  unfold Go.Proofs.Ytbmpiemhfndnbaa.behind
  rw [x2, x4]
theorem del_head {o : Held_} {l : List Held_} (hs : (o :: l).Pairwise fun a b => a.n < b.n) : delH (o :: l) o.n = l := by
  have hs2 := List.pairwise_cons.1 hs
  unfold delH
  rw [List.filter_cons_of_neg (by simp), List.filter_eq_self]
  intro p hp
  have := hs2.1 p hp
  simp
  omega
theorem find_head {o : Held_} {l : List Held_} : findH (o :: l) o.n = some o := by unfold findH; simp
theorem find_low {l : List Held_} {n : Int} (h : ∀ o ∈ l, n < o.n) : findH l n = none := findH_none.2 fun o ho => by have := h o ho; omega
/-- A round that takes. -/
theorem WInv.taken {c : Nat} {s : Win} {o : Held_} {l : List Held_} (h : WInv c s) (ha : s.all = o :: l) (hn : o.n = s.next) : WInv c { s with all := l, next := s.next + 1 } := by
  have hs := h.sorted
  rw [ha] at hs
  have hs2 := List.pairwise_cons.1 hs
  refine ⟨h.size, h.wait, h.now, hs2.2, fun e => ?_, fun k e => ?_, fun p hp => ?_, fun p hp => h.time p (by rw [ha]; simp [hp])⟩
  · have := (h.old e).1
    rw [ha] at this
    cases this
  · obtain ⟨g1, g2, g3, g4, g5, g6⟩ := h.hi k e
    have := g6 o (by rw [ha]; simp)
    refine ⟨g1, g2, by show 4294967296 ≤ s.next + 1; omega, by show s.next + 1 ≤ k + 1; omega, by show k < s.next + 1 + s.size; omega, fun p hp => g6 p (by rw [ha]; simp [hp])⟩
  · show s.next + 1 ≤ p.n
    have := hs2.1 p hp
    omega
/-- A round that goes on to the first one. -/
theorem WInv.moved {c : Nat} {s : Win} {o : Held_} {l : List Held_} (h : WInv c s) (ha : s.all = o :: l) : WInv c { s with next := o.n } := by
  have hs := h.sorted
  rw [ha] at hs
  have hs2 := List.pairwise_cons.1 hs
  refine ⟨h.size, h.wait, h.now, h.sorted, fun e => ?_, fun k e => ?_, fun p hp => ?_, h.time⟩
  · have := (h.old e).1
    rw [ha] at this
    cases this
  · obtain ⟨g1, g2, g3, g4, g5, g6⟩ := h.hi k e
    have := g6 o (by rw [ha]; simp)
    have := h.low o (by rw [ha]; simp)
    exact ⟨g1, g2, by show 4294967296 ≤ o.n; omega, by show o.n ≤ k + 1; omega, by show k < o.n + s.size; omega, g6⟩
  · have hp' : p ∈ s.all := hp
    rw [ha] at hp'
    rcases List.mem_cons.1 hp' with rfl | hp'
    · exact Int.le_refl _
    · exact Int.le_of_lt (hs2.1 p hp')
theorem WInv.some_ {c : Nat} {s : Win} {o : Held_} {l : List Held_} (h : WInv c s) (ha : s.all = o :: l) : ∃ k, s.hi = some k ∧ s.next ≤ o.n ∧ o.n ≤ k ∧ k < s.next + s.size := by
  cases hh : s.hi with
  | none => have := (h.old hh).1; rw [ha] at this; cases this
  | some k =>
    obtain ⟨g1, g2, g3, g4, g5, g6⟩ := h.hi k hh
    exact ⟨k, rfl, h.low o (by rw [ha]; simp), g6 o (by rw [ha]; simp), g5⟩
/-- What the rounds so far have told of what comes out. -/
structure RelSt (s1 s : Win) (out : List Held_) : Prop where
  is : relL s1.wait s1.now s1.next s1.all = (out ++ (relL s1.wait s1.now s.next s.all).1, (relL s1.wait s1.now s.next s.all).2)
  eq : s.size = s1.size ∧ s.wait = s1.wait ∧ s.hi = s1.hi ∧ s.now = s1.now
theorem RelSt.start (s : Win) : RelSt s s [] := ⟨rfl, rfl, rfl, rfl, rfl⟩
theorem RelSt.taken {s1 s : Win} {out : List Held_} (h : RelSt s1 s out) {o : Held_} {l : List Held_} (ha : s.all = o :: l) (hn : o.n = s.next) : RelSt s1 { s with all := l, next := s.next + 1 } (out ++ [o]) := by
  refine ⟨?_, h.eq⟩
  have := h.is
  rw [ha] at this
  rw [this]
  have q1 : relL s1.wait s1.now s.next (o :: l) = (o :: (relL s1.wait s1.now (s.next + 1) l).1, (relL s1.wait s1.now (s.next + 1) l).2) := by rw [relL, if_pos hn]
  rw [q1]
  simp
theorem RelSt.moved {s1 s : Win} {out : List Held_} (h : RelSt s1 s out) {o : Held_} {l : List Held_} {d : Int} (ha : s.all = o :: l) (hn : o.n ≠ s.next) (hd : dueL s.wait s.all = some d) (hle : d ≤ s.now) : RelSt s1 { s with next := o.n } out := by
  refine ⟨?_, h.eq⟩
  have h1 := h.is
  rw [h1]
  have e1 := h.eq.2.1; have e2 := h.eq.2.2.2
  rw [e1] at hd
  rw [e2] at hle
  show (out ++ (relL s1.wait s1.now s.next s.all).1, (relL s1.wait s1.now s.next s.all).2) = (out ++ (relL s1.wait s1.now o.n s.all).1, (relL s1.wait s1.now o.n s.all).2)
  rw [ha] at hd ⊢
  have q1 : relL s1.wait s1.now s.next (o :: l) = (o :: (relL s1.wait s1.now (o.n + 1) l).1, (relL s1.wait s1.now (o.n + 1) l).2) := by
    rw [relL, if_neg hn, hd]
    simp only
    rw [if_neg (by omega)]
  have q2 : relL s1.wait s1.now o.n (o :: l) = (o :: (relL s1.wait s1.now (o.n + 1) l).1, (relL s1.wait s1.now (o.n + 1) l).2) := by
    rw [relL, if_pos rfl]
  rw [q1, q2]
theorem RelSt.wait {s1 s : Win} {out : List Held_} (h : RelSt s1 s out) {d : Int} {o : Held_} {l : List Held_} (ha : s.all = o :: l) (hn : o.n ≠ s.next) (hd : dueL s.wait s.all = some d) (hgt : s.now < d) : relL s1.wait s1.now s1.next s1.all = (out, s.all, s.next) := by
  have e1 := h.eq.2.1; have e2 := h.eq.2.2.2
  rw [e1] at hd
  rw [e2] at hgt
  rw [h.is, ha]
  rw [ha] at hd
  have q1 : relL s1.wait s1.now s.next (o :: l) = ([], o :: l, s.next) := by
    rw [relL, if_neg hn, hd]
    simp only
    rw [if_pos (by omega)]
  rw [q1]
  simp
theorem RelSt.empty {s1 s : Win} {out : List Held_} (h : RelSt s1 s out) (ha : s.all = []) : relL s1.wait s1.now s1.next s1.all = (out, s.all, s.next) := by
  rw [h.is, ha]
  simp [relL]
theorem WinV.of_eq {w : World} {g mb : Nat} {s s1 : Win} (h : WinV w g mb s) (e : s.size = s1.size ∧ s.wait = s1.wait ∧ s.hi = s1.hi ∧ s.now = s1.now) : WinV w g mb { s1 with all := s.all, next := s.next } := by
  obtain ⟨size, wait, hi, next, now, all⟩ := s
  obtain ⟨e1, e2, e3, e4⟩ := e
  simp only at e1 e2 e3 e4
  subst e1 e2 e3 e4
  exact h
set_option maxRecDepth 100000 in
set_option maxHeartbeats 8000000 in
theorem wRelease_any {w : World} {g mb c : Nat} {s : Win} (h : WinV w g mb s) (hi : WInv c s) (hc : c ≤ 1000) (now : Int) :
    Calls Try.prog 9 #[.pointer (some ⟨g, 0, none⟩), .int .i64 now] w fun e w' => ∃ v, e = .returned v ∧ OwnEls 2 OutR w' w.heap.size 54 v (s.release now).2 [] ∧ WinV w' g mb (s.release now).1 ∧ Fr [g, mb] w w' := by
  have HV := Lib.hid h
  have HI0 := Lib.hid (hi.tick now)
  have HN0 := Lib.hid hi.now.1
  have HLT := Lib.hid (And.intro h.lt h.ne)
  have HRR : Hid (s.release now = ({ s.tick now with all := (relL (s.tick now).wait (s.tick now).now (s.tick now).next (s.tick now).all).2.1, next := (relL (s.tick now).wait (s.tick now).now (s.tick now).next (s.tick now).all).2.2 }, (relL (s.tick now).wait (s.tick now).now (s.tick now).next (s.tick now).all).1)) := Lib.hid rfl
  clear h hi
  obtain ⟨s1, hs1⟩ : ∃ s1, s.tick now = s1 := ⟨_, rfl⟩
  have HS1 := Lib.hid hs1
  rw [hs1] at HI0 HRR
  clear hs1
  go_enter Try.func9, Try.ntmps9
  go_wp2_with fail
  refine (wTick_any HV.out HN0.out now).mono ?_
  rintro e w1 ⟨rfl, hV, hF⟩
  rw [HS1.out] at hV
  have HV := Lib.hid hV; have HF : Hid (Fr [g, mb] w w1) := Lib.hid (hF.mono (by simp))
  clear hV hF
  go_upto_region 3 with fail
  go_loopw [5] (fun sv wr => ∃ (s2 : Win) (out : List Held_), OwnEls 2 OutR wr w.heap.size 54 sv out [] ∧ WinV wr g mb s2 ∧ WInv c s2 ∧ RelSt s1 s2 out ∧ out.length + s2.all.length = s1.all.length ∧ Fr [g, mb] w wr) (fun _ wr => behind wr g)
  case atStart => exact ⟨s1, [], OwnEls.nil _ _ _, HV.out, HI0.out, RelSt.start s1, by simp, HF.out⟩
  case round =>
    clear HV HF
    obtain ⟨s2, out, hE, hV, hI, hR, hlen, hF⟩ := hrel
    obtain ⟨ax, cx, rfl⟩ := hE.shape
    have HE := Lib.hid hE; have HV := Lib.hid hV; have HI := Lib.hid hI; have HR := Lib.hid hR; have HF := Lib.hid hF; have HLEN := Lib.hid hlen
    have HM := Lib.hid hV.behind
    have hbb := hI.bounds hc
    have HBB := Lib.hid hbb
    have hnx := hbb.2.2.2
    have HOL : Hid (out.length ≤ 64) := Lib.hid (by have := HI0.out.len; have := HI0.out.size; omega)
    clear hE hV hI hR hF hbb hlen
    obtain ⟨D, hD⟩ := HV.out.map
    have HD := Lib.hid hD
    clear hD
    have HRUN2 : Hid (∃ (fv : Array Value), (∀ w', Fr [] wr w' → (Instr.lookup 61 (.map (some mb)) (.int .i64 s2.next) true).run Try.prog w' = .ok (.tuple #[.agg fv, .bool (findH s2.all s2.next).isSome]) w') ∧ fv.size = 2 ∧ ∀ u ∈ fv.toList, u.oneCell' = true) := Lib.hid (by
      have h1 := fun w' (hw : Fr [] wr w') => (HD.out.fr hw (by simp)).run s2.next (by omega) true
      simp only [if_true] at h1
      cases hf : findH s2.all s2.next with
      | none => rw [hf] at h1; exact ⟨_, h1, rfl, by simp [Value.oneCell']⟩
      | some o => rw [hf] at h1; exact ⟨_, h1, rfl, by simp [Value.oneCell']⟩)
    obtain ⟨fv, hrun, hfs, hf1⟩ := HRUN2.out
    have HRUN := Lib.hid hrun
    clear HRUN2 hrun
    generalize hfb : (findH s2.all s2.next).isSome = fb at *
    have HFB := Lib.hid hfb
    clear hfb
    go_upto_region 3 with fail
    refine wp_region_T (fun w' => Fr [] wr.drew w') [] 15 #[false, false, false, false, false, false, false, false, false, false, false, false, false, false, false] (by kernel_rfl) rfl rfl ?_
    try simp only [List.append_eq, List.cons_append, List.nil_append]
    have hF := (Fr.refl [] wr).drew
    have HF0 := Lib.hid hF
    have HV := Lib.hid (HV.out.keep hF)
    have HF := Lib.hid (HF.out.trans hF.any)
    have HE := Lib.hid (HE.out.keep Rep.out hF)
    clear hF
    have HSS : Hid (Fr [] wr.drew wr.drew) := Lib.hid (Fr.refl _ _)
    generalize wr.drew = wd at *
    refine wpAnyT_load (i := 0) (v := ?_) rfl (by kernel_rfl) (by kernel_rfl) (by kernel_rfl) (by kernel_rfl) (by kernel_rfl) (fun _ _ _ h => h) HSS.out (by rfl) ?_ ?_
    rotate_left
    · intro w hSw; skip; go_simp; try with_reducible rfl
    simp only [Act.put, List.getElem_toArray, List.getElem_cons_zero, List.getElem_cons_succ, List.setIfInBounds_toArray, List.set_cons_zero, List.set_cons_succ]
    refine wpAnyT_load (i := 1) (v := ?_) rfl (by kernel_rfl) (by kernel_rfl) (by kernel_rfl) (by kernel_rfl) (by kernel_rfl) (fun _ _ _ h => h) HSS.out (by rfl) ?_ ?_
    rotate_left
    · intro w hSw; skip; go_simp; try with_reducible rfl
    simp only [Act.put, List.getElem_toArray, List.getElem_cons_zero, List.getElem_cons_succ, List.setIfInBounds_toArray, List.set_cons_zero, List.set_cons_succ]
    refine wpAnyT_load (i := 2) (v := ?_) rfl (by kernel_rfl) (by kernel_rfl) (by kernel_rfl) (by kernel_rfl) (by kernel_rfl) (fun _ _ _ h => h) HSS.out (by rfl) ?_ ?_
    rotate_left
    · intro w hSw; skip; go_simp; try with_reducible rfl
    simp only [Act.put, List.getElem_toArray, List.getElem_cons_zero, List.getElem_cons_succ, List.setIfInBounds_toArray, List.set_cons_zero, List.set_cons_succ]
    refine wpAnyT_load (i := 3) (v := ?_) rfl (by kernel_rfl) (by kernel_rfl) (by kernel_rfl) (by kernel_rfl) (by kernel_rfl) (fun _ _ _ h => h) HSS.out (by rfl) ?_ ?_
    rotate_left
    · intro w hSw; have n0 := (HV.out.keep hSw).box.cell 6; simp only [winc, List.getElem?_toArray, List.getElem?_cons_succ, List.getElem?_cons_zero] at n0; go_simp; try with_reducible rfl
    simp only [Act.put, List.getElem_toArray, List.getElem_cons_zero, List.getElem_cons_succ, List.setIfInBounds_toArray, List.set_cons_zero, List.set_cons_succ]
    refine wpAnyT_load (i := 4) (v := ?_) rfl (by kernel_rfl) (by kernel_rfl) (by kernel_rfl) (by kernel_rfl) (by kernel_rfl) (fun _ _ _ h => h) HSS.out (by rfl) ?_ ?_
    rotate_left
    · intro w hSw; skip; go_simp; try with_reducible rfl
    simp only [Act.put, List.getElem_toArray, List.getElem_cons_zero, List.getElem_cons_succ, List.setIfInBounds_toArray, List.set_cons_zero, List.set_cons_succ]
    refine wpAnyT_load (i := 5) (v := ?_) rfl (by kernel_rfl) (by kernel_rfl) (by kernel_rfl) (by kernel_rfl) (by kernel_rfl) (fun _ _ _ h => h) HSS.out (by rfl) ?_ ?_
    rotate_left
    · intro w hSw; skip; go_simp; try with_reducible rfl
    simp only [Act.put, List.getElem_toArray, List.getElem_cons_zero, List.getElem_cons_succ, List.setIfInBounds_toArray, List.set_cons_zero, List.set_cons_succ]
    refine wpAnyT_load (i := 6) (v := ?_) rfl (by kernel_rfl) (by kernel_rfl) (by kernel_rfl) (by kernel_rfl) (by kernel_rfl) (fun _ _ _ h => h) HSS.out (by rfl) ?_ ?_
    rotate_left
    · intro w hSw; skip; go_simp; try with_reducible rfl
    simp only [Act.put, List.getElem_toArray, List.getElem_cons_zero, List.getElem_cons_succ, List.setIfInBounds_toArray, List.set_cons_zero, List.set_cons_succ]
    refine wpAnyT_load (i := 7) (v := ?_) rfl (by kernel_rfl) (by kernel_rfl) (by kernel_rfl) (by kernel_rfl) (by kernel_rfl) (fun _ _ _ h => h) HSS.out (by rfl) ?_ ?_
    rotate_left
    · intro w hSw; have n0 := (HV.out.keep hSw).box.cell 4; simp only [winc, List.getElem?_toArray, List.getElem?_cons_succ, List.getElem?_cons_zero] at n0; go_simp; try with_reducible rfl
    simp only [Act.put, List.getElem_toArray, List.getElem_cons_zero, List.getElem_cons_succ, List.setIfInBounds_toArray, List.set_cons_zero, List.set_cons_succ]
    refine wpAnyT_load (i := 8) (v := ?_) rfl (by kernel_rfl) (by kernel_rfl) (by kernel_rfl) (by kernel_rfl) (by kernel_rfl) (fun _ _ _ h => h) HSS.out (by rfl) ?_ ?_
    rotate_left
    · intro w hSw; have n0 := HRUN.out _ (HF0.out.trans hSw); go_simp; try with_reducible rfl
    simp only [Act.put, List.getElem_toArray, List.getElem_cons_zero, List.getElem_cons_succ, List.setIfInBounds_toArray, List.set_cons_zero, List.set_cons_succ]
    refine wpAnyT_load (i := 9) (v := ?_) rfl (by kernel_rfl) (by kernel_rfl) (by kernel_rfl) (by kernel_rfl) (by kernel_rfl) (fun _ _ _ h => h) HSS.out (by rfl) ?_ ?_
    rotate_left
    · intro w hSw; skip; go_simp; try with_reducible rfl
    simp only [Act.put, List.getElem_toArray, List.getElem_cons_zero, List.getElem_cons_succ, List.setIfInBounds_toArray, List.set_cons_zero, List.set_cons_succ]
    refine wpAnyT_load (i := 10) (v := ?_) rfl (by kernel_rfl) (by kernel_rfl) (by kernel_rfl) (by kernel_rfl) (by kernel_rfl) (fun _ _ _ h => h) HSS.out (by rfl) ?_ ?_
    rotate_left
    · intro w hSw; skip; go_simp; try with_reducible rfl
    simp only [Act.put, List.getElem_toArray, List.getElem_cons_zero, List.getElem_cons_succ, List.setIfInBounds_toArray, List.set_cons_zero, List.set_cons_succ]
    refine wpAnyT_load (i := 11) (v := ?_) rfl (by kernel_rfl) (by kernel_rfl) (by kernel_rfl) (by kernel_rfl) (by kernel_rfl) (fun _ _ _ h => h) HSS.out (by rfl) ?_ ?_
    rotate_left
    · intro w hSw; skip; go_simp; try with_reducible rfl
    simp only [Act.put, List.getElem_toArray, List.getElem_cons_zero, List.getElem_cons_succ, List.setIfInBounds_toArray, List.set_cons_zero, List.set_cons_succ]
    obtain ⟨wa, ea, hFa, hBa, -⟩ := one_new wd #[.int .i64 0, .int .i64 0] 69
    refine wpAnyT_one (i := 12) (by kernel_rfl) rfl (fun K hK => ?_)
    rw [if_pos (by rfl)]
    go_simp
    try rw [ea]
    refine hK.out _ _ (fun _ => hFa) ?_
    clear hK K
    simp only [Act.put, List.getElem_toArray, List.getElem_cons_zero, List.getElem_cons_succ, List.setIfInBounds_toArray, List.set_cons_zero, List.set_cons_succ]
    have HSS := Lib.hid hFa
    refine wpAnyT_one (i := 13) (by kernel_rfl) rfl (fun K hK => ?_)
    refine wp_store_row rfl 69 (.tmp 6) (.tmp 23) rfl wd.heap.size rfl _ _ rfl 69 hBa (by rw [hfs]; kernel_rfl) (by rw [hfs]; rfl) hf1 ?_
    intro wb hYb hGb
    have hFb := hFa.step hGb (by simp)
    refine hK.out _ _ (fun _ => hFb) ?_
    clear hK K
    simp only [Act.put, List.getElem_toArray, List.getElem_cons_zero, List.getElem_cons_succ, List.setIfInBounds_toArray, List.set_cons_zero, List.set_cons_succ]
    have HSS := Lib.hid hFb
    refine wpAnyT_load (i := 14) (v := ?_) rfl (by kernel_rfl) (by kernel_rfl) (by kernel_rfl) (by kernel_rfl) (by kernel_rfl) (fun _ _ _ h => h) HSS.out (by rfl) ?_ ?_
    rotate_left
    · intro w hSw; skip; go_simp; try with_reducible rfl
    simp only [Act.put, List.getElem_toArray, List.getElem_cons_zero, List.getElem_cons_succ, List.setIfInBounds_toArray, List.set_cons_zero, List.set_cons_succ]
    refine wpAnyT_done (by kernel_rfl) ?_ _
    have hF := HSS.out
    have HV := Lib.hid (HV.out.keep hF)
    have HF := Lib.hid (HF.out.trans hF.any)
    have HE := Lib.hid (HE.out.keep Rep.out hF)
    clear hF HSS HF0 HRUN HD
    cases ha : s2.all with
    | nil =>
      have HA := Lib.hid ha
      obtain rfl : fb = false := by rw [← HFB.out, ha]; rfl
      clear ha
      go_wp2_with fail
      refine (wDue_any HV.out HI.out).mono ?_
      rw [HA.out]
      rintro e w5 ⟨rfl, hF5⟩
      have HV := Lib.hid (HV.out.keep hF5); have HE := Lib.hid (HE.out.keep Rep.out hF5); have HF := Lib.hid (HF.out.trans hF5.any)
      clear hF5
      simp only [dueL, Option.getD_none, Option.isSome_none]
      go_wp2_with fail
      go_ret
      have HQ := HR.out.empty HA.out
      refine ⟨_, rfl, ?_, ?_, HF.out⟩
      · rw [HRR.out, HQ]; exact HE.out
      · rw [HRR.out, HQ]; exact HV.out.of_eq HR.out.eq
    | cons o l =>
      have HA := Lib.hid ha
      obtain ⟨k, hk, hk1, hk2, hk3⟩ := HI.out.some_ ha
      have HK := Lib.hid hk
      have hsrt := HI.out.sorted
      rw [ha] at hsrt
      have HSRT := Lib.hid hsrt
      have honn := HBB.out.2.1 o (by rw [ha]; simp)
      clear hsrt
      by_cases hon : o.n = s2.next
      · have HON := Lib.hid hon
        obtain rfl : fb = true := by rw [← HFB.out, ha, ← hon, find_head]; rfl
        clear ha hk
        have x4 := HV.out.box.cell 4
        simp only [winc, List.getElem?_toArray, List.getElem?_cons_succ, List.getElem?_cons_zero] at x4
        go_wp2_with fail
        have hT := wTake_any HV.out HI.out.sorted (o := o) (by rw [HA.out]; simp) honn
        rw [hon] at hT
        clear hon
        refine hT.mono ?_
        rintro e w6 ⟨rfl, hV6, hF6⟩
        have HDL : Hid (delH s2.all s2.next = l) := Lib.hid (by rw [HA.out, ← HON.out]; exact del_head HSRT.out)
        rw [HDL.out] at hV6
        have HV := Lib.hid hV6; have HE := Lib.hid (HE.out.fr Rep.out hF6 (by simp) (fun b hb hm => by have := (HE.out.block b hb).1; have := HLT.out; simp at hm; omega)); have HF := Lib.hid (HF.out.trans (hF6.mono (T := [g, mb]) (by simp)))
        clear hT hV6 hF6 x4
        obtain ⟨w7, e7, hF7, hB7, hs7⟩ := one_new w6 (outc o) 54
        have E7 := Lib.hid e7; have HB7 := Lib.hid hB7; have HF7 := Lib.hid hF7
        have HL1 : Hid (out.length + 1 ≤ maxLen) := Lib.hid (by have := HOL.out; unfold maxLen; omega)
        have HL2 : Hid ((out.length + 1) * 16 ≤ 140737488355328) := Lib.hid (by have := HOL.out; omega)
        have HL3 : Hid (w.heap.size ≤ w7.heap.size) := Lib.hid (by have := HF.out.size; have := hF7.size; omega)
        clear e7 hB7 hF7 hs7
        go_upto_region 6 with (at_builtin; (rw [E7.out]); refine wpList_append_el Rep.out (by decide) rfl (.tmp 26) (.tmp 33) 33 rfl w.heap.size 54 (.agg #[.int .u16 0, .int .i64 0]) 16 Try.underlying33 info_out rfl (.slice ax out.length cx) out [] rfl (HE.out.keep Rep.out HF7.out) w6.heap.size 0 1 rfl (outc o).toList o [] (box_range HB7.out) ⟨rfl, rfl⟩ (by simp) HL1.out HL2.out HL3.out ?_; intro vs1 w8 hown1 hfr1 hbl1; have HE1 := Lib.hid hown1; have HF8 := Lib.hid hfr1; obtain ⟨as1, cs1, rfl⟩ := hown1.shape; clear hown1 hfr1 hbl1)
        have HOLD : Hid (∀ b ∈ (blockOf (.slice ax out.length cx)).toList, w.heap.size ≤ b) := Lib.hid (fun b hb => (HE.out.block b (mem_toList.1 hb)).1)
        have HV := Lib.hid ((HV.out.keep HF7.out).fr HF8.out (fun hm => by have := HOLD.out g hm; have := HLT.out; omega) (fun hm => by have := HOLD.out mb hm; have := HLT.out; omega))
        have HF := Lib.hid ((HF.out.trans HF7.out.any).step HF8.out (fun b hb => .inr (HOLD.out b hb)))
        clear HE HF7 HF8 HB7 E7 HOLD
        obtain ⟨w9, e9, hF9, hB9, -⟩ := set_new HV.out.box 4 (.int .i64 (s2.next + 1))
        have x4 := HV.out.box.cell 4; have f4 := HV.out.box.free 4
        simp only [winc, List.getElem?_toArray, List.getElem?_cons_succ, List.getElem?_cons_zero, List.setIfInBounds_toArray, List.set_cons_zero, List.set_cons_succ] at x4 hB9
        have HV9 : Hid (WinV w9 g mb { s2 with all := l, next := s2.next + 1 }) := Lib.hid (HV.out.set_box hB9 hF9 rfl)
        have HE9 := Lib.hid (HE1.out.fr Rep.out hF9 (by simp) (fun b hb hm => by have := (HE1.out.block b hb).1; have := HLT.out; simp at hm; omega))
        have HF9 := Lib.hid (HF.out.trans (hF9.mono (T := [g, mb]) (by simp))); have E9 := Lib.hid e9
        clear hB9 hF9 e9
        have hw1 : IntKind.i64.wrap (s2.next + 1) = s2.next + 1 := IntWalk.i64_in _ (by omega)
        go_wp2_with fail
        rw [E9.out]
        go_roundw
        case rel =>
          have h9 := HE9.out
          rw [List.length_append] at h9
          exact ⟨_, out ++ [o], h9, HV9.out, HI.out.taken HA.out HON.out, HR.out.taken HA.out HON.out, by have := HLEN.out; rw [HA.out] at this; simp at this ⊢; omega, HF9.out⟩
        case measure =>
          rw [HM.out, HV9.out.behind, HK.out]
          show (k + 1 - (s2.next + 1)).toNat < (k + 1 - s2.next).toNat
          omega
      · have HON := Lib.hid hon
        have hon2 : s2.next < o.n := by omega
        obtain rfl : fb = false := by rw [← HFB.out, ha, find_low (fun p hp => by rcases List.mem_cons.1 hp with rfl | hp; exact hon2; have := (List.pairwise_cons.1 HSRT.out).1 p hp; omega)]; rfl
        obtain ⟨d, hd⟩ : ∃ d, dueL s2.wait s2.all = some d := by
          cases hd : dueL s2.wait s2.all with
          | none => rw [dueL_none, ha] at hd; cases hd
          | some d => exact ⟨d, rfl⟩
        have HDD := Lib.hid hd
        clear ha hk hon hd
        go_wp2_with fail
        refine (wDue_any HV.out HI.out).mono ?_
        rw [HDD.out]
        rintro e w5 ⟨rfl, hF5⟩
        have HV := Lib.hid (HV.out.keep hF5); have HE := Lib.hid (HE.out.keep Rep.out hF5); have HF := Lib.hid (HF.out.trans hF5.any)
        clear hF5
        simp only [Option.getD_some, Option.isSome_some]
        have x5 := HV.out.box.cell 5
        simp only [winc, List.getElem?_toArray, List.getElem?_cons_succ, List.getElem?_cons_zero] at x5
        by_cases hgt : s2.now < d
        · have hg1 : decide (s2.now < d) = true := decide_eq_true hgt
          have hg2 : decide (d > s2.now) = true := hg1
          go_wp2_with fail
          go_ret
          have HQ := HR.out.wait HA.out HON.out HDD.out hgt
          refine ⟨_, rfl, ?_, ?_, HF.out⟩
          · rw [HRR.out, HQ]; exact HE.out
          · rw [HRR.out, HQ]; exact HV.out.of_eq HR.out.eq
        · have hg1 : decide (s2.now < d) = false := decide_eq_false hgt
          have hg2 : decide (d > s2.now) = false := hg1
          go_wp2_with fail
          clear x5
          refine (wNumbers_any HV.out HI.out.sorted (by have := HBB.out.2.2.1; omega)).mono ?_
          rintro e w6 ⟨v6, rfl, hO, hF6⟩
          obtain ⟨a6, c6, rfl⟩ := hO.shape
          have hml : (s2.all.map (·.n)).length = l.length + 1 := by rw [HA.out]; simp
          obtain ⟨b6, o6, ea, -, -⟩ := Sl.at_ hO.sl (k := 0) (by rw [hml]; omega)
          subst ea
          have d0 := i64_cell hO.sl 0 (by rw [hml]; omega)
          have hg0 : (s2.all.map (·.n))[0]'(by rw [hml]; omega) = o.n := by simp only [HA.out]; rfl
          rw [hg0, Nat.add_zero] at d0
          rw [hml]
          have HV := Lib.hid (HV.out.keep hF6); have HE := Lib.hid (HE.out.keep Rep.out hF6); have HF := Lib.hid (HF.out.trans hF6.any)
          clear hO hF6 hg0 hml
          obtain ⟨w9, e9, hF9, hB9, -⟩ := set_new HV.out.box 4 (.int .i64 o.n)
          have x4 := HV.out.box.cell 4; have f4 := HV.out.box.free 4
          simp only [winc, List.getElem?_toArray, List.getElem?_cons_succ, List.getElem?_cons_zero, List.setIfInBounds_toArray, List.set_cons_zero, List.set_cons_succ] at x4 hB9
          have HV9 : Hid (WinV w9 g mb { s2 with next := o.n }) := Lib.hid (HV.out.set_box hB9 hF9 rfl)
          have HE9 := Lib.hid (HE.out.fr Rep.out hF9 (by simp) (fun b hb hm => by have := (HE.out.block b hb).1; have := HLT.out; simp at hm; omega))
          have HF9 := Lib.hid (HF.out.trans (hF9.mono (T := [g, mb]) (by simp))); have E9 := Lib.hid e9
          clear hB9 hF9 e9
          go_wp2_with fail
          rw [E9.out]
          go_roundw
          case rel => exact ⟨_, out, HE9.out, HV9.out, HI.out.moved HA.out, HR.out.moved HA.out HON.out HDD.out (by omega), HLEN.out, HF9.out⟩
          case measure =>
            rw [HM.out, HV9.out.behind, HK.out]
            show (k + 1 - o.n).toNat < (k + 1 - s2.next).toNat
            omega
end Go.Proofs.Ytbmpiemhfndnbaa

/- The walks of a window's All and of confluxlaw21.held, which ranges over it (printed by gen_win6.py). -/
namespace Go.Proofs.Ytbmpiemhfndnbaa
open Go.RowKit Go.Maps Go.Shelf

attribute [local go_sem] Oper.semAt_some
set_option maxRecDepth 100000 in
set_option maxHeartbeats 8000000 in
theorem wAll_any (g : Nat) (w : World) :
    Calls Try.prog 19 #[.pointer (some ⟨g, 0, none⟩)] w fun e w' => e = .returned (.func (.func 30) #[] #[.pointer (some ⟨w.heap.size, 0, none⟩)]) ∧ Box w' w.heap.size 24 #[.pointer (some ⟨g, 0, none⟩)] ∧ Fr [] w w' := by
  obtain ⟨w1, e1, hF1, hB1, hs1⟩ := one_new w #[.pointer (some ⟨g, 0, none⟩)] 24
  have HF := Lib.hid hF1; have HB := Lib.hid hB1; have E1 := Lib.hid e1
  clear hF1 hB1 hs1 e1
  go_enter Try.func19, Try.ntmps19
  go_wp2_with fail
  rw [E1.out]
  go_ret
  exact ⟨rfl, HB.out, HF.out⟩
abbrev outE (o : Held_) : Array Value := #[.int .u16 ((low16 o.n).toNat : Nat), .int .i64 o.x]
theorem WinV.kx {W W' : World} {g mb : Nat} {s : Win} {Xs : List (Nat × Nat)} (h : WinV W g mb s) (hk : Kx Xs W W') (hg : Gd Xs W g) : WinV W' g mb s := by
  obtain ⟨D, hD⟩ := h.map
  have hb := h.box
  have hlt := h.lt
  refine ⟨(hk.cell hg hlt.1).trans hb, ⟨D, ?_⟩, h.ne⟩
  obtain ⟨es, clock, h1, F, hs, e⟩ := hD.own
  exact ⟨⟨es, clock, hk.blocks _ _ h1 (.inr rfl), F, hs, e⟩, hD.tidy, hD.look, hD.size⟩
theorem sl_kx {W W' : World} {v : Value} {xs : List Value} {Xs : List (Nat × Nat)} (h : Sl W v xs) (hk : Kx Xs W W') (hg : ∀ b, blockOf v = some b → Gd Xs W b) : Sl W' v xs := by
  obtain ⟨a, cap, rfl, h1, h2, h3, h4⟩ := h
  refine ⟨a, cap, rfl, h1, h2, h3, ?_⟩
  rintro p rfl h0
  obtain ⟨g1, g2, g3⟩ := h4 p rfl h0
  have hgd := hg p.block (by simp [blockOf])
  have e := hk.cell hgd g2
  refine ⟨g1, Nat.lt_of_lt_of_le g2 hk.size, fun i x hx => ?_⟩
  rw [← g3 i x hx]
  exact World.cell?_of_block (a := ⟨p.block, p.off + i, none⟩) e
theorem Gd.kx {W W' : World} {k : Nat} {Xs : List (Nat × Nat)} (h : Gd Xs W k) (hk : Kx Xs W W') (hlt : k < W.heap.size) : Gd Xs W' k := hk.gd k hlt h
set_option maxRecDepth 100000 in
set_option maxHeartbeats 8000000 in
theorem wAll1_seq {w : World} (n : Nat) (hn : 2 ≤ n) (Bm g mb c : Nat) (s : Win) (Xs : List (Nat × Nat)) (hX : ∀ p ∈ Xs, p.1 < w.heap.size) (hB : Box w Bm 24 #[.pointer (some ⟨g, 0, none⟩)]) (hV : WinV w g mb s) (hI : WInv c s) (hc : c ≤ 1000)
    (hg1 : Gd Xs w g) (hg2 : Gd Xs w Bm) : SeqB Fence.wide n Try.prog 30 #[.pointer (some ⟨Bm, 0, none⟩)] outE Xs s.all w := by
  intro l J Jx W hW hLow hJa hJx hY h0
  have hFW := Fr.ofBelow hW
  have hbb := hI.bounds hc
  have HBB := Lib.hid hbb; have HI := Lib.hid hI
  have HXW : Hid (∀ p ∈ Xs, p.1 < W.heap.size) := Lib.hid (fun p hp => Nat.lt_of_lt_of_le (hX p hp) hW.size)
  have HG1 := Lib.hid (hg1.congr (W' := W) (fun p hp => hFW.block p.1 (hX p hp) (by simp))); have HG2 := Lib.hid (hg2.congr (W' := W) (fun p hp => hFW.block p.1 (hX p hp) (by simp)))
  have HB := Lib.hid (hB.keep hFW); have HV := Lib.hid (hV.keep hFW)
  have HY := Lib.hid hY; have HLOW := Lib.hid hLow
  clear hX hB hV hg1 hg2 hY hLow hI
  have x0 := HB.out.cell 0
  simp only [List.getElem?_toArray, List.getElem?_cons_zero] at x0
  show CallsIn _ _ _ _ #[.func (.yield l) #[] #[], .pointer (some ⟨Bm, 0, none⟩)] W _
  refine callsIn_of_wp Try.func30 rfl trivial ?_ rfl
  simp only [Try.ntmps30, List.size_toArray, List.length_cons, List.length_nil, Nat.reduceAdd, Nat.reduceSub, Array.replicate_succ, Array.replicate_zero, List.push_toArray, List.append_toArray, List.nil_append, List.cons_append]
  gi_wp2
  refine ⟨trivial, ?_⟩
  refine ⟨fun _ => by omega, ?_⟩
  refine (callsIn_wide.2 (wNumbers_any HV.out HI.out.sorted (by have := HBB.out.2.2.1; omega))).mono ?_
  rintro e W1 ⟨v1, rfl, hO, hF⟩
  clear x0
  obtain ⟨a1, c1, rfl⟩ := hO.shape
  rw [List.length_map] at hO ⊢
  have HK1 : Hid (Kx Xs W W1) := Lib.hid (Kx.ofFr hF HXW.out)
  have HS : Hid (Sl W1 (.slice a1 s.all.length c1) ((s.all.map (·.n)).map (Value.int .i64))) := Lib.hid hO.sl
  have HSB : Hid (∀ b, blockOf (.slice a1 s.all.length c1) = some b → W.heap.size ≤ b ∧ b < W1.heap.size) := Lib.hid (fun b hb => hO.block b hb)
  have HSG : Hid (∀ b, blockOf (.slice a1 s.all.length c1) = some b → Gd Xs W1 b) := Lib.hid (fun b hb => (Gd.new HLOW.out HXW.out (hO.block b hb).1).congr (fun p hp => hF.block p.1 (HXW.out p hp) (by simp)))
  have HV1 := Lib.hid (HV.out.keep hF); have HB1 := Lib.hid (HB.out.keep hF)
  have HG1 := Lib.hid (HG1.out.kx HK1.out HV.out.lt.1); have HG2 := Lib.hid (HG2.out.kx HK1.out HB.out.lt)
  have hJ1 := hJa.fr0 h0 hF
  have HJ1 := Lib.hid hJ1
  clear hO hF h0 hJ1
  gi_wp2
  gi_loopw [8] (fun i wr => ∃ k : Nat, k ≤ s.all.length ∧ i = .int .i64 k ∧ J (s.all.take k) wr ∧ Kx Xs W1 wr) (fun i _ => s.all.length - (Lib.intOf i).toNat)
  case atStart => exact ⟨0, Nat.zero_le _, rfl, HJ1.out, Kx.refl _ _⟩
  case round =>
    obtain ⟨k, hk, rfl, hJs, hkx⟩ := hrel
    have HJS := Lib.hid hJs; have HKX := Lib.hid hkx
    clear hJs hkx HJ1
    by_cases hlt : k < s.all.length
    · have HS2 : Hid (Sl wr (.slice a1 s.all.length c1) ((s.all.map (·.n)).map (Value.int .i64))) := Lib.hid (sl_kx HS.out HKX.out HSG.out)
      obtain ⟨b, o, ea, hbl, -⟩ := Sl.at_ HS2.out (k := k) (by omega)
      have hd0 : wr.cell? ⟨b, o + k, none⟩ = some (.int .i64 s.all[k].n) := by
        subst ea
        have := i64_cell HS2.out k (by rw [List.length_map]; omega)
        rw [List.getElem_map] at this
        exact this
      subst ea
      have hV2 := HV1.out.kx HKX.out HG1.out
      have hB2 : Box wr Bm 24 #[.pointer (some ⟨g, 0, none⟩)] := (HKX.out.cell HG2.out HB1.out.lt).trans HB1.out
      have HPRE : Hid ((s.all.take k ++ [s.all[k]]) <+: s.all) := Lib.hid (by rw [← List.take_succ_eq_append_getElem hlt]; exact List.take_prefix _ _)
      have HT : Hid (s.all.take (k + 1) = s.all.take k ++ [s.all[k]]) := Lib.hid (List.take_succ_eq_append_getElem hlt)
      have hmem : s.all[k] ∈ s.all := List.getElem_mem hlt
      have hon := HBB.out.2.1 _ hmem
      have hfm := findH_mem HI.out.sorted hmem
      generalize s.all[k] = y at *
      obtain ⟨D, hD⟩ := hV2.map
      have hrun := hD.run y.n hon false
      rw [hfm] at hrun
      simp only [Option.map_some, Option.getD_some, Bool.false_eq_true, if_false, hv] at hrun
      have x6 := hV2.box.cell 6; have x0 := hB2.cell 0
      simp only [winc, List.getElem?_toArray, List.getElem?_cons_succ, List.getElem?_cons_zero] at x6 x0
      have hfd := field_x y.x y.at_ wr
      have hlo := wrap_low16 y.n
      clear hD hV2 hB2 hmem hfm
      obtain ⟨fn, tmps, assign, body, hy, hR⟩ := HY.out (s.all.take k) y wr HPRE.out HJS.out
      try dsimp only [outE] at hy
      have HR := Lib.hid hR
      clear hR
      gi_wp2
      refine ⟨fun _ => by omega, ?_⟩
      refine HR.out.mono ?_
      rintro e W3 (⟨rfl, hJ3, hk3⟩ | ⟨rfl, hJx3⟩)
      · clear hy hrun x6 x0 hfd hd0
        have HJ3 := Lib.hid hJ3; have HK3 := Lib.hid (HKX.out.trans hk3)
        clear hJ3 hk3
        gi_wp2
        go_roundw
        case rel => exact ⟨k + 1, by omega, by simp, by rw [HT.out]; exact HJ3.out, HK3.out⟩
        case measure => simp [Lib.intOf]; omega
      · clear hy hrun x6 x0 hfd hd0
        gi_wp2
        refine bodyPost_ret (results_none rfl _ _ _) rfl ?_
        exact ⟨⟨_, rfl⟩, .inr ⟨_, HPRE.out, hJx3⟩⟩
    · obtain rfl : k = s.all.length := by omega
      gi_wp2
      go_end0
      exact ⟨⟨_, rfl⟩, .inl ⟨by have h := HJS.out; rwa [List.take_length] at h, HK1.out.trans HKX.out⟩⟩
/-- What a round of held keeps. -/
structure HRel (w : World) (most : Int) (B Bm X : Nat) (pre : List Held_) (W : World) : Prop where
  out : ∃ v, Box W X 33 #[v] ∧ OwnEls 2 OutR W w.heap.size 54 v pre [] ∧ ∀ b, blockOf v = some b → b ≠ X ∧ b ≠ Bm
  most : Box W Bm 3 #[.int .i64 most]
  fr : Fr [] w W
  size : B ≤ W.heap.size
theorem OwnEls.cells {α : Type} {k : Nat} {R : World → List Value → α → List Nat → Prop} {w : World} {base : Nat} {e : TypeId} {v : Value} {ys : List α} {B : List Nat} (h : OwnEls k R w base e v ys B) : ∀ b, blockOf v = some b → ∃ o : Obj, w.heap[b]? = some o ∧ o.isCells = true := by
  intro b hb
  obtain ⟨cells, ⟨_, h | ⟨g, cap, cur, rfl, hbg, hgg, _⟩⟩, _⟩ := h
  · rw [h.1] at hb; simp [blockOf] at hb
  · simp only [blockOf, Option.some.injEq] at hb
    subst hb
    exact ⟨_, hgg, rfl⟩
theorem HRel.abx {w : World} {most : Int} {B Bm X : Nat} (hX : X < B) (hm : Bm < B) (hB : w.heap.size ≤ B) {P : List Held_ → Prop} : AbX [(X, 0)] B (fun pre W => HRel w most B Bm X pre W ∧ P pre) := by
  rintro pre A A' row ⟨⟨⟨v, h1, h2, h3⟩, h4, h5, h6⟩, hp⟩ hg hr
  have hblk : ∀ k, k < B → k < A.heap.size → A'.heap[k]? = A.heap[k]? := fun k hk hA => hg.block k hA (fun e => by have := (hr k e.symm).1; omega)
  refine ⟨⟨⟨v, (hblk X hX h1.lt).trans h1, ?_, h3⟩, (hblk Bm hm h4.lt).trans h4, ?_, Nat.le_trans h6 hg.size⟩, hp⟩
  · refine h2.fr Rep.out (Fr.ofGrown hg) (by simp) (fun b hb hm => ?_)
    obtain ⟨hB', hc⟩ := hr b (by simpa using hm)
    rcases hc with ⟨o, ho, hc⟩ | hc
    · obtain ⟨o', ho', hc'⟩ := h2.cells b hb
      rw [ho] at ho'
      cases ho'
      rw [hc] at hc'
      cases hc'
    · exact (hc (X, 0) (by simp)).2 v (by have := h1.cell 0; simpa using this) hb
  · exact ⟨hg.os.trans h5.os, hg.tape.trans h5.tape, hg.output.trans h5.output, Nat.le_trans h5.size hg.size, fun k hk _ => (hblk k (by omega) (Nat.lt_of_lt_of_le hk h5.size)).trans (h5.block k hk (by simp))⟩
set_option maxRecDepth 100000 in
set_option maxHeartbeats 8000000 in
theorem l21held_any {w : World} {g mb c : Nat} {s : Win} (hV : WinV w g mb s) (hI : WInv c s) (hc : c ≤ 1000) (most : Int) (hm : 1 ≤ most) :
    Calls Try.prog 17 #[.pointer (some ⟨g, 0, none⟩), .int .i64 most] w fun e w' => ∃ v, e = .returned v ∧ OwnEls 2 OutR w' w.heap.size 54 v (s.all.take most.toNat) [] ∧ Fr [] w w' := by
  refine (callsIn_wide (n := 8)).1 ?_
  refine callsIn_of_wp_marks Try.func17 rfl trivial ?_ rfl
  simp only [Try.ntmps17, List.size_toArray, List.length_cons, List.length_nil, Nat.reduceAdd, Nat.reduceSub, Array.replicate_succ, Array.replicate_zero, List.push_toArray, List.append_toArray, List.nil_append, List.cons_append]
  obtain ⟨w1, e1, hF1, hB1, hs1⟩ := one_new w #[.int .i64 most] 3
  obtain ⟨w2, e2, hF2, hB2, hs2⟩ := one_new w1 #[] 54
  obtain ⟨w3, e3, hF3, hB3, hs3⟩ := one_new w2 #[.slice (some ⟨w1.heap.size, 0, none⟩) 0 0] 33
  have HO : Hid (OwnEls 2 OutR w3 w.heap.size 54 (.slice (some ⟨w1.heap.size, 0, none⟩) 0 0) [] []) := Lib.hid (by rw [← e2] at hF3 e3; exact (OwnEls.made w1 w.heap.size _ (by omega)).keep Rep.out hF3)
  have HB1 := Lib.hid (hB1.keep (hF2.trans hF3)); have HX := Lib.hid hB3; have HF := Lib.hid ((hF1.trans hF2).trans hF3)
  have E1 := Lib.hid e1; have E2 := Lib.hid e2; have E3 := Lib.hid e3; have HS1 := Lib.hid hs1; have HS2 := Lib.hid hs2
  clear hF1 hB1 hF2 hB2 hF3 hB3 hs1 hs2 hs3 e1 e2 e3
  gi_wp2
  rw [← HS1.out, ← HS2.out, E1.out, E2.out, E3.out]
  clear E1 E2 E3
  refine ⟨trivial, ?_⟩
  refine (callsIn_wide.2 (wAll_any g _)).mono ?_
  rintro e w4 ⟨rfl, hB4, hF4⟩
  have hlt0 := hV.lt
  have hz3 := HX.out.lt
  have hz4 := hB4.lt
  have HO := Lib.hid (HO.out.keep Rep.out hF4); have HB1 := Lib.hid (HB1.out.keep hF4); have HX := Lib.hid (HX.out.keep hF4); have HF := Lib.hid (HF.out.trans hF4)
  generalize hg3 : w3.heap.size = Bw at *
  have HN : Hid (w.heap.size < w1.heap.size ∧ w1.heap.size < w2.heap.size ∧ w2.heap.size < Bw ∧ Bw < w4.heap.size) := Lib.hid (by have := HS1.out; have := HS2.out; omega)
  clear HS1 HS2 hg3 hz3 hz4
  generalize w1.heap.size = Lb at *
  generalize w2.heap.size = X at *
  have HXX : Hid (∀ p ∈ [(X, 0)], p.1 < w4.heap.size) := Lib.hid (by have := HN.out; simp; omega)
  have hcx : ∀ v, w4.cell? ⟨X, 0, none⟩ = some v → v = .slice (some ⟨Lb, 0, none⟩) 0 0 := fun v hv => by
    have := HX.out.cell 0
    simp only [List.getElem?_toArray, List.getElem?_cons_zero] at this
    rw [this] at hv
    exact (Option.some.inj hv).symm
  have HLow : Hid (Low [(X, 0)] w4) := Lib.hid (fun p hp v b hv hb => by
    simp at hp
    subst hp
    rw [hcx v hv] at hb
    simp [blockOf] at hb
    have := HN.out
    omega)
  have hgd : ∀ k, k ≠ X → k ≠ Lb → Gd [(X, 0)] w4 k := fun k h1 h2 p hp => by
    simp at hp
    subst hp
    refine ⟨h1, fun v hv hb => ?_⟩
    rw [hcx v hv] at hb
    simp [blockOf] at hb
    exact h2 hb.symm
  have HSEQ := Lib.hid (wAll1_seq (w := w4) 7 (by omega) Bw g mb c s [(X, 0)] HXX.out hB4 (hV.keep HF.out) hI hc (hgd g (by have := HN.out; omega) (by have := HN.out; omega)) (hgd Bw (by have := HN.out; omega) (by have := HN.out; omega)))
  have HLEN : Hid (s.all.length ≤ 64) := Lib.hid (hI.bounds hc).2.2.1
  have HG0 : Hid (HRel w most w4.heap.size w.heap.size X [] w4) := Lib.hid ⟨⟨_, HX.out, HO.out, fun b hb => by simp [blockOf] at hb; have := HN.out; omega⟩, HB1.out, HF.out, Nat.le_refl _⟩
  have HPRE : Hid (∀ pre : List Held_, pre <+: s.all → pre.length ≤ 64) := Lib.hid (fun pre hp => Nat.le_trans hp.length_le HLEN.out)
  clear hV hI hF4 hB4 hlt0 hcx hgd HO HB1 HX
  have hzz := HF.out.size
  gi_wp2
  refine wpIn_rangeBrk rfl (by omega) (gf := 30) (lb := #[.pointer (some ⟨Bw, 0, none⟩)]) rfl trivial (enters_of Try.func30 (by kernel_rfl) rfl) HSEQ.out (Below.refl _ _) (fun _ => rfl) HXX.out HLow.out
    (fun pre W => HRel w most w4.heap.size w.heap.size X pre W ∧ (pre.length : Int) < most)
    (fun id pre W => HRel w most w4.heap.size w.heap.size X pre W ∧ id = 0 ∧ (pre.length : Int) = most)
    (HRel.abx (by have := HN.out; omega) (by have := HN.out; omega) hzz) (fun id => HRel.abx (P := fun pre => id = 0 ∧ (pre.length : Int) = most) (by have := HN.out; omega) (by have := HN.out; omega) hzz)
    ⟨HG0.out, by simp; omega⟩
    (fun o => { tmps := #[.pointer (some ⟨g, 0, none⟩), .int .i64 most, undef, .pointer (some ⟨w.heap.size, 0, none⟩), .slice none 0 0, .pointer (some ⟨X, 0, none⟩), .int .u16 ((low16 o.n).toNat : Nat), .int .i64 o.x, .slice (some ⟨Lb, 0, none⟩) 0 0, .pointer (some ⟨g, 0, none⟩), .func (.func 30) #[] #[.pointer (some ⟨Bw, 0, none⟩)], .int .u16 ((low16 o.n).toNat : Nat), .int .i64 o.x, undef, undef, undef, undef, undef, undef, undef, undef, undef, undef, undef], defers := [] })
    ?assign ?body ?done ?stop
  case assign =>
    intro l' x W' K hK
    gi_wp2
    exact hK
  case body =>
    rintro l' pre o W' hl' hpre ⟨⟨⟨v, hX, hown, hvb⟩, hmost, hFr, hsz⟩, hplt⟩ hlw hsz2
    have hpl : pre.length + 1 ≤ 64 := by have := HPRE.out _ hpre; simpa using this
    obtain ⟨a7, c7, rfl⟩ := hown.shape
    have hXlt := hX.lt
    have x0 := hX.cell 0; have m0 := hmost.cell 0
    simp only [List.getElem?_toArray, List.getElem?_cons_zero] at x0 m0
    obtain ⟨w5, e5, hF5, hB5, hs5⟩ := one_new W' (outc o) 54
    have E5 := Lib.hid e5; have HF5 := Lib.hid hF5; have HB5 := Lib.hid hB5
    have HOWN := Lib.hid (hown.keep Rep.out hF5); have HX5 := Lib.hid (hX.keep hF5); have HM5 := Lib.hid (hmost.keep hF5); have HVB := Lib.hid hvb; have HFR := Lib.hid hFr; have HOW := Lib.hid hown; have HXW := Lib.hid hX
    have HL1 : Hid (pre.length + 1 ≤ maxLen) := Lib.hid (by unfold maxLen; omega)
    have HL2 : Hid ((pre.length + 1) * 16 ≤ 140737488355328) := Lib.hid (by omega)
    have HL3 : Hid (w.heap.size ≤ w5.heap.size) := Lib.hid (by have := hFr.size; have := hF5.size; omega)
    clear e5 hF5 hB5 hs5 hown hX hmost hvb hFr
    gi_wp2_with (gi_at_builtin; (rw [E5.out]); refine wpListIn_append_el Rep.out (by decide) rfl (.tmp 13) (.tmp 17) 33 rfl w.heap.size 54 (.agg #[.int .u16 0, .int .i64 0]) 16 Try.underlying33 info_out rfl (.slice a7 pre.length c7) pre [] rfl HOWN.out W'.heap.size 0 1 rfl (outc o).toList o [] (box_range HB5.out) ⟨rfl, rfl⟩ (by simp) HL1.out HL2.out HL3.out ?_; intro v8 w6 hown8 hfr8 hbl8; have HOWN8 := Lib.hid hown8; have HFR8 := Lib.hid hfr8; have HBL8 := Lib.hid hbl8; obtain ⟨a8, c8, rfl⟩ := hown8.shape; clear hown8 hfr8 hbl8; have hX6 := HX5.out.fr HFR8.out (fun hm => (HVB.out _ (mem_toList.1 hm)).1 rfl); have hM6 := HM5.out.fr HFR8.out (fun hm => (HVB.out _ (mem_toList.1 hm)).2 rfl); have x4 := hX6.cell 0; have f4 := hX6.free 0; obtain ⟨w7, e7, hF7, hB7, -⟩ := set_new hX6 0 (.slice a8 (pre.length + 1) c8); have hM7 := hM6.fr hF7 (by have := HN.out; simp; omega); have x7 := hB7.cell 0; have m4 := hM7.cell 0; (simp only [List.setIfInBounds_toArray, List.set_cons_zero] at hB7 x7); (simp only [List.getElem?_toArray, List.getElem?_cons_zero] at x4 m4 x7); have HX7 := Lib.hid hB7; have HM7 := Lib.hid hM7; have HF7 := Lib.hid hF7; have HX6 := Lib.hid hX6; clear hX6 hM6 hM7 hF7 hB7)
    all_goals
      have KEY : Kx [(X, 0)] W' w7 ∧ HRel w most w4.heap.size w.heap.size X (pre ++ [o]) w7 := by
        have hX := HXW.out
        have z5 := HF5.out.size; have z6 := HFR8.out.size; have z7 := HF7.out.size; have zw := HF.out.size
        have hn := HN.out
        have hpl1 : (pre ++ [o]).length = pre.length + 1 := by simp
        have hnX : ¬ Gd [(X, 0)] W' X := fun h => (h (X, 0) (by simp)).1 rfl
        have hnv : ∀ b, blockOf (.slice a7 pre.length c7) = some b → ¬ Gd [(X, 0)] W' b := fun b hb h => (h (X, 0) (by simp)).2 _ (by have := hX.cell 0; simpa using this) hb
        have hown8 := HOWN8.out; have hbl8 := HBL8.out
        rw [hpl1] at hown8 hbl8
        rw [List.append_nil] at hown8
        have hv8 : ∀ b, blockOf (.slice a8 (pre.length + 1) c8) = some b → b ≠ X ∧ b ≠ w.heap.size ∧ b < w7.heap.size ∧ (W'.heap.size ≤ b ∨ ¬ Gd [(X, 0)] W' b) := fun b hb => by
          have h1 := hown8.block b hb
          rcases hbl8 b hb with h | h
          · have := HVB.out b h
            exact ⟨this.1, this.2, by omega, .inr (hnv b h)⟩
          · exact ⟨by omega, by omega, by omega, .inl (by omega)⟩
        have hfr : Fr ((blockOf (.slice a7 pre.length c7)).toList ++ [X]) W' w7 := ((HF5.out.any).trans (HFR8.out.mono (fun x hx => by simp [hx]))).trans (HF7.out.mono (fun x hx => by simp at hx; simp [hx]))
        refine ⟨Kx.body2 hfr ?_ ?_, ⟨⟨_, HX7.out, hown8.fr Rep.out HF7.out (by simp) (fun b hb hm => by simp at hm; exact (hv8 b hb).1 hm), fun b hb => ⟨(hv8 b hb).1, (hv8 b hb).2.1⟩⟩, HM7.out, ?_, by omega⟩⟩
        · intro gb hg
          rcases List.mem_append.1 hg with hg | hg
          · have hg' := mem_toList.1 hg
            exact .inr ⟨hnv gb hg', HOW.out.cells gb hg'⟩
          · simp at hg
            subst hg
            exact .inr ⟨hnX, _, hX, rfl⟩
        · intro p hp v b hv hb
          simp at hp
          subst hp
          have := HX7.out.cell 0
          simp only [List.getElem?_toArray, List.getElem?_cons_zero] at this
          rw [this] at hv
          cases hv
          exact (hv8 b hb).2.2
        · refine HFR.out.step hfr (fun x hx => .inr ?_)
          rcases List.mem_append.1 hx with hx | hx
          · exact (HOW.out.block x (mem_toList.1 hx)).1
          · simp at hx; omega
    · have hb := ‹(_ == most) = true›
      have hb2 := eq_of_beq hb
      exact ⟨KEY.1, KEY.2, rfl, by simp; omega⟩
    · have hb := ‹(_ == most) = false›
      have hb2 : ¬ ((pre.length : Int) + 1 = most) := fun e => by rw [e] at hb; simp at hb
      exact ⟨KEY.1, KEY.2, by simp; omega⟩
  case done =>
    rintro D W' hD ⟨⟨⟨v, hX, hown, hvb⟩, hmost, hFr, hsz⟩, hplt⟩ hK hDk
    obtain ⟨a7, c7, rfl⟩ := hown.shape
    have x0 := hX.cell 0
    simp only [List.getElem?_toArray, List.getElem?_cons_zero] at x0
    have HOWN := Lib.hid hown; have HFR := Lib.hid hFr
    have HTK : Hid (s.all.take most.toNat = s.all) := Lib.hid (List.take_of_length_le (by omega))
    clear hown hFr hK hX
    gi_wp2
    have hFD : Fr [D] W' (W'.putObj D (.deferred none)) := Fr.ofGrown (grownBy_putObj' W' D _)
    have zw := HF.out.size
    refine ⟨by simp, .inl ⟨_, _, rfl, run_takeDeferred hDk, ?_⟩⟩
    refine ⟨_, results_tmp rfl _ _ _, _, rfl, ?_, HFR.out.step hFD (fun x hx => .inr (by simp at hx; omega))⟩
    rw [HTK.out]
    exact HOWN.out.fr Rep.out hFD (by simp) (fun b hb hm => by
      have hbD : b = D := by simpa using hm
      subst hbD
      obtain ⟨o', ho', hc'⟩ := HOWN.out.cells b hb
      rw [hDk] at ho'
      cases ho'
      cases hc')
  case stop =>
    rintro D id pre W' hD hpre ⟨⟨⟨v, hX, hown, hvb⟩, hmost, hFr, hsz⟩, rfl, hpl⟩ hDk
    obtain ⟨a7, c7, rfl⟩ := hown.shape
    have x0 := hX.cell 0
    simp only [List.getElem?_toArray, List.getElem?_cons_zero] at x0
    have HOWN := Lib.hid hown; have HFR := Lib.hid hFr
    have HTK : Hid (s.all.take most.toNat = pre) := Lib.hid (by
      obtain ⟨r, hr⟩ := hpre
      rw [← hr, List.take_append_of_le_length (by omega), List.take_of_length_le (by omega)])
    clear hown hFr hX
    gi_wp2
    have hFD : Fr [D] W' (W'.putObj D (.deferred none)) := Fr.ofGrown (grownBy_putObj' W' D _)
    have zw := HF.out.size
    refine ⟨by simp, .inl ⟨_, _, rfl, run_takeDeferred hDk, ?_⟩⟩
    refine ⟨_, results_tmp rfl _ _ _, _, rfl, ?_, HFR.out.step hFD (fun x hx => .inr (by simp at hx; omega))⟩
    rw [HTK.out]
    exact HOWN.out.fr Rep.out hFD (by simp) (fun b hb hm => by
      have hbD : b = D := by simpa using hm
      subst hbD
      obtain ⟨o', ho', hc'⟩ := HOWN.out.cells b hb
      rw [hDk] at ho'
      cases ho'
      cases hc')
end Go.Proofs.Ytbmpiemhfndnbaa

/- The walk of confluxlaw21.alive (printed by gen_alive21.py). -/
namespace Go.Proofs.Ytbmpiemhfndnbaa
open Go.RowKit Go.Maps Go.Shelf

attribute [local go_sem] Oper.semAt_some
def aw0 : Win := ⟨4, 10, none, 0, 0, []⟩
def aw1 : Win := ⟨4, 10, some 4294967301, 4294967301, 0, [⟨4294967301, 50, 0⟩]⟩
def aw2 : Win := ⟨4, 10, some 4294967303, 4294967301, 0, [⟨4294967301, 50, 0⟩, ⟨4294967303, 70, 0⟩]⟩
def aw3 : Win := ⟨4, 10, some 4294967303, 4294967302, 0, [⟨4294967303, 70, 0⟩]⟩
def aw4 : Win := ⟨4, 10, some 4294967303, 4294967302, 9, [⟨4294967303, 70, 0⟩]⟩
def aw5 : Win := ⟨4, 10, some 4294967303, 4294967304, 10, []⟩
def aw6 : Win := ⟨4, 10, some 4294967304, 4294967304, 10, [⟨4294967304, 80, 10⟩]⟩
def aw7 : Win := ⟨4, 10, some 4294967308, 4294967305, 10, [⟨4294967308, 120, 10⟩]⟩
theorem aw_new : Win.new 4 10 = aw0 := rfl
theorem aw_put1 : aw0.put 5 50 0 = (aw1, [], 0) := by rfl
theorem aw_put2 : aw1.put 7 70 0 = (aw2, [], 0) := by rfl
theorem aw_put3 : aw2.put 7 70 0 = (aw2, [], 5) := by rfl
theorem aw_rel1 : aw2.release 0 = (aw3, [⟨4294967301, 50, 0⟩]) := by rfl
theorem aw_rel2 : aw3.release 9 = (aw4, []) := by rfl
theorem aw_due : dueL aw4.wait aw4.all = some 10 := by rfl
theorem aw_rel3 : aw4.release 10 = (aw5, [⟨4294967303, 70, 0⟩]) := by rfl
theorem aw_put4 : aw5.put 5 1 10 = (aw5, [], 50) := by rfl
theorem aw_put5 : aw5.put 8 80 10 = (aw6, [], 0) := by rfl
theorem aw_put6 : aw6.put 12 120 10 = (aw7, [⟨4294967304, 80, 10⟩], 0) := by rfl
theorem aw_inv0 : WInv 0 aw0 := WInv.new 4 10
theorem aw_inv1 : WInv 1 aw1 := by have := aw_inv0.put 5 50 0; rw [aw_put1] at this; exact this
theorem aw_inv2 : WInv 2 aw2 := by have := aw_inv1.put 7 70 0; rw [aw_put2] at this; exact this
theorem aw_inv3 : WInv 2 aw3 := by have := aw_inv2.release 0; rw [aw_rel1] at this; exact this
theorem aw_inv4 : WInv 2 aw4 := by have := aw_inv3.release 9; rw [aw_rel2] at this; exact this
theorem aw_inv5 : WInv 2 aw5 := by have := aw_inv4.release 10; rw [aw_rel3] at this; exact this
theorem aw_inv6 : WInv 3 aw6 := by have := aw_inv5.put 8 80 10; rw [aw_put5] at this; exact this
theorem aw_inv7 : WInv 4 aw7 := by have := aw_inv6.put 12 120 10; rw [aw_put6] at this; exact this
/-- The one element of a slice. -/
theorem one_out {w : World} {base : Nat} {v : Value} {o : Held_} (h : OwnEls 2 OutR w base 54 v [o] []) : ∃ b c, v = .slice (some ⟨b, 0, none⟩) 1 c ∧ base ≤ b ∧ w.cell? ⟨b, 0, none⟩ = some (.int .u16 ((low16 o.n).toNat : Nat)) ∧ w.cell? ⟨b, 1, none⟩ = some (.int .i64 o.x) := by
  have hb0 := h.block
  obtain ⟨cells, ⟨_, hh⟩, h2, _⟩ := h
  rcases hh with ⟨_, h0⟩ | ⟨g, cap, cur, rfl, hbg, hgg, h3, h4, h5, h6⟩
  · simp at h0
  · obtain ⟨c, rest, B1, B2, rfl, -, ⟨rfl, -⟩, ⟨rfl, -⟩⟩ := h2
    refine ⟨g, cap, rfl, hbg, ?_, ?_⟩
    · rw [cell_of_row w g 0 cur _ _ hgg, ← Array.getElem?_toList]
      have : (cur.toList.take ([o].length * 2))[0]? = some (.int .u16 ((low16 o.n).toNat : Nat)) := by rw [h6]; rfl
      rwa [List.getElem?_take_of_lt (by simp)] at this
    · rw [cell_of_row w g 1 cur _ _ hgg, ← Array.getElem?_toList]
      have : (cur.toList.take ([o].length * 2))[1]? = some (.int .i64 o.x) := by rw [h6]; rfl
      rwa [List.getElem?_take_of_lt (by simp)] at this
/-- What the round of alive keeps. -/
def alSum (l : List Held_) : Int := l.foldl (fun n o => wrap64 (n + wrap64 (wrap64 (wrap64 ((low16 o.n).toNat : Int) * 1000) + o.x))) 0
theorem alSum7 : alSum aw4.all = 7070 := by
  have h : (low16 4294967303).toNat = 7 := rfl
  simp [alSum, aw4, h, IntWalk.wrap64_in]
theorem alSum_snoc (l : List Held_) (o : Held_) : alSum (l ++ [o]) = wrap64 (alSum l + wrap64 (wrap64 (wrap64 ((low16 o.n).toNat : Int) * 1000) + o.x)) := by unfold alSum; rw [List.foldl_append]; rfl
theorem cell_lt {w : World} {b i : Nat} {v : Value} (h : w.cell? ⟨b, i, none⟩ = some v) : b < w.heap.size := by
  refine Classical.byContradiction fun hn => ?_
  have : w.heap[b]? = none := Array.getElem?_eq_none_iff.2 (by omega)
  simp [World.cell?, this] at h
theorem cell_fr {w w' : World} {b i : Nat} {v : Value} {S : List Nat} (h : w.cell? ⟨b, i, none⟩ = some v) (hf : Fr S w w') (hS : b ∉ S) : w'.cell? ⟨b, i, none⟩ = some v := hf.cellSome h hS
structure AlR (w : World) (B X : Nat) (n : Int) (W : World) : Prop where
  box : Box W X 3 #[.int .i64 n]
  fr : Fr [X] w W
  size : B ≤ W.heap.size
theorem AlR.abx {w : World} {B X : Nat} {n : List Held_ → Int} (hX : X < B) (hB : w.heap.size ≤ B) : AbX [(X, 0)] B (fun pre W => AlR w B X (n pre) W) := by
  rintro pre A A' row ⟨h1, h2, h3⟩ hg hr
  have hb : A'.heap[X]? = A.heap[X]? := hg.block X h1.lt (fun e => by have := (hr X e.symm).1; omega)
  exact ⟨hb.trans h1, ⟨hg.os.trans h2.os, hg.tape.trans h2.tape, hg.output.trans h2.output, Nat.le_trans h2.size hg.size, fun k hk hn => (hg.block k (Nat.lt_of_lt_of_le hk h2.size) (fun e => by have := (hr k e.symm).1; omega)).trans (h2.block k hk hn)⟩, Nat.le_trans h3 hg.size⟩
set_option maxRecDepth 100000 in
set_option maxHeartbeats 16000000 in
theorem l21alive_any {w : World} : Calls Try.prog 6 #[] w fun e w' => e = .returned (.bool true) ∧ Fr [] w w' := by
  refine (callsIn_wide (n := 8)).1 ?_
  refine callsIn_of_wp_marks Try.func6 rfl trivial ?_ rfl
  simp only [Try.ntmps6, List.size_toArray, List.length_cons, List.length_nil, Nat.reduceAdd, Nat.reduceSub, Array.replicate_succ, Array.replicate_zero, List.push_toArray, List.append_toArray, List.nil_append, List.cons_append]
  gi_wp2
  refine ⟨trivial, ?_⟩
  refine (callsIn_wide.2 (wNew_any 4 10)).mono ?_
  rintro e w1 ⟨g, mb, rfl, hV, hF, hg1, hg2⟩
  rw [aw_new] at hV
  have HV := Lib.hid hV; have HF := Lib.hid hF; have HG : Hid (w.heap.size ≤ g ∧ w.heap.size ≤ mb ∧ g < w1.heap.size ∧ mb < w1.heap.size) := Lib.hid ⟨hg1, hg2, hV.lt.1, hV.lt.2⟩
  have HZ : Hid (w1.heap.size ≤ w1.heap.size) := Lib.hid (Nat.le_refl _)
  clear hV hF hg1 hg2
  gi_wp2
  refine ⟨trivial, ?_⟩
  refine (callsIn_wide.2 (wNext_any HV.out)).mono ?_
  rw [show (low16 aw0.next).toNat = 0 from rfl, show aw0.hi.isSome = false from rfl]
  rintro e w2 ⟨rfl, hF⟩
  have HF := Lib.hid (HF.out.trans hF)
  have HV := Lib.hid (HV.out.keep hF)
  have HZ := Lib.hid (Nat.le_trans HZ.out hF.size)
  clear hF
  gi_wp2
  refine ⟨trivial, ?_⟩
  refine (callsIn_wide.2 (wPut_any HV.out aw_inv0 (by decide) 5 50 0)).mono ?_
  rw [aw_put1]
  rintro e w3 ⟨v3, rfl, hE, hV, hF⟩
  obtain ⟨a3, c3, rfl⟩ := hE.shape
  have HV := Lib.hid hV
  have HF := Lib.hid (HF.out.step hF (fun b hb => .inr (by have := HG.out; simp at hb; omega)))
  have HZ := Lib.hid (Nat.le_trans HZ.out hF.size)
  clear hE hV hF
  gi_wp2
  refine ⟨trivial, ?_⟩
  refine (callsIn_wide.2 (wPut_any HV.out aw_inv1 (by decide) 7 70 0)).mono ?_
  rw [aw_put2]
  rintro e w4 ⟨v4, rfl, hE, hV, hF⟩
  obtain ⟨a4, c4, rfl⟩ := hE.shape
  have HV := Lib.hid hV
  have HF := Lib.hid (HF.out.step hF (fun b hb => .inr (by have := HG.out; simp at hb; omega)))
  have HZ := Lib.hid (Nat.le_trans HZ.out hF.size)
  clear hE hV hF
  gi_wp2
  refine ⟨trivial, ?_⟩
  refine (callsIn_wide.2 (wPut_any HV.out aw_inv2 (by decide) 7 70 0)).mono ?_
  rw [aw_put3]
  rintro e w5 ⟨v5, rfl, hE, hV, hF⟩
  obtain ⟨a5, c5, rfl⟩ := hE.shape
  have HV := Lib.hid hV
  have HF := Lib.hid (HF.out.step hF (fun b hb => .inr (by have := HG.out; simp at hb; omega)))
  have HZ := Lib.hid (Nat.le_trans HZ.out hF.size)
  clear hE hV hF
  gi_wp2
  refine ⟨trivial, ?_⟩
  refine (callsIn_wide.2 (wRelease_any HV.out aw_inv2 (by decide) 0)).mono ?_
  rw [aw_rel1]
  rintro e w6 ⟨v6, rfl, hE, hV, hF⟩
  obtain ⟨b6, c6, rfl, hbl6, p0, p1⟩ := one_out hE
  have HV := Lib.hid hV
  have HF := Lib.hid (HF.out.step hF (fun b hb => .inr (by have := HG.out; simp at hb; omega)))
  have HCp0 := Lib.hid p0
  have HCp0B : Hid (w1.heap.size ≤ b6) := Lib.hid (Nat.le_trans HZ.out hbl6)
  have HCp1 := Lib.hid p1
  have HCp1B : Hid (w1.heap.size ≤ b6) := Lib.hid (Nat.le_trans HZ.out hbl6)
  clear p0 p1 hbl6
  have HZ := Lib.hid (Nat.le_trans HZ.out hF.size)
  clear hE hV hF
  gi_wp2
  refine ⟨trivial, ?_⟩
  refine (callsIn_wide.2 (wRelease_any HV.out aw_inv3 (by decide) 9)).mono ?_
  rw [aw_rel2]
  rintro e w7 ⟨v7, rfl, hE, hV, hF⟩
  obtain ⟨a7, c7, rfl⟩ := hE.shape
  have HV := Lib.hid hV
  have HF := Lib.hid (HF.out.step hF (fun b hb => .inr (by have := HG.out; simp at hb; omega)))
  have HCp0 := Lib.hid (cell_fr HCp0.out hF (by have := HG.out; have := HCp0B.out; simp; omega))
  have HCp1 := Lib.hid (cell_fr HCp1.out hF (by have := HG.out; have := HCp1B.out; simp; omega))
  have HZ := Lib.hid (Nat.le_trans HZ.out hF.size)
  clear hE hV hF
  gi_wp2
  refine ⟨trivial, ?_⟩
  refine (callsIn_wide.2 (wDue_any HV.out aw_inv4)).mono ?_
  rw [aw_due]
  rintro e w8 ⟨rfl, hF⟩
  have HF := Lib.hid (HF.out.trans hF)
  have HV := Lib.hid (HV.out.keep hF)
  have HCp0 := Lib.hid (cell_fr HCp0.out hF (by simp))
  have HCp1 := Lib.hid (cell_fr HCp1.out hF (by simp))
  have HZ := Lib.hid (Nat.le_trans HZ.out hF.size)
  clear hF
  simp only [Option.getD_some, Option.isSome_some]
  obtain ⟨w20, e20, hF20, hB20, hs20⟩ := one_new w8 #[.int .i64 0] 3
  have E20 := Lib.hid e20
  have HCB := Lib.hid (cell_lt HCp0.out)
  have HB := Lib.hid hB20
  have HSX : Hid (w1.heap.size ≤ w8.heap.size) := HZ
  have HB0 := Lib.hid hB20.lt
  have HF := Lib.hid (HF.out.trans hF20)
  have HV := Lib.hid (HV.out.keep hF20)
  have HCp0 := Lib.hid (cell_fr HCp0.out hF20 (by simp))
  have HCp1 := Lib.hid (cell_fr HCp1.out hF20 (by simp))
  clear e20 hF20 hB20 hs20
  gi_wp2
  rw [E20.out]
  clear E20
  refine ⟨trivial, ?_⟩
  refine (callsIn_wide.2 (wAll_any g _)).mono ?_
  rintro e w21 ⟨rfl, hB21, hF21⟩
  have HB := Lib.hid (HB.out.keep hF21)
  have HF := Lib.hid (HF.out.trans hF21)
  have HV := Lib.hid (HV.out.keep hF21)
  have HCp0 := Lib.hid (cell_fr HCp0.out hF21 (by simp))
  have HCp1 := Lib.hid (cell_fr HCp1.out hF21 (by simp))
  have hXl := HB.out.lt
  have hBl := hB21.lt
  have hB20 : w8.heap.size < w20.heap.size := HB0.out
  generalize hX : w8.heap.size = X at *
  have HXX : Hid (∀ p ∈ [(X, 0)], p.1 < w21.heap.size) := Lib.hid (by simp; omega)
  have hcx : ∀ v, w21.cell? ⟨X, 0, none⟩ = some v → v = .int .i64 0 := fun v hv => by
    have := HB.out.cell 0
    simp only [List.getElem?_toArray, List.getElem?_cons_zero] at this
    rw [this] at hv
    exact (Option.some.inj hv).symm
  have HLow : Hid (Low [(X, 0)] w21) := Lib.hid (fun p hp v b hv hb => by
    simp at hp
    subst hp
    rw [hcx v hv] at hb
    simp [blockOf] at hb)
  have hgd : ∀ k, k ≠ X → Gd [(X, 0)] w21 k := fun k h1 p hp => by
    simp at hp
    subst hp
    refine ⟨h1, fun v hv hb => ?_⟩
    rw [hcx v hv] at hb
    simp [blockOf] at hb
  have HSEQ := Lib.hid (wAll1_seq (w := w21) 7 (by omega) w20.heap.size g mb 2 aw4 [(X, 0)] HXX.out hB21 HV.out aw_inv4 (by decide) (hgd g (by have := HG.out; have := HSX.out; omega)) (hgd _ (by omega)))
  have HCX : Hid (b6 < X) := HCB
  have HXF : Hid (w1.heap.size ≤ X ∧ X < w21.heap.size ∧ w.heap.size ≤ X) := Lib.hid ⟨HSX.out, hXl, by have := HG.out; have := HSX.out; omega⟩
  clear hcx hgd hB21 hF21 hXl hBl hB20 hX
  gi_wp2
  refine wpIn_rangeBrkE rfl (by omega) (gf := 30) (lb := #[.pointer (some ⟨w20.heap.size, 0, none⟩)]) rfl trivial (enters_of Try.func30 (by kernel_rfl) rfl) HSEQ.out (Below.refl _ _) (fun _ => rfl) HXX.out HLow.out
    (fun pre W => AlR w21 w21.heap.size X (alSum pre) W)
    (fun _ _ _ => False) (AlR.abx HXF.out.2.1 (Nat.le_refl _)) (fun _ => fun s A B row hs => hs.elim) ⟨HB.out, (Fr.refl _ _).any, Nat.le_refl _⟩
    ?round ?done ?stop
  case round =>
    intro o
    apply Exists.intro
    refine ⟨?asg, ?bdy⟩
    case asg =>
      intro l' W' K hK
      gi_wp2
      exact hK
    case bdy =>
      rintro l' pre W' hl' hpre ⟨hbx, hfr, hsz⟩ hlw hsz2
      have x0 := hbx.cell 0; have f0 := hbx.free 0
      simp only [List.getElem?_toArray, List.getElem?_cons_zero] at x0
      obtain ⟨w30, e30, hF30, hB30, -⟩ := set_new hbx 0 (.int .i64 (alSum (pre ++ [o])))
      simp only [List.setIfInBounds_toArray, List.set_cons_zero] at hB30
      have HS : Hid (wrap64 (alSum pre + wrap64 (wrap64 (wrap64 ((low16 o.n).toNat : Int) * 1000) + o.x)) = alSum (pre ++ [o])) := Lib.hid (alSum_snoc pre o).symm
      have HE := Lib.hid e30; have HBX := Lib.hid hbx
      clear e30
      gi_wp2
      rw [HS.out, HE.out]
      have z30 := hF30.size
      have hx := HXF.out
      refine ⟨Kx.body2 hF30 ?_ ?_, hB30, hfr.trans hF30, by omega⟩
      · intro gb hg
        have hg' : gb = X := by simpa using hg
        rw [hg']
        exact .inr ⟨fun h => (h (X, 0) (by simp)).1 rfl, _, HBX.out, rfl⟩
      · intro p hp v b hv hb
        simp at hp
        subst hp
        have := hB30.cell 0
        simp only [List.getElem?_toArray, List.getElem?_cons_zero] at this
        rw [this] at hv
        cases hv
        simp [blockOf] at hb
  case stop =>
    rintro D id pre W' hD hpre hf hDk
    exact hf.elim
  case done =>
    rintro D w22 hD ⟨hbx, hfr, hsz⟩ hK hDk
    rw [show alSum aw4.all = 7070 from alSum7] at hbx
    have hx := HXF.out
    have hg := HG.out
    have HB := Lib.hid hbx; have HDK := Lib.hid hDk; have HZ : Hid (w1.heap.size ≤ w22.heap.size) := Lib.hid (by have := hfr.size; omega)
    have HV := Lib.hid (HV.out.fr hfr (by have := HSX.out; simp; omega) (by have := HSX.out; simp; omega))
    have HF := Lib.hid (HF.out.step hfr (fun b hb => .inr (by simp at hb; omega)))
    have HCp0 := Lib.hid (cell_fr HCp0.out hfr (by have := HCX.out; simp; omega)); have HCp1 := Lib.hid (cell_fr HCp1.out hfr (by have := HCX.out; simp; omega))
    have HDB : Hid (w1.heap.size ≤ D) := Lib.hid (by have := HXF.out; omega)
    clear hbx hfr hsz hK hDk hx hg HLow HSEQ HXX
    gi_wp2
    refine ⟨trivial, ?_⟩
    refine (callsIn_wide.2 (wNext_any HV.out)).mono ?_
    rw [show (low16 aw4.next).toNat = 6 from rfl, show aw4.hi.isSome = true from rfl]
    rintro e w23 ⟨rfl, hF⟩
    have HF := Lib.hid (HF.out.trans hF)
    have HV := Lib.hid (HV.out.keep hF)
    have HCp0 := Lib.hid (cell_fr HCp0.out hF (by simp))
    have HCp1 := Lib.hid (cell_fr HCp1.out hF (by simp))
    have HB := Lib.hid (HB.out.keep hF)
    have HDK := Lib.hid ((hF.block D (Array.getElem?_eq_some_iff.1 HDK.out).1 (by simp)).trans HDK.out)
    have HZ := Lib.hid (Nat.le_trans HZ.out hF.size)
    clear hF
    gi_wp2
    refine ⟨trivial, ?_⟩
    refine (callsIn_wide.2 (wRelease_any HV.out aw_inv4 (by decide) 10)).mono ?_
    rw [aw_rel3]
    rintro e w24 ⟨v24, rfl, hE, hV, hF⟩
    obtain ⟨b24, c24, rfl, hbl24, q0, q1⟩ := one_out hE
    have HV := Lib.hid hV
    have HF := Lib.hid (HF.out.step hF (fun b hb => .inr (by have := HG.out; simp at hb; omega)))
    have HCp0 := Lib.hid (cell_fr HCp0.out hF (by have := HG.out; have := HCp0B.out; simp; omega))
    have HCp1 := Lib.hid (cell_fr HCp1.out hF (by have := HG.out; have := HCp1B.out; simp; omega))
    have HB := Lib.hid (HB.out.fr hF (by have := HG.out; have := HXF.out; simp; omega))
    have HDK := Lib.hid ((hF.block D (Array.getElem?_eq_some_iff.1 HDK.out).1 (by have := HG.out; have := HDB.out; simp; omega)).trans HDK.out)
    have HCq0 := Lib.hid q0
    have HCq0B : Hid (w1.heap.size ≤ b24) := Lib.hid (Nat.le_trans HZ.out hbl24)
    have HCq1 := Lib.hid q1
    have HCq1B : Hid (w1.heap.size ≤ b24) := Lib.hid (Nat.le_trans HZ.out hbl24)
    clear q0 q1 hbl24
    have HZ := Lib.hid (Nat.le_trans HZ.out hF.size)
    clear hE hV hF
    gi_wp2
    refine ⟨trivial, ?_⟩
    refine (callsIn_wide.2 (wPut_any HV.out aw_inv5 (by decide) 5 1 10)).mono ?_
    rw [aw_put4]
    rintro e w25 ⟨v25, rfl, hE, hV, hF⟩
    obtain ⟨a25, c25, rfl⟩ := hE.shape
    have HV := Lib.hid hV
    have HF := Lib.hid (HF.out.step hF (fun b hb => .inr (by have := HG.out; simp at hb; omega)))
    have HCp0 := Lib.hid (cell_fr HCp0.out hF (by have := HG.out; have := HCp0B.out; simp; omega))
    have HCp1 := Lib.hid (cell_fr HCp1.out hF (by have := HG.out; have := HCp1B.out; simp; omega))
    have HCq0 := Lib.hid (cell_fr HCq0.out hF (by have := HG.out; have := HCq0B.out; simp; omega))
    have HCq1 := Lib.hid (cell_fr HCq1.out hF (by have := HG.out; have := HCq1B.out; simp; omega))
    have HB := Lib.hid (HB.out.fr hF (by have := HG.out; have := HXF.out; simp; omega))
    have HDK := Lib.hid ((hF.block D (Array.getElem?_eq_some_iff.1 HDK.out).1 (by have := HG.out; have := HDB.out; simp; omega)).trans HDK.out)
    have HZ := Lib.hid (Nat.le_trans HZ.out hF.size)
    clear hE hV hF
    gi_wp2
    refine ⟨trivial, ?_⟩
    refine (callsIn_wide.2 (wPut_any HV.out aw_inv5 (by decide) 8 80 10)).mono ?_
    rw [aw_put5]
    rintro e w26 ⟨v26, rfl, hE, hV, hF⟩
    obtain ⟨a26, c26, rfl⟩ := hE.shape
    have HV := Lib.hid hV
    have HF := Lib.hid (HF.out.step hF (fun b hb => .inr (by have := HG.out; simp at hb; omega)))
    have HCp0 := Lib.hid (cell_fr HCp0.out hF (by have := HG.out; have := HCp0B.out; simp; omega))
    have HCp1 := Lib.hid (cell_fr HCp1.out hF (by have := HG.out; have := HCp1B.out; simp; omega))
    have HCq0 := Lib.hid (cell_fr HCq0.out hF (by have := HG.out; have := HCq0B.out; simp; omega))
    have HCq1 := Lib.hid (cell_fr HCq1.out hF (by have := HG.out; have := HCq1B.out; simp; omega))
    have HB := Lib.hid (HB.out.fr hF (by have := HG.out; have := HXF.out; simp; omega))
    have HDK := Lib.hid ((hF.block D (Array.getElem?_eq_some_iff.1 HDK.out).1 (by have := HG.out; have := HDB.out; simp; omega)).trans HDK.out)
    have HZ := Lib.hid (Nat.le_trans HZ.out hF.size)
    clear hE hV hF
    gi_wp2
    refine ⟨trivial, ?_⟩
    refine (callsIn_wide.2 (wPut_any HV.out aw_inv6 (by decide) 12 120 10)).mono ?_
    rw [aw_put6]
    rintro e w27 ⟨v27, rfl, hE, hV, hF⟩
    obtain ⟨b27, c27, rfl, hbl27, r0, r1⟩ := one_out hE
    have HV := Lib.hid hV
    have HF := Lib.hid (HF.out.step hF (fun b hb => .inr (by have := HG.out; simp at hb; omega)))
    have HCp0 := Lib.hid (cell_fr HCp0.out hF (by have := HG.out; have := HCp0B.out; simp; omega))
    have HCp1 := Lib.hid (cell_fr HCp1.out hF (by have := HG.out; have := HCp1B.out; simp; omega))
    have HCq0 := Lib.hid (cell_fr HCq0.out hF (by have := HG.out; have := HCq0B.out; simp; omega))
    have HCq1 := Lib.hid (cell_fr HCq1.out hF (by have := HG.out; have := HCq1B.out; simp; omega))
    have HB := Lib.hid (HB.out.fr hF (by have := HG.out; have := HXF.out; simp; omega))
    have HDK := Lib.hid ((hF.block D (Array.getElem?_eq_some_iff.1 HDK.out).1 (by have := HG.out; have := HDB.out; simp; omega)).trans HDK.out)
    have HCr0 := Lib.hid r0
    have HCr0B : Hid (w1.heap.size ≤ b27) := Lib.hid (Nat.le_trans HZ.out hbl27)
    have HCr1 := Lib.hid r1
    have HCr1B : Hid (w1.heap.size ≤ b27) := Lib.hid (Nat.le_trans HZ.out hbl27)
    clear r0 r1 hbl27
    have HZ := Lib.hid (Nat.le_trans HZ.out hF.size)
    clear hE hV hF
    have p1 := HCp1.out; have q0 := HCq0.out; have r1 := HCr1.out; have b0 := HB.out.cell 0
    simp only [List.getElem?_toArray, List.getElem?_cons_zero] at b0
    rw [show (low16 4294967303).toNat = 7 from rfl] at q0
    gi_wp2
    refine ⟨trivial, ?_⟩
    refine (callsIn_wide.2 (wLen_any HV.out)).mono ?_
    rw [show aw7.all.length = 1 from rfl]
    rintro e w28 ⟨rfl, rfl⟩
    gi_wp2
    refine ⟨by simp, .inl ⟨_, _, rfl, run_takeDeferred HDK.out, ?_⟩⟩
    have hFD : Fr [D] w27 (w27.putObj D (.deferred none)) := Fr.ofGrown (grownBy_putObj' w27 D _)
    exact ⟨_, results_tmp rfl _ _ _, rfl, HF.out.step hFD (fun x hx => .inr (by have := HDB.out; have := HG.out; simp at hx; omega))⟩
end Go.Proofs.Ytbmpiemhfndnbaa
