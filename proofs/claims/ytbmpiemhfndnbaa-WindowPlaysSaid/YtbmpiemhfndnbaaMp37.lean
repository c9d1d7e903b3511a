import Derived.BigQuiet
import Derived.Test.YtbmpiemhfndnbaaMp35
import Derived.Test.YtbmpiemhfndnbaaMp33
/- The document's window: Held, New, tick, Due (printed by gen_r21.py). -/
namespace Go.Proofs.Ytbmpiemhfndnbaa
open Go.RowKit

theorem r02Held_any (n lo hi : Int) (h : lo ≤ hi) (w : World) : Calls Try.prog 20 #[.int .i64 n, .int .i64 lo, .int .i64 hi] w fun e w' => e = .returned (.int .i64 (clip lo hi n)) ∧ w = w' := by
  by_cases h1 : n < lo
  · have e : clip lo hi n = lo := by unfold clip; omega
    rw [e]
    clear e
    go_enter Try.func20, Try.ntmps20
    go_wp2
    go_ret
    exact ⟨rfl, rfl⟩
  · by_cases h2 : hi < n
    · have e : clip lo hi n = hi := by unfold clip; omega
      rw [e]
      clear e
      go_enter Try.func20, Try.ntmps20
      go_wp2
      go_ret
      exact ⟨rfl, rfl⟩
    · have e : clip lo hi n = n := by unfold clip; omega
      rw [e]
      clear e
      go_enter Try.func20, Try.ntmps20
      go_wp2
      go_ret
      exact ⟨rfl, rfl⟩
set_option maxRecDepth 100000 in
set_option maxHeartbeats 4000000 in
theorem r21New_any (size wait : Int) {w : World} :
    Calls Try.prog 8 #[.int .i64 size, .int .i64 wait] w fun e w' => e = .returned (.agg (rwc (Win.new size wait) (.slice none 0 0))) ∧ Fr [] w w' := by
  obtain ⟨w1, e1, hF1, hB1, hs1⟩ := one_new w (rw6 0 0 (.slice none 0 0) 0 0 0) 28
  have HF := Lib.hid hF1; have HB := Lib.hid hB1; have E1 := Lib.hid e1
  have HH := Lib.hid (fun n lo hi h => @r02Held_any n lo hi h w1)
  clear hF1 hB1 hs1 e1
  go_enter Try.func8, Try.ntmps8
  go_upto_region 1 with fail
  rw [E1.out]
  clear E1
  go_wp2_with fail
  refine (HH.out size 1 64 (by omega)).mono ?_
  rintro e w2 ⟨rfl, rfl⟩
  generalize hc1 : clip 1 64 size = c1 at *
  have HC1 := Lib.hid hc1
  clear hc1
  go_wp2_with fail
  refine (HH.out wait 0 50 (by omega)).mono ?_
  rintro e w2 ⟨rfl, rfl⟩
  generalize hc2 : clip 0 50 wait = c2 at *
  have HC2 := Lib.hid hc2
  clear hc2
  go_wp2_with (refine wpList_store_row rfl 28 (.tmp 4) (.tmp 9) rfl w.heap.size rfl _ _ rfl 28 HB.out (by kernel_rfl) rfl one_rw6 ?_; intro w3 hY hG)
  refine bodyPost_ret (results_cell_row rfl _ _ w.heap.size 28 _ (0, 0) _ rfl hY Try.underlying28 rfl (by kernel_rfl)) rfl ⟨?_, HF.out.step hG (by simp)⟩
  rw [← HC1.out, ← HC2.out]
  rfl
set_option maxRecDepth 100000 in
set_option maxHeartbeats 4000000 in
theorem r21tick_any (size wait next hi t now : Int) (ht : 0 ≤ t ∧ t ≤ 1099511627776) {a : Option Addr} {n c : Nat} {w : World} :
    Calls Try.prog 24 #[.agg (rw6 size wait (.slice a n c) next hi t), .int .i64 now] w fun e w' => e = .returned (.agg (rw6 size wait (.slice a n c) next hi (tickT t now))) ∧ Fr [] w w' := by
  obtain ⟨w2, e2, hF2, hB1, hB2, hs2⟩ := two_new w (rw6 size wait (.slice a n c) next hi t) 28 (rw6 0 0 (.slice none 0 0) 0 0 0) 28
  have HF := Lib.hid hF2; have HB := Lib.hid hB1; have HR := Lib.hid hB2; have E2 := Lib.hid e2
  clear hF2 hB1 hB2 hs2 e2
  by_cases hbig : 1099511627776 < now
  · have hbd : decide ((1099511627776 : Int) < now) = true := decide_eq_true hbig
    by_cases hl : t < 1099511627776
    · have hld : decide (t < (1099511627776 : Int)) = true := decide_eq_true hl
      have HT : Hid (tickT t now = 1099511627776) := Lib.hid (by unfold tickT; omega)
      go_enter Try.func24, Try.ntmps24
      go_upto_region 1 with fail
      rw [E2.out]
      clear E2
      have x5 := HB.out.cell 5; have f5 := HB.out.free 5
      simp only [rw6, List.getElem?_toArray, List.getElem?_cons_succ, List.getElem?_cons_zero] at x5
      obtain ⟨w3, e3, hF3, hB3, -⟩ := set_new HB.out 5 (.int .i64 1099511627776)
      simp only [rw6, List.setIfInBounds_toArray, List.set_cons_zero, List.set_cons_succ] at hB3
      have E3 := Lib.hid e3
      clear e3
      go_upto_region 5 with fail
      rw [E3.out]
      clear E3 x5 f5
      have HB := Lib.hid hB3; have HR := Lib.hid (HR.out.fr hF3 (by simp)); have HF := Lib.hid (HF.out.step hF3 (by simp))
      clear hB3 hF3
      go_wp2_with (first | (refine wpList_load_row_w rfl 28 (.tmp 2) rfl w.heap.size rfl 28 _ _ HB.out Try.underlying28 rfl (by kernel_rfl) ?_) | (refine wpList_store_row rfl 28 (.tmp 4) (.tmp 13) rfl (w.heap.size + 1) rfl _ _ rfl 28 HR.out (by kernel_rfl) rfl one_rw6 ?_; intro w9 hY hG))
      refine bodyPost_ret (results_cell_row rfl _ _ (w.heap.size + 1) 28 _ (0, 0) _ rfl hY Try.underlying28 rfl (by kernel_rfl)) rfl ⟨?_, HF.out.step hG (by simp)⟩
      rw [HT.out]
    · have hld : decide (t < (1099511627776 : Int)) = false := decide_eq_false hl
      have HT : Hid (tickT t now = t) := Lib.hid (by unfold tickT; omega)
      go_enter Try.func24, Try.ntmps24
      go_upto_region 1 with fail
      rw [E2.out]
      clear E2
      have x5 := HB.out.cell 5; have f5 := HB.out.free 5
      simp only [rw6, List.getElem?_toArray, List.getElem?_cons_succ, List.getElem?_cons_zero] at x5
      go_upto_region 5 with fail
      clear x5 f5
      go_wp2_with (first | (refine wpList_load_row_w rfl 28 (.tmp 2) rfl w.heap.size rfl 28 _ _ HB.out Try.underlying28 rfl (by kernel_rfl) ?_) | (refine wpList_store_row rfl 28 (.tmp 4) (.tmp 13) rfl (w.heap.size + 1) rfl _ _ rfl 28 HR.out (by kernel_rfl) rfl one_rw6 ?_; intro w9 hY hG))
      refine bodyPost_ret (results_cell_row rfl _ _ (w.heap.size + 1) 28 _ (0, 0) _ rfl hY Try.underlying28 rfl (by kernel_rfl)) rfl ⟨?_, HF.out.step hG (by simp)⟩
      rw [HT.out]
  · have hbd : decide ((1099511627776 : Int) < now) = false := decide_eq_false hbig
    by_cases hl : t < now
    · have hld : decide (t < now) = true := decide_eq_true hl
      have HT : Hid (tickT t now = now) := Lib.hid (by unfold tickT; omega)
      go_enter Try.func24, Try.ntmps24
      go_upto_region 1 with fail
      rw [E2.out]
      clear E2
      have x5 := HB.out.cell 5; have f5 := HB.out.free 5
      simp only [rw6, List.getElem?_toArray, List.getElem?_cons_succ, List.getElem?_cons_zero] at x5
      obtain ⟨w3, e3, hF3, hB3, -⟩ := set_new HB.out 5 (.int .i64 now)
      simp only [rw6, List.setIfInBounds_toArray, List.set_cons_zero, List.set_cons_succ] at hB3
      have E3 := Lib.hid e3
      clear e3
      go_upto_region 5 with fail
      rw [E3.out]
      clear E3 x5 f5
      have HB := Lib.hid hB3; have HR := Lib.hid (HR.out.fr hF3 (by simp)); have HF := Lib.hid (HF.out.step hF3 (by simp))
      clear hB3 hF3
      go_wp2_with (first | (refine wpList_load_row_w rfl 28 (.tmp 2) rfl w.heap.size rfl 28 _ _ HB.out Try.underlying28 rfl (by kernel_rfl) ?_) | (refine wpList_store_row rfl 28 (.tmp 4) (.tmp 13) rfl (w.heap.size + 1) rfl _ _ rfl 28 HR.out (by kernel_rfl) rfl one_rw6 ?_; intro w9 hY hG))
      refine bodyPost_ret (results_cell_row rfl _ _ (w.heap.size + 1) 28 _ (0, 0) _ rfl hY Try.underlying28 rfl (by kernel_rfl)) rfl ⟨?_, HF.out.step hG (by simp)⟩
      rw [HT.out]
    · have hld : decide (t < now) = false := decide_eq_false hl
      have HT : Hid (tickT t now = t) := Lib.hid (by unfold tickT; omega)
      go_enter Try.func24, Try.ntmps24
      go_upto_region 1 with fail
      rw [E2.out]
      clear E2
      have x5 := HB.out.cell 5; have f5 := HB.out.free 5
      simp only [rw6, List.getElem?_toArray, List.getElem?_cons_succ, List.getElem?_cons_zero] at x5
      go_upto_region 5 with fail
      clear x5 f5
      go_wp2_with (first | (refine wpList_load_row_w rfl 28 (.tmp 2) rfl w.heap.size rfl 28 _ _ HB.out Try.underlying28 rfl (by kernel_rfl) ?_) | (refine wpList_store_row rfl 28 (.tmp 4) (.tmp 13) rfl (w.heap.size + 1) rfl _ _ rfl 28 HR.out (by kernel_rfl) rfl one_rw6 ?_; intro w9 hY hG))
      refine bodyPost_ret (results_cell_row rfl _ _ (w.heap.size + 1) 28 _ (0, 0) _ rfl hY Try.underlying28 rfl (by kernel_rfl)) rfl ⟨?_, HF.out.step hG (by simp)⟩
      rw [HT.out]
set_option maxRecDepth 100000 in
set_option maxHeartbeats 4000000 in
theorem r21Due_any {w : World} {s : Win} {next hi now : Int} {v : Value} {l : List Held_} (hw : 0 ≤ s.wait ∧ s.wait ≤ 50) (ho : ∀ o ∈ l, 0 ≤ o.at_ ∧ o.at_ ≤ 1099511627776) (hl : l.length ≤ 64) (h : SlEls 3 OneR w v l []) :
    Calls Try.prog 14 #[.agg (rw6 s.size s.wait v next hi now)] w fun e w' => e = .returned (.tuple #[.int .i64 ((dueL s.wait l).getD 0), .bool (dueL s.wait l).isSome]) ∧ Fr [] w w' := by
  obtain ⟨av, cv, rfl⟩ := h.shape
  obtain ⟨w1, e1, hF1, hB1, hs1⟩ := one_new w (rw6 s.size s.wait (.slice av l.length cv) next hi now) 28
  have HF := Lib.hid hF1; have HB := Lib.hid hB1; have E1 := Lib.hid e1; have HL := Lib.hid (h.keep Rep.held hF1)
  have HO := Lib.hid ho
  generalize hwt : s.wait = wt at *
  clear h hF1 hB1 hs1 e1 ho hwt
  go_enter Try.func14, Try.ntmps14
  go_upto_region 2 with fail
  rw [E1.out]
  clear E1
  go_upto_region 3 with fail
  go_loopw [4, 5] (fun dv iv wr => ∃ j : Nat, j ≤ l.length ∧ iv = .int .i64 j ∧ dv = .int .i64 ((dueL wt (l.take j)).getD 0) ∧ Fr [] w1 wr) (fun _ iv _ => l.length - (Lib.intOf iv).toNat)
  case atStart => exact ⟨0, Nat.zero_le _, rfl, rfl, Fr.refl _ _⟩
  case round =>
    obtain ⟨j, hj, rfl, rfl, hFw⟩ := hrel
    have HFW := Lib.hid hFw
    clear hFw
    have hB := HB.out.keep HFW.out
    have x1 := hB.cell 1; have x2 := hB.cell 2
    simp only [rw6, List.getElem?_toArray, List.getElem?_cons_succ, List.getElem?_cons_zero] at x1 x2
    by_cases hlt : j < l.length
    · obtain ⟨b, o, cc, y, B1, ea, -, hy, ⟨rfl, -⟩, -, hrg⟩ := (HL.out.keep Rep.held HFW.out).at_ Rep.held (i := j) hlt
      subst ea
      have hoy := HO.out y (List.mem_of_getElem? hy)
      have HT : Hid (l.take (j + 1) = l.take j ++ [y]) := Lib.hid (by rw [List.take_add_one, hy]; rfl)
      have z2 : wr.cell? ⟨b, o + j * 3 + 2, none⟩ = some (.int .i64 y.at_) := hrg 2 _ rfl
      have HQ : Hid (∀ d, dueL wt (l.take j) = some d → 0 ≤ d ∧ d ≤ 1099511627826) := Lib.hid (fun d hd => by obtain ⟨p, hp, e⟩ := dueL_mem hd; have := HO.out p (List.mem_of_mem_take hp); omega)
      have HZ : Hid (j = 0 → dueL wt (l.take j) = none) := Lib.hid (fun e => by rw [e]; rfl)
      have HZ2 : Hid (dueL wt (l.take j) = none → j = 0) := Lib.hid (fun e => by rw [dueL_none] at e; have h9 := congrArg List.length e; rw [List.length_take, List.length_nil] at h9; omega)
      have HS := Lib.hid (dueL_snoc (wait := wt) (l := l.take j) (o := y))
      obtain ⟨ya, hya⟩ : ∃ ya, y.at_ = ya := ⟨_, rfl⟩
      rw [hya] at hoy z2 HS
      have hwr : wrap64 (ya + wt) = ya + wt := IntWalk.wrap64_in _ ⟨by omega, by omega⟩
      clear hy hrg hB hya
      generalize dueL wt (l.take j) = dd at *
      cases dd with
      | none =>
        obtain rfl := HZ2.out rfl
        clear HZ HZ2 HQ
        simp only [Option.getD_none]
        go_upto_region 5 with fail
        go_quiet (fail)
        generalize hw2 : wr.drewN _ = w2 at *
        have HF2 : Hid (Fr [] w1 w2) := Lib.hid (by rw [← hw2]; exact HFW.out.drewN _)
        clear hw2
        go_wp2_with fail
        exact ⟨⟨0 + 1, by omega, by go_num, by rw [HT.out, HS.out]; rfl, HF2.out⟩, by simp [Lib.intOf]; omega⟩
      | some d =>
        have hj0 : ((j : Int) == 0) = false := beq_eq_false_iff_ne.2 (fun e => by have := HZ.out (by omega); cases this)
        have hj1 : (j == 0) = false := beq_eq_false_iff_ne.2 (fun e => by have := HZ.out e; cases this)
        have hd := HQ.out d rfl
        clear HZ HZ2 HQ
        simp only [Option.getD_some]
        by_cases hmin : ya + wt < d
        · have hmd : decide (ya + wt < d) = true := decide_eq_true hmin
          have HS2 : Hid (dueL wt (l.take j ++ [y]) = some (ya + wt)) := Lib.hid (by rw [HS.out]; simp only; rw [if_pos hmin])
          clear hmin
          go_upto_region 5 with fail
          go_quiet (fail)
          generalize hw2 : wr.drewN _ = w2 at *
          have HF2 : Hid (Fr [] w1 w2) := Lib.hid (by rw [← hw2]; exact HFW.out.drewN _)
          clear hw2
          go_wp2_with fail
          exact ⟨⟨j + 1, by omega, by go_num, by rw [HT.out, HS2.out]; rfl, HF2.out⟩, by simp [Lib.intOf]; omega⟩
        · have hmd : decide (ya + wt < d) = false := decide_eq_false hmin
          have HS2 : Hid (dueL wt (l.take j ++ [y]) = some d) := Lib.hid (by rw [HS.out]; simp only; rw [if_neg hmin])
          clear hmin
          go_upto_region 5 with fail
          go_quiet (fail)
          generalize hw2 : wr.drewN _ = w2 at *
          have HF2 : Hid (Fr [] w1 w2) := Lib.hid (by rw [← hw2]; exact HFW.out.drewN _)
          clear hw2
          go_wp2_with fail
          exact ⟨⟨j + 1, by omega, by go_num, by rw [HT.out, HS2.out]; rfl, HF2.out⟩, by simp [Lib.intOf]; omega⟩
    · obtain rfl : j = l.length := by omega
      have HE : Hid (decide (0 < l.length) = (dueL wt l).isSome) := Lib.hid (by
        cases hd : dueL wt l with
        | none => rw [dueL_none] at hd; subst hd; rfl
        | some d => have : l ≠ [] := fun e => by rw [e] at hd; cases hd
                    have := List.length_pos_iff.2 this
                    exact decide_eq_true (by omega))
      have hT : l.take l.length = l := List.take_length
      rw [hT]
      clear hT hj hlt
      go_upto_region 8 with fail
      go_quiet (fail)
      generalize hw2 : wr.drewN _ = w2 at *
      have HF2 : Hid (Fr [] w1 w2) := Lib.hid (by rw [← hw2]; exact HFW.out.drewN _)
      clear hw2
      go_wp2_with fail
      go_ret2
      refine ⟨?_, HF.out.trans HF2.out⟩
      rw [← HE.out]
      rfl
end Go.Proofs.Ytbmpiemhfndnbaa

/- The document's window: Release (printed by gen_r21b.py). -/
namespace Go.Proofs.Ytbmpiemhfndnbaa
open Go.RowKit

theorem release_rnx {c : Nat} {s : Win} (h : WInv c s) (now : Int) : (s.release now).2 = (relL s.wait (tickT s.now now) (rnx s) s.all).1 ∧ (s.release now).1.all = (relL s.wait (tickT s.now now) (rnx s) s.all).2.1 ∧ rnx (s.release now).1 = (relL s.wait (tickT s.now now) (rnx s) s.all).2.2 ∧ rhi (s.release now).1 = rhi s ∧ (s.release now).1.size = s.size ∧ (s.release now).1.wait = s.wait ∧ (s.release now).1.now = tickT s.now now := by
  obtain ⟨size, wait, hi, next, t, all⟩ := s
  cases hi with
  | none =>
    obtain ⟨e1, e2⟩ := h.old rfl
    simp only at e1 e2
    subst e1 e2
    exact ⟨rfl, rfl, rfl, rfl, rfl, rfl, rfl⟩
  | some k => exact ⟨rfl, rfl, rfl, rfl, rfl, rfl, rfl⟩
theorem live_tail {b o n m cap b' : Nat} (h : liveOf (.slice (if cap = 1 then some ⟨b, o, none⟩ else some ⟨b, o + 3, none⟩) n (cap - 1)) = some b') : liveOf (.slice (some ⟨b, o, none⟩) m cap) = some b' := by
  by_cases hc : cap = 1
  · subst hc
    rw [if_pos rfl] at h
    simp [liveOf] at h
  · rw [if_neg hc] at h
    simp only [liveOf] at h ⊢
    split at h
    · rename_i h0
      rw [if_pos (by omega)]
      exact h
    · cases h
theorem relL_eq {wt T cx : Int} {y : Held_} {l : List Held_} (h : y.n = cx ∨ ∃ d, dueL wt (y :: l) = some d ∧ d ≤ T) : relL wt T cx (y :: l) = (y :: (relL wt T (y.n + 1) l).1, (relL wt T (y.n + 1) l).2) := by
  by_cases e : y.n = cx
  · rw [relL, if_pos e, e]
  · rcases h with h | ⟨d, h1, h2⟩
    · exact absurd h e
    · rw [relL, if_neg e, h1]
      simp only
      rw [if_neg (by omega)]
theorem relL_stop {wt T cx d : Int} {y : Held_} {l : List Held_} (e : y.n ≠ cx) (h1 : dueL wt (y :: l) = some d) (h2 : T < d) : relL wt T cx (y :: l) = ([], y :: l, cx) := by
  rw [relL, if_neg e, h1]
  simp only
  rw [if_pos h2]
set_option maxRecDepth 100000 in
set_option maxHeartbeats 8000000 in
theorem r21Release_any {w : World} {c : Nat} {s : Win} {v : Value} (hi : WInv c s) (hc : c ≤ 1000) (h : SlEls 3 OneR w v s.all []) (now : Int) :
    Calls Try.prog 10 #[.agg (rwc s v), .int .i64 now] w fun e w' => ∃ v1 v2, e = .returned (.tuple #[.agg (rwc (s.release now).1 v1), v2]) ∧ SlEls 3 OneR w' v1 (s.release now).1.all [] ∧ SlEls 3 OneR w' v2 (s.release now).2 [] ∧ (∀ b, liveOf v1 = some b → liveOf v = some b) ∧ (∀ b, liveOf v2 = some b → w.heap.size ≤ b) ∧ Fr [] w w' := by
  obtain ⟨av, cv, rfl⟩ := h.shape
  have hrel := release_rnx hi now
  have hbb := hi.bounds hc
  have HTIME : Hid (∀ o ∈ s.all, 0 ≤ o.at_ ∧ o.at_ ≤ 1099511627776) := Lib.hid (fun o ho => by have := hi.time o ho; have := hi.now; omega)
  have HNB : Hid (∀ o ∈ s.all, 0 ≤ o.n ∧ o.n ≤ 1099511627776) := Lib.hid (fun o ho => by
    cases hh : s.hi with
    | none => rw [(hi.old hh).1] at ho; cases ho
    | some k => have h1 := hi.hi k hh; have := h1.2.2.2.2.2 o ho; have := hi.low o ho; omega)
  have HLN : Hid (s.all.length ≤ 64) := Lib.hid hbb.2.2.1
  have HWT := Lib.hid hi.wait
  have hnow := hi.now
  rw [show rwc (s.release now).1 = fun v => rw6 s.size s.wait v (rnx (s.release now).1) (rhi s) (tickT s.now now) by funext v; show rw6 _ _ _ _ _ _ = _; rw [hrel.2.2.2.1, hrel.2.2.2.2.1, hrel.2.2.2.2.2.1, hrel.2.2.2.2.2.2]]
  rw [hrel.1, hrel.2.1, hrel.2.2.1]
  have htt := tickT_in hnow (now := now)
  have HTK0 := Lib.hid (fun w => r21tick_any s.size s.wait (rnx s) (rhi s) s.now now hnow (a := av) (n := s.all.length) (c := cv) (w := w))
  clear hrel hi hbb
  obtain ⟨T, hT⟩ : ∃ T, tickT s.now now = T := ⟨_, rfl⟩
  obtain ⟨H0, hH⟩ : ∃ H0, rhi s = H0 := ⟨_, rfl⟩
  obtain ⟨N0, hN⟩ : ∃ N0, rnx s = N0 := ⟨_, rfl⟩
  rw [hT] at htt HTK0 ⊢
  show Calls _ _ #[.agg (rw6 s.size s.wait (.slice av s.all.length cv) (rnx s) (rhi s) s.now), _] _ _
  rw [hH, hN] at HTK0 ⊢
  obtain ⟨⟨g1, g2, g3⟩, hR⟩ : ∃ r, relL s.wait T N0 s.all = r := ⟨_, rfl⟩
  have HRR := Lib.hid hR
  rw [hR]
  clear hT hH hN hR
  simp only
  obtain ⟨w2, e2, hF2, hB1, hB2, hs2⟩ := two_new w (rw6 s.size s.wait (.slice av s.all.length cv) N0 H0 s.now) 28 (rw6 0 0 (.slice none 0 0) 0 0 0) 28
  have HF := Lib.hid hF2; have HB := Lib.hid hB1; have HRB := Lib.hid hB2; have E2 := Lib.hid e2; have HS0 := Lib.hid h
  have HS2 := Lib.hid hs2
  clear hF2 hB1 hB2 e2 h hs2
  go_enter Try.func10, Try.ntmps10
  go_upto_region 1 with fail
  rw [E2.out]
  clear E2
  go_wp2_with (refine wpList_load_row_w rfl 28 (.tmp 2) rfl w.heap.size rfl 28 _ _ HB.out Try.underlying28 rfl (by kernel_rfl) ?_)
  refine (HTK0.out _).mono ?_
  rintro e wt ⟨rfl, hF⟩
  have HB := Lib.hid (HB.out.keep hF); have HRB := Lib.hid (HRB.out.keep hF); have HF := Lib.hid (HF.out.trans hF); have HS2 : Hid (w.heap.size + 1 < wt.heap.size) := Lib.hid (by have := HS2.out; have := hF.size; omega)
  clear hF HTK0
  go_upto_region 2 with (refine wpList_store_row rfl 28 (.tmp 2) (.tmp 11) rfl w.heap.size rfl _ _ rfl 28 HB.out (by kernel_rfl) rfl one_rw6 ?_; intro w3 hY hG; have HY := Lib.hid hY; have HG := Lib.hid hG; clear hY hG)
  have HRB := Lib.hid (HRB.out.fr HG.out (by simp)); have HF := Lib.hid (HF.out.step HG.out (fun x hx => .inr (by simp at hx; omega))); have HS2 : Hid (w.heap.size + 1 < w3.heap.size) := Lib.hid (by have := HS2.out; have := HG.out.size; omega)
  have HBS : Hid (w.heap.size < w3.heap.size ∧ w.heap.size + 1 < w3.heap.size) := Lib.hid (by have := HS2.out; omega)
  clear HG HB HS2
  obtain ⟨w4, e4, hF4, -, hs4⟩ := one_new w3 #[] 76
  have HO : Hid (OwnEls 3 OneR w4 w3.heap.size 76 (.slice (some ⟨w3.heap.size, 0, none⟩) 0 0) [] []) := Lib.hid (by rw [← e4]; exact OwnEls.made w3 _ _ (Nat.le_refl _))
  have E4 := Lib.hid e4; have HB := Lib.hid (HY.out.keep hF4); have HRB := Lib.hid (HRB.out.keep hF4); have HF := Lib.hid (HF.out.trans hF4); have HZ4 := Lib.hid hF4.size
  clear e4 hF4 hs4 HY
  go_upto_region 3 with fail
  rw [E4.out]
  clear E4
  go_loopw [6] (fun ov wr => ∃ (k : Nat) (cx : Int) (v' : Value), k ≤ s.all.length ∧ (g1, g2, g3) = (s.all.take k ++ (relL s.wait T cx (s.all.drop k)).1, (relL s.wait T cx (s.all.drop k)).2) ∧ Box wr w.heap.size 28 (rw6 s.size s.wait v' cx H0 T) ∧ SlEls 3 OneR w v' (s.all.drop k) [] ∧ OwnEls 3 OneR wr w3.heap.size 76 ov (s.all.take k) [] ∧ Fr [] w wr ∧ Box wr (w.heap.size + 1) 28 (rw6 0 0 (.slice none 0 0) 0 0 0) ∧ w3.heap.size ≤ wr.heap.size ∧ (∀ b, liveOf v' = some b → liveOf (.slice av s.all.length cv) = some b)) (fun ov _ => s.all.length - (match ov with | .slice _ n _ => n | _ => 0))
  case atStart => exact ⟨0, N0, _, Nat.zero_le _, by rw [List.take_zero, List.nil_append, List.drop_zero, HRR.out], HB.out, by rw [List.drop_zero]; exact HS0.out, HO.out, HF.out, HRB.out, HZ4.out, fun b h => h⟩
  case round =>
    clear HB HS0 HO HF HRB HRR HZ4
    obtain ⟨k, cx, v', hk, hrl, hB, hS, hO, hFw, hRB, hz, hlb⟩ := hrel
    obtain ⟨ax, cx', eo⟩ := hO.shape
    have hlk : (s.all.take k).length = k := by rw [List.length_take]; omega
    rw [hlk] at eo
    subst eo
    have HLK := Lib.hid hlk
    clear hlk
    obtain ⟨a2, cc, rfl⟩ := hS.shape
    have HRL := Lib.hid hrl; have HB := Lib.hid hB; have HS := Lib.hid hS; have HO := Lib.hid hO; have HFW := Lib.hid hFw; have HRB := Lib.hid hRB; have HSZ := Lib.hid hz; have HLB := Lib.hid hlb
    clear hrl hB hS hO hFw hRB hz hlb
    have x2 := HB.out.cell 2; have x3 := HB.out.cell 3; have x5 := HB.out.cell 5
    simp only [rw6, List.getElem?_toArray, List.getElem?_cons_succ, List.getElem?_cons_zero] at x2 x3 x5
    obtain ⟨m, hm⟩ : ∃ m, (s.all.drop k).length = m := ⟨_, rfl⟩
    have hm2 : m = s.all.length - k := by rw [← hm, List.length_drop]
    rw [hm] at HS HB x2 HLB
    have HM2 := Lib.hid hm2
    clear hm hm2
    have HTK : Hid ((s.all.take k).length ≤ 64) := Lib.hid (by have := HLN.out; rw [List.length_take]; omega)
    by_cases hlt : k < s.all.length
    · obtain ⟨y, hy⟩ : ∃ y, s.all[k] = y := ⟨_, rfl⟩
      have HDR : Hid (s.all.drop k = y :: s.all.drop (k + 1)) := Lib.hid (by rw [← hy]; exact (List.getElem_cons_drop hlt).symm)
      have HTS : Hid (s.all.take (k + 1) = s.all.take k ++ [y]) := Lib.hid (by rw [← hy]; exact List.take_succ_eq_append_getElem hlt)
      have hmem : y ∈ s.all := by rw [← hy]; exact List.getElem_mem hlt
      have hnb := HNB.out y hmem
      have HLT := Lib.hid hlt
      have HLA : Hid ((s.all.take k ++ [y]).length = k + 1) := Lib.hid (by rw [List.length_append, HLK.out]; rfl)
      have HSD : Hid (SlEls 3 OneR w (.slice a2 m cc) (y :: s.all.drop (k + 1)) []) := Lib.hid (by rw [← HDR.out]; exact HS.out)
      obtain ⟨b, o, ce, y', B1, ea, -, hy', ⟨rfl, -⟩, -, hrg⟩ := (HSD.out.keep Rep.held HFW.out).at_ Rep.held (i := 0) (by have := HM2.out; omega)
      rw [List.getElem?_cons_zero] at hy'
      cases hy'
      subst ea
      rw [Nat.zero_mul, Nat.add_zero] at hrg
      have HRG := Lib.hid hrg
      have d0 : wr.cell? ⟨b, o, none⟩ = some (.int .i64 y.n) := hrg 0 _ rfl
      obtain ⟨q, hq⟩ : ∃ q, (if cc = 1 then some (⟨b, o, none⟩ : Addr) else some ⟨b, o + 3, none⟩) = q := ⟨_, rfl⟩
      have HST : Hid (SlEls 3 OneR w (.slice q (m - 1) (cc - 1)) (s.all.drop (k + 1)) []) := Lib.hid (by have := SlEls.tail HSD.out; rw [hq] at this; exact this)
      have hmc : m ≤ cc := by have := HSD.out.len; omega
      have HQ := Lib.hid hq
      have hm1 : 1 ≤ m := by have := HM2.out; omega
      clear hy hmem hrg hq HSD hlt
      by_cases he : y.n = cx
      · subst he
        have HYN : Hid (True) := Lib.hid trivial
        go_upto_region 4 with fail
        go_quiet (fail)
        generalize hw2 : wr.drewN _ = w5 at *
        have hF5 : Fr [] wr w5 := by rw [← hw2]; exact (Fr.refl _ _).drewN _
        have HB2 := Lib.hid (HB.out.keep hF5); have HRB2 := Lib.hid (HRB.out.keep hF5); have HO2 := Lib.hid (HO.out.keep Rep.held hF5); have HFW2 := Lib.hid (HFW.out.trans hF5); have HSZ2 := Lib.hid (Nat.le_trans HSZ.out hF5.size)
        have HRG2 : Hid (w5.rangeAt b o (onec y).toList) := Lib.hid (fun j u hj => hF5.cellSome (HRG.out j u hj) (by simp))
        replace x2 := hF5.cellSome x2 (by simp)
        clear hF5 hw2 HB HRB HO HFW HRG HSZ d0
        obtain ⟨wa, ea, hFa, hBa, hsa⟩ := one_new w5 (onec y) 76
        have EA := Lib.hid ea; have HBA := Lib.hid hBa; have HFA := Lib.hid hFa
        have HL1 : Hid ((s.all.take k).length + 1 ≤ maxLen) := Lib.hid (by have := HTK.out; unfold maxLen; omega)
        have HL2 : Hid (((s.all.take k).length + 1) * 24 ≤ 140737488355328) := Lib.hid (by have := HTK.out; omega)
        have HL3 : Hid (w3.heap.size ≤ wa.heap.size) := Lib.hid (by have h1 := HSZ2.out; have := hFa.size; omega)
        clear ea hBa hFa hsa
        go_upto_region 10 with (first | (refine wpList_load_midA rfl 76 (.tmp 45) rfl b o rfl #[.int .i64 y.n, .int .i64 y.x, .int .i64 y.at_] _ HRG2.out Try.underlying76 rfl (by kernel_rfl) ?_) | (at_builtin; (rw [EA.out]); refine wpList_append_el Rep.held (by decide) rfl (.tmp 42) (.tmp 47) 26 rfl w3.heap.size 76 (.agg #[.int .i64 0, .int .i64 0, .int .i64 0]) 24 Try.underlying26 info_held rfl (.slice ax k cx') (s.all.take k) [] rfl (HO2.out.keep Rep.held HFA.out) w5.heap.size 0 1 rfl (onec y).toList y [] (box_range HBA.out) ⟨rfl, rfl⟩ (by simp) HL1.out HL2.out HL3.out ?_; intro vs1 w7 hown1 hfr1 hbl1; obtain ⟨as1, cs1, es1⟩ := hown1.shape; rw [HLA.out] at es1; subst es1; have HV1 := Lib.hid hown1; have HF7 := Lib.hid hfr1; clear hown1 hfr1 hbl1))
        have hbx : ∀ x, x ∈ (blockOf (.slice ax k cx')).toList → w3.heap.size ≤ x := fun x hb => (HO2.out.block x (mem_toList.1 hb)).1
        have HNX : Hid (∀ x, x < w3.heap.size → x ∉ (blockOf (.slice ax k cx')).toList) := Lib.hid (fun x h1 hb => by have := hbx x hb; omega)
        have HB7 := Lib.hid (Box.fr (HB2.out.keep HFA.out) HF7.out (HNX.out _ (by have := HBS.out; omega))); have HRB7 := Lib.hid (Box.fr (HRB2.out.keep HFA.out) HF7.out (HNX.out _ (by have := HBS.out; omega)))
        have HFW7 : Hid (Fr [] w w7) := Lib.hid ((HFW2.out.trans HFA.out).step HF7.out (fun x hb => .inr (by have := hbx x hb; have := HBS.out; omega)))
        clear hbx x2 x3 x5
        have x2 := HB7.out.cell 2; have f2 := HB7.out.free 2
        simp only [rw6, List.getElem?_toArray, List.getElem?_cons_succ, List.getElem?_cons_zero] at x2
        obtain ⟨w8, e8, hF8, hB8, hz8⟩ := set_new HB7.out 2 (.slice q (m - 1) (cc - 1))
        simp only [rw6, List.setIfInBounds_toArray, List.set_cons_zero, List.set_cons_succ] at hB8
        have E8 := Lib.hid e8; have HB8 := Lib.hid hB8; have HF8 := Lib.hid hF8
        clear e8 hB8 hF8 hz8
        have hq1 := HQ.out
        have hmi : ((m : Nat) : Int) - 1 = ((m - 1 : Nat) : Int) := by omega
        have hci : ((cc : Nat) : Int) - 1 = ((cc - 1 : Nat) : Int) := by omega
        go_upto_region 11 with fail
        rw [E8.out]
        clear E8 x2 f2 hq1 hmi hci
        have x3 := HB8.out.cell 3; have f3 := HB8.out.free 3
        simp only [rw6, List.getElem?_toArray, List.getElem?_cons_succ, List.getElem?_cons_zero] at x3
        have hw1 : IntKind.i64.wrap (y.n + 1) = y.n + 1 := IntWalk.i64_in _ (by omega)
        have hw2 : wrap64 (y.n + 1) = y.n + 1 := IntWalk.wrap64_in _ ⟨by omega, by omega⟩
        obtain ⟨w9, e9, hF9, hB9, hz9⟩ := set_new HB8.out 3 (.int .i64 (y.n + 1))
        simp only [rw6, List.setIfInBounds_toArray, List.set_cons_zero, List.set_cons_succ] at hB9
        have E9 := Lib.hid e9; have HB9 := Lib.hid hB9; have HF9 := Lib.hid hF9
        clear e9 hB9 hF9 hz9
        go_wp2_with fail
        rw [E9.out]
        clear E9 x3 f3 hw1 hw2
        have HX3 : Hid (w.heap.size < w3.heap.size ∧ w.heap.size + 1 < w3.heap.size) := Lib.hid (by have := HBS.out; omega)
        refine ⟨⟨k + 1, y.n + 1, .slice q (m - 1) (cc - 1), ?_, ?_, HB9.out, ?_, ?_, ?_, ?_, ?_, fun b' hb' => HLB.out b' (live_tail (by have h9 := HQ.out; rw [← h9] at hb'; exact hb'))⟩, ?_⟩
        · have := HLT.out; omega
        · rw [HRL.out, HDR.out, relL_eq (.inl rfl), HTS.out, List.append_assoc]
          try rw [HYN.out]
          rfl
        · exact HST.out
        · have h1 := HV1.out
          rw [HTS.out]
          exact OwnEls.fr Rep.held (OwnEls.fr Rep.held h1 HF8.out (by simp) (fun x hb hm => by have := (h1.block x hb).1; have := HX3.out; simp at hm; omega)) HF9.out (by simp) (fun x hb hm => by have := (h1.block x hb).1; have := HX3.out; simp at hm; omega)
        · exact (HFW7.out.step HF8.out (fun x hx => .inr (by simp at hx; omega))).step HF9.out (fun x hx => .inr (by simp at hx; omega))
        · exact Box.fr (Box.fr HRB7.out HF8.out (by simp)) HF9.out (by simp)
        · have h1 := HL3.out; have h2 := HF7.out.size; have h3 := HF8.out.size; have h4 := HF9.out.size; omega
        · simp only; have := HLT.out; omega
      · have hen : (y.n == cx) = false := beq_eq_false_iff_ne.2 he
        obtain ⟨d, hd⟩ : ∃ d, dueL s.wait (s.all.drop k) = some d := by
          cases hd : dueL s.wait (s.all.drop k) with
          | none => rw [dueL_none] at hd; rw [HDR.out] at hd; cases hd
          | some d => exact ⟨d, rfl⟩
        have HDUE : Hid (∀ w9, Fr [] w w9 → Calls Try.prog 14 #[.agg (rw6 s.size s.wait (.slice (some ⟨b, o, none⟩) m cc) cx H0 T)] w9 fun e w' => e = .returned (.tuple #[.int .i64 d, .bool true]) ∧ Fr [] w9 w') := Lib.hid (fun w9 hf => by
          have := r21Due_any (s := s) (next := cx) (hi := H0) (now := T) HWT.out (fun o ho => HTIME.out o (List.mem_of_mem_drop ho)) (by rw [List.length_drop]; have := HLN.out; omega) (HS.out.keep Rep.held hf)
          rw [hd] at this
          exact this)
        rw [HDR.out] at hd
        have HD := Lib.hid hd
        clear hd
        go_upto_region 4 with fail
        go_quiet (fail)
        generalize hw2 : wr.drewN _ = w5 at *
        have hF5 : Fr [] wr w5 := by rw [← hw2]; exact (Fr.refl _ _).drewN _
        have HB2 := Lib.hid (HB.out.keep hF5); have HRB2 := Lib.hid (HRB.out.keep hF5); have HO2 := Lib.hid (HO.out.keep Rep.held hF5); have HFW2 := Lib.hid (HFW.out.trans hF5); have HSZ2 := Lib.hid (Nat.le_trans HSZ.out hF5.size)
        have HRG2 : Hid (w5.rangeAt b o (onec y).toList) := Lib.hid (fun j u hj => hF5.cellSome (HRG.out j u hj) (by simp))
        clear hF5 hw2 HB HRB HO HFW HRG HSZ d0 x2 x3 x5
        go_wp2_with (refine wpList_load_row_w rfl 28 (.tmp 2) rfl w.heap.size rfl 28 _ _ HB2.out Try.underlying28 rfl (by kernel_rfl) ?_)
        refine (HDUE.out _ HFW2.out).mono ?_
        rintro e w6 ⟨rfl, hF6⟩
        have HB2 := Lib.hid (HB2.out.keep hF6); have HRB2 := Lib.hid (HRB2.out.keep hF6); have HO2 := Lib.hid (HO2.out.keep Rep.held hF6); have HFW2 := Lib.hid (HFW2.out.trans hF6); have HSZ2 := Lib.hid (Nat.le_trans HSZ2.out hF6.size)
        have HRG2 : Hid (w6.rangeAt b o (onec y).toList) := Lib.hid (fun j u hj => hF6.cellSome (HRG2.out j u hj) (by simp))
        clear hF6 HDUE
        have x2 := HB2.out.cell 2; have x3 := HB2.out.cell 3; have x5 := HB2.out.cell 5; have f3 := HB2.out.free 3
        simp only [rw6, List.getElem?_toArray, List.getElem?_cons_succ, List.getElem?_cons_zero] at x2 x3 x5
        by_cases hdl : T < d
        · have hdd : decide (T < d) = true := decide_eq_true hdl
          have HE : Hid ((g1, g2, g3) = (s.all.take k ++ [], s.all.drop k, cx)) := Lib.hid (by rw [HRL.out, HDR.out, relL_stop he HD.out hdl])
          have HR2 : Hid (s.all.drop k = g2) := Lib.hid (by have := congrArg (fun p => p.2.1) HE.out; exact this.symm)
          have HR1 : Hid (s.all.take k = g1) := Lib.hid (by have := congrArg (fun p => p.1) HE.out; simpa using this.symm)
          have HR3 : cx = g3 := by have := congrArg (fun p => p.2.2) HE.out; exact this.symm
          subst HR3
          go_wp2_with (first | (refine wpList_load_row_w rfl 28 (.tmp 2) rfl w.heap.size rfl 28 _ _ HB2.out Try.underlying28 rfl (by kernel_rfl) ?_) | (refine wpList_store_row rfl 28 (.tmp 4) (.tmp 34) rfl (w.heap.size + 1) rfl _ _ rfl 28 HRB2.out (by kernel_rfl) rfl one_rw6 ?_; intro w9 hY hG))
          refine bodyPost_ret (results_row_1 rfl _ _ (w.heap.size + 1) 28 _ _ rfl hY Try.underlying28 rfl (by kernel_rfl)) rfl ⟨.slice (some ⟨b, o, none⟩) m cc, _, rfl, ?_, ?_, HLB.out, fun b hb => (by have := (HO2.out.block b (live_block hb)).1; have := HBS.out; omega), (HFW2.out.step hG (fun x hx => .inr (by simp at hx; omega)))⟩
          · rw [← HR2.out]
            exact HS.out.keep Rep.held (HFW2.out.step hG (fun x hx => .inr (by simp at hx; omega)))
          · rw [← HR1.out]
            exact (OwnEls.fr Rep.held HO2.out hG (by simp) (fun x hb hm => by have := (HO2.out.block x hb).1; have := HBS.out; simp at hm; omega)).sl
        · have hdd : decide (T < d) = false := decide_eq_false hdl
          have HREL : Hid (y.n = cx ∨ ∃ d, dueL s.wait (y :: s.all.drop (k + 1)) = some d ∧ d ≤ T) := Lib.hid (.inr ⟨d, HD.out, by omega⟩)
          have d0 : w6.cell? ⟨b, o, none⟩ = some (.int .i64 y.n) := HRG2.out 0 _ rfl
          have HYN : Hid (True) := Lib.hid trivial
          obtain ⟨w8, e8, hF8, hB8, hz8⟩ := set_new HB2.out 3 (.int .i64 y.n)
          simp only [rw6, List.setIfInBounds_toArray, List.set_cons_zero, List.set_cons_succ] at hB8
          have E8 := Lib.hid e8
          go_upto_region 9 with fail
          try rw [E8.out]
          have HX3 : Hid (w.heap.size < w3.heap.size ∧ w.heap.size + 1 < w3.heap.size) := Lib.hid (by have := HBS.out; omega)
          have HLV : Hid (b < w.heap.size) := Lib.hid ((HS.out.lt Rep.held).2 b (by simp only [liveOf]; rw [if_pos (by omega)]))
          have HRB2 := Lib.hid (HRB2.out.fr hF8 (by simp)); have HO2 := Lib.hid (OwnEls.fr Rep.held HO2.out hF8 (by simp) (fun x hb hm => by have := (HO2.out.block x hb).1; have := HX3.out; simp at hm; omega)); have HFW2 := Lib.hid (HFW2.out.step hF8 (fun x hx => .inr (by simp at hx; omega))); have HSZ2 := Lib.hid (Nat.le_trans HSZ2.out hF8.size)
          have HRG2 : Hid (w8.rangeAt b o (onec y).toList) := Lib.hid (fun j u hj => hF8.cellSome (HRG2.out j u hj) (by have := HLV.out; simp; omega))
          have HB2 := Lib.hid hB8
          clear E8 e8 hF8 hB8 hz8 x2 x3 x5 f3 d0 hdl
          have x2 := HB2.out.cell 2; have x3 := HB2.out.cell 3; have x5 := HB2.out.cell 5
          simp only [rw6, List.getElem?_toArray, List.getElem?_cons_succ, List.getElem?_cons_zero] at x2 x3 x5
          obtain ⟨wa, ea, hFa, hBa, hsa⟩ := one_new w8 (onec y) 76
          have EA := Lib.hid ea; have HBA := Lib.hid hBa; have HFA := Lib.hid hFa
          have HL1 : Hid ((s.all.take k).length + 1 ≤ maxLen) := Lib.hid (by have := HTK.out; unfold maxLen; omega)
          have HL2 : Hid (((s.all.take k).length + 1) * 24 ≤ 140737488355328) := Lib.hid (by have := HTK.out; omega)
          have HL3 : Hid (w3.heap.size ≤ wa.heap.size) := Lib.hid (by have h1 := HSZ2.out; have := hFa.size; omega)
          clear ea hBa hFa hsa
          go_upto_region 10 with (first | (refine wpList_load_midA rfl 76 (.tmp 45) rfl b o rfl #[.int .i64 y.n, .int .i64 y.x, .int .i64 y.at_] _ HRG2.out Try.underlying76 rfl (by kernel_rfl) ?_) | (at_builtin; (rw [EA.out]); refine wpList_append_el Rep.held (by decide) rfl (.tmp 42) (.tmp 47) 26 rfl w3.heap.size 76 (.agg #[.int .i64 0, .int .i64 0, .int .i64 0]) 24 Try.underlying26 info_held rfl (.slice ax k cx') (s.all.take k) [] rfl (HO2.out.keep Rep.held HFA.out) w8.heap.size 0 1 rfl (onec y).toList y [] (box_range HBA.out) ⟨rfl, rfl⟩ (by simp) HL1.out HL2.out HL3.out ?_; intro vs1 w7 hown1 hfr1 hbl1; obtain ⟨as1, cs1, es1⟩ := hown1.shape; rw [HLA.out] at es1; subst es1; have HV1 := Lib.hid hown1; have HF7 := Lib.hid hfr1; clear hown1 hfr1 hbl1))
          have hbx : ∀ x, x ∈ (blockOf (.slice ax k cx')).toList → w3.heap.size ≤ x := fun x hb => (HO2.out.block x (mem_toList.1 hb)).1
          have HNX : Hid (∀ x, x < w3.heap.size → x ∉ (blockOf (.slice ax k cx')).toList) := Lib.hid (fun x h1 hb => by have := hbx x hb; omega)
          have HB7 := Lib.hid (Box.fr (HB2.out.keep HFA.out) HF7.out (HNX.out _ (by have := HBS.out; omega))); have HRB7 := Lib.hid (Box.fr (HRB2.out.keep HFA.out) HF7.out (HNX.out _ (by have := HBS.out; omega)))
          have HFW7 : Hid (Fr [] w w7) := Lib.hid ((HFW2.out.trans HFA.out).step HF7.out (fun x hb => .inr (by have := hbx x hb; have := HBS.out; omega)))
          clear hbx x2 x3 x5
          have x2 := HB7.out.cell 2; have f2 := HB7.out.free 2
          simp only [rw6, List.getElem?_toArray, List.getElem?_cons_succ, List.getElem?_cons_zero] at x2
          obtain ⟨wb, e8, hF8, hB8, hz8⟩ := set_new HB7.out 2 (.slice q (m - 1) (cc - 1))
          simp only [rw6, List.setIfInBounds_toArray, List.set_cons_zero, List.set_cons_succ] at hB8
          have E8 := Lib.hid e8; have HB8 := Lib.hid hB8; have HF8 := Lib.hid hF8
          clear e8 hB8 hF8 hz8
          have hq1 := HQ.out
          have hmi : ((m : Nat) : Int) - 1 = ((m - 1 : Nat) : Int) := by omega
          have hci : ((cc : Nat) : Int) - 1 = ((cc - 1 : Nat) : Int) := by omega
          go_upto_region 11 with fail
          rw [E8.out]
          clear E8 x2 f2 hq1 hmi hci
          have x3 := HB8.out.cell 3; have f3 := HB8.out.free 3
          simp only [rw6, List.getElem?_toArray, List.getElem?_cons_succ, List.getElem?_cons_zero] at x3
          have hw1 : IntKind.i64.wrap (y.n + 1) = y.n + 1 := IntWalk.i64_in _ (by omega)
          have hw2 : wrap64 (y.n + 1) = y.n + 1 := IntWalk.wrap64_in _ ⟨by omega, by omega⟩
          obtain ⟨w9, e9, hF9, hB9, hz9⟩ := set_new HB8.out 3 (.int .i64 (y.n + 1))
          simp only [rw6, List.setIfInBounds_toArray, List.set_cons_zero, List.set_cons_succ] at hB9
          have E9 := Lib.hid e9; have HB9 := Lib.hid hB9; have HF9 := Lib.hid hF9
          clear e9 hB9 hF9 hz9
          go_wp2_with fail
          rw [E9.out]
          clear E9 x3 f3 hw1 hw2
          have HX3 : Hid (w.heap.size < w3.heap.size ∧ w.heap.size + 1 < w3.heap.size) := Lib.hid (by have := HBS.out; omega)
          refine ⟨⟨k + 1, y.n + 1, .slice q (m - 1) (cc - 1), ?_, ?_, HB9.out, ?_, ?_, ?_, ?_, ?_, fun b' hb' => HLB.out b' (live_tail (by have h9 := HQ.out; rw [← h9] at hb'; exact hb'))⟩, ?_⟩
          · have := HLT.out; omega
          · rw [HRL.out, HDR.out, relL_eq HREL.out, HTS.out, List.append_assoc]
            try rw [HYN.out]
            rfl
          · exact HST.out
          · have h1 := HV1.out
            rw [HTS.out]
            exact OwnEls.fr Rep.held (OwnEls.fr Rep.held h1 HF8.out (by simp) (fun x hb hm => by have := (h1.block x hb).1; have := HX3.out; simp at hm; omega)) HF9.out (by simp) (fun x hb hm => by have := (h1.block x hb).1; have := HX3.out; simp at hm; omega)
          · exact (HFW7.out.step HF8.out (fun x hx => .inr (by simp at hx; omega))).step HF9.out (fun x hx => .inr (by simp at hx; omega))
          · exact Box.fr (Box.fr HRB7.out HF8.out (by simp)) HF9.out (by simp)
          · have h1 := HL3.out; have h2 := HF7.out.size; have h3 := HF8.out.size; have h4 := HF9.out.size; omega
          · simp only; have := HLT.out; omega
    · obtain rfl : k = s.all.length := by omega
      have hm0 : m = 0 := by have := HM2.out; omega
      subst hm0
      clear hk hlt HM2
      have HE : Hid ((g1, g2, g3) = (s.all, [], cx)) := Lib.hid (by rw [HRL.out, List.drop_length, List.take_length, relL, List.append_nil])
      have HR2 : Hid (s.all.drop s.all.length = g2) := Lib.hid (by have := congrArg (fun p => p.2.1) HE.out; rw [List.drop_length]; exact this.symm)
      have HR1 : Hid (s.all.take s.all.length = g1) := Lib.hid (by have := congrArg (fun p => p.1) HE.out; rw [List.take_length]; exact this.symm)
      have HR3 : cx = g3 := by have := congrArg (fun p => p.2.2) HE.out; exact this.symm
      subst HR3
      have HRB2 := HRB
      go_wp2_with (first | (refine wpList_load_row_w rfl 28 (.tmp 2) rfl w.heap.size rfl 28 _ _ HB.out Try.underlying28 rfl (by kernel_rfl) ?_) | (refine wpList_store_row rfl 28 (.tmp 4) (.tmp 57) rfl (w.heap.size + 1) rfl _ _ rfl 28 HRB2.out (by kernel_rfl) rfl one_rw6 ?_; intro w9 hY hG))
      refine bodyPost_ret (results_row_1 rfl _ _ (w.heap.size + 1) 28 _ _ rfl hY Try.underlying28 rfl (by kernel_rfl)) rfl ⟨.slice a2 0 cc, _, rfl, ?_, ?_, HLB.out, fun b hb => (by have := (HO.out.block b (live_block hb)).1; have := HBS.out; omega), (HFW.out.step hG (fun x hx => .inr (by simp at hx; omega)))⟩
      · rw [← HR2.out]
        exact HS.out.keep Rep.held (HFW.out.step hG (fun x hx => .inr (by simp at hx; omega)))
      · rw [← HR1.out]
        exact (OwnEls.fr Rep.held HO.out hG (by simp) (fun x hb hm => by have := (HO.out.block x hb).1; have := HBS.out; simp at hm; omega)).sl
end Go.Proofs.Ytbmpiemhfndnbaa

/- The walk of confluxlaw21.same (printed by gen_winsame.py). -/
namespace Go.Proofs.Ytbmpiemhfndnbaa
open Go.RowKit

set_option maxRecDepth 100000 in
set_option maxHeartbeats 8000000 in
theorem l21same_any {w : World} {v u : Value} {l : List Held_} (hv : SlEls 2 OutR w v l []) (hu : SlEls 3 OneR w u l []) (hn : ∀ o ∈ l, 0 ≤ o.n ∧ o.n ≤ 1099511627776) (hl : l.length ≤ 200) :
    Calls Try.prog 16 #[v, u] w fun e w' => e = .returned (.bool true) ∧ Fr [] w w' := by
  obtain ⟨av, cv, rfl⟩ := hv.shape
  obtain ⟨au, cu, rfl⟩ := hu.shape
  have HV := Lib.hid hv; have HU := Lib.hid hu; have HN := Lib.hid hn
  clear hv hu hn
  go_enter Try.func16, Try.ntmps16
  go_wp2_with fail
  go_loopw [13] (fun iv wr => ∃ j : Nat, j ≤ l.length ∧ iv = .int .i64 j ∧ Fr [] w wr) (fun iv _ => l.length - (Lib.intOf iv).toNat)
  case atStart => exact ⟨0, Nat.zero_le _, rfl, Fr.refl _ _⟩
  case round =>
    obtain ⟨j, hj, rfl, hFw⟩ := hrel
    have HFW := Lib.hid hFw
    clear hFw
    by_cases hlt : j < l.length
    · obtain ⟨b, o, cc, y, B1, ea, -, hy, ⟨rfl, -⟩, -, hrg⟩ := (HV.out.keep Rep.out HFW.out).at_ Rep.out (i := j) hlt
      obtain ⟨b2, o2, cc2, y2, B2, ea2, -, hy2, ⟨rfl, -⟩, -, hrg2⟩ := (HU.out.keep Rep.held HFW.out).at_ Rep.held (i := j) hlt
      rw [hy] at hy2
      cases hy2
      subst ea ea2
      have d0 : wr.cell? ⟨b, o + j * 2, none⟩ = some (.int .u16 ((low16 y.n).toNat : Nat)) := hrg 0 _ rfl
      have d1 : wr.cell? ⟨b, o + j * 2 + 1, none⟩ = some (.int .i64 y.x) := hrg 1 _ rfl
      have e0 : wr.cell? ⟨b2, o2 + j * 3, none⟩ = some (.int .i64 y.n) := hrg2 0 _ rfl
      have e1 : wr.cell? ⟨b2, o2 + j * 3 + 1, none⟩ = some (.int .i64 y.x) := hrg2 1 _ rfl
      have hnn := HN.out y (List.mem_of_getElem? hy)
      clear hrg hrg2 hy
      obtain ⟨yn, hyn⟩ : ∃ yn, y.n = yn := ⟨_, rfl⟩
      obtain ⟨yx, hyx⟩ : ∃ yx, y.x = yx := ⟨_, rfl⟩
      rw [hyn] at hnn e0 d0
      rw [hyx] at d1 e1
      clear hyn hyx
      have hm1 : yn.tmod 65536 = yn % 65536 := Int.tmod_eq_emod_of_nonneg hnn.1
      have hm2 : IntKind.u16.wrap (yn % 65536) = (((low16 yn).toNat : Nat) : Int) := by rw [low16_nat, IntKind.wrap_u16]; omega
      have hm3 : IntKind.i64.wrap (yn % 65536) = yn % 65536 := IntWalk.i64_in _ (by omega)
      have hm4 : wrap64 (yn % 65536) = yn % 65536 := IntWalk.wrap64_in _ ⟨by omega, by omega⟩
      generalize (low16 yn).toNat = q at *
      go_upto_region 6 with fail
      go_wp2_with fail
      go_quiet (fail)
      generalize hw2 : wr.drewN _ = w2 at *
      have HF2 : Hid (Fr [] w w2) := Lib.hid (by rw [← hw2]; exact HFW.out.drewN _)
      clear hw2 d0 d1 e0 e1
      go_wp2_with fail
      exact ⟨⟨j + 1, by omega, by go_num, HF2.out⟩, by simp [Lib.intOf]; omega⟩
    · obtain rfl : j = l.length := by omega
      clear hj hlt
      go_wp2_with fail
      go_ret
      exact ⟨rfl, HFW.out⟩
end Go.Proofs.Ytbmpiemhfndnbaa
