import Derived.Test.YtbmpiemhfndnbaaMp32
import Derived.Test.YtbmpiemhfndnbaaMp26
/- The walks of serial.Wide, and of a window's tick, Len, Next, New, take (printed by gen_win2.py). -/
namespace Go.Proofs.Ytbmpiemhfndnbaa
open Go.RowKit Go.Maps

/-- The number of 16 bits that a number is. -/
def low16 (h : Int) : UInt16 := UInt16.ofNat (h % 65536).toNat
theorem low16_nat (h : Int) : ((low16 h).toNat : Int) = h % 65536 := by unfold low16; rw [UInt16.toNat_ofNat']; omega
theorem wrap_low16 (h : Int) : IntKind.u16.wrap h = ((low16 h).toNat : Nat) := by rw [low16_nat, IntKind.wrap_u16]
/-- What a serial.Wide tells that starts at a place of a block. -/
def WideAt_ (w : World) (g o : Nat) (hi : Option Int) : Prop := w.cell? ⟨g, o, none⟩ = some (.int .i64 (hi.getD 0)) ∧ w.cell? ⟨g, o + 1, none⟩ = some (.bool hi.isSome)
set_option maxRecDepth 100000 in
set_option maxHeartbeats 4000000 in
theorem widePeek_any {w : World} {g o : Nat} {hi : Option Int} (h0 : WideAt_ w g o hi) (hb : ∀ h, hi = some h → 40000 ≤ h ∧ h ≤ 4611686018427300000) (q : UInt16) :
    Calls Try.prog 25 #[.pointer (some ⟨g, o, none⟩), .int .u16 (q.toNat : Nat)] w fun e w' => e = .returned (.int .i64 (peekW hi q)) ∧ Fr [] w w' := by
  obtain ⟨d0, d1⟩ := h0
  have HC0 := Lib.hid d0; have HC1 := Lib.hid d1
  have hq := q.toNat_lt
  cases hi with
  | none =>
    clear d0
    have hw : IntKind.i64.wrap (4294967296 + (q.toNat : Int)) = 4294967296 + (q.toNat : Int) := IntWalk.i64_in _ (by omega)
    have d1 : w.cell? ⟨g, o + 1, none⟩ = some (.bool false) := HC1.out
    go_enter Try.func25, Try.ntmps25
    go_wp2_with fail
    go_ret
    exact ⟨rfl, Fr.refl _ _⟩
  | some h =>
    have hb := hb h rfl
    have HC0 : Hid (w.cell? ⟨g, o, none⟩ = some (.int .i64 h)) := HC0
    have HF0 : Hid (Fr [] w w) := Lib.hid (Fr.refl _ _)
    have d1 : w.cell? ⟨g, o + 1, none⟩ = some (.bool true) := HC1.out
    clear d0
    have hlo := wrap_low16 h
    have hah := ahd_lt q (low16 h)
    have hpk : peekW (some h) q = h + ahd q (low16 h) := rfl
    have HPK := Lib.hid hpk
    obtain ⟨k, hk⟩ : ∃ k, ahd q (low16 h) = k := ⟨_, rfl⟩
    rw [hk] at HPK hah
    have HK := Lib.hid hk
    clear hk hpk
    generalize low16 h = lo at *
    have hw1 : IntKind.i64.wrap (h + k) = h + k := IntWalk.i64_in _ (by omega)
    have hw2 : max (h + k) 0 = h + k := by omega
    have hw3 : min (h + k) 4611686018427387904 = h + k := by omega
    go_enter Try.func25, Try.ntmps25
    go_upto_region 3 with fail
    clear d1
    refine wp_region_T (fun w' => Fr [] w.drew w') [] 15 #[false, false, false, false, false, false, false, false, false, false, false, false, false, false, false] (by kernel_rfl) rfl rfl ?_
    try simp only [List.append_eq, List.cons_append, List.nil_append]
    have hF := (Fr.refl [] w).drew
    have HC0 := Lib.hid (hF.cellSome HC0.out (by simp))
    have HC1 := Lib.hid (hF.cellSome HC1.out (by simp))
    have HF0 := Lib.hid (HF0.out.trans hF)
    clear hF
    have HSS : Hid (Fr [] w.drew w.drew) := Lib.hid (Fr.refl _ _)
    generalize w.drew = wd at *
    refine wpAnyT_load (i := 0) (v := ?_) rfl (by kernel_rfl) (by kernel_rfl) (by kernel_rfl) (by kernel_rfl) (by kernel_rfl) (fun _ _ _ h => h) HSS.out (by rfl) ?_ ?_
    rotate_left
    · intro w hSw; skip; go_simp; try with_reducible rfl
    simp only [Act.put, List.getElem_toArray, List.getElem_cons_zero, List.getElem_cons_succ, List.setIfInBounds_toArray, List.set_cons_zero, List.set_cons_succ]
    refine wpAnyT_load (i := 1) (v := ?_) rfl (by kernel_rfl) (by kernel_rfl) (by kernel_rfl) (by kernel_rfl) (by kernel_rfl) (fun _ _ _ h => h) HSS.out (by rfl) ?_ ?_
    rotate_left
    · intro w hSw; skip; go_simp; try with_reducible rfl
    simp only [Act.put, List.getElem_toArray, List.getElem_cons_zero, List.getElem_cons_succ, List.setIfInBounds_toArray, List.set_cons_zero, List.set_cons_succ]
    refine wpAnyT_load (i := 2) (v := ?_) rfl (by kernel_rfl) (by kernel_rfl) (by kernel_rfl) (by kernel_rfl) (by kernel_rfl) (fun _ _ _ h => h) HSS.out (by rfl) ?_ ?_
    rotate_left
    · intro w hSw; skip; go_simp; try with_reducible rfl
    simp only [Act.put, List.getElem_toArray, List.getElem_cons_zero, List.getElem_cons_succ, List.setIfInBounds_toArray, List.set_cons_zero, List.set_cons_succ]
    refine wpAnyT_load (i := 3) (v := ?_) rfl (by kernel_rfl) (by kernel_rfl) (by kernel_rfl) (by kernel_rfl) (by kernel_rfl) (fun _ _ _ h => h) HSS.out (by rfl) ?_ ?_
    rotate_left
    · intro w hSw; have n0 := hSw.cellSome HC0.out (by simp); go_simp; try with_reducible rfl
    simp only [Act.put, List.getElem_toArray, List.getElem_cons_zero, List.getElem_cons_succ, List.setIfInBounds_toArray, List.set_cons_zero, List.set_cons_succ]
    refine wpAnyT_load (i := 4) (v := ?_) rfl (by kernel_rfl) (by kernel_rfl) (by kernel_rfl) (by kernel_rfl) (by kernel_rfl) (fun _ _ _ h => h) HSS.out (by rfl) ?_ ?_
    rotate_left
    · intro w hSw; skip; go_simp; try with_reducible rfl
    simp only [Act.put, List.getElem_toArray, List.getElem_cons_zero, List.getElem_cons_succ, List.setIfInBounds_toArray, List.set_cons_zero, List.set_cons_succ]
    refine wpAnyT_load (i := 5) (v := ?_) rfl (by kernel_rfl) (by kernel_rfl) (by kernel_rfl) (by kernel_rfl) (by kernel_rfl) (fun _ _ _ h => h) HSS.out (by rfl) ?_ ?_
    rotate_left
    · intro w hSw; skip; go_simp; try with_reducible rfl
    simp only [Act.put, List.getElem_toArray, List.getElem_cons_zero, List.getElem_cons_succ, List.setIfInBounds_toArray, List.set_cons_zero, List.set_cons_succ]
    refine wpAnyT_load (i := 6) (v := ?_) rfl (by kernel_rfl) (by kernel_rfl) (by kernel_rfl) (by kernel_rfl) (by kernel_rfl) (fun _ _ _ h => h) HSS.out (by rfl) ?_ ?_
    rotate_left
    · intro w hSw; skip; go_simp; try with_reducible rfl
    simp only [Act.put, List.getElem_toArray, List.getElem_cons_zero, List.getElem_cons_succ, List.setIfInBounds_toArray, List.set_cons_zero, List.set_cons_succ]
    refine wpAnyT_load (i := 7) (v := ?_) rfl (by kernel_rfl) (by kernel_rfl) (by kernel_rfl) (by kernel_rfl) (by kernel_rfl) (fun _ _ _ h => h) HSS.out (by rfl) ?_ ?_
    rotate_left
    · intro w hSw; skip; go_simp; try with_reducible rfl
    simp only [Act.put, List.getElem_toArray, List.getElem_cons_zero, List.getElem_cons_succ, List.setIfInBounds_toArray, List.set_cons_zero, List.set_cons_succ]
    refine wpAnyT_load (i := 8) (v := ?_) rfl (by kernel_rfl) (by kernel_rfl) (by kernel_rfl) (by kernel_rfl) (by kernel_rfl) (fun _ _ _ h => h) HSS.out (by rfl) ?_ ?_
    rotate_left
    · intro w hSw; have n0 := hSw.cellSome HC0.out (by simp); go_simp; try with_reducible rfl
    simp only [Act.put, List.getElem_toArray, List.getElem_cons_zero, List.getElem_cons_succ, List.setIfInBounds_toArray, List.set_cons_zero, List.set_cons_succ]
    refine wpAnyT_load (i := 9) (v := ?_) rfl (by kernel_rfl) (by kernel_rfl) (by kernel_rfl) (by kernel_rfl) (by kernel_rfl) (fun _ _ _ h => h) HSS.out (by rfl) ?_ ?_
    rotate_left
    · intro w hSw; skip; go_simp; try with_reducible rfl
    simp only [Act.put, List.getElem_toArray, List.getElem_cons_zero, List.getElem_cons_succ, List.setIfInBounds_toArray, List.set_cons_zero, List.set_cons_succ]
    refine wpAnyT_one (i := 10) (by kernel_rfl) rfl (fun K hK => ?_)
    rw [if_pos (by rfl)]
    go_simp
    refine (serAhead_any q lo _).mono ?_
    rw [HK.out]
    rintro e wq ⟨rfl, rfl⟩
    go_simp
    refine hK.out _ _ (fun _ => HSS.out) ?_
    clear hK K
    simp only [Act.put, List.getElem_toArray, List.getElem_cons_zero, List.getElem_cons_succ, List.setIfInBounds_toArray, List.set_cons_zero, List.set_cons_succ]
    refine wpAnyT_load (i := 11) (v := ?_) rfl (by kernel_rfl) (by kernel_rfl) (by kernel_rfl) (by kernel_rfl) (by kernel_rfl) (fun _ _ _ h => h) HSS.out (by rfl) ?_ ?_
    rotate_left
    · intro w hSw; skip; go_simp; try with_reducible rfl
    simp only [Act.put, List.getElem_toArray, List.getElem_cons_zero, List.getElem_cons_succ, List.setIfInBounds_toArray, List.set_cons_zero, List.set_cons_succ]
    refine wpAnyT_one (i := 12) (by kernel_rfl) rfl (fun K hK => ?_)
    rw [if_pos (by rfl)]
    go_simp
    refine hK.out _ _ (fun _ => HSS.out) ?_
    clear hK K
    simp only [Act.put, List.getElem_toArray, List.getElem_cons_zero, List.getElem_cons_succ, List.setIfInBounds_toArray, List.set_cons_zero, List.set_cons_succ]
    refine wpAnyT_one (i := 13) (by kernel_rfl) rfl (fun K hK => ?_)
    rw [if_pos (by rfl)]
    go_simp
    refine hK.out _ _ (fun _ => HSS.out) ?_
    clear hK K
    simp only [Act.put, List.getElem_toArray, List.getElem_cons_zero, List.getElem_cons_succ, List.setIfInBounds_toArray, List.set_cons_zero, List.set_cons_succ]
    refine wpAnyT_load (i := 14) (v := ?_) rfl (by kernel_rfl) (by kernel_rfl) (by kernel_rfl) (by kernel_rfl) (by kernel_rfl) (fun _ _ _ h => h) HSS.out (by rfl) ?_ ?_
    rotate_left
    · intro w hSw; skip; go_simp; try with_reducible rfl
    simp only [Act.put, List.getElem_toArray, List.getElem_cons_zero, List.getElem_cons_succ, List.setIfInBounds_toArray, List.set_cons_zero, List.set_cons_succ]
    refine wpAnyT_done (by kernel_rfl) ?_ _
    go_wp2_with fail
    go_ret
    rw [HPK.out]
    exact ⟨rfl, HF0.out.trans HSS.out⟩
set_option maxRecDepth 100000 in
set_option maxHeartbeats 4000000 in
theorem wideStarted_any {w : World} {g o : Nat} {hi : Option Int} (h0 : WideAt_ w g o hi) :
    Calls Try.prog 26 #[.pointer (some ⟨g, o, none⟩)] w fun e w' => e = .returned (.bool hi.isSome) ∧ w = w' := by
  obtain ⟨-, d1⟩ := h0
  generalize hi.isSome = b at *
  go_enter Try.func26, Try.ntmps26
  go_wp2_with fail
  go_ret
  exact ⟨rfl, rfl⟩
/-- The highest number behind one more. -/
def hiMax : Option Int → Int → Int
  | none, n => n
  | some h, n => max h n
def hiOf (hi : Option Int) (q : UInt16) : Int := hiMax hi (peekW hi q)
theorem peek_bd {hi : Option Int} (hb : ∀ h, hi = some h → 40000 ≤ h ∧ h ≤ 4611686018427300000) (q : UInt16) : -9223372036854775808 ≤ peekW hi q ∧ peekW hi q < 9223372036854775808 := by
  cases hi with
  | none => have := q.toNat_lt; show -9223372036854775808 ≤ 4294967296 + (q.toNat : Int) ∧ 4294967296 + (q.toNat : Int) < _; omega
  | some h => have := hb h rfl; have := peekW_some (h := h) (q := q); omega
theorem set_same {c : Array Value} {o : Nat} {v : Value} (h : c[o]? = some v) : c.setIfInBounds o v = c := by
  apply Array.ext_getElem?
  intro i
  rw [Array.getElem?_setIfInBounds]
  split
  · rename_i e; subst e
    rw [h]
    have := (Array.getElem?_eq_some_iff.1 h).1
    simp [this]
  · rfl
set_option maxRecDepth 100000 in
set_option maxHeartbeats 4000000 in
theorem wideOf_any {w : World} {g o : Nat} {hi : Option Int} {ty : TypeId} {c : Array Value} (hB : Box w g ty c) (h0 : c[o]? = some (.int .i64 (hi.getD 0))) (h1 : c[o + 1]? = some (.bool hi.isSome)) (hb : ∀ h, hi = some h → 40000 ≤ h ∧ h ≤ 4611686018427300000) (q : UInt16) :
    Calls Try.prog 27 #[.pointer (some ⟨g, o, none⟩), .int .u16 (q.toNat : Nat)] w fun e w' => e = .returned (.int .i64 (peekW hi q)) ∧ Box w' g ty ((c.setIfInBounds o (.int .i64 (hiOf hi q))).setIfInBounds (o + 1) (.bool true)) ∧ Fr [g] w w' := by
  have HB := Lib.hid hB; have H0 := Lib.hid h0; have H1 := Lib.hid h1
  have hat : WideAt_ w g o hi := ⟨by rw [hB.cell]; exact h0, by rw [hB.cell]; exact h1⟩
  have hmod := peekW_mod (hi := hi) (q := q)
  have hbd := peek_bd hb q
  have HW := Lib.hid hat
  clear hB h0 h1 hat
  unfold hiOf
  have HPK := Lib.hid (widePeek_any HW.out hb q)
  generalize peekW hi q = n at *
  have hu : IntKind.u16.wrap n = (q.toNat : Nat) := by rw [IntKind.wrap_u16]; exact hmod
  go_enter Try.func27, Try.ntmps27
  go_wp2_with fail
  refine HPK.out.mono ?_
  rintro e w1 ⟨rfl, hF⟩
  clear HPK
  have HB := Lib.hid (HB.out.keep hF); have HF := Lib.hid hF
  clear hF hmod hb
  have x0 := HB.out.cell o; have x1 := HB.out.cell (o + 1); have f0 := HB.out.free o; have f1 := HB.out.free (o + 1)
  rw [H0.out] at x0
  rw [H1.out] at x1
  obtain ⟨w2, e2, hF2, hB2, -⟩ := set_new HB.out o (.int .i64 n)
  obtain ⟨w3, e3, hF3, hB3, -⟩ := set_new hB2 (o + 1) (.bool true)
  have f3 := hB2.free (o + 1)
  have x3 : w2.cell? ⟨g, o + 1, none⟩ = some (.bool hi.isSome) := by rw [hB2.cell, Array.getElem?_setIfInBounds_ne (by omega)]; exact H1.out
  have HF3 := Lib.hid ((HF.out.any (S := [g])).trans (hF2.trans hF3)); have HB3 := Lib.hid hB3; have E2 := Lib.hid e2; have E3 := Lib.hid e3
  clear hF2 hB2 hF3 hB3 e2 e3
  cases hi with
  | none =>
    go_upto_region 4 with fail
    simp only [E2.out, E3.out]
    go_wp2_with fail
    go_ret
    exact ⟨rfl, HB3.out, HF3.out⟩
  | some h =>
    by_cases hc : h < n
    · have hcb : decide (h < n) = true := decide_eq_true hc
      have hcg : decide (n > h) = true := decide_eq_true hc
      go_upto_region 4 with fail
      simp only [E2.out, E3.out]
      go_wp2_with fail
      go_ret
      have hm : max h n = n := by omega
      exact ⟨rfl, by show Box _ _ _ ((c.setIfInBounds o (.int .i64 (max h n))).setIfInBounds (o + 1) (.bool true)); rw [hm]; exact HB3.out, HF3.out⟩
    · have hcb : decide (h < n) = false := decide_eq_false hc
      have hcg : decide (n > h) = false := decide_eq_false hc
      go_wp2_with fail
      go_ret
      have hm : max h n = h := by omega
      refine ⟨rfl, ?_, HF.out.any⟩
      show Box _ _ _ ((c.setIfInBounds o (.int .i64 (max h n))).setIfInBounds (o + 1) (.bool true))
      have q0 : c.setIfInBounds o (.int .i64 h) = c := set_same H0.out
      have q1 : c.setIfInBounds (o + 1) (.bool true) = c := set_same H1.out
      rw [hm, q0, q1]
      exact HB.out
theorem WinV.set_box {W W' : World} {g mb : Nat} {s s' : Win} (h : WinV W g mb s) (hB : Box W' g 65 (winc s' mb)) (hF : Fr [g] W W') (ha : s'.all = s.all) : WinV W' g mb s' := by
  obtain ⟨D, hD⟩ := h.map
  exact ⟨hB, ⟨D, by rw [ha]; exact hD.fr hF (by have := h.ne; simp; omega)⟩, h.ne⟩
set_option maxRecDepth 100000 in
set_option maxHeartbeats 4000000 in
theorem wTick_any {w : World} {g mb : Nat} {s : Win} (h : WinV w g mb s) (h0 : 0 ≤ s.now) (now : Int) :
    Calls Try.prog 21 #[.pointer (some ⟨g, 0, none⟩), .int .i64 now] w fun e w' => e = .returned (.tuple #[]) ∧ WinV w' g mb (s.tick now) ∧ Fr [g] w w' := by
  have HW := Lib.hid h
  have HB := Lib.hid h.box
  have hm : max s.now (min (max now 0) 1099511627776) = tickT s.now now := by unfold tickT; omega
  obtain ⟨w2, e2, hF2, hB2, -⟩ := set_new HB.out 5 (.int .i64 (tickT s.now now))
  have x5 := HB.out.cell 5; have f5 := HB.out.free 5
  simp only [winc, List.getElem?_toArray, List.getElem?_cons_succ, List.getElem?_cons_zero, List.setIfInBounds_toArray, List.set_cons_zero, List.set_cons_succ] at x5 hB2
  have HV : Hid (WinV w2 g mb (s.tick now)) := Lib.hid (HW.out.set_box hB2 hF2 rfl)
  have HF := Lib.hid hF2; have E2 := Lib.hid e2
  clear h hB2 hF2 e2
  generalize tickT s.now now = tk at *
  go_enter Try.func21, Try.ntmps21
  go_wp2_with fail
  rw [E2.out]
  go_end0
  exact ⟨rfl, HV.out, HF.out⟩
set_option maxRecDepth 100000 in
set_option maxHeartbeats 4000000 in
theorem wLen_any {w : World} {g mb : Nat} {s : Win} (h : WinV w g mb s) :
    Calls Try.prog 18 #[.pointer (some ⟨g, 0, none⟩)] w fun e w' => e = .returned (.int .i64 (s.all.length : Nat)) ∧ w = w' := by
  obtain ⟨D, hD⟩ := h.map
  have HD := Lib.hid hD
  have x6 := h.box.cell 6
  simp only [winc, List.getElem?_toArray, List.getElem?_cons_succ, List.getElem?_cons_zero] at x6
  clear h hD
  go_enter Try.func18, Try.ntmps18
  go_wp2_with (at_len; refine wpList_len_own _ rfl _ 61 rfl 2 69 Try.underlying61 heldW mb s.all.length D rfl HD.out.own ?_)
  go_ret
  exact ⟨by rw [HD.out.size]; rfl, rfl⟩
set_option maxRecDepth 100000 in
set_option maxHeartbeats 4000000 in
theorem wNext_any {w : World} {g mb : Nat} {s : Win} (h : WinV w g mb s) :
    Calls Try.prog 15 #[.pointer (some ⟨g, 0, none⟩)] w fun e w' => e = .returned (.tuple #[.int .u16 ((low16 s.next).toNat : Nat), .bool s.hi.isSome]) ∧ Fr [] w w' := by
  have HB := Lib.hid h.box
  have HF0 : Hid (Fr [] w w) := Lib.hid (Fr.refl _ _)
  have hlo := wrap_low16 s.next
  clear h
  go_enter Try.func15, Try.ntmps15
  go_upto_region 1 with fail
  refine wp_region_T (fun w' => Fr [] w.drew w') [] 11 #[false, false, false, false, false, false, false, false, false, false, false] (by kernel_rfl) rfl rfl ?_
  try simp only [List.append_eq, List.cons_append, List.nil_append]
  have hF := (Fr.refl [] w).drew
  have HB := Lib.hid (HB.out.keep hF)
  have HF0 := Lib.hid (HF0.out.trans hF)
  clear hF
  have HSS : Hid (Fr [] w.drew w.drew) := Lib.hid (Fr.refl _ _)
  generalize w.drew = wd at *
  refine wpAnyT_load (i := 0) (v := ?_) rfl (by kernel_rfl) (by kernel_rfl) (by kernel_rfl) (by kernel_rfl) (by kernel_rfl) (fun _ _ _ h => h) HSS.out (by rfl) ?_ ?_
  rotate_left
  · intro w hSw; skip; go_simp; try with_reducible rfl
  simp only [Act.put, List.getElem_toArray, List.getElem_cons_zero, List.getElem_cons_succ, List.setIfInBounds_toArray, List.set_cons_zero, List.set_cons_succ]
  refine wpAnyT_load (i := 1) (v := ?_) rfl (by kernel_rfl) (by kernel_rfl) (by kernel_rfl) (by kernel_rfl) (by kernel_rfl) (fun _ _ _ h => h) HSS.out (by rfl) ?_ ?_
  rotate_left
  · intro w hSw; skip; go_simp; try with_reducible rfl
  simp only [Act.put, List.getElem_toArray, List.getElem_cons_zero, List.getElem_cons_succ, List.setIfInBounds_toArray, List.set_cons_zero, List.set_cons_succ]
  refine wpAnyT_load (i := 2) (v := ?_) rfl (by kernel_rfl) (by kernel_rfl) (by kernel_rfl) (by kernel_rfl) (by kernel_rfl) (fun _ _ _ h => h) HSS.out (by rfl) ?_ ?_
  rotate_left
  · intro w hSw; skip; go_simp; try with_reducible rfl
  simp only [Act.put, List.getElem_toArray, List.getElem_cons_zero, List.getElem_cons_succ, List.setIfInBounds_toArray, List.set_cons_zero, List.set_cons_succ]
  refine wpAnyT_load (i := 3) (v := ?_) rfl (by kernel_rfl) (by kernel_rfl) (by kernel_rfl) (by kernel_rfl) (by kernel_rfl) (fun _ _ _ h => h) HSS.out (by rfl) ?_ ?_
  rotate_left
  · intro w hSw; have n0 := (HB.out.keep hSw).cell 4; simp only [winc, List.getElem?_toArray, List.getElem?_cons_succ, List.getElem?_cons_zero] at n0; go_simp; try with_reducible rfl
  simp only [Act.put, List.getElem_toArray, List.getElem_cons_zero, List.getElem_cons_succ, List.setIfInBounds_toArray, List.set_cons_zero, List.set_cons_succ]
  refine wpAnyT_load (i := 4) (v := ?_) rfl (by kernel_rfl) (by kernel_rfl) (by kernel_rfl) (by kernel_rfl) (by kernel_rfl) (fun _ _ _ h => h) HSS.out (by rfl) ?_ ?_
  rotate_left
  · intro w hSw; skip; go_simp; try with_reducible rfl
  simp only [Act.put, List.getElem_toArray, List.getElem_cons_zero, List.getElem_cons_succ, List.setIfInBounds_toArray, List.set_cons_zero, List.set_cons_succ]
  refine wpAnyT_load (i := 5) (v := ?_) rfl (by kernel_rfl) (by kernel_rfl) (by kernel_rfl) (by kernel_rfl) (by kernel_rfl) (fun _ _ _ h => h) HSS.out (by rfl) ?_ ?_
  rotate_left
  · intro w hSw; skip; go_simp; try with_reducible rfl
  simp only [Act.put, List.getElem_toArray, List.getElem_cons_zero, List.getElem_cons_succ, List.setIfInBounds_toArray, List.set_cons_zero, List.set_cons_succ]
  refine wpAnyT_load (i := 6) (v := ?_) rfl (by kernel_rfl) (by kernel_rfl) (by kernel_rfl) (by kernel_rfl) (by kernel_rfl) (fun _ _ _ h => h) HSS.out (by rfl) ?_ ?_
  rotate_left
  · intro w hSw; skip; go_simp; try with_reducible rfl
  simp only [Act.put, List.getElem_toArray, List.getElem_cons_zero, List.getElem_cons_succ, List.setIfInBounds_toArray, List.set_cons_zero, List.set_cons_succ]
  refine wpAnyT_load (i := 7) (v := ?_) rfl (by kernel_rfl) (by kernel_rfl) (by kernel_rfl) (by kernel_rfl) (by kernel_rfl) (fun _ _ _ h => h) HSS.out (by rfl) ?_ ?_
  rotate_left
  · intro w hSw; skip; go_simp; try with_reducible rfl
  simp only [Act.put, List.getElem_toArray, List.getElem_cons_zero, List.getElem_cons_succ, List.setIfInBounds_toArray, List.set_cons_zero, List.set_cons_succ]
  refine wpAnyT_one (i := 8) (by kernel_rfl) rfl (fun K hK => ?_)
  rw [if_pos (by rfl)]
  go_simp
  refine (wideStarted_any (hi := s.hi) (o := 2) ⟨(HB.out.keep HSS.out).cell 2, (HB.out.keep HSS.out).cell 3⟩).mono ?_
  rintro e wq ⟨rfl, rfl⟩
  go_simp
  refine hK.out _ _ (fun _ => HSS.out) ?_
  clear hK K
  simp only [Act.put, List.getElem_toArray, List.getElem_cons_zero, List.getElem_cons_succ, List.setIfInBounds_toArray, List.set_cons_zero, List.set_cons_succ]
  refine wpAnyT_load (i := 9) (v := ?_) rfl (by kernel_rfl) (by kernel_rfl) (by kernel_rfl) (by kernel_rfl) (by kernel_rfl) (fun _ _ _ h => h) HSS.out (by rfl) ?_ ?_
  rotate_left
  · intro w hSw; skip; go_simp; try with_reducible rfl
  simp only [Act.put, List.getElem_toArray, List.getElem_cons_zero, List.getElem_cons_succ, List.setIfInBounds_toArray, List.set_cons_zero, List.set_cons_succ]
  refine wpAnyT_load (i := 10) (v := ?_) rfl (by kernel_rfl) (by kernel_rfl) (by kernel_rfl) (by kernel_rfl) (by kernel_rfl) (fun _ _ _ h => h) HSS.out (by rfl) ?_ ?_
  rotate_left
  · intro w hSw; skip; go_simp; try with_reducible rfl
  simp only [Act.put, List.getElem_toArray, List.getElem_cons_zero, List.getElem_cons_succ, List.setIfInBounds_toArray, List.set_cons_zero, List.set_cons_succ]
  refine wpAnyT_done (by kernel_rfl) ?_ _
  go_wp2_with fail
  go_ret2
  exact ⟨rfl, HF0.out.trans HSS.out⟩
set_option maxRecDepth 100000 in
set_option maxHeartbeats 4000000 in
theorem wNew_any {w : World} (size wait : Int) :
    Calls Try.prog 7 #[.int .i64 size, .int .i64 wait] w fun e w' => ∃ g mb, e = .returned (.pointer (some ⟨g, 0, none⟩)) ∧ WinV w' g mb (Win.new size wait) ∧ Fr [] w w' ∧ w.heap.size ≤ g ∧ w.heap.size ≤ mb := by
  obtain ⟨w1, hw1⟩ : ∃ w1, w.alloc (.map #[] 0) = w1 := ⟨_, rfl⟩
  have hF1 : Fr [] w w1 := by rw [← hw1]; exact (Fr.refl _ _).alloc _
  have hM : MapH w1 w.heap.size (.map []) [] := by rw [← hw1]; exact MapH.made w
  have hz : w1.heap.size = w.heap.size + 1 := by rw [← hw1]; simp
  have h1 : min (max size 1) 64 = clip 1 64 size := rfl
  have h2 : min (max wait 0) 50 = clip 0 50 wait := rfl
  obtain ⟨w2, e2, hF2, hB2, hs2⟩ := one_new w1 (winc (Win.new size wait) w.heap.size) 65
  have HV : Hid (WinV w2 w1.heap.size w.heap.size (Win.new size wait)) := Lib.hid ⟨hB2, ⟨_, hM.fr hF2 (by simp)⟩, by omega⟩
  have HF := Lib.hid (hF1.trans hF2); have E1 := Lib.hid hw1; have E2 := Lib.hid e2; have HZ := Lib.hid hz
  have hmm := @run_makeMap Try.prog
  clear hF1 hM hz hF2 hB2 hs2 hw1 e2
  simp only [winc, Win.new, Option.getD_none, Option.isSome_none] at E2
  generalize clip 1 64 size = a at *
  generalize clip 0 50 wait = b at *
  go_enter Try.func7, Try.ntmps7
  go_wp2_with fail
  rw [E1.out, ← HZ.out, E2.out]
  go_ret
  exact ⟨w1.heap.size, w.heap.size, rfl, HV.out, HF.out, by have := HZ.out; omega, Nat.le_refl _⟩
end Go.Proofs.Ytbmpiemhfndnbaa

/- The walks of a window's take, move, Due (printed by gen_win3.py). -/
namespace Go.Proofs.Ytbmpiemhfndnbaa
open Go.RowKit Go.Maps

theorem delH_mem {l : List Held_} {n : Int} {o : Held_} : o ∈ delH l n ↔ o ∈ l ∧ o.n ≠ n := by unfold delH; simp
theorem ofTurned {w w' : World} {b : Nat} (h : w.mapTurned w' b) : Fr [b] w w' := by
  have := Fr.ofGrown h.grown
  simpa using this
set_option maxRecDepth 100000 in
theorem field_x (x a : Int) (w : World) : (Instr.field 69 (.agg #[.int .i64 x, .int .i64 a]) 0).run Try.prog w = .ok (.int .i64 x) w := by kernel_rfl
/-- What comes out, as cells. -/
abbrev outc (o : Held_) : Array Value := #[.int .u16 ((low16 o.n).toNat : Nat), .int .i64 o.x]
set_option maxRecDepth 100000 in
set_option maxHeartbeats 4000000 in
theorem wTake_any {w : World} {g mb : Nat} {s : Win} (h : WinV w g mb s) (hs : s.all.Pairwise fun a b => a.n < b.n) {o : Held_} (ho : o ∈ s.all) (hn : -9223372036854775808 ≤ o.n ∧ o.n < 9223372036854775808) :
    Calls Try.prog 22 #[.pointer (some ⟨g, 0, none⟩), .int .i64 o.n] w fun e w' => e = .returned (.agg (outc o)) ∧ WinV w' g mb { s with all := delH s.all o.n } ∧ Fr [mb] w w' := by
  obtain ⟨D, hD⟩ := h.map
  have hf := findH_mem hs ho
  obtain ⟨w1, e1, hF1, hB1, hs1⟩ := one_new w #[.int .u16 0, .int .i64 0] 54
  have hD1 := hD.fr hF1 (by simp)
  have hrun := hD1.run o.n hn false
  rw [hf] at hrun
  simp only [Option.map_some, Option.getD_some, Bool.false_eq_true, if_false, hv] at hrun
  have HD := Lib.hid hD1; have HB := Lib.hid (h.box.keep hF1); have HR := Lib.hid hB1; have HF := Lib.hid hF1; have E1 := Lib.hid e1
  have HLT : Hid (g < w.heap.size ∧ mb < w.heap.size ∧ g ≠ mb) := Lib.hid ⟨h.lt.1, h.lt.2, h.ne⟩
  have HS := Lib.hid hs; have HO := Lib.hid ho; have HN := Lib.hid hn
  have hlo := wrap_low16 o.n
  have x6 := HB.out.cell 6
  simp only [winc, List.getElem?_toArray, List.getElem?_cons_succ, List.getElem?_cons_zero] at x6
  have HR0 := Lib.hid hB1.lt
  clear h hD hF1 hB1 hs1 e1 hD1 hf hs ho hn
  go_enter Try.func22, Try.ntmps22
  go_upto_region 1 with fail
  rw [E1.out]
  clear E1
  have hfd := field_x o.x o.at_ w1
  go_upto_region 2 with (refine wpList_store_row rfl 54 (.tmp 5) (.tmp 15) rfl w1.heap.size rfl _ _ rfl 54 (Box.new w1 54 #[.int .u16 0, .int .i64 0]) (by kernel_rfl) rfl (by simp [Value.oneCell']) ?_; intro w2 hY hG; have hFn := ((Fr.refl [] w1).alloc _).step hG (by simp); have HFn := Lib.hid hFn; have HY := Lib.hid hY; clear hG hFn hY)
  clear hrun x6 hfd
  have HD := Lib.hid (HD.out.fr HFn.out (by simp)); have HB := Lib.hid (HB.out.keep HFn.out); have HR := Lib.hid (HR.out.keep HFn.out); have HF := Lib.hid (HF.out.trans HFn.out); have H5 := HY
  have HG5 : Hid (w.heap.size < w1.heap.size) := Lib.hid HR0.out
  clear HFn HY
  generalize hg5 : w1.heap.size = g5 at *
  clear hg5
  have x6 := HB.out.cell 6
  simp only [winc, List.getElem?_toArray, List.getElem?_cons_succ, List.getElem?_cons_zero] at x6
  go_upto_region 3 with (at_delete; refine wpList_delete_own _ rfl _ _ 61 2 rfl 69 keyI64 Try.underlying61 heldW mb s.all.length D rfl HD.out.own (.int .i64 o.n) (lkey o.n) rfl (keyOf_int_mk Try.underlying2 (lkey_wf HN.out)) ?_; intro w4 hown4 ht4; have HO4 := Lib.hid hown4; have HF4 := Lib.hid (ofTurned ht4); clear hown4 ht4)
  clear x6
  have H5 := Lib.hid (H5.out.fr HF4.out (by have := HLT.out; have := HG5.out; simp; omega)); have HR := Lib.hid (HR.out.fr HF4.out (by have := HLT.out; simp; omega)); have HB := Lib.hid (HB.out.fr HF4.out (by have := HLT.out; simp; omega))
  go_wp2_with (first | (refine wpList_load_row_w rfl 54 (.tmp 5) rfl g5 rfl 54 _ _ H5.out Try.underlying54 rfl (by kernel_rfl) ?_) | (refine wpList_store_row rfl 54 (.tmp 4) (.tmp 21) rfl w.heap.size rfl _ _ rfl 54 HR.out (by kernel_rfl) rfl (by simp [Value.oneCell']) ?_; intro w9 hY hG; have HY := Lib.hid hY; have HGn := Lib.hid hG; clear hY hG))
  refine bodyPost_ret (results_cell_row rfl _ _ w.heap.size 54 _ (0, 0) _ rfl HY.out Try.underlying54 rfl (by kernel_rfl)) rfl ⟨rfl, ⟨?_, ⟨_, (HD.out.del HS.out HO4.out).fr HGn.out (by have := HLT.out; simp; omega)⟩, HLT.out.2.2⟩, ?_⟩
  · exact HB.out.fr HGn.out (by have := HLT.out; simp; omega)
  · exact (((HF.out.any).trans HF4.out)).step HGn.out (by simp)
/-- What is reckoned so far of what is due: the entries that are no longer to come. -/
structure DueOk (all : List Held_) (wait init : Int) (left : Lit → Bool) (d : Int) : Prop where
  le : ∀ o ∈ all, left (lkey o.n) = false → d ≤ o.at_ + wait
  is : d = init ∨ ∃ o ∈ all, d = o.at_ + wait
theorem DueOk.step {all : List Held_} {wait init : Int} {left : Lit → Bool} {d : Int} (h : DueOk all wait init left d) {o : Held_} (ho : o ∈ all) (hs : all.Pairwise fun a b => a.n < b.n) :
    DueOk all wait init (fun z => left z && !z.sameKey (lkey o.n)) (min d (o.at_ + wait)) := by
  refine ⟨fun p hp hl => ?_, ?_⟩
  · by_cases e : p.n = o.n
    · have h1 := findH_mem hs hp
      have h2 := findH_mem hs ho
      rw [e, h2] at h1
      cases h1
      omega
    · have h3 : (lkey p.n).sameKey (lkey o.n) = false := sameKey_ne (lkey_ne e)
      simp only [h3, Bool.not_false, Bool.and_true] at hl
      have := h.le p hp hl
      omega
  · rcases h.is with h1 | ⟨p, hp, h1⟩
    · by_cases e : d ≤ o.at_ + wait
      · exact .inl (by omega)
      · exact .inr ⟨o, ho, by omega⟩
    · by_cases e : d ≤ o.at_ + wait
      · exact .inr ⟨p, hp, by omega⟩
      · exact .inr ⟨o, ho, by omega⟩
theorem DueOk.done {all : List Held_} {wait init : Int} {left : Lit → Bool} {d : Int} (h : DueOk all wait init left d) (hl : ∀ kl, left kl = false) (hi : ∀ o ∈ all, o.at_ + wait ≤ init) (hne : all ≠ []) : dueL wait all = some d := by
  have h1 : ∀ o ∈ all, d ≤ o.at_ + wait := fun o ho => h.le o ho (hl _)
  refine dueL_of h1 ?_
  rcases h.is with h2 | h2
  · cases all with
    | nil => exact absurd rfl hne
    | cons o l => exact ⟨o, by simp, by have := h1 o (by simp); have := hi o (by simp); omega⟩
  · exact h2
theorem Fr.ranges {k : TypeId} {R : Value → Option (DataW Value × List MemPlace)} {w w' : World} {b r n cnt : Nat} {D : DataW Value} {left : Lit → Bool} {S : List Nat} (hf : Fr S w w') (h : w.ranges Try.prog k R b r n D left cnt) (hb : b ∉ S) (hr : r ∉ S) : w'.ranges Try.prog k R b r n D left cnt := by
  have h1 := h.owns.lt; have h2 := h.lt
  obtain ⟨es, clock, since, seen, c0, g1, g2, g3, g4, g5, g6⟩ := h
  exact ⟨es, clock, since, seen, c0, (hf.block b h1 hb).trans g1, g2, g3, g4, (hf.block r h2 hr).trans g5, g6⟩
theorem heldW_inv (v : Value) (y : DataW Value × List MemPlace) (h : heldW v = some y) : ∃ c, v = id c := ⟨v, rfl⟩
theorem key_inv (key : Value) (kl : Lit) (h : keyOf Try.prog 2 key = some kl) : ∃ x, key = Value.int .i64 x := by
  obtain ⟨x, hx, -, -⟩ := Maps.keyOf_i64 Try.underlying2 h
  exact ⟨x, hx⟩
/-- An entry that comes is a thing that is held. -/
theorem MapH.entry {w : World} {b : Nat} {D : DataW Value} {l : List Held_} (h : MapH w b D l) {x : Int} {c : Value} {kl : Lit} {y : DataW Value × List MemPlace} (hk : keyOf Try.prog 2 (.int .i64 x) = some kl) (hR : heldW c = some y) (hat : ∀ zd, D.atKey kl zd = y.1) : ∃ o ∈ l, kl = lkey o.n ∧ c = hv o := by
  obtain ⟨x', hx, hkl, -⟩ := Maps.keyOf_i64 Try.underlying2 hk
  cases hx
  cases hR
  have hl := h.look x
  have hkl2 : kl = lkey x := hkl
  subst hkl2
  cases hf : findH l x with
  | none => rw [hf] at hl; have := (hat .nil).symm.trans (hl .nil); cases this
  | some o =>
    rw [hf] at hl
    have h1 := (hat .nil).symm.trans (hl .nil)
    obtain ⟨ho, hn⟩ := findH_some hf
    injection h1 with h1
    exact ⟨o, ho, by rw [hn], h1⟩
set_option maxRecDepth 100000 in
set_option maxHeartbeats 4000000 in
theorem wDue_any {w : World} {g mb c : Nat} {s : Win} (h : WinV w g mb s) (hi : WInv c s) :
    Calls Try.prog 13 #[.pointer (some ⟨g, 0, none⟩)] w fun e w' => e = .returned (.tuple #[.int .i64 ((dueL s.wait s.all).getD 0), .bool (dueL s.wait s.all).isSome]) ∧ Fr [] w w' := by
  obtain ⟨D, hD⟩ := h.map
  have HD := Lib.hid hD; have HB := Lib.hid h.box; have HI := Lib.hid hi
  have HLT := Lib.hid h.lt
  have hwt := hi.wait
  clear h hD hi
  have x6 := HB.out.cell 6
  simp only [winc, List.getElem?_toArray, List.getElem?_cons_succ, List.getElem?_cons_zero] at x6
  go_enter Try.func13, Try.ntmps13
  go_upto_region 3 with (at_range; refine wpList_range_own _ rfl _ 61 rfl 2 69 keyI64 Try.underlying61 heldW mb s.all.length D rfl HD.out.own ?_; intro w0 hrg0 hg0 hs0; have HRG := Lib.hid hrg0; have HF0 := Lib.hid (show Fr [] w w0 by have := Fr.ofGrown hg0; simpa using this); clear hrg0 hg0 hs0)
  go_frame
  clear x6
  generalize hr : w.heap.size = r at *
  have HR := Lib.hid hr
  clear hr
  go_loopw [4] (fun dv wr => ∃ (left : Lit → Bool) (cnt : Nat) (d : Int), dv = .int .i64 d ∧ wr.ranges Try.prog 2 heldW mb r s.all.length D left cnt ∧ DueOk s.all s.wait 1099511627826 left d ∧ -1099511627826 ≤ d ∧ d ≤ 1099511627826 ∧ Fr [] w wr) (fun _ wr => wr.rangeLeft mb r)
  case atStart => exact ⟨_, _, _, rfl, HRG.out, ⟨(fun o ho hl => by rw [HD.out.has, findH_mem HI.out.sorted ho] at hl; cases hl), .inl rfl⟩, by omega, by omega, HF0.out⟩
  case round =>
    clear HRG HF0
    obtain ⟨left, cnt, d, rfl, hrg, hdu, hd1, hd2, hF⟩ := hrel
    have HRG := Lib.hid hrg; have HDU := Lib.hid hdu; have HF := Lib.hid hF
    clear hrg hdu hF
    go_upto_region 4 with (at_next; refine wpList_next_ranges (α := Int) (β := Value) _ rfl _ rfl 2 keyI64 heldW (Value.int .i64) id key_inv heldW_inv mb r s.all.length D left cnt rfl HRG.out ?_ ?_)
    · intro hc0 hl0
      have HL0 := Lib.hid hl0
      clear hl0 hc0
      have x6 := (HB.out.keep HF.out).cell 6
      simp only [winc, List.getElem?_toArray, List.getElem?_cons_succ, List.getElem?_cons_zero] at x6
      by_cases he : s.all = []
      · have HE := Lib.hid he
        have hz : ((Maps.size D : Int) == 0) = true := by rw [HD.out.size, he]; rfl
        clear he
        go_wp2_with (at_len; refine wpList_len_own _ rfl _ 61 rfl 2 69 Try.underlying61 heldW mb s.all.length D rfl HRG.out.owns ?_)
        go_ret2
        rw [HE.out]
        exact ⟨rfl, HF.out⟩
      · have HDD := Lib.hid (HDU.out.done HL0.out (fun o ho => by have := (HI.out.time o ho).2; have := HI.out.now.2; omega) he)
        have hz : ((Maps.size D : Int) == 0) = false := by rw [HD.out.size]; have := List.length_pos_iff.2 he; exact beq_eq_false_iff_ne.2 (by omega)
        clear he
        go_wp2_with (at_len; refine wpList_len_own _ rfl _ 61 rfl 2 69 Try.underlying61 heldW mb s.all.length D rfl HRG.out.owns ?_)
        go_ret2
        rw [HDD.out]
        exact ⟨rfl, HF.out⟩
    · intro x v kl y1 y2 w1 cnt1 hk hlk hR hat hrg1 hlt hg1 hs1 hen
      obtain ⟨o, ho, rfl, rfl⟩ := HD.out.entry (y := (y1, y2)) hk hR hat
      have hot := HI.out.time o ho
      have hnw := HI.out.now
      have HO := Lib.hid ho; have HRG1 := Lib.hid hrg1; have HEN := Lib.hid hen
      have hG1 : Fr [r] w w1 := (HF.out.any).trans (by have := Fr.ofGrown hg1; simpa using this)
      have HF1 : Hid (Fr [] w w1) := Lib.hid ⟨hG1.os, hG1.tape, hG1.output, hG1.size, fun k hk _ => hG1.block k hk (by have := HR.out; simp; omega)⟩
      have HLC := Lib.hid hlt
      clear hk hlk hR hat hrg1 hlt hg1 hs1 hG1
      simp only [id_eq, hv] at hen
      go_upto_region 5 with (refine wpList_store_row rfl 69 (.tmp 6) (.tmp 15) rfl w1.heap.size rfl _ _ rfl 69 (Box.new w1 69 #[.int .i64 0, .int .i64 0]) (by kernel_rfl) rfl (by simp [Value.oneCell']) ?_; intro w2 hY hG; have hFn := ((Fr.refl [] w1).alloc _).step hG (by simp); have HFn := Lib.hid hFn; have HY := Lib.hid hY; clear hG hFn hY)
      go_frame
      have HRG1 := Lib.hid (Fr.ranges HFn.out HRG1.out (by simp) (by simp)); have HF1 := Lib.hid (HF1.out.trans HFn.out)
      clear HFn hen HEN
      generalize hg6 : w1.heap.size = g6 at *
      clear hg6
      have hwr : IntKind.i64.wrap (o.at_ + s.wait) = o.at_ + s.wait := IntWalk.i64_in _ (by omega)
      go_upto_region 5 with fail
      refine wp_region_T (fun w' => Fr [] w2.drew w') [] 10 #[false, false, false, false, false, false, false, false, false, false] (by kernel_rfl) rfl rfl ?_
      try simp only [List.append_eq, List.cons_append, List.nil_append]
      have hF := (Fr.refl [] w2).drew
      have HF1 := Lib.hid (HF1.out.trans hF)
      have HY := Lib.hid (HY.out.keep hF)
      have HRG1 := Lib.hid (Fr.ranges hF HRG1.out (by simp) (by simp))
      clear hF
      have HSS : Hid (Fr [] w2.drew w2.drew) := Lib.hid (Fr.refl _ _)
      generalize w2.drew = wd at *
      refine wpAnyT_load (i := 0) (v := ?_) rfl (by kernel_rfl) (by kernel_rfl) (by kernel_rfl) (by kernel_rfl) (by kernel_rfl) (fun _ _ _ h => h) HSS.out (by rfl) ?_ ?_
      rotate_left
      · intro w hSw; skip; go_simp; try with_reducible rfl
      simp only [Act.put, List.getElem_toArray, List.getElem_cons_zero, List.getElem_cons_succ, List.setIfInBounds_toArray, List.set_cons_zero, List.set_cons_succ]
      refine wpAnyT_load (i := 1) (v := ?_) rfl (by kernel_rfl) (by kernel_rfl) (by kernel_rfl) (by kernel_rfl) (by kernel_rfl) (fun _ _ _ h => h) HSS.out (by rfl) ?_ ?_
      rotate_left
      · intro w hSw; skip; go_simp; try with_reducible rfl
      simp only [Act.put, List.getElem_toArray, List.getElem_cons_zero, List.getElem_cons_succ, List.setIfInBounds_toArray, List.set_cons_zero, List.set_cons_succ]
      refine wpAnyT_load (i := 2) (v := ?_) rfl (by kernel_rfl) (by kernel_rfl) (by kernel_rfl) (by kernel_rfl) (by kernel_rfl) (fun _ _ _ h => h) HSS.out (by rfl) ?_ ?_
      rotate_left
      · intro w hSw; have n0 := (HY.out.keep hSw).cell 1; simp only [List.getElem?_toArray, List.getElem?_cons_succ, List.getElem?_cons_zero] at n0; go_simp; try with_reducible rfl
      simp only [Act.put, List.getElem_toArray, List.getElem_cons_zero, List.getElem_cons_succ, List.setIfInBounds_toArray, List.set_cons_zero, List.set_cons_succ]
      refine wpAnyT_load (i := 3) (v := ?_) rfl (by kernel_rfl) (by kernel_rfl) (by kernel_rfl) (by kernel_rfl) (by kernel_rfl) (fun _ _ _ h => h) HSS.out (by rfl) ?_ ?_
      rotate_left
      · intro w hSw; skip; go_simp; try with_reducible rfl
      simp only [Act.put, List.getElem_toArray, List.getElem_cons_zero, List.getElem_cons_succ, List.setIfInBounds_toArray, List.set_cons_zero, List.set_cons_succ]
      refine wpAnyT_load (i := 4) (v := ?_) rfl (by kernel_rfl) (by kernel_rfl) (by kernel_rfl) (by kernel_rfl) (by kernel_rfl) (fun _ _ _ h => h) HSS.out (by rfl) ?_ ?_
      rotate_left
      · intro w hSw; skip; go_simp; try with_reducible rfl
      simp only [Act.put, List.getElem_toArray, List.getElem_cons_zero, List.getElem_cons_succ, List.setIfInBounds_toArray, List.set_cons_zero, List.set_cons_succ]
      refine wpAnyT_load (i := 5) (v := ?_) rfl (by kernel_rfl) (by kernel_rfl) (by kernel_rfl) (by kernel_rfl) (by kernel_rfl) (fun _ _ _ h => h) HSS.out (by rfl) ?_ ?_
      rotate_left
      · intro w hSw; skip; go_simp; try with_reducible rfl
      simp only [Act.put, List.getElem_toArray, List.getElem_cons_zero, List.getElem_cons_succ, List.setIfInBounds_toArray, List.set_cons_zero, List.set_cons_succ]
      refine wpAnyT_load (i := 6) (v := ?_) rfl (by kernel_rfl) (by kernel_rfl) (by kernel_rfl) (by kernel_rfl) (by kernel_rfl) (fun _ _ _ h => h) HSS.out (by rfl) ?_ ?_
      rotate_left
      · intro w hSw; have n0 := ((HB.out.keep HF1.out).keep hSw).cell 1; simp only [winc, List.getElem?_toArray, List.getElem?_cons_succ, List.getElem?_cons_zero] at n0; go_simp; try with_reducible rfl
      simp only [Act.put, List.getElem_toArray, List.getElem_cons_zero, List.getElem_cons_succ, List.setIfInBounds_toArray, List.set_cons_zero, List.set_cons_succ]
      refine wpAnyT_load (i := 7) (v := ?_) rfl (by kernel_rfl) (by kernel_rfl) (by kernel_rfl) (by kernel_rfl) (by kernel_rfl) (fun _ _ _ h => h) HSS.out (by rfl) ?_ ?_
      rotate_left
      · intro w hSw; skip; go_simp; try with_reducible rfl
      simp only [Act.put, List.getElem_toArray, List.getElem_cons_zero, List.getElem_cons_succ, List.setIfInBounds_toArray, List.set_cons_zero, List.set_cons_succ]
      refine wpAnyT_one (i := 8) (by kernel_rfl) rfl (fun K hK => ?_)
      rw [if_pos (by rfl)]
      go_simp
      refine hK.out _ _ (fun _ => HSS.out) ?_
      clear hK K
      simp only [Act.put, List.getElem_toArray, List.getElem_cons_zero, List.getElem_cons_succ, List.setIfInBounds_toArray, List.set_cons_zero, List.set_cons_succ]
      refine wpAnyT_load (i := 9) (v := ?_) rfl (by kernel_rfl) (by kernel_rfl) (by kernel_rfl) (by kernel_rfl) (by kernel_rfl) (fun _ _ _ h => h) HSS.out (by rfl) ?_ ?_
      rotate_left
      · intro w hSw; skip; go_simp; try with_reducible rfl
      simp only [Act.put, List.getElem_toArray, List.getElem_cons_zero, List.getElem_cons_succ, List.setIfInBounds_toArray, List.set_cons_zero, List.set_cons_succ]
      refine wpAnyT_done (by kernel_rfl) ?_ _
      have hF := HSS.out
      have HRG1 := Lib.hid (Fr.ranges hF HRG1.out (by simp) (by simp)); have HF1 := Lib.hid (HF1.out.trans hF)
      clear hF HSS
      go_wp2_with fail
      go_roundw
      case rel => exact ⟨_, _, min d (o.at_ + s.wait), rfl, HRG1.out, HDU.out.step HO.out HI.out.sorted, by omega, by omega, HF1.out⟩
      case measure => rw [HRG1.out.left_eq, HRG.out.left_eq]; exact HLC.out
end Go.Proofs.Ytbmpiemhfndnbaa
