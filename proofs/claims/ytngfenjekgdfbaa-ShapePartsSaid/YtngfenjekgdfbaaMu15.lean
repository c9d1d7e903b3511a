import Derived.Maps.OwnSet
import Derived.Test.YtngfenjekgdfbaaMu13
import Derived.Test.YtngfenjekgdfbaaMu7
/- The walks of equate.set, open (printed by gen_sh11.py). -/
namespace Go.Proofs.Ytngfenjekgdfbaa
open Go.RowKit Go.Maps

/-- A set of ints of a call's own. -/
abbrev SetI (w : World) (b n : Nat) (ks : List Int) : Prop := w.ownsMap Try.prog 3 (plainElem (H := Unit) Try.prog 4) b n (seenD ks)
theorem In64.wf {x : Int} (h : In64 x) : (Lit.int .i64 x).wf = true := WalkArith.wf_i64 ⟨h.1, by have := h.2; omega⟩
theorem SetI.fr {w w' : World} {S : List Nat} {b n : Nat} {ks : List Int} (h : SetI w b n ks) (hf : Fr S w w') (hb : b ∉ S) : SetI w' b n ks := Fr.ownsMap hf h hb
theorem Fr.ofGrownB {w w' : World} {b : Nat} (h : w.grownBy w' (some b)) : Fr [b] w w' := (Fr.refl [b] w).grown h (fun r hr => by cases hr; exact .inl (by simp))
theorem SetI.lt {w : World} {b n : Nat} {ks : List Int} (h : SetI w b n ks) : b < w.heap.size := World.ownsMap.lt h
set_option maxRecDepth 100000 in
set_option maxHeartbeats 4000000 in
theorem qSet_any {w : World} {v : Value} {xs : List Int} (h : Ints w v xs) (hi : ∀ x ∈ xs, In64 x) (hz : xs.length ≤ 1073741824) :
    Calls Try.prog 50 #[v] w fun e w' => ∃ b, e = .returned (.map (some b)) ∧ w.heap.size ≤ b ∧ SetI w' b xs.length xs ∧ Fr [] w w' := by
  obtain ⟨a, c, rfl⟩ := h.shape
  obtain ⟨w1, hw1⟩ : ∃ w1, w.alloc (.map #[] 0) = w1 := ⟨_, rfl⟩
  have hF1 : Fr [] w w1 := by rw [← hw1]; exact (Fr.refl _ _).alloc _
  have hM1 : SetI w1 w.heap.size 0 [] := by rw [← hw1]; exact World.ownsMap_made _ _ _ _
  have E1 := Lib.hid hw1; have HM := Lib.hid hM1; have HF := Lib.hid hF1
  have HL := Lib.hid h; have HI := Lib.hid hi
  have hmm := @run_makeMap Try.prog
  clear hw1 hF1 hM1 h hi
  go_enter Try.func50, Try.ntmps50
  go_upto_region 2 with fail
  rw [E1.out]
  clear E1 hmm
  obtain ⟨mb, hmb⟩ : ∃ mb, w.heap.size = mb := ⟨_, rfl⟩
  have HMB := Lib.hid hmb
  rw [hmb] at HM ⊢
  clear hmb
  go_upto_region 3 with fail
  go_loopw [9] (fun iv wr => ∃ j : Nat, j ≤ xs.length ∧ iv = .int .i64 j ∧ SetI wr mb j (xs.take j) ∧ Fr [] w wr) (fun iv _ => xs.length - (intOf iv).toNat)
  case atStart => exact ⟨0, by omega, rfl, HM.out, HF.out⟩
  case round =>
    clear HM HF
    obtain ⟨j, hj, rfl, hM, hF⟩ := hrel
    have HM := Lib.hid hM; have HF := Lib.hid hF
    clear hM hF
    by_cases hlt : j < xs.length
    · obtain ⟨b, o, ea, hb, -⟩ := Sl.at_ HL.out hlt
      subst ea
      have d := HF.out.cellSome (Ints.at_ HL.out j hlt) (by simp)
      have HT : Hid (xs.take (j + 1) = xs.take j ++ [xs[j]]) := Lib.hid (List.take_succ_eq_append_getElem hlt)
      have HW : Hid ((Lit.int .i64 xs[j]).wf = true) := Lib.hid (HI.out _ (List.getElem_mem hlt)).wf
      generalize xs[j] = y at *
      have HKM : Hid (j < maxLen) := Lib.hid (by unfold maxLen; omega)
      have HSD : Hid (seenD (xs.take (j + 1)) = (seenD (xs.take j)).put (.int .i64 y) (.lit (.bool true))) := Lib.hid (by rw [HT.out, seenD_snoc])
      go_wp2_with (at_mapUpdate; refine wpList_mapUpdate_own _ rfl _ _ _ 67 rfl 3 4 keyInt Try.underlying67 _ mb j (seenD (xs.take j)) rfl HM.out HKM.out (.int .i64 y) (.bool true) (.int .i64 y) rfl rfl (keyOf_int_mk Try.underlying3 HW.out) (.lit (.bool true)) [] (plainElem_bool Try.underlying4 true) ?_; intro w3 hm3 hg3; have HM3 := Lib.hid hm3; have HG3 := Lib.hid hg3; clear hm3 hg3)
      exact ⟨⟨j + 1, by omega, by go_num, (by unfold SetI; rw [HSD.out]; exact HM3.out), HF.out.grown HG3.out (fun r hr => by cases hr; exact .inr (by rw [HMB.out]; exact Nat.le_refl _))⟩, by simp [intOf]; omega⟩
    · obtain rfl : j = xs.length := by omega
      have HME : Hid (SetI wr mb xs.length xs) := Lib.hid (by have := HM.out; rw [List.take_length] at this; exact this)
      go_wp2_with fail
      go_ret
      exact ⟨mb, rfl, Nat.le_of_eq HMB.out, HME.out, HF.out⟩
set_option maxRecDepth 100000 in
set_option maxHeartbeats 4000000 in
theorem qOpen_any {w : World} {kb kn : Nat} {ks : List Int} {v : Value} {eq : List Int} (hk : SetI w kb kn ks) (h : Ints w v eq) (hi : ∀ x ∈ eq, In64 x) (hz : eq.length ≤ 1073741824) :
    Calls Try.prog 75 #[.map (some kb), v] w fun e w' => ∃ v', e = .returned v' ∧ OwnV w' w.heap.size 3 (Value.int .i64) v' (openI ks eq) ∧ Fr [] w w' := by
  obtain ⟨a, c, rfl⟩ := h.shape
  obtain ⟨w1, hw1⟩ : ∃ w1, w.alloc (.map #[] 0) = w1 := ⟨_, rfl⟩
  have hF1 : Fr [] w w1 := by rw [← hw1]; exact (Fr.refl _ _).alloc _
  have hM1 : SetI w1 w.heap.size 0 [] := by rw [← hw1]; exact World.ownsMap_made _ _ _ _
  have E1 := Lib.hid hw1; have HM := Lib.hid hM1; have HF := Lib.hid hF1
  have HL := Lib.hid h; have HI := Lib.hid hi; have HK := Lib.hid hk
  have HKL : Hid (kb < w.heap.size) := Lib.hid hk.lt
  have hmm := @run_makeMap Try.prog
  clear hw1 hF1 hM1 h hi hk
  go_enter Try.func75, Try.ntmps75
  go_upto_region 3 with fail
  rw [E1.out]
  have HW1 : Hid (w1.heap.size = w.heap.size + 1) := Lib.hid (by rw [← E1.out]; simp)
  clear E1 hmm
  obtain ⟨mb, hmb⟩ : ∃ mb, w.heap.size = mb := ⟨_, rfl⟩
  have HMB := Lib.hid hmb
  rw [hmb] at HM ⊢
  clear hmb
  go_upto_region 4 with fail
  go_loopw [5, 12] (fun ov iv wr => ∃ (j : Nat) (ys : List Int), j ≤ eq.length ∧ iv = .int .i64 j ∧ ys = openI ks (eq.take j) ∧ OwnV wr w1.heap.size 3 (Value.int .i64) ov ys ∧ SetI wr mb j (eq.take j) ∧ Fr [mb] w1 wr) (fun _ iv _ => eq.length - (intOf iv).toNat)
  case atStart => exact ⟨0, [], by omega, rfl, rfl, OwnV.nil _ _ _ _, HM.out, Fr.refl _ _⟩
  case round =>
    clear HM
    obtain ⟨j, ys, hj, rfl, hys, hO, hM, hF⟩ := hrel
    obtain ⟨ao, co, rfl⟩ := hO.shape
    have HLO : Hid (ys.length ≤ 1099511627776) := Lib.hid (by have := open_len ks (eq.take j); rw [← hys, List.length_take] at this; omega)
    have HYS := Lib.hid hys; have HO := Lib.hid hO; have HM := Lib.hid hM; have HFQ := Lib.hid hF
    have HF : Hid (Fr [] w wr) := Lib.hid (HF.out.step hF (fun x hx => .inr (by simp at hx; have := HMB.out; omega)))
    clear hys hO hM hF
    by_cases hlt : j < eq.length
    · obtain ⟨b, o, ea, hb, -⟩ := Sl.at_ HL.out hlt
      subst ea
      have d := HF.out.cellSome (Ints.at_ HL.out j hlt) (by simp)
      have HT : Hid (eq.take (j + 1) = eq.take j ++ [eq[j]]) := Lib.hid (List.take_succ_eq_append_getElem hlt)
      have HW : Hid ((Lit.int .i64 eq[j]).wf = true) := Lib.hid (HI.out _ (List.getElem_mem hlt)).wf
      generalize eq[j] = y at *
      have HKM : Hid (j < maxLen) := Lib.hid (by unfold maxLen; omega)
      have HSD : Hid (seenD (eq.take (j + 1)) = (seenD (eq.take j)).put (.int .i64 y) (.lit (.bool true))) := Lib.hid (by rw [HT.out, seenD_snoc])
      have HSN := Lib.hid (open_snoc ks (eq.take j) y)
      rw [← HT.out, ← HYS.out] at HSN
      have hrun1 := seen_run ((HK.out).fr HF.out (by simp)) HW.out
      have hrun2 := seen_run HM.out HW.out
      have HOB : Hid (∀ b, blockOf (.slice ao ys.length co) = some b → b ≠ mb) := Lib.hid (fun b hb e => by have h1 := (HO.out.block b hb).1; have h2 := HW1.out; have h3 := HMB.out; omega)
      by_cases hc1 : y ∈ ks
      · rw [decide_eq_true hc1] at hrun1
        rw [List.contains_iff_mem.2 hc1, Bool.true_or, if_pos rfl] at HSN
        clear hc1
        obtain ⟨w9, hup, hm9, hg9⟩ := World.ownsMap.update HM.out keyInt Try.underlying67 HKM.out (key := .int .i64 y) (val := .bool true) (keyOf_int_mk Try.underlying3 HW.out) (plainElem_bool Try.underlying4 true)
        have HM9 := Lib.hid hm9; have HG9 := Lib.hid (Fr.ofGrownB hg9)
        clear hm9 hg9
        go_wp2_with fail
        exact ⟨⟨j + 1, ys, by omega, by go_num, HSN.out.symm, Own.fr HO.out HG9.out (fun b hb hm => HOB.out b hb (by simpa using hm)), (by unfold SetI; rw [HSD.out]; exact HM9.out), HFQ.out.trans HG9.out⟩, by simp [intOf]; omega⟩
      · have hcb : ks.contains y = false := by rw [← Bool.not_eq_true, List.contains_iff_mem]; exact hc1
        rw [decide_eq_false hc1] at hrun1
        rw [hcb, Bool.false_or] at HSN
        have HOM : Hid (y ∈ ys ↔ y ∈ eq.take j) := Lib.hid (by rw [HYS.out, mem_open]; exact ⟨fun h => h.1, fun h => ⟨h, hc1⟩⟩)
        clear hc1 hcb
        by_cases hc2 : y ∈ eq.take j
        · rw [decide_eq_true hc2] at hrun2
          rw [List.contains_iff_mem.2 (HOM.out.2 hc2), if_pos rfl] at HSN
          clear hc2
          obtain ⟨w9, hup, hm9, hg9⟩ := World.ownsMap.update HM.out keyInt Try.underlying67 HKM.out (key := .int .i64 y) (val := .bool true) (keyOf_int_mk Try.underlying3 HW.out) (plainElem_bool Try.underlying4 true)
          have HM9 := Lib.hid hm9; have HG9 := Lib.hid (Fr.ofGrownB hg9)
          clear hm9 hg9
          go_wp2_with fail
          exact ⟨⟨j + 1, ys, by omega, by go_num, HSN.out.symm, Own.fr HO.out HG9.out (fun b hb hm => HOB.out b hb (by simpa using hm)), (by unfold SetI; rw [HSD.out]; exact HM9.out), HFQ.out.trans HG9.out⟩, by simp [intOf]; omega⟩
        · have hcb : ys.contains y = false := by rw [← Bool.not_eq_true, List.contains_iff_mem]; exact fun h => hc2 (HOM.out.1 h)
          rw [decide_eq_false hc2] at hrun2
          rw [hcb, if_neg (by simp)] at HSN
          clear hc2 hcb
          have A0 : Hid ((wr.alloc (.cells #[Value.int .i64 y] 3)).ownsRow w1.heap.size 3 1 (.slice ao (ys).length co) (ys).length ((ys).map (Value.int .i64))) := Lib.hid (Own.keep HO.out ((Fr.refl [] wr).alloc _))
          have A1 : Hid ((ys).length + [Value.int .i64 y].length ≤ maxLen) := Lib.hid (by have := HLO.out; unfold maxLen; simp only [List.length_singleton]; omega)
          have A2 : Hid (((ys).length + [Value.int .i64 y].length) * 8 ≤ 140737488355328) := Lib.hid (by have := HLO.out; simp only [List.length_singleton]; omega)
          have A3 : Hid (Sl (wr.alloc (.cells #[Value.int .i64 y] 3)) (.slice (some ⟨wr.heap.size, 0, none⟩) 1 1) [Value.int .i64 y]) := Lib.hid (Sl.one wr _ _)
          have A4 : Hid (w1.heap.size ≤ (wr.alloc (.cells #[Value.int .i64 y] 3)).heap.size) := Lib.hid (by have := HFQ.out.size; simp; omega)
          go_upto_region 8 with (at_builtin; refine wpList_append_slf rfl (.tmp 26) (.tmp 28) 33 rfl w1.heap.size 3 (.int .i64 0) 8 Try.underlying33 info_int rfl (.slice ao (ys).length co) (ys).length ((ys).map (Value.int .i64)) rfl A0.out (.slice (some ⟨wr.heap.size, 0, none⟩) 1 1) [Value.int .i64 y] rfl A3.out (by simp [Value.oneCell']) A1.out A2.out A4.out ?_; intro v3 w3 ho hg hfr; have HO3 := Lib.hid ho; have HG := Lib.hid hg; have HBL := Lib.hid hfr; clear ho hg hfr)
          have HN : Hid (OwnV w3 w1.heap.size 3 (Value.int .i64) v3 (ys ++ [y])) := Lib.hid (by
            have := HO3.out
            unfold OwnV
            rw [List.map_append, List.length_append]
            exact this)
          have HF3 : Hid (Fr [mb] w1 w3) := Lib.hid ((HFQ.out.alloc _).step HG.out (fun x hx => .inr (HO.out.block x (by simpa using hx)).1))
          have HOB2 : Hid (mb ∉ (blockOf (.slice ao ys.length co)).toList) := Lib.hid (fun hm => HOB.out mb (mem_toList.1 hm) rfl)
          have HM3 : Hid (SetI w3 mb j (eq.take j)) := Lib.hid ((HM.out.fr ((Fr.refl [] wr).alloc _) (by simp)).fr HG.out HOB2.out)
          obtain ⟨w9, hup, hm9, hg9⟩ := World.ownsMap.update HM3.out keyInt Try.underlying67 HKM.out (key := .int .i64 y) (val := .bool true) (keyOf_int_mk Try.underlying3 HW.out) (plainElem_bool Try.underlying4 true)
          have HM9 := Lib.hid hm9; have HG9 := Lib.hid (Fr.ofGrownB hg9)
          have HNB : Hid (∀ b, blockOf v3 = some b → b ≠ mb) := Lib.hid (fun b hb e => by have h1 := (HN.out.block b hb).1; have h2 := HW1.out; have h3 := HMB.out; omega)
          clear hm9 hg9 hrun1 hrun2
          go_wp2_with fail
          exact ⟨⟨j + 1, ys ++ [y], by omega, by go_num, HSN.out.symm, Own.fr HN.out HG9.out (fun b hb hm => HNB.out b hb (by simpa using hm)), (by unfold SetI; rw [HSD.out]; exact HM9.out), HF3.out.trans HG9.out⟩, by simp [intOf]; omega⟩
    · have HE : Hid (ys = openI ks eq) := Lib.hid (by rw [HYS.out, List.take_of_length_le (by omega)])
      go_wp2_with fail
      go_ret
      exact ⟨_, rfl, by rw [← HE.out]; exact HO.out.mono (by have h1 := HW1.out; have h2 := HMB.out; omega), HF.out⟩
end Go.Proofs.Ytngfenjekgdfbaa
