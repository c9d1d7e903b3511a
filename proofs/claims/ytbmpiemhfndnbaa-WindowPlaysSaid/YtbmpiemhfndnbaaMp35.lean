import Derived.Test.YtbmpiemhfndnbaaMp34
import Derived.Test.YtbmpiemhfndnbaaMp28
/- The walks of a window's move, Put (printed by gen_win4.py). -/
namespace Go.Proofs.Ytbmpiemhfndnbaa
open Go.RowKit Go.Maps

/-- What comes out, as cells of a slice. -/
def OutR (_ : World) (c : List Value) (o : Held_) (B : List Nat) : Prop := c = (outc o).toList ∧ B = []
theorem Rep.out : Rep 2 OutR where
  len := by rintro w c y B ⟨rfl, -⟩; rfl
  one := by
    rintro w c y B ⟨rfl, -⟩ u hu
    simp at hu
    rcases hu with rfl | rfl <;> rfl
  lt := by rintro w c y B ⟨-, rfl⟩ b hb; cases hb
  fr := by rintro w w' c y B S h _ _; exact h
set_option maxRecDepth 100000 in
theorem info_out : (Try.prog.info? 54).map (fun i => (i.zero, i.size, i.bytes)) = some (some (.agg #[.int .u16 0, .int .i64 0]), 2, 16) := by kernel_rfl
theorem oldL_next {l : List Held_} (hs : l.Pairwise fun a b => a.n < b.n) {k : Nat} (hk : k < l.length) (p : Held_ → Bool) : delH ((l.take k).filter p ++ l.drop k) l[k].n = (l.take k).filter p ++ l.drop (k + 1) := by
  have h1 : ∀ o ∈ l.take k, o.n < l[k].n := fun o ho => by
    obtain ⟨i, hi, rfl⟩ := List.getElem_of_mem ho
    rw [List.getElem_take]
    rw [List.length_take] at hi
    exact List.pairwise_iff_getElem.1 hs i k (by omega) hk (by omega)
  have h2 : ∀ o ∈ l.drop (k + 1), l[k].n < o.n := fun o ho => by
    obtain ⟨i, hi, rfl⟩ := List.getElem_of_mem ho
    rw [List.getElem_drop]
    rw [List.length_drop] at hi
    exact List.pairwise_iff_getElem.1 hs k (k + 1 + i) hk (by omega) (by omega)
  unfold delH
  rw [← List.getElem_cons_drop hk, List.filter_append, List.filter_cons_of_neg (by simp)]
  congr 1
  · rw [List.filter_eq_self]
    intro o ho
    have := h1 o (List.mem_filter.1 ho).1
    simp
    omega
  · rw [List.filter_eq_self]
    intro o ho
    have := h2 o ho
    simp
    omega
theorem sub_sorted {l : List Held_} (hs : l.Pairwise fun a b => a.n < b.n) (k : Nat) (p : Held_ → Bool) : ((l.take k).filter p ++ l.drop k).Pairwise fun a b => a.n < b.n := by
  rw [← List.take_append_drop k l] at hs
  obtain ⟨h1, h2, h3⟩ := List.pairwise_append.1 hs
  exact List.pairwise_append.2 ⟨h1.filter p, h2, fun a ha b hb => h3 a (List.mem_filter.1 ha).1 b hb⟩
theorem i64_cell {w : World} {b o n c : Nat} {l : List Int} (h : Sl w (.slice (some ⟨b, o, none⟩) n c) (l.map (Value.int .i64))) (i : Nat) (hi : i < l.length) : w.cell? ⟨b, o + i, none⟩ = some (.int .i64 l[i]) := by
  have hlen : n = l.length := by have := Sl.len h; simpa using this.1
  obtain ⟨b', o', e, _, hc⟩ := Sl.at_ h (k := i) (by omega)
  cases e
  exact hc i (.int .i64 l[i]) (by rw [List.getElem?_map, List.getElem?_eq_getElem hi]; rfl)
set_option maxRecDepth 100000 in
set_option maxHeartbeats 4000000 in
theorem wMove_any {w : World} {g mb : Nat} {s : Win} (h : WinV w g mb s) (hs : s.all.Pairwise fun a b => a.n < b.n) (hl : s.all.length ≤ 64) (hn : ∀ o ∈ s.all, -9223372036854775808 ≤ o.n ∧ o.n < 9223372036854775808) (nx : Int) :
    Calls Try.prog 28 #[.pointer (some ⟨g, 0, none⟩), .int .i64 nx] w fun e w' => ∃ v, e = .returned v ∧ OwnEls 2 OutR w' w.heap.size 54 v (s.all.filter fun o => o.n < nx) [] ∧ WinV w' g mb { s with next := nx, all := s.all.filter fun o => !(o.n < nx) } ∧ Fr [g, mb] w w' := by
  have HS := Lib.hid hs; have HNN := Lib.hid hn; have HLT := Lib.hid (And.intro h.lt h.ne)
  obtain ⟨w2, e2, hF2, hB2, -⟩ := set_new h.box 4 (.int .i64 nx)
  have x4 := h.box.cell 4; have f4 := h.box.free 4
  simp only [winc, List.getElem?_toArray, List.getElem?_cons_succ, List.getElem?_cons_zero, List.setIfInBounds_toArray, List.set_cons_zero, List.set_cons_succ] at x4 hB2
  have HV : Hid (WinV w2 g mb { s with next := nx }) := Lib.hid (h.set_box hB2 hF2 rfl)
  have HF := Lib.hid (hF2.mono (T := [g, mb]) (by simp)); have E2 := Lib.hid e2
  have HF20 := Lib.hid hF2
  clear h hs hn hB2 hF2 e2
  go_enter Try.func28, Try.ntmps28
  go_upto_region 3 with fail
  rw [E2.out]
  clear E2 x4 f4
  go_wp2_with fail
  refine (wNumbers_any HV.out HS.out (by show s.all.length ≤ 1000; omega)).mono ?_
  rintro e w3 ⟨vn, rfl, hO, hF3⟩
  obtain ⟨an, cn, rfl⟩ := hO.shape
  have HNB : Hid (∀ b, blockOf (.slice an (s.all.map (·.n)).length cn) = some b → w2.heap.size ≤ b ∧ b < w3.heap.size) := Lib.hid (fun b hb => hO.block b hb)
  rw [List.length_map] at HNB hO ⊢
  have HO := Lib.hid hO.sl
  have HV := Lib.hid (HV.out.keep hF3); have HF := Lib.hid (HF.out.trans hF3.any); have HLT3 : Hid (w.heap.size ≤ w3.heap.size) := Lib.hid (by have := HF20.out.size; have := hF3.size; omega); have HLT2 : Hid (w.heap.size ≤ w2.heap.size) := Lib.hid (by have := HF20.out.size; omega)
  clear hO hF3
  go_upto_region 4 with fail
  go_loopw [5, 15] (fun sv iv wr => ∃ (k : Nat), k ≤ s.all.length ∧ iv = .int .i64 k ∧ OwnEls 2 OutR wr w3.heap.size 54 sv ((s.all.take k).filter fun o => o.n < nx) [] ∧ WinV wr g mb { s with next := nx, all := ((s.all.take k).filter fun o => !(o.n < nx)) ++ s.all.drop k } ∧ Sl wr (.slice an s.all.length cn) ((s.all.map (·.n)).map (Value.int .i64)) ∧ Fr [g, mb] w wr ∧ w3.heap.size ≤ wr.heap.size) (fun _ iv _ => s.all.length - (Lib.intOf iv).toNat)
  case atStart => exact ⟨0, Nat.zero_le _, rfl, OwnEls.nil _ _ _, HV.out, HO.out, HF.out, Nat.le_refl _⟩
  case round =>
    clear HV HO HF
    obtain ⟨k, hk, rfl, hE, hV, hO, hF, hz⟩ := hrel
    have HZ := Lib.hid hz
    clear hz
    have hel := List.length_filter_le (fun o => decide (o.n < nx)) (s.all.take k)
    rw [List.length_take] at hel
    have HEL : Hid (((s.all.take k).filter fun o => o.n < nx).length ≤ 64) := Lib.hid (by omega)
    obtain ⟨ax, cx, rfl⟩ := hE.shape
    have HE := Lib.hid hE; have HV := Lib.hid hV; have HO := Lib.hid hO; have HF := Lib.hid hF
    clear hE hV hO hF hel
    by_cases hlt : k < s.all.length
    · obtain ⟨b, o, ea, hbl, -⟩ := Sl.at_ HO.out (k := k) (by omega)
      subst ea
      have hc := i64_cell HO.out k (by rw [List.length_map]; omega)
      rw [List.getElem_map] at hc
      have HT : Hid (s.all.take (k + 1) = s.all.take k ++ [s.all[k]]) := Lib.hid (List.take_succ_eq_append_getElem hlt)
      have HDR : Hid (s.all.drop k = s.all[k] :: s.all.drop (k + 1)) := Lib.hid (List.getElem_cons_drop hlt).symm
      have HX := Lib.hid (oldL_next HS.out hlt (fun o => !(decide (o.n < nx))))
      have hnn := HNN.out s.all[k] (List.getElem_mem hlt)
      have HSC : Hid ((((s.all.take k).filter fun o => !(decide (o.n < nx))) ++ s.all.drop k).Pairwise fun a b => a.n < b.n) := Lib.hid (sub_sorted HS.out k _)
      have HMM : Hid (s.all[k] ∈ (((s.all.take k).filter fun o => !(decide (o.n < nx))) ++ s.all.drop k)) := Lib.hid (List.mem_append_right _ (by rw [HDR.out]; exact List.mem_cons_self))
      generalize s.all[k] = y at *
      have d0 := hc
      clear hc
      by_cases hy : y.n < nx
      · have hyd : decide (y.n < nx) = true := decide_eq_true hy
        have HY := Lib.hid hyd
        go_wp2_with fail
        refine (wTake_any HV.out HSC.out HMM.out hnn).mono ?_
        rintro e w5 ⟨rfl, hV, hF5⟩
        have HV5 := Lib.hid hV
        have HE := Lib.hid (HE.out.fr Rep.out hF5 (by simp) (fun b hb hm => by have := (HE.out.block b hb).1; have := HLT.out; have := HLT3.out; simp at hm; omega)); have HO := Lib.hid (Sl.frL HO.out hF5 (fun b hb hm => by have := (HNB.out b (live_block hb)).1; have := HLT2.out; have := HLT.out; simp at hm; omega)); have HF := Lib.hid (HF.out.step hF5 (fun b hb => .inl (by simp at hb; simp [hb])))
        have HE3 : Hid (w3.heap.size ≤ w5.heap.size) := Lib.hid (Nat.le_trans HZ.out hF5.size)
        clear hV hF5 d0
        obtain ⟨w6, e6, hF6, hB6, hs6⟩ := one_new w5 (outc y) 54
        have E6 := Lib.hid e6; have HB6 := Lib.hid hB6; have HF6 := Lib.hid hF6
        have HL1 : Hid (((s.all.take k).filter fun o => decide (o.n < nx)).length + 1 ≤ maxLen) := Lib.hid (by have := HEL.out; unfold maxLen; omega)
        have HL2 : Hid ((((s.all.take k).filter fun o => decide (o.n < nx)).length + 1) * 16 ≤ 140737488355328) := Lib.hid (by have := HEL.out; omega)
        have HL3 : Hid (w3.heap.size ≤ w6.heap.size) := Lib.hid (by have := HE3.out; have := hF6.size; omega)
        clear e6 hB6 hF6 hs6
        go_wp2_with (at_builtin; (rw [E6.out]); refine wpList_append_el Rep.out (by decide) rfl (.tmp 22) (.tmp 26) 33 rfl w3.heap.size 54 (.agg #[.int .u16 0, .int .i64 0]) 16 Try.underlying33 info_out rfl (.slice ax ((s.all.take k).filter fun o => decide (o.n < nx)).length cx) ((s.all.take k).filter fun o => decide (o.n < nx)) [] rfl (HE.out.keep Rep.out HF6.out) w5.heap.size 0 1 rfl (outc y).toList y [] (box_range HB6.out) ⟨rfl, rfl⟩ (by simp) HL1.out HL2.out HL3.out ?_; intro vs1 w7 hown1 hfr1 hbl1; have HV1 := Lib.hid hown1; have HF7 := Lib.hid hfr1; obtain ⟨as1, cs1, rfl⟩ := hown1.shape; clear hown1 hfr1 hbl1)
        have hold : ∀ b ∈ (blockOf (.slice ax ((s.all.take k).filter fun o => decide (o.n < nx)).length cx)).toList, w3.heap.size ≤ b := fun b hb => (HE.out.block b (mem_toList.1 hb)).1
        have HOLD := Lib.hid hold
        clear hold
        refine ⟨⟨k + 1, by omega, by go_num, ?_, ?_, ?_, ?_, Nat.le_trans HL3.out HF7.out.size⟩, by simp [Lib.intOf]; omega⟩
        · have h1 := HV1.out
          rw [List.length_append] at h1
          rw [HT.out, List.filter_append, List.filter_cons_of_pos (p := fun o : Held_ => decide (o.n < nx)) HY.out, List.filter_nil]
          exact h1
        · have h1 := HV5.out
          rw [HX.out] at h1
          rw [HT.out, List.filter_append, List.filter_cons_of_neg (p := fun o : Held_ => !(decide (o.n < nx))) (by simp only [HY.out]; decide), List.filter_nil, List.append_nil]
          exact (h1.keep HF6.out).fr HF7.out (fun hm => by have := HOLD.out g hm; have := HLT.out; have := HLT3.out; omega) (fun hm => by have := HOLD.out mb hm; have := HLT.out; have := HLT3.out; omega)
        · exact Sl.frL (Sl.keep HO.out HF6.out) HF7.out (fun b hb hm => by have := (HNB.out b (live_block hb)).2; have := HOLD.out b hm; omega)
        · exact ((HF.out.trans HF6.out.any)).step HF7.out (fun b hb => .inr (by have := HOLD.out b hb; have := HLT3.out; omega))
      · have hyd : decide (y.n < nx) = false := decide_eq_false hy
        have HY := Lib.hid hyd
        go_wp2_with fail
        refine ⟨⟨k + 1, by omega, by go_num, ?_, ?_, HO.out, HF.out, HZ.out⟩, by simp [Lib.intOf]; omega⟩
        · rw [HT.out, List.filter_append, List.filter_cons_of_neg (p := fun o : Held_ => decide (o.n < nx)) (by simp only [HY.out]; decide), List.filter_nil, List.append_nil]
          exact HE.out
        · have h1 := HV.out
          rw [HDR.out] at h1
          rw [HT.out, List.filter_append, List.filter_cons_of_pos (p := fun o : Held_ => !(decide (o.n < nx))) (by simp only [HY.out]; decide), List.filter_nil, List.append_assoc]
          exact h1
    · obtain rfl : k = s.all.length := by omega
      have h1 := HV.out
      rw [List.take_length, List.drop_length, List.append_nil] at h1
      have HV2 := Lib.hid h1
      clear h1
      simp only [List.take_length] at HE ⊢
      go_wp2_with fail
      go_ret
      exact ⟨_, rfl, HE.out.mono HLT3.out, HV2.out, HF.out⟩
theorem ofGrown1 {w w' : World} {b : Nat} (h : w.grownBy w' (some b)) : Fr [b] w w' := by have := Fr.ofGrown h; simpa using this
theorem put_old {s : Win} {q : UInt16} {x now : Int} (h : (s.tick now).hi.isSome = true ∧ peekW (s.tick now).hi q < (s.tick now).next) : s.put q x now = (s.tick now, [], 50) := by
  unfold Win.put
  simp only
  rw [if_pos h]
theorem put_twice {s : Win} {q : UInt16} {x now : Int} {o : Held_} (h : ¬ ((s.tick now).hi.isSome = true ∧ peekW (s.tick now).hi q < (s.tick now).next)) (h2 : findH (s.tick now).all (peekW (s.tick now).hi q) = some o) : s.put q x now = (s.tick now, [], 5) := by
  unfold Win.put
  simp only
  rw [if_neg h, if_pos (any_n.2 ⟨o, findH_some h2⟩)]
theorem put_new {s : Win} {q : UInt16} {x now : Int} (h : ¬ ((s.tick now).hi.isSome = true ∧ peekW (s.tick now).hi q < (s.tick now).next)) (h2 : findH (s.tick now).all (peekW (s.tick now).hi q) = none) {n nx : Int} (hn : peekW (s.tick now).hi q = n)
    (hx : nx = if n ≥ (if (s.tick now).hi.isSome then (s.tick now).next else n) + (s.tick now).size then n - (s.tick now).size + 1 else (if (s.tick now).hi.isSome then (s.tick now).next else n)) :
    s.put q x now = ({ (s.tick now) with hi := some (hiMax (s.tick now).hi n), next := nx, all := insW ⟨n, x, (s.tick now).now⟩ ((s.tick now).all.filter fun o => !(o.n < nx)) }, (s.tick now).all.filter fun o => o.n < nx, 0) := by
  unfold Win.put
  simp only
  have ha : ¬ ((s.tick now).all.any fun o => o.n == peekW (s.tick now).hi q) = true := fun e => by
    obtain ⟨o, ho, e⟩ := any_n.1 e
    exact findH_none.1 h2 o ho e
  rw [if_neg h, if_neg ha, hn]
  subst hx
  show (_, _, _) = (_, _, _)
  cases (s.tick now).hi <;> rfl
theorem wp_mapUpdate_own {H : Type} {P : Program} {w : World} {ops : Array Oper} {o : Oper} {a : Act} {K : Act → World → Prop} {Q : Exit → Act → World → Prop} {E : Prop}
    (hg : o.guard = none) (m x v : Operand) (t : TypeId) (hop : o.op = Op.mapUpdate t m x v)
    (k e : TypeId) (KK : Keyed P k) (ht : P.underlying t = some (.map k e)) (R : Value → Option (DataW H × List MemPlace)) (b n : Nat) (D : DataW H)
    (hm : a.eval m = .map (some b)) (hown : w.ownsMap P k R b n D) (hn : n < maxLen) (key val : Value) (kl : Lit) (hx : a.eval x = key) (hv : a.eval v = val) (hkey : keyOf P k key = some kl)
    (d : DataW H) (ps : List MemPlace) (hval : R val = some (d, ps))
    (h : ∀ w', w'.ownsMap P k R b (n + 1) (D.put kl d) → w.grownBy w' (some b) → K (a.put o.dst undef) w') : if Region.wanted o (yielded ops a.tmps) = true then Oper.wp P o a w K Q else E := by
  rw [if_pos (by simp [Region.wanted, hg])]
  obtain ⟨w', hrun, r1, r2⟩ := hown.update KK ht hn hkey hval
  unfold Oper.wp
  simp [execOp, hop, hm, hx, hv, hrun, Result.andThen]
  exact h _ r1 r2
theorem WInv.bounds {c : Nat} {s : Win} (h : WInv c s) (hc : c ≤ 1000) : (∀ k, s.hi = some k → 40000 ≤ k ∧ k ≤ 4611686018427300000) ∧ (∀ o ∈ s.all, -9223372036854775808 ≤ o.n ∧ o.n < 9223372036854775808) ∧ s.all.length ≤ 64 ∧ 0 ≤ s.next ∧ s.next ≤ 4400000000 := by
  have hl := h.len
  have hsz := h.size
  refine ⟨fun k e => by have := h.hi k e; omega, fun o ho => ?_, by omega, ?_⟩
  · cases hh : s.hi with
    | none => rw [(h.old hh).1] at ho; cases ho
    | some k =>
      have h1 := h.hi k hh
      have := h1.2.2.2.2.2 o ho
      have := h.low o ho
      omega
  · cases hh : s.hi with
    | none => have := (h.old hh).2; omega
    | some k => have := h.hi k hh; omega
theorem peek_in {c : Nat} {s : Win} (h : WInv c s) (hc : c ≤ 1000) (q : UInt16) : 0 ≤ peekW s.hi q ∧ peekW s.hi q ≤ 4400000000 := by
  cases hh : s.hi with
  | none => have := q.toNat_lt; show 0 ≤ 4294967296 + (q.toNat : Int) ∧ 4294967296 + (q.toNat : Int) ≤ _; omega
  | some k => have := h.hi k hh; have := peekW_some (h := k) (q := q); omega
set_option maxRecDepth 100000 in
set_option maxHeartbeats 4000000 in
theorem wPut_any {w : World} {g mb c : Nat} {s : Win} (h : WinV w g mb s) (hi : WInv c s) (hc : c ≤ 1000) (q : UInt16) (x now : Int) :
    Calls Try.prog 11 #[.pointer (some ⟨g, 0, none⟩), .int .u16 (q.toNat : Nat), .int .i64 x, .int .i64 now] w fun e w' => ∃ v, e = .returned (.tuple #[v, .int .i64 (s.put q x now).2.2]) ∧ OwnEls 2 OutR w' w.heap.size 54 v (s.put q x now).2.1 [] ∧ WinV w' g mb (s.put q x now).1 ∧ Fr [g, mb] w w' := by
  have HV := Lib.hid h
  have HI := Lib.hid (hi.tick now)
  have HN0 := Lib.hid hi.now.1
  have hbb := (hi.tick now).bounds hc
  have hpk := peek_in (hi.tick now) hc q
  have hszz := (hi.tick now).size
  have HBB := Lib.hid hbb
  have HSI : Hid ((s.tick now).size = s.size ∧ (s.tick now).wait = s.wait) := Lib.hid ⟨rfl, rfl⟩
  have HLT := Lib.hid (And.intro h.lt h.ne)
  have hnx := hbb.2.2.2
  clear h hi hbb
  obtain ⟨s1, hs1⟩ : ∃ s1, s.tick now = s1 := ⟨_, rfl⟩
  have HS1 := Lib.hid hs1
  rw [hs1] at HI HBB hpk hszz HSI hnx
  clear hs1
  go_enter Try.func11, Try.ntmps11
  go_wp2_with fail
  refine (wTick_any HV.out HN0.out now).mono ?_
  rintro e w1 ⟨rfl, hV, hF⟩
  rw [HS1.out] at hV
  have HV := Lib.hid hV; have HF : Hid (Fr [g, mb] w w1) := Lib.hid (hF.mono (by simp))
  clear hV hF
  have HPK := Lib.hid (widePeek_any (w := w1) (g := g) (o := 2) (hi := s1.hi) ⟨HV.out.box.cell 2, HV.out.box.cell 3⟩ HBB.out.1 q)
  obtain ⟨n, hn⟩ : ∃ n, peekW s1.hi q = n := ⟨_, rfl⟩
  rw [hn] at HPK hpk
  have HN := Lib.hid hn
  clear hn
  go_wp2_with fail
  refine HPK.out.mono ?_
  rintro e w2 ⟨rfl, hF⟩
  have HV := Lib.hid (HV.out.keep hF); have HF := Lib.hid (HF.out.trans hF.any)
  clear hF HPK
  go_wp2_with fail
  refine (wideStarted_any (hi := s1.hi) (o := 2) ⟨HV.out.box.cell 2, HV.out.box.cell 3⟩).mono ?_
  rintro e w3 ⟨rfl, rfl⟩
  obtain ⟨D, hD⟩ := HV.out.map
  have HRUN := Lib.hid (hD.run n (by omega) true)
  have x6 := HV.out.box.cell 6
  simp only [winc, List.getElem?_toArray, List.getElem?_cons_succ, List.getElem?_cons_zero] at x6
  clear hD
  have HRUN2 : Hid (∃ (fv : Array Value), (Instr.lookup 61 (.map (some mb)) (.int .i64 n) true).run Try.prog w2 = .ok (.tuple #[.agg fv, .bool (findH s1.all n).isSome]) w2 ∧ fv.size = 2 ∧ ∀ u ∈ fv.toList, u.oneCell' = true) := Lib.hid (by
    have h1 := HRUN.out
    simp only [if_true] at h1
    cases hf : findH s1.all n with
    | none => rw [hf] at h1; exact ⟨_, h1, rfl, by simp [Value.oneCell']⟩
    | some o => rw [hf] at h1; exact ⟨_, h1, rfl, by simp [Value.oneCell']⟩)
  obtain ⟨fv, hrun, hfs, hf1⟩ := HRUN2.out
  clear HRUN HRUN2
  have HNX : Hid ((Sum.inl s1.hi : Sum (Option Int) Nat) = Sum.inl s1.hi) := Lib.hid rfl
  generalize hfb : (findH s1.all n).isSome = fb at *
  have HFB := Lib.hid hfb
  clear hfb
  go_upto_region 5 with (refine wpList_store_row rfl 69 (.tmp 12) (.tmp 34) rfl w2.heap.size rfl _ _ rfl 69 (Box.new w2 69 #[.int .i64 0, .int .i64 0]) (by rw [hfs]; kernel_rfl) (by rw [hfs]; rfl) hf1 ?_; intro w4 hY hG; have hFn := ((Fr.refl [] w2).alloc _).step hG (by simp); have HFn := Lib.hid hFn; clear hG hFn hY)
  have HV := Lib.hid (HV.out.keep HFn.out); have HF := Lib.hid (HF.out.trans HFn.out.any)
  clear HFn hrun hfs hf1 x6 HNX
  have x4 := HV.out.box.cell 4
  simp only [winc, List.getElem?_toArray, List.getElem?_cons_succ, List.getElem?_cons_zero] at x4
  cases hh : s1.hi with
  | none =>
    have hst : s1.hi.isSome = false := by rw [hh]; rfl
    obtain ⟨ha, hnx0⟩ := HI.out.old hh
    have HA := Lib.hid ha; have HST := Lib.hid hst; have HH := Lib.hid hh
    obtain rfl : fb = false := by rw [← HFB.out, ha]; rfl
    have HP : Hid (s.put q x now = ({ s1 with hi := some (hiMax s1.hi n), next := n, all := insW ⟨n, x, s1.now⟩ (s1.all.filter fun o => !(o.n < n)) }, s1.all.filter fun o => o.n < n, 0)) := Lib.hid (by
      have h1 := put_new (s := s) (q := q) (x := x) (now := now) (n := n) (nx := n)
      rw [HS1.out] at h1
      refine h1 (fun e => by rw [HST.out] at e; cases e.1) (by rw [HA.out]; rfl) HN.out ?_
      rw [HST.out]
      simp only [Bool.false_eq_true, if_false]
      rw [if_neg (by omega)])
    clear ha hh hnx0
    try simp only [hst, Option.isSome_none, Option.isSome_some]
    have HOFC := Lib.hid (wideOf_any (o := 2) (hi := s1.hi) HV.out.box rfl rfl HBB.out.1 q)
    go_upto_region 9 with fail
    clear x4
    go_wp2_with fail
    refine HOFC.out.mono ?_
    rintro e w5 ⟨rfl, hB5, hF5⟩
    have hV : WinV w5 g mb { s1 with hi := some (hiMax s1.hi n) } := HV.out.set_box (by rw [show hiOf s1.hi q = hiMax s1.hi n by unfold hiOf; rw [HN.out]] at hB5; exact hB5) hF5 rfl
    have HF := Lib.hid (HF.out.trans (hF5.mono (T := [g, mb]) (by simp)))
    clear hB5 hF5 HOFC HV
    have HV := Lib.hid hV
    obtain ⟨w7, e7, hF7, hB7, -⟩ := set_new HV.out.box 4 (.int .i64 n)
    have x4 := HV.out.box.cell 4; have f4 := HV.out.box.free 4
    simp only [winc, List.getElem?_toArray, List.getElem?_cons_succ, List.getElem?_cons_zero, List.setIfInBounds_toArray, List.set_cons_zero, List.set_cons_succ] at x4 hB7
    have HV7 : Hid (WinV w7 g mb { s1 with hi := some (hiMax s1.hi n), next := n }) := Lib.hid (HV.out.set_box hB7 hF7 rfl)
    have HF := Lib.hid (HF.out.trans (hF7.mono (T := [g, mb]) (by simp))); have E7 := Lib.hid e7
    clear hV hB7 hF7 e7 HV hst
    go_upto_region 12 with fail
    rw [E7.out]
    clear E7 x4 f4
    have HV := HV7
    clear HV7
    have hsz2 : IntKind.i64.wrap (n + s1.size) = n + s1.size := IntWalk.i64_in _ (by omega)
    have hge : decide (n + s1.size ≤ n) = false := decide_eq_false (by omega)
    have hge2 : decide (n ≥ n + s1.size) = false := hge
    go_upto_region 13 with fail
    refine wp_region_T (fun w' => Fr [] w7.drew w') [] 11 #[false, false, false, false, false, false, false, false, false, false, false] (by kernel_rfl) rfl rfl ?_
    try simp only [List.append_eq, List.cons_append, List.nil_append]
    have hF := (Fr.refl [] w7).drew
    have HV := Lib.hid (HV.out.keep hF)
    have HF := Lib.hid (HF.out.trans hF.any)
    clear hF
    have HSS : Hid (Fr [] w7.drew w7.drew) := Lib.hid (Fr.refl _ _)
    generalize w7.drew = wd at *
    refine wpAnyT_load (i := 0) (v := ?_) rfl (by kernel_rfl) (by kernel_rfl) (by kernel_rfl) (by kernel_rfl) (by kernel_rfl) (fun _ _ _ h => h) HSS.out (by rfl) ?_ ?_
    rotate_left
    · intro w hSw; skip; go_simp; try with_reducible rfl
    simp only [Act.put, List.getElem_toArray, List.getElem_cons_zero, List.getElem_cons_succ, List.setIfInBounds_toArray, List.set_cons_zero, List.set_cons_succ]
    refine wpAnyT_load (i := 1) (v := ?_) rfl (by kernel_rfl) (by kernel_rfl) (by kernel_rfl) (by kernel_rfl) (by kernel_rfl) (fun _ _ _ h => h) HSS.out (by rfl) ?_ ?_
    rotate_left
    · intro w hSw; skip; go_simp; try with_reducible rfl
    simp only [Act.put, List.getElem_toArray, List.getElem_cons_zero, List.getElem_cons_succ, List.setIfInBounds_toArray, List.set_cons_zero, List.set_cons_succ]
    refine wpAnyT_load (i := 2) (v := ?_) rfl (by kernel_rfl) (by kernel_rfl) (by kernel_rfl) (by kernel_rfl) (by kernel_rfl) (fun _ _ _ h => h) HSS.out (by rfl) ?_ ?_
    rotate_left
    · intro w hSw; skip; go_simp; try with_reducible rfl
    simp only [Act.put, List.getElem_toArray, List.getElem_cons_zero, List.getElem_cons_succ, List.setIfInBounds_toArray, List.set_cons_zero, List.set_cons_succ]
    refine wpAnyT_load (i := 3) (v := ?_) rfl (by kernel_rfl) (by kernel_rfl) (by kernel_rfl) (by kernel_rfl) (by kernel_rfl) (fun _ _ _ h => h) HSS.out (by rfl) ?_ ?_
    rotate_left
    · intro w hSw; skip; go_simp; try with_reducible rfl
    simp only [Act.put, List.getElem_toArray, List.getElem_cons_zero, List.getElem_cons_succ, List.setIfInBounds_toArray, List.set_cons_zero, List.set_cons_succ]
    refine wpAnyT_load (i := 4) (v := ?_) rfl (by kernel_rfl) (by kernel_rfl) (by kernel_rfl) (by kernel_rfl) (by kernel_rfl) (fun _ _ _ h => h) HSS.out (by rfl) ?_ ?_
    rotate_left
    · intro w hSw; have n0 := (HV.out.keep hSw).box.cell 4; simp only [winc, List.getElem?_toArray, List.getElem?_cons_succ, List.getElem?_cons_zero] at n0; go_simp; try with_reducible rfl
    simp only [Act.put, List.getElem_toArray, List.getElem_cons_zero, List.getElem_cons_succ, List.setIfInBounds_toArray, List.set_cons_zero, List.set_cons_succ]
    refine wpAnyT_load (i := 5) (v := ?_) rfl (by kernel_rfl) (by kernel_rfl) (by kernel_rfl) (by kernel_rfl) (by kernel_rfl) (fun _ _ _ h => h) HSS.out (by rfl) ?_ ?_
    rotate_left
    · intro w hSw; skip; go_simp; try with_reducible rfl
    simp only [Act.put, List.getElem_toArray, List.getElem_cons_zero, List.getElem_cons_succ, List.setIfInBounds_toArray, List.set_cons_zero, List.set_cons_succ]
    refine wpAnyT_load (i := 6) (v := ?_) rfl (by kernel_rfl) (by kernel_rfl) (by kernel_rfl) (by kernel_rfl) (by kernel_rfl) (fun _ _ _ h => h) HSS.out (by rfl) ?_ ?_
    rotate_left
    · intro w hSw; skip; go_simp; try with_reducible rfl
    simp only [Act.put, List.getElem_toArray, List.getElem_cons_zero, List.getElem_cons_succ, List.setIfInBounds_toArray, List.set_cons_zero, List.set_cons_succ]
    refine wpAnyT_load (i := 7) (v := ?_) rfl (by kernel_rfl) (by kernel_rfl) (by kernel_rfl) (by kernel_rfl) (by kernel_rfl) (fun _ _ _ h => h) HSS.out (by rfl) ?_ ?_
    rotate_left
    · intro w hSw; skip; go_simp; try with_reducible rfl
    simp only [Act.put, List.getElem_toArray, List.getElem_cons_zero, List.getElem_cons_succ, List.setIfInBounds_toArray, List.set_cons_zero, List.set_cons_succ]
    refine wpAnyT_load (i := 8) (v := ?_) rfl (by kernel_rfl) (by kernel_rfl) (by kernel_rfl) (by kernel_rfl) (by kernel_rfl) (fun _ _ _ h => h) HSS.out (by rfl) ?_ ?_
    rotate_left
    · intro w hSw; have n0 := (HV.out.keep hSw).box.cell 0; simp only [winc, List.getElem?_toArray, List.getElem?_cons_succ, List.getElem?_cons_zero] at n0; go_simp; try with_reducible rfl
    simp only [Act.put, List.getElem_toArray, List.getElem_cons_zero, List.getElem_cons_succ, List.setIfInBounds_toArray, List.set_cons_zero, List.set_cons_succ]
    refine wpAnyT_load (i := 9) (v := ?_) rfl (by kernel_rfl) (by kernel_rfl) (by kernel_rfl) (by kernel_rfl) (by kernel_rfl) (fun _ _ _ h => h) HSS.out (by rfl) ?_ ?_
    rotate_left
    · intro w hSw; skip; go_simp; try with_reducible rfl
    simp only [Act.put, List.getElem_toArray, List.getElem_cons_zero, List.getElem_cons_succ, List.setIfInBounds_toArray, List.set_cons_zero, List.set_cons_succ]
    refine wpAnyT_load (i := 10) (v := ?_) rfl (by kernel_rfl) (by kernel_rfl) (by kernel_rfl) (by kernel_rfl) (by kernel_rfl) (fun _ _ _ h => h) HSS.out (by rfl) ?_ ?_
    rotate_left
    · intro w hSw; skip; go_simp; try with_reducible rfl
    simp only [Act.put, List.getElem_toArray, List.getElem_cons_zero, List.getElem_cons_succ, List.setIfInBounds_toArray, List.set_cons_zero, List.set_cons_succ]
    refine wpAnyT_done (by kernel_rfl) ?_ _
    have hF := HSS.out
    have HV := Lib.hid (HV.out.keep hF)
    have HF := Lib.hid (HF.out.trans hF.any)
    clear hF HSS
    have HNN : Hid (∀ p ∈ s1.all, p.n ≠ n) := Lib.hid (by rw [HA.out]; simp)
    have HE : Hid (OwnEls 2 OutR wd w.heap.size 54 (.slice none 0 0) (s1.all.filter fun o => o.n < n) []) := Lib.hid (by rw [HA.out]; exact OwnEls.nil _ _ _)
    have HFA : Hid ((s1.all.filter fun o => !(o.n < n)) = s1.all) := Lib.hid (by rw [HA.out]; rfl)
    go_upto_region 15 with fail
    refine wp_region_T (fun w' => Fr [] wd.drew w') [11] 12 #[false, false, false, false, false, false, false, false, false, false, false, false] (by kernel_rfl) rfl rfl ?_
    try simp only [List.append_eq, List.cons_append, List.nil_append]
    have hF := (Fr.refl [] wd).drew
    have HV := Lib.hid (HV.out.keep hF)
    have HF := Lib.hid (HF.out.trans hF.any)
    have HE := Lib.hid (HE.out.keep Rep.out hF)
    clear hF
    have HSS : Hid (Fr [] wd.drew wd.drew) := Lib.hid (Fr.refl _ _)
    generalize wd.drew = we at *
    refine wpAnyT_load (i := 0) (v := ?_) rfl (by kernel_rfl) (by kernel_rfl) (by kernel_rfl) (by kernel_rfl) (by kernel_rfl) (fun _ _ _ h => h) HSS.out (by rfl) ?_ ?_
    rotate_left
    · intro w hSw; skip; go_simp; try with_reducible rfl
    simp only [Act.put, List.getElem_toArray, List.getElem_cons_zero, List.getElem_cons_succ, List.setIfInBounds_toArray, List.set_cons_zero, List.set_cons_succ]
    refine wpAnyT_load (i := 1) (v := ?_) rfl (by kernel_rfl) (by kernel_rfl) (by kernel_rfl) (by kernel_rfl) (by kernel_rfl) (fun _ _ _ h => h) HSS.out (by rfl) ?_ ?_
    rotate_left
    · intro w hSw; skip; go_simp; try with_reducible rfl
    simp only [Act.put, List.getElem_toArray, List.getElem_cons_zero, List.getElem_cons_succ, List.setIfInBounds_toArray, List.set_cons_zero, List.set_cons_succ]
    refine wpAnyT_load (i := 2) (v := ?_) rfl (by kernel_rfl) (by kernel_rfl) (by kernel_rfl) (by kernel_rfl) (by kernel_rfl) (fun _ _ _ h => h) HSS.out (by rfl) ?_ ?_
    rotate_left
    · intro w hSw; skip; go_simp; try with_reducible rfl
    simp only [Act.put, List.getElem_toArray, List.getElem_cons_zero, List.getElem_cons_succ, List.setIfInBounds_toArray, List.set_cons_zero, List.set_cons_succ]
    refine wpAnyT_load (i := 3) (v := ?_) rfl (by kernel_rfl) (by kernel_rfl) (by kernel_rfl) (by kernel_rfl) (by kernel_rfl) (fun _ _ _ h => h) HSS.out (by rfl) ?_ ?_
    rotate_left
    · intro w hSw; have n0 := (HV.out.keep hSw).box.cell 6; simp only [winc, List.getElem?_toArray, List.getElem?_cons_succ, List.getElem?_cons_zero] at n0; go_simp; try with_reducible rfl
    simp only [Act.put, List.getElem_toArray, List.getElem_cons_zero, List.getElem_cons_succ, List.setIfInBounds_toArray, List.set_cons_zero, List.set_cons_succ]
    refine wpAnyT_load (i := 4) (v := ?_) rfl (by kernel_rfl) (by kernel_rfl) (by kernel_rfl) (by kernel_rfl) (by kernel_rfl) (fun _ _ _ h => h) HSS.out (by rfl) ?_ ?_
    rotate_left
    · intro w hSw; skip; go_simp; try with_reducible rfl
    simp only [Act.put, List.getElem_toArray, List.getElem_cons_zero, List.getElem_cons_succ, List.setIfInBounds_toArray, List.set_cons_zero, List.set_cons_succ]
    refine wpAnyT_load (i := 5) (v := ?_) rfl (by kernel_rfl) (by kernel_rfl) (by kernel_rfl) (by kernel_rfl) (by kernel_rfl) (fun _ _ _ h => h) HSS.out (by rfl) ?_ ?_
    rotate_left
    · intro w hSw; skip; go_simp; try with_reducible rfl
    simp only [Act.put, List.getElem_toArray, List.getElem_cons_zero, List.getElem_cons_succ, List.setIfInBounds_toArray, List.set_cons_zero, List.set_cons_succ]
    refine wpAnyT_load (i := 6) (v := ?_) rfl (by kernel_rfl) (by kernel_rfl) (by kernel_rfl) (by kernel_rfl) (by kernel_rfl) (fun _ _ _ h => h) HSS.out (by rfl) ?_ ?_
    rotate_left
    · intro w hSw; skip; go_simp; try with_reducible rfl
    simp only [Act.put, List.getElem_toArray, List.getElem_cons_zero, List.getElem_cons_succ, List.setIfInBounds_toArray, List.set_cons_zero, List.set_cons_succ]
    refine wpAnyT_load (i := 7) (v := ?_) rfl (by kernel_rfl) (by kernel_rfl) (by kernel_rfl) (by kernel_rfl) (by kernel_rfl) (fun _ _ _ h => h) HSS.out (by rfl) ?_ ?_
    rotate_left
    · intro w hSw; skip; go_simp; try with_reducible rfl
    simp only [Act.put, List.getElem_toArray, List.getElem_cons_zero, List.getElem_cons_succ, List.setIfInBounds_toArray, List.set_cons_zero, List.set_cons_succ]
    refine wpAnyT_load (i := 8) (v := ?_) rfl (by kernel_rfl) (by kernel_rfl) (by kernel_rfl) (by kernel_rfl) (by kernel_rfl) (fun _ _ _ h => h) HSS.out (by rfl) ?_ ?_
    rotate_left
    · intro w hSw; skip; go_simp; try with_reducible rfl
    simp only [Act.put, List.getElem_toArray, List.getElem_cons_zero, List.getElem_cons_succ, List.setIfInBounds_toArray, List.set_cons_zero, List.set_cons_succ]
    refine wpAnyT_load (i := 9) (v := ?_) rfl (by kernel_rfl) (by kernel_rfl) (by kernel_rfl) (by kernel_rfl) (by kernel_rfl) (fun _ _ _ h => h) HSS.out (by rfl) ?_ ?_
    rotate_left
    · intro w hSw; have n0 := (HV.out.keep hSw).box.cell 5; simp only [winc, List.getElem?_toArray, List.getElem?_cons_succ, List.getElem?_cons_zero] at n0; go_simp; try with_reducible rfl
    simp only [Act.put, List.getElem_toArray, List.getElem_cons_zero, List.getElem_cons_succ, List.setIfInBounds_toArray, List.set_cons_zero, List.set_cons_succ]
    refine wpAnyT_load (i := 10) (v := ?_) rfl (by kernel_rfl) (by kernel_rfl) (by kernel_rfl) (by kernel_rfl) (by kernel_rfl) (fun _ _ _ h => h) HSS.out (by rfl) ?_ ?_
    rotate_left
    · intro w hSw; skip; go_simp; try with_reducible rfl
    simp only [Act.put, List.getElem_toArray, List.getElem_cons_zero, List.getElem_cons_succ, List.setIfInBounds_toArray, List.set_cons_zero, List.set_cons_succ]
    refine wpAnyT_one (i := 11) (by kernel_rfl) rfl (fun K hK => ?_)
    have hF := HSS.out
    have HV := Lib.hid (HV.out.keep hF)
    have HF := Lib.hid (HF.out.trans hF.any)
    have HE := Lib.hid (HE.out.keep Rep.out hF)
    clear hF
    obtain ⟨D6, hD6⟩ := HV.out.map
    have HD6 := Lib.hid hD6
    have HL6 : Hid ((s1.all).length < maxLen) := Lib.hid (by have := HBB.out.2.2.1; unfold maxLen; omega)
    clear hD6
    refine wp_mapUpdate_own rfl _ _ _ 61 rfl 2 69 keyI64 Try.underlying61 heldW mb (s1.all).length D6 rfl HD6.out.own HL6.out (.int .i64 n) (hv ⟨n, x, s1.now⟩) (lkey n) rfl rfl (keyOf_int_mk Try.underlying2 (lkey_wf (by omega))) (.held (hv ⟨n, x, s1.now⟩)) [] rfl ?_
    intro wf hown hgr
    have hfr := ofGrown1 hgr
    have HMF := Lib.hid (HD6.out.put (o := ⟨n, x, s1.now⟩) HNN.out hown)
    have HFM := Lib.hid hfr
    have HBX := Lib.hid (HV.out.box.fr hfr (by have := HLT.out.2; simp; omega))
    have HEF := Lib.hid (HE.out.fr Rep.out hfr (by simp) (fun b hb hm => by have := (HE.out.block b hb).1; have := HLT.out.1; simp at hm; omega))
    have HFF := Lib.hid (HF.out.trans (hfr.mono (T := [g, mb]) (by simp)))
    clear hown hgr hfr HV HF HE
    refine hK.out _ _ (fun _ => by rename_i h; exact absurd (by simp) h) ?_
    clear hK K
    simp only [Act.put, List.getElem_toArray, List.getElem_cons_zero, List.getElem_cons_succ, List.setIfInBounds_toArray, List.set_cons_zero, List.set_cons_succ]
    refine wpAnyT_done (by kernel_rfl) ?_ _
    go_wp2_with fail
    go_ret2
    refine ⟨_, by rw [HP.out]; rfl, by rw [HP.out]; exact HEF.out, ?_, HFF.out⟩
    rw [HP.out]
    refine ⟨HBX.out, ?_, HLT.out.2⟩
    dsimp only
    rw [HFA.out]
    exact ⟨_, HMF.out⟩
  | some k =>
    have hst : s1.hi.isSome = true := by rw [hh]; rfl
    have HST := Lib.hid hst
    clear hh
    by_cases hold : n < s1.next
    · have HP : Hid (s.put q x now = (s1, [], 50)) := Lib.hid (by have h1 := put_old (s := s) (q := q) (x := x) (now := now); rw [HS1.out, HN.out] at h1; exact h1 ⟨HST.out, hold⟩)
      have hlt : decide (n < s1.next) = true := decide_eq_true hold
      clear hold
      try simp only [hst, Option.isSome_none, Option.isSome_some]
      go_wp2_with fail
      go_ret2
      exact ⟨_, by rw [HP.out]; rfl, by rw [HP.out]; exact OwnEls.nil _ _ _, by rw [HP.out]; exact HV.out, HF.out⟩
    have hlt : decide (n < s1.next) = false := decide_eq_false hold
    have HOLD : Hid (¬ (s1.hi.isSome = true ∧ n < s1.next)) := Lib.hid (fun e => hold e.2)
    cases fb with
    | true =>
      have HP : Hid (s.put q x now = (s1, [], 5)) := Lib.hid (by
        have h2 := HFB.out
        cases hf : findH s1.all n with
        | none => rw [hf] at h2; cases h2
        | some o =>
          have h1 := put_twice (s := s) (q := q) (x := x) (now := now) (o := o)
          rw [HS1.out, HN.out] at h1
          exact h1 HOLD.out hf)
      try simp only [hst, Option.isSome_none, Option.isSome_some]
      go_wp2_with fail
      go_ret2
      exact ⟨_, by rw [HP.out]; rfl, by rw [HP.out]; exact OwnEls.nil _ _ _, by rw [HP.out]; exact HV.out, HF.out⟩
    | false =>
      have HFN : Hid (findH s1.all n = none) := Lib.hid (by have h2 := HFB.out; cases hf : findH s1.all n with | none => rfl | some o => rw [hf] at h2; cases h2)
      have HNN : Hid (∀ p ∈ s1.all, p.n ≠ n) := Lib.hid (findH_none.1 HFN.out)
      try simp only [hst, Option.isSome_none, Option.isSome_some]
      have HOFC := Lib.hid (wideOf_any (o := 2) (hi := s1.hi) HV.out.box rfl rfl HBB.out.1 q)
      go_upto_region 9 with fail
      clear x4
      go_wp2_with fail
      refine HOFC.out.mono ?_
      rintro e w5 ⟨rfl, hB5, hF5⟩
      have hV : WinV w5 g mb { s1 with hi := some (hiMax s1.hi n) } := HV.out.set_box (by rw [show hiOf s1.hi q = hiMax s1.hi n by unfold hiOf; rw [HN.out]] at hB5; exact hB5) hF5 rfl
      have HF := Lib.hid (HF.out.trans (hF5.mono (T := [g, mb]) (by simp)))
      clear hB5 hF5 HOFC HV
      have HV := Lib.hid hV
      clear hV
      have hsz2 : IntKind.i64.wrap (s1.next + s1.size) = s1.next + s1.size := IntWalk.i64_in _ (by omega)
      clear hst
      go_upto_region 12 with fail
      go_upto_region 13 with fail
      by_cases hge : s1.next + s1.size ≤ n
      · have hge1 : decide (s1.next + s1.size ≤ n) = true := decide_eq_true hge
        have hge2 : decide (n ≥ s1.next + s1.size) = true := hge1
        have HP : Hid (s.put q x now = ({ s1 with hi := some (hiMax s1.hi n), next := n - s1.size + 1, all := insW ⟨n, x, s1.now⟩ (s1.all.filter fun o => !(o.n < n - s1.size + 1)) }, s1.all.filter fun o => o.n < n - s1.size + 1, 0)) := Lib.hid (by
          have h1 := put_new (s := s) (q := q) (x := x) (now := now) (n := n) (nx := n - s1.size + 1)
          rw [HS1.out] at h1
          refine h1 (by rw [HN.out]; exact HOLD.out) (by rw [HN.out]; exact HFN.out) HN.out ?_
          rw [HST.out]
          simp only [if_true]
          rw [if_pos (by omega)])
        refine wp_region_T (fun w' => Fr [] w5.drew w') [] 11 #[false, false, false, false, false, false, false, false, false, false, false] (by kernel_rfl) rfl rfl ?_
        try simp only [List.append_eq, List.cons_append, List.nil_append]
        have hF := (Fr.refl [] w5).drew
        have HV := Lib.hid (HV.out.keep hF)
        have HF := Lib.hid (HF.out.trans hF.any)
        clear hF
        have HSS : Hid (Fr [] w5.drew w5.drew) := Lib.hid (Fr.refl _ _)
        generalize w5.drew = wd at *
        refine wpAnyT_load (i := 0) (v := ?_) rfl (by kernel_rfl) (by kernel_rfl) (by kernel_rfl) (by kernel_rfl) (by kernel_rfl) (fun _ _ _ h => h) HSS.out (by rfl) ?_ ?_
        rotate_left
        · intro w hSw; skip; go_simp; try with_reducible rfl
        simp only [Act.put, List.getElem_toArray, List.getElem_cons_zero, List.getElem_cons_succ, List.setIfInBounds_toArray, List.set_cons_zero, List.set_cons_succ]
        refine wpAnyT_load (i := 1) (v := ?_) rfl (by kernel_rfl) (by kernel_rfl) (by kernel_rfl) (by kernel_rfl) (by kernel_rfl) (fun _ _ _ h => h) HSS.out (by rfl) ?_ ?_
        rotate_left
        · intro w hSw; skip; go_simp; try with_reducible rfl
        simp only [Act.put, List.getElem_toArray, List.getElem_cons_zero, List.getElem_cons_succ, List.setIfInBounds_toArray, List.set_cons_zero, List.set_cons_succ]
        refine wpAnyT_load (i := 2) (v := ?_) rfl (by kernel_rfl) (by kernel_rfl) (by kernel_rfl) (by kernel_rfl) (by kernel_rfl) (fun _ _ _ h => h) HSS.out (by rfl) ?_ ?_
        rotate_left
        · intro w hSw; skip; go_simp; try with_reducible rfl
        simp only [Act.put, List.getElem_toArray, List.getElem_cons_zero, List.getElem_cons_succ, List.setIfInBounds_toArray, List.set_cons_zero, List.set_cons_succ]
        refine wpAnyT_load (i := 3) (v := ?_) rfl (by kernel_rfl) (by kernel_rfl) (by kernel_rfl) (by kernel_rfl) (by kernel_rfl) (fun _ _ _ h => h) HSS.out (by rfl) ?_ ?_
        rotate_left
        · intro w hSw; skip; go_simp; try with_reducible rfl
        simp only [Act.put, List.getElem_toArray, List.getElem_cons_zero, List.getElem_cons_succ, List.setIfInBounds_toArray, List.set_cons_zero, List.set_cons_succ]
        refine wpAnyT_load (i := 4) (v := ?_) rfl (by kernel_rfl) (by kernel_rfl) (by kernel_rfl) (by kernel_rfl) (by kernel_rfl) (fun _ _ _ h => h) HSS.out (by rfl) ?_ ?_
        rotate_left
        · intro w hSw; have n0 := (HV.out.keep hSw).box.cell 4; simp only [winc, List.getElem?_toArray, List.getElem?_cons_succ, List.getElem?_cons_zero] at n0; go_simp; try with_reducible rfl
        simp only [Act.put, List.getElem_toArray, List.getElem_cons_zero, List.getElem_cons_succ, List.setIfInBounds_toArray, List.set_cons_zero, List.set_cons_succ]
        refine wpAnyT_load (i := 5) (v := ?_) rfl (by kernel_rfl) (by kernel_rfl) (by kernel_rfl) (by kernel_rfl) (by kernel_rfl) (fun _ _ _ h => h) HSS.out (by rfl) ?_ ?_
        rotate_left
        · intro w hSw; skip; go_simp; try with_reducible rfl
        simp only [Act.put, List.getElem_toArray, List.getElem_cons_zero, List.getElem_cons_succ, List.setIfInBounds_toArray, List.set_cons_zero, List.set_cons_succ]
        refine wpAnyT_load (i := 6) (v := ?_) rfl (by kernel_rfl) (by kernel_rfl) (by kernel_rfl) (by kernel_rfl) (by kernel_rfl) (fun _ _ _ h => h) HSS.out (by rfl) ?_ ?_
        rotate_left
        · intro w hSw; skip; go_simp; try with_reducible rfl
        simp only [Act.put, List.getElem_toArray, List.getElem_cons_zero, List.getElem_cons_succ, List.setIfInBounds_toArray, List.set_cons_zero, List.set_cons_succ]
        refine wpAnyT_load (i := 7) (v := ?_) rfl (by kernel_rfl) (by kernel_rfl) (by kernel_rfl) (by kernel_rfl) (by kernel_rfl) (fun _ _ _ h => h) HSS.out (by rfl) ?_ ?_
        rotate_left
        · intro w hSw; skip; go_simp; try with_reducible rfl
        simp only [Act.put, List.getElem_toArray, List.getElem_cons_zero, List.getElem_cons_succ, List.setIfInBounds_toArray, List.set_cons_zero, List.set_cons_succ]
        refine wpAnyT_load (i := 8) (v := ?_) rfl (by kernel_rfl) (by kernel_rfl) (by kernel_rfl) (by kernel_rfl) (by kernel_rfl) (fun _ _ _ h => h) HSS.out (by rfl) ?_ ?_
        rotate_left
        · intro w hSw; have n0 := (HV.out.keep hSw).box.cell 0; simp only [winc, List.getElem?_toArray, List.getElem?_cons_succ, List.getElem?_cons_zero] at n0; go_simp; try with_reducible rfl
        simp only [Act.put, List.getElem_toArray, List.getElem_cons_zero, List.getElem_cons_succ, List.setIfInBounds_toArray, List.set_cons_zero, List.set_cons_succ]
        refine wpAnyT_load (i := 9) (v := ?_) rfl (by kernel_rfl) (by kernel_rfl) (by kernel_rfl) (by kernel_rfl) (by kernel_rfl) (fun _ _ _ h => h) HSS.out (by rfl) ?_ ?_
        rotate_left
        · intro w hSw; skip; go_simp; try with_reducible rfl
        simp only [Act.put, List.getElem_toArray, List.getElem_cons_zero, List.getElem_cons_succ, List.setIfInBounds_toArray, List.set_cons_zero, List.set_cons_succ]
        refine wpAnyT_load (i := 10) (v := ?_) rfl (by kernel_rfl) (by kernel_rfl) (by kernel_rfl) (by kernel_rfl) (by kernel_rfl) (fun _ _ _ h => h) HSS.out (by rfl) ?_ ?_
        rotate_left
        · intro w hSw; skip; go_simp; try with_reducible rfl
        simp only [Act.put, List.getElem_toArray, List.getElem_cons_zero, List.getElem_cons_succ, List.setIfInBounds_toArray, List.set_cons_zero, List.set_cons_succ]
        refine wpAnyT_done (by kernel_rfl) ?_ _
        have hF := HSS.out
        have HV := Lib.hid (HV.out.keep hF)
        have HF := Lib.hid (HF.out.trans hF.any)
        clear hF HSS
        have hw1 : IntKind.i64.wrap (n - s1.size) = n - s1.size := IntWalk.i64_in _ (by omega)
        have hw2 : IntKind.i64.wrap (n - s1.size + 1) = n - s1.size + 1 := IntWalk.i64_in _ (by omega)
        have x0 := HV.out.box.cell 0
        simp only [winc, List.getElem?_toArray, List.getElem?_cons_succ, List.getElem?_cons_zero] at x0
        go_wp2_with fail
        refine (wMove_any HV.out HI.out.sorted HBB.out.2.2.1 HBB.out.2.1 (n - s1.size + 1)).mono ?_
        rintro e w8 ⟨v8, rfl, hE, hV, hF⟩
        obtain ⟨a8, c8, rfl⟩ := hE.shape
        have HE := Lib.hid (hE.mono HF.out.size); have HV := Lib.hid hV; have HF := Lib.hid (HF.out.trans hF)
        have HNN : Hid (∀ p ∈ s1.all.filter (fun o => !(decide (o.n < n - s1.size + 1))), p.n ≠ n) := Lib.hid (fun p hp => HNN.out p (List.mem_filter.1 hp).1)
        clear hE hV hF x0
        go_upto_region 15 with fail
        refine wp_region_T (fun w' => Fr [] w8.drew w') [11] 12 #[false, false, false, false, false, false, false, false, false, false, false, false] (by kernel_rfl) rfl rfl ?_
        try simp only [List.append_eq, List.cons_append, List.nil_append]
        have hF := (Fr.refl [] w8).drew
        have HV := Lib.hid (HV.out.keep hF)
        have HF := Lib.hid (HF.out.trans hF.any)
        have HE := Lib.hid (HE.out.keep Rep.out hF)
        clear hF
        have HSS : Hid (Fr [] w8.drew w8.drew) := Lib.hid (Fr.refl _ _)
        generalize w8.drew = we at *
        refine wpAnyT_load (i := 0) (v := ?_) rfl (by kernel_rfl) (by kernel_rfl) (by kernel_rfl) (by kernel_rfl) (by kernel_rfl) (fun _ _ _ h => h) HSS.out (by rfl) ?_ ?_
        rotate_left
        · intro w hSw; skip; go_simp; try with_reducible rfl
        simp only [Act.put, List.getElem_toArray, List.getElem_cons_zero, List.getElem_cons_succ, List.setIfInBounds_toArray, List.set_cons_zero, List.set_cons_succ]
        refine wpAnyT_load (i := 1) (v := ?_) rfl (by kernel_rfl) (by kernel_rfl) (by kernel_rfl) (by kernel_rfl) (by kernel_rfl) (fun _ _ _ h => h) HSS.out (by rfl) ?_ ?_
        rotate_left
        · intro w hSw; skip; go_simp; try with_reducible rfl
        simp only [Act.put, List.getElem_toArray, List.getElem_cons_zero, List.getElem_cons_succ, List.setIfInBounds_toArray, List.set_cons_zero, List.set_cons_succ]
        refine wpAnyT_load (i := 2) (v := ?_) rfl (by kernel_rfl) (by kernel_rfl) (by kernel_rfl) (by kernel_rfl) (by kernel_rfl) (fun _ _ _ h => h) HSS.out (by rfl) ?_ ?_
        rotate_left
        · intro w hSw; skip; go_simp; try with_reducible rfl
        simp only [Act.put, List.getElem_toArray, List.getElem_cons_zero, List.getElem_cons_succ, List.setIfInBounds_toArray, List.set_cons_zero, List.set_cons_succ]
        refine wpAnyT_load (i := 3) (v := ?_) rfl (by kernel_rfl) (by kernel_rfl) (by kernel_rfl) (by kernel_rfl) (by kernel_rfl) (fun _ _ _ h => h) HSS.out (by rfl) ?_ ?_
        rotate_left
        · intro w hSw; have n0 := (HV.out.keep hSw).box.cell 6; simp only [winc, List.getElem?_toArray, List.getElem?_cons_succ, List.getElem?_cons_zero] at n0; go_simp; try with_reducible rfl
        simp only [Act.put, List.getElem_toArray, List.getElem_cons_zero, List.getElem_cons_succ, List.setIfInBounds_toArray, List.set_cons_zero, List.set_cons_succ]
        refine wpAnyT_load (i := 4) (v := ?_) rfl (by kernel_rfl) (by kernel_rfl) (by kernel_rfl) (by kernel_rfl) (by kernel_rfl) (fun _ _ _ h => h) HSS.out (by rfl) ?_ ?_
        rotate_left
        · intro w hSw; skip; go_simp; try with_reducible rfl
        simp only [Act.put, List.getElem_toArray, List.getElem_cons_zero, List.getElem_cons_succ, List.setIfInBounds_toArray, List.set_cons_zero, List.set_cons_succ]
        refine wpAnyT_load (i := 5) (v := ?_) rfl (by kernel_rfl) (by kernel_rfl) (by kernel_rfl) (by kernel_rfl) (by kernel_rfl) (fun _ _ _ h => h) HSS.out (by rfl) ?_ ?_
        rotate_left
        · intro w hSw; skip; go_simp; try with_reducible rfl
        simp only [Act.put, List.getElem_toArray, List.getElem_cons_zero, List.getElem_cons_succ, List.setIfInBounds_toArray, List.set_cons_zero, List.set_cons_succ]
        refine wpAnyT_load (i := 6) (v := ?_) rfl (by kernel_rfl) (by kernel_rfl) (by kernel_rfl) (by kernel_rfl) (by kernel_rfl) (fun _ _ _ h => h) HSS.out (by rfl) ?_ ?_
        rotate_left
        · intro w hSw; skip; go_simp; try with_reducible rfl
        simp only [Act.put, List.getElem_toArray, List.getElem_cons_zero, List.getElem_cons_succ, List.setIfInBounds_toArray, List.set_cons_zero, List.set_cons_succ]
        refine wpAnyT_load (i := 7) (v := ?_) rfl (by kernel_rfl) (by kernel_rfl) (by kernel_rfl) (by kernel_rfl) (by kernel_rfl) (fun _ _ _ h => h) HSS.out (by rfl) ?_ ?_
        rotate_left
        · intro w hSw; skip; go_simp; try with_reducible rfl
        simp only [Act.put, List.getElem_toArray, List.getElem_cons_zero, List.getElem_cons_succ, List.setIfInBounds_toArray, List.set_cons_zero, List.set_cons_succ]
        refine wpAnyT_load (i := 8) (v := ?_) rfl (by kernel_rfl) (by kernel_rfl) (by kernel_rfl) (by kernel_rfl) (by kernel_rfl) (fun _ _ _ h => h) HSS.out (by rfl) ?_ ?_
        rotate_left
        · intro w hSw; skip; go_simp; try with_reducible rfl
        simp only [Act.put, List.getElem_toArray, List.getElem_cons_zero, List.getElem_cons_succ, List.setIfInBounds_toArray, List.set_cons_zero, List.set_cons_succ]
        refine wpAnyT_load (i := 9) (v := ?_) rfl (by kernel_rfl) (by kernel_rfl) (by kernel_rfl) (by kernel_rfl) (by kernel_rfl) (fun _ _ _ h => h) HSS.out (by rfl) ?_ ?_
        rotate_left
        · intro w hSw; have n0 := (HV.out.keep hSw).box.cell 5; simp only [winc, List.getElem?_toArray, List.getElem?_cons_succ, List.getElem?_cons_zero] at n0; go_simp; try with_reducible rfl
        simp only [Act.put, List.getElem_toArray, List.getElem_cons_zero, List.getElem_cons_succ, List.setIfInBounds_toArray, List.set_cons_zero, List.set_cons_succ]
        refine wpAnyT_load (i := 10) (v := ?_) rfl (by kernel_rfl) (by kernel_rfl) (by kernel_rfl) (by kernel_rfl) (by kernel_rfl) (fun _ _ _ h => h) HSS.out (by rfl) ?_ ?_
        rotate_left
        · intro w hSw; skip; go_simp; try with_reducible rfl
        simp only [Act.put, List.getElem_toArray, List.getElem_cons_zero, List.getElem_cons_succ, List.setIfInBounds_toArray, List.set_cons_zero, List.set_cons_succ]
        refine wpAnyT_one (i := 11) (by kernel_rfl) rfl (fun K hK => ?_)
        have hF := HSS.out
        have HV := Lib.hid (HV.out.keep hF)
        have HF := Lib.hid (HF.out.trans hF.any)
        have HE := Lib.hid (HE.out.keep Rep.out hF)
        clear hF
        obtain ⟨D6, hD6⟩ := HV.out.map
        have HD6 := Lib.hid hD6
        have HL6 : Hid ((s1.all.filter (fun o => !(decide (o.n < n - s1.size + 1)))).length < maxLen) := Lib.hid (by have := HBB.out.2.2.1; have := List.length_filter_le (fun o => !(decide (o.n < n - s1.size + 1))) s1.all; unfold maxLen; omega)
        clear hD6
        refine wp_mapUpdate_own rfl _ _ _ 61 rfl 2 69 keyI64 Try.underlying61 heldW mb (s1.all.filter (fun o => !(decide (o.n < n - s1.size + 1)))).length D6 rfl HD6.out.own HL6.out (.int .i64 n) (hv ⟨n, x, s1.now⟩) (lkey n) rfl rfl (keyOf_int_mk Try.underlying2 (lkey_wf (by omega))) (.held (hv ⟨n, x, s1.now⟩)) [] rfl ?_
        intro wf hown hgr
        have hfr := ofGrown1 hgr
        have HMF := Lib.hid (HD6.out.put (o := ⟨n, x, s1.now⟩) HNN.out hown)
        have HFM := Lib.hid hfr
        have HBX := Lib.hid (HV.out.box.fr hfr (by have := HLT.out.2; simp; omega))
        have HEF := Lib.hid (HE.out.fr Rep.out hfr (by simp) (fun b hb hm => by have := (HE.out.block b hb).1; have := HLT.out.1; simp at hm; omega))
        have HFF := Lib.hid (HF.out.trans (hfr.mono (T := [g, mb]) (by simp)))
        clear hown hgr hfr HV HF HE
        refine hK.out _ _ (fun _ => by rename_i h; exact absurd (by simp) h) ?_
        clear hK K
        simp only [Act.put, List.getElem_toArray, List.getElem_cons_zero, List.getElem_cons_succ, List.setIfInBounds_toArray, List.set_cons_zero, List.set_cons_succ]
        refine wpAnyT_done (by kernel_rfl) ?_ _
        go_wp2_with fail
        go_ret2
        refine ⟨_, by rw [HP.out]; rfl, by rw [HP.out]; exact HEF.out, ?_, HFF.out⟩
        rw [HP.out]
        refine ⟨HBX.out, ?_, HLT.out.2⟩
        exact ⟨_, HMF.out⟩
      · have hge1 : decide (s1.next + s1.size ≤ n) = false := decide_eq_false hge
        have hge2 : decide (n ≥ s1.next + s1.size) = false := hge1
        have HP : Hid (s.put q x now = ({ s1 with hi := some (hiMax s1.hi n), next := s1.next, all := insW ⟨n, x, s1.now⟩ (s1.all.filter fun o => !(o.n < s1.next)) }, s1.all.filter fun o => o.n < s1.next, 0)) := Lib.hid (by
          have h1 := put_new (s := s) (q := q) (x := x) (now := now) (n := n) (nx := s1.next)
          rw [HS1.out] at h1
          refine h1 (by rw [HN.out]; exact HOLD.out) (by rw [HN.out]; exact HFN.out) HN.out ?_
          rw [HST.out]
          simp only [if_true]
          rw [if_neg (by omega)])
        refine wp_region_T (fun w' => Fr [] w5.drew w') [] 11 #[false, false, false, false, false, false, false, false, false, false, false] (by kernel_rfl) rfl rfl ?_
        try simp only [List.append_eq, List.cons_append, List.nil_append]
        have hF := (Fr.refl [] w5).drew
        have HV := Lib.hid (HV.out.keep hF)
        have HF := Lib.hid (HF.out.trans hF.any)
        clear hF
        have HSS : Hid (Fr [] w5.drew w5.drew) := Lib.hid (Fr.refl _ _)
        generalize w5.drew = wd at *
        refine wpAnyT_load (i := 0) (v := ?_) rfl (by kernel_rfl) (by kernel_rfl) (by kernel_rfl) (by kernel_rfl) (by kernel_rfl) (fun _ _ _ h => h) HSS.out (by rfl) ?_ ?_
        rotate_left
        · intro w hSw; skip; go_simp; try with_reducible rfl
        simp only [Act.put, List.getElem_toArray, List.getElem_cons_zero, List.getElem_cons_succ, List.setIfInBounds_toArray, List.set_cons_zero, List.set_cons_succ]
        refine wpAnyT_load (i := 1) (v := ?_) rfl (by kernel_rfl) (by kernel_rfl) (by kernel_rfl) (by kernel_rfl) (by kernel_rfl) (fun _ _ _ h => h) HSS.out (by rfl) ?_ ?_
        rotate_left
        · intro w hSw; skip; go_simp; try with_reducible rfl
        simp only [Act.put, List.getElem_toArray, List.getElem_cons_zero, List.getElem_cons_succ, List.setIfInBounds_toArray, List.set_cons_zero, List.set_cons_succ]
        refine wpAnyT_load (i := 2) (v := ?_) rfl (by kernel_rfl) (by kernel_rfl) (by kernel_rfl) (by kernel_rfl) (by kernel_rfl) (fun _ _ _ h => h) HSS.out (by rfl) ?_ ?_
        rotate_left
        · intro w hSw; skip; go_simp; try with_reducible rfl
        simp only [Act.put, List.getElem_toArray, List.getElem_cons_zero, List.getElem_cons_succ, List.setIfInBounds_toArray, List.set_cons_zero, List.set_cons_succ]
        refine wpAnyT_load (i := 3) (v := ?_) rfl (by kernel_rfl) (by kernel_rfl) (by kernel_rfl) (by kernel_rfl) (by kernel_rfl) (fun _ _ _ h => h) HSS.out (by rfl) ?_ ?_
        rotate_left
        · intro w hSw; skip; go_simp; try with_reducible rfl
        simp only [Act.put, List.getElem_toArray, List.getElem_cons_zero, List.getElem_cons_succ, List.setIfInBounds_toArray, List.set_cons_zero, List.set_cons_succ]
        refine wpAnyT_load (i := 4) (v := ?_) rfl (by kernel_rfl) (by kernel_rfl) (by kernel_rfl) (by kernel_rfl) (by kernel_rfl) (fun _ _ _ h => h) HSS.out (by rfl) ?_ ?_
        rotate_left
        · intro w hSw; have n0 := (HV.out.keep hSw).box.cell 4; simp only [winc, List.getElem?_toArray, List.getElem?_cons_succ, List.getElem?_cons_zero] at n0; go_simp; try with_reducible rfl
        simp only [Act.put, List.getElem_toArray, List.getElem_cons_zero, List.getElem_cons_succ, List.setIfInBounds_toArray, List.set_cons_zero, List.set_cons_succ]
        refine wpAnyT_load (i := 5) (v := ?_) rfl (by kernel_rfl) (by kernel_rfl) (by kernel_rfl) (by kernel_rfl) (by kernel_rfl) (fun _ _ _ h => h) HSS.out (by rfl) ?_ ?_
        rotate_left
        · intro w hSw; skip; go_simp; try with_reducible rfl
        simp only [Act.put, List.getElem_toArray, List.getElem_cons_zero, List.getElem_cons_succ, List.setIfInBounds_toArray, List.set_cons_zero, List.set_cons_succ]
        refine wpAnyT_load (i := 6) (v := ?_) rfl (by kernel_rfl) (by kernel_rfl) (by kernel_rfl) (by kernel_rfl) (by kernel_rfl) (fun _ _ _ h => h) HSS.out (by rfl) ?_ ?_
        rotate_left
        · intro w hSw; skip; go_simp; try with_reducible rfl
        simp only [Act.put, List.getElem_toArray, List.getElem_cons_zero, List.getElem_cons_succ, List.setIfInBounds_toArray, List.set_cons_zero, List.set_cons_succ]
        refine wpAnyT_load (i := 7) (v := ?_) rfl (by kernel_rfl) (by kernel_rfl) (by kernel_rfl) (by kernel_rfl) (by kernel_rfl) (fun _ _ _ h => h) HSS.out (by rfl) ?_ ?_
        rotate_left
        · intro w hSw; skip; go_simp; try with_reducible rfl
        simp only [Act.put, List.getElem_toArray, List.getElem_cons_zero, List.getElem_cons_succ, List.setIfInBounds_toArray, List.set_cons_zero, List.set_cons_succ]
        refine wpAnyT_load (i := 8) (v := ?_) rfl (by kernel_rfl) (by kernel_rfl) (by kernel_rfl) (by kernel_rfl) (by kernel_rfl) (fun _ _ _ h => h) HSS.out (by rfl) ?_ ?_
        rotate_left
        · intro w hSw; have n0 := (HV.out.keep hSw).box.cell 0; simp only [winc, List.getElem?_toArray, List.getElem?_cons_succ, List.getElem?_cons_zero] at n0; go_simp; try with_reducible rfl
        simp only [Act.put, List.getElem_toArray, List.getElem_cons_zero, List.getElem_cons_succ, List.setIfInBounds_toArray, List.set_cons_zero, List.set_cons_succ]
        refine wpAnyT_load (i := 9) (v := ?_) rfl (by kernel_rfl) (by kernel_rfl) (by kernel_rfl) (by kernel_rfl) (by kernel_rfl) (fun _ _ _ h => h) HSS.out (by rfl) ?_ ?_
        rotate_left
        · intro w hSw; skip; go_simp; try with_reducible rfl
        simp only [Act.put, List.getElem_toArray, List.getElem_cons_zero, List.getElem_cons_succ, List.setIfInBounds_toArray, List.set_cons_zero, List.set_cons_succ]
        refine wpAnyT_load (i := 10) (v := ?_) rfl (by kernel_rfl) (by kernel_rfl) (by kernel_rfl) (by kernel_rfl) (by kernel_rfl) (fun _ _ _ h => h) HSS.out (by rfl) ?_ ?_
        rotate_left
        · intro w hSw; skip; go_simp; try with_reducible rfl
        simp only [Act.put, List.getElem_toArray, List.getElem_cons_zero, List.getElem_cons_succ, List.setIfInBounds_toArray, List.set_cons_zero, List.set_cons_succ]
        refine wpAnyT_done (by kernel_rfl) ?_ _
        have hF := HSS.out
        have HV := Lib.hid (HV.out.keep hF)
        have HF := Lib.hid (HF.out.trans hF.any)
        clear hF HSS
        have HE : Hid (OwnEls 2 OutR wd w.heap.size 54 (.slice none 0 0) (s1.all.filter fun o => o.n < s1.next) []) := Lib.hid (by rw [List.filter_eq_nil_iff.2 (fun o ho => by have := HI.out.low o ho; simp; omega)]; exact OwnEls.nil _ _ _)
        have HFA : Hid ((s1.all.filter fun o => !(o.n < s1.next)) = s1.all) := Lib.hid (List.filter_eq_self.2 (fun o ho => by have := HI.out.low o ho; simp; omega))
        go_upto_region 15 with fail
        refine wp_region_T (fun w' => Fr [] wd.drew w') [11] 12 #[false, false, false, false, false, false, false, false, false, false, false, false] (by kernel_rfl) rfl rfl ?_
        try simp only [List.append_eq, List.cons_append, List.nil_append]
        have hF := (Fr.refl [] wd).drew
        have HV := Lib.hid (HV.out.keep hF)
        have HF := Lib.hid (HF.out.trans hF.any)
        have HE := Lib.hid (HE.out.keep Rep.out hF)
        clear hF
        have HSS : Hid (Fr [] wd.drew wd.drew) := Lib.hid (Fr.refl _ _)
        generalize wd.drew = we at *
        refine wpAnyT_load (i := 0) (v := ?_) rfl (by kernel_rfl) (by kernel_rfl) (by kernel_rfl) (by kernel_rfl) (by kernel_rfl) (fun _ _ _ h => h) HSS.out (by rfl) ?_ ?_
        rotate_left
        · intro w hSw; skip; go_simp; try with_reducible rfl
        simp only [Act.put, List.getElem_toArray, List.getElem_cons_zero, List.getElem_cons_succ, List.setIfInBounds_toArray, List.set_cons_zero, List.set_cons_succ]
        refine wpAnyT_load (i := 1) (v := ?_) rfl (by kernel_rfl) (by kernel_rfl) (by kernel_rfl) (by kernel_rfl) (by kernel_rfl) (fun _ _ _ h => h) HSS.out (by rfl) ?_ ?_
        rotate_left
        · intro w hSw; skip; go_simp; try with_reducible rfl
        simp only [Act.put, List.getElem_toArray, List.getElem_cons_zero, List.getElem_cons_succ, List.setIfInBounds_toArray, List.set_cons_zero, List.set_cons_succ]
        refine wpAnyT_load (i := 2) (v := ?_) rfl (by kernel_rfl) (by kernel_rfl) (by kernel_rfl) (by kernel_rfl) (by kernel_rfl) (fun _ _ _ h => h) HSS.out (by rfl) ?_ ?_
        rotate_left
        · intro w hSw; skip; go_simp; try with_reducible rfl
        simp only [Act.put, List.getElem_toArray, List.getElem_cons_zero, List.getElem_cons_succ, List.setIfInBounds_toArray, List.set_cons_zero, List.set_cons_succ]
        refine wpAnyT_load (i := 3) (v := ?_) rfl (by kernel_rfl) (by kernel_rfl) (by kernel_rfl) (by kernel_rfl) (by kernel_rfl) (fun _ _ _ h => h) HSS.out (by rfl) ?_ ?_
        rotate_left
        · intro w hSw; have n0 := (HV.out.keep hSw).box.cell 6; simp only [winc, List.getElem?_toArray, List.getElem?_cons_succ, List.getElem?_cons_zero] at n0; go_simp; try with_reducible rfl
        simp only [Act.put, List.getElem_toArray, List.getElem_cons_zero, List.getElem_cons_succ, List.setIfInBounds_toArray, List.set_cons_zero, List.set_cons_succ]
        refine wpAnyT_load (i := 4) (v := ?_) rfl (by kernel_rfl) (by kernel_rfl) (by kernel_rfl) (by kernel_rfl) (by kernel_rfl) (fun _ _ _ h => h) HSS.out (by rfl) ?_ ?_
        rotate_left
        · intro w hSw; skip; go_simp; try with_reducible rfl
        simp only [Act.put, List.getElem_toArray, List.getElem_cons_zero, List.getElem_cons_succ, List.setIfInBounds_toArray, List.set_cons_zero, List.set_cons_succ]
        refine wpAnyT_load (i := 5) (v := ?_) rfl (by kernel_rfl) (by kernel_rfl) (by kernel_rfl) (by kernel_rfl) (by kernel_rfl) (fun _ _ _ h => h) HSS.out (by rfl) ?_ ?_
        rotate_left
        · intro w hSw; skip; go_simp; try with_reducible rfl
        simp only [Act.put, List.getElem_toArray, List.getElem_cons_zero, List.getElem_cons_succ, List.setIfInBounds_toArray, List.set_cons_zero, List.set_cons_succ]
        refine wpAnyT_load (i := 6) (v := ?_) rfl (by kernel_rfl) (by kernel_rfl) (by kernel_rfl) (by kernel_rfl) (by kernel_rfl) (fun _ _ _ h => h) HSS.out (by rfl) ?_ ?_
        rotate_left
        · intro w hSw; skip; go_simp; try with_reducible rfl
        simp only [Act.put, List.getElem_toArray, List.getElem_cons_zero, List.getElem_cons_succ, List.setIfInBounds_toArray, List.set_cons_zero, List.set_cons_succ]
        refine wpAnyT_load (i := 7) (v := ?_) rfl (by kernel_rfl) (by kernel_rfl) (by kernel_rfl) (by kernel_rfl) (by kernel_rfl) (fun _ _ _ h => h) HSS.out (by rfl) ?_ ?_
        rotate_left
        · intro w hSw; skip; go_simp; try with_reducible rfl
        simp only [Act.put, List.getElem_toArray, List.getElem_cons_zero, List.getElem_cons_succ, List.setIfInBounds_toArray, List.set_cons_zero, List.set_cons_succ]
        refine wpAnyT_load (i := 8) (v := ?_) rfl (by kernel_rfl) (by kernel_rfl) (by kernel_rfl) (by kernel_rfl) (by kernel_rfl) (fun _ _ _ h => h) HSS.out (by rfl) ?_ ?_
        rotate_left
        · intro w hSw; skip; go_simp; try with_reducible rfl
        simp only [Act.put, List.getElem_toArray, List.getElem_cons_zero, List.getElem_cons_succ, List.setIfInBounds_toArray, List.set_cons_zero, List.set_cons_succ]
        refine wpAnyT_load (i := 9) (v := ?_) rfl (by kernel_rfl) (by kernel_rfl) (by kernel_rfl) (by kernel_rfl) (by kernel_rfl) (fun _ _ _ h => h) HSS.out (by rfl) ?_ ?_
        rotate_left
        · intro w hSw; have n0 := (HV.out.keep hSw).box.cell 5; simp only [winc, List.getElem?_toArray, List.getElem?_cons_succ, List.getElem?_cons_zero] at n0; go_simp; try with_reducible rfl
        simp only [Act.put, List.getElem_toArray, List.getElem_cons_zero, List.getElem_cons_succ, List.setIfInBounds_toArray, List.set_cons_zero, List.set_cons_succ]
        refine wpAnyT_load (i := 10) (v := ?_) rfl (by kernel_rfl) (by kernel_rfl) (by kernel_rfl) (by kernel_rfl) (by kernel_rfl) (fun _ _ _ h => h) HSS.out (by rfl) ?_ ?_
        rotate_left
        · intro w hSw; skip; go_simp; try with_reducible rfl
        simp only [Act.put, List.getElem_toArray, List.getElem_cons_zero, List.getElem_cons_succ, List.setIfInBounds_toArray, List.set_cons_zero, List.set_cons_succ]
        refine wpAnyT_one (i := 11) (by kernel_rfl) rfl (fun K hK => ?_)
        have hF := HSS.out
        have HV := Lib.hid (HV.out.keep hF)
        have HF := Lib.hid (HF.out.trans hF.any)
        have HE := Lib.hid (HE.out.keep Rep.out hF)
        clear hF
        obtain ⟨D6, hD6⟩ := HV.out.map
        have HD6 := Lib.hid hD6
        have HL6 : Hid ((s1.all).length < maxLen) := Lib.hid (by have := HBB.out.2.2.1; unfold maxLen; omega)
        clear hD6
        refine wp_mapUpdate_own rfl _ _ _ 61 rfl 2 69 keyI64 Try.underlying61 heldW mb (s1.all).length D6 rfl HD6.out.own HL6.out (.int .i64 n) (hv ⟨n, x, s1.now⟩) (lkey n) rfl rfl (keyOf_int_mk Try.underlying2 (lkey_wf (by omega))) (.held (hv ⟨n, x, s1.now⟩)) [] rfl ?_
        intro wf hown hgr
        have hfr := ofGrown1 hgr
        have HMF := Lib.hid (HD6.out.put (o := ⟨n, x, s1.now⟩) HNN.out hown)
        have HFM := Lib.hid hfr
        have HBX := Lib.hid (HV.out.box.fr hfr (by have := HLT.out.2; simp; omega))
        have HEF := Lib.hid (HE.out.fr Rep.out hfr (by simp) (fun b hb hm => by have := (HE.out.block b hb).1; have := HLT.out.1; simp at hm; omega))
        have HFF := Lib.hid (HF.out.trans (hfr.mono (T := [g, mb]) (by simp)))
        clear hown hgr hfr HV HF HE
        refine hK.out _ _ (fun _ => by rename_i h; exact absurd (by simp) h) ?_
        clear hK K
        simp only [Act.put, List.getElem_toArray, List.getElem_cons_zero, List.getElem_cons_succ, List.setIfInBounds_toArray, List.set_cons_zero, List.set_cons_succ]
        refine wpAnyT_done (by kernel_rfl) ?_ _
        go_wp2_with fail
        go_ret2
        refine ⟨_, by rw [HP.out]; rfl, by rw [HP.out]; exact HEF.out, ?_, HFF.out⟩
        rw [HP.out]
        refine ⟨HBX.out, ?_, HLT.out.2⟩
        dsimp only
        rw [HFA.out]
        exact ⟨_, HMF.out⟩
end Go.Proofs.Ytbmpiemhfndnbaa

/- The document's window: its cells, the things it holds. -/
namespace Go.Proofs.Ytbmpiemhfndnbaa
open Go.RowKit

/-- A thing that is held, as the document has it. -/
abbrev onec (o : Held_) : Array Value := #[.int .i64 o.n, .int .i64 o.x, .int .i64 o.at_]
def OneR (_ : World) (c : List Value) (o : Held_) (B : List Nat) : Prop := c = (onec o).toList ∧ B = []
theorem Rep.held : Rep 3 OneR where
  len := by rintro w c y B ⟨rfl, -⟩; rfl
  one := by
    rintro w c y B ⟨rfl, -⟩ u hu
    simp at hu
    rcases hu with rfl | rfl | rfl <;> rfl
  lt := by rintro w c y B ⟨-, rfl⟩ b hb; cases hb
  fr := by rintro w w' c y B S h _ _; exact h
set_option maxRecDepth 100000 in
theorem info_held : (Try.prog.info? 76).map (fun i => (i.zero, i.size, i.bytes)) = some (some (.agg #[.int .i64 0, .int .i64 0, .int .i64 0]), 3, 24) := by kernel_rfl
/-- The document's window as cells. -/
abbrev rw6 (size wait : Int) (v : Value) (next hi now : Int) : Array Value := #[.int .i64 size, .int .i64 wait, v, .int .i64 next, .int .i64 hi, .int .i64 now]
def rnx (s : Win) : Int := match s.hi with | none => -1 | some _ => s.next
def rhi (s : Win) : Int := s.hi.getD (-1)
abbrev rwc (s : Win) (v : Value) : Array Value := rw6 s.size s.wait v (rnx s) (rhi s) s.now
theorem one_rw6 {size wait next hi now : Int} {a : Option Addr} {n c : Nat} : ∀ u ∈ (rw6 size wait (.slice a n c) next hi now).toList, u.oneCell' = true := by
  intro u hu
  simp at hu
  rcases hu with rfl | rfl | rfl | rfl | rfl | rfl <;> rfl
/-- A slice without its first element. -/
theorem SlEls.tail {w : World} {b o n cap : Nat} {y : Held_} {ys : List Held_} (h : SlEls 3 OneR w (.slice (some ⟨b, o, none⟩) n cap) (y :: ys) []) :
    SlEls 3 OneR w (.slice (if cap = 1 then some ⟨b, o, none⟩ else some ⟨b, o + 3, none⟩) (n - 1) (cap - 1)) ys [] := by
  obtain ⟨cells, a, cap', e, h1, h2, h3, h4, h5⟩ := h
  simp only [Value.slice.injEq] at e
  obtain ⟨rfl, rfl, rfl⟩ := e
  obtain ⟨c, rest, B1, B2, rfl, hB, ⟨rfl, rfl⟩, h6⟩ := h4
  obtain rfl : B2 = [] := by simpa using hB.symm
  rw [List.length_cons] at h1 ⊢
  refine ⟨rest, _, cap - 1, rfl, by omega, by omega, fun e => ?_, h6, fun p hp h0 => ?_⟩
  · split at e <;> cases e
  · rw [if_neg (by omega)] at hp
    cases hp
    obtain ⟨-, g2, g3⟩ := h5 _ rfl (by omega)
    refine ⟨rfl, g2, fun i x hx => ?_⟩
    have := g3 (3 + i) x (by rw [List.getElem?_append_right (by simp)]; simpa using hx)
    simpa [Nat.add_assoc] using this
theorem dueL_snoc {wait : Int} {l : List Held_} {o : Held_} : dueL wait (l ++ [o]) = some (match dueL wait l with | none => o.at_ + wait | some d => if o.at_ + wait < d then o.at_ + wait else d) := by
  cases h : dueL wait l with
  | none => rw [dueL_none] at h; subst h; rfl
  | some d =>
    have h1 := dueL_le h
    obtain ⟨p, hp, h2⟩ := dueL_mem h
    refine dueL_of (fun q hq => ?_) ?_
    · rcases List.mem_append.1 hq with hq | hq
      · have := h1 q hq; simp only; split <;> omega
      · simp at hq; subst hq; simp only; split <;> omega
    · simp only
      split
      · exact ⟨o, by simp, rfl⟩
      · exact ⟨p, by simp [hp], h2⟩
theorem insW_last {o : Held_} : ∀ {l : List Held_}, (∀ p ∈ l, p.n ≤ o.n) → insW o l = l ++ [o]
  | [], _ => rfl
  | q :: l, h => by
    unfold insW
    rw [if_neg (by have := h q (by simp); omega), insW_last (fun p hp => h p (by simp [hp]))]
    rfl
theorem insW_mid {o q : Held_} (hq : o.n < q.n) : ∀ {l : List Held_}, (∀ p ∈ l, p.n ≤ o.n) → insW o (l ++ [q]) = l ++ [o] ++ [q]
  | [], _ => by show insW o [q] = _; unfold insW; rw [if_pos hq]; rfl
  | p :: l, h => by
    show insW o (p :: (l ++ [q])) = _
    unfold insW
    rw [if_neg (by have := h p (by simp); omega), insW_mid hq (fun p hp => h p (by simp [hp]))]
    rfl
theorem insW_app {o q : Held_} : ∀ {l : List Held_}, (∃ p ∈ l, o.n < p.n) → insW o (l ++ [q]) = insW o l ++ [q]
  | [], h => by obtain ⟨p, hp, -⟩ := h; cases hp
  | p :: l, h => by
    show insW o (p :: (l ++ [q])) = _
    unfold insW
    split
    · rfl
    · rename_i hn
      have : ∃ r ∈ l, o.n < r.n := by
        obtain ⟨r, hr, h1⟩ := h
        rcases List.mem_cons.1 hr with rfl | hr
        · exact absurd h1 hn
        · exact ⟨r, hr, h1⟩
      rw [insW_app this]
      rfl
end Go.Proofs.Ytbmpiemhfndnbaa
