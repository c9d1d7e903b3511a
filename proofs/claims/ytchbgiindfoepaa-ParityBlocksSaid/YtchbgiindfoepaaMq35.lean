import Derived.Test.YtchbgiindfoepaaMq34
import Derived.Test.YtchbgiindfoepaaMq27
/- The walk of confluxref01.Sorted (printed by gen_ref01b.py). -/
namespace Go.Proofs.Ytchbgiindfoepaa
open Go.RowKit

def inOrd (x : UInt16) (l : List UInt16) : Prop := l.Pairwise fun a b => ahd a x ≤ ahd b x
theorem ins_ord {x n : UInt16} {l : List UInt16} {a : Nat} (h : inOrd x l) (h1 : ∀ i (hi : i < l.length), a ≤ i → ahd n x < ahd l[i] x) (h2 : ∀ i (hi : i < l.length), i < a → ahd l[i] x ≤ ahd n x) : inOrd x (l.take a ++ [n] ++ l.drop a) := by
  unfold inOrd at *
  rw [List.append_assoc, List.pairwise_append]
  have hp := h
  rw [← List.take_append_drop a l, List.pairwise_append] at hp
  refine ⟨hp.1, ?_, ?_⟩
  · rw [List.singleton_append, List.pairwise_cons]
    refine ⟨fun b hb => ?_, hp.2.1⟩
    obtain ⟨i, hi, rfl⟩ := List.getElem_of_mem hb
    rw [List.length_drop] at hi
    rw [List.getElem_drop]
    exact Int.le_of_lt (h1 (a + i) (by omega) (by omega))
  · intro b hb c hc
    rw [List.singleton_append, List.mem_cons] at hc
    rcases hc with rfl | hc
    · obtain ⟨i, hi, rfl⟩ := List.getElem_of_mem hb
      rw [List.length_take] at hi
      rw [List.getElem_take]
      exact h2 i (by omega) (by omega)
    · exact hp.2.2 b hb c hc
theorem ins_perm {n : UInt16} {l m : List UInt16} (a : Nat) (h : l.Perm m) : (l.take a ++ [n] ++ l.drop a).Perm (m ++ [n]) := by
  have h1 : (l.take a ++ [n] ++ l.drop a).Perm (l.take a ++ l.drop a ++ [n]) := by
    rw [List.append_assoc, List.append_assoc]
    exact List.Perm.append_left _ List.perm_append_comm
  rw [List.take_append_drop] at h1
  exact h1.trans (h.append_right [n])
theorem ord_at {x : UInt16} {l : List UInt16} (h : inOrd x l) {i j : Nat} (hij : i ≤ j) (hj : j < l.length) : ahd (l[i]'(by omega)) x ≤ ahd l[j] x := by
  rcases Nat.eq_or_lt_of_le hij with e | e
  · subst e; exact Int.le_refl _
  · exact List.pairwise_iff_getElem.1 h i j (by omega) hj e
theorem own_some {w : World} {base : Nat} {v : Value} {l : List UInt16} (h : OwnV w base 42 W16 v l) (hl : l ≠ []) : ∃ g c, v = .slice (some ⟨g, 0, none⟩) l.length c := by
  rcases h.2 with ⟨-, h0⟩ | ⟨g, cap, cur, e, -⟩
  · exact absurd (List.eq_nil_of_length_eq_zero h0) hl
  · exact ⟨g, cap, e⟩
set_option maxRecDepth 100000 in
set_option maxHeartbeats 8000000 in
theorem r01Sorted_any {w : World} {v : Value} {x : UInt16} {ns : List UInt16} (hx : Seqs w v ns) (hs : ns.length ≤ 1000) (h0 : ns.head? = some x) :
    Calls Try.prog 115 #[v] w fun e w' => ∃ v' out, e = .returned v' ∧ OwnV w' w.heap.size 42 W16 v' out ∧ out.Perm ns ∧ inOrd x out ∧ Fr [] w w' := by
  obtain ⟨av, cv, rfl⟩ := Sl.shape hx
  rw [List.length_map] at hx ⊢
  obtain ⟨w1, e1, hF, hB1, hs1⟩ := one_new w #[] 42
  have HO : Hid (OwnV w1 w.heap.size 42 W16 (.slice (some ⟨w.heap.size, 0, none⟩) 0 0) []) := Lib.hid (by subst e1; exact OwnV.made w w.heap.size _ _ (Nat.le_refl _))
  have hpos : 0 < ns.length := by cases ns with | nil => cases h0 | cons a l => simp
  have hx0 : ns[0] = x := by cases ns with | nil => cases h0 | cons a l => simpa using h0
  obtain ⟨b, o, ea, -, -⟩ := Sl.at_ hx hpos
  subst ea
  have HC0 : Hid (w.cell? ⟨b, o, none⟩ = some (.int .u16 (x.toNat : Nat))) := Lib.hid (by
    obtain ⟨b', o', e, -, hc⟩ := Sl.at_ hx hpos
    cases e
    have := hc 0 (W16 ns[0]) (by rw [List.getElem?_map, List.getElem?_eq_getElem hpos]; rfl)
    rw [hx0] at this
    simpa [W16] using this)
  have E1 := Lib.hid e1; have HF := Lib.hid hF; have HX0 := Lib.hid hx
  clear e1 hF hB1 hs1 hx h0 hx0
  go_enter Try.func115, Try.ntmps115
  go_upto_region 3 with fail
  try rw [E1.out]
  clear E1
  go_loopw [3, 4] (fun ov iv wr => ∃ (j g c : Nat) (out : List UInt16), j ≤ ns.length ∧ iv = .int .i64 j ∧ ov = .slice (some ⟨g, 0, none⟩) out.length c ∧ OwnV wr w.heap.size 42 W16 (.slice (some ⟨g, 0, none⟩) out.length c) out ∧ out.Perm (ns.take j) ∧ inOrd x out ∧ Fr [] w wr) (fun _ iv _ => ns.length - (intOf iv).toNat)
  case atStart => exact ⟨0, _, _, [], by omega, rfl, rfl, HO.out, List.Perm.refl _, List.Pairwise.nil, HF.out⟩
  case round =>
    clear HO HF
    obtain ⟨j, g, c, out, hj, rfl, rfl, hO, hP, hI, hF⟩ := hrel
    have hlo : out.length = j := by rw [hP.length_eq, List.length_take]; omega
    have HO := Lib.hid hO; have HP := Lib.hid hP; have HI := Lib.hid hI; have HFQ := Lib.hid hF
    have hcp := (Sl.len hO.sl).2
    unfold maxLen at hcp
    clear hO hP hI hF
    by_cases hlt : j < ns.length
    · have HT : Hid (ns.take (j + 1) = ns.take j ++ [ns[j]]) := Lib.hid (List.take_succ_eq_append_getElem hlt)
      have HC : Hid (w.cell? ⟨b, o + j, none⟩ = some (.int .u16 (ns[j].toNat : Nat))) := Lib.hid (by
        obtain ⟨b', o', e, -, hc⟩ := Sl.at_ HX0.out hlt
        cases e
        exact hc j (W16 ns[j]) (by rw [List.getElem?_map, List.getElem?_eq_getElem hlt]; rfl))
      generalize ns[j] = n at *
      have HLO := Lib.hid hlo
      clear hlo
      rw [HLO.out] at HO hcp ⊢
      go_wp2_with fail
      go_loopw [5] (fun av wz => ∃ a : Nat, a ≤ j ∧ av = .int .i64 a ∧ (∀ i (hi : i < out.length), a ≤ i → ahd n x < ahd out[i] x) ∧ Fr [] wr wz) (fun av _ => (intOf av).toNat)
      case atStart => exact ⟨j, Nat.le_refl _, rfl, fun i hi h => absurd hi (by rw [HLO.out]; omega), Fr.refl _ _⟩
      case round =>
        obtain ⟨a, ha, rfl, hgt, hFz⟩ := hrel
        have HGT := Lib.hid hgt; have HFZ := Lib.hid hFz
        clear hgt hFz
        have HO := Lib.hid (HO.out.keep HFZ.out); have HFQ := Lib.hid (HFQ.out.trans HFZ.out)
        have HCZ := Lib.hid (HFQ.out.cellSome HC.out (by simp)); have HXZ := Lib.hid (HFQ.out.cellSome HC0.out (by simp))
        by_cases ha0 : a = 0
        · subst ha0
          have HLE : Hid (∀ i (hi : i < out.length), i < 0 → ahd out[i] x ≤ ahd n x) := Lib.hid (fun i hi h => absurd h (by omega))
          go_upto_region 6 with fail
          refine wp_region_T (fun w' => Fr [] wr.drew w') [] 22 #[false, false, false, false, false, false, false, false, false, false, false, false, false, false, false, false, false, false, false, false, false, false] (by kernel_rfl) rfl rfl ?_
          try simp only [List.append_eq, List.cons_append, List.nil_append]
          have hF := (Fr.refl [] wr).drew
          have HO := Lib.hid (HO.out.keep hF)
          have HFQ := Lib.hid (HFQ.out.trans hF)
          have HCZ := Lib.hid (hF.cellSome HCZ.out (by simp))
          have HXZ := Lib.hid (hF.cellSome HXZ.out (by simp))
          clear hF
          have HSS : Hid (Fr [] wr.drew wr.drew) := Lib.hid (Fr.refl _ _)
          generalize wr.drew = wd at *
          refine wpAnyT_load (i := 0) (v := ?_) rfl (by kernel_rfl) (by kernel_rfl) (by kernel_rfl) (by kernel_rfl) (by kernel_rfl) (fun _ _ _ h => h) HSS.out (by rfl) ?_ ?_
          rotate_left
          · intro w hSw; skip; go_simp; try with_reducible rfl
          simp only [Act.put, List.getElem_toArray, List.getElem_cons_zero, List.getElem_cons_succ, List.setIfInBounds_toArray, List.set_cons_zero, List.set_cons_succ]
          refine wpAnyT_load (i := 1) (v := ?_) rfl (by kernel_rfl) (by kernel_rfl) (by kernel_rfl) (by kernel_rfl) (by kernel_rfl) (fun _ _ _ h => h) HSS.out (by rfl) ?_ ?_
          rotate_left
          · intro w hSw; skip; go_simp; try with_reducible rfl
          simp only [Act.put, List.getElem_toArray, List.getElem_cons_zero, List.getElem_cons_succ, List.setIfInBounds_toArray, List.set_cons_zero, List.set_cons_succ]
          refine wpAnyT_load (i := 2) (v := ?_) rfl (by kernel_rfl) (by kernel_rfl) (by kernel_rfl) (by kernel_rfl) (by kernel_rfl) (fun _ _ _ h => h) HSS.out (by rfl) ?_ ?_
          rotate_left
          · intro w hSw; skip; go_simp; try with_reducible rfl
          simp only [Act.put, List.getElem_toArray, List.getElem_cons_zero, List.getElem_cons_succ, List.setIfInBounds_toArray, List.set_cons_zero, List.set_cons_succ]
          refine wpAnyT_skip (i := 3) rfl (by kernel_rfl) (by kernel_rfl) (by kernel_rfl) (by kernel_rfl) (by kernel_rfl) (fun _ _ _ h => h) HSS.out (by rfl) ?_
          simp only [Act.put, List.getElem_toArray, List.getElem_cons_zero, List.getElem_cons_succ, List.setIfInBounds_toArray, List.set_cons_zero, List.set_cons_succ]
          refine wpAnyT_skip (i := 4) rfl (by kernel_rfl) (by kernel_rfl) (by kernel_rfl) (by kernel_rfl) (by kernel_rfl) (fun _ _ _ h => h) HSS.out (by rfl) ?_
          simp only [Act.put, List.getElem_toArray, List.getElem_cons_zero, List.getElem_cons_succ, List.setIfInBounds_toArray, List.set_cons_zero, List.set_cons_succ]
          refine wpAnyT_skip (i := 5) rfl (by kernel_rfl) (by kernel_rfl) (by kernel_rfl) (by kernel_rfl) (by kernel_rfl) (fun _ _ _ h => h) HSS.out (by rfl) ?_
          simp only [Act.put, List.getElem_toArray, List.getElem_cons_zero, List.getElem_cons_succ, List.setIfInBounds_toArray, List.set_cons_zero, List.set_cons_succ]
          refine wpAnyT_skip (i := 6) rfl (by kernel_rfl) (by kernel_rfl) (by kernel_rfl) (by kernel_rfl) (by kernel_rfl) (fun _ _ _ h => h) HSS.out (by rfl) ?_
          simp only [Act.put, List.getElem_toArray, List.getElem_cons_zero, List.getElem_cons_succ, List.setIfInBounds_toArray, List.set_cons_zero, List.set_cons_succ]
          refine wpAnyT_skip (i := 7) rfl (by kernel_rfl) (by kernel_rfl) (by kernel_rfl) (by kernel_rfl) (by kernel_rfl) (fun _ _ _ h => h) HSS.out (by rfl) ?_
          simp only [Act.put, List.getElem_toArray, List.getElem_cons_zero, List.getElem_cons_succ, List.setIfInBounds_toArray, List.set_cons_zero, List.set_cons_succ]
          refine wpAnyT_skip (i := 8) rfl (by kernel_rfl) (by kernel_rfl) (by kernel_rfl) (by kernel_rfl) (by kernel_rfl) (fun _ _ _ h => h) HSS.out (by rfl) ?_
          simp only [Act.put, List.getElem_toArray, List.getElem_cons_zero, List.getElem_cons_succ, List.setIfInBounds_toArray, List.set_cons_zero, List.set_cons_succ]
          refine wpAnyT_skip (i := 9) rfl (by kernel_rfl) (by kernel_rfl) (by kernel_rfl) (by kernel_rfl) (by kernel_rfl) (fun _ _ _ h => h) HSS.out (by rfl) ?_
          simp only [Act.put, List.getElem_toArray, List.getElem_cons_zero, List.getElem_cons_succ, List.setIfInBounds_toArray, List.set_cons_zero, List.set_cons_succ]
          refine wpAnyT_skip (i := 10) rfl (by kernel_rfl) (by kernel_rfl) (by kernel_rfl) (by kernel_rfl) (by kernel_rfl) (fun _ _ _ h => h) HSS.out (by rfl) ?_
          simp only [Act.put, List.getElem_toArray, List.getElem_cons_zero, List.getElem_cons_succ, List.setIfInBounds_toArray, List.set_cons_zero, List.set_cons_succ]
          refine wpAnyT_skip (i := 12) rfl (by kernel_rfl) (by kernel_rfl) (by kernel_rfl) (by kernel_rfl) (by kernel_rfl) (fun _ _ _ h => h) HSS.out (by rfl) ?_
          simp only [Act.put, List.getElem_toArray, List.getElem_cons_zero, List.getElem_cons_succ, List.setIfInBounds_toArray, List.set_cons_zero, List.set_cons_succ]
          refine wpAnyT_skip (i := 13) rfl (by kernel_rfl) (by kernel_rfl) (by kernel_rfl) (by kernel_rfl) (by kernel_rfl) (fun _ _ _ h => h) HSS.out (by rfl) ?_
          simp only [Act.put, List.getElem_toArray, List.getElem_cons_zero, List.getElem_cons_succ, List.setIfInBounds_toArray, List.set_cons_zero, List.set_cons_succ]
          refine wpAnyT_skip (i := 14) rfl (by kernel_rfl) (by kernel_rfl) (by kernel_rfl) (by kernel_rfl) (by kernel_rfl) (fun _ _ _ h => h) HSS.out (by rfl) ?_
          simp only [Act.put, List.getElem_toArray, List.getElem_cons_zero, List.getElem_cons_succ, List.setIfInBounds_toArray, List.set_cons_zero, List.set_cons_succ]
          refine wpAnyT_skip (i := 15) rfl (by kernel_rfl) (by kernel_rfl) (by kernel_rfl) (by kernel_rfl) (by kernel_rfl) (fun _ _ _ h => h) HSS.out (by rfl) ?_
          simp only [Act.put, List.getElem_toArray, List.getElem_cons_zero, List.getElem_cons_succ, List.setIfInBounds_toArray, List.set_cons_zero, List.set_cons_succ]
          refine wpAnyT_skip (i := 16) rfl (by kernel_rfl) (by kernel_rfl) (by kernel_rfl) (by kernel_rfl) (by kernel_rfl) (fun _ _ _ h => h) HSS.out (by rfl) ?_
          simp only [Act.put, List.getElem_toArray, List.getElem_cons_zero, List.getElem_cons_succ, List.setIfInBounds_toArray, List.set_cons_zero, List.set_cons_succ]
          refine wpAnyT_skip (i := 17) rfl (by kernel_rfl) (by kernel_rfl) (by kernel_rfl) (by kernel_rfl) (by kernel_rfl) (fun _ _ _ h => h) HSS.out (by rfl) ?_
          simp only [Act.put, List.getElem_toArray, List.getElem_cons_zero, List.getElem_cons_succ, List.setIfInBounds_toArray, List.set_cons_zero, List.set_cons_succ]
          refine wpAnyT_skip (i := 18) rfl (by kernel_rfl) (by kernel_rfl) (by kernel_rfl) (by kernel_rfl) (by kernel_rfl) (fun _ _ _ h => h) HSS.out (by rfl) ?_
          simp only [Act.put, List.getElem_toArray, List.getElem_cons_zero, List.getElem_cons_succ, List.setIfInBounds_toArray, List.set_cons_zero, List.set_cons_succ]
          refine wpAnyT_skip (i := 11) rfl (by kernel_rfl) (by kernel_rfl) (by kernel_rfl) (by kernel_rfl) (by kernel_rfl) (fun _ _ _ h => h) HSS.out (by rfl) ?_
          simp only [Act.put, List.getElem_toArray, List.getElem_cons_zero, List.getElem_cons_succ, List.setIfInBounds_toArray, List.set_cons_zero, List.set_cons_succ]
          refine wpAnyT_skip (i := 19) rfl (by kernel_rfl) (by kernel_rfl) (by kernel_rfl) (by kernel_rfl) (by kernel_rfl) (fun _ _ _ h => h) HSS.out (by rfl) ?_
          simp only [Act.put, List.getElem_toArray, List.getElem_cons_zero, List.getElem_cons_succ, List.setIfInBounds_toArray, List.set_cons_zero, List.set_cons_succ]
          refine wpAnyT_skip (i := 20) rfl (by kernel_rfl) (by kernel_rfl) (by kernel_rfl) (by kernel_rfl) (by kernel_rfl) (fun _ _ _ h => h) HSS.out (by rfl) ?_
          simp only [Act.put, List.getElem_toArray, List.getElem_cons_zero, List.getElem_cons_succ, List.setIfInBounds_toArray, List.set_cons_zero, List.set_cons_succ]
          refine wpAnyT_load (i := 21) (v := ?_) rfl (by kernel_rfl) (by kernel_rfl) (by kernel_rfl) (by kernel_rfl) (by kernel_rfl) (fun _ _ _ h => h) HSS.out (by rfl) ?_ ?_
          rotate_left
          · intro w hSw; skip; go_simp; try with_reducible rfl
          simp only [Act.put, List.getElem_toArray, List.getElem_cons_zero, List.getElem_cons_succ, List.setIfInBounds_toArray, List.set_cons_zero, List.set_cons_succ]
          refine wpAnyT_done (by kernel_rfl) ?_ _
          have hF := HSS.out
          have HO := Lib.hid (HO.out.keep hF)
          have HFQ := Lib.hid (HFQ.out.trans hF)
          have HCZ := Lib.hid (hF.cellSome HCZ.out (by simp))
          have HXZ := Lib.hid (hF.cellSome HXZ.out (by simp))
          clear hF HSS
          obtain ⟨N0, hN0⟩ : ∃ N0, wd.heap.size = N0 := ⟨_, rfl⟩
          have HGN : Hid (g < N0) := Lib.hid (by have := (HO.out.block g rfl).2; omega)
          have HSZ : Hid (N0 ≤ wd.heap.size) := Lib.hid (by omega)
          have HWN : Hid (w.heap.size ≤ N0) := Lib.hid (by have := HFQ.out.size; omega)
          obtain ⟨w5, e5, hF5, hB5, -⟩ := one_new wd #[] 42
          have HN : Hid (OwnV w5 N0 42 W16 (.slice (some ⟨N0, 0, none⟩) 0 0) []) := Lib.hid (by subst e5; rw [← hN0]; exact OwnV.made wd wd.heap.size _ _ (Nat.le_refl _))
          have HO := Lib.hid (HO.out.keep hF5); have HFQ := Lib.hid (HFQ.out.trans hF5); have HCZ := Lib.hid (hF5.cellSome HCZ.out (by simp)); have HSZ : Hid (N0 ≤ w5.heap.size) := Lib.hid (Nat.le_trans HSZ.out hF5.size)
          have E5 := Lib.hid e5
          clear e5 hF5 hB5
          go_upto_region 9 with fail
          rw [hN0] at *
          clear hN0
          rw [E5.out]
          clear E5
          have HB4 := Lib.hid HN.out.block
          have HB4 : Hid (∀ x, blockOf (.slice (some ⟨N0, 0, none⟩) 0 0) = some x → N0 ≤ x) := Lib.hid (fun x hx => (HB4.out x hx).1)
          have A1 : Hid ((([] : List UInt16)).length + ((out.take 0).map W16).length ≤ maxLen) := Lib.hid (by have := HLO.out; unfold maxLen; first | (simp; done) | (simp; omega))
          have A2 : Hid (((([] : List UInt16)).length + ((out.take 0).map W16).length) * 2 ≤ 140737488355328) := Lib.hid (by have := HLO.out; first | (simp; done) | (simp; omega))
          have A3 : Hid (Sl w5 (.slice (some ⟨g, 0, none⟩) 0 c) ((out.take 0).map W16)) := Lib.hid ((by rw [List.map_take]; exact Sl.pre HO.out.sl 0 c (by omega) (by omega) (Nat.le_refl _)))
          have A4 : Hid (N0 ≤ w5.heap.size) := Lib.hid HSZ.out
          go_upto_region 10 with (at_builtin; refine wpList_append_slf rfl (.tmp 41) (.tmp 44) 77 rfl N0 42 (.int .u16 0) 2 Try.underlying77 info_u16 rfl (.slice (some ⟨N0, 0, none⟩) 0 0) (([] : List UInt16)).length ((([] : List UInt16)).map W16) rfl HN.out (.slice (some ⟨g, 0, none⟩) 0 c) ((out.take 0).map W16) rfl A3.out (by intro u hu; obtain ⟨q, -, rfl⟩ := List.mem_map.1 hu; rfl) A1.out A2.out A4.out ?_; intro v6 w6 ho hg hfr; have HO3 := Lib.hid ho; have HG := Lib.hid hg; clear ho hg hfr)
          have HN : Hid (OwnV w6 N0 42 W16 v6 (([] : List UInt16) ++ out.take 0)) := Lib.hid (by
            have := HO3.out
            unfold OwnV
            rw [List.map_append, List.length_append]
            simpa using this)
          rw [List.nil_append] at HN
          obtain ⟨a6, n6, c6, rfl⟩ := HN.out.isSlice
          have HO : Hid (OwnV w6 w.heap.size 42 W16 (.slice (some ⟨g, 0, none⟩) j c) out) := Lib.hid (Own.fr HO.out HG.out (fun b hb hm => by have h1 := (HB4.out b (mem_toList.1 hm)); simp [blockOf] at hb; have := HGN.out; omega))
          have HFQ := Lib.hid (HFQ.out.step HG.out (fun b hb => .inr (by have h1 := HB4.out b (mem_toList.1 hb); have := HWN.out; omega)))
          have HCZ : Hid (w6.cell? ⟨b, o + j, none⟩ = some (.int .u16 (n.toNat : Nat))) := Lib.hid (HFQ.out.cellSome HC.out (by simp))
          have HSZ : Hid (N0 ≤ w6.heap.size) := Lib.hid (Nat.le_trans HSZ.out HG.out.size)
          have d9 := HCZ.out
          obtain ⟨w7, e7, hF7, hB7, -⟩ := one_new w6 #[.int .u16 (n.toNat : Nat)] 42
          have E7 := Lib.hid e7
          have HN := Lib.hid (HN.out.keep hF7); have HO := Lib.hid (HO.out.keep hF7); have HFQ := Lib.hid (HFQ.out.trans hF7); have HCZ := Lib.hid (hF7.cellSome HCZ.out (by simp)); have HSZ : Hid (N0 ≤ w7.heap.size) := Lib.hid (Nat.le_trans HSZ.out hF7.size)
          have HS1 : Hid (Sl w7 (.slice (some ⟨w6.heap.size, 0, none⟩) 1 1) (([n] : List UInt16).map W16)) := Lib.hid (by subst e7; exact Sl.one w6 _ _)
          clear e7 hF7 hB7
          have HB4 := Lib.hid HN.out.block
          have HB4 : Hid (∀ x, blockOf (.slice a6 n6 c6) = some x → N0 ≤ x) := Lib.hid (fun x hx => (HB4.out x hx).1)
          have A1 : Hid ((out.take 0).length + ((([n] : List UInt16)).map W16).length ≤ maxLen) := Lib.hid (by have := HLO.out; unfold maxLen; first | (simp; done) | (simp; omega))
          have A2 : Hid (((out.take 0).length + ((([n] : List UInt16)).map W16).length) * 2 ≤ 140737488355328) := Lib.hid (by have := HLO.out; first | (simp; done) | (simp; omega))
          have A3 : Hid (Sl w7 (.slice (some ⟨w6.heap.size, 0, none⟩) 1 1) ((([n] : List UInt16)).map W16)) := Lib.hid (HS1.out)
          have A4 : Hid (N0 ≤ w7.heap.size) := Lib.hid HSZ.out
          go_upto_region 11 with (at_builtin; (rw [E7.out]); refine wpList_append_slf rfl (.tmp 46) (.tmp 51) 77 rfl N0 42 (.int .u16 0) 2 Try.underlying77 info_u16 rfl (.slice a6 n6 c6) (out.take 0).length ((out.take 0).map W16) rfl HN.out (.slice (some ⟨w6.heap.size, 0, none⟩) 1 1) ((([n] : List UInt16)).map W16) rfl A3.out (by intro u hu; obtain ⟨q, -, rfl⟩ := List.mem_map.1 hu; rfl) A1.out A2.out A4.out ?_; intro v8 w8 ho hg hfr; have HO3 := Lib.hid ho; have HG := Lib.hid hg; clear ho hg hfr)
          have HN : Hid (OwnV w8 N0 42 W16 v8 (out.take 0 ++ ([n] : List UInt16))) := Lib.hid (by
            have := HO3.out
            unfold OwnV
            rw [List.map_append, List.length_append]
            simpa using this)
          obtain ⟨a8, n8, c8, rfl⟩ := HN.out.isSlice
          clear d9
          have HO : Hid (OwnV w8 w.heap.size 42 W16 (.slice (some ⟨g, 0, none⟩) j c) out) := Lib.hid (Own.fr HO.out HG.out (fun b hb hm => by have h1 := (HB4.out b (mem_toList.1 hm)); simp [blockOf] at hb; have := HGN.out; omega))
          have HFQ := Lib.hid (HFQ.out.step HG.out (fun b hb => .inr (by have h1 := HB4.out b (mem_toList.1 hb); have := HWN.out; omega)))
          have HCZ : Hid (w8.cell? ⟨b, o + j, none⟩ = some (.int .u16 (n.toNat : Nat))) := Lib.hid (HFQ.out.cellSome HC.out (by simp))
          have HSZ : Hid (N0 ≤ w8.heap.size) := Lib.hid (Nat.le_trans HSZ.out HG.out.size)
          obtain ⟨q, hq⟩ : ∃ qq, (if c = 0 then some (⟨g, 0, none⟩ : Addr) else some ⟨g, 0 + 0, none⟩) = qq := ⟨_, rfl⟩
          have HN8 := HN
          have HSD : Hid (Sl w8 (.slice (some ⟨g, 0, none⟩) j c) ((out.drop 0).map W16)) := Lib.hid (by
            exact HO.out.sl
            done)
          have HSD9 : Hid (Sl w8 (.slice q (j - 0) (c - 0)) ((out.drop 0).map W16)) := Lib.hid (by
            have h1 := Sl.sub' HO.out.sl 0 (j - 0) (by omega)
            rw [hq, List.take_of_length_le (by rw [List.length_drop, List.length_map, HLO.out]; exact Nat.le_refl _)] at h1
            rw [List.map_drop]
            exact h1)
          have hq2 : (if c = 0 then some (⟨g, 0, none⟩ : Addr) else some ⟨g, 0, none⟩) = q := by rw [← hq, Nat.zero_add]
          have hca : 0 ≤ c := by omega
          have HB4 := Lib.hid HN.out.block
          have HB4 : Hid (∀ x, blockOf (.slice a8 n8 c8) = some x → N0 ≤ x) := Lib.hid (fun x hx => (HB4.out x hx).1)
          have A1 : Hid (((out.take 0 ++ [n])).length + ((out.drop 0).map W16).length ≤ maxLen) := Lib.hid (by have := HLO.out; unfold maxLen; first | (simp; done) | (simp; omega))
          have A2 : Hid ((((out.take 0 ++ [n])).length + ((out.drop 0).map W16).length) * 2 ≤ 140737488355328) := Lib.hid (by have := HLO.out; first | (simp; done) | (simp; omega))
          have A3 : Hid (Sl w8 (.slice (some ⟨g, 0, none⟩) j c) ((out.drop 0).map W16)) := Lib.hid (HSD.out)
          have A4 : Hid (N0 ≤ w8.heap.size) := Lib.hid HSZ.out
          go_wp2_with (at_builtin; refine wpList_append_slf rfl (.tmp 53) (.tmp 56) 77 rfl N0 42 (.int .u16 0) 2 Try.underlying77 info_u16 rfl (.slice a8 n8 c8) ((out.take 0 ++ [n])).length (((out.take 0 ++ [n])).map W16) rfl HN.out (.slice (some ⟨g, 0, none⟩) j c) ((out.drop 0).map W16) rfl A3.out (by intro u hu; obtain ⟨q, -, rfl⟩ := List.mem_map.1 hu; rfl) A1.out A2.out A4.out ?_; intro v9 w9 ho hg hfr; have HO3 := Lib.hid ho; have HG := Lib.hid hg; clear ho hg hfr)
          have HN : Hid (OwnV w9 N0 42 W16 v9 ((out.take 0 ++ [n]) ++ out.drop 0)) := Lib.hid (by
            have := HO3.out
            unfold OwnV
            rw [List.map_append, List.length_append]
            simpa using this)
          have hll : (out.take 0 ++ [n] ++ out.drop 0).length = j + 1 := by have := HLO.out; simp; omega
          obtain ⟨g9, c9, e9⟩ := own_some HN.out (fun e => by rw [e] at hll; simp at hll)
          subst e9
          have HF9 : Hid (Fr [] w w9) := Lib.hid (HFQ.out.step HG.out (fun x hx => .inr (by have h1 := (HN8.out.block x (mem_toList.1 hx)).1; have := HWN.out; omega)))
          have HPP : Hid ((out.take 0 ++ [n] ++ out.drop 0).Perm (ns.take (j + 1))) := Lib.hid (by rw [HT.out]; exact ins_perm 0 HP.out)
          have HII : Hid (inOrd x (out.take 0 ++ [n] ++ out.drop 0)) := Lib.hid (ins_ord HI.out HGT.out HLE.out)
          have HON := Lib.hid (HN.out.mono HWN.out)
          clear hq hq2
          exact ⟨⟨j + 1, g9, c9, _, by omega, by go_num, rfl, HON.out, HPP.out, HII.out, HF9.out⟩, by simp [intOf]; omega⟩
        obtain ⟨a1, ha1⟩ : ∃ a1, a = a1 + 1 := ⟨a - 1, by omega⟩
        subst ha1
        have hal : a1 < out.length := by rw [HLO.out]; omega
        have HOC : Hid (wr.cell? ⟨g, a1, none⟩ = some (.int .u16 (out[a1].toNat : Nat))) := Lib.hid (by
          obtain ⟨b', o', e, -, hc⟩ := Sl.at_ HO.out.sl (k := a1) (by omega)
          cases e
          have := hc a1 (W16 out[a1]) (by rw [List.getElem?_map, List.getElem?_eq_getElem hal]; rfl)
          simpa [W16] using this)
        have HOA : Hid (∀ i (hi : i < out.length), i ≤ a1 → ahd out[i] x ≤ ahd out[a1] x) := Lib.hid (fun i hi h => ord_at HI.out h hal)
        have HOE : Hid (∀ i (hi : i < out.length), i = a1 → out[i] = out[a1]) := Lib.hid (fun i hi h => by subst h; rfl)
        generalize out[a1] = y at *
        have hsub : ((a1 + 1 : Nat) : Int) - 1 = (a1 : Int) := by omega
        have hwr : IntKind.i64.wrap (a1 : Int) = (a1 : Int) := IntWalk.i64_in _ (by omega)
        have hlt2 : (a1 : Int) < (j : Int) := by omega
        obtain ⟨k1, hk1⟩ : ∃ k, ahd n x = k := ⟨_, rfl⟩
        obtain ⟨k2, hk2⟩ : ∃ k, ahd y x = k := ⟨_, rfl⟩
        have HK1 := Lib.hid hk1; have HK2 := Lib.hid hk2
        clear hk1 hk2
        by_cases hcmp : k1 < k2
        · have hcb : decide (k1 < k2) = true := decide_eq_true hcmp
          have HGT2 : Hid (∀ i (hi : i < out.length), a1 ≤ i → ahd n x < ahd out[i] x) := Lib.hid (fun i hi h => by
            rcases Nat.eq_or_lt_of_le h with e | e
            · rw [HOE.out i hi e.symm, HK1.out, HK2.out]; exact hcmp
            · exact HGT.out i hi e)
          clear hcmp
          go_upto_region 6 with fail
          refine wp_region_T (fun w' => Fr [] wr.drew w') [] 22 #[false, false, false, false, false, false, false, false, false, false, false, false, false, false, false, false, false, false, false, false, false, false] (by kernel_rfl) rfl rfl ?_
          try simp only [List.append_eq, List.cons_append, List.nil_append]
          have hF := (Fr.refl [] wr).drew
          have HO := Lib.hid (HO.out.keep hF)
          have HFQ := Lib.hid (HFQ.out.trans hF)
          have HCZ := Lib.hid (hF.cellSome HCZ.out (by simp))
          have HXZ := Lib.hid (hF.cellSome HXZ.out (by simp))
          have HOC := Lib.hid (hF.cellSome HOC.out (by simp))
          have HFZ := Lib.hid (HFZ.out.trans hF)
          clear hF
          have HSS : Hid (Fr [] wr.drew wr.drew) := Lib.hid (Fr.refl _ _)
          generalize wr.drew = wd at *
          refine wpAnyT_load (i := 0) (v := ?_) rfl (by kernel_rfl) (by kernel_rfl) (by kernel_rfl) (by kernel_rfl) (by kernel_rfl) (fun _ _ _ h => h) HSS.out (by rfl) ?_ ?_
          rotate_left
          · intro w hSw; skip; go_simp; try with_reducible rfl
          simp only [Act.put, List.getElem_toArray, List.getElem_cons_zero, List.getElem_cons_succ, List.setIfInBounds_toArray, List.set_cons_zero, List.set_cons_succ]
          refine wpAnyT_load (i := 1) (v := ?_) rfl (by kernel_rfl) (by kernel_rfl) (by kernel_rfl) (by kernel_rfl) (by kernel_rfl) (fun _ _ _ h => h) HSS.out (by rfl) ?_ ?_
          rotate_left
          · intro w hSw; skip; go_simp; try with_reducible rfl
          simp only [Act.put, List.getElem_toArray, List.getElem_cons_zero, List.getElem_cons_succ, List.setIfInBounds_toArray, List.set_cons_zero, List.set_cons_succ]
          refine wpAnyT_load (i := 2) (v := ?_) rfl (by kernel_rfl) (by kernel_rfl) (by kernel_rfl) (by kernel_rfl) (by kernel_rfl) (fun _ _ _ h => h) HSS.out (by rfl) ?_ ?_
          rotate_left
          · intro w hSw; skip; go_simp; try with_reducible rfl
          simp only [Act.put, List.getElem_toArray, List.getElem_cons_zero, List.getElem_cons_succ, List.setIfInBounds_toArray, List.set_cons_zero, List.set_cons_succ]
          refine wpAnyT_load (i := 3) (v := ?_) rfl (by kernel_rfl) (by kernel_rfl) (by kernel_rfl) (by kernel_rfl) (by kernel_rfl) (fun _ _ _ h => h) HSS.out (by rfl) ?_ ?_
          rotate_left
          · intro w hSw; skip; go_simp; try with_reducible rfl
          simp only [Act.put, List.getElem_toArray, List.getElem_cons_zero, List.getElem_cons_succ, List.setIfInBounds_toArray, List.set_cons_zero, List.set_cons_succ]
          refine wpAnyT_load (i := 4) (v := ?_) rfl (by kernel_rfl) (by kernel_rfl) (by kernel_rfl) (by kernel_rfl) (by kernel_rfl) (fun _ _ _ h => h) HSS.out (by rfl) ?_ ?_
          rotate_left
          · intro w hSw; skip; go_simp; try with_reducible rfl
          simp only [Act.put, List.getElem_toArray, List.getElem_cons_zero, List.getElem_cons_succ, List.setIfInBounds_toArray, List.set_cons_zero, List.set_cons_succ]
          refine wpAnyT_load (i := 5) (v := ?_) rfl (by kernel_rfl) (by kernel_rfl) (by kernel_rfl) (by kernel_rfl) (by kernel_rfl) (fun _ _ _ h => h) HSS.out (by rfl) ?_ ?_
          rotate_left
          · intro w hSw; skip; go_simp; try with_reducible rfl
          simp only [Act.put, List.getElem_toArray, List.getElem_cons_zero, List.getElem_cons_succ, List.setIfInBounds_toArray, List.set_cons_zero, List.set_cons_succ]
          refine wpAnyT_load (i := 6) (v := ?_) rfl (by kernel_rfl) (by kernel_rfl) (by kernel_rfl) (by kernel_rfl) (by kernel_rfl) (fun _ _ _ h => h) HSS.out (by rfl) ?_ ?_
          rotate_left
          · intro w hSw; skip; go_simp; try with_reducible rfl
          simp only [Act.put, List.getElem_toArray, List.getElem_cons_zero, List.getElem_cons_succ, List.setIfInBounds_toArray, List.set_cons_zero, List.set_cons_succ]
          refine wpAnyT_load (i := 7) (v := ?_) rfl (by kernel_rfl) (by kernel_rfl) (by kernel_rfl) (by kernel_rfl) (by kernel_rfl) (fun _ _ _ h => h) HSS.out (by rfl) ?_ ?_
          rotate_left
          · intro w hSw; have n0 := hSw.cellSome HOC.out (by simp); go_simp; try with_reducible rfl
          simp only [Act.put, List.getElem_toArray, List.getElem_cons_zero, List.getElem_cons_succ, List.setIfInBounds_toArray, List.set_cons_zero, List.set_cons_succ]
          refine wpAnyT_load (i := 8) (v := ?_) rfl (by kernel_rfl) (by kernel_rfl) (by kernel_rfl) (by kernel_rfl) (by kernel_rfl) (fun _ _ _ h => h) HSS.out (by rfl) ?_ ?_
          rotate_left
          · intro w hSw; skip; go_simp; try with_reducible rfl
          simp only [Act.put, List.getElem_toArray, List.getElem_cons_zero, List.getElem_cons_succ, List.setIfInBounds_toArray, List.set_cons_zero, List.set_cons_succ]
          refine wpAnyT_load (i := 9) (v := ?_) rfl (by kernel_rfl) (by kernel_rfl) (by kernel_rfl) (by kernel_rfl) (by kernel_rfl) (fun _ _ _ h => h) HSS.out (by rfl) ?_ ?_
          rotate_left
          · intro w hSw; skip; go_simp; try with_reducible rfl
          simp only [Act.put, List.getElem_toArray, List.getElem_cons_zero, List.getElem_cons_succ, List.setIfInBounds_toArray, List.set_cons_zero, List.set_cons_succ]
          refine wpAnyT_load (i := 10) (v := ?_) rfl (by kernel_rfl) (by kernel_rfl) (by kernel_rfl) (by kernel_rfl) (by kernel_rfl) (fun _ _ _ h => h) HSS.out (by rfl) ?_ ?_
          rotate_left
          · intro w hSw; have n0 := hSw.cellSome HXZ.out (by simp); go_simp; try with_reducible rfl
          simp only [Act.put, List.getElem_toArray, List.getElem_cons_zero, List.getElem_cons_succ, List.setIfInBounds_toArray, List.set_cons_zero, List.set_cons_succ]
          refine wpAnyT_load (i := 12) (v := ?_) rfl (by kernel_rfl) (by kernel_rfl) (by kernel_rfl) (by kernel_rfl) (by kernel_rfl) (fun _ _ _ h => h) HSS.out (by rfl) ?_ ?_
          rotate_left
          · intro w hSw; skip; go_simp; try with_reducible rfl
          simp only [Act.put, List.getElem_toArray, List.getElem_cons_zero, List.getElem_cons_succ, List.setIfInBounds_toArray, List.set_cons_zero, List.set_cons_succ]
          refine wpAnyT_load (i := 13) (v := ?_) rfl (by kernel_rfl) (by kernel_rfl) (by kernel_rfl) (by kernel_rfl) (by kernel_rfl) (fun _ _ _ h => h) HSS.out (by rfl) ?_ ?_
          rotate_left
          · intro w hSw; skip; go_simp; try with_reducible rfl
          simp only [Act.put, List.getElem_toArray, List.getElem_cons_zero, List.getElem_cons_succ, List.setIfInBounds_toArray, List.set_cons_zero, List.set_cons_succ]
          refine wpAnyT_load (i := 14) (v := ?_) rfl (by kernel_rfl) (by kernel_rfl) (by kernel_rfl) (by kernel_rfl) (by kernel_rfl) (fun _ _ _ h => h) HSS.out (by rfl) ?_ ?_
          rotate_left
          · intro w hSw; skip; go_simp; try with_reducible rfl
          simp only [Act.put, List.getElem_toArray, List.getElem_cons_zero, List.getElem_cons_succ, List.setIfInBounds_toArray, List.set_cons_zero, List.set_cons_succ]
          refine wpAnyT_load (i := 15) (v := ?_) rfl (by kernel_rfl) (by kernel_rfl) (by kernel_rfl) (by kernel_rfl) (by kernel_rfl) (fun _ _ _ h => h) HSS.out (by rfl) ?_ ?_
          rotate_left
          · intro w hSw; have n0 := hSw.cellSome HCZ.out (by simp); go_simp; try with_reducible rfl
          simp only [Act.put, List.getElem_toArray, List.getElem_cons_zero, List.getElem_cons_succ, List.setIfInBounds_toArray, List.set_cons_zero, List.set_cons_succ]
          refine wpAnyT_load (i := 16) (v := ?_) rfl (by kernel_rfl) (by kernel_rfl) (by kernel_rfl) (by kernel_rfl) (by kernel_rfl) (fun _ _ _ h => h) HSS.out (by rfl) ?_ ?_
          rotate_left
          · intro w hSw; skip; go_simp; try with_reducible rfl
          simp only [Act.put, List.getElem_toArray, List.getElem_cons_zero, List.getElem_cons_succ, List.setIfInBounds_toArray, List.set_cons_zero, List.set_cons_succ]
          refine wpAnyT_load (i := 17) (v := ?_) rfl (by kernel_rfl) (by kernel_rfl) (by kernel_rfl) (by kernel_rfl) (by kernel_rfl) (fun _ _ _ h => h) HSS.out (by rfl) ?_ ?_
          rotate_left
          · intro w hSw; skip; go_simp; try with_reducible rfl
          simp only [Act.put, List.getElem_toArray, List.getElem_cons_zero, List.getElem_cons_succ, List.setIfInBounds_toArray, List.set_cons_zero, List.set_cons_succ]
          refine wpAnyT_load (i := 18) (v := ?_) rfl (by kernel_rfl) (by kernel_rfl) (by kernel_rfl) (by kernel_rfl) (by kernel_rfl) (fun _ _ _ h => h) HSS.out (by rfl) ?_ ?_
          rotate_left
          · intro w hSw; have n0 := hSw.cellSome HXZ.out (by simp); go_simp; try with_reducible rfl
          simp only [Act.put, List.getElem_toArray, List.getElem_cons_zero, List.getElem_cons_succ, List.setIfInBounds_toArray, List.set_cons_zero, List.set_cons_succ]
          refine wpAnyT_one (i := 11) (by kernel_rfl) rfl (fun K hK => ?_)
          rw [if_pos (by rfl)]
          go_simp
          refine (r01Ahead_any y x).mono ?_
          rw [HK2.out]
          rintro e wq11 ⟨rfl, hF⟩
          have HSS := Lib.hid (HSS.out.trans hF)
          clear hF
          go_simp
          refine hK.out _ _ (fun _ => HSS.out) ?_
          clear hK K
          simp only [Act.put, List.getElem_toArray, List.getElem_cons_zero, List.getElem_cons_succ, List.setIfInBounds_toArray, List.set_cons_zero, List.set_cons_succ]
          refine wpAnyT_one (i := 19) (by kernel_rfl) rfl (fun K hK => ?_)
          rw [if_pos (by rfl)]
          go_simp
          refine (r01Ahead_any n x).mono ?_
          rw [HK1.out]
          rintro e wq19 ⟨rfl, hF⟩
          have HSS := Lib.hid (HSS.out.trans hF)
          clear hF
          go_simp
          refine hK.out _ _ (fun _ => HSS.out) ?_
          clear hK K
          simp only [Act.put, List.getElem_toArray, List.getElem_cons_zero, List.getElem_cons_succ, List.setIfInBounds_toArray, List.set_cons_zero, List.set_cons_succ]
          refine wpAnyT_load (i := 20) (v := ?_) rfl (by kernel_rfl) (by kernel_rfl) (by kernel_rfl) (by kernel_rfl) (by kernel_rfl) (fun _ _ _ h => h) HSS.out (by rfl) ?_ ?_
          rotate_left
          · intro w hSw; skip; go_simp; try with_reducible rfl
          simp only [Act.put, List.getElem_toArray, List.getElem_cons_zero, List.getElem_cons_succ, List.setIfInBounds_toArray, List.set_cons_zero, List.set_cons_succ]
          refine wpAnyT_load (i := 21) (v := ?_) rfl (by kernel_rfl) (by kernel_rfl) (by kernel_rfl) (by kernel_rfl) (by kernel_rfl) (fun _ _ _ h => h) HSS.out (by rfl) ?_ ?_
          rotate_left
          · intro w hSw; skip; go_simp; try with_reducible rfl
          simp only [Act.put, List.getElem_toArray, List.getElem_cons_zero, List.getElem_cons_succ, List.setIfInBounds_toArray, List.set_cons_zero, List.set_cons_succ]
          refine wpAnyT_done (by kernel_rfl) ?_ _
          have hF := HSS.out
          have HO := Lib.hid (HO.out.keep hF)
          have HFQ := Lib.hid (HFQ.out.trans hF)
          have HCZ := Lib.hid (hF.cellSome HCZ.out (by simp))
          have HXZ := Lib.hid (hF.cellSome HXZ.out (by simp))
          have HOC := Lib.hid (hF.cellSome HOC.out (by simp))
          have HFZ := Lib.hid (HFZ.out.trans hF)
          clear hF HSS
          generalize wq19 = wd at *
          go_wp2_with fail
          exact ⟨⟨a1, by omega, by first | rfl | go_num, HGT2.out, HFZ.out⟩, by first | (simp [intOf]; done) | (simp [intOf]; omega)⟩
        have hcb : decide (k1 < k2) = false := decide_eq_false hcmp
        have HLE : Hid (∀ i (hi : i < out.length), i < a1 + 1 → ahd out[i] x ≤ ahd n x) := Lib.hid (fun i hi h => by have h1 := HOA.out i hi (by omega); rw [HK2.out] at h1; rw [HK1.out]; omega)
        clear hcmp
        go_upto_region 6 with fail
        refine wp_region_T (fun w' => Fr [] wr.drew w') [] 22 #[false, false, false, false, false, false, false, false, false, false, false, false, false, false, false, false, false, false, false, false, false, false] (by kernel_rfl) rfl rfl ?_
        try simp only [List.append_eq, List.cons_append, List.nil_append]
        have hF := (Fr.refl [] wr).drew
        have HO := Lib.hid (HO.out.keep hF)
        have HFQ := Lib.hid (HFQ.out.trans hF)
        have HCZ := Lib.hid (hF.cellSome HCZ.out (by simp))
        have HXZ := Lib.hid (hF.cellSome HXZ.out (by simp))
        have HOC := Lib.hid (hF.cellSome HOC.out (by simp))
        have HFZ := Lib.hid (HFZ.out.trans hF)
        clear hF
        have HSS : Hid (Fr [] wr.drew wr.drew) := Lib.hid (Fr.refl _ _)
        generalize wr.drew = wd at *
        refine wpAnyT_load (i := 0) (v := ?_) rfl (by kernel_rfl) (by kernel_rfl) (by kernel_rfl) (by kernel_rfl) (by kernel_rfl) (fun _ _ _ h => h) HSS.out (by rfl) ?_ ?_
        rotate_left
        · intro w hSw; skip; go_simp; try with_reducible rfl
        simp only [Act.put, List.getElem_toArray, List.getElem_cons_zero, List.getElem_cons_succ, List.setIfInBounds_toArray, List.set_cons_zero, List.set_cons_succ]
        refine wpAnyT_load (i := 1) (v := ?_) rfl (by kernel_rfl) (by kernel_rfl) (by kernel_rfl) (by kernel_rfl) (by kernel_rfl) (fun _ _ _ h => h) HSS.out (by rfl) ?_ ?_
        rotate_left
        · intro w hSw; skip; go_simp; try with_reducible rfl
        simp only [Act.put, List.getElem_toArray, List.getElem_cons_zero, List.getElem_cons_succ, List.setIfInBounds_toArray, List.set_cons_zero, List.set_cons_succ]
        refine wpAnyT_load (i := 2) (v := ?_) rfl (by kernel_rfl) (by kernel_rfl) (by kernel_rfl) (by kernel_rfl) (by kernel_rfl) (fun _ _ _ h => h) HSS.out (by rfl) ?_ ?_
        rotate_left
        · intro w hSw; skip; go_simp; try with_reducible rfl
        simp only [Act.put, List.getElem_toArray, List.getElem_cons_zero, List.getElem_cons_succ, List.setIfInBounds_toArray, List.set_cons_zero, List.set_cons_succ]
        refine wpAnyT_load (i := 3) (v := ?_) rfl (by kernel_rfl) (by kernel_rfl) (by kernel_rfl) (by kernel_rfl) (by kernel_rfl) (fun _ _ _ h => h) HSS.out (by rfl) ?_ ?_
        rotate_left
        · intro w hSw; skip; go_simp; try with_reducible rfl
        simp only [Act.put, List.getElem_toArray, List.getElem_cons_zero, List.getElem_cons_succ, List.setIfInBounds_toArray, List.set_cons_zero, List.set_cons_succ]
        refine wpAnyT_load (i := 4) (v := ?_) rfl (by kernel_rfl) (by kernel_rfl) (by kernel_rfl) (by kernel_rfl) (by kernel_rfl) (fun _ _ _ h => h) HSS.out (by rfl) ?_ ?_
        rotate_left
        · intro w hSw; skip; go_simp; try with_reducible rfl
        simp only [Act.put, List.getElem_toArray, List.getElem_cons_zero, List.getElem_cons_succ, List.setIfInBounds_toArray, List.set_cons_zero, List.set_cons_succ]
        refine wpAnyT_load (i := 5) (v := ?_) rfl (by kernel_rfl) (by kernel_rfl) (by kernel_rfl) (by kernel_rfl) (by kernel_rfl) (fun _ _ _ h => h) HSS.out (by rfl) ?_ ?_
        rotate_left
        · intro w hSw; skip; go_simp; try with_reducible rfl
        simp only [Act.put, List.getElem_toArray, List.getElem_cons_zero, List.getElem_cons_succ, List.setIfInBounds_toArray, List.set_cons_zero, List.set_cons_succ]
        refine wpAnyT_load (i := 6) (v := ?_) rfl (by kernel_rfl) (by kernel_rfl) (by kernel_rfl) (by kernel_rfl) (by kernel_rfl) (fun _ _ _ h => h) HSS.out (by rfl) ?_ ?_
        rotate_left
        · intro w hSw; skip; go_simp; try with_reducible rfl
        simp only [Act.put, List.getElem_toArray, List.getElem_cons_zero, List.getElem_cons_succ, List.setIfInBounds_toArray, List.set_cons_zero, List.set_cons_succ]
        refine wpAnyT_load (i := 7) (v := ?_) rfl (by kernel_rfl) (by kernel_rfl) (by kernel_rfl) (by kernel_rfl) (by kernel_rfl) (fun _ _ _ h => h) HSS.out (by rfl) ?_ ?_
        rotate_left
        · intro w hSw; have n0 := hSw.cellSome HOC.out (by simp); go_simp; try with_reducible rfl
        simp only [Act.put, List.getElem_toArray, List.getElem_cons_zero, List.getElem_cons_succ, List.setIfInBounds_toArray, List.set_cons_zero, List.set_cons_succ]
        refine wpAnyT_load (i := 8) (v := ?_) rfl (by kernel_rfl) (by kernel_rfl) (by kernel_rfl) (by kernel_rfl) (by kernel_rfl) (fun _ _ _ h => h) HSS.out (by rfl) ?_ ?_
        rotate_left
        · intro w hSw; skip; go_simp; try with_reducible rfl
        simp only [Act.put, List.getElem_toArray, List.getElem_cons_zero, List.getElem_cons_succ, List.setIfInBounds_toArray, List.set_cons_zero, List.set_cons_succ]
        refine wpAnyT_load (i := 9) (v := ?_) rfl (by kernel_rfl) (by kernel_rfl) (by kernel_rfl) (by kernel_rfl) (by kernel_rfl) (fun _ _ _ h => h) HSS.out (by rfl) ?_ ?_
        rotate_left
        · intro w hSw; skip; go_simp; try with_reducible rfl
        simp only [Act.put, List.getElem_toArray, List.getElem_cons_zero, List.getElem_cons_succ, List.setIfInBounds_toArray, List.set_cons_zero, List.set_cons_succ]
        refine wpAnyT_load (i := 10) (v := ?_) rfl (by kernel_rfl) (by kernel_rfl) (by kernel_rfl) (by kernel_rfl) (by kernel_rfl) (fun _ _ _ h => h) HSS.out (by rfl) ?_ ?_
        rotate_left
        · intro w hSw; have n0 := hSw.cellSome HXZ.out (by simp); go_simp; try with_reducible rfl
        simp only [Act.put, List.getElem_toArray, List.getElem_cons_zero, List.getElem_cons_succ, List.setIfInBounds_toArray, List.set_cons_zero, List.set_cons_succ]
        refine wpAnyT_load (i := 12) (v := ?_) rfl (by kernel_rfl) (by kernel_rfl) (by kernel_rfl) (by kernel_rfl) (by kernel_rfl) (fun _ _ _ h => h) HSS.out (by rfl) ?_ ?_
        rotate_left
        · intro w hSw; skip; go_simp; try with_reducible rfl
        simp only [Act.put, List.getElem_toArray, List.getElem_cons_zero, List.getElem_cons_succ, List.setIfInBounds_toArray, List.set_cons_zero, List.set_cons_succ]
        refine wpAnyT_load (i := 13) (v := ?_) rfl (by kernel_rfl) (by kernel_rfl) (by kernel_rfl) (by kernel_rfl) (by kernel_rfl) (fun _ _ _ h => h) HSS.out (by rfl) ?_ ?_
        rotate_left
        · intro w hSw; skip; go_simp; try with_reducible rfl
        simp only [Act.put, List.getElem_toArray, List.getElem_cons_zero, List.getElem_cons_succ, List.setIfInBounds_toArray, List.set_cons_zero, List.set_cons_succ]
        refine wpAnyT_load (i := 14) (v := ?_) rfl (by kernel_rfl) (by kernel_rfl) (by kernel_rfl) (by kernel_rfl) (by kernel_rfl) (fun _ _ _ h => h) HSS.out (by rfl) ?_ ?_
        rotate_left
        · intro w hSw; skip; go_simp; try with_reducible rfl
        simp only [Act.put, List.getElem_toArray, List.getElem_cons_zero, List.getElem_cons_succ, List.setIfInBounds_toArray, List.set_cons_zero, List.set_cons_succ]
        refine wpAnyT_load (i := 15) (v := ?_) rfl (by kernel_rfl) (by kernel_rfl) (by kernel_rfl) (by kernel_rfl) (by kernel_rfl) (fun _ _ _ h => h) HSS.out (by rfl) ?_ ?_
        rotate_left
        · intro w hSw; have n0 := hSw.cellSome HCZ.out (by simp); go_simp; try with_reducible rfl
        simp only [Act.put, List.getElem_toArray, List.getElem_cons_zero, List.getElem_cons_succ, List.setIfInBounds_toArray, List.set_cons_zero, List.set_cons_succ]
        refine wpAnyT_load (i := 16) (v := ?_) rfl (by kernel_rfl) (by kernel_rfl) (by kernel_rfl) (by kernel_rfl) (by kernel_rfl) (fun _ _ _ h => h) HSS.out (by rfl) ?_ ?_
        rotate_left
        · intro w hSw; skip; go_simp; try with_reducible rfl
        simp only [Act.put, List.getElem_toArray, List.getElem_cons_zero, List.getElem_cons_succ, List.setIfInBounds_toArray, List.set_cons_zero, List.set_cons_succ]
        refine wpAnyT_load (i := 17) (v := ?_) rfl (by kernel_rfl) (by kernel_rfl) (by kernel_rfl) (by kernel_rfl) (by kernel_rfl) (fun _ _ _ h => h) HSS.out (by rfl) ?_ ?_
        rotate_left
        · intro w hSw; skip; go_simp; try with_reducible rfl
        simp only [Act.put, List.getElem_toArray, List.getElem_cons_zero, List.getElem_cons_succ, List.setIfInBounds_toArray, List.set_cons_zero, List.set_cons_succ]
        refine wpAnyT_load (i := 18) (v := ?_) rfl (by kernel_rfl) (by kernel_rfl) (by kernel_rfl) (by kernel_rfl) (by kernel_rfl) (fun _ _ _ h => h) HSS.out (by rfl) ?_ ?_
        rotate_left
        · intro w hSw; have n0 := hSw.cellSome HXZ.out (by simp); go_simp; try with_reducible rfl
        simp only [Act.put, List.getElem_toArray, List.getElem_cons_zero, List.getElem_cons_succ, List.setIfInBounds_toArray, List.set_cons_zero, List.set_cons_succ]
        refine wpAnyT_one (i := 11) (by kernel_rfl) rfl (fun K hK => ?_)
        rw [if_pos (by rfl)]
        go_simp
        refine (r01Ahead_any y x).mono ?_
        rw [HK2.out]
        rintro e wq11 ⟨rfl, hF⟩
        have HSS := Lib.hid (HSS.out.trans hF)
        clear hF
        go_simp
        refine hK.out _ _ (fun _ => HSS.out) ?_
        clear hK K
        simp only [Act.put, List.getElem_toArray, List.getElem_cons_zero, List.getElem_cons_succ, List.setIfInBounds_toArray, List.set_cons_zero, List.set_cons_succ]
        refine wpAnyT_one (i := 19) (by kernel_rfl) rfl (fun K hK => ?_)
        rw [if_pos (by rfl)]
        go_simp
        refine (r01Ahead_any n x).mono ?_
        rw [HK1.out]
        rintro e wq19 ⟨rfl, hF⟩
        have HSS := Lib.hid (HSS.out.trans hF)
        clear hF
        go_simp
        refine hK.out _ _ (fun _ => HSS.out) ?_
        clear hK K
        simp only [Act.put, List.getElem_toArray, List.getElem_cons_zero, List.getElem_cons_succ, List.setIfInBounds_toArray, List.set_cons_zero, List.set_cons_succ]
        refine wpAnyT_load (i := 20) (v := ?_) rfl (by kernel_rfl) (by kernel_rfl) (by kernel_rfl) (by kernel_rfl) (by kernel_rfl) (fun _ _ _ h => h) HSS.out (by rfl) ?_ ?_
        rotate_left
        · intro w hSw; skip; go_simp; try with_reducible rfl
        simp only [Act.put, List.getElem_toArray, List.getElem_cons_zero, List.getElem_cons_succ, List.setIfInBounds_toArray, List.set_cons_zero, List.set_cons_succ]
        refine wpAnyT_load (i := 21) (v := ?_) rfl (by kernel_rfl) (by kernel_rfl) (by kernel_rfl) (by kernel_rfl) (by kernel_rfl) (fun _ _ _ h => h) HSS.out (by rfl) ?_ ?_
        rotate_left
        · intro w hSw; skip; go_simp; try with_reducible rfl
        simp only [Act.put, List.getElem_toArray, List.getElem_cons_zero, List.getElem_cons_succ, List.setIfInBounds_toArray, List.set_cons_zero, List.set_cons_succ]
        refine wpAnyT_done (by kernel_rfl) ?_ _
        have hF := HSS.out
        have HO := Lib.hid (HO.out.keep hF)
        have HFQ := Lib.hid (HFQ.out.trans hF)
        have HCZ := Lib.hid (hF.cellSome HCZ.out (by simp))
        have HXZ := Lib.hid (hF.cellSome HXZ.out (by simp))
        have HOC := Lib.hid (hF.cellSome HOC.out (by simp))
        have HFZ := Lib.hid (HFZ.out.trans hF)
        clear hF HSS
        generalize wq19 = wd at *
        obtain ⟨N0, hN0⟩ : ∃ N0, wd.heap.size = N0 := ⟨_, rfl⟩
        have HGN : Hid (g < N0) := Lib.hid (by have := (HO.out.block g rfl).2; omega)
        have HSZ : Hid (N0 ≤ wd.heap.size) := Lib.hid (by omega)
        have HWN : Hid (w.heap.size ≤ N0) := Lib.hid (by have := HFQ.out.size; omega)
        obtain ⟨w5, e5, hF5, hB5, -⟩ := one_new wd #[] 42
        have HN : Hid (OwnV w5 N0 42 W16 (.slice (some ⟨N0, 0, none⟩) 0 0) []) := Lib.hid (by subst e5; rw [← hN0]; exact OwnV.made wd wd.heap.size _ _ (Nat.le_refl _))
        have HO := Lib.hid (HO.out.keep hF5); have HFQ := Lib.hid (HFQ.out.trans hF5); have HCZ := Lib.hid (hF5.cellSome HCZ.out (by simp)); have HSZ : Hid (N0 ≤ w5.heap.size) := Lib.hid (Nat.le_trans HSZ.out hF5.size)
        have E5 := Lib.hid e5
        clear e5 hF5 hB5
        go_upto_region 9 with fail
        rw [hN0] at *
        clear hN0
        rw [E5.out]
        clear E5
        have HB4 := Lib.hid HN.out.block
        have HB4 : Hid (∀ x, blockOf (.slice (some ⟨N0, 0, none⟩) 0 0) = some x → N0 ≤ x) := Lib.hid (fun x hx => (HB4.out x hx).1)
        have A1 : Hid ((([] : List UInt16)).length + ((out.take (a1 + 1)).map W16).length ≤ maxLen) := Lib.hid (by have := HLO.out; unfold maxLen; first | (simp; done) | (simp; omega))
        have A2 : Hid (((([] : List UInt16)).length + ((out.take (a1 + 1)).map W16).length) * 2 ≤ 140737488355328) := Lib.hid (by have := HLO.out; first | (simp; done) | (simp; omega))
        have A3 : Hid (Sl w5 (.slice (some ⟨g, 0, none⟩) (a1 + 1) c) ((out.take (a1 + 1)).map W16)) := Lib.hid ((by rw [List.map_take]; exact Sl.pre HO.out.sl (a1 + 1) c (by omega) (by omega) (Nat.le_refl _)))
        have A4 : Hid (N0 ≤ w5.heap.size) := Lib.hid HSZ.out
        go_upto_region 10 with (at_builtin; refine wpList_append_slf rfl (.tmp 41) (.tmp 44) 77 rfl N0 42 (.int .u16 0) 2 Try.underlying77 info_u16 rfl (.slice (some ⟨N0, 0, none⟩) 0 0) (([] : List UInt16)).length ((([] : List UInt16)).map W16) rfl HN.out (.slice (some ⟨g, 0, none⟩) (a1 + 1) c) ((out.take (a1 + 1)).map W16) rfl A3.out (by intro u hu; obtain ⟨q, -, rfl⟩ := List.mem_map.1 hu; rfl) A1.out A2.out A4.out ?_; intro v6 w6 ho hg hfr; have HO3 := Lib.hid ho; have HG := Lib.hid hg; clear ho hg hfr)
        have HN : Hid (OwnV w6 N0 42 W16 v6 (([] : List UInt16) ++ out.take (a1 + 1))) := Lib.hid (by
          have := HO3.out
          unfold OwnV
          rw [List.map_append, List.length_append]
          simpa using this)
        rw [List.nil_append] at HN
        obtain ⟨a6, n6, c6, rfl⟩ := HN.out.isSlice
        have HO : Hid (OwnV w6 w.heap.size 42 W16 (.slice (some ⟨g, 0, none⟩) j c) out) := Lib.hid (Own.fr HO.out HG.out (fun b hb hm => by have h1 := (HB4.out b (mem_toList.1 hm)); simp [blockOf] at hb; have := HGN.out; omega))
        have HFQ := Lib.hid (HFQ.out.step HG.out (fun b hb => .inr (by have h1 := HB4.out b (mem_toList.1 hb); have := HWN.out; omega)))
        have HCZ : Hid (w6.cell? ⟨b, o + j, none⟩ = some (.int .u16 (n.toNat : Nat))) := Lib.hid (HFQ.out.cellSome HC.out (by simp))
        have HSZ : Hid (N0 ≤ w6.heap.size) := Lib.hid (Nat.le_trans HSZ.out HG.out.size)
        have d9 := HCZ.out
        obtain ⟨w7, e7, hF7, hB7, -⟩ := one_new w6 #[.int .u16 (n.toNat : Nat)] 42
        have E7 := Lib.hid e7
        have HN := Lib.hid (HN.out.keep hF7); have HO := Lib.hid (HO.out.keep hF7); have HFQ := Lib.hid (HFQ.out.trans hF7); have HCZ := Lib.hid (hF7.cellSome HCZ.out (by simp)); have HSZ : Hid (N0 ≤ w7.heap.size) := Lib.hid (Nat.le_trans HSZ.out hF7.size)
        have HS1 : Hid (Sl w7 (.slice (some ⟨w6.heap.size, 0, none⟩) 1 1) (([n] : List UInt16).map W16)) := Lib.hid (by subst e7; exact Sl.one w6 _ _)
        clear e7 hF7 hB7
        have HB4 := Lib.hid HN.out.block
        have HB4 : Hid (∀ x, blockOf (.slice a6 n6 c6) = some x → N0 ≤ x) := Lib.hid (fun x hx => (HB4.out x hx).1)
        have A1 : Hid ((out.take (a1 + 1)).length + ((([n] : List UInt16)).map W16).length ≤ maxLen) := Lib.hid (by have := HLO.out; unfold maxLen; first | (simp; done) | (simp; omega))
        have A2 : Hid (((out.take (a1 + 1)).length + ((([n] : List UInt16)).map W16).length) * 2 ≤ 140737488355328) := Lib.hid (by have := HLO.out; first | (simp; done) | (simp; omega))
        have A3 : Hid (Sl w7 (.slice (some ⟨w6.heap.size, 0, none⟩) 1 1) ((([n] : List UInt16)).map W16)) := Lib.hid (HS1.out)
        have A4 : Hid (N0 ≤ w7.heap.size) := Lib.hid HSZ.out
        go_upto_region 11 with (at_builtin; (rw [E7.out]); refine wpList_append_slf rfl (.tmp 46) (.tmp 51) 77 rfl N0 42 (.int .u16 0) 2 Try.underlying77 info_u16 rfl (.slice a6 n6 c6) (out.take (a1 + 1)).length ((out.take (a1 + 1)).map W16) rfl HN.out (.slice (some ⟨w6.heap.size, 0, none⟩) 1 1) ((([n] : List UInt16)).map W16) rfl A3.out (by intro u hu; obtain ⟨q, -, rfl⟩ := List.mem_map.1 hu; rfl) A1.out A2.out A4.out ?_; intro v8 w8 ho hg hfr; have HO3 := Lib.hid ho; have HG := Lib.hid hg; clear ho hg hfr)
        have HN : Hid (OwnV w8 N0 42 W16 v8 (out.take (a1 + 1) ++ ([n] : List UInt16))) := Lib.hid (by
          have := HO3.out
          unfold OwnV
          rw [List.map_append, List.length_append]
          simpa using this)
        obtain ⟨a8, n8, c8, rfl⟩ := HN.out.isSlice
        clear d9
        have HO : Hid (OwnV w8 w.heap.size 42 W16 (.slice (some ⟨g, 0, none⟩) j c) out) := Lib.hid (Own.fr HO.out HG.out (fun b hb hm => by have h1 := (HB4.out b (mem_toList.1 hm)); simp [blockOf] at hb; have := HGN.out; omega))
        have HFQ := Lib.hid (HFQ.out.step HG.out (fun b hb => .inr (by have h1 := HB4.out b (mem_toList.1 hb); have := HWN.out; omega)))
        have HCZ : Hid (w8.cell? ⟨b, o + j, none⟩ = some (.int .u16 (n.toNat : Nat))) := Lib.hid (HFQ.out.cellSome HC.out (by simp))
        have HSZ : Hid (N0 ≤ w8.heap.size) := Lib.hid (Nat.le_trans HSZ.out HG.out.size)
        obtain ⟨q, hq⟩ : ∃ qq, (if c = (a1 + 1) then some (⟨g, 0, none⟩ : Addr) else some ⟨g, 0 + (a1 + 1), none⟩) = qq := ⟨_, rfl⟩
        have HN8 := HN
        have HSD : Hid (Sl w8 (.slice q (j - (a1 + 1)) (c - (a1 + 1))) ((out.drop (a1 + 1)).map W16)) := Lib.hid (by
          have h1 := Sl.sub' HO.out.sl (a1 + 1) (j - (a1 + 1)) (by omega)
          rw [hq, List.take_of_length_le (by rw [List.length_drop, List.length_map, HLO.out]; exact Nat.le_refl _)] at h1
          rw [List.map_drop]
          exact h1)
        have hq2 : (if c = (a1 + 1) then some (⟨g, 0, none⟩ : Addr) else some ⟨g, (a1 + 1), none⟩) = q := by rw [← hq, Nat.zero_add]
        have hca : (a1 + 1) ≤ c := by omega
        have HB4 := Lib.hid HN.out.block
        have HB4 : Hid (∀ x, blockOf (.slice a8 n8 c8) = some x → N0 ≤ x) := Lib.hid (fun x hx => (HB4.out x hx).1)
        have A1 : Hid (((out.take (a1 + 1) ++ [n])).length + ((out.drop (a1 + 1)).map W16).length ≤ maxLen) := Lib.hid (by have := HLO.out; unfold maxLen; first | (simp; done) | (simp; omega))
        have A2 : Hid ((((out.take (a1 + 1) ++ [n])).length + ((out.drop (a1 + 1)).map W16).length) * 2 ≤ 140737488355328) := Lib.hid (by have := HLO.out; first | (simp; done) | (simp; omega))
        have A3 : Hid (Sl w8 (.slice q (j - (a1 + 1)) (c - (a1 + 1))) ((out.drop (a1 + 1)).map W16)) := Lib.hid (HSD.out)
        have A4 : Hid (N0 ≤ w8.heap.size) := Lib.hid HSZ.out
        go_wp2_with (at_builtin; refine wpList_append_slf rfl (.tmp 53) (.tmp 56) 77 rfl N0 42 (.int .u16 0) 2 Try.underlying77 info_u16 rfl (.slice a8 n8 c8) ((out.take (a1 + 1) ++ [n])).length (((out.take (a1 + 1) ++ [n])).map W16) rfl HN.out (.slice q (j - (a1 + 1)) (c - (a1 + 1))) ((out.drop (a1 + 1)).map W16) rfl A3.out (by intro u hu; obtain ⟨q, -, rfl⟩ := List.mem_map.1 hu; rfl) A1.out A2.out A4.out ?_; intro v9 w9 ho hg hfr; have HO3 := Lib.hid ho; have HG := Lib.hid hg; clear ho hg hfr)
        have HN : Hid (OwnV w9 N0 42 W16 v9 ((out.take (a1 + 1) ++ [n]) ++ out.drop (a1 + 1))) := Lib.hid (by
          have := HO3.out
          unfold OwnV
          rw [List.map_append, List.length_append]
          simpa using this)
        have hll : (out.take (a1 + 1) ++ [n] ++ out.drop (a1 + 1)).length = j + 1 := by have := HLO.out; simp; omega
        obtain ⟨g9, c9, e9⟩ := own_some HN.out (fun e => by rw [e] at hll; simp at hll)
        subst e9
        have HF9 : Hid (Fr [] w w9) := Lib.hid (HFQ.out.step HG.out (fun x hx => .inr (by have h1 := (HN8.out.block x (mem_toList.1 hx)).1; have := HWN.out; omega)))
        have HPP : Hid ((out.take (a1 + 1) ++ [n] ++ out.drop (a1 + 1)).Perm (ns.take (j + 1))) := Lib.hid (by rw [HT.out]; exact ins_perm (a1 + 1) HP.out)
        have HII : Hid (inOrd x (out.take (a1 + 1) ++ [n] ++ out.drop (a1 + 1))) := Lib.hid (ins_ord HI.out HGT.out HLE.out)
        have HON := Lib.hid (HN.out.mono HWN.out)
        clear hq hq2
        exact ⟨⟨j + 1, g9, c9, _, by omega, by go_num, rfl, HON.out, HPP.out, HII.out, HF9.out⟩, by simp [intOf]; omega⟩
    · obtain rfl : j = ns.length := by omega
      rw [List.take_length] at HP
      go_wp2_with fail
      go_ret
      exact ⟨_, out, rfl, HO.out, HP.out, HI.out, HFQ.out⟩
end Go.Proofs.Ytchbgiindfoepaa

/- The walk of confluxref11.From (printed by gen_ref11b.py). -/
namespace Go.Proofs.Ytchbgiindfoepaa
open Go.RowKit

theorem res3' {fn : Func} {t u s : Tmp} (h : fn.results = #[.tmp t, .tmp u, .tmp s]) (tmps : Array Value) (P : Program) (w : World) :
    (results fn tmps).run P w = .ok (.tuple #[tmps.getD t undef, tmps.getD u undef, tmps.getD s undef]) w := by
  simp [results, h]
theorem memL_bits {xs : List Int} {m : Msk} (h : ∀ i, i < 128 → (m.has i = true ↔ (i : Int) ∈ xs)) : memL xs 128 = bitsL m 128 := by
  unfold memL bitsL
  refine List.map_congr_left fun i hi => ?_
  rw [Bool.eq_iff_iff, decide_eq_true_iff]
  exact (h i (List.mem_range.1 hi)).symm
theorem fromL_bad {base n : UInt16} {a b : List UInt16} (h : ahd n base < 0 ∨ 109 ≤ ahd n base) {m : Msk} {t : Bool} (ha : fromL base a Msk.zero false = .ok (m, t)) : cvFrom base (a ++ n :: b) = .error 31 := by
  unfold cvFrom
  rw [fromL_append, ha]
  simp only
  rw [show fromL base (n :: b) m t = .error 31 by unfold fromL; rw [if_pos h]]
theorem fromL_good {base n : UInt16} {a : List UInt16} (h : ¬(ahd n base < 0 ∨ 109 ≤ ahd n base)) {m : Msk} {t : Bool} (ha : fromL base a Msk.zero false = .ok (m, t)) : fromL base (a ++ [n]) Msk.zero false = .ok (m.or (Msk.bit (ahd n base).toNat), t || m.has (ahd n base).toNat) := by
  rw [fromL_append, ha]
  simp only
  unfold fromL
  rw [if_neg h]
  rfl
/-- What From hands back. -/
def FromV (x : Except Int Msk) (e : Ending) : Prop := match x with
  | .ok m => e = .returned (.tuple #[.int .u64 (m.hi.toNat : Nat), .int .u64 (m.lo.toNat : Nat), .int .i64 0])
  | .error k => e = .returned (.tuple #[.int .u64 0, .int .u64 0, .int .i64 k])
set_option maxRecDepth 100000 in
set_option maxHeartbeats 8000000 in
theorem r11From_any (base : UInt16) {w : World} {v : Value} {ns : List UInt16} (hx : Seqs w v ns) (hs : ns.length ≤ 1000) :
    Calls Try.prog 92 #[.int .u16 (base.toNat : Nat), v] w fun e w' => FromV (cvFrom base ns) e ∧ Fr [] w w' := by
  obtain ⟨av, cv, rfl⟩ := Sl.shape hx
  rw [List.length_map] at hx ⊢
  obtain ⟨w1, e1, hF, hB1, hs1⟩ := one_new w #[] 3
  have HO : Hid (OwnV w1 w.heap.size 3 (Value.int .i64) (.slice (some ⟨w.heap.size, 0, none⟩) 0 0) []) := Lib.hid (by subst e1; exact OwnV.made w w.heap.size _ _ (Nat.le_refl _))
  have E1 := Lib.hid e1; have HF := Lib.hid hF; have HX0 := Lib.hid hx
  clear e1 hF hB1 hs1 hx
  go_enter Try.func92, Try.ntmps92
  by_cases hn0 : ns.length = 0
  · have hb : ((ns.length : Int) == 0) = true := by rw [hn0]; rfl
    have HC : Hid (cvFrom base ns = .error 4) := Lib.hid (by rw [List.length_eq_zero_iff.1 hn0]; rfl)
    clear hn0
    go_wp2_with fail
    exact bodyPost_ret (res3' rfl _ _ _) rfl ⟨by rw [HC.out]; rfl, Fr.refl _ _⟩
  have hb : ((ns.length : Int) == 0) = false := by rw [beq_eq_false_iff_ne]; omega
  have HNE : Hid (ns ≠ []) := Lib.hid (fun e => hn0 (by rw [e]; rfl))
  go_upto_region 6 with fail
  try rw [E1.out]
  clear E1 hb
  go_loopw [7, 8, 9] (fun ov tv iv wr => ∃ (j : Nat) (m : Msk) (t : Bool), j ≤ ns.length ∧ iv = .int .i64 j ∧ tv = .bool t ∧ fromL base (ns.take j) Msk.zero false = .ok (m, t) ∧ (∀ i, i < 128 → (m.has i = true ↔ (i : Int) ∈ (ns.take j).map fun n => ahd n base)) ∧ OwnV wr w.heap.size 3 (Value.int .i64) ov ((ns.take j).map fun n => ahd n base) ∧ Fr [] w wr) (fun _ _ iv _ => ns.length - (intOf iv).toNat)
  case atStart => exact ⟨0, Msk.zero, false, by omega, rfl, rfl, rfl, fun i _ => by simp [Msk.has_zero], HO.out, HF.out⟩
  case round =>
    clear HO HF
    obtain ⟨j, m, t, hj, rfl, rfl, hfr, hhas, hO, hF⟩ := hrel
    have hll : ((ns.take j).map fun n => ahd n base).length = j := by rw [List.length_map, List.length_take]; omega
    obtain ⟨ao, co, eo⟩ := hO.shape
    rw [hll] at eo
    subst eo
    have HO := Lib.hid hO; have HFQ := Lib.hid hF; have HFR := Lib.hid hfr; have HHAS := Lib.hid hhas; have HLL := Lib.hid hll
    clear hO hF hfr hhas hll
    by_cases hlt : j < ns.length
    · obtain ⟨bp, op, ea, -, hcp⟩ := Sl.at_ HX0.out (k := j) hlt
      subst ea
      have d0 := HFQ.out.cellSome (hcp j (W16 ns[j]) (by rw [List.getElem?_map, List.getElem?_eq_getElem hlt]; rfl)) (by simp)
      clear hcp
      have HSP : Hid (ns = ns.take j ++ ns[j] :: ns.drop (j + 1)) := Lib.hid (by rw [List.getElem_cons_drop, List.take_append_drop])
      have HT : Hid (ns.take (j + 1) = ns.take j ++ [ns[j]]) := Lib.hid (List.take_succ_eq_append_getElem hlt)
      generalize ns[j] = n at *
      go_wp2_with fail
      refine (r01Ahead_any n base).mono ?_
      rintro e w3 ⟨rfl, hF⟩
      have HO := Lib.hid (HO.out.keep hF); have HFQ := Lib.hid (HFQ.out.trans hF)
      clear hF d0
      by_cases h0 : ahd n base < 0
      · have HC : Hid (cvFrom base ns = .error 31) := Lib.hid (by rw [HSP.out]; exact fromL_bad (.inl h0) HFR.out)
        have hb0 : decide (ahd n base < 0) = true := decide_eq_true h0
        generalize ahd n base = d at *
        go_wp2_with fail
        exact bodyPost_ret (res3' rfl _ _ _) rfl ⟨by rw [HC.out]; rfl, HFQ.out⟩
      have hb0 : decide (ahd n base < 0) = false := decide_eq_false h0
      by_cases h1 : 109 ≤ ahd n base
      · have HC : Hid (cvFrom base ns = .error 31) := Lib.hid (by rw [HSP.out]; exact fromL_bad (.inr h1) HFR.out)
        have hb1 : decide (109 ≤ ahd n base) = true := decide_eq_true h1
        generalize ahd n base = d at *
        go_wp2_with fail
        exact bodyPost_ret (res3' rfl _ _ _) rfl ⟨by rw [HC.out]; rfl, HFQ.out⟩
      have hb1 : decide (109 ≤ ahd n base) = false := decide_eq_false h1
      have HGD := Lib.hid (fromL_good (base := base) (n := n) (fun h => h.elim h0 h1) HFR.out)
      have HMP : Hid (((ns.take (j + 1)).map fun n => ahd n base) = ((ns.take j).map fun n => ahd n base) ++ [ahd n base]) := Lib.hid (by rw [HT.out, List.map_append]; rfl)
      rw [← HT.out] at HGD
      obtain ⟨d, hd⟩ : ∃ d : Nat, ahd n base = (d : Int) := ⟨(ahd n base).toNat, by omega⟩
      rw [hd] at h0 h1 hb0 hb1 HGD HMP ⊢
      have hd109 : d < 109 := by omega
      clear h0 h1 hd
      simp only [Int.toNat_natCast] at HGD
      go_upto_region 11 with fail
      clear hb0 hb1
      generalize ((ns.take j).map fun n => ahd n base) = is at *
      have HHD : Hid (m.has d = decide ((d : Int) ∈ is)) := Lib.hid (by rw [Bool.eq_iff_iff, decide_eq_true_iff]; exact HHAS.out d (by omega))
      go_wp2_with fail
      go_loopw [8, 11] (fun tv iv wz => ∃ k : Nat, k ≤ j ∧ iv = .int .i64 k ∧ tv = .bool (t || decide ((d : Int) ∈ is.take k)) ∧ wz = w3) (fun _ iv _ => j - (intOf iv).toNat)
      case atStart => exact ⟨0, Nat.zero_le _, rfl, by simp, rfl⟩
      case round =>
        obtain ⟨k, hk, rfl, rfl, rfl⟩ := hrel
        by_cases hkl : k < j
        · have hki : k < is.length := by rw [HLL.out]; exact hkl
          obtain ⟨b2, o2, ea, -, hc2⟩ := Sl.at_ HO.out.sl (k := k) hkl
          subst ea
          have d1 := hc2 k (Value.int .i64 is[k]) (by rw [List.getElem?_map, List.getElem?_eq_getElem hki]; rfl)
          clear hc2
          have HTK : Hid (is.take (k + 1) = is.take k ++ [is[k]]) := Lib.hid (List.take_succ_eq_append_getElem hki)
          generalize is[k] = y at *
          by_cases hm : (t || decide ((d : Int) ∈ is.take k)) = true
          · have HD : Hid ((t || decide ((d : Int) ∈ is.take (k + 1))) = true) := Lib.hid (by
              rw [HTK.out]
              rw [Bool.or_eq_true, decide_eq_true_iff] at hm ⊢
              exact hm.imp id (fun h => List.mem_append_left _ h))
            rw [hm]
            clear hm
            go_wp2_with fail
            exact ⟨⟨k + 1, by omega, by go_num, by rw [HD.out], by first | rfl | trivial⟩, by simp [intOf]; omega⟩
          have hmf : (t || decide ((d : Int) ∈ is.take k)) = false := by simpa using hm
          obtain ⟨ht, hmm⟩ := Bool.or_eq_false_iff.1 hmf
          rw [decide_eq_false_iff_not] at hmm
          rw [hmf]
          by_cases hy : y = (d : Int)
          · subst hy
            have HD : Hid ((t || decide ((d : Int) ∈ is.take (k + 1))) = true) := Lib.hid (by rw [HTK.out]; simp)
            clear hm hmf ht hmm
            go_wp2_with fail
            exact ⟨⟨k + 1, by omega, by go_num, by rw [HD.out], by first | rfl | trivial⟩, by simp [intOf]; omega⟩
          · have HD : Hid ((t || decide ((d : Int) ∈ is.take (k + 1))) = false) := Lib.hid (by
              rw [HTK.out, ht, Bool.false_or, decide_eq_false_iff_not, List.mem_append, List.mem_singleton]
              rintro (h | h)
              · exact hmm h
              · exact hy h.symm)
            have hyb : (y == (d : Int)) = false := by simpa using hy
            clear hm hmf ht hmm hy
            go_wp2_with fail
            exact ⟨⟨k + 1, by omega, by go_num, by rw [HD.out], by first | rfl | trivial⟩, by simp [intOf]; omega⟩
        · obtain rfl : j = k := by omega
          rw [List.take_of_length_le (by rw [HLL.out]; exact Nat.le_refl _), ← HHD.out]
          have HLO : Hid (is.length ≤ 1099511627776) := Lib.hid (by rw [HLL.out]; omega)
          have HHN : Hid (∀ i, i < 128 → ((m.or (Msk.bit d)).has i = true ↔ (i : Int) ∈ is ++ [(d : Int)])) := Lib.hid (fun i hi => by
            rw [Msk.has_or, Msk.has_bit (by omega), Bool.or_eq_true, HHAS.out i hi, List.mem_append, List.mem_singleton, beq_iff_eq]
            constructor
            · rintro (h | h)
              · exact .inl h
              · exact .inr (by omega)
            · rintro (h | h)
              · exact .inl h
              · exact .inr (by omega))
          generalize (t || m.has d) = t2 at *
          have A0 : Hid ((wr.alloc (.cells #[Value.int .i64 (d : Int)] 3)).ownsRow w.heap.size 3 1 (.slice ao j co) (is).length ((is).map (Value.int .i64))) := Lib.hid (Own.keep HO.out ((Fr.refl [] wr).alloc _))
          have A1 : Hid ((is).length + [Value.int .i64 (d : Int)].length ≤ maxLen) := Lib.hid (by have := HLO.out; unfold maxLen; simp only [List.length_singleton]; omega)
          have A2 : Hid (((is).length + [Value.int .i64 (d : Int)].length) * 8 ≤ 140737488355328) := Lib.hid (by have := HLO.out; simp only [List.length_singleton]; omega)
          have A3 : Hid (Sl (wr.alloc (.cells #[Value.int .i64 (d : Int)] 3)) (.slice (some ⟨wr.heap.size, 0, none⟩) 1 1) [Value.int .i64 (d : Int)]) := Lib.hid (Sl.one wr _ _)
          have A4 : Hid (w.heap.size ≤ (wr.alloc (.cells #[Value.int .i64 (d : Int)] 3)).heap.size) := Lib.hid (by have := HFQ.out.size; simp; omega)
          go_wp2_with (at_builtin; refine wpList_append_slf rfl (.tmp 51) (.tmp 53) 53 rfl w.heap.size 3 (.int .i64 0) 8 Try.underlying53 info_int rfl (.slice ao j co) (is).length ((is).map (Value.int .i64)) rfl A0.out (.slice (some ⟨wr.heap.size, 0, none⟩) 1 1) [Value.int .i64 (d : Int)] rfl A3.out (by simp [Value.oneCell']) A1.out A2.out A4.out ?_; intro v3 w3 ho hg hfr; have HO3 := Lib.hid ho; have HG := Lib.hid hg; have HBL := Lib.hid hfr; clear ho hg hfr)
          have HN : Hid (OwnV w3 w.heap.size 3 (Value.int .i64) v3 (is ++ [(d : Int)])) := Lib.hid (by
            have := HO3.out
            unfold OwnV
            rw [List.map_append, List.length_append]
            exact this)
          have HF3 : Hid (Fr [] w w3) := Lib.hid ((HFQ.out.alloc _).step HG.out (fun x hx => .inr (HO.out.block x (by simpa using hx)).1))
          go_wp2_with fail
          exact ⟨⟨j + 1, _, t2, by omega, by go_num, rfl, HGD.out, by rw [HMP.out]; exact HHN.out, by rw [HMP.out]; exact HN.out, HF3.out⟩, by simp [intOf]; omega⟩
    · obtain rfl : j = ns.length := by omega
      rw [List.take_length] at HFR HHAS HO HLL
      cases t with
      | true =>
        have HC : Hid (cvFrom base ns = .error 5) := Lib.hid (by unfold cvFrom; rw [HFR.out]; simp only; rw [if_neg HNE.out]; rfl)
        go_wp2_with fail
        exact bodyPost_ret (res3' rfl _ _ _) rfl ⟨by rw [HC.out]; rfl, HFQ.out⟩
      | false =>
        have HC : Hid (cvFrom base ns = .ok m) := Lib.hid (by unfold cvFrom; rw [HFR.out]; simp only; rw [if_neg HNE.out]; rfl)
        have HSL := Lib.hid HO.out.sl
        go_wp2_with fail
        refine (r02From_any HSL.out (by rw [HLL.out]; exact hs)).mono ?_
        rintro e w4 ⟨v4, rfl, hO4, hF⟩
        rw [memL_bits HHAS.out] at hO4
        have HB4 := Lib.hid hO4.sl
        obtain ⟨a4, c4, rfl⟩ := hO4.shape
        rw [bitsL_len] at HB4 ⊢
        have HFQ := Lib.hid (HFQ.out.trans hF)
        clear hF hO4
        go_wp2_with fail
        refine (r02Nums_any HB4.out).mono ?_
        rintro e w5 ⟨rfl, hF⟩
        have HFQ := Lib.hid (HFQ.out.trans hF)
        clear hF
        go_wp2_with fail
        exact bodyPost_ret (res3' rfl _ _ _) rfl ⟨by rw [HC.out]; rfl, HFQ.out⟩
end Go.Proofs.Ytchbgiindfoepaa

/- The walks of confluxref01.Span and confluxref11.Of (printed by gen_ref01c.py). -/
namespace Go.Proofs.Ytchbgiindfoepaa
open Go.RowKit

theorem span_low {x : UInt16} {ns out : List UInt16} (h0 : ns.head? = some x) (hp : out.Perm ns) (ho : inOrd x out) (hl : 0 < out.length) : lowOf x ns = ahd out[0] x ∧ highOf x ns = ahd (out[out.length - 1]'(by omega)) x := by
  have hx : x ∈ ns := by cases ns with | nil => cases h0 | cons a l => simp at h0; simp [h0]
  have hmin : ∀ n ∈ ns, ahd out[0] x ≤ ahd n x := fun n hn => by
    obtain ⟨i, hi, rfl⟩ := List.getElem_of_mem (hp.mem_iff.2 hn)
    exact ord_at ho (Nat.zero_le i) hi
  have hmax : ∀ n ∈ ns, ahd n x ≤ ahd (out[out.length - 1]'(by omega)) x := fun n hn => by
    obtain ⟨i, hi, rfl⟩ := List.getElem_of_mem (hp.mem_iff.2 hn)
    exact ord_at ho (by omega) (by omega)
  have m0 : out[0] ∈ ns := hp.mem_iff.1 (List.getElem_mem _)
  have m1 : (out[out.length - 1]'(by omega)) ∈ ns := hp.mem_iff.1 (List.getElem_mem _)
  have s := ahd_self x
  obtain ⟨l1, l2, l3⟩ := low_spec x ns
  obtain ⟨g1, g2, g3⟩ := high_spec x ns
  have a1 := l2 _ m0; have a2 := g2 _ m1; have a3 := hmin x hx; have a4 := hmax x hx
  rw [s] at a3 a4
  constructor
  · rcases l3 with h | ⟨n, hn, h⟩
    · omega
    · have := hmin n hn; omega
  · rcases g3 with h | ⟨n, hn, h⟩
    · omega
    · have := hmax n hn; omega
set_option maxRecDepth 100000 in
set_option maxHeartbeats 8000000 in
theorem r01Span_any {w : World} {v : Value} {ns : List UInt16} {x : UInt16} (hx : Seqs w v ns) (hs : ns.length ≤ 1000) (h0 : ns.head? = some x) :
    Calls Try.prog 91 #[v] w fun e w' => e = .returned (.tuple #[.int .u16 ((add16 x (lowOf x ns)).toNat : Nat), .int .i64 (highOf x ns - lowOf x ns)]) ∧ Fr [] w w' := by
  obtain ⟨av, cv, rfl⟩ := Sl.shape hx
  rw [List.length_map] at hx ⊢
  have hpos : 0 < ns.length := by cases ns with | nil => cases h0 | cons a l => simp
  have hx0 : ns[0] = x := by cases ns with | nil => cases h0 | cons a l => simpa using h0
  obtain ⟨b, o, ea, -, -⟩ := Sl.at_ hx hpos
  subst ea
  have HC0 : Hid (w.cell? ⟨b, o, none⟩ = some (.int .u16 (x.toNat : Nat))) := Lib.hid (by
    obtain ⟨b', o', e, -, hc⟩ := Sl.at_ hx hpos
    cases e
    have := hc 0 (W16 ns[0]) (by rw [List.getElem?_map, List.getElem?_eq_getElem hpos]; rfl)
    rw [hx0] at this
    simpa [W16] using this)
  have HX := Lib.hid hx; have H0 := Lib.hid h0
  have hb : ((ns.length : Int) == 0) = false := by rw [beq_eq_false_iff_ne]; omega
  clear hx hx0 h0
  go_enter Try.func91, Try.ntmps91
  go_wp2_with fail
  refine (r01Sorted_any HX.out hs H0.out).mono ?_
  rintro e w2 ⟨v2, out, rfl, hO, hP, hI, hF⟩
  have hlo : out.length = ns.length := hP.length_eq
  obtain ⟨g, c, e2⟩ := own_some hO (fun e => by rw [e] at hlo; simp at hlo; omega)
  subst e2
  have hol : 0 < out.length := by omega
  obtain ⟨hl1, hl2⟩ := span_low H0.out hP hI hol
  obtain ⟨y, hy⟩ : ∃ y, (out[out.length - 1]'(by omega)) = y := ⟨_, rfl⟩
  obtain ⟨z, hz⟩ : ∃ z, out[0] = z := ⟨_, rfl⟩
  rw [hy] at hl2
  rw [hz] at hl1
  have HF := Lib.hid hF
  have hsl := hO.sl
  have HA : Hid (w2.cell? ⟨g, 0, none⟩ = some (.int .u16 (z.toNat : Nat))) := Lib.hid (by
    rw [← hz]
    obtain ⟨b', o', e, -, hc⟩ := Sl.at_ hsl (k := 0) hol
    cases e
    have := hc 0 (W16 out[0]) (by rw [List.getElem?_map, List.getElem?_eq_getElem hol]; rfl)
    simpa [W16] using this)
  have HB : Hid (w2.cell? ⟨g, out.length - 1, none⟩ = some (.int .u16 (y.toNat : Nat))) := Lib.hid (by
    rw [← hy]
    obtain ⟨b', o', e, -, hc⟩ := Sl.at_ hsl (k := 0) hol
    cases e
    have := hc (out.length - 1) (W16 (out[out.length - 1]'(by omega))) (by rw [List.getElem?_map, List.getElem?_eq_getElem (by omega)]; rfl)
    simpa [W16] using this)
  have HC := Lib.hid (hF.cellSome HC0.out (by simp))
  have hbd := low_bd x ns
  have HR : Hid (add16 x (lowOf x ns) = z) := Lib.hid (by rw [hl1, add16_ahd])
  have HL1 := Lib.hid hl1; have HL2 := Lib.hid hl2
  clear hy hz
  clear hO hP hI hF hsl hb
  have HLN := Lib.hid hlo
  clear hlo
  generalize hlen : out.length = L at *
  have hL : 0 < L := hol
  have hL1000 : L ≤ 1000 := by rw [HLN.out]; exact hs
  clear hlen hol
  obtain ⟨L1, hL1⟩ : ∃ L1, L = L1 + 1 := ⟨L - 1, by omega⟩
  subst hL1
  simp only [Nat.add_sub_cancel] at HB
  have hwr : IntKind.i64.wrap (((L1 + 1 : Nat) : Int) - 1) = (L1 : Int) := by rw [show ((L1 + 1 : Nat) : Int) - 1 = (L1 : Int) by omega]; exact IntWalk.i64_in _ (by omega)
  have hwr2 : IntKind.i64.wrap (L1 : Int) = (L1 : Int) := IntWalk.i64_in _ (by omega)
  have hlt3 : (L1 : Int) < (L1 : Int) + 1 := by omega
  obtain ⟨lo, hlo⟩ : ∃ k, lowOf x ns = k := ⟨_, rfl⟩
  obtain ⟨hi, hhi⟩ : ∃ k, highOf x ns = k := ⟨_, rfl⟩
  rw [hlo, hhi] at hbd
  rw [hlo] at HL1 HR
  rw [hhi] at HL2
  have HQ1 := Lib.hid hlo; have HQ2 := Lib.hid hhi
  have hwd : IntKind.i64.wrap (hi - lo) = hi - lo := IntWalk.i64_in _ (by omega)
  clear hlo hhi
  go_upto_region 4 with fail
  refine wp_region_T (fun w' => Fr [] w2.drew w') [] 23 #[false, false, false, false, false, false, false, false, false, false, false, false, false, false, false, false, false, false, false, false, false, false, false] (by kernel_rfl) rfl rfl ?_
  try simp only [List.append_eq, List.cons_append, List.nil_append]
  have hF := (Fr.refl [] w2).drew
  have HF := Lib.hid (HF.out.trans hF)
  have HA := Lib.hid (hF.cellSome HA.out (by simp))
  have HB := Lib.hid (hF.cellSome HB.out (by simp))
  have HC := Lib.hid (hF.cellSome HC.out (by simp))
  clear hF
  have HSS : Hid (Fr [] w2.drew w2.drew) := Lib.hid (Fr.refl _ _)
  generalize w2.drew = wd at *
  refine wpAnyT_load (i := 0) (v := ?_) rfl (by kernel_rfl) (by kernel_rfl) (by kernel_rfl) (by kernel_rfl) (by kernel_rfl) (fun _ _ _ h => h) HSS.out (by rfl) ?_ ?_
  rotate_left
  · intro w hSw; skip; go_simp; try with_reducible rfl
  simp only [Act.put, List.getElem_toArray, List.getElem_cons_zero, List.getElem_cons_succ, List.setIfInBounds_toArray, List.set_cons_zero, List.set_cons_succ]
  refine wpAnyT_load (i := 1) (v := ?_) rfl (by kernel_rfl) (by kernel_rfl) (by kernel_rfl) (by kernel_rfl) (by kernel_rfl) (fun _ _ _ h => h) HSS.out (by rfl) ?_ ?_
  rotate_left
  · intro w hSw; skip; go_simp; try with_reducible rfl
  simp only [Act.put, List.getElem_toArray, List.getElem_cons_zero, List.getElem_cons_succ, List.setIfInBounds_toArray, List.set_cons_zero, List.set_cons_succ]
  refine wpAnyT_load (i := 2) (v := ?_) rfl (by kernel_rfl) (by kernel_rfl) (by kernel_rfl) (by kernel_rfl) (by kernel_rfl) (fun _ _ _ h => h) HSS.out (by rfl) ?_ ?_
  rotate_left
  · intro w hSw; have n0 := hSw.cellSome HA.out (by simp); go_simp; try with_reducible rfl
  simp only [Act.put, List.getElem_toArray, List.getElem_cons_zero, List.getElem_cons_succ, List.setIfInBounds_toArray, List.set_cons_zero, List.set_cons_succ]
  refine wpAnyT_load (i := 3) (v := ?_) rfl (by kernel_rfl) (by kernel_rfl) (by kernel_rfl) (by kernel_rfl) (by kernel_rfl) (fun _ _ _ h => h) HSS.out (by rfl) ?_ ?_
  rotate_left
  · intro w hSw; skip; go_simp; try with_reducible rfl
  simp only [Act.put, List.getElem_toArray, List.getElem_cons_zero, List.getElem_cons_succ, List.setIfInBounds_toArray, List.set_cons_zero, List.set_cons_succ]
  refine wpAnyT_load (i := 4) (v := ?_) rfl (by kernel_rfl) (by kernel_rfl) (by kernel_rfl) (by kernel_rfl) (by kernel_rfl) (fun _ _ _ h => h) HSS.out (by rfl) ?_ ?_
  rotate_left
  · intro w hSw; skip; go_simp; try with_reducible rfl
  simp only [Act.put, List.getElem_toArray, List.getElem_cons_zero, List.getElem_cons_succ, List.setIfInBounds_toArray, List.set_cons_zero, List.set_cons_succ]
  refine wpAnyT_load (i := 5) (v := ?_) rfl (by kernel_rfl) (by kernel_rfl) (by kernel_rfl) (by kernel_rfl) (by kernel_rfl) (fun _ _ _ h => h) HSS.out (by rfl) ?_ ?_
  rotate_left
  · intro w hSw; skip; go_simp; try with_reducible rfl
  simp only [Act.put, List.getElem_toArray, List.getElem_cons_zero, List.getElem_cons_succ, List.setIfInBounds_toArray, List.set_cons_zero, List.set_cons_succ]
  refine wpAnyT_load (i := 6) (v := ?_) rfl (by kernel_rfl) (by kernel_rfl) (by kernel_rfl) (by kernel_rfl) (by kernel_rfl) (fun _ _ _ h => h) HSS.out (by rfl) ?_ ?_
  rotate_left
  · intro w hSw; skip; go_simp; try with_reducible rfl
  simp only [Act.put, List.getElem_toArray, List.getElem_cons_zero, List.getElem_cons_succ, List.setIfInBounds_toArray, List.set_cons_zero, List.set_cons_succ]
  refine wpAnyT_load (i := 7) (v := ?_) rfl (by kernel_rfl) (by kernel_rfl) (by kernel_rfl) (by kernel_rfl) (by kernel_rfl) (fun _ _ _ h => h) HSS.out (by rfl) ?_ ?_
  rotate_left
  · intro w hSw; skip; go_simp; try with_reducible rfl
  simp only [Act.put, List.getElem_toArray, List.getElem_cons_zero, List.getElem_cons_succ, List.setIfInBounds_toArray, List.set_cons_zero, List.set_cons_succ]
  refine wpAnyT_load (i := 8) (v := ?_) rfl (by kernel_rfl) (by kernel_rfl) (by kernel_rfl) (by kernel_rfl) (by kernel_rfl) (fun _ _ _ h => h) HSS.out (by rfl) ?_ ?_
  rotate_left
  · intro w hSw; have n0 := hSw.cellSome HB.out (by simp); go_simp; try with_reducible rfl
  simp only [Act.put, List.getElem_toArray, List.getElem_cons_zero, List.getElem_cons_succ, List.setIfInBounds_toArray, List.set_cons_zero, List.set_cons_succ]
  refine wpAnyT_load (i := 9) (v := ?_) rfl (by kernel_rfl) (by kernel_rfl) (by kernel_rfl) (by kernel_rfl) (by kernel_rfl) (fun _ _ _ h => h) HSS.out (by rfl) ?_ ?_
  rotate_left
  · intro w hSw; skip; go_simp; try with_reducible rfl
  simp only [Act.put, List.getElem_toArray, List.getElem_cons_zero, List.getElem_cons_succ, List.setIfInBounds_toArray, List.set_cons_zero, List.set_cons_succ]
  refine wpAnyT_load (i := 10) (v := ?_) rfl (by kernel_rfl) (by kernel_rfl) (by kernel_rfl) (by kernel_rfl) (by kernel_rfl) (fun _ _ _ h => h) HSS.out (by rfl) ?_ ?_
  rotate_left
  · intro w hSw; skip; go_simp; try with_reducible rfl
  simp only [Act.put, List.getElem_toArray, List.getElem_cons_zero, List.getElem_cons_succ, List.setIfInBounds_toArray, List.set_cons_zero, List.set_cons_succ]
  refine wpAnyT_load (i := 11) (v := ?_) rfl (by kernel_rfl) (by kernel_rfl) (by kernel_rfl) (by kernel_rfl) (by kernel_rfl) (fun _ _ _ h => h) HSS.out (by rfl) ?_ ?_
  rotate_left
  · intro w hSw; have n0 := hSw.cellSome HC.out (by simp); go_simp; try with_reducible rfl
  simp only [Act.put, List.getElem_toArray, List.getElem_cons_zero, List.getElem_cons_succ, List.setIfInBounds_toArray, List.set_cons_zero, List.set_cons_succ]
  refine wpAnyT_load (i := 13) (v := ?_) rfl (by kernel_rfl) (by kernel_rfl) (by kernel_rfl) (by kernel_rfl) (by kernel_rfl) (fun _ _ _ h => h) HSS.out (by rfl) ?_ ?_
  rotate_left
  · intro w hSw; skip; go_simp; try with_reducible rfl
  simp only [Act.put, List.getElem_toArray, List.getElem_cons_zero, List.getElem_cons_succ, List.setIfInBounds_toArray, List.set_cons_zero, List.set_cons_succ]
  refine wpAnyT_load (i := 14) (v := ?_) rfl (by kernel_rfl) (by kernel_rfl) (by kernel_rfl) (by kernel_rfl) (by kernel_rfl) (fun _ _ _ h => h) HSS.out (by rfl) ?_ ?_
  rotate_left
  · intro w hSw; skip; go_simp; try with_reducible rfl
  simp only [Act.put, List.getElem_toArray, List.getElem_cons_zero, List.getElem_cons_succ, List.setIfInBounds_toArray, List.set_cons_zero, List.set_cons_succ]
  refine wpAnyT_load (i := 15) (v := ?_) rfl (by kernel_rfl) (by kernel_rfl) (by kernel_rfl) (by kernel_rfl) (by kernel_rfl) (fun _ _ _ h => h) HSS.out (by rfl) ?_ ?_
  rotate_left
  · intro w hSw; have n0 := hSw.cellSome HA.out (by simp); go_simp; try with_reducible rfl
  simp only [Act.put, List.getElem_toArray, List.getElem_cons_zero, List.getElem_cons_succ, List.setIfInBounds_toArray, List.set_cons_zero, List.set_cons_succ]
  refine wpAnyT_load (i := 16) (v := ?_) rfl (by kernel_rfl) (by kernel_rfl) (by kernel_rfl) (by kernel_rfl) (by kernel_rfl) (fun _ _ _ h => h) HSS.out (by rfl) ?_ ?_
  rotate_left
  · intro w hSw; skip; go_simp; try with_reducible rfl
  simp only [Act.put, List.getElem_toArray, List.getElem_cons_zero, List.getElem_cons_succ, List.setIfInBounds_toArray, List.set_cons_zero, List.set_cons_succ]
  refine wpAnyT_load (i := 17) (v := ?_) rfl (by kernel_rfl) (by kernel_rfl) (by kernel_rfl) (by kernel_rfl) (by kernel_rfl) (fun _ _ _ h => h) HSS.out (by rfl) ?_ ?_
  rotate_left
  · intro w hSw; skip; go_simp; try with_reducible rfl
  simp only [Act.put, List.getElem_toArray, List.getElem_cons_zero, List.getElem_cons_succ, List.setIfInBounds_toArray, List.set_cons_zero, List.set_cons_succ]
  refine wpAnyT_load (i := 18) (v := ?_) rfl (by kernel_rfl) (by kernel_rfl) (by kernel_rfl) (by kernel_rfl) (by kernel_rfl) (fun _ _ _ h => h) HSS.out (by rfl) ?_ ?_
  rotate_left
  · intro w hSw; have n0 := hSw.cellSome HC.out (by simp); go_simp; try with_reducible rfl
  simp only [Act.put, List.getElem_toArray, List.getElem_cons_zero, List.getElem_cons_succ, List.setIfInBounds_toArray, List.set_cons_zero, List.set_cons_succ]
  refine wpAnyT_one (i := 12) (by kernel_rfl) rfl (fun K hK => ?_)
  rw [if_pos (by rfl)]
  go_simp
  refine (r01Ahead_any y x).mono ?_
  rw [← HL2.out]
  rintro e wq12 ⟨rfl, hF⟩
  have HSS := Lib.hid (HSS.out.trans hF)
  clear hF
  go_simp
  refine hK.out _ _ (fun _ => HSS.out) ?_
  clear hK K
  simp only [Act.put, List.getElem_toArray, List.getElem_cons_zero, List.getElem_cons_succ, List.setIfInBounds_toArray, List.set_cons_zero, List.set_cons_succ]
  refine wpAnyT_one (i := 19) (by kernel_rfl) rfl (fun K hK => ?_)
  rw [if_pos (by rfl)]
  go_simp
  refine (r01Ahead_any z x).mono ?_
  rw [← HL1.out]
  rintro e wq19 ⟨rfl, hF⟩
  have HSS := Lib.hid (HSS.out.trans hF)
  clear hF
  go_simp
  refine hK.out _ _ (fun _ => HSS.out) ?_
  clear hK K
  simp only [Act.put, List.getElem_toArray, List.getElem_cons_zero, List.getElem_cons_succ, List.setIfInBounds_toArray, List.set_cons_zero, List.set_cons_succ]
  refine wpAnyT_load (i := 20) (v := ?_) rfl (by kernel_rfl) (by kernel_rfl) (by kernel_rfl) (by kernel_rfl) (by kernel_rfl) (fun _ _ _ h => h) HSS.out (by rfl) ?_ ?_
  rotate_left
  · intro w hSw; skip; go_simp; try with_reducible rfl
  simp only [Act.put, List.getElem_toArray, List.getElem_cons_zero, List.getElem_cons_succ, List.setIfInBounds_toArray, List.set_cons_zero, List.set_cons_succ]
  refine wpAnyT_load (i := 21) (v := ?_) rfl (by kernel_rfl) (by kernel_rfl) (by kernel_rfl) (by kernel_rfl) (by kernel_rfl) (fun _ _ _ h => h) HSS.out (by rfl) ?_ ?_
  rotate_left
  · intro w hSw; skip; go_simp; try with_reducible rfl
  simp only [Act.put, List.getElem_toArray, List.getElem_cons_zero, List.getElem_cons_succ, List.setIfInBounds_toArray, List.set_cons_zero, List.set_cons_succ]
  refine wpAnyT_load (i := 22) (v := ?_) rfl (by kernel_rfl) (by kernel_rfl) (by kernel_rfl) (by kernel_rfl) (by kernel_rfl) (fun _ _ _ h => h) HSS.out (by rfl) ?_ ?_
  rotate_left
  · intro w hSw; skip; go_simp; try with_reducible rfl
  simp only [Act.put, List.getElem_toArray, List.getElem_cons_zero, List.getElem_cons_succ, List.setIfInBounds_toArray, List.set_cons_zero, List.set_cons_succ]
  refine wpAnyT_done (by kernel_rfl) ?_ _
  have HF := Lib.hid (HF.out.trans HSS.out)
  go_wp2_with fail
  go_ret2
  exact ⟨by rw [HQ1.out, HQ2.out, HR.out]; rfl, HF.out⟩
/-- What Of hands back. -/
def OfV (x : Except Int (UInt16 × Msk)) (e : Ending) : Prop := match x with
  | .ok (b, m) => e = .returned (.tuple #[.int .u16 (b.toNat : Nat), .int .u64 (m.hi.toNat : Nat), .int .u64 (m.lo.toNat : Nat), .int .i64 0])
  | .error k => e = .returned (.tuple #[.int .u16 0, .int .u64 0, .int .u64 0, .int .i64 k])
theorem res4 {fn : Func} {t u s r : Tmp} (h : fn.results = #[.tmp t, .tmp u, .tmp s, .tmp r]) (tmps : Array Value) (P : Program) (w : World) :
    (results fn tmps).run P w = .ok (.tuple #[tmps.getD t undef, tmps.getD u undef, tmps.getD s undef, tmps.getD r undef]) w := by
  simp [results, h]
theorem cvFrom_err {b : UInt16} {l : List UInt16} {k : Int} (h : cvFrom b l = .error k) : k ≠ 0 := by
  have hf : ∀ (l : List UInt16) (m : Msk) (t : Bool) (k : Int), fromL b l m t = .error k → k = 31 := by
    intro l
    induction l with
    | nil => intro m t k h; cases h
    | cons n l ih =>
      intro m t k h
      unfold fromL at h
      split at h
      · cases h; rfl
      · exact ih _ _ _ h
  unfold cvFrom at h
  split at h
  · rename_i k' hk
    cases h
    rw [hf _ _ _ _ hk]; decide
  · split at h
    · cases h; decide
    · split at h
      · cases h; decide
      · cases h
set_option maxRecDepth 100000 in
set_option maxHeartbeats 8000000 in
theorem r11Of_any {w : World} {v : Value} {ns : List UInt16} {x : UInt16} (hx : Seqs w v ns) (hs : ns.length ≤ 1000) (h0 : ns.head? = some x) :
    Calls Try.prog 73 #[v] w fun e w' => OfV (cvOf ns) e ∧ Fr [] w w' := by
  obtain ⟨av, cv, rfl⟩ := Sl.shape hx
  rw [List.length_map] at hx ⊢
  have hpos : 0 < ns.length := by cases ns with | nil => cases h0 | cons a l => simp
  have HCV : Hid (cvOf ns = if 109 ≤ highOf x ns - lowOf x ns then .error 31 else match cvFrom (add16 x (lowOf x ns)) ns with | .error k => .error k | .ok m => .ok (add16 x (lowOf x ns), m)) := Lib.hid (by
    cases ns with
    | nil => cases h0
    | cons a l =>
      simp at h0
      subst h0
      exact cvOf_cons a l)
  have hgt : decide ((0 : Int) < (ns.length : Int)) = true := decide_eq_true (by omega)
  have HX := Lib.hid hx; have H0 := Lib.hid h0
  clear hx h0
  go_enter Try.func73, Try.ntmps73
  go_wp2_with fail
  refine (r01Span_any HX.out hs H0.out).mono ?_
  rintro e w2 ⟨rfl, hF⟩
  have HX := Lib.hid (Sl.keep HX.out hF); have HF := Lib.hid hF
  clear hF
  generalize add16 x (lowOf x ns) = base at *
  obtain ⟨d, hd⟩ : ∃ d, highOf x ns - lowOf x ns = d := ⟨_, rfl⟩
  rw [hd] at HCV ⊢
  clear hd
  by_cases h9 : 109 ≤ d
  · have hb : decide (109 ≤ d) = true := decide_eq_true h9
    have HC : Hid (cvOf ns = .error 31) := Lib.hid (by rw [HCV.out, if_pos h9])
    go_wp2_with fail
    exact bodyPost_ret (res4 rfl _ _ _) rfl ⟨by rw [HC.out]; rfl, HF.out⟩
  have hb : decide (109 ≤ d) = false := decide_eq_false h9
  rw [if_neg h9] at HCV
  go_wp2_with fail
  refine (r11From_any base HX.out hs).mono ?_
  rintro e w3 ⟨hV, hF⟩
  have HF := Lib.hid (HF.out.trans hF)
  clear hF
  cases hc : cvFrom base ns with
  | error k =>
    rw [hc] at hV HCV
    have hk := cvFrom_err hc
    have hkb : (k != 0) = true := bne_iff_ne.2 hk
    have HC : Hid (cvOf ns = .error k) := Lib.hid HCV.out
    have he : e = _ := hV
    subst he
    clear hV hc hk
    go_wp2_with fail
    exact bodyPost_ret (res4 rfl _ _ _) rfl ⟨by rw [HC.out]; rfl, HF.out⟩
  | ok m =>
    rw [hc] at hV HCV
    have HC : Hid (cvOf ns = .ok (base, m)) := Lib.hid HCV.out
    have he : e = _ := hV
    subst he
    clear hV hc
    go_wp2_with fail
    exact bodyPost_ret (res4 rfl _ _ _) rfl ⟨by rw [HC.out]; rfl, HF.out⟩
end Go.Proofs.Ytchbgiindfoepaa
