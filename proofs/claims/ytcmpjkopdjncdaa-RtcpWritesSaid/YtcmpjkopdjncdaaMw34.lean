import Derived.Defers
import Derived.Recover
import Derived.Test.YtcmpjkopdjncdaaMw29
import Derived.Test.YtcmpjkopdjncdaaMw9
import Derived.Test.YtcmpjkopdjncdaaMw33
import Derived.Test.YtcmpjkopdjncdaaMw13
/- The walk of rtcp's readChunk (printed by gen_7chunk.py). -/
namespace Go.Proofs.Ytcmpjkopdjncdaa
open Go.RowKit

/-- A text as cells of a slice. -/
abbrev txc (x : Int × List UInt8) : Array Value := #[.int .i64 x.1, .string (strB x.2)]
def TxtR (_ : World) (c : List Value) (x : Int × List UInt8) (B : List Nat) : Prop := c = (txc x).toList ∧ B = []
theorem Rep.txt : Rep 2 TxtR where
  len := by rintro w c y B ⟨rfl, -⟩; rfl
  one := by
    rintro w c y B ⟨rfl, -⟩ u hu
    simp at hu
    rcases hu with rfl | rfl <;> rfl
  lt := by rintro w c y B ⟨-, rfl⟩ b hb; cases hb
  fr := by rintro w w' c y B S h _ _; exact h
set_option maxRecDepth 100000 in
theorem info_txt : (Try.prog.info? 90).map (fun i => (i.zero, i.size, i.bytes)) = some (some (.agg #[.int .i64 0, .string ⟨#[]⟩]), 2, 24) := by kernel_rfl
/-- What a round of readChunk keeps. -/
structure CRl (w W : World) (R X B0 : Nat) (v : Value) (l : List UInt8) (k f : Nat) (ts : List (Int × List UInt8)) (k' : Nat) (vt : Value) : Prop where
  fuel : l.length < k' + f
  lo : k + 4 ≤ k'
  eq : textsR l (l.length + 1) (k + 4) = (textsR l f k').map fun r => (ts ++ r.1, r.2)
  n : ts.length ≤ k'
  box : Box W X 87 #[.int .u32 ((l32 l k).toNat : Nat), vt]
  own : OwnEls 2 TxtR W B0 90 vt ts []
  rd : Rd W R v k' l
  res : Box W w.heap.size 87 #[.int .u32 0, .slice none 0 0]
  f : Fr [R] w W
  sz : B0 ≤ W.heap.size
theorem CRl.keep {w W W' : World} {R X B0 : Nat} {v : Value} {l : List UInt8} {k f : Nat} {ts : List (Int × List UInt8)} {k' k2 : Nat} {vt : Value} (h : CRl w W R X B0 v l k f ts k' vt) (hf : Fr [R] W W') (hR : R < w.heap.size) (hX : w.heap.size < X) (hB : X < B0) :
    Box W' X 87 #[.int .u32 ((l32 l k).toNat : Nat), vt] ∧ OwnEls 2 TxtR W' B0 90 vt ts [] ∧ Box W' w.heap.size 87 #[.int .u32 0, .slice none 0 0] ∧ Fr [R] w W' ∧ B0 ≤ W'.heap.size :=
  ⟨h.box.fr hf (by simp; omega), h.own.fr Rep.txt hf (by simp) (fun b hb hm => by have := (h.own.block b hb).1; simp at hm; omega), h.res.fr hf (by simp; omega), h.f.trans hf, Nat.le_trans h.sz hf.size⟩
theorem textsR_succ (l : List UInt8) (f k : Nat) : textsR l (f + 1) k = if k + 1 ≤ l.length then if nb l k 1 = 0 then some ([], k + 1) else if k + 2 ≤ l.length then if k + 2 + nb l (k + 1) 1 ≤ l.length then (textsR l f (k + 2 + nb l (k + 1) 1)).map fun r => (((((nb l k 1 : Nat) : Int), (l.drop (k + 2)).take (nb l (k + 1) 1)) : Int × List UInt8) :: r.1, r.2) else none else none else none := rfl
theorem textsR_len (l : List UInt8) : ∀ (f k : Nat) {ts : List (Int × List UInt8)} {e : Nat}, textsR l f k = some (ts, e) → k + 1 ≤ e ∧ e ≤ l.length
  | 0, k, ts, e, h => by cases h
  | f + 1, k, ts, e, h => by
    unfold textsR at h
    split at h
    · split at h
      · cases h; omega
      · split at h
        · split at h
          · cases ht : textsR l f (k + 2 + nb l (k + 1) 1) with
            | none => rw [ht] at h; cases h
            | some r =>
              rw [ht] at h
              cases h
              have := textsR_len l f _ (ts := r.1) (e := r.2) (by rw [ht])
              omega
          · cases h
        · cases h
    · cases h
set_option maxRecDepth 100000 in
set_option maxHeartbeats 8000000 in
theorem tChunk_any {w : World} {R : Nat} {v : Value} {k : Nat} {l : List UInt8} (hR : Rd w R v k l) :
    Calls Try.prog 80 #[.pointer (some ⟨R, 0, none⟩)] w fun e w' => (∃ x k' vt, chk1 l k = some (x, k') ∧ e = .returned (.agg #[.int .u32 (x.ssrc.toNat : Nat), vt]) ∧ OwnEls 2 TxtR w' w.heap.size 90 vt x.texts [] ∧ Rd w' R v k' l ∧ Fr [R] w w') ∨ (chk1 l k = none ∧ Ends e ∧ Fr [R] w w') := by
  obtain ⟨a, cap, rfl, -⟩ := hR.sl.shape
  simp only [List.length_map] at hR ⊢
  have hpl := hR.place
  have hsm := hR.small
  have HRL : Hid (R < w.heap.size) := Lib.hid (World.block_lt_of_cell? _ _ hR.c0)
  have HVL : Hid (∀ b, liveOf (.slice a l.length cap) = some b → b < w.heap.size) := Lib.hid hR.vlt
  obtain ⟨w1, e1, hF1, hB1, hs1⟩ := one_new w #[.int .u32 0, .slice none 0 0] 87
  have HR := Lib.hid (hR.keep hF1); have HF : Hid (Fr [R] w w1) := Lib.hid hF1.any; have HRS := Lib.hid hB1; have E1 := Lib.hid e1
  clear hR hF1 hB1 e1 hs1
  go_enter Try.func80, Try.ntmps80
  go_upto_region 1 with fail
  rw [E1.out]
  clear E1
  go_wp2_with fail
  refine (left_any R a l.length cap k w1 HR.out.c0 HR.out.c1 hpl hsm).mono ?_
  rintro e w2 ⟨rfl, n1, rfl⟩
  have hF1 : Fr [] w1 (w1.drewN n1) := (Fr.refl _ _).drewN _
  have HR := Lib.hid (HR.out.keep hF1); have HF := Lib.hid (HF.out.trans hF1.any); have HRS := Lib.hid (HRS.out.keep hF1)
  clear hF1
  generalize w1.drewN n1 = w2 at *
  obtain ⟨st, hst⟩ : ∃ st : Int, ((l.length : Nat) : Int) - (k : Int) = st := ⟨_, rfl⟩
  rw [hst]
  have HST := Lib.hid hst
  clear hst
  go_wp2_with fail
  refine (rlong_or HR.out).mono ?_
  rintro e w3 (⟨hk, rfl, hR, hF⟩ | ⟨hk, rfl, hF⟩)
  rotate_left
  · exact ⟨rfl, .inr ⟨if_neg (by omega), ⟨20, by decide, rfl⟩, HF.out.trans hF.any⟩⟩
  have HR := Lib.hid hR; have HRS := Lib.hid (HRS.out.fr hF (by have := HRL.out; simp; omega)); have HF := Lib.hid (HF.out.trans hF); have HK := Lib.hid hk
  clear hR hF
  rw [← l32_nat]
  have HC1 : Hid (chk1 l k = match textsR l (l.length + 1) (k + 4) with | none => none | some (ts, e) => if zerosR l (padOf (e - k)) e then some (⟨l32 l k, ts⟩, e + padOf (e - k)) else none) := Lib.hid (by unfold chk1; rw [if_pos hk]; rfl)
  clear hk
  obtain ⟨w4, e4, hF4, hB4, hs4⟩ := one_new w3 #[.int .u32 ((l32 l k).toNat : Nat), .slice none 0 0] 87
  have E4 := Lib.hid e4
  obtain ⟨X, hX⟩ : ∃ X, w3.heap.size = X := ⟨_, rfl⟩
  obtain ⟨B0, hB0⟩ : ∃ B0, w4.heap.size = B0 := ⟨_, rfl⟩
  have HXX : Hid (R < w.heap.size ∧ w.heap.size < X ∧ X < B0) := Lib.hid (by have h1 := HRS.out.lt; have h2 := HRL.out; omega)
  have HPL : Hid (CRl w w4 R X B0 (.slice a l.length cap) l k (l.length + 1) [] (k + 4) (.slice none 0 0)) := Lib.hid (by
    rw [hX] at hB4
    exact ⟨by omega, Nat.le_refl _, by cases textsR l (l.length + 1) (k + 4) <;> rfl, Nat.zero_le _, hB4, OwnEls.nil _ _ _, HR.out.keep hF4, HRS.out.keep hF4, HF.out.trans hF4.any, by omega⟩)
  clear hF4 hB4 hs4 e4 hB0 HR HRS HF
  go_upto_region 3 with fail
  rw [E4.out]
  try simp only [hX]
  clear E4 hX
  go_loopw [5] (fun _ wr => ∃ (f : Nat) (ts : List (Int × List UInt8)) (k' : Nat) (vt : Value), CRl w wr R X B0 (.slice a l.length cap) l k f ts k' vt) (fun _ wr => match wr.cell? ⟨R, 1, none⟩ with | some (.int _ n) => l.length - n.toNat | _ => 0)
  case atStart => exact ⟨_, _, _, _, HPL.out⟩
  case round =>
    clear HPL
    obtain ⟨f, ts, k', vt, hc⟩ := hrel
    have hfu := hc.fuel
    have hpl2 := hc.rd.place
    obtain ⟨av, cv, rfl⟩ := hc.own.shape
    have HC := Lib.hid hc
    clear hc
    obtain ⟨f, rfl⟩ : ∃ f0, f = f0 + 1 := ⟨f - 1, by omega⟩
    have HEQ := Lib.hid HC.out.eq
    go_wp2_with fail
    refine (rbyte_or HC.out.rd).mono ?_
    rintro e w6 (⟨hk, rfl, hR, hF⟩ | ⟨hk, rfl, hF⟩)
    rotate_left
    · exact ⟨rfl, .inr ⟨by rw [HC1.out, HEQ.out]; unfold textsR; rw [if_neg (by omega)]; rfl, ⟨20, by decide, rfl⟩, HC.out.f.trans hF.any⟩⟩
    have hkk := HC.out.keep (k2 := 0) hF HXX.out.1 HXX.out.2.1 HXX.out.2.2
    have HBX := Lib.hid hkk.1; have HOW := Lib.hid hkk.2.1; have HRS := Lib.hid hkk.2.2.1; have HF := Lib.hid hkk.2.2.2.1; have HSZ := Lib.hid hkk.2.2.2.2; have HR := Lib.hid hR; have HK1 := Lib.hid hk
    have HLO := Lib.hid HC.out.lo; have HN := Lib.hid HC.out.n; have HC0 := Lib.hid HC.out.rd.c1
    clear hkk hR hF hk HC
    obtain ⟨m, hm⟩ : ∃ m, nb l k' 1 = m := ⟨_, rfl⟩
    have HM := Lib.hid hm
    rw [hm]
    clear hm
    by_cases hz : m = 0
    · have HT : Hid (textsR l (l.length + 1) (k + 4) = some (ts, k' + 1)) := Lib.hid (by rw [HEQ.out]; unfold textsR; rw [if_pos HK1.out, if_pos (by rw [HM.out]; exact hz)]; simp)
      subst hz
      go_wp2_with fail
      refine (left_any R a l.length cap (k' + 1) w6 HR.out.c0 HR.out.c1 HK1.out hsm).mono ?_
      rintro e w7 ⟨rfl, n1, rfl⟩
      have hF1 : Fr [] w6 (w6.drewN n1) := (Fr.refl _ _).drewN _
      have HR := Lib.hid (HR.out.keep hF1); have HF := Lib.hid (HF.out.trans hF1.any); have HRS := Lib.hid (HRS.out.keep hF1); have HBX := Lib.hid (HBX.out.keep hF1); have HOW := Lib.hid (HOW.out.keep Rep.txt hF1)
      clear hF1
      generalize w6.drewN n1 = w7 at *
      obtain ⟨n0, hn0⟩ : ∃ n0, k' + 1 - k = n0 := ⟨_, rfl⟩
      have HN0 := Lib.hid hn0
      have hlo := HLO.out
      have hsub : st - (((l.length : Nat) : Int) - ((k' + 1 : Nat) : Int)) = (n0 : Nat) := by have := HST.out; omega
      have hsub2 : st - (((l.length : Nat) : Int) - ((k' : Int) + 1)) = (n0 : Nat) := by have := HST.out; omega
      have hst1 : 0 ≤ st ∧ st ≤ 1099511627776 := by have := HST.out; omega
      have HZZ := Lib.hid (tZeros_any HR.out n0 (by have := HN0.out; have := HK1.out; omega))
      clear hn0
      go_wp2_with fail
      refine HZZ.out.mono ?_
      rintro e w8 (⟨hz, rfl, hR, hF⟩ | ⟨hz, he, hF⟩)
      · have HCS : Hid (chk1 l k = some (⟨l32 l k, ts⟩, k' + 1 + padOf n0)) := Lib.hid (by rw [HC1.out, HT.out]; simp only; rw [HN0.out, if_pos hz])
        have HR := Lib.hid hR; have HRS := Lib.hid (HRS.out.fr hF (by have := HXX.out; simp; omega)); have HBX := Lib.hid (HBX.out.fr hF (by have := HXX.out; simp; omega)); have HOW := Lib.hid (HOW.out.fr Rep.txt hF (by simp) (fun b hb hm => by have := (HOW.out.block b hb).1; have := HXX.out; simp at hm; omega)); have HF := Lib.hid (HF.out.trans hF)
        clear hR hF hz hsub hsub2 hst1
        go_wp2_with (first | (refine wpList_load_row_w rfl 87 (.tmp 4) rfl X rfl 87 _ _ HBX.out Try.underlying87 rfl (by kernel_rfl) ?_) | (refine wpList_store_row rfl 87 (.tmp 2) (.tmp 21) rfl w.heap.size rfl _ _ rfl 87 HRS.out (by kernel_rfl) rfl (by simp [Value.oneCell']) ?_; intro w15 hY hG; have HY := Lib.hid hY; have HG := Lib.hid hG; clear hY hG))
        refine bodyPost_ret (results_cell_row rfl _ _ w.heap.size 87 _ (0, 0) _ rfl HY.out Try.underlying87 rfl (by kernel_rfl)) rfl (.inl ⟨_, _, _, HCS.out, rfl, ?_, ?_, ?_⟩)
        · exact OwnEls.mono (HOW.out.fr Rep.txt HG.out (by simp) (fun b hb hm => by have := (HOW.out.block b hb).1; have := HXX.out; simp at hm; omega)) (by have := HXX.out; omega)
        · exact HR.out.fr HG.out (by have := HRL.out; simp; omega) (fun b hb hm => by have h1 := HVL.out b hb; simp at hm; omega)
        · exact HF.out.step HG.out (fun b hb => .inr (by simp at hb; omega))
      · obtain ⟨c, hc, rfl⟩ := he
        exact ⟨rfl, .inr ⟨by rw [HC1.out, HT.out]; simp only; rw [HN0.out, hz]; rfl, ⟨c, hc, rfl⟩, HF.out.trans hF⟩⟩
    · have hzb : ((m : Int) == 0) = false := beq_eq_false_iff_ne.2 (by omega)
      have hzb2 : (m == 0) = false := beq_eq_false_iff_ne.2 hz
      have HT : Hid (textsR l (f + 1) k' = if k' + 2 ≤ l.length then if k' + 2 + nb l (k' + 1) 1 ≤ l.length then (textsR l f (k' + 2 + nb l (k' + 1) 1)).map fun r => (((((m : Nat) : Int), (l.drop (k' + 2)).take (nb l (k' + 1) 1)) : Int × List UInt8) :: r.1, r.2) else none else none) := Lib.hid (by rw [textsR_succ, if_pos HK1.out, HM.out, if_neg hz])
      have HNO : Hid (textsR l (f + 1) k' = none → chk1 l k = none) := Lib.hid (fun h => by rw [HC1.out, HEQ.out, h]; rfl)
      have HNO : Hid ((if k' + 2 ≤ l.length then if k' + 2 + nb l (k' + 1) 1 ≤ l.length then (textsR l f (k' + 2 + nb l (k' + 1) 1)).map fun r => (((((m : Nat) : Int), (l.drop (k' + 2)).take (nb l (k' + 1) 1)) : Int × List UInt8) :: r.1, r.2) else none else none) = none → chk1 l k = none) := Lib.hid (fun h => HNO.out (HT.out.trans h))
      clear hz
      go_upto_region 7 with fail
      refine wp_region_T (fun w' => Fr [R] w6.drew w') [10, 11, 12] 13 #[false, false, false, false, false, false, false, false, false, false, false, false, false] (by kernel_rfl) rfl rfl ?_
      try simp only [List.append_eq, List.cons_append, List.nil_append]
      have hF := (Fr.refl [] w6).drew
      have HBX := Lib.hid (HBX.out.keep hF); have HOW := Lib.hid (HOW.out.keep Rep.txt hF); have HRS := Lib.hid (HRS.out.keep hF); have HF := Lib.hid (HF.out.trans hF.any); have HR := Lib.hid (HR.out.keep hF); have HSZ := Lib.hid (Nat.le_trans HSZ.out hF.size)
      clear hF
      have HSS : Hid (Fr [R] w6.drew w6.drew) := Lib.hid (Fr.refl _ _)
      generalize w6.drew = wd at *
      refine wpAnyT_load (i := 0) (v := ?_) rfl (by kernel_rfl) (by kernel_rfl) (by kernel_rfl) (by kernel_rfl) (by kernel_rfl) (fun _ _ _ h => h) HSS.out (by rfl) ?_ ?_
      rotate_left
      · intro w hSw; skip; go_simp; try with_reducible rfl
      simp only [Act.put, List.getElem_toArray, List.getElem_cons_zero, List.getElem_cons_succ, List.setIfInBounds_toArray, List.set_cons_zero, List.set_cons_succ]
      refine wpAnyT_load (i := 1) (v := ?_) rfl (by kernel_rfl) (by kernel_rfl) (by kernel_rfl) (by kernel_rfl) (by kernel_rfl) (fun _ _ _ h => h) HSS.out (by rfl) ?_ ?_
      rotate_left
      · intro w hSw; have n1 := (HBX.out.fr hSw (by have := HXX.out; simp; omega)).cell 1; simp only [List.getElem?_toArray, List.getElem?_cons_succ, List.getElem?_cons_zero] at n1; go_simp; try with_reducible rfl
      simp only [Act.put, List.getElem_toArray, List.getElem_cons_zero, List.getElem_cons_succ, List.setIfInBounds_toArray, List.set_cons_zero, List.set_cons_succ]
      refine wpAnyT_load (i := 2) (v := ?_) rfl (by kernel_rfl) (by kernel_rfl) (by kernel_rfl) (by kernel_rfl) (by kernel_rfl) (fun _ _ _ h => h) HSS.out (by rfl) ?_ ?_
      rotate_left
      · intro w hSw; skip; go_simp; try with_reducible rfl
      simp only [Act.put, List.getElem_toArray, List.getElem_cons_zero, List.getElem_cons_succ, List.setIfInBounds_toArray, List.set_cons_zero, List.set_cons_succ]
      refine wpAnyT_load (i := 3) (v := ?_) rfl (by kernel_rfl) (by kernel_rfl) (by kernel_rfl) (by kernel_rfl) (by kernel_rfl) (fun _ _ _ h => h) HSS.out (by rfl) ?_ ?_
      rotate_left
      · intro w hSw; skip; go_simp; try with_reducible rfl
      simp only [Act.put, List.getElem_toArray, List.getElem_cons_zero, List.getElem_cons_succ, List.setIfInBounds_toArray, List.set_cons_zero, List.set_cons_succ]
      refine wpAnyT_load (i := 4) (v := ?_) rfl (by kernel_rfl) (by kernel_rfl) (by kernel_rfl) (by kernel_rfl) (by kernel_rfl) (fun _ _ _ h => h) HSS.out (by rfl) ?_ ?_
      rotate_left
      · intro w hSw; skip; go_simp; try with_reducible rfl
      simp only [Act.put, List.getElem_toArray, List.getElem_cons_zero, List.getElem_cons_succ, List.setIfInBounds_toArray, List.set_cons_zero, List.set_cons_succ]
      refine wpAnyT_one (i := 5) (by kernel_rfl) rfl (fun K hK => ?_)
      rw [if_pos (by rfl)]
      go_simp
      refine (rbyte_or HR.out).mono ?_
      rintro e w7 (⟨hk, rfl, hR, hF⟩ | ⟨hk, rfl, hF⟩)
      rotate_left
      · exact ⟨rfl, .inr ⟨(HNO.out (by rw [if_neg (by omega)])), ⟨20, by decide, rfl⟩, HF.out.trans hF.any⟩⟩
      have HR := Lib.hid hR; have HK2 := Lib.hid hk
      have HBX := Lib.hid (HBX.out.fr hF (by have := HXX.out; simp; omega)); have HOW := Lib.hid (HOW.out.fr Rep.txt hF (by simp) (fun b hb hm => by have := (HOW.out.block b hb).1; have := HXX.out; simp at hm; omega)); have HRS := Lib.hid (HRS.out.fr hF (by have := HXX.out; simp; omega)); have HF := Lib.hid (HF.out.trans hF); have HSZ := Lib.hid (Nat.le_trans HSZ.out hF.size); have HSS := Lib.hid (HSS.out.trans hF)
      clear hR hF hk
      go_simp
      refine hK.out _ _ (fun _ => HSS.out) ?_
      clear hK K
      simp only [Act.put, List.getElem_toArray, List.getElem_cons_zero, List.getElem_cons_succ, List.setIfInBounds_toArray, List.set_cons_zero, List.set_cons_succ]
      refine wpAnyT_one (i := 6) (by kernel_rfl) rfl (fun K hK => ?_)
      rw [if_pos (by rfl)]
      go_simp
      refine (take_or HR.out (nb l (k' + 1) 1)).mono ?_
      rintro e w8 (⟨hk, vb, rfl, hO, hR, hF⟩ | ⟨hk, rfl, hF⟩)
      rotate_left
      · exact ⟨rfl, .inr ⟨(HNO.out (by rw [if_pos HK2.out, if_neg (by omega)])), ⟨20, by decide, rfl⟩, HF.out.trans hF.any⟩⟩
      have HR := Lib.hid hR; have HK3 := Lib.hid hk
      have HBX := Lib.hid (HBX.out.fr hF (by have := HXX.out; simp; omega)); have HOW := Lib.hid (HOW.out.fr Rep.txt hF (by simp) (fun b hb hm => by have := (HOW.out.block b hb).1; have := HXX.out; simp at hm; omega)); have HRS := Lib.hid (HRS.out.fr hF (by have := HXX.out; simp; omega)); have HF := Lib.hid (HF.out.trans hF); have HSZ := Lib.hid (Nat.le_trans HSZ.out hF.size); have HSS := Lib.hid (HSS.out.trans hF)
      have hst := str_of hO.bytes
      obtain ⟨ab, nb', cb, rfl⟩ := hO.isSlice
      clear hR hF hk hO
      go_simp
      refine hK.out _ _ (fun _ => HSS.out) ?_
      clear hK K
      simp only [Act.put, List.getElem_toArray, List.getElem_cons_zero, List.getElem_cons_succ, List.setIfInBounds_toArray, List.set_cons_zero, List.set_cons_succ]
      refine wpAnyT_one (i := 7) (by kernel_rfl) rfl (fun K hK => ?_)
      rw [if_pos (by rfl)]
      go_simp
      refine hK.out _ _ (fun _ => HSS.out) ?_
      clear hK K
      simp only [Act.put, List.getElem_toArray, List.getElem_cons_zero, List.getElem_cons_succ, List.setIfInBounds_toArray, List.set_cons_zero, List.set_cons_succ]
      clear hst
      refine wpAnyT_one (i := 8) (by kernel_rfl) rfl (fun K hK => ?_)
      rw [if_pos (by rfl)]
      go_simp
      refine hK.out _ _ (fun _ => HSS.out) ?_
      clear hK K
      simp only [Act.put, List.getElem_toArray, List.getElem_cons_zero, List.getElem_cons_succ, List.setIfInBounds_toArray, List.set_cons_zero, List.set_cons_succ]
      obtain ⟨yt, hyt⟩ : ∃ yt : Int × List UInt8, (((m : Nat) : Int), (l.drop (k' + 1 + 1)).take (nb l (k' + 1) 1)) = yt := ⟨_, rfl⟩
      obtain ⟨wa, ea, hFa, hBa, hsa⟩ := one_new w8 (txc ((m : Nat), (l.drop (k' + 1 + 1)).take (nb l (k' + 1) 1))) 90
      have hF := hFa.any (S := [R])
      have HBX := Lib.hid (HBX.out.fr hF (by have := HXX.out; simp; omega)); have HOW := Lib.hid (HOW.out.fr Rep.txt hF (by simp) (fun b hb hm => by have := (HOW.out.block b hb).1; have := HXX.out; simp at hm; omega)); have HRS := Lib.hid (HRS.out.fr hF (by have := HXX.out; simp; omega)); have HF := Lib.hid (HF.out.trans hF); have HSZ := Lib.hid (Nat.le_trans HSZ.out hF.size); have HSS := Lib.hid (HSS.out.trans hF)
      have HR := Lib.hid (HR.out.keep hFa); have HBA := Lib.hid hBa; have EA := Lib.hid ea
      clear hF hFa hBa ea hsa
      refine wpAnyT_one (i := 9) (by kernel_rfl) rfl (fun K hK => ?_)
      rw [if_pos (by rfl)]
      go_simp
      rw [EA.out]
      refine hK.out _ _ (fun _ => HSS.out) ?_
      clear hK K
      simp only [Act.put, List.getElem_toArray, List.getElem_cons_zero, List.getElem_cons_succ, List.setIfInBounds_toArray, List.set_cons_zero, List.set_cons_succ]
      have HL1 : Hid (ts.length + 1 ≤ maxLen) := Lib.hid (by have := HN.out; have := HK1.out; unfold maxLen; omega)
      have HL2 : Hid ((ts.length + 1) * 24 ≤ 140737488355328) := Lib.hid (by have := HN.out; have := HK1.out; omega)
      have HEL : Hid (Els TxtR [((((m : Nat) : Int), (l.drop (k' + 1 + 1)).take (nb l (k' + 1) 1)) : Int × List UInt8)] wa (txc ((m : Nat), (l.drop (k' + 1 + 1)).take (nb l (k' + 1) 1))).toList []) := Lib.hid ⟨_, [], [], [], by simp, rfl, ⟨rfl, rfl⟩, rfl, rfl⟩
      refine wpAnyT_one (i := 10) (by kernel_rfl) rfl (fun K hK => ?_)
      refine step_append_els Rep.txt (by decide) rfl (.tmp 23) (.tmp 31) 85 rfl B0 90 (.agg #[.int .i64 0, .string ⟨#[]⟩]) 24 Try.underlying85 info_txt rfl _ ts [] rfl HOW.out ⟨w8.heap.size, 0, none⟩ 1 1 rfl [((((m : Nat) : Int), (l.drop (k' + 1 + 1)).take (nb l (k' + 1) 1)) : Int × List UInt8)] rfl _ [] HEL.out (fun j u hj => by rw [Addr.add_mid]; exact box_range HBA.out j u hj) (by simp) HL1.out HL2.out HSZ.out ?_
      intro vs wb hown hfr hbl
      obtain ⟨as1, cs1, es1⟩ := hown.shape
      simp only [List.length_append, List.length_singleton] at es1
      subst es1
      have HOW2 := Lib.hid hown; have HFB := Lib.hid hfr
      clear hown hfr hbl
      refine hK.out _ _ (fun _ => by rename_i h; exact absurd (by simp) h) ?_
      clear hK K
      simp only [Act.put, List.getElem_toArray, List.getElem_cons_zero, List.getElem_cons_succ, List.setIfInBounds_toArray, List.set_cons_zero, List.set_cons_succ]
      have HNB : Hid (∀ b ∈ (blockOf (.slice av ts.length cv)).toList, B0 ≤ b) := Lib.hid (fun b hb => (HOW.out.block b (mem_toList.1 hb)).1)
      have HBX2 := Lib.hid (Box.fr HBX.out HFB.out (fun hm => by have := HNB.out _ hm; have := HXX.out; omega))
      have n1 := HBX2.out.cell 1; have g1 := HBX2.out.free 1
      simp only [List.getElem?_toArray, List.getElem?_cons_succ, List.getElem?_cons_zero] at n1
      obtain ⟨wc, ec, hFc, hBc, -⟩ := set_new HBX2.out 1 (.slice as1 (ts.length + 1) cs1)
      simp only [List.setIfInBounds_toArray, List.set_cons_zero, List.set_cons_succ] at hBc
      have EC := Lib.hid ec; have HFC := Lib.hid hFc; have HBC := Lib.hid hBc
      clear ec hFc hBc
      refine wpAnyT_one (i := 11) (by kernel_rfl) rfl (fun K hK => ?_)
      rw [if_pos (by rfl)]
      go_simp
      refine hK.out _ _ (fun _ => by rename_i h; exact absurd (by simp) h) ?_
      clear hK K
      simp only [Act.put, List.getElem_toArray, List.getElem_cons_zero, List.getElem_cons_succ, List.setIfInBounds_toArray, List.set_cons_zero, List.set_cons_succ]
      refine wpAnyT_one (i := 12) (by kernel_rfl) rfl (fun K hK => ?_)
      rw [if_pos (by rfl)]
      go_simp
      rw [EC.out]
      refine hK.out _ _ (fun _ => by rename_i h; exact absurd (by simp) h) ?_
      clear hK K
      simp only [Act.put, List.getElem_toArray, List.getElem_cons_zero, List.getElem_cons_succ, List.setIfInBounds_toArray, List.set_cons_zero, List.set_cons_succ]
      refine wpAnyT_done (by kernel_rfl) ?_ _
      clear n1 g1
      have HR := Lib.hid ((HR.out.fr HFB.out (fun hm => by have := HNB.out _ hm; have := HXX.out; omega) (fun b hb hm => by have := HNB.out _ hm; have := HVL.out b hb; have := HXX.out; omega)).fr HFC.out (by have := HXX.out; simp; omega) (fun b hb hm => by have := HVL.out b hb; have := HXX.out; simp at hm; omega))
      have HPL : Hid (CRl w wc R X B0 (.slice a l.length cap) l k f (ts ++ [((((m : Nat) : Int), (l.drop (k' + 1 + 1)).take (nb l (k' + 1) 1)) : Int × List UInt8)]) (k' + 1 + 1 + nb l (k' + 1) 1) (.slice as1 (ts.length + 1) cs1)) := Lib.hid ⟨by omega, by have := HLO.out; omega, by
          rw [HEQ.out, HT.out, if_pos HK2.out, if_pos HK3.out, Option.map_map]
          congr 1
          funext r
          simp [Function.comp], by have := HN.out; rw [List.length_append, List.length_singleton]; omega, HBC.out, HOW2.out.fr Rep.txt HFC.out (by simp) (fun b hb hm => by have := (HOW2.out.block b hb).1; have := HXX.out; simp at hm; omega), HR.out, (HRS.out.fr HFB.out (fun hm => by have := HNB.out _ hm; have := HXX.out; omega)).fr HFC.out (by have := HXX.out; simp; omega), (HF.out.step HFB.out (fun b hb => .inr (by have := HNB.out b hb; have := HXX.out; omega))).step HFC.out (fun b hb => .inr (by have := HXX.out; simp at hb; omega)), Nat.le_trans HSZ.out (Nat.le_trans HFB.out.size HFC.out.size)⟩
      go_wp2_with fail
      refine ⟨⟨f, _, _, _, HPL.out⟩, ?_⟩
      simp only [HPL.out.rd.c1, HC0.out]
      have := HK1.out
      have := HPL.out.rd.place
      omega
end Go.Proofs.Ytcmpjkopdjncdaa

/- The walk of rtcp's times, of chunks (printed by gen_7timesc.py). -/
namespace Go.Proofs.Ytcmpjkopdjncdaa
open Go.RowKit

/-- A chunk as cells of a slice: its texts lie in a block of their own. -/
def ChkR (w : World) (c : List Value) (x : Chk) (B : List Nat) : Prop := ∃ vt, c = [.int .u32 (x.ssrc.toNat : Nat), vt] ∧ SlEls 2 TxtR w vt x.texts [] ∧ B = (liveOf vt).toList
theorem Rep.chk : Rep 2 ChkR where
  len := by rintro w c y B ⟨vt, rfl, -, -⟩; rfl
  one := by
    rintro w c y B ⟨vt, rfl, h, -⟩ u hu
    obtain ⟨a, cp, rfl⟩ := h.shape
    simp at hu
    rcases hu with rfl | rfl <;> rfl
  lt := by
    rintro w c y B ⟨vt, rfl, h, rfl⟩ b hb
    exact (h.lt Rep.txt).2 b (mem_toList.1 hb)
  fr := by
    rintro w w' c y B S ⟨vt, rfl, h, rfl⟩ hf hS
    exact ⟨vt, rfl, h.fr Rep.txt hf (by simp) (fun b hb => hS b (mem_toList.2 hb)), rfl⟩
set_option maxRecDepth 100000 in
theorem info_chk : (Try.prog.info? 87).map (fun i => (i.zero, i.size, i.bytes)) = some (some (.agg #[.int .u32 0, .slice none 0 0]), 2, 32) := by kernel_rfl
set_option maxRecDepth 100000 in
set_option maxHeartbeats 4000000 in
theorem tTimesC_any {w : World} {R : Nat} {v : Value} {k : Nat} {l : List UInt8} (hR : Rd w R v k l) (n : Nat) (hn : n ≤ 31) :
    Calls Try.prog 79 #[.pointer (some ⟨R, 0, none⟩), .int .i64 n, .func (.func 80) #[] #[]] w fun e w' => (∃ xs k' u B, timesR (chk1 l) n k = some (xs, k') ∧ e = .returned u ∧ OwnEls 2 ChkR w' w.heap.size 87 u xs B ∧ (∀ b ∈ B, w.heap.size ≤ b) ∧ Rd w' R v k' l ∧ Fr [R] w w') ∨ (timesR (chk1 l) n k = none ∧ Ends e ∧ Fr [R] w w') := by
  have HRL : Hid (R < w.heap.size) := Lib.hid (World.block_lt_of_cell? _ _ hR.c0)
  have HVL : Hid (∀ b, liveOf v = some b → b < w.heap.size) := Lib.hid hR.vlt
  have HR := Lib.hid hR
  clear hR
  go_enter Try.func79, Try.ntmps79
  go_upto_region 3 with fail
  go_loopw [7, 9] (fun ov iv wr => ∃ (j : Nat) (xs : List Chk) (k' : Nat) (B : List Nat), j ≤ n ∧ iv = .int .i64 j ∧ timesR (chk1 l) j k = some (xs, k') ∧ OwnEls 2 ChkR wr w.heap.size 87 ov xs B ∧ (∀ b ∈ B, w.heap.size ≤ b) ∧ Rd wr R v k' l ∧ Fr [R] w wr) (fun _ iv _ => n - (intOf iv).toNat)
  case atStart => exact ⟨0, [], k, [], Nat.zero_le _, rfl, rfl, OwnEls.nil _ _ _, by simp, HR.out, Fr.refl _ _⟩
  case round =>
    clear HR
    obtain ⟨j, xs, k', B, hj, rfl, ht, hO, hB, hR, hF⟩ := hrel
    have hxl := timesR_len ht
    obtain ⟨ax, cx, eo⟩ := hO.shape
    rw [hxl] at eo
    subst eo
    have HT := Lib.hid ht; have HO := Lib.hid hO; have HR := Lib.hid hR; have HF := Lib.hid hF; have HXL := Lib.hid hxl; have HB := Lib.hid hB
    clear ht hO hR hF hxl hB
    by_cases hlt : j < n
    · go_wp2_with fail
      have HOB := Lib.hid (fun b (hb : blockOf (.slice ax j cx) = some b) => (HO.out.block b hb).2)
      refine (tChunk_any HR.out).mono ?_
      rintro e w4 (⟨x, k2, vt, hx, rfl, ho, hR, hF⟩ | ⟨hx, he, hF⟩)
      · have HX := Lib.hid hx; have HR := Lib.hid hR; have HF4 := Lib.hid hF; have HFW := Lib.hid (HF.out.trans hF)
        have HO := Lib.hid (HO.out.fr Rep.chk hF (fun b hb hm => by have := HB.out b hb; have := HRL.out; simp at hm; omega) (fun b hb hm => by have := (HO.out.block b hb).1; have := HRL.out; simp at hm; omega))
        have HZ : Hid (w.heap.size ≤ w4.heap.size) := Lib.hid HFW.out.size
        have HVT := Lib.hid ho
        have HVB := Lib.hid (fun b (hb : blockOf vt = some b) => ho.block b hb)
        obtain ⟨at_, ct, rfl⟩ := ho.shape
        have HFR := Lib.hid HF.out.size
        clear hx hR hF ho
        obtain ⟨wa, ea, hFa, hBa, hsa⟩ := one_new w4 #[.int .u32 (x.ssrc.toNat : Nat), .slice at_ x.texts.length ct] 87
        have EA := Lib.hid ea; have HBA := Lib.hid hBa; have HFA := Lib.hid hFa
        have HL1 : Hid (xs.length + 1 ≤ maxLen) := Lib.hid (by have := HXL.out; unfold maxLen; omega)
        have HL2 : Hid ((xs.length + 1) * 32 ≤ 140737488355328) := Lib.hid (by have := HXL.out; omega)
        have HL3 : Hid (w.heap.size ≤ wa.heap.size) := Lib.hid (by have h1 := HZ.out; omega)
        have HLA : Hid ((xs ++ [x]).length = j + 1) := Lib.hid (by rw [List.length_append, HXL.out]; rfl)
        have HCR : Hid (ChkR wa [.int .u32 (x.ssrc.toNat : Nat), .slice at_ x.texts.length ct] x (liveOf (.slice at_ x.texts.length ct)).toList) := Lib.hid ⟨_, rfl, HVT.out.sl.keep Rep.txt hFa, rfl⟩
        have HDJ : Hid (∀ b, blockOf (.slice ax j cx) = some b → b ∉ (liveOf (.slice at_ x.texts.length ct)).toList) := Lib.hid (fun b hb hm => by have h1 := HOB.out b hb; have h2 := (HVB.out b (live_block (mem_toList.1 hm))).1; omega)
        clear ea hBa hFa hsa
        go_wp2_with (at_builtin; (rw [EA.out]); refine wpList_append_el Rep.chk (by decide) rfl (.tmp 11) (.tmp 15) 39 rfl w.heap.size 87 (.agg #[.int .u32 0, .slice none 0 0]) 32 Try.underlying39 info_chk rfl (.slice ax j cx) xs B rfl (HO.out.keep Rep.chk HFA.out) w4.heap.size 0 1 rfl [.int .u32 (x.ssrc.toNat : Nat), .slice at_ x.texts.length ct] x (liveOf (.slice at_ x.texts.length ct)).toList (box_range HBA.out) HCR.out HDJ.out HL1.out HL2.out HL3.out ?_; intro vs1 w7 hown1 hfr1 hbl1; obtain ⟨as1, cs1, es1⟩ := hown1.shape; rw [HLA.out] at es1; subst es1; have HV1 := Lib.hid hown1; have HF7 := Lib.hid hfr1; clear hown1 hfr1 hbl1)
        have HNB : Hid (∀ b ∈ (blockOf (.slice ax j cx)).toList, w.heap.size ≤ b) := Lib.hid (fun b hb => (HO.out.block b (mem_toList.1 hb)).1)
        exact ⟨⟨j + 1, xs ++ [x], k2, _, by omega, by go_num, timesR_snoc HT.out HX.out, HV1.out, fun b hb => (by
          rcases List.mem_append.1 hb with hb | hb
          · exact HB.out b hb
          · have h1 := (HVB.out b (live_block (mem_toList.1 hb))).1; have h2 := HFR.out; omega), (HR.out.keep HFA.out).fr HF7.out (fun hm => by have := HNB.out _ hm; have := HRL.out; omega) (fun b hb hm => by have := HNB.out _ hm; have := HVL.out b hb; omega), (HFW.out.quiet HFA.out).step HF7.out (fun b hb => .inr (HNB.out b hb))⟩, by simp [intOf]; omega⟩
      · obtain ⟨c, hc, rfl⟩ := he
        have HX := Lib.hid hx
        have HNO : Hid (timesR (chk1 l) n k = none) := Lib.hid (by have := timesR_fail (m := n - j - 1) HT.out HX.out; rw [show j + 1 + (n - j - 1) = n by omega] at this; exact this)
        exact ⟨rfl, .inr ⟨HNO.out, ⟨c, hc, rfl⟩, HF.out.trans hF⟩⟩
    · obtain rfl : j = n := by omega
      clear hj hlt
      go_wp2_with fail
      go_ret
      exact .inl ⟨xs, k', _, B, HT.out, rfl, HO.out, HB.out, HR.out, HF.out⟩
end Go.Proofs.Ytcmpjkopdjncdaa

/- The walk of the closure of rtcp's body (printed by gen_7body.py). -/
namespace Go.Proofs.Ytcmpjkopdjncdaa
open Go.RowKit

/-- An item as cells. -/
abbrev itc (x : Itm) (vr vc vs : Value) : Array Value := #[.int .i64 x.kind, .int .u32 (x.ssrc.toNat : Nat), .int .u64 (x.ntp.toNat : Nat), .int .u32 (x.ts.toNat : Nat), .int .u32 (x.pks.toNat : Nat), .int .u32 (x.ocs.toNat : Nat), vr, vc, vs, .string (strB x.reason)]
/-- .. with what its slices lean on. -/
def ItR (w : World) (c : List Value) (x : Itm) (B : List Nat) : Prop := ∃ vr vc vs Bc, c = (itc x vr vc vs).toList ∧ SlEls 7 RptR w vr x.reps [] ∧ SlEls 2 ChkR w vc x.chks Bc ∧ SlEls 1 SrcR w vs x.srcs [] ∧ B = (liveOf vr).toList ++ ((liveOf vc).toList ++ Bc) ++ (liveOf vs).toList
theorem one_itc {x : Itm} {a1 a2 a3 : Option Addr} {n1 n2 n3 c1 c2 c3 : Nat} : ∀ u ∈ (itc x (.slice a1 n1 c1) (.slice a2 n2 c2) (.slice a3 n3 c3)).toList, u.oneCell' = true := by
  intro u hu
  simp at hu
  rcases hu with rfl | rfl | rfl | rfl | rfl | rfl | rfl | rfl | rfl | rfl <;> rfl
theorem Rep.itm : Rep 10 ItR where
  len := by rintro w c y B ⟨vr, vc, vs, Bc, rfl, -⟩; rfl
  one := by
    rintro w c y B ⟨vr, vc, vs, Bc, rfl, h1, h2, h3, -⟩ u hu
    obtain ⟨a1, p1, rfl⟩ := h1.shape
    obtain ⟨a2, p2, rfl⟩ := h2.shape
    obtain ⟨a3, p3, rfl⟩ := h3.shape
    exact one_itc u hu
  lt := by
    rintro w c y B ⟨vr, vc, vs, Bc, rfl, h1, h2, h3, rfl⟩ b hb
    simp only [List.mem_append] at hb
    rcases hb with (hb | hb | hb) | hb
    · exact (h1.lt Rep.rpt).2 b (mem_toList.1 hb)
    · exact (h2.lt Rep.chk).2 b (mem_toList.1 hb)
    · exact (h2.lt Rep.chk).1 b hb
    · exact (h3.lt Rep.src).2 b (mem_toList.1 hb)
  fr := by
    rintro w w' c y B S ⟨vr, vc, vs, Bc, rfl, h1, h2, h3, rfl⟩ hf hS
    refine ⟨vr, vc, vs, Bc, rfl, h1.fr Rep.rpt hf (by simp) (fun b hb => hS b ?_), h2.fr Rep.chk hf (fun b hb => hS b ?_) (fun b hb => hS b ?_), h3.fr Rep.src hf (by simp) (fun b hb => hS b ?_), rfl⟩
    · simp [mem_toList.2 hb]
    · simp [hb]
    · simp [mem_toList.2 hb]
    · simp [mem_toList.2 hb]
theorem ItR.reps {w : World} {b0 base : Nat} {e : TypeId} {x : Itm} {u : Value} (h : OwnEls 7 RptR w base e u x.reps []) (hc : x.chks = []) (hs : x.srcs = []) (hb : b0 ≤ base) : ∃ B, ItR w (itc x u (.slice none 0 0) (.slice none 0 0)).toList x B ∧ ∀ b ∈ B, b0 ≤ b := by
  refine ⟨_, ⟨u, _, _, [], rfl, h.sl, by rw [hc]; exact SlEls.nil w, by rw [hs]; exact SlEls.nil w, rfl⟩, fun b hb2 => ?_⟩
  simp [liveOf] at hb2
  have := (h.block b (live_block hb2)).1
  omega
theorem ItR.chks {w : World} {b0 base : Nat} {e : TypeId} {x : Itm} {u : Value} {Bc : List Nat} (h : OwnEls 2 ChkR w base e u x.chks Bc) (hc : x.reps = []) (hs : x.srcs = []) (hb : b0 ≤ base) (hbc : ∀ b ∈ Bc, b0 ≤ b) : ∃ B, ItR w (itc x (.slice none 0 0) u (.slice none 0 0)).toList x B ∧ ∀ b ∈ B, b0 ≤ b := by
  refine ⟨_, ⟨_, u, _, Bc, rfl, by rw [hc]; exact SlEls.nil w, h.sl, by rw [hs]; exact SlEls.nil w, rfl⟩, fun b hb2 => ?_⟩
  simp [liveOf] at hb2
  rcases hb2 with hb2 | hb2
  · have := (h.block b (live_block hb2)).1
    omega
  · exact hbc b hb2
theorem ItR.srcs {w : World} {b0 base : Nat} {e : TypeId} {x : Itm} {u : Value} (h : OwnEls 1 SrcR w base e u x.srcs []) (hc : x.reps = []) (hs : x.chks = []) (hb : b0 ≤ base) : ∃ B, ItR w (itc x (.slice none 0 0) (.slice none 0 0) u).toList x B ∧ ∀ b ∈ B, b0 ≤ b := by
  refine ⟨_, ⟨_, _, u, [], rfl, by rw [hc]; exact SlEls.nil w, by rw [hs]; exact SlEls.nil w, h.sl, rfl⟩, fun b hb2 => ?_⟩
  simp [liveOf] at hb2
  have := (h.block b (live_block hb2)).1
  omega
theorem l64_nat (l : List UInt8) (k : Nat) : (l64 l k).toNat = nb l k 8 := by
  have := nb_lt l k 8
  unfold l64
  rw [UInt64.toNat_ofNat']
  omega
set_option maxRecDepth 100000 in
set_option maxHeartbeats 8000000 in
theorem tBody1_any {w : World} {R Kb Nb : Nat} {v : Value} {l : List UInt8} (hR : Rd w R v 0 l) (kind : Int) (n : Nat) (hn : n ≤ 31) (hK : Box w Kb 3 #[.int .i64 kind]) (hN : Box w Nb 3 #[.int .i64 n]) (hne : Kb ≠ R ∧ Nb ≠ R) :
    Calls Try.prog 74 #[.pointer (some ⟨R, 0, none⟩), .pointer (some ⟨Kb, 0, none⟩), .pointer (some ⟨Nb, 0, none⟩)] w fun e w' => (∃ x k' c B, bodyK kind n l = some (x, k') ∧ e = .returned (.agg c) ∧ ItR w' c.toList x B ∧ (∀ b ∈ B, w.heap.size ≤ b) ∧ Rd w' R v k' l ∧ Fr [R] w w') ∨ (bodyK kind n l = none ∧ Ends e ∧ Fr [R] w w') := by
  have HRL : Hid (R < w.heap.size) := Lib.hid (World.block_lt_of_cell? _ _ hR.c0)
  have HVL : Hid (∀ b, liveOf v = some b → b < w.heap.size) := Lib.hid hR.vlt
  have HKN : Hid (Kb < w.heap.size ∧ Nb < w.heap.size) := Lib.hid ⟨hK.lt, hN.lt⟩
  have HNE := Lib.hid hne
  obtain ⟨w1, e1, hF1, hB1, hs1⟩ := one_new w #[.int .i64 0, .int .u32 0, .int .u64 0, .int .u32 0, .int .u32 0, .int .u32 0, .slice none 0 0, .slice none 0 0, .slice none 0 0, .string ⟨#[]⟩] 42
  have HR := Lib.hid (hR.keep hF1); have HF : Hid (Fr [R] w w1) := Lib.hid hF1.any; have HB := Lib.hid hB1; have HKB := Lib.hid (hK.keep hF1); have HNB := Lib.hid (hN.keep hF1); have E1 := Lib.hid e1
  clear hR hF1 hB1 e1 hK hN hne
  go_enter Try.func74, Try.ntmps74
  go_upto_region 1 with fail
  rw [E1.out]
  clear E1
  have xk := HKB.out.cell 0
  simp only [List.getElem?_toArray, List.getElem?_cons_zero] at xk
  obtain ⟨w2, e2, hF2, hB2, hs2⟩ := one_new w1 #[.int .i64 kind, .int .u32 0, .int .u64 0, .int .u32 0, .int .u32 0, .int .u32 0, .slice none 0 0, .slice none 0 0, .slice none 0 0, .string ⟨#[]⟩] 42
  obtain ⟨X, hX⟩ : ∃ X, w1.heap.size = X := ⟨_, rfl⟩
  have HXX : Hid (R < w.heap.size ∧ w.heap.size < X ∧ Kb < w.heap.size ∧ Nb < w.heap.size ∧ X < w2.heap.size) := Lib.hid (by have h1 := HRL.out; have h2 := HKN.out; omega)
  have HR := Lib.hid (HR.out.keep hF2); have HF := Lib.hid (HF.out.trans hF2.any); have HB := Lib.hid (HB.out.keep hF2); have HKB := Lib.hid (HKB.out.keep hF2); have HNB := Lib.hid (HNB.out.keep hF2); have E2 := Lib.hid e2
  rw [hX] at hB2
  have HX := Lib.hid hB2
  clear hF2 hB2 hs2 e2 hs1
  go_upto_region 2 with fail
  rw [E2.out]
  try simp only [hX]
  clear E2 hX xk
  have xk := HKB.out.cell 0
  simp only [List.getElem?_toArray, List.getElem?_cons_zero] at xk
  by_cases h200 : kind = 200
  · subst h200
    go_upto_region 5 with fail
    clear xk
    have HNO : Hid (¬ 24 ≤ l.length → bodyK 200 n l = none) := Lib.hid (fun h => by unfold bodyK; rw [if_pos rfl, if_neg h])
    have HYS : Hid (24 ≤ l.length → bodyK 200 n l = (timesR (rpt1 l) n 24).map fun r => ({ Itm.zero 200 with ssrc := l32 l 0, ntp := l64 l 4, ts := l32 l 12, pks := l32 l 16, ocs := l32 l 20, reps := r.1 }, r.2)) := Lib.hid (fun h => by unfold bodyK; rw [if_pos rfl, if_pos h])
    go_wp2_with fail
    refine (rlong_or HR.out).mono ?_
    rintro e w3 (⟨hk, rfl, hR, hF⟩ | ⟨hk, rfl, hF⟩)
    rotate_left
    · exact ⟨rfl, .inr ⟨HNO.out (by omega), ⟨20, by decide, rfl⟩, (HF.out.trans hF.any)⟩⟩
    have HR := Lib.hid hR; have HF := Lib.hid (HF.out.trans hF); have HKL := Lib.hid hk
    have HKB := Lib.hid (HKB.out.fr hF (by have := HNE.out; simp; omega)); have HNB := Lib.hid (HNB.out.fr hF (by have := HNE.out; simp; omega)); have HB := Lib.hid (HB.out.fr hF (by have := HRL.out; simp; omega)); have HX := Lib.hid (HX.out.fr hF (by have := HXX.out; simp; omega))
    clear hR hF hk
    rw [← l32_nat]
    go_wp2_with fail
    refine (rwide_or HR.out).mono ?_
    rintro e w4 (⟨hk, rfl, hR, hF⟩ | ⟨hk, rfl, hF⟩)
    rotate_left
    · exact ⟨rfl, .inr ⟨HNO.out (by omega), ⟨20, by decide, rfl⟩, (HF.out.trans hF.any)⟩⟩
    have HR := Lib.hid hR; have HF := Lib.hid (HF.out.trans hF); have HKL := Lib.hid hk
    have HKB := Lib.hid (HKB.out.fr hF (by have := HNE.out; simp; omega)); have HNB := Lib.hid (HNB.out.fr hF (by have := HNE.out; simp; omega)); have HB := Lib.hid (HB.out.fr hF (by have := HRL.out; simp; omega)); have HX := Lib.hid (HX.out.fr hF (by have := HXX.out; simp; omega))
    clear hR hF hk
    rw [← l64_nat]
    go_wp2_with fail
    refine (rlong_or HR.out).mono ?_
    rintro e w5 (⟨hk, rfl, hR, hF⟩ | ⟨hk, rfl, hF⟩)
    rotate_left
    · exact ⟨rfl, .inr ⟨HNO.out (by omega), ⟨20, by decide, rfl⟩, (HF.out.trans hF.any)⟩⟩
    have HR := Lib.hid hR; have HF := Lib.hid (HF.out.trans hF); have HKL := Lib.hid hk
    have HKB := Lib.hid (HKB.out.fr hF (by have := HNE.out; simp; omega)); have HNB := Lib.hid (HNB.out.fr hF (by have := HNE.out; simp; omega)); have HB := Lib.hid (HB.out.fr hF (by have := HRL.out; simp; omega)); have HX := Lib.hid (HX.out.fr hF (by have := HXX.out; simp; omega))
    clear hR hF hk
    rw [← l32_nat]
    go_wp2_with fail
    refine (rlong_or HR.out).mono ?_
    rintro e w6 (⟨hk, rfl, hR, hF⟩ | ⟨hk, rfl, hF⟩)
    rotate_left
    · exact ⟨rfl, .inr ⟨HNO.out (by omega), ⟨20, by decide, rfl⟩, (HF.out.trans hF.any)⟩⟩
    have HR := Lib.hid hR; have HF := Lib.hid (HF.out.trans hF); have HKL := Lib.hid hk
    have HKB := Lib.hid (HKB.out.fr hF (by have := HNE.out; simp; omega)); have HNB := Lib.hid (HNB.out.fr hF (by have := HNE.out; simp; omega)); have HB := Lib.hid (HB.out.fr hF (by have := HRL.out; simp; omega)); have HX := Lib.hid (HX.out.fr hF (by have := HXX.out; simp; omega))
    clear hR hF hk
    rw [← l32_nat]
    go_wp2_with fail
    refine (rlong_or HR.out).mono ?_
    rintro e w7 (⟨hk, rfl, hR, hF⟩ | ⟨hk, rfl, hF⟩)
    rotate_left
    · exact ⟨rfl, .inr ⟨HNO.out (by omega), ⟨20, by decide, rfl⟩, (HF.out.trans hF.any)⟩⟩
    have HR := Lib.hid hR; have HF := Lib.hid (HF.out.trans hF); have HKL := Lib.hid hk
    have HKB := Lib.hid (HKB.out.fr hF (by have := HNE.out; simp; omega)); have HNB := Lib.hid (HNB.out.fr hF (by have := HNE.out; simp; omega)); have HB := Lib.hid (HB.out.fr hF (by have := HRL.out; simp; omega)); have HX := Lib.hid (HX.out.fr hF (by have := HXX.out; simp; omega))
    clear hR hF hk
    rw [← l32_nat]
    have HYS := Lib.hid (HYS.out (by have := HKL.out; omega))
    have y1 := HX.out.cell 1; have f1 := HX.out.free 1
    have y2 := HX.out.cell 2; have f2 := HX.out.free 2
    have y3 := HX.out.cell 3; have f3 := HX.out.free 3
    have y4 := HX.out.cell 4; have f4 := HX.out.free 4
    have y5 := HX.out.cell 5; have f5 := HX.out.free 5
    simp only [List.getElem?_toArray, List.getElem?_cons_succ, List.getElem?_cons_zero] at y1 y2 y3 y4 y5
    obtain ⟨z0, e0, hF0, hB0, -⟩ := set_new HX.out 1 (.int .u32 ((l32 l 0).toNat : Nat))
    simp only [List.setIfInBounds_toArray, List.set_cons_zero, List.set_cons_succ] at hB0
    obtain ⟨z1, e1, hF1, hB1, -⟩ := set_new hB0 2 (.int .u64 ((l64 l (0 + 4)).toNat : Nat))
    simp only [List.setIfInBounds_toArray, List.set_cons_zero, List.set_cons_succ] at hB1
    obtain ⟨z2, e2, hF2, hB2, -⟩ := set_new hB1 3 (.int .u32 ((l32 l (0 + 4 + 8)).toNat : Nat))
    simp only [List.setIfInBounds_toArray, List.set_cons_zero, List.set_cons_succ] at hB2
    obtain ⟨z3, e3, hF3, hB3, -⟩ := set_new hB2 4 (.int .u32 ((l32 l (0 + 4 + 8 + 4)).toNat : Nat))
    simp only [List.setIfInBounds_toArray, List.set_cons_zero, List.set_cons_succ] at hB3
    obtain ⟨z4, e4, hF4, hB4, -⟩ := set_new hB3 5 (.int .u32 ((l32 l (0 + 4 + 8 + 4 + 4)).toNat : Nat))
    simp only [List.setIfInBounds_toArray, List.set_cons_zero, List.set_cons_succ] at hB4
    have E : Hid ((((((w7.setCell ⟨X, 1, none⟩ (.int .u32 ((l32 l 0).toNat : Nat))).setCell ⟨X, 2, none⟩ (.int .u64 ((l64 l (0 + 4)).toNat : Nat))).setCell ⟨X, 3, none⟩ (.int .u32 ((l32 l (0 + 4 + 8)).toNat : Nat))).setCell ⟨X, 4, none⟩ (.int .u32 ((l32 l (0 + 4 + 8 + 4)).toNat : Nat))).setCell ⟨X, 5, none⟩ (.int .u32 ((l32 l (0 + 4 + 8 + 4 + 4)).toNat : Nat))) = z4) := Lib.hid (by rw [e0, e1, e2, e3, e4])
    have HFX := Lib.hid ((((hF0.trans hF1).trans hF2).trans hF3).trans hF4); have HBX := Lib.hid hB4
    clear e0 e1 e2 e3 e4 hF0 hF1 hF2 hF3 hF4 hB0 hB1 hB2 hB3 hB4
    go_upto_region 6 with fail
    rw [E.out]
    clear E y1 f1 y2 f2 y3 f3 y4 f4 y5 f5
    have HX := HBX
    have HR := Lib.hid (HR.out.fr HFX.out (by have := HXX.out; simp; omega) (fun b hb hm => by have h1 := HVL.out b hb; have h2 := HXX.out; simp at hm; omega)); have HKB := Lib.hid (HKB.out.fr HFX.out (by have := HXX.out; simp; omega)); have HNB := Lib.hid (HNB.out.fr HFX.out (by have := HXX.out; simp; omega)); have HB := Lib.hid (HB.out.fr HFX.out (by have := HXX.out; simp; omega)); have HF := Lib.hid (HF.out.step HFX.out (fun b hb => .inr (by have := HXX.out; simp at hb; omega)))
    clear HBX
    replace HR : Hid (Rd z4 R v 24 l) := HR
    have xn := HNB.out.cell 0
    simp only [List.getElem?_toArray, List.getElem?_cons_zero] at xn
    have HXZ := Lib.hid HX.out.lt; have HZW := Lib.hid HF.out.size
    go_wp2_with fail
    refine (tTimesR_any HR.out n hn).mono ?_
    rintro e w8 (⟨xs, k2, u, ht, rfl, hO, hR, hF⟩ | ⟨ht, he, hF⟩)
    rotate_left
    · obtain ⟨c, hc, rfl⟩ := he
      exact ⟨rfl, .inr ⟨by rw [HYS.out, ht]; try rfl, ⟨c, hc, rfl⟩, HF.out.trans hF⟩⟩
    obtain ⟨au, cu, rfl⟩ := hO.shape
    have HO := Lib.hid hO; have HT := Lib.hid ht

    have HR := Lib.hid hR; have HF := Lib.hid (HF.out.trans hF)
    have HKB := Lib.hid (HKB.out.fr hF (by have := HNE.out; simp; omega)); have HNB := Lib.hid (HNB.out.fr hF (by have := HNE.out; simp; omega)); have HB := Lib.hid (HB.out.fr hF (by have := HRL.out; simp; omega)); have HX := Lib.hid (HX.out.fr hF (by have := HXX.out; simp; omega))
    clear hR hF hO ht xn
    have HS : Hid (bodyK 200 n l = some ({ Itm.zero 200 with ssrc := l32 l 0, ntp := l64 l 4, ts := l32 l 12, pks := l32 l 16, ocs := l32 l 20, reps := xs }, k2)) := Lib.hid (by rw [HYS.out, HT.out]; rfl)
    have y6 := HX.out.cell 6; have f6 := HX.out.free 6
    simp only [List.getElem?_toArray, List.getElem?_cons_succ, List.getElem?_cons_zero] at y6
    obtain ⟨q0, e0, hF0, hB0, -⟩ := set_new HX.out 6 (.slice au xs.length cu)
    simp only [List.setIfInBounds_toArray, List.set_cons_zero, List.set_cons_succ] at hB0
    have E : Hid ((w8.setCell ⟨X, 6, none⟩ (.slice au xs.length cu)) = q0) := Lib.hid (by rw [e0])
    have HFX := Lib.hid hF0; have HBX := Lib.hid hB0
    clear e0 hF0 hB0
    go_upto_region 15 with fail
    rw [E.out]
    clear E y6 f6
    have HX := HBX
    have HR := Lib.hid (HR.out.fr HFX.out (by have := HXX.out; simp; omega) (fun b hb hm => by have h1 := HVL.out b hb; have h2 := HXX.out; simp at hm; omega)); have HKB := Lib.hid (HKB.out.fr HFX.out (by have := HXX.out; simp; omega)); have HNB := Lib.hid (HNB.out.fr HFX.out (by have := HXX.out; simp; omega)); have HB := Lib.hid (HB.out.fr HFX.out (by have := HXX.out; simp; omega)); have HF := Lib.hid (HF.out.step HFX.out (fun b hb => .inr (by have := HXX.out; simp at hb; omega)))
    clear HBX
    have HO := Lib.hid (HO.out.fr Rep.rpt HFX.out (by simp) (fun b hb hm => by have := (HO.out.block b hb).1; have := HXZ.out; have := HXX.out; simp at hm; omega))
    go_wp2_with (first | (refine wpList_load_row_w rfl 42 (.tmp 5) rfl X rfl 42 _ _ HX.out Try.underlying42 rfl (by kernel_rfl) ?_) | (refine wpList_store_row rfl 42 (.tmp 4) (.tmp 56) rfl w.heap.size rfl _ _ rfl 42 HB.out (by kernel_rfl) rfl (by simp [Value.oneCell']) ?_; intro w15 hY hG; have HY := Lib.hid hY; have HG := Lib.hid hG; clear hY hG))
    have HO := Lib.hid (HO.out.fr Rep.rpt HG.out (by simp) (fun b hb hm => by have := (HO.out.block b hb).1; have := HXZ.out; have := HXX.out; simp at hm; omega))
    obtain ⟨B, hI, hBd⟩ := ItR.reps (b0 := w.heap.size) (x := { Itm.zero 200 with ssrc := l32 l 0, ntp := l64 l 4, ts := l32 l 12, pks := l32 l 16, ocs := l32 l 20, reps := xs }) HO.out rfl rfl HZW.out
    refine bodyPost_ret (results_cell_row rfl _ _ w.heap.size 42 _ (0, 0) _ rfl HY.out Try.underlying42 rfl (by kernel_rfl)) rfl (.inl ⟨_, _, _, B, HS.out, rfl, hI, hBd, ?_, ?_⟩)
    · exact HR.out.fr HG.out (by have := HRL.out; simp; omega) (fun b hb hm => by have h1 := HVL.out b hb; simp at hm; omega)
    · exact HF.out.step HG.out (fun b hb => .inr (by simp at hb; omega))
  by_cases h201 : kind = 201
  · subst h201
    go_upto_region 8 with fail
    clear xk
    have HNO : Hid (¬ 4 ≤ l.length → bodyK 201 n l = none) := Lib.hid (fun h => by unfold bodyK; rw [if_neg (by decide), if_pos rfl, if_neg h])
    have HYS : Hid (4 ≤ l.length → bodyK 201 n l = (timesR (rpt1 l) n 4).map fun r => ({ Itm.zero 201 with ssrc := l32 l 0, reps := r.1 }, r.2)) := Lib.hid (fun h => by unfold bodyK; rw [if_neg (by decide), if_pos rfl, if_pos h])
    go_wp2_with fail
    refine (rlong_or HR.out).mono ?_
    rintro e w3 (⟨hk, rfl, hR, hF⟩ | ⟨hk, rfl, hF⟩)
    rotate_left
    · exact ⟨rfl, .inr ⟨HNO.out (by omega), ⟨20, by decide, rfl⟩, (HF.out.trans hF.any)⟩⟩
    have HR := Lib.hid hR; have HF := Lib.hid (HF.out.trans hF); have HKL := Lib.hid hk
    have HKB := Lib.hid (HKB.out.fr hF (by have := HNE.out; simp; omega)); have HNB := Lib.hid (HNB.out.fr hF (by have := HNE.out; simp; omega)); have HB := Lib.hid (HB.out.fr hF (by have := HRL.out; simp; omega)); have HX := Lib.hid (HX.out.fr hF (by have := HXX.out; simp; omega))
    clear hR hF hk
    rw [← l32_nat]
    have HYS := Lib.hid (HYS.out (by have := HKL.out; omega))
    have y1 := HX.out.cell 1; have f1 := HX.out.free 1
    simp only [List.getElem?_toArray, List.getElem?_cons_succ, List.getElem?_cons_zero] at y1
    obtain ⟨z0, e0, hF0, hB0, -⟩ := set_new HX.out 1 (.int .u32 ((l32 l 0).toNat : Nat))
    simp only [List.setIfInBounds_toArray, List.set_cons_zero, List.set_cons_succ] at hB0
    have E : Hid ((w3.setCell ⟨X, 1, none⟩ (.int .u32 ((l32 l 0).toNat : Nat))) = z0) := Lib.hid (by rw [e0])
    have HFX := Lib.hid hF0; have HBX := Lib.hid hB0
    clear e0 hF0 hB0
    go_upto_region 9 with fail
    rw [E.out]
    clear E y1 f1
    have HX := HBX
    have HR := Lib.hid (HR.out.fr HFX.out (by have := HXX.out; simp; omega) (fun b hb hm => by have h1 := HVL.out b hb; have h2 := HXX.out; simp at hm; omega)); have HKB := Lib.hid (HKB.out.fr HFX.out (by have := HXX.out; simp; omega)); have HNB := Lib.hid (HNB.out.fr HFX.out (by have := HXX.out; simp; omega)); have HB := Lib.hid (HB.out.fr HFX.out (by have := HXX.out; simp; omega)); have HF := Lib.hid (HF.out.step HFX.out (fun b hb => .inr (by have := HXX.out; simp at hb; omega)))
    clear HBX
    replace HR : Hid (Rd z0 R v 4 l) := HR
    have xn := HNB.out.cell 0
    simp only [List.getElem?_toArray, List.getElem?_cons_zero] at xn
    have HXZ := Lib.hid HX.out.lt; have HZW := Lib.hid HF.out.size
    go_wp2_with fail
    refine (tTimesR_any HR.out n hn).mono ?_
    rintro e w8 (⟨xs, k2, u, ht, rfl, hO, hR, hF⟩ | ⟨ht, he, hF⟩)
    rotate_left
    · obtain ⟨c, hc, rfl⟩ := he
      exact ⟨rfl, .inr ⟨by rw [HYS.out, ht]; try rfl, ⟨c, hc, rfl⟩, HF.out.trans hF⟩⟩
    obtain ⟨au, cu, rfl⟩ := hO.shape
    have HO := Lib.hid hO; have HT := Lib.hid ht

    have HR := Lib.hid hR; have HF := Lib.hid (HF.out.trans hF)
    have HKB := Lib.hid (HKB.out.fr hF (by have := HNE.out; simp; omega)); have HNB := Lib.hid (HNB.out.fr hF (by have := HNE.out; simp; omega)); have HB := Lib.hid (HB.out.fr hF (by have := HRL.out; simp; omega)); have HX := Lib.hid (HX.out.fr hF (by have := HXX.out; simp; omega))
    clear hR hF hO ht xn
    have HS : Hid (bodyK 201 n l = some ({ Itm.zero 201 with ssrc := l32 l 0, reps := xs }, k2)) := Lib.hid (by rw [HYS.out, HT.out]; rfl)
    have y6 := HX.out.cell 6; have f6 := HX.out.free 6
    simp only [List.getElem?_toArray, List.getElem?_cons_succ, List.getElem?_cons_zero] at y6
    obtain ⟨q0, e0, hF0, hB0, -⟩ := set_new HX.out 6 (.slice au xs.length cu)
    simp only [List.setIfInBounds_toArray, List.set_cons_zero, List.set_cons_succ] at hB0
    have E : Hid ((w8.setCell ⟨X, 6, none⟩ (.slice au xs.length cu)) = q0) := Lib.hid (by rw [e0])
    have HFX := Lib.hid hF0; have HBX := Lib.hid hB0
    clear e0 hF0 hB0
    go_upto_region 15 with fail
    rw [E.out]
    clear E y6 f6
    have HX := HBX
    have HR := Lib.hid (HR.out.fr HFX.out (by have := HXX.out; simp; omega) (fun b hb hm => by have h1 := HVL.out b hb; have h2 := HXX.out; simp at hm; omega)); have HKB := Lib.hid (HKB.out.fr HFX.out (by have := HXX.out; simp; omega)); have HNB := Lib.hid (HNB.out.fr HFX.out (by have := HXX.out; simp; omega)); have HB := Lib.hid (HB.out.fr HFX.out (by have := HXX.out; simp; omega)); have HF := Lib.hid (HF.out.step HFX.out (fun b hb => .inr (by have := HXX.out; simp at hb; omega)))
    clear HBX
    have HO := Lib.hid (HO.out.fr Rep.rpt HFX.out (by simp) (fun b hb hm => by have := (HO.out.block b hb).1; have := HXZ.out; have := HXX.out; simp at hm; omega))
    go_wp2_with (first | (refine wpList_load_row_w rfl 42 (.tmp 5) rfl X rfl 42 _ _ HX.out Try.underlying42 rfl (by kernel_rfl) ?_) | (refine wpList_store_row rfl 42 (.tmp 4) (.tmp 56) rfl w.heap.size rfl _ _ rfl 42 HB.out (by kernel_rfl) rfl (by simp [Value.oneCell']) ?_; intro w15 hY hG; have HY := Lib.hid hY; have HG := Lib.hid hG; clear hY hG))
    have HO := Lib.hid (HO.out.fr Rep.rpt HG.out (by simp) (fun b hb hm => by have := (HO.out.block b hb).1; have := HXZ.out; have := HXX.out; simp at hm; omega))
    obtain ⟨B, hI, hBd⟩ := ItR.reps (b0 := w.heap.size) (x := { Itm.zero 201 with ssrc := l32 l 0, reps := xs }) HO.out rfl rfl HZW.out
    refine bodyPost_ret (results_cell_row rfl _ _ w.heap.size 42 _ (0, 0) _ rfl HY.out Try.underlying42 rfl (by kernel_rfl)) rfl (.inl ⟨_, _, _, B, HS.out, rfl, hI, hBd, ?_, ?_⟩)
    · exact HR.out.fr HG.out (by have := HRL.out; simp; omega) (fun b hb hm => by have h1 := HVL.out b hb; simp at hm; omega)
    · exact HF.out.step HG.out (fun b hb => .inr (by simp at hb; omega))
  by_cases h202 : kind = 202
  · subst h202
    go_upto_region 11 with fail
    clear xk
    have HYS : Hid (bodyK 202 n l = (timesR (chk1 l) n 0).map fun r => ({ Itm.zero 202 with chks := r.1 }, r.2)) := Lib.hid (by unfold bodyK; rw [if_neg (by decide), if_neg (by decide), if_pos rfl])
    have xn := HNB.out.cell 0
    simp only [List.getElem?_toArray, List.getElem?_cons_zero] at xn
    have HXZ := Lib.hid HX.out.lt; have HZW := Lib.hid HF.out.size
    go_wp2_with fail
    refine (tTimesC_any HR.out n hn).mono ?_
    rintro e w8 (⟨xs, k2, u, Bc, ht, rfl, hO, hBc, hR, hF⟩ | ⟨ht, he, hF⟩)
    rotate_left
    · obtain ⟨c, hc, rfl⟩ := he
      exact ⟨rfl, .inr ⟨by rw [HYS.out, ht]; try rfl, ⟨c, hc, rfl⟩, HF.out.trans hF⟩⟩
    obtain ⟨au, cu, rfl⟩ := hO.shape
    have HO := Lib.hid hO; have HT := Lib.hid ht
    have HBC := Lib.hid hBc
    have HR := Lib.hid hR; have HF := Lib.hid (HF.out.trans hF)
    have HKB := Lib.hid (HKB.out.fr hF (by have := HNE.out; simp; omega)); have HNB := Lib.hid (HNB.out.fr hF (by have := HNE.out; simp; omega)); have HB := Lib.hid (HB.out.fr hF (by have := HRL.out; simp; omega)); have HX := Lib.hid (HX.out.fr hF (by have := HXX.out; simp; omega))
    clear hR hF hO ht xn
    have HS : Hid (bodyK 202 n l = some ({ Itm.zero 202 with chks := xs }, k2)) := Lib.hid (by rw [HYS.out, HT.out]; rfl)
    have y7 := HX.out.cell 7; have f7 := HX.out.free 7
    simp only [List.getElem?_toArray, List.getElem?_cons_succ, List.getElem?_cons_zero] at y7
    obtain ⟨q0, e0, hF0, hB0, -⟩ := set_new HX.out 7 (.slice au xs.length cu)
    simp only [List.setIfInBounds_toArray, List.set_cons_zero, List.set_cons_succ] at hB0
    have E : Hid ((w8.setCell ⟨X, 7, none⟩ (.slice au xs.length cu)) = q0) := Lib.hid (by rw [e0])
    have HFX := Lib.hid hF0; have HBX := Lib.hid hB0
    clear e0 hF0 hB0
    go_upto_region 15 with fail
    rw [E.out]
    clear E y7 f7
    have HX := HBX
    have HR := Lib.hid (HR.out.fr HFX.out (by have := HXX.out; simp; omega) (fun b hb hm => by have h1 := HVL.out b hb; have h2 := HXX.out; simp at hm; omega)); have HKB := Lib.hid (HKB.out.fr HFX.out (by have := HXX.out; simp; omega)); have HNB := Lib.hid (HNB.out.fr HFX.out (by have := HXX.out; simp; omega)); have HB := Lib.hid (HB.out.fr HFX.out (by have := HXX.out; simp; omega)); have HF := Lib.hid (HF.out.step HFX.out (fun b hb => .inr (by have := HXX.out; simp at hb; omega)))
    clear HBX
    have HO := Lib.hid (HO.out.fr Rep.chk HFX.out (fun b hb hm => by have := HBC.out b hb; have := HXZ.out; have := HXX.out; simp at hm; omega) (fun b hb hm => by have := (HO.out.block b hb).1; have := HXZ.out; have := HXX.out; simp at hm; omega))
    go_wp2_with (first | (refine wpList_load_row_w rfl 42 (.tmp 5) rfl X rfl 42 _ _ HX.out Try.underlying42 rfl (by kernel_rfl) ?_) | (refine wpList_store_row rfl 42 (.tmp 4) (.tmp 56) rfl w.heap.size rfl _ _ rfl 42 HB.out (by kernel_rfl) rfl (by simp [Value.oneCell']) ?_; intro w15 hY hG; have HY := Lib.hid hY; have HG := Lib.hid hG; clear hY hG))
    have HO := Lib.hid (HO.out.fr Rep.chk HG.out (fun b hb hm => by have := HBC.out b hb; have := HXZ.out; have := HXX.out; simp at hm; omega) (fun b hb hm => by have := (HO.out.block b hb).1; have := HXZ.out; have := HXX.out; simp at hm; omega))
    obtain ⟨B, hI, hBd⟩ := ItR.chks (b0 := w.heap.size) (x := { Itm.zero 202 with chks := xs }) HO.out rfl rfl HZW.out (fun b hb => Nat.le_trans HZW.out (HBC.out b hb))
    refine bodyPost_ret (results_cell_row rfl _ _ w.heap.size 42 _ (0, 0) _ rfl HY.out Try.underlying42 rfl (by kernel_rfl)) rfl (.inl ⟨_, _, _, B, HS.out, rfl, hI, hBd, ?_, ?_⟩)
    · exact HR.out.fr HG.out (by have := HRL.out; simp; omega) (fun b hb hm => by have h1 := HVL.out b hb; simp at hm; omega)
    · exact HF.out.step HG.out (fun b hb => .inr (by simp at hb; omega))
  by_cases h203 : kind = 203
  · subst h203
    go_upto_region 13 with fail
    clear xk
    have HYS : Hid (bodyK 203 n l = match timesR (src1 l) n 0 with | none => none | some (ss, k) => (reasonR l k).map fun r => ({ Itm.zero 203 with srcs := ss, reason := r.1 }, r.2)) := Lib.hid (by unfold bodyK; rw [if_neg (by decide), if_neg (by decide), if_neg (by decide), if_pos rfl]; rfl)
    have xn := HNB.out.cell 0
    simp only [List.getElem?_toArray, List.getElem?_cons_zero] at xn
    have HXZ := Lib.hid HX.out.lt; have HZW := Lib.hid HF.out.size
    go_wp2_with fail
    refine (tTimesS_any HR.out n hn).mono ?_
    rintro e w8 (⟨xs, k2, u, ht, rfl, hO, hR, hF⟩ | ⟨ht, he, hF⟩)
    rotate_left
    · obtain ⟨c, hc, rfl⟩ := he
      exact ⟨rfl, .inr ⟨by rw [HYS.out, ht]; try rfl, ⟨c, hc, rfl⟩, HF.out.trans hF⟩⟩
    obtain ⟨au, cu, rfl⟩ := hO.shape
    have HO := Lib.hid hO; have HT := Lib.hid ht

    have HR := Lib.hid hR; have HF := Lib.hid (HF.out.trans hF)
    have HKB := Lib.hid (HKB.out.fr hF (by have := HNE.out; simp; omega)); have HNB := Lib.hid (HNB.out.fr hF (by have := HNE.out; simp; omega)); have HB := Lib.hid (HB.out.fr hF (by have := HRL.out; simp; omega)); have HX := Lib.hid (HX.out.fr hF (by have := HXX.out; simp; omega))
    clear hR hF hO ht xn
    have y8 := HX.out.cell 8; have f8 := HX.out.free 8
    simp only [List.getElem?_toArray, List.getElem?_cons_succ, List.getElem?_cons_zero] at y8
    obtain ⟨q0, e0, hF0, hB0, -⟩ := set_new HX.out 8 (.slice au xs.length cu)
    simp only [List.setIfInBounds_toArray, List.set_cons_zero, List.set_cons_succ] at hB0
    have E : Hid ((w8.setCell ⟨X, 8, none⟩ (.slice au xs.length cu)) = q0) := Lib.hid (by rw [e0])
    have HFX := Lib.hid hF0; have HBX := Lib.hid hB0
    clear e0 hF0 hB0
    go_upto_region 14 with fail
    rw [E.out]
    clear E y8 f8
    have HX := HBX
    have HR := Lib.hid (HR.out.fr HFX.out (by have := HXX.out; simp; omega) (fun b hb hm => by have h1 := HVL.out b hb; have h2 := HXX.out; simp at hm; omega)); have HKB := Lib.hid (HKB.out.fr HFX.out (by have := HXX.out; simp; omega)); have HNB := Lib.hid (HNB.out.fr HFX.out (by have := HXX.out; simp; omega)); have HB := Lib.hid (HB.out.fr HFX.out (by have := HXX.out; simp; omega)); have HF := Lib.hid (HF.out.step HFX.out (fun b hb => .inr (by have := HXX.out; simp at hb; omega)))
    clear HBX
    have HO := Lib.hid (HO.out.fr Rep.src HFX.out (by simp) (fun b hb hm => by have := (HO.out.block b hb).1; have := HXZ.out; have := HXX.out; simp at hm; omega))
    go_wp2_with fail
    refine (tReason_any HR.out).mono ?_
    rintro e w9 (⟨sr, k3, hr, rfl, hR, hF⟩ | ⟨hr, he, hF⟩)
    rotate_left
    · obtain ⟨c, hc, rfl⟩ := he
      exact ⟨rfl, .inr ⟨by rw [HYS.out, HT.out]; simp only [hr]; try rfl, ⟨c, hc, rfl⟩, HF.out.trans hF⟩⟩
    have HO := Lib.hid (HO.out.fr Rep.src hF (by simp) (fun b hb hm => by have := (HO.out.block b hb).1; have := HXZ.out; have := HXX.out; simp at hm; omega))
    have HR := Lib.hid hR; have HF := Lib.hid (HF.out.trans hF); have HRS := Lib.hid hr
    have HKB := Lib.hid (HKB.out.fr hF (by have := HNE.out; simp; omega)); have HNB := Lib.hid (HNB.out.fr hF (by have := HNE.out; simp; omega)); have HB := Lib.hid (HB.out.fr hF (by have := HRL.out; simp; omega)); have HX := Lib.hid (HX.out.fr hF (by have := HXX.out; simp; omega))
    clear hR hF hr
    have HS : Hid (bodyK 203 n l = some ({ Itm.zero 203 with srcs := xs, reason := sr }, k3)) := Lib.hid (by rw [HYS.out, HT.out]; simp only; rw [HRS.out]; rfl)
    have y9 := HX.out.cell 9; have f9 := HX.out.free 9
    simp only [List.getElem?_toArray, List.getElem?_cons_succ, List.getElem?_cons_zero] at y9
    obtain ⟨p0, e0, hF0, hB0, -⟩ := set_new HX.out 9 (.string (strB sr))
    simp only [List.setIfInBounds_toArray, List.set_cons_zero, List.set_cons_succ] at hB0
    have E : Hid ((w9.setCell ⟨X, 9, none⟩ (.string (strB sr))) = p0) := Lib.hid (by rw [e0])
    have HFX := Lib.hid hF0; have HBX := Lib.hid hB0
    clear e0 hF0 hB0
    go_upto_region 15 with fail
    rw [E.out]
    clear E y9 f9
    have HX := HBX
    have HR := Lib.hid (HR.out.fr HFX.out (by have := HXX.out; simp; omega) (fun b hb hm => by have h1 := HVL.out b hb; have h2 := HXX.out; simp at hm; omega)); have HKB := Lib.hid (HKB.out.fr HFX.out (by have := HXX.out; simp; omega)); have HNB := Lib.hid (HNB.out.fr HFX.out (by have := HXX.out; simp; omega)); have HB := Lib.hid (HB.out.fr HFX.out (by have := HXX.out; simp; omega)); have HF := Lib.hid (HF.out.step HFX.out (fun b hb => .inr (by have := HXX.out; simp at hb; omega)))
    clear HBX
    have HO := Lib.hid (HO.out.fr Rep.src HFX.out (by simp) (fun b hb hm => by have := (HO.out.block b hb).1; have := HXZ.out; have := HXX.out; simp at hm; omega))
    go_wp2_with (first | (refine wpList_load_row_w rfl 42 (.tmp 5) rfl X rfl 42 _ _ HX.out Try.underlying42 rfl (by kernel_rfl) ?_) | (refine wpList_store_row rfl 42 (.tmp 4) (.tmp 56) rfl w.heap.size rfl _ _ rfl 42 HB.out (by kernel_rfl) rfl (by simp [Value.oneCell']) ?_; intro w15 hY hG; have HY := Lib.hid hY; have HG := Lib.hid hG; clear hY hG))
    have HO := Lib.hid (HO.out.fr Rep.src HG.out (by simp) (fun b hb hm => by have := (HO.out.block b hb).1; have := HXZ.out; have := HXX.out; simp at hm; omega))
    obtain ⟨B, hI, hBd⟩ := ItR.srcs (b0 := w.heap.size) (x := { Itm.zero 203 with srcs := xs, reason := sr }) HO.out rfl rfl HZW.out
    refine bodyPost_ret (results_cell_row rfl _ _ w.heap.size 42 _ (0, 0) _ rfl HY.out Try.underlying42 rfl (by kernel_rfl)) rfl (.inl ⟨_, _, _, B, HS.out, rfl, hI, hBd, ?_, ?_⟩)
    · exact HR.out.fr HG.out (by have := HRL.out; simp; omega) (fun b hb hm => by have h1 := HVL.out b hb; simp at hm; omega)
    · exact HF.out.step HG.out (fun b hb => .inr (by simp at hb; omega))
  have b0 : (kind == 200) = false := beq_eq_false_iff_ne.2 h200
  have b1 : (kind == 201) = false := beq_eq_false_iff_ne.2 h201
  have b2 : (kind == 202) = false := beq_eq_false_iff_ne.2 h202
  have b3 : (kind == 203) = false := beq_eq_false_iff_ne.2 h203
  have HS : Hid (bodyK kind n l = none) := Lib.hid (by unfold bodyK; rw [if_neg h200, if_neg h201, if_neg h202, if_neg h203])
  clear h200 h201 h202 h203
  go_wp2_with fail
  refine (fail_any _ 21 (by decide) _).mono ?_
  rintro e w3 ⟨rfl, rfl⟩
  exact ⟨rfl, .inr ⟨HS.out, ⟨21, by decide, rfl⟩, HF.out⟩⟩
end Go.Proofs.Ytcmpjkopdjncdaa

/- The walks of wire.guard, Part and Read at rtcp's items (printed by gen_7guard.py). -/
namespace Go.Proofs.Ytcmpjkopdjncdaa
open Go.RowKit

/-- The zero item's cells. -/
def iz : Array Value := #[.int .i64 0, .int .u32 0, .int .u64 0, .int .u32 0, .int .u32 0, .int .u32 0, .slice none 0 0, .slice none 0 0, .slice none 0 0, .string ⟨#[]⟩]
/-- What a function value reads of bytes: an item and how much it took, or an error. -/
structure Parses (w : World) (l : List UInt8) (v : Value) (fid : Nat) (caps : Array Value) (Okk : Itm → Nat → Prop) (Err : Int → Prop) : Prop where
  eg : ∀ args W, (callFunc fid args).run Try.prog W = .ok (.enter fid args) W
  go : ∀ (W : World) (R : Nat), Fr [] w W → w.heap.size ≤ R → Rd W R v 0 l → Calls Try.prog fid (#[.pointer (some ⟨R, 0, none⟩)] ++ caps) W fun e w' => (∃ x k c B, Okk x k ∧ e = .returned (.agg c) ∧ ItR w' c.toList x B ∧ (∀ b ∈ B, W.heap.size ≤ b) ∧ Rd w' R v k l ∧ Fr [R] W w') ∨ (∃ c, Err c ∧ c ≠ 0 ∧ e = .panicked (faultOf c) ∧ Fr [R] W w')
theorem ItR.open_ {w : World} {c : Array Value} {x : Itm} {B : List Nat} (h : ItR w c.toList x B) : ∃ a1 n1 c1 a2 n2 c2 a3 n3 c3, c = itc x (.slice a1 n1 c1) (.slice a2 n2 c2) (.slice a3 n3 c3) := by
  obtain ⟨vr, vc, vs, Bc, hc, h1, h2, h3, -⟩ := h
  obtain ⟨a1, p1, rfl⟩ := h1.shape
  obtain ⟨a2, p2, rfl⟩ := h2.shape
  obtain ⟨a3, p3, rfl⟩ := h3.shape
  exact ⟨a1, _, p1, a2, _, p2, a3, _, p3, Array.toList_inj.1 hc⟩
set_option maxRecDepth 100000 in
set_option maxHeartbeats 8000000 in
theorem tGuard_any {w0 w : World} {R : Nat} {v : Value} {l : List UInt8} {fid : Nat} {caps : Array Value} {Okk : Itm → Nat → Prop} {Err : Int → Prop} (hR : Rd w R v 0 l) (hP : Parses w0 l v fid caps Okk Err) (h0 : Fr [] w0 w) (hR0 : w0.heap.size ≤ R) :
    Calls Try.prog 71 #[.pointer (some ⟨R, 0, none⟩), .func (.func fid) #[] caps] w fun e w' =>
      (∃ x k c B, Okk x k ∧ e = .returned (.tuple #[.agg c, .int .i64 0]) ∧ ItR w' c.toList x B ∧ (∀ b ∈ B, w.heap.size ≤ b) ∧ Rd w' R v k l ∧ Fr [R] w w') ∨
      (∃ k, Err k ∧ k ≠ 0 ∧ e = .returned (.tuple #[.agg iz, .int .i64 k]) ∧ Fr [R] w w') := by
  have hRlt : R < w.heap.size := World.block_lt_of_cell? _ _ hR.c0
  have HVL : Hid (∀ b, liveOf v = some b → b < w.heap.size) := Lib.hid hR.vlt
  have HP := Lib.hid hP
  have eg := hP.eg
  clear hP
  go_enter_defers Try.func71, Try.ntmps71
  go_wp2_with fail
  have hF1 := (Fr.refl [] w).alloc (.cells #[.int .i64 0, .int .u32 0, .int .u64 0, .int .u32 0, .int .u32 0, .int .u32 0, .slice none 0 0, .slice none 0 0, .slice none 0 0, .string ⟨#[]⟩] 42)
  have hB1 := Box.new w 42 #[.int .i64 0, .int .u32 0, .int .u64 0, .int .u32 0, .int .u32 0, .int .u32 0, .slice none 0 0, .slice none 0 0, .slice none 0 0, .string ⟨#[]⟩]
  generalize hw1 : w.alloc (.cells #[.int .i64 0, .int .u32 0, .int .u64 0, .int .u32 0, .int .u32 0, .int .u32 0, .slice none 0 0, .slice none 0 0, .slice none 0 0, .string ⟨#[]⟩] 42) = w1 at hF1 hB1 ⊢
  have hs1 : w1.heap.size = w.heap.size + 1 := by rw [← hw1]; simp
  have hF2 := hF1.alloc (.cells #[.int .i64 0] 26)
  have hE2 := Box.new w1 26 #[.int .i64 0]
  have hB2 := hB1.keep ((Fr.refl [] w1).alloc (.cells #[.int .i64 0] 26))
  rw [hs1] at hE2
  generalize hw2 : w1.alloc (.cells #[.int .i64 0] 26) = w2 at hF2 hE2 hB2 ⊢
  clear hw2 hw1 hB1 hF1 hs1
  have hR2 := hR.keep hF2
  have HF2 := Lib.hid hF2; have HE2 := Lib.hid hE2; have HB2 := Lib.hid hB2
  clear hF2 hE2 hB2 hR
  refine (HP.out.go w2 R (h0.trans HF2.out) hR0 hR2).mono ?_
  rintro e w3 (⟨x, k, c, B, hok, rfl, hI, hIB, hR3, hF3⟩ | ⟨k, hk, hk0, rfl, hF3⟩)
  · obtain ⟨a1, n1, c1, a2, n2, c2, a3, n3, c3, rfl⟩ := hI.open_
    have hB3 := HB2.out.fr hF3 (by simp; omega)
    have hE3 := HE2.out.fr hF3 (by simp; omega)
    have hF03 := HF2.out.any.trans hF3
    have hlt2 : w.heap.size + 1 < w2.heap.size := HE2.out.lt
    have H0 := Lib.hid hB3; have H1 := Lib.hid hE3; have H2 := Lib.hid hF03; have H3 := Lib.hid hR3; have HI := Lib.hid hI; have HIB := Lib.hid hIB; have HOK := Lib.hid hok
    clear hB3 hE3 hF03 hR3 hI hIB hok hF3 hR2 HB2 HE2 HF2 eg
    go_wp2_with (refine wpList_store_row rfl 42 (.tmp 4) (.tmp 8) rfl w.heap.size rfl _ _ rfl 42 H0.out (by kernel_rfl) rfl one_itc ?_; intro w4 hY hG; have HY := Lib.hid hY; have HG := Lib.hid hG; have HE := Lib.hid (H1.out.fr hG (by simp)); have e0 := HE.out.cell 0; have ef := HE.out.free 0; simp only [List.getElem?_toArray, List.getElem?_cons_zero] at e0; clear hY hG)
    have hE5 := HE.out.set 0 (.int .i64 0)
    have hF5 := (Fr.refl [w.heap.size + 1] w4).set (g := w.heap.size + 1) (i := 0) (.inl (by simp)) (.int .i64 0)
    generalize hw5 : w4.setCell ⟨w.heap.size + 1, 0, none⟩ (.int .i64 0) = w5 at hE5 hF5 ⊢
    have hB5 := HY.out.fr hF5 (by simp)
    refine leaves_cons (f := 87) (args := #[.pointer (some ⟨w.heap.size + 1, 0, none⟩)]) (by simp) (by simp [go_sem]) ?_
    refine (catch_idle (w.heap.size + 1) 0 w5).mono ?_
    rintro e u w6 ⟨rfl, rfl, rfl⟩
    have hF36 := (HG.out.mono (T := [w.heap.size, w.heap.size + 1]) (by simp)).trans (hF5.mono (T := [w.heap.size, w.heap.size + 1]) (by simp))
    refine ⟨_, results_row_num rfl _ _ w.heap.size (w.heap.size + 1) 42 _ _ .i64 .i64 0 rfl hB5 Try.underlying42 rfl (by kernel_rfl) rfl (hE5.cell 0) Try.underlying26, .inl ⟨x, k, _, B, HOK.out, rfl, ?_, fun b hb => by have := HIB.out b hb; omega, ?_, ?_⟩⟩
    · exact Rep.itm.fr HI.out hF36 (fun b hb hm => by have := HIB.out b hb; simp at hm; omega)
    · exact H3.out.fr hF36 (by simp; omega) (fun b hb hm => by have := HVL.out b hb; simp at hm; omega)
    · exact H2.out.step hF36 (by simp)
  · have hB3 := HB2.out.fr hF3 (by simp; omega)
    have hE3 := HE2.out.fr hF3 (by simp; omega)
    have hF03 := HF2.out.any.trans hF3
    refine leaves_cons (f := 87) (args := #[.pointer (some ⟨w.heap.size + 1, 0, none⟩)]) (by simp) (by simp [go_sem]) ?_
    refine (catch_fault (w.heap.size + 1) 0 k 0 [] w3 (hE3.cell 0) (hE3.free 0)).mono ?_
    rintro e u w6 ⟨rfl, rfl, rfl⟩
    have hF6 := ((Fr.refl [w.heap.size + 1] w3).set (g := w.heap.size + 1) (i := 0) (.inl (by simp)) (.int .i64 k)).alloc (.cells #[.int .i64 k] 130)
    have hE6 := (hE3.set 0 (.int .i64 k)).keep ((Fr.refl [] _).alloc (.cells #[.int .i64 k] 130))
    have hB6 := hB3.fr hF6 (by simp)
    exact ⟨_, results_row_num rfl _ _ w.heap.size (w.heap.size + 1) 42 _ _ .i64 .i64 k rfl hB6 Try.underlying42 rfl (by kernel_rfl) rfl (hE6.cell 0) Try.underlying26, .inr ⟨k, hk, hk0, rfl, hF03.step hF6 (by simp)⟩⟩
set_option maxRecDepth 100000 in
set_option maxHeartbeats 8000000 in
theorem tPart_any {w : World} {v : Value} {l : List UInt8} {fid : Nat} {caps : Array Value} {Okk : Itm → Nat → Prop} {Err : Int → Prop} (hl : Bytes w v l) (hsm : l.length ≤ 1099511627776) (hP : Parses w l v fid caps Okk Err) :
    Calls Try.prog 46 #[v, .func (.func fid) #[] caps] w fun e w' =>
      (∃ x k c B, Okk x k ∧ k ≤ l.length ∧ e = .returned (.tuple #[.agg c, .int .i64 k, .int .i64 0]) ∧ ItR w' c.toList x B ∧ (∀ b ∈ B, w.heap.size ≤ b) ∧ Fr [] w w') ∨
      (∃ k, Err k ∧ k ≠ 0 ∧ e = .returned (.tuple #[.agg iz, .int .i64 0, .int .i64 k]) ∧ Fr [] w w') := by
  have HL := Lib.hid hl
  obtain ⟨a, cap, rfl⟩ := hl.shape
  simp only [List.length_map] at HL hP ⊢
  have HP := Lib.hid hP
  clear hl hP
  go_enter Try.func46, Try.ntmps46
  go_wp2_with fail
  obtain ⟨w2, e2, hF2, hB2, hD2, hs2⟩ := two_new w #[.int .i64 0, .int .u32 0, .int .u64 0, .int .u32 0, .int .u32 0, .int .u32 0, .slice none 0 0, .slice none 0 0, .slice none 0 0, .string ⟨#[]⟩] 42 #[.slice a l.length cap, .int .i64 0] 126
  rw [e2]
  clear e2
  have hR2 : Rd w2 (w.heap.size + 1) (.slice a l.length cap) 0 l :=
    ⟨hD2.cell 0, hD2.cell 1, hD2.free 1, HL.out.keep hF2, fun e => by have := HL.out.lt _ e; omega, Nat.zero_le _, hsm⟩
  have HF2 := Lib.hid hF2; have HB2 := Lib.hid hB2
  have HS2 : Hid (w.heap.size + 2 ≤ w2.heap.size) := Lib.hid (by omega)
  clear hD2 hB2 hs2
  refine (tGuard_any hR2 HP.out hF2 (by omega)).mono ?_
  clear hR2 hF2
  rintro e w3 (⟨x, k, c, B, hok, rfl, hI, hIB, hR3, hF3⟩ | ⟨k, hk, hk0, rfl, hF3⟩)
  · obtain ⟨a1, n1, c1, a2, n2, c2, a3, n3, c3, rfl⟩ := hI.open_
    have HB := Lib.hid (HB2.out.fr hF3 (by simp)); have HF := Lib.hid (HF2.out.step hF3 (fun b hb => .inr (by simp at hb; omega))); have HR := Lib.hid hR3; have HI := Lib.hid hI; have HOK := Lib.hid hok; have HIB := Lib.hid hIB
    have HS3 : Hid (w.heap.size + 2 ≤ w3.heap.size) := Lib.hid (by have := HS2.out; have := hF3.size; omega)
    have hz : ((0 : Int) != 0) = false := by decide
    clear hI hF3 hR3 hok hIB HB2 HF2
    go_upto_region 3 with (refine wpList_store_row rfl 42 (.tmp 8) (.tmp 18) rfl w3.heap.size rfl _ _ rfl 42 (Box.new w3 42 #[.int .i64 0, .int .u32 0, .int .u64 0, .int .u32 0, .int .u32 0, .int .u32 0, .slice none 0 0, .slice none 0 0, .slice none 0 0, .string ⟨#[]⟩]) (by kernel_rfl) rfl one_itc ?_; intro w4 hY hG; have hFn := ((Fr.refl [] w3).alloc _).step hG (by simp); have HFn := Lib.hid hFn; have HY := Lib.hid hY; clear hG hFn hY)
    have HB := Lib.hid (HB.out.keep HFn.out); have HF := Lib.hid (HF.out.trans HFn.out); have HR := Lib.hid (HR.out.keep HFn.out); have HI := Lib.hid (Rep.itm.fr HI.out HFn.out (by simp))
    have HXW : Hid (w.heap.size < w3.heap.size) := Lib.hid (by have := HS3.out; omega)
    have HVL : Hid (∀ b, liveOf (.slice a l.length cap) = some b → b < w.heap.size) := Lib.hid HL.out.lt
    generalize w3.heap.size = X at *
    go_upto_region 6 with fail
    refine wp_region_T (fun w' => Fr [w.heap.size] w4.drew w') [] 8 #[false, false, false, false, false, false, false, false] (by kernel_rfl) rfl rfl ?_
    try simp only [List.append_eq, List.cons_append, List.nil_append]
    have hF := (Fr.refl [] w4).drew
    have HB := Lib.hid (HB.out.keep hF)
    have HY := Lib.hid (HY.out.keep hF)
    have HF := Lib.hid (HF.out.trans hF)
    have HR := Lib.hid (HR.out.keep hF)
    have HI := Lib.hid (Rep.itm.fr HI.out hF (by simp))
    clear hF
    have HSS : Hid (Fr [w.heap.size] w4.drew w4.drew) := Lib.hid (Fr.refl _ _)
    generalize w4.drew = wd at *
    refine wpAnyT_load (i := 0) (v := ?_) rfl (by kernel_rfl) (by kernel_rfl) (by kernel_rfl) (by kernel_rfl) (by kernel_rfl) (fun _ _ _ h => h) HSS.out (by rfl) ?_ ?_
    rotate_left
    · intro w' hSw; refine run_load_row 42 (.tmp 8) ?_ X ?_ 42 _ _ (HY.out.fr hSw (by have := HXW.out; simp; omega)) Try.underlying42 rfl (by kernel_rfl) <;> rfl
    simp only [Act.put, List.getElem_toArray, List.getElem_cons_zero, List.getElem_cons_succ, List.setIfInBounds_toArray, List.set_cons_zero, List.set_cons_succ]
    refine wpAnyT_load (i := 1) (v := ?_) rfl (by kernel_rfl) (by kernel_rfl) (by kernel_rfl) (by kernel_rfl) (by kernel_rfl) (fun _ _ _ h => h) HSS.out (by rfl) ?_ ?_
    rotate_left
    · intro w hSw; skip; go_simp; try with_reducible rfl
    simp only [Act.put, List.getElem_toArray, List.getElem_cons_zero, List.getElem_cons_succ, List.setIfInBounds_toArray, List.set_cons_zero, List.set_cons_succ]
    refine wpAnyT_load (i := 2) (v := ?_) rfl (by kernel_rfl) (by kernel_rfl) (by kernel_rfl) (by kernel_rfl) (by kernel_rfl) (fun _ _ _ h => h) HSS.out (by rfl) ?_ ?_
    rotate_left
    · intro w hSw; skip; go_simp; try with_reducible rfl
    simp only [Act.put, List.getElem_toArray, List.getElem_cons_zero, List.getElem_cons_succ, List.setIfInBounds_toArray, List.set_cons_zero, List.set_cons_succ]
    refine wpAnyT_load (i := 3) (v := ?_) rfl (by kernel_rfl) (by kernel_rfl) (by kernel_rfl) (by kernel_rfl) (by kernel_rfl) (fun _ _ _ h => h) HSS.out (by rfl) ?_ ?_
    rotate_left
    · intro w hSw; skip; go_simp; try with_reducible rfl
    simp only [Act.put, List.getElem_toArray, List.getElem_cons_zero, List.getElem_cons_succ, List.setIfInBounds_toArray, List.set_cons_zero, List.set_cons_succ]
    refine wpAnyT_load (i := 4) (v := ?_) rfl (by kernel_rfl) (by kernel_rfl) (by kernel_rfl) (by kernel_rfl) (by kernel_rfl) (fun _ _ _ h => h) HSS.out (by rfl) ?_ ?_
    rotate_left
    · intro w hSw; have n1 := (HR.out.fr hSw (by simp) (fun b hb hm => by have := HVL.out b hb; simp at hm; omega)).c1; go_simp; try with_reducible rfl
    simp only [Act.put, List.getElem_toArray, List.getElem_cons_zero, List.getElem_cons_succ, List.setIfInBounds_toArray, List.set_cons_zero, List.set_cons_succ]
    refine wpAnyT_one (i := 5) (by kernel_rfl) rfl (fun K hK => ?_)
    refine wp_store_row rfl 42 (.tmp 4) (.tmp 24) rfl w.heap.size rfl _ _ rfl 42 HB.out (by kernel_rfl) rfl one_itc ?_
    intro w8 hY hG
    have HYS := Lib.hid hY; have HGS := Lib.hid hG
    have HSS := Lib.hid (HSS.out.trans hG)
    clear hY hG
    refine hK.out _ _ (fun _ => HSS.out) ?_
    clear hK K
    simp only [Act.put, List.getElem_toArray, List.getElem_cons_zero, List.getElem_cons_succ, List.setIfInBounds_toArray, List.set_cons_zero, List.set_cons_succ]
    refine wpAnyT_load (i := 6) (v := ?_) rfl (by kernel_rfl) (by kernel_rfl) (by kernel_rfl) (by kernel_rfl) (by kernel_rfl) (fun _ _ _ h => h) HSS.out (by rfl) ?_ ?_
    rotate_left
    · intro w hSw; skip; go_simp; try with_reducible rfl
    simp only [Act.put, List.getElem_toArray, List.getElem_cons_zero, List.getElem_cons_succ, List.setIfInBounds_toArray, List.set_cons_zero, List.set_cons_succ]
    refine wpAnyT_load (i := 7) (v := ?_) rfl (by kernel_rfl) (by kernel_rfl) (by kernel_rfl) (by kernel_rfl) (by kernel_rfl) (fun _ _ _ h => h) HSS.out (by rfl) ?_ ?_
    rotate_left
    · intro w hSw; skip; go_simp; try with_reducible rfl
    simp only [Act.put, List.getElem_toArray, List.getElem_cons_zero, List.getElem_cons_succ, List.setIfInBounds_toArray, List.set_cons_zero, List.set_cons_succ]
    refine wpAnyT_done (by kernel_rfl) ?_ _
    go_wp2_with fail
    refine bodyPost_ret (results_row_2 rfl _ _ w.heap.size 42 _ _ rfl HYS.out Try.underlying42 rfl (by kernel_rfl)) rfl (.inl ⟨x, k, _, B, HOK.out, HR.out.place, rfl, ?_, fun b hb => by have := HIB.out b hb; have := HS2.out; omega, HF.out.step HGS.out (fun b hb => .inr (by simp at hb; omega))⟩)
    exact Rep.itm.fr HI.out HGS.out (fun b hb hm => by have := HIB.out b hb; have := HS2.out; simp at hm; omega)
  · have HB := Lib.hid (HB2.out.fr hF3 (by simp)); have HF := Lib.hid (HF2.out.step hF3 (fun b hb => .inr (by simp at hb; omega)))
    have hkb : (k != 0) = true := by simpa using hk0
    have HK := Lib.hid hk; have HK0 := Lib.hid hk0
    clear hF3 hk hk0 HB2 HF2
    unfold iz
    go_upto_region 3 with (refine wpList_store_row rfl 42 (.tmp 8) (.tmp 18) rfl w3.heap.size rfl _ _ rfl 42 (Box.new w3 42 #[.int .i64 0, .int .u32 0, .int .u64 0, .int .u32 0, .int .u32 0, .int .u32 0, .slice none 0 0, .slice none 0 0, .slice none 0 0, .string ⟨#[]⟩]) (by kernel_rfl) rfl (by simp [Value.oneCell']) ?_; intro w4 hY hG; have hFn := ((Fr.refl [] w3).alloc _).step hG (by simp); have HFn := Lib.hid hFn; clear hG hFn hY)
    have HB := Lib.hid (HB.out.keep HFn.out); have HF := Lib.hid (HF.out.trans HFn.out)
    generalize w3.heap.size = X at *
    obtain ⟨w5, e5, hF5, hB5, hs5⟩ := one_new w4 #[.int .i64 0, .int .u32 0, .int .u64 0, .int .u32 0, .int .u32 0, .int .u32 0, .slice none 0 0, .slice none 0 0, .slice none 0 0, .string ⟨#[]⟩] 42
    have HB := Lib.hid (HB.out.keep hF5); have HF := Lib.hid (HF.out.trans hF5); have HX := Lib.hid hB5; have E5 := Lib.hid e5
    clear hF5 hB5 e5 hs5
    go_upto_region 5 with fail
    rw [E5.out]
    clear E5
    generalize w4.heap.size = X5 at *
    go_wp2_with (first | (refine wpList_load_row_w rfl 42 (.tmp 10) rfl X5 rfl 42 _ _ HX.out Try.underlying42 rfl (by kernel_rfl) ?_) | (refine wpList_store_row rfl 42 (.tmp 4) (.tmp 22) rfl w.heap.size rfl _ _ rfl 42 HB.out (by kernel_rfl) rfl (by simp [Value.oneCell']) ?_; intro w15 hY hG; have HYS := Lib.hid hY; have HGS := Lib.hid hG; clear hY hG))
    exact bodyPost_ret (results_row_2 rfl _ _ w.heap.size 42 _ _ rfl HYS.out Try.underlying42 rfl (by kernel_rfl)) rfl (.inr ⟨k, HK.out, HK0.out, rfl, HF.out.step HGS.out (fun b hb => .inr (by simp at hb; omega))⟩)
set_option maxRecDepth 100000 in
set_option maxHeartbeats 8000000 in
theorem tRead_any {w : World} {v : Value} {l : List UInt8} {fid : Nat} {caps : Array Value} {Okk : Itm → Nat → Prop} {Err : Int → Prop} (hl : Bytes w v l) (hsm : l.length ≤ 1099511627776) (hP : Parses w l v fid caps Okk Err) :
    Calls Try.prog 50 #[v, .func (.func fid) #[] caps] w fun e w' =>
      (∃ x c B, Okk x l.length ∧ e = .returned (.tuple #[.agg c, .int .i64 0]) ∧ ItR w' c.toList x B ∧ (∀ b ∈ B, w.heap.size ≤ b) ∧ Fr [] w w') ∨
      (∃ k, k ≠ 0 ∧ ((∃ c, Err c) ∨ ∃ x k', Okk x k' ∧ k' < l.length) ∧ e = .returned (.tuple #[.agg iz, .int .i64 k]) ∧ Fr [] w w') := by
  have HL := Lib.hid hl
  obtain ⟨a, cap, rfl⟩ := hl.shape
  simp only [List.length_map] at HL hP ⊢
  obtain ⟨w1, e1, hF1, hB1, hs1⟩ := one_new w #[.int .i64 0, .int .u32 0, .int .u64 0, .int .u32 0, .int .u32 0, .int .u32 0, .slice none 0 0, .slice none 0 0, .slice none 0 0, .string ⟨#[]⟩] 42
  have HP : Hid (Parses w1 l (.slice a l.length cap) fid caps Okk Err) := Lib.hid ⟨hP.eg, fun W R hW hR => hP.go W R (hF1.trans hW) (by omega)⟩
  have HF := Lib.hid hF1; have HB := Lib.hid hB1; have E1 := Lib.hid e1; have HL1 := Lib.hid (HL.out.keep hF1)
  have HS1 : Hid (w.heap.size < w1.heap.size) := Lib.hid (by omega)
  clear hl hP hF1 hB1 e1 hs1
  go_enter Try.func50, Try.ntmps50
  go_upto_region 1 with fail
  rw [E1.out]
  clear E1
  go_wp2_with fail
  refine (tPart_any HL1.out hsm HP.out).mono ?_
  rintro e w3 (⟨x, k, c, B, hok, hkl, rfl, hI, hIB, hF3⟩ | ⟨k, hk, hk0, rfl, hF3⟩)
  · obtain ⟨a1, n1, c1, a2, n2, c2, a3, n3, c3, rfl⟩ := hI.open_
    have HB := Lib.hid (HB.out.keep hF3); have HF := Lib.hid (HF.out.trans hF3); have HI := Lib.hid hI; have HOK := Lib.hid hok; have HIB := Lib.hid hIB
    have HS3 : Hid (w.heap.size < w3.heap.size) := Lib.hid (by have := HS1.out; have := hF3.size; omega)
    have hz : ((0 : Int) != 0) = false := by decide
    have hz2 : ((0 : Int) == 0) = true := by decide
    clear hI hF3 hok hIB
    go_upto_region 2 with (refine wpList_store_row rfl 42 (.tmp 6) (.tmp 14) rfl w3.heap.size rfl _ _ rfl 42 (Box.new w3 42 #[.int .i64 0, .int .u32 0, .int .u64 0, .int .u32 0, .int .u32 0, .int .u32 0, .slice none 0 0, .slice none 0 0, .slice none 0 0, .string ⟨#[]⟩]) (by kernel_rfl) rfl one_itc ?_; intro w4 hY hG; have hFn := ((Fr.refl [] w3).alloc _).step hG (by simp); have HFn := Lib.hid hFn; have HY := Lib.hid hY; clear hG hFn hY)
    have HB := Lib.hid (HB.out.keep HFn.out); have HF := Lib.hid (HF.out.trans HFn.out); have HI := Lib.hid (Rep.itm.fr HI.out HFn.out (by simp))
    generalize w3.heap.size = X at *
    by_cases hkk : k < l.length
    · have hkd : decide (k < l.length) = true := decide_eq_true hkk
      have hkd2 : decide ((k : Int) < (l.length : Int)) = true := decide_eq_true (by omega)
      have h22 : ((22 : Int) != 0) = true := by decide
      have HKK := Lib.hid hkk
      go_upto_region 5 with fail
      obtain ⟨w5, e5, hF5, hB5, hs5⟩ := one_new w4 #[.int .i64 0, .int .u32 0, .int .u64 0, .int .u32 0, .int .u32 0, .int .u32 0, .slice none 0 0, .slice none 0 0, .slice none 0 0, .string ⟨#[]⟩] 42
      have HB := Lib.hid (HB.out.keep hF5); have HF := Lib.hid (HF.out.trans hF5); have HX := Lib.hid hB5; have E5 := Lib.hid e5
      clear hF5 hB5 e5 hs5
      go_upto_region 6 with fail
      rw [E5.out]
      clear E5
      generalize w4.heap.size = X5 at *
      go_wp2_with (first | (refine wpList_load_row_w rfl 42 (.tmp 9) rfl X5 rfl 42 _ _ HX.out Try.underlying42 rfl (by kernel_rfl) ?_) | (refine wpList_store_row rfl 42 (.tmp 4) (.tmp 27) rfl w.heap.size rfl _ _ rfl 42 HB.out (by kernel_rfl) rfl (by simp [Value.oneCell']) ?_; intro w15 hY hG; have HYS := Lib.hid hY; have HGS := Lib.hid hG; clear hY hG))
      exact bodyPost_ret (results_row_1 rfl _ _ w.heap.size 42 _ _ rfl HYS.out Try.underlying42 rfl (by kernel_rfl)) rfl (.inr ⟨22, by decide, .inr ⟨x, k, HOK.out, HKK.out⟩, rfl, HF.out.step HGS.out (fun b hb => .inr (by simp at hb; omega))⟩)
    · obtain rfl : k = l.length := by omega
      have hkd : decide (l.length < l.length) = false := decide_eq_false hkk
      have hkd2 : decide ((l.length : Int) < (l.length : Int)) = false := decide_eq_false (by omega)
      clear hkk hkl
      go_wp2_with (first | (refine wpList_load_row_w rfl 42 (.tmp 6) rfl X rfl 42 _ _ HY.out Try.underlying42 rfl (by kernel_rfl) ?_) | (refine wpList_store_row rfl 42 (.tmp 4) (.tmp 29) rfl w.heap.size rfl _ _ rfl 42 HB.out (by kernel_rfl) rfl one_itc ?_; intro w15 hY hG; have HYS := Lib.hid hY; have HGS := Lib.hid hG; clear hY hG))
      refine bodyPost_ret (results_row_1 rfl _ _ w.heap.size 42 _ _ rfl HYS.out Try.underlying42 rfl (by kernel_rfl)) rfl (.inl ⟨x, _, B, HOK.out, rfl, ?_, fun b hb => by have := HIB.out b hb; have := HS1.out; omega, HF.out.step HGS.out (fun b hb => .inr (by simp at hb; omega))⟩)
      exact Rep.itm.fr HI.out HGS.out (fun b hb hm => by have := HIB.out b hb; have := HS1.out; simp at hm; omega)
  · have HB := Lib.hid (HB.out.keep hF3); have HF := Lib.hid (HF.out.trans hF3)
    have hkb : (k != 0) = true := by simpa using hk0
    have hkb2 : (k == 0) = false := beq_eq_false_iff_ne.2 hk0
    have HK := Lib.hid hk; have HK0 := Lib.hid hk0
    clear hF3 hk hk0
    unfold iz
    go_upto_region 2 with (refine wpList_store_row rfl 42 (.tmp 6) (.tmp 14) rfl w3.heap.size rfl _ _ rfl 42 (Box.new w3 42 #[.int .i64 0, .int .u32 0, .int .u64 0, .int .u32 0, .int .u32 0, .int .u32 0, .slice none 0 0, .slice none 0 0, .slice none 0 0, .string ⟨#[]⟩]) (by kernel_rfl) rfl (by simp [Value.oneCell']) ?_; intro w4 hY hG; have hFn := ((Fr.refl [] w3).alloc _).step hG (by simp); have HFn := Lib.hid hFn; have HY := Lib.hid hY; clear hG hFn hY)
    have HB := Lib.hid (HB.out.keep HFn.out); have HF := Lib.hid (HF.out.trans HFn.out)
    clear HY
    go_upto_region 5 with fail
    obtain ⟨w5, e5, hF5, hB5, hs5⟩ := one_new w4 #[.int .i64 0, .int .u32 0, .int .u64 0, .int .u32 0, .int .u32 0, .int .u32 0, .slice none 0 0, .slice none 0 0, .slice none 0 0, .string ⟨#[]⟩] 42
    have HB := Lib.hid (HB.out.keep hF5); have HF := Lib.hid (HF.out.trans hF5); have HX := Lib.hid hB5; have E5 := Lib.hid e5
    clear hF5 hB5 e5 hs5
    go_upto_region 6 with fail
    rw [E5.out]
    clear E5
    generalize w4.heap.size = X5 at *
    go_wp2_with (first | (refine wpList_load_row_w rfl 42 (.tmp 9) rfl X5 rfl 42 _ _ HX.out Try.underlying42 rfl (by kernel_rfl) ?_) | (refine wpList_store_row rfl 42 (.tmp 4) (.tmp 27) rfl w.heap.size rfl _ _ rfl 42 HB.out (by kernel_rfl) rfl (by simp [Value.oneCell']) ?_; intro w15 hY hG; have HYS := Lib.hid hY; have HGS := Lib.hid hG; clear hY hG))
    exact bodyPost_ret (results_row_1 rfl _ _ w.heap.size 42 _ _ rfl HYS.out Try.underlying42 rfl (by kernel_rfl)) rfl (.inr ⟨k, HK0.out, .inl ⟨k, HK.out⟩, rfl, HF.out.step HGS.out (fun b hb => .inr (by simp at hb; omega))⟩)
end Go.Proofs.Ytcmpjkopdjncdaa
