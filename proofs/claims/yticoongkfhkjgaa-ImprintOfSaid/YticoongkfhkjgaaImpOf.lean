/- The walk of confluxlaw12.ImprintOf (printed by gen_imp10.py). -/
import Derived.Test.YticoongkfhkjgaaImp9
import Derived.Test.YticoongkfhkjgaaImp4
namespace Go.Proofs.Yticoongkfhkjgaa
open Go.RowKit

set_option maxRecDepth 100000 in
set_option maxHeartbeats 8000000 in
theorem ImprintOf_any {w : World} {v : Value} {l : List UInt8} (hl : Bytes w v l) :
    Calls Try.prog 3 #[v] w fun e w' => e = .returned (.bool true) ∧ Fr [] w w' := by
  obtain ⟨av, cv, rfl⟩ := hl.shape
  simp only [List.length_map] at hl ⊢
  have hlen := (Sl.len hl).2
  unfold maxLen at hlen
  have HB := Lib.hid hl; have HF : Hid (Fr [] w w) := Lib.hid (Fr.refl _ _)
  clear hl
  go_enter Try.func3, Try.ntmps3
  go_wp2_with fail
  refine l12alive_any.mono ?_
  rintro e w1 ⟨rfl, hF⟩
  have HF := Lib.hid (HF.out.trans hF)
  have HB := Lib.hid (Sl.keep HB.out hF)
  clear hF
  by_cases hbig : 2000 < l.length
  · go_wp2_with fail
    go_ret
    exact ⟨rfl, HF.out⟩
  have hsm : l.length ≤ 2000 := by omega
  go_wp2_with fail
  refine (RCopy_any HB.out (by omega)).mono ?_
  rintro e w2 ⟨vm, rfl, hO, hF⟩
  have HF := Lib.hid (HF.out.trans hF)
  have HB := Lib.hid (Sl.keep HB.out hF)
  have HM := Lib.hid hO.bytes
  obtain ⟨am, nm, cm, rfl⟩ := hO.isSlice
  obtain rfl := hO.len
  clear hO hF
  go_wp2_with fail
  refine (impOf_any HM.out).mono ?_
  have HL : Hid (∀ k, liveOf (.slice am l.length cm) = some k → k < w2.heap.size) := Lib.hid (Sl.lt HM.out)
  have HLB : Hid (∀ k, liveOf (.slice av l.length cv) = some k → k < w2.heap.size) := Lib.hid (Sl.lt HB.out)
  have HW2 : Hid (w.heap.size ≤ w2.heap.size) := Lib.hid HF.out.size
  rintro e w3 (⟨v3, p, hp, rfl, ⟨vb, rfl, hO⟩, hF⟩ | ⟨k, hp, rfl, hF⟩)
  all_goals have HSZ0 : Hid (w2.heap.size ≤ w3.heap.size) := Lib.hid hF.size
  · have HP := Lib.hid hp
    obtain ⟨h12, -⟩ := parse_len hp
    obtain ⟨a3, n3, c3, rfl⟩ := hO.isSlice
    have HXO := Lib.hid hO
    obtain rfl := hO.len
    have HXLN : Hid ((imp l).body.length ≤ l.length) := Lib.hid (by simp [imp])
    clear hp hO
    have HF := Lib.hid (HF.out.trans hF)
    have HB := Lib.hid (Sl.keep HB.out hF)
    have HM := Lib.hid (Sl.keep HM.out hF)
    clear hF
    have HXO3 := HXO
    have HS3 : Hid (w2.heap.size ≤ w3.heap.size) := Lib.hid HSZ0.out
    go_upto_region 7 with (refine wpList_store_row rfl 27 (.tmp 4) (.tmp 19) rfl w3.heap.size rfl _ _ rfl 27 (Box.new w3 27 (bc Bt.zero (.slice none 0 0))) (by kernel_rfl) rfl (by simp [bc, Value.oneCell']) ?_; intro w4 hY hG; have hFn := ((Fr.refl [] w3).alloc _).step hG (by simp); have HFn := Lib.hid hFn; have HY := Lib.hid hY; clear hG hFn hY)
    have hF := HFn.out
    have HF := Lib.hid (HF.out.trans hF)
    have HB := Lib.hid (Sl.keep HB.out hF)
    have HM := Lib.hid (Sl.keep HM.out hF)
    have HXO := Lib.hid (HXO.out.keep hF)
    have HXB := HY
    clear hF HFn HY
    have HSX : Hid (w3.heap.size + 1 ≤ w4.heap.size) := Lib.hid HXB.out.lt
    have HXL : Hid (∀ b, blockOf (.slice a3 (imp l).body.length c3) = some b → w2.heap.size ≤ b ∧ b < w3.heap.size) := Lib.hid (fun b hb => by have h1 := (HXO.out.block b hb).1; have h2 := HXO3.out.block b hb; omega)
    have HW3 : Hid (w2.heap.size ≤ w3.heap.size) := Lib.hid HS3.out
    generalize hgx : w3.heap.size = gx at *
    clear hgx HXO3
    go_wp2_with fail
    refine (r12Of_any HB.out).mono ?_
    rintro e w5 (⟨v5, p2, hp, rfl, hR, hF⟩ | ⟨v5, k2, hp, -, -, -⟩)
    rotate_left
    · rw [HP.out] at hp; cases hp
    clear hp
    obtain ⟨a5, c5, a6, c6, rfl, -, -⟩ := hR.open_
    have HR := Lib.hid hR
    clear hR
    have HF := Lib.hid (HF.out.trans hF)
    have HB := Lib.hid (Sl.keep HB.out hF)
    have HM := Lib.hid (Sl.keep HM.out hF)
    have HXO := Lib.hid (HXO.out.keep hF)
    have HXB := Lib.hid (HXB.out.keep hF)
    clear hF
    go_upto_region 8 with (refine wpList_store_row rfl 32 (.tmp 6) (.tmp 24) rfl w5.heap.size rfl _ _ rfl 32 (Box.new w5 32 #[.slice none 0 0, .slice none 0 0]) (by kernel_rfl) rfl (by simp [Value.oneCell']) ?_; intro w6 hY hG; have hFn := ((Fr.refl [] w5).alloc _).step hG (by simp); have HFn := Lib.hid hFn; have HY := Lib.hid hY; clear hG hFn hY)
    have hF := HFn.out
    have HF := Lib.hid (HF.out.trans hF)
    have HB := Lib.hid (Sl.keep HB.out hF)
    have HM := Lib.hid (Sl.keep HM.out hF)
    have HXO := Lib.hid (HXO.out.keep hF)
    have HXB := Lib.hid (HXB.out.keep hF)
    have HR := Lib.hid (HR.out.keep hF)
    have HRB := HY
    clear hF HFn HY
    generalize hgr : w5.heap.size = gr at *
    clear hgr
    have HLEN : Hid ((imp l).len = l.length - 12) := Lib.hid (by obtain ⟨q1, q2⟩ := parse_back HP.out; rw [← q2, imp_len q1]; have := (tail_len q1).2; omega)
    go_wp2_with (first | (refine wpList_load_row_w rfl 27 (.tmp 4) rfl gx rfl 27 _ _ HXB.out Try.underlying27 rfl (by kernel_rfl) ?_) | (refine wpList_load_row_w rfl 32 (.tmp 6) rfl gr rfl 32 _ _ HRB.out Try.underlying32 rfl (by kernel_rfl) ?_))
    refine (l12like_any (x := (imp l)) (h := (imp l).head) (b := (imp l).body) ⟨_, rfl, HXO.out.bytes⟩ HR.out (by simp [Bt.head]) (by have := HXLN.out; omega) (by have := HXLN.out; omega)).mono ?_
    rintro e w7 ⟨rfl, hF⟩
    rw [show ((imp l).head == (imp l).head && (imp l).body == (imp l).body) = true by simp]
    have HF := Lib.hid (HF.out.trans hF)
    have HB := Lib.hid (Sl.keep HB.out hF)
    have HM := Lib.hid (Sl.keep HM.out hF)
    have HXO := Lib.hid (HXO.out.keep hF)
    have HXB := Lib.hid (HXB.out.keep hF)
    have HR := Lib.hid (HR.out.keep hF)
    have HRB := Lib.hid (HRB.out.keep hF)
    clear hF
    go_wp2_with (refine wpList_load_row_w rfl 27 (.tmp 4) rfl gx rfl 27 _ _ HXB.out Try.underlying27 rfl (by kernel_rfl) ?_)
    refine (impLength_any (x := imp l) ⟨_, rfl, HXO.out.bytes⟩).mono ?_
    rintro e w8 ⟨rfl, hF⟩
    rw [HLEN.out]
    have hcmp : (((l.length - 12 : Nat) : Int) != (l.length : Int) - 12) = false := by rw [bne_eq_false_iff_eq]; omega
    have HF := Lib.hid (HF.out.trans hF)
    have HB := Lib.hid (Sl.keep HB.out hF)
    have HM := Lib.hid (Sl.keep HM.out hF)
    have HXO := Lib.hid (HXO.out.keep hF)
    have HXB := Lib.hid (HXB.out.keep hF)
    have HR := Lib.hid (HR.out.keep hF)
    have HRB := Lib.hid (HRB.out.keep hF)
    clear hF
    have z8 := HXB.out.cell 8
    simp only [bc, List.getElem?_toArray, List.getElem?_cons_succ, List.getElem?_cons_zero] at z8
    go_upto_region 11 with (fail)
    clear z8
    have HXO' : Hid (∃ l2, OwnB w8 w2.heap.size (.slice a3 (imp l).body.length c3) l2 ∧ l2.length = (imp l).body.length) := Lib.hid ⟨_, HXO.out, rfl⟩
    go_loopw [50] (fun iv wr => ∃ (j : Nat) (l2 : List UInt8), j ≤ (imp l).body.length ∧ iv = .int .i64 j ∧ OwnB wr w2.heap.size (.slice a3 (imp l).body.length c3) l2 ∧ l2.length = (imp l).body.length ∧ Box wr gx 27 (bc (imp l) (.slice a3 (imp l).body.length c3)) ∧ Bytes wr (.slice am l.length cm) l ∧ Bytes wr (.slice av l.length cv) l ∧ Fr [] w wr) (fun iv _ => (imp l).body.length - (intOf iv).toNat)
    case atStart =>
      obtain ⟨l2, h1, h2⟩ := HXO'.out
      exact ⟨0, l2, Nat.zero_le _, rfl, h1, h2, HXB.out, HM.out, HB.out, HF.out⟩
    case round =>
      clear HXO HXB HM HB HF HR HRB HXO'
      obtain ⟨j, l2, hj, rfl, hO, hl2, hXB, hM, hB, hF⟩ := hrel
      have HO := Lib.hid hO; have HXB := Lib.hid hXB; have HM := Lib.hid hM; have HB := Lib.hid hB; have HF := Lib.hid hF; have HL2 := Lib.hid hl2
      have z8 := hXB.cell 8
      simp only [bc, List.getElem?_toArray, List.getElem?_cons_succ, List.getElem?_cons_zero] at z8
      clear hO hXB hM hB hF
      have hbl40 : (imp l).body.length ≤ 2000 := by have := HXLN.out; omega
      by_cases hjl : j < (imp l).body.length
      · obtain ⟨g, cap, ev, hbg, hgl, hlc, hcell, hfree, hset⟩ := HO.out.live (by omega)
        rw [hl2] at ev hlc
        simp only [Value.slice.injEq, true_and] at ev
        obtain ⟨rfl, rfl⟩ := ev
        have hj2 : j < l2.length := by omega
        have d1 := hcell j hj2
        have d2 := hfree j
        obtain ⟨hN, hFn⟩ := hset j (l2[j] + 1) hj2
        have hw8 : IntKind.u8.wrap (((l2[j]).toNat : Int) + 1) = ((l2[j] + 1).toNat : Int) := by rw [IntKind.wrap_u8, UInt8.toNat_add]; simp
        have HG : Hid (w2.heap.size ≤ g ∧ g < gx) := Lib.hid (HXL.out g rfl)
        unfold B8 at d1
        obtain ⟨w5', e5⟩ : ∃ w5', wr.setCell ⟨g, j, none⟩ (B8 (l2[j] + 1)) = w5' := ⟨_, rfl⟩
        rw [e5] at hN hFn
        have HN := Lib.hid hN; have HFN := Lib.hid hFn
        unfold B8 at e5
        clear hcell hfree hset hN hFn hbg hgl hl2
        have hclt := (l2[j]).toNat_lt
        generalize (l2[j] + 1).toNat = cx at *
        generalize (l2[j]).toNat = c1 at *
        go_wp2_with fail
        have K1 := Lib.hid (HXB.out.fr HFN.out (by have := HG.out; simp; omega))
        have K2 : Hid (Bytes w5' (.slice am l.length cm) l) := Lib.hid (Sl.frL HM.out HFN.out (fun k hk hm => by have h1 := HL.out k hk; have := HG.out; simp at hm; omega))
        have K3 : Hid (Bytes w5' (.slice av l.length cv) l) := Lib.hid (Sl.frL HB.out HFN.out (fun k hk hm => by have h1 := HLB.out k hk; have := HG.out; simp at hm; omega))
        have K4 : Hid (Fr [] w w5') := Lib.hid (HF.out.step HFN.out (fun x hx => .inr (by simp at hx; have := HG.out; have := HW2.out; omega)))
        go_roundw
        case rel => exact ⟨j + 1, _, by omega, by go_num, HN.out, by rw [List.length_set]; exact HL2.out, K1.out, K2.out, K3.out, K4.out⟩
        case measure => simp [intOf]; omega
      · obtain rfl : j = (imp l).body.length := by omega
        go_wp2_with fail
        refine (RSame_any HM.out HB.out (by omega) (by omega)).mono ?_
        rintro e wz ⟨rfl, hF⟩
        have HF := Lib.hid (HF.out.trans hF)
        clear hF
        go_wp2_with fail
        go_ret
        first | exact ⟨rfl, HF.out⟩ | exact ⟨ret_bool (by simp), HF.out⟩
  · have HP := Lib.hid hp
    have hk : (k != 0) = true := by simpa using parseR_err hp
    have hk2 : (k == 0) = false := by simpa using parseR_err hp
    have HXO : Hid (OwnB w3 w2.heap.size (.slice none 0 0) Bt.zero.body) := Lib.hid (World.ownsRow_nil _ _ _ _)
    clear hp
    have HF := Lib.hid (HF.out.trans hF)
    have HB := Lib.hid (Sl.keep HB.out hF)
    have HM := Lib.hid (Sl.keep HM.out hF)
    clear hF
    have HXO3 := HXO
    have HS3 : Hid (w2.heap.size ≤ w3.heap.size) := Lib.hid HSZ0.out
    go_upto_region 7 with (refine wpList_store_row rfl 27 (.tmp 4) (.tmp 19) rfl w3.heap.size rfl _ _ rfl 27 (Box.new w3 27 (bc Bt.zero (.slice none 0 0))) (by kernel_rfl) rfl (by simp [bc, Value.oneCell']) ?_; intro w4 hY hG; have hFn := ((Fr.refl [] w3).alloc _).step hG (by simp); have HFn := Lib.hid hFn; have HY := Lib.hid hY; clear hG hFn hY)
    have hF := HFn.out
    have HF := Lib.hid (HF.out.trans hF)
    have HB := Lib.hid (Sl.keep HB.out hF)
    have HM := Lib.hid (Sl.keep HM.out hF)
    have HXO := Lib.hid (HXO.out.keep hF)
    have HXB := HY
    clear hF HFn HY
    have HSX : Hid (w3.heap.size + 1 ≤ w4.heap.size) := Lib.hid HXB.out.lt
    have HXL : Hid (∀ b, blockOf (.slice none 0 0) = some b → w2.heap.size ≤ b ∧ b < w3.heap.size) := Lib.hid (fun b hb => by have h1 := (HXO.out.block b hb).1; have h2 := HXO3.out.block b hb; omega)
    have HW3 : Hid (w2.heap.size ≤ w3.heap.size) := Lib.hid HS3.out
    generalize hgx : w3.heap.size = gx at *
    clear hgx HXO3
    go_wp2_with fail
    refine (r12Of_any HB.out).mono ?_
    rintro e w5 (⟨v5, p2, hp, -, -, -⟩ | ⟨v5, k2, hp, rfl, hR, hF⟩)
    · rw [HP.out] at hp; cases hp
    rw [HP.out] at hp
    cases hp
    obtain ⟨a5, c5, a6, c6, rfl, -, -⟩ := hR.open_
    have HR := Lib.hid hR
    clear hR
    have HF := Lib.hid (HF.out.trans hF)
    have HB := Lib.hid (Sl.keep HB.out hF)
    have HM := Lib.hid (Sl.keep HM.out hF)
    have HXO := Lib.hid (HXO.out.keep hF)
    have HXB := Lib.hid (HXB.out.keep hF)
    clear hF
    go_upto_region 8 with (refine wpList_store_row rfl 32 (.tmp 6) (.tmp 24) rfl w5.heap.size rfl _ _ rfl 32 (Box.new w5 32 #[.slice none 0 0, .slice none 0 0]) (by kernel_rfl) rfl (by simp [Value.oneCell']) ?_; intro w6 hY hG; have hFn := ((Fr.refl [] w5).alloc _).step hG (by simp); have HFn := Lib.hid hFn; have HY := Lib.hid hY; clear hG hFn hY)
    have hF := HFn.out
    have HF := Lib.hid (HF.out.trans hF)
    have HB := Lib.hid (Sl.keep HB.out hF)
    have HM := Lib.hid (Sl.keep HM.out hF)
    have HXO := Lib.hid (HXO.out.keep hF)
    have HXB := Lib.hid (HXB.out.keep hF)
    have HR := Lib.hid (HR.out.keep hF)
    have HRB := HY
    clear hF HFn HY
    generalize hgr : w5.heap.size = gr at *
    clear hgr
    go_wp2_with (first | (refine wpList_load_row_w rfl 27 (.tmp 4) rfl gx rfl 27 _ _ HXB.out Try.underlying27 rfl (by kernel_rfl) ?_) | (refine wpList_load_row_w rfl 32 (.tmp 6) rfl gr rfl 32 _ _ HRB.out Try.underlying32 rfl (by kernel_rfl) ?_))
    refine (l12like_any (x := Bt.zero) (h := (List.replicate 8 0)) (b := ([] : List UInt8)) ⟨_, rfl, HXO.out.bytes⟩ HR.out (by simp [Bt.head]) (by simp) (by simp [Bt.zero])).mono ?_
    rintro e w7 ⟨rfl, hF⟩
    rw [show (Bt.zero.head == List.replicate 8 0 && Bt.zero.body == []) = true from rfl]
    have HF := Lib.hid (HF.out.trans hF)
    have HB := Lib.hid (Sl.keep HB.out hF)
    have HM := Lib.hid (Sl.keep HM.out hF)
    have HXO := Lib.hid (HXO.out.keep hF)
    have HXB := Lib.hid (HXB.out.keep hF)
    have HR := Lib.hid (HR.out.keep hF)
    have HRB := Lib.hid (HRB.out.keep hF)
    clear hF
    have z8 := HXB.out.cell 8
    simp only [bc, List.getElem?_toArray, List.getElem?_cons_succ, List.getElem?_cons_zero] at z8
    go_upto_region 11 with (fail)
    clear z8
    have HXO' : Hid (∃ l2, OwnB w7 w2.heap.size (.slice none 0 0) l2 ∧ l2.length = 0) := Lib.hid ⟨_, HXO.out, rfl⟩
    go_loopw [50] (fun iv wr => ∃ (j : Nat) (l2 : List UInt8), j ≤ 0 ∧ iv = .int .i64 j ∧ OwnB wr w2.heap.size (.slice none 0 0) l2 ∧ l2.length = 0 ∧ Box wr gx 27 (bc Bt.zero (.slice none 0 0)) ∧ Bytes wr (.slice am l.length cm) l ∧ Bytes wr (.slice av l.length cv) l ∧ Fr [] w wr) (fun iv _ => 0 - (intOf iv).toNat)
    case atStart =>
      obtain ⟨l2, h1, h2⟩ := HXO'.out
      exact ⟨0, l2, Nat.zero_le _, rfl, h1, h2, HXB.out, HM.out, HB.out, HF.out⟩
    case round =>
      clear HXO HXB HM HB HF HR HRB HXO'
      obtain ⟨j, l2, hj, rfl, hO, hl2, hXB, hM, hB, hF⟩ := hrel
      have HO := Lib.hid hO; have HXB := Lib.hid hXB; have HM := Lib.hid hM; have HB := Lib.hid hB; have HF := Lib.hid hF; have HL2 := Lib.hid hl2
      have z8 := hXB.cell 8
      simp only [bc, List.getElem?_toArray, List.getElem?_cons_succ, List.getElem?_cons_zero] at z8
      clear hO hXB hM hB hF
      · obtain rfl : j = 0 := by omega
        go_wp2_with fail
        refine (RSame_any HM.out HB.out (by omega) (by omega)).mono ?_
        rintro e wz ⟨rfl, hF⟩
        have HF := Lib.hid (HF.out.trans hF)
        clear hF
        go_wp2_with fail
        go_ret
        first | exact ⟨rfl, HF.out⟩ | exact ⟨ret_bool (by simp), HF.out⟩
end Go.Proofs.Yticoongkfhkjgaa
