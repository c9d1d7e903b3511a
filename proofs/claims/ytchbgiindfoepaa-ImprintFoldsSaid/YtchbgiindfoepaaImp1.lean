/- The walks of imprint.Length, Same, Empty; confluxref12.Same; confluxlaw12.as, like. -/
import Derived.Test.YtchbgiindfoepaaStripe3
import Derived.Test.YtchbgiindfoepaaJoin
import Derived.Test.YtchbgiindfoepaaR5Parse
namespace Go.Proofs.Ytchbgiindfoepaa
open Go.RowKit

/-- The cells of an imprint; values that read as imprints. -/
def bc (x : Bt) (v : Value) : Array Value := #[.int .u8 x.h0.toNat, .int .u8 x.h1.toNat, .int .u8 x.h2.toNat, .int .u8 x.h3.toNat, .int .u8 x.h4.toNat, .int .u8 x.h5.toNat, .int .u8 x.h6.toNat, .int .u8 x.h7.toNat, v]
def BtV (w : World) (v : Value) (x : Bt) : Prop := ∃ vb, v = .agg (bc x vb) ∧ Bytes w vb x.body
def BtO (w : World) (base : Nat) (v : Value) (x : Bt) : Prop := ∃ vb, v = .agg (bc x vb) ∧ OwnB w base vb x.body
def RBV (w : World) (v : Value) (h b : List UInt8) : Prop := ∃ vh vb, v = .agg #[vh, vb] ∧ Bytes w vh h ∧ Bytes w vb b
theorem BtO.v {w : World} {base : Nat} {v : Value} {x : Bt} (h : BtO w base v x) : BtV w v x := by obtain ⟨vb, e, h⟩ := h; exact ⟨vb, e, h.bytes⟩
theorem BtV.keep {w w' : World} {v : Value} {x : Bt} (h : BtV w v x) (hf : Fr [] w w') : BtV w' v x := by obtain ⟨vb, e, h⟩ := h; exact ⟨vb, e, Sl.keep h hf⟩
theorem BtO.keep {w w' : World} {base : Nat} {v : Value} {x : Bt} (h : BtO w base v x) (hf : Fr [] w w') : BtO w' base v x := by obtain ⟨vb, e, h⟩ := h; exact ⟨vb, e, h.keep hf⟩
theorem BtO.mono {w : World} {base base' : Nat} {v : Value} {x : Bt} (h : BtO w base v x) (hb : base' ≤ base) : BtO w base' v x := by obtain ⟨vb, e, h⟩ := h; exact ⟨vb, e, OwnB.mono h hb⟩
theorem RBV.keep {w w' : World} {v : Value} {h b : List UInt8} (hr : RBV w v h b) (hf : Fr [] w w') : RBV w' v h b := by obtain ⟨vh, vb, e, h1, h2⟩ := hr; exact ⟨vh, vb, e, Sl.keep h1 hf, Sl.keep h2 hf⟩
/-- .. as the walk wants it: the body's slice spelled out. -/
theorem BtV.open_ {w : World} {v : Value} {x : Bt} (h : BtV w v x) : ∃ a c, v = .agg (bc x (.slice a x.body.length c)) ∧ Bytes w (.slice a x.body.length c) x.body := by
  obtain ⟨vb, rfl, hb⟩ := h
  obtain ⟨a, c, rfl⟩ := hb.shape
  simp only [List.length_map] at hb ⊢
  exact ⟨a, c, rfl, hb⟩
theorem RBV.open_ {w : World} {v : Value} {h b : List UInt8} (hr : RBV w v h b) : ∃ a1 c1 a2 c2, v = .agg #[.slice a1 h.length c1, .slice a2 b.length c2] ∧ Bytes w (.slice a1 h.length c1) h ∧ Bytes w (.slice a2 b.length c2) b := by
  obtain ⟨vh, vb, rfl, h1, h2⟩ := hr
  obtain ⟨a, c, rfl⟩ := h1.shape
  obtain ⟨a2, c2, rfl⟩ := h2.shape
  simp only [List.length_map] at h1 h2 ⊢
  exact ⟨a, c, a2, c2, rfl, h1, h2⟩
theorem Box.bcells {w : World} {g : Nat} {t : TypeId} {x : Bt} {v : Value} (h : Box w g t (bc x v)) :
    w.cell? ⟨g, 0, none⟩ = some (.int .u8 x.h0.toNat) ∧ w.cell? ⟨g, 1, none⟩ = some (.int .u8 x.h1.toNat) ∧ w.cell? ⟨g, 2, none⟩ = some (.int .u8 x.h2.toNat) ∧ w.cell? ⟨g, 3, none⟩ = some (.int .u8 x.h3.toNat) ∧
    w.cell? ⟨g, 4, none⟩ = some (.int .u8 x.h4.toNat) ∧ w.cell? ⟨g, 5, none⟩ = some (.int .u8 x.h5.toNat) ∧ w.cell? ⟨g, 6, none⟩ = some (.int .u8 x.h6.toNat) ∧ w.cell? ⟨g, 7, none⟩ = some (.int .u8 x.h7.toNat) ∧ w.cell? ⟨g, 8, none⟩ = some v :=
  ⟨h.cell 0, h.cell 1, h.cell 2, h.cell 3, h.cell 4, h.cell 5, h.cell 6, h.cell 7, h.cell 8⟩
theorem Box.headSl {w : World} {g : Nat} {t : TypeId} {x : Bt} {v : Value} (h : Box w g t (bc x v)) : Bytes w (.slice (some ⟨g, 0, none⟩) 8 8) x.head :=
  box_sl (off := 0) (cap := 8) h (x.head.map B8) (by
    intro i y hy
    have hl : i < 8 := (List.getElem?_eq_some_iff.1 hy).1
    match i, hl with
    | 0, _ | 1, _ | 2, _ | 3, _ | 4, _ | 5, _ | 6, _ | 7, _ => exact hy) (by simp [Bt.head_len]) (by unfold maxLen; omega)
theorem or_shl8 (a b : Nat) (ha : a < 256) (hb : b < 256) : bits .or .i64 ((a : Int) * 256) (b : Int) = ((a * 256 + b : Nat) : Int) := by
  rw [show ((a : Int) * 256) = ((a * 256 : Nat) : Int) by omega, i64_or_nat _ _ (by omega) (by omega)]
  have := Nat.two_pow_add_eq_or_of_lt (i := 8) (b := b) (by omega) a
  rw [show a * 256 = 2 ^ 8 * a by omega, ← this]

set_option maxHeartbeats 1000000 in
theorem impLength_any {w : World} {v : Value} {x : Bt} (h : BtV w v x) : Calls Try.prog 54 #[v] w fun e w' => e = .returned (.int .i64 x.len) ∧ Fr [] w w' := by
  obtain ⟨a, c, rfl, hb⟩ := h.open_
  obtain ⟨w1, e1, hF1, hB1, hs1⟩ := one_new w (bc x (.slice a x.body.length c)) 28
  have HF1 := Lib.hid hF1
  obtain ⟨x0, x1, x2, x3, x4, x5, x6, x7, x8⟩ := hB1.bcells
  have E1 := Lib.hid e1
  have h6 := x.h6.toNat_lt; have h7 := x.h7.toNat_lt
  have ho := or_shl8 x.h6.toNat x.h7.toNat h6 h7
  have HL : Hid (x.h6.toNat * 256 + x.h7.toNat = x.len) := Lib.hid rfl
  clear hb hF1 hB1 hs1 e1 h
  go_enter Try.func54, Try.ntmps54
  go_upto_region 1 with (fail)
  rw [E1.out]
  clear E1
  generalize x.h6.toNat = b6 at *
  generalize x.h7.toNat = b7 at *
  go_wp2_with fail
  go_ret
  refine ⟨ret_int ?_, HF1.out⟩
  rw [← HL.out]
  go_num

theorem eq_arr8 (a0 a1 a2 a3 a4 a5 a6 a7 b0 b1 b2 b3 b4 b5 b6 b7 : Int) (w : World) : (Op.equalIn 10000 26 (.agg #[.int .u8 a0, .int .u8 a1, .int .u8 a2, .int .u8 a3, .int .u8 a4, .int .u8 a5, .int .u8 a6, .int .u8 a7]) (.agg #[.int .u8 b0, .int .u8 b1, .int .u8 b2, .int .u8 b3, .int .u8 b4, .int .u8 b5, .int .u8 b6, .int .u8 b7])).run Try.prog w = .ok (a0 == b0 && a1 == b1 && a2 == b2 && a3 == b3 && a4 == b4 && a5 == b5 && a6 == b6 && a7 == b7) w := by
  have q1 := Try.underlying5
  have q2 := Try.isAgg5
  have q3 := Try.sizeOf5
  rw [show (10000 : Nat) = 9999 + 1 from rfl, Op.equalIn]
  simp only [Sem.run_bind, run_underlying Try.underlying26, Result.andThen_ok]
  simp only [Std.Legacy.Range.forIn_eq_forIn_range', Std.Legacy.Range.size, Nat.sub_zero, Nat.add_sub_cancel, Nat.div_one, List.range'_succ, List.range'_zero, List.forIn_cons, List.forIn_nil]
  go_simp
  by_cases h0 : ¬ a0 = b0
  · simp [h0]
  have h0 := Decidable.not_not.1 h0; subst h0
  by_cases h1 : ¬ a1 = b1
  · simp [h1]
  have h1 := Decidable.not_not.1 h1; subst h1
  by_cases h2 : ¬ a2 = b2
  · simp [h2]
  have h2 := Decidable.not_not.1 h2; subst h2
  by_cases h3 : ¬ a3 = b3
  · simp [h3]
  have h3 := Decidable.not_not.1 h3; subst h3
  by_cases h4 : ¬ a4 = b4
  · simp [h4]
  have h4 := Decidable.not_not.1 h4; subst h4
  by_cases h5 : ¬ a5 = b5
  · simp [h5]
  have h5 := Decidable.not_not.1 h5; subst h5
  by_cases h6 : ¬ a6 = b6
  · simp [h6]
  have h6 := Decidable.not_not.1 h6; subst h6
  by_cases h7 : ¬ a7 = b7
  · simp [h7]
  have h7 := Decidable.not_not.1 h7; subst h7
  simp

theorem head_conj (x y : Bt) : (((x.h0.toNat : Nat) : Int) == ((y.h0.toNat : Nat) : Int) && ((x.h1.toNat : Nat) : Int) == ((y.h1.toNat : Nat) : Int) && ((x.h2.toNat : Nat) : Int) == ((y.h2.toNat : Nat) : Int) && ((x.h3.toNat : Nat) : Int) == ((y.h3.toNat : Nat) : Int) && ((x.h4.toNat : Nat) : Int) == ((y.h4.toNat : Nat) : Int) && ((x.h5.toNat : Nat) : Int) == ((y.h5.toNat : Nat) : Int) && ((x.h6.toNat : Nat) : Int) == ((y.h6.toNat : Nat) : Int) && ((x.h7.toNat : Nat) : Int) == ((y.h7.toNat : Nat) : Int)) = (x.head == y.head) := by
  rw [Bool.eq_iff_iff]
  simp [Bt.head, UInt8.toNat_inj, Int.natCast_inj, and_assoc]
set_option maxRecDepth 100000 in
set_option maxHeartbeats 2000000 in
theorem impSame_any {w : World} {v1 v2 : Value} {x y : Bt} (h1 : BtV w v1 x) (h2 : BtV w v2 y) (hl1 : x.body.length ≤ 1099511627776) (hl2 : y.body.length ≤ 1099511627776) :
    Calls Try.prog 24 #[v1, v2] w fun e w' => e = .returned (.bool (x.same y)) ∧ Fr [] w w' := by
  obtain ⟨a, c, rfl, hb⟩ := h1.open_
  obtain ⟨a2, c2, rfl, hb2⟩ := h2.open_
  obtain ⟨w1, e1, hF1, hB1, hB2, hs1⟩ := two_new w (bc x (.slice a x.body.length c)) 28 (bc y (.slice a2 y.body.length c2)) 28
  have HF1 := Lib.hid hF1; have HB := Lib.hid (hb.keep hF1); have HB2 := Lib.hid (hb2.keep hF1)
  have E1 := Lib.hid e1
  obtain ⟨x0, x1, x2, x3, x4, x5, x6, x7, x8⟩ := hB1.bcells
  obtain ⟨y0, y1, y2, y3, y4, y5, y6, y7, y8⟩ := hB2.bcells
  clear hb hF1 hB1 hs1 e1 h1 h2 hb2 hB2
  go_enter Try.func24, Try.ntmps24
  go_upto_region 1 with (fail)
  rw [E1.out]
  clear E1
  have heq := eq_arr8 x.h0.toNat x.h1.toNat x.h2.toNat x.h3.toNat x.h4.toNat x.h5.toNat x.h6.toNat x.h7.toNat y.h0.toNat y.h1.toNat y.h2.toNat y.h3.toNat y.h4.toNat y.h5.toNat y.h6.toNat y.h7.toNat
  rw [head_conj] at heq
  have HSM : Hid (x.same y = (x.head == y.head && gap0 x.body y.body)) := Lib.hid rfl
  cases hh : (x.head == y.head) with
  | false =>
    rw [hh] at heq HSM
    clear hh
    go_wp2_with fail
    go_ret
    exact ⟨by rw [HSM.out]; rfl, HF1.out⟩
  | true =>
    rw [hh] at heq HSM
    clear hh
    go_wp2_with fail
    refine (Gap_any HB.out HB2.out hl1 hl2).mono ?_
    rintro e w2 ⟨n, rfl, hn, hF⟩
    have HN := Lib.hid hn; have HF := Lib.hid (HF1.out.trans hF)
    clear hn hF heq x0 x1 x2 x3 x4 x5 x6 x7 x8 y0 y1 y2 y3 y4 y5 y6 y7 y8
    go_wp2_with fail
    go_ret
    exact ⟨by rw [HSM.out, ← HN.out]; rfl, HF.out⟩
end Go.Proofs.Ytchbgiindfoepaa
