/- The walks of package rtp that write. -/
import Derived.Test.YticoongkfhkjgaaPart
import Derived.Test.YticoongkfhkjgaaWrite
namespace Go.Proofs.Yticoongkfhkjgaa
open Go.RowKit

/-- The lists of a packet are no longer than a machine can hold. -/
def Pkt.Small (p : Pkt) : Prop := p.csrc.length ≤ 1099511627776 ∧ p.ext.length ≤ 1099511627776 ∧ p.payload.length ≤ 1099511627776 ∧ p.pad.length ≤ 1099511627776
def Pkt.size (p : Pkt) : Nat := 12 + 4 * p.csrc.length + p.payload.length + p.pad.length + if p.hasExt then 4 + p.ext.length else 0
def Pkt.extOk (p : Pkt) : Bool := if p.hasExt then p.ext.length % 4 == 0 && decide (p.ext.length ≤ 262140) else p.profile == 0 && p.ext.length == 0
def padOk (l : List UInt8) : Bool := l.length == 0 || (decide (l.length ≤ 255) && padN l == l.length)
def Pkt.wrong (p : Pkt) : Int :=
  if p.pt < 0 ∨ 128 ≤ p.pt ∨ p.extOk = false ∨ padOk p.pad = false then 1 else if 15 < p.csrc.length then 3 else if 1500 < p.size then 2 else 0
def Pkt.first (p : Pkt) : Nat := 128 + p.csrc.length + (if 0 < p.pad.length then 32 else 0) + if p.hasExt then 16 else 0

theorem PktV.open_ {w : World} {base : Nat} {v : Value} {p : Pkt} (h : PktV w base v p) :
    ∃ a1 c1 a2 c2 a3 c3 a4 c4, v = .agg (pc p.marker p.pt p.seq.toNat p.ts.toNat p.ssrc.toNat (.slice a1 p.csrc.length c1) p.hasExt p.profile.toNat (.slice a2 p.ext.length c2) (.slice a3 p.payload.length c3) (.slice a4 p.pad.length c4)) ∧
      Words w (.slice a1 p.csrc.length c1) p.csrc ∧ Bytes w (.slice a2 p.ext.length c2) p.ext ∧ Bytes w (.slice a3 p.payload.length c3) p.payload ∧ Bytes w (.slice a4 p.pad.length c4) p.pad := by
  obtain ⟨cs, ex, pl, pd, rfl, h1, h2, h3, h4, h5⟩ := h
  obtain ⟨a1, c1, rfl⟩ := h1.shape
  obtain ⟨a2, c2, rfl⟩ := h2.shape
  obtain ⟨a3, c3, rfl⟩ := h3.shape
  obtain ⟨a4, c4, rfl⟩ := h4.shape
  simp only [List.length_map] at *
  exact ⟨a1, c1, a2, c2, a3, c3, a4, c4, rfl, h1, h2, h3, h4⟩

theorem ret_bool {a b : Bool} (h : a = b) : Ending.returned (.bool a) = .returned (.bool b) := by rw [h]
theorem int_nat_beq0 (n : Nat) : (((n : Nat) : Int) == 0) = (n == 0) := by
  rw [Bool.eq_iff_iff]; simp

theorem Box.pcells {w : World} {g : Nat} {t : TypeId} {m : Bool} {pt : Int} {sq ts ss : Nat} {cs : Value} {he : Bool} {pf : Nat} {ex pl pd : Value} (h : Box w g t (pc m pt sq ts ss cs he pf ex pl pd)) :
    w.cell? ⟨g, 0, none⟩ = some (.bool m) ∧ w.cell? ⟨g, 1, none⟩ = some (.int .i64 pt) ∧ w.cell? ⟨g, 2, none⟩ = some (.int .u16 sq) ∧ w.cell? ⟨g, 3, none⟩ = some (.int .u32 ts) ∧ w.cell? ⟨g, 4, none⟩ = some (.int .u32 ss) ∧ w.cell? ⟨g, 5, none⟩ = some cs ∧ w.cell? ⟨g, 6, none⟩ = some (.bool he) ∧ w.cell? ⟨g, 7, none⟩ = some (.int .u16 pf) ∧ w.cell? ⟨g, 8, none⟩ = some ex ∧ w.cell? ⟨g, 9, none⟩ = some pl ∧ w.cell? ⟨g, 10, none⟩ = some pd :=
  ⟨h.cell 0, h.cell 1, h.cell 2, h.cell 3, h.cell 4, h.cell 5, h.cell 6, h.cell 7, h.cell 8, h.cell 9, h.cell 10⟩

set_option maxHeartbeats 400000 in
theorem size_any {w : World} {base : Nat} {v : Value} {p : Pkt} (hV : PktV w base v p) (hS : p.Small) :
    Calls Try.prog 41 #[v] w fun e w' => e = .returned (.int .i64 p.size) ∧ Fr [] w w' := by
  obtain ⟨a1, c1, a2, c2, a3, c3, a4, c4, rfl, -, -, -, -⟩ := hV.open_
  obtain ⟨h1, h2, h3, h4⟩ := hS
  unfold pc Pkt.size
  have hF := Lib.hid ((Fr.refl [] w).alloc (.cells (pc p.marker p.pt p.seq.toNat p.ts.toNat p.ssrc.toNat (.slice a1 p.csrc.length c1) p.hasExt p.profile.toNat (.slice a2 p.ext.length c2) (.slice a3 p.payload.length c3) (.slice a4 p.pad.length c4)) 67))
  clear hV
  generalize p.csrc.length = n1 at *
  generalize p.ext.length = n2 at *
  generalize p.payload.length = n3 at *
  generalize p.pad.length = n4 at *
  cases hx : p.hasExt
  all_goals
    rw [hx] at hF
    clear hx
    go_enter Try.func41, Try.ntmps41
    go_wp2
    go_ret
    refine ⟨ret_int ?_, hF.out⟩
    simp
    try omega

set_option maxHeartbeats 400000 in
theorem extended_any {w : World} {base : Nat} {v : Value} {p : Pkt} (hV : PktV w base v p) (hS : p.Small) :
    Calls Try.prog 100 #[v] w fun e w' => e = .returned (.bool p.extOk) ∧ Fr [] w w' := by
  obtain ⟨a1, c1, a2, c2, a3, c3, a4, c4, rfl, -, -, -, -⟩ := hV.open_
  obtain ⟨-, h2, -, -⟩ := hS
  unfold pc Pkt.extOk
  have hF := Lib.hid ((Fr.refl [] w).alloc (.cells (pc p.marker p.pt p.seq.toNat p.ts.toNat p.ssrc.toNat (.slice a1 p.csrc.length c1) p.hasExt p.profile.toNat (.slice a2 p.ext.length c2) (.slice a3 p.payload.length c3) (.slice a4 p.pad.length c4)) 67))
  clear hV
  have hz : (((p.profile.toNat : Nat) : Int) == 0) = (p.profile == 0) := by
    rw [Bool.eq_iff_iff]
    simp [← UInt16.toNat_inj]
  generalize p.ext.length = n2 at *
  cases hx : p.hasExt
  · rw [hx] at hF
    clear hx
    by_cases h0 : p.profile = 0
    · have t0 : (((p.profile.toNat : Nat) : Int) == 0) = true := by rw [hz]; simp [h0]
      have t1 : (p.profile == 0) = true := by simp [h0]
      rw [t1]
      clear h0 hz t1
      go_enter Try.func100, Try.ntmps100
      go_wp2
      go_ret
      exact ⟨ret_bool (by simp [int_nat_beq0]), hF.out⟩
    · have t0 : (((p.profile.toNat : Nat) : Int) == 0) = false := by rw [hz]; simp [h0]
      have t1 : (p.profile == 0) = false := by simp [h0]
      rw [t1]
      clear h0 hz t1
      go_enter Try.func100, Try.ntmps100
      go_wp2
      go_ret
      exact ⟨by simp, hF.out⟩
  · rw [hx] at hF
    clear hx hz
    by_cases h0 : n2 % 4 = 0
    all_goals
      go_enter Try.func100, Try.ntmps100
      go_wp2
      go_ret
    · exact ⟨ret_bool (by rw [Bool.eq_iff_iff]; simp [h0]; omega), hF.out⟩
    · exact ⟨ret_bool (by simp [h0]), hF.out⟩

/-- A byte at the end. -/
theorem last_cell {w : World} {b o cap : Nat} {l : List UInt8} (hs : Bytes w (.slice (some ⟨b, o, none⟩) l.length cap) l) (hne : 0 < l.length) : w.cell? ⟨b, o + (l.length - 1), none⟩ = some (.int .u8 (padN l)) ∧ padN l ≤ 255 := by
  obtain ⟨b', o', e, hb, hcell⟩ := hs.at_ hne
  simp only [Option.some.injEq, Addr.mk.injEq, and_true] at e
  obtain ⟨rfl, rfl⟩ := e
  have hlast : l[l.length - 1]? = some (l[l.length - 1]'(by omega)) := List.getElem?_eq_getElem _
  have hc := hcell (l.length - 1) (B8 (l[l.length - 1]'(by omega))) (by rw [List.getElem?_map, hlast]; rfl)
  have hp : padN l = (l[l.length - 1]'(by omega)).toNat := by
    unfold padN
    rw [List.getLast?_eq_getElem?, hlast]
    rfl
  unfold B8 at hc
  rw [← hp] at hc
  exact ⟨hc, by rw [hp]; have := (l[l.length - 1]'(by omega)).toNat_lt; omega⟩

set_option maxHeartbeats 400000 in
theorem padded_any {w : World} {v : Value} {l : List UInt8} (hs : Bytes w v l) (hsm : l.length ≤ 1099511627776) :
    Calls Try.prog 101 #[v] w fun e w' => e = .returned (.bool (padOk l)) ∧ w = w' := by
  obtain ⟨a, cap, rfl⟩ := hs.shape
  simp only [List.length_map] at hs ⊢
  unfold padOk
  by_cases h0 : l.length = 0
  · rw [h0]
    have t0 : ((0 : Nat) == 0) = true := rfl
    rw [t0]
    clear t0 h0 hs hsm
    go_enter Try.func101, Try.ntmps101
    go_wp2
    go_ret
    exact ⟨ret_bool (by simp), rfl⟩
  · obtain ⟨b, o, rfl, hb, -⟩ := hs.at_ (show 0 < l.length by omega)
    obtain ⟨hc, hp⟩ := last_cell hs (by omega)
    have t1 : (l.length == 0) = false := beq_eq_false_iff_ne.2 h0
    have t0 : (((l.length : Nat) : Int) == 0) = false := by rw [int_nat_beq0]; exact t1
    rw [t1]
    clear t1 hs
    generalize padN l = q at *
    by_cases h255 : l.length ≤ 255
    all_goals
      go_enter Try.func101, Try.ntmps101
      go_wp2
      go_ret
    · exact ⟨ret_bool (by rw [Bool.eq_iff_iff]; simp [h255]; omega), rfl⟩
    · exact ⟨ret_bool (by simp [h255]), rfl⟩

set_option maxHeartbeats 1000000 in
theorem wrong_any {w : World} {base : Nat} {v : Value} {p : Pkt} (hV : PktV w base v p) (hS : p.Small) :
    Calls Try.prog 79 #[v] w fun e w' => e = .returned (.int .i64 p.wrong) ∧ Fr [] w w' := by
  have HV := Lib.hid hV; have HS := Lib.hid hS
  obtain ⟨a1, c1, a2, c2, a3, c3, a4, c4, rfl, -, -, -, hpd⟩ := hV.open_
  have HPD := Lib.hid hpd
  clear hV hpd hS
  obtain ⟨w2, e2, hF2, hB2, hs2⟩ := one_new w (pc p.marker p.pt p.seq.toNat p.ts.toNat p.ssrc.toNat (.slice a1 p.csrc.length c1) p.hasExt p.profile.toNat (.slice a2 p.ext.length c2) (.slice a3 p.payload.length c3) (.slice a4 p.pad.length c4)) 67
  have HF2 := Lib.hid hF2; have HB2 := Lib.hid hB2
  clear hF2 hB2 hs2
  have HV2 := Lib.hid (HV.out.keep HF2.out)
  have HPD2 := Lib.hid (HPD.out.keep HF2.out)
  have hs : p.csrc.length ≤ 1099511627776 := HS.out.1
  have h4 : p.pad.length ≤ 1099511627776 := HS.out.2.2.2
  have E2 := Lib.hid e2
  clear e2
  have hst : ∀ (P : Prop) [Decidable P], True := fun _ _ => trivial
  clear hst
  go_enter Try.func79, Try.ntmps79
  go_upto_region 1 with (fail)
  rw [E2.out]
  obtain ⟨x0, x1, x2, x3, x4, x5, x6, x7, x8, x9, x10⟩ := HB2.out.pcells
  by_cases hpt0 : p.pt < 0
  · clear hs h4
    have t0 : decide (p.pt < 0) = true := by simpa using hpt0
    go_wp2_with fail
    go_ret
    exact ⟨ret_int (by unfold Pkt.wrong; rw [if_pos (.inl hpt0)]), HF2.out⟩
  by_cases hpt1 : 128 ≤ p.pt
  · clear hs h4
    go_wp2_with fail
    go_ret
    exact ⟨ret_int (by unfold Pkt.wrong; rw [if_pos (.inr (.inl hpt1))]), HF2.out⟩
  have t0 : decide (p.pt < 0) = false := by simpa using hpt0
  have t1 : decide (128 ≤ p.pt) = false := by simpa using hpt1
  go_wp2_with fail
  refine (extended_any HV2.out HS.out).mono ?_
  rintro e w3 ⟨rfl, hF3⟩
  have HB3 := Lib.hid (HB2.out.keep hF3); have HF3 := Lib.hid (HF2.out.trans hF3); have HPD3 := Lib.hid (HPD2.out.keep hF3); have HV3 := Lib.hid (HV2.out.keep hF3)
  clear hF3 x0 x1 x2 x3 x4 x5 x6 x7 x8 x9 x10
  obtain ⟨x0, x1, x2, x3, x4, x5, x6, x7, x8, x9, x10⟩ := HB3.out.pcells
  cases hx : p.extOk
  · have HX := Lib.hid hx
    clear hx
    go_wp2_with fail
    go_ret
    exact ⟨ret_int (by unfold Pkt.wrong; rw [if_pos (.inr (.inr (.inl HX.out)))]), HF3.out⟩
  have HX := Lib.hid hx
  clear hx
  go_wp2_with fail
  refine (padded_any HPD3.out h4).mono ?_
  rintro e w4 ⟨rfl, rfl⟩
  cases hx : padOk p.pad
  · have HX := Lib.hid hx
    clear hx
    go_wp2_with fail
    go_ret
    exact ⟨ret_int (by unfold Pkt.wrong; rw [if_pos (.inr (.inr (.inr HX.out)))]), HF3.out⟩
  have HX2 := Lib.hid hx
  clear hx
  have HE := Lib.hid (show ¬ (p.pt < 0 ∨ 128 ≤ p.pt ∨ p.extOk = false ∨ padOk p.pad = false) by rw [HX.out, HX2.out]; simp; omega)
  by_cases hc : 15 < p.csrc.length
  · go_wp2_with fail
    go_ret
    exact ⟨ret_int (by unfold Pkt.wrong; rw [if_neg HE.out, if_pos hc]), HF3.out⟩
  go_wp2_with fail
  refine (size_any HV3.out HS.out).mono ?_
  rintro e w4 ⟨rfl, hF4⟩
  have HF4 := Lib.hid (HF3.out.trans hF4)
  clear hF4
  by_cases hz : 1500 < p.size
  · go_wp2_with fail
    go_ret
    exact ⟨ret_int (by unfold Pkt.wrong; rw [if_neg HE.out, if_neg hc, if_pos hz]), HF4.out⟩
  · go_wp2_with fail
    go_ret
    exact ⟨ret_int (by unfold Pkt.wrong; rw [if_neg HE.out, if_neg hc, if_neg hz]), HF4.out⟩

theorem or128 (n : Nat) (h : n < 16) : bits .or .i64 128 (n : Int) = ((128 + n : Nat) : Int) := by
  rw [show (128 : Int) = ((128 : Nat) : Int) from rfl, i64_or_nat _ _ (by omega) (by omega)]
  have := Nat.two_pow_add_eq_or_of_lt (i := 7) (b := n) (by omega) 1
  rw [← this]
theorem or_tests : ∀ n < 16, ((128 + n) ||| 32 = 128 + n + 32 ∧ (128 + n) ||| 16 = 128 + n + 16 ∧ (128 + n + 32) ||| 16 = 128 + n + 32 + 16) := by decide +kernel

set_option maxHeartbeats 400000 in
theorem first_any {w : World} {base : Nat} {v : Value} {p : Pkt} (hV : PktV w base v p) (hc : p.csrc.length ≤ 15) (h4 : p.pad.length ≤ 1099511627776) :
    Calls Try.prog 80 #[v] w fun e w' => e = .returned (.int .i64 p.first) ∧ Fr [] w w' := by
  obtain ⟨a1, c1, a2, c2, a3, c3, a4, c4, rfl, -, -, -, -⟩ := hV.open_
  unfold pc Pkt.first
  have hF := Lib.hid ((Fr.refl [] w).alloc (.cells (pc p.marker p.pt p.seq.toNat p.ts.toNat p.ssrc.toNat (.slice a1 p.csrc.length c1) p.hasExt p.profile.toNat (.slice a2 p.ext.length c2) (.slice a3 p.payload.length c3) (.slice a4 p.pad.length c4)) 67))
  clear hV
  generalize p.csrc.length = n1 at *
  generalize p.ext.length = n2 at *
  generalize p.pad.length = n4 at *
  have e1 := or128 n1 (by omega)
  have e2 : bits .or .i64 (((128 + n1 : Nat) : Int)) 32 = ((128 + n1 + 32 : Nat) : Int) := by
    rw [show (32 : Int) = ((32 : Nat) : Int) from rfl, i64_or_nat _ _ (by omega) (by omega), (or_tests n1 (by omega)).1]
  have e3 : bits .or .i64 (((128 + n1 : Nat) : Int)) 16 = ((128 + n1 + 16 : Nat) : Int) := by
    rw [show (16 : Int) = ((16 : Nat) : Int) from rfl, i64_or_nat _ _ (by omega) (by omega), (or_tests n1 (by omega)).2.1]
  have e4 : bits .or .i64 (((128 + n1 + 32 : Nat) : Int)) 16 = ((128 + n1 + 32 + 16 : Nat) : Int) := by
    rw [show (16 : Int) = ((16 : Nat) : Int) from rfl, i64_or_nat _ _ (by omega) (by omega), (or_tests n1 (by omega)).2.2]
  generalize hA : 128 + n1 + 32 + 16 = A at e4 ⊢
  generalize hB : 128 + n1 + 16 = B at e3 ⊢
  generalize hC : 128 + n1 + 32 = C at e2 e4 ⊢
  generalize hD : 128 + n1 = D at e1 e2 e3 ⊢
  have HA := Lib.hid hA; have HB := Lib.hid hB; have HC := Lib.hid hC; have HD := Lib.hid hD
  clear hA hB hC hD
  by_cases h0 : 0 < n4
  all_goals
    cases hx : p.hasExt
    all_goals
      rw [hx] at hF
      clear hx
      go_enter Try.func80, Try.ntmps80
      go_wp2
      go_ret
      refine ⟨ret_int ?_, hF.out⟩
  all_goals
    have a1 := HA.out; have a2 := HB.out; have a3 := HC.out; have a4 := HD.out
    try simp only [h0, if_true, if_false, Bool.false_eq_true, ↓reduceIte]
    try omega
end Go.Proofs.Yticoongkfhkjgaa
