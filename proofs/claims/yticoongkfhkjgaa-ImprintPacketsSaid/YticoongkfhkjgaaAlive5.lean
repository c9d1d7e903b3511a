/- The walk of confluxlaw05.alive. -/
import Derived.Test.YticoongkfhkjgaaRef1
import Derived.Test.YticoongkfhkjgaaClone
import Derived.Test.YticoongkfhkjgaaRtpField
import Derived.Lib.SlBytesConst
namespace Go.Proofs.Yticoongkfhkjgaa
open Go.RowKit

def bL : List UInt8 := [128, 96, 0, 1, 0, 0, 0, 2, 0, 0, 0, 3, 65]
def p0 : Pkt := { marker := false, pt := 96, seq := 1, ts := 2, ssrc := 3, csrc := [], hasExt := false, profile := 0, ext := [], payload := [65], pad := [] }
def pE : Pkt := { marker := false, pt := 128, seq := 0, ts := 0, ssrc := 0, csrc := [], hasExt := false, profile := 0, ext := [], payload := [], pad := [] }
theorem parse_bL : parseR bL = .ok p0 := by unfold parseR parseP; rfl
theorem parse_64 : parseR [64] = .error 21 := by unfold parseR parseP; rfl
theorem parse_128 : parseR [128] = .error 20 := by unfold parseR parseP; rfl
theorem parse_nil : parseR [] = .error 20 := by unfold parseR parseP; rfl
theorem bytes_p0 : p0.bytes = bL := by decide +kernel
theorem wrong_p0 : p0.wrong = 0 := by decide +kernel
theorem wrong_pE : pE.wrong = 1 := by decide +kernel
theorem small_p0 : p0.Small := by unfold Pkt.Small p0; simp
theorem small_pE : pE.Small := by unfold Pkt.Small pE; simp

theorem Sl_nil_fr {w w' : World} {v : Value} (h : Sl w v []) (hs : w.heap.size ≤ w'.heap.size) : Sl w' v [] := by
  obtain ⟨a, cap, rfl, h1, h2, h3, h4⟩ := h
  exact ⟨a, cap, rfl, h1, h2, h3, fun p hp hc => ⟨(h4 p hp hc).1, Nat.lt_of_lt_of_le (h4 p hp hc).2.1 hs, fun i x hx => by simp at hx⟩⟩
/-- A whole new block of bytes. -/
theorem Sl_block {w : World} {g n : Nat} {t : TypeId} {c : Array Value} (h : Box w g t c) (hn : c.size = n) (hm : n ≤ maxLen) : Sl w (.slice (some ⟨g, 0, none⟩) n n) c.toList := by
  subst hn
  refine ⟨some ⟨g, 0, none⟩, c.size, by simp, by simp, hm, by simp, fun p hp _ => ?_⟩
  cases hp
  refine ⟨rfl, h.lt, fun i x hx => ?_⟩
  have := h.cell i
  simp only [Nat.zero_add]
  rw [this]
  simpa using hx

theorem PktV_p0 {w : World} {base : Nat} {v : Value} (h : PktV w base v p0) : ∃ a1 c1 a2 c2 a3 c3 a4 c4, v = .agg (pc false 96 1 2 3 (.slice a1 0 c1) false 0 (.slice a2 0 c2) (.slice a3 1 c3) (.slice a4 0 c4)) ∧ Bytes w (.slice a3 1 c3) [65] := by
  obtain ⟨a1, c1, a2, c2, a3, c3, a4, c4, rfl, hcs, hex, hpl, hpd⟩ := h.open_
  exact ⟨a1, c1, a2, c2, a3, c3, a4, c4, rfl, hpl⟩
/-- A zero packet's cells. -/
def pzc : Array Value := #[.bool false, .int .i64 0, .int .u16 0, .int .u32 0, .int .u32 0, .slice none 0 0, .bool false, .int .u16 0, .slice none 0 0, .slice none 0 0, .slice none 0 0]
/-- The literal's cells. -/
def bC : Array Value := #[.int .u8 128, .int .u8 96, .int .u8 0, .int .u8 1, .int .u8 0, .int .u8 0, .int .u8 0, .int .u8 2, .int .u8 0, .int .u8 0, .int .u8 0, .int .u8 3, .int .u8 65]
theorem const_block (w : World) (c : Array Value) (t : TypeId) (fr : Nat × Nat) (n : Nat) (hn : c.size = n) (hm : n ≤ maxLen) :
    ∃ w1, w.alloc (.cells c t fr) = w1 ∧ Fr [] w w1 ∧ Sl w1 (.slice (some ⟨w.heap.size, 0, none⟩) n n) c.toList := by
  subst hn
  refine ⟨_, rfl, (Fr.refl [] w).alloc _, some ⟨w.heap.size, 0, none⟩, c.size, by simp, by simp, hm, by simp, fun p hp _ => ?_⟩
  cases hp
  refine ⟨rfl, by simp, fun i x hx => ?_⟩
  simp only [Nat.zero_add]
  rw [World.cell?_alloc_mark]
  simpa using hx

theorem own_one {w : World} {base : Nat} {v : Value} {x : UInt8} (h : OwnB w base v [x]) : ∃ g cap cur, v = .slice (some ⟨g, 0, none⟩) 1 cap ∧ base ≤ g ∧ Box w g 5 cur ∧ cur[0]? = some (.int .u8 (x.toNat : Nat)) ∧ 1 ≤ cap ∧ cap ≤ maxLen ∧ cur.size = cap := by
  rcases h.2 with ⟨_, h0⟩ | ⟨g, cap, cur, rfl, hb, hg, h1, h2, h3, h4⟩
  · simp at h0
  · refine ⟨g, cap, cur, rfl, hb, hg, ?_, h1, h2, by simpa using h3⟩
    have h5 : (cur.toList.take (1 * 1))[0]? = ([x].map B8)[0]? := by simp only [List.length_singleton] at h4; rw [h4]
    rw [List.getElem?_take_of_lt (by omega)] at h5
    simpa [B8] using h5
def q0 : Pkt := { p0 with payload := [66] }
theorem small_q0 : q0.Small := by unfold Pkt.Small q0 p0; simp
theorem ne_pq : decide (p0 = q0) = false := by decide +kernel
theorem eq_pp : decide (p0 = p0) = true := by decide +kernel
theorem size_p0 : p0.size = 13 := by rfl
theorem rtcp_1 : rtcpB [128, 200] = true := by decide +kernel
theorem rtcp_b : rtcpB bL = false := by decide +kernel

set_option maxRecDepth 100000 in
set_option maxHeartbeats 4000000 in
theorem alive5_any {w : World} :
    Calls Try.prog 36 #[] w fun e w' => e = .returned (.bool true) ∧ Fr [] w w' := by
  have kc := Lib.run_convert_bytes_const (P := Try.prog) w 22 5 bC 13 13 Try.underlying22 Try.underlying5
  obtain ⟨w1, e1, hF1, hB1⟩ := const_block w bC 5 (bC.size, bC.size + 1) 13 rfl (by unfold maxLen; omega)
  have HF1 := Lib.hid hF1
  have HB : Hid (Bytes w1 (.slice (some ⟨w.heap.size, 0, none⟩) 13 13) bL) := Lib.hid hB1
  rw [e1] at kc
  clear e1 hF1 hB1
  unfold bC at kc
  go_enter Try.func36, Try.ntmps36
  go_wp2_with fail
  clear kc
  generalize hG0 : w.heap.size = g0 at *
  clear hG0
  refine (Parse_any HB.out).mono ?_
  rintro e w2 (⟨vp, p, hp, rfl, hV, hF⟩ | ⟨k, hp, rfl, hF⟩)
  rotate_left
  · rw [parse_bL] at hp; cases hp
  rw [parse_bL] at hp
  cases hp
  obtain ⟨a1, c1, a2, c2, a3, c3, a4, c4, rfl, hpl⟩ := PktV_p0 hV
  have HV := Lib.hid hV; have HPL := Lib.hid hpl
  have HF1 := Lib.hid (HF1.out.trans hF)
  have HB := Lib.hid (Sl.keep HB.out hF)
  clear hV hpl hF
  go_wp2_with (first | (refine wpList_store_row rfl 67 (.tmp 2) (.tmp 26) rfl w2.heap.size rfl _ _ rfl 67 (Box.new w2 67 #[.bool false, .int .i64 0, .int .u16 0, .int .u32 0, .int .u32 0, .slice none 0 0, .bool false, .int .u16 0, .slice none 0 0, .slice none 0 0, .slice none 0 0]) (by kernel_rfl) rfl (oneCell_pc _ _ _ _ _ _ _ _ _ _ _ ⟨_, _, _, rfl⟩ ⟨_, _, _, rfl⟩ ⟨_, _, _, rfl⟩ ⟨_, _, _, rfl⟩) ?_; intro w3 hY hG) | (refine wpList_load_row rfl 67 (.tmp 2) rfl w2.heap.size rfl 67 _ _ _ hY Try.underlying67 rfl (by kernel_rfl) ?_))
  have hF := ((Fr.refl [] w2).alloc (.cells #[.bool false, .int .i64 0, .int .u16 0, .int .u32 0, .int .u32 0, .slice none 0 0, .bool false, .int .u16 0, .slice none 0 0, .slice none 0 0, .slice none 0 0] 67)).step hG (by simp)
  have HF1 := Lib.hid (HF1.out.trans hF)
  have HB := Lib.hid (Sl.keep HB.out hF)
  have HV := Lib.hid (HV.out.keep hF)
  have HPL := Lib.hid (Sl.keep HPL.out hF)
  have HP := Lib.hid hY
  clear hF hY hG
  generalize hG2 : w2.heap.size = gp at *
  clear hG2
  refine (Write_ok HV.out small_p0 wrong_p0).mono ?_
  rintro e w4 ⟨v4, rfl, hO, hF⟩
  have h4 := hO.bytes
  rw [bytes_p0] at h4
  obtain ⟨x4, d4, hv4⟩ := h4.shape
  have hv5 : v4 = .slice x4 13 d4 := hv4
  clear hv4
  subst hv5
  have HW := Lib.hid h4
  have HF1 := Lib.hid (HF1.out.trans hF)
  have HB := Lib.hid (Sl.keep HB.out hF)
  have HV := Lib.hid (HV.out.keep hF)
  have HPL := Lib.hid (Sl.keep HPL.out hF)
  have HP := Lib.hid (HP.out.keep hF)
  clear hO hF h4
  obtain ⟨w5, e5, hF, hB5, -⟩ := one_new w4 #[.int .u8 64] 5
  have H5 : Hid (Bytes w5 (.slice (some ⟨w4.heap.size, 0, none⟩) 1 1) [64]) := Lib.hid (Sl_block hB5 (n := 1) rfl (by unfold maxLen; omega))
  have E5 := Lib.hid e5
  have HF1 := Lib.hid (HF1.out.trans hF)
  have HB := Lib.hid (Sl.keep HB.out hF)
  have HV := Lib.hid (HV.out.keep hF)
  have HPL := Lib.hid (Sl.keep HPL.out hF)
  have HP := Lib.hid (HP.out.keep hF)
  have HW := Lib.hid (Sl.keep HW.out hF)
  clear e5 hF hB5
  go_wp2_with fail
  rw [E5.out]
  refine (Parse_any H5.out).mono ?_
  rintro e w6 (⟨vp, p, hp, rfl, hV, hF⟩ | ⟨k, hp, rfl, hF⟩)
  · rw [parse_64] at hp; cases hp
  rw [parse_64] at hp
  cases hp
  have HF1 := Lib.hid (HF1.out.trans hF)
  have HB := Lib.hid (Sl.keep HB.out hF)
  have HV := Lib.hid (HV.out.keep hF)
  have HPL := Lib.hid (Sl.keep HPL.out hF)
  have HP := Lib.hid (HP.out.keep hF)
  have HW := Lib.hid (Sl.keep HW.out hF)
  clear hF E5 H5
  unfold pz
  go_wp2_with (refine wpList_store_row rfl 67 (.tmp 6) (.tmp 36) rfl w6.heap.size rfl _ _ rfl 67 (Box.new w6 67 #[.bool false, .int .i64 0, .int .u16 0, .int .u32 0, .int .u32 0, .slice none 0 0, .bool false, .int .u16 0, .slice none 0 0, .slice none 0 0, .slice none 0 0]) (by kernel_rfl) rfl (oneCell_pz) ?_; intro w7 hY hG)
  have hF := ((Fr.refl [] w6).alloc (.cells #[.bool false, .int .i64 0, .int .u16 0, .int .u32 0, .int .u32 0, .slice none 0 0, .bool false, .int .u16 0, .slice none 0 0, .slice none 0 0, .slice none 0 0] 67)).step hG (by simp)
  have HF1 := Lib.hid (HF1.out.trans hF)
  have HB := Lib.hid (Sl.keep HB.out hF)
  have HV := Lib.hid (HV.out.keep hF)
  have HPL := Lib.hid (Sl.keep HPL.out hF)
  have HP := Lib.hid (HP.out.keep hF)
  have HW := Lib.hid (Sl.keep HW.out hF)
  clear hF hY hG
  obtain ⟨w8, e5, hF, hB5, -⟩ := one_new w7 #[.int .u8 128] 5
  have H5 : Hid (Bytes w8 (.slice (some ⟨w7.heap.size, 0, none⟩) 1 1) [128]) := Lib.hid (Sl_block hB5 (n := 1) rfl (by unfold maxLen; omega))
  have E5 := Lib.hid e5
  have HF1 := Lib.hid (HF1.out.trans hF)
  have HB := Lib.hid (Sl.keep HB.out hF)
  have HV := Lib.hid (HV.out.keep hF)
  have HPL := Lib.hid (Sl.keep HPL.out hF)
  have HP := Lib.hid (HP.out.keep hF)
  have HW := Lib.hid (Sl.keep HW.out hF)
  clear e5 hF hB5
  go_wp2_with fail
  rw [E5.out]
  refine (Parse_any H5.out).mono ?_
  rintro e w9 (⟨vp, p, hp, rfl, hV, hF⟩ | ⟨k, hp, rfl, hF⟩)
  · rw [parse_128] at hp; cases hp
  rw [parse_128] at hp
  cases hp
  have HF1 := Lib.hid (HF1.out.trans hF)
  have HB := Lib.hid (Sl.keep HB.out hF)
  have HV := Lib.hid (HV.out.keep hF)
  have HPL := Lib.hid (Sl.keep HPL.out hF)
  have HP := Lib.hid (HP.out.keep hF)
  have HW := Lib.hid (Sl.keep HW.out hF)
  clear hF E5 H5
  unfold pz
  go_wp2_with (refine wpList_store_row rfl 67 (.tmp 8) (.tmp 41) rfl w9.heap.size rfl _ _ rfl 67 (Box.new w9 67 #[.bool false, .int .i64 0, .int .u16 0, .int .u32 0, .int .u32 0, .slice none 0 0, .bool false, .int .u16 0, .slice none 0 0, .slice none 0 0, .slice none 0 0]) (by kernel_rfl) rfl (oneCell_pz) ?_; intro w10 hY hG)
  have hF := ((Fr.refl [] w9).alloc (.cells #[.bool false, .int .i64 0, .int .u16 0, .int .u32 0, .int .u32 0, .slice none 0 0, .bool false, .int .u16 0, .slice none 0 0, .slice none 0 0, .slice none 0 0] 67)).step hG (by simp)
  have HF1 := Lib.hid (HF1.out.trans hF)
  have HB := Lib.hid (Sl.keep HB.out hF)
  have HV := Lib.hid (HV.out.keep hF)
  have HPL := Lib.hid (Sl.keep HPL.out hF)
  have HP := Lib.hid (HP.out.keep hF)
  have HW := Lib.hid (Sl.keep HW.out hF)
  clear hF hY hG
  have hE : PktV w10 0 (.agg #[.bool false, .int .i64 128, .int .u16 0, .int .u32 0, .int .u32 0, .slice none 0 0, .bool false, .int .u16 0, .slice none 0 0, .slice none 0 0, .slice none 0 0]) pE := ⟨.slice none 0 0, .slice none 0 0, .slice none 0 0, .slice none 0 0, rfl, Sl.nil _, Sl.nil _, Sl.nil _, Sl.nil _, fun _ _ => Nat.zero_le _⟩
  refine (Write_err hE small_pE (by rw [wrong_pE]; decide)).mono ?_
  rintro e w11 ⟨rfl, hF⟩
  rw [wrong_pE]
  have HF1 := Lib.hid (HF1.out.trans hF)
  have HB := Lib.hid (Sl.keep HB.out hF)
  have HV := Lib.hid (HV.out.keep hF)
  have HPL := Lib.hid (Sl.keep HPL.out hF)
  have HP := Lib.hid (HP.out.keep hF)
  have HW := Lib.hid (Sl.keep HW.out hF)
  clear hF hE
  go_wp2_with (refine wpList_load_row rfl 67 (.tmp 2) rfl gp rfl 67 _ _ _ HP.out Try.underlying67 rfl (by kernel_rfl) ?_)
  refine (ClonePk_any HV.out small_p0).mono ?_
  rintro e w12 ⟨qc, qe, ql, qd, rfl, hqc, hqe, hql, hqd, hF⟩
  obtain ⟨b1, n1, f1, rfl⟩ := hqc.isSlice
  obtain ⟨b2, n2, f2, rfl⟩ := hqe.isSlice
  obtain ⟨gq, capq, curq, rfl, hgq, hBq, hcur, hcap1, hcap2, hcsz⟩ := own_one hql
  obtain ⟨b4, n4, f4, rfl⟩ := hqd.isSlice
  obtain rfl : n1 = 0 := by simpa [p0] using (Sl.len hqc.words).1
  obtain rfl : n2 = 0 := by simpa [p0] using (Sl.len hqe.bytes).1
  obtain rfl : n4 = 0 := by simpa [p0] using (Sl.len hqd.bytes).1
  have HQC := Lib.hid hqc.words; have HQE := Lib.hid hqe.bytes; have HQD := Lib.hid hqd.bytes; have HBQ := Lib.hid hBq; have HCAP := Lib.hid hcap2
  have HGQ : Hid (w11.heap.size ≤ gq) := Lib.hid hgq
  have hltq := hBq.lt
  have HFC := Lib.hid hF
  clear hqc hqe hql hqd hF hBq hgq hcap2
  have HC0 := Lib.hid (show ∀ (g : Nat) (u : World), Box u g 67 (pc false 96 1 2 3 (.slice b1 0 f1) false 0 (.slice b2 0 f2) (.slice (some ⟨gq, 0, none⟩) 1 capq) (.slice b4 0 f4)) → u.cell? ⟨g, 9, none⟩ = some (.slice (some ⟨gq, 0, none⟩) 1 capq) from fun g u h => h.cell 9)
  have HQ0 := Lib.hid (show ∀ u : World, Fr [] w12 u → u.cell? ⟨gq, 0, none⟩ = some (.int .u8 65) ∧ u.frozen? ⟨gq, 0, none⟩ = false ∧ Box u gq 5 curq from fun u h => ⟨((HBQ.out.keep h).cell 0).trans hcur, (HBQ.out.keep h).free 0, HBQ.out.keep h⟩)
  have HCUR := Lib.hid hcur; have HCSZ := Lib.hid hcsz; have HCAP1 := Lib.hid hcap1
  clear hcur hcsz hcap1
  go_wp2_with ((refine wpList_store_row rfl 67 (.tmp 12) (.tmp 49) rfl w12.heap.size rfl _ _ rfl 67 (Box.new w12 67 #[.bool false, .int .i64 0, .int .u16 0, .int .u32 0, .int .u32 0, .slice none 0 0, .bool false, .int .u16 0, .slice none 0 0, .slice none 0 0, .slice none 0 0]) (by kernel_rfl) rfl (oneCell_pc _ _ _ _ _ _ _ _ _ _ _ ⟨_, _, _, rfl⟩ ⟨_, _, _, rfl⟩ ⟨_, _, _, rfl⟩ ⟨_, _, _, rfl⟩) ?_; intro w13 hY hG; have hFn := ((Fr.refl [] w12).alloc _).step hG (by simp); obtain ⟨hq0, hq1, hqb⟩ := HQ0.out _ hFn; have hY9 := HC0.out _ _ hY; obtain ⟨w14, e14, hF14, hB14, hs14⟩ := set_new hqb 0 (.int .u8 66); have HFn := Lib.hid hFn; have HY := Lib.hid hY; have HF14 := Lib.hid hF14; have HB14 := Lib.hid hB14; clear hFn hY hF14 hB14 hqb hG))
  clear hY9 hq0 hq1 e14
  have hF := ((HFC.out.trans HFn.out).step HF14.out (fun x hx => by have := HGQ.out; simp at hx; subst hx; exact .inr this))
  have HF1 := Lib.hid (HF1.out.trans hF)
  have HB := Lib.hid (Sl.keep HB.out hF)
  have HV := Lib.hid (HV.out.keep hF)
  have HPL := Lib.hid (Sl.keep HPL.out hF)
  have HP := Lib.hid (HP.out.keep hF)
  have HW := Lib.hid (Sl.keep HW.out hF)
  have hS : w12.heap.size ≤ w14.heap.size := Nat.le_trans HFn.out.size HF14.out.size
  have HQ := Lib.hid (HY.out.fr HF14.out (by simp; omega))
  have HQV : Hid (PktV w14 0 (.agg (pc false 96 1 2 3 (.slice b1 0 f1) false 0 (.slice b2 0 f2) (.slice (some ⟨gq, 0, none⟩) 1 capq) (.slice b4 0 f4))) q0) := Lib.hid ⟨_, _, _, _, rfl, Sl_nil_fr HQC.out hS, Sl_nil_fr HQE.out hS, ?_, Sl_nil_fr HQD.out hS, fun _ _ => Nat.zero_le _⟩
  rotate_left
  · refine ⟨some ⟨gq, 0, none⟩, capq, rfl, HCAP1.out, HCAP.out, by simp, fun p hp _ => ?_⟩
    cases hp
    refine ⟨rfl, HB14.out.lt, fun i x hx => ?_⟩
    match i, hx with
    | 0, hx =>
      simp only [q0, List.map_cons, List.map_nil, List.getElem?_cons_zero, Option.some.injEq] at hx
      subst hx
      have := HB14.out.cell 0
      rw [Array.getElem?_setIfInBounds_self_of_lt (by have := HCAP1.out; have := HCSZ.out; omega)] at this
      exact this
    | i + 1, hx => simp [q0] at hx
  have HQ : Hid (Box w14 w12.heap.size 67 (pc false 96 1 2 3 (.slice b1 0 f1) false 0 (.slice b2 0 f2) (.slice (some ⟨gq, 0, none⟩) 1 capq) (.slice b4 0 f4))) := HQ
  clear hF HY HFn HF14 HB14 HFC HQC HQE HQD HBQ HC0 HQ0 hs14 hS
  generalize hGQ : w12.heap.size = gb at *
  clear hGQ hltq
  refine (Seq_any HB.out).mono ?_
  rintro e w15 (⟨p, hp, rfl, hF⟩ | ⟨k, hp, rfl, hF⟩)
  rotate_left
  · rw [parse_bL] at hp; cases hp
  rw [parse_bL] at hp
  cases hp
  have HF1 := Lib.hid (HF1.out.trans hF)
  have HB := Lib.hid (Sl.keep HB.out hF)
  have HV := Lib.hid (HV.out.keep hF)
  have HPL := Lib.hid (Sl.keep HPL.out hF)
  have HP := Lib.hid (HP.out.keep hF)
  have HW := Lib.hid (Sl.keep HW.out hF)
  have HQ := Lib.hid (HQ.out.keep hF)
  have HQV := Lib.hid (HQV.out.keep hF)
  clear hF
  try go_wp2_with fail
  refine (SSRC_any HB.out).mono ?_
  rintro e w16 (⟨p, hp, rfl, hF⟩ | ⟨k, hp, rfl, hF⟩)
  rotate_left
  · rw [parse_bL] at hp; cases hp
  rw [parse_bL] at hp
  cases hp
  have HF1 := Lib.hid (HF1.out.trans hF)
  have HB := Lib.hid (Sl.keep HB.out hF)
  have HV := Lib.hid (HV.out.keep hF)
  have HPL := Lib.hid (Sl.keep HPL.out hF)
  have HP := Lib.hid (HP.out.keep hF)
  have HW := Lib.hid (Sl.keep HW.out hF)
  have HQ := Lib.hid (HQ.out.keep hF)
  have HQV := Lib.hid (HQV.out.keep hF)
  clear hF
  try go_wp2_with fail
  refine (PT_any HB.out).mono ?_
  rintro e w17 (⟨p, hp, rfl, hF⟩ | ⟨k, hp, rfl, hF⟩)
  rotate_left
  · rw [parse_bL] at hp; cases hp
  rw [parse_bL] at hp
  cases hp
  have HF1 := Lib.hid (HF1.out.trans hF)
  have HB := Lib.hid (Sl.keep HB.out hF)
  have HV := Lib.hid (HV.out.keep hF)
  have HPL := Lib.hid (Sl.keep HPL.out hF)
  have HP := Lib.hid (HP.out.keep hF)
  have HW := Lib.hid (Sl.keep HW.out hF)
  have HQ := Lib.hid (HQ.out.keep hF)
  have HQV := Lib.hid (HQV.out.keep hF)
  clear hF
  try go_wp2_with fail
  refine (PT_any (show Bytes w17 (.slice none 0 0) [] from Sl.nil _)).mono ?_
  rintro e w18 (⟨p, hp, rfl, hF⟩ | ⟨k, hp, rfl, hF⟩)
  · rw [parse_nil] at hp; cases hp
  have HF1 := Lib.hid (HF1.out.trans hF)
  have HB := Lib.hid (Sl.keep HB.out hF)
  have HV := Lib.hid (HV.out.keep hF)
  have HPL := Lib.hid (Sl.keep HPL.out hF)
  have HP := Lib.hid (HP.out.keep hF)
  have HW := Lib.hid (Sl.keep HW.out hF)
  have HQ := Lib.hid (HQ.out.keep hF)
  have HQV := Lib.hid (HQV.out.keep hF)
  clear hF hp
  have hcv1 := conv_bytes HPL.out
  have hcv2 := conv_bytes HW.out
  have hcv3 := conv_bytes HB.out
  obtain ⟨x0, x1, x2, x3, x4, x5, x6, x7, x8, x9, x10⟩ := HP.out.pcells
  obtain ⟨y0, y1, y2, y3, y4, y5, y6, y7, y8, y9, y10⟩ := HQ.out.pcells
  have z1 : (p0.seq.toNat : Int) = 1 := rfl
  have z2 : (p0.ssrc.toNat : Int) = 3 := rfl
  have z3 : p0.pt = 96 := rfl
  go_wp2_with fail
  clear x0 x1 x2 x3 x4 x5 x6 x7 x8 x9 x10 y0 y1 y2 y3 y4 y5 y6 y7 y8 y9 y10 hcv1 hcv2 hcv3 z1 z2 z3
  refine (SameP_any HV.out HQV.out small_p0 small_q0).mono ?_
  rintro e w19 ⟨rfl, hF⟩
  rw [ne_pq]
  have HF1 := Lib.hid (HF1.out.trans hF)
  have HB := Lib.hid (Sl.keep HB.out hF)
  have HV := Lib.hid (HV.out.keep hF)
  have HPL := Lib.hid (Sl.keep HPL.out hF)
  have HP := Lib.hid (HP.out.keep hF)
  have HW := Lib.hid (Sl.keep HW.out hF)
  have HQ := Lib.hid (HQ.out.keep hF)
  have HQV := Lib.hid (HQV.out.keep hF)
  clear hF
  obtain ⟨x0, x1, x2, x3, x4, x5, x6, x7, x8, x9, x10⟩ := HP.out.pcells
  go_wp2_with fail
  clear x0 x1 x2 x3 x4 x5 x6 x7 x8 x9 x10
  refine (SameP_any HV.out HV.out small_p0 small_p0).mono ?_
  rintro e w20 ⟨rfl, hF⟩
  rw [eq_pp]
  have HF1 := Lib.hid (HF1.out.trans hF)
  have HB := Lib.hid (Sl.keep HB.out hF)
  have HV := Lib.hid (HV.out.keep hF)
  have HPL := Lib.hid (Sl.keep HPL.out hF)
  have HP := Lib.hid (HP.out.keep hF)
  have HW := Lib.hid (Sl.keep HW.out hF)
  have HQ := Lib.hid (HQ.out.keep hF)
  have HQV := Lib.hid (HQV.out.keep hF)
  clear hF
  obtain ⟨x0, x1, x2, x3, x4, x5, x6, x7, x8, x9, x10⟩ := HP.out.pcells
  go_wp2_with fail
  clear x0 x1 x2 x3 x4 x5 x6 x7 x8 x9 x10
  refine (size_any HV.out small_p0).mono ?_
  rintro e w21 ⟨rfl, hF⟩
  rw [size_p0]
  have HF1 := Lib.hid (HF1.out.trans hF)
  have HB := Lib.hid (Sl.keep HB.out hF)
  have HV := Lib.hid (HV.out.keep hF)
  have HPL := Lib.hid (Sl.keep HPL.out hF)
  have HP := Lib.hid (HP.out.keep hF)
  have HW := Lib.hid (Sl.keep HW.out hF)
  have HQ := Lib.hid (HQ.out.keep hF)
  have HQV := Lib.hid (HQV.out.keep hF)
  clear hF
  obtain ⟨w22, e5, hF, hB5, -⟩ := one_new w21 #[.int .u8 128, .int .u8 200] 5
  have H5 : Hid (Bytes w22 (.slice (some ⟨w21.heap.size, 0, none⟩) 2 2) [128, 200]) := Lib.hid (Sl_block hB5 (n := 2) rfl (by unfold maxLen; omega))
  have E5 := Lib.hid e5
  have HF1 := Lib.hid (HF1.out.trans hF)
  have HB := Lib.hid (Sl.keep HB.out hF)
  have HV := Lib.hid (HV.out.keep hF)
  have HPL := Lib.hid (Sl.keep HPL.out hF)
  have HP := Lib.hid (HP.out.keep hF)
  have HW := Lib.hid (Sl.keep HW.out hF)
  have HQ := Lib.hid (HQ.out.keep hF)
  have HQV := Lib.hid (HQV.out.keep hF)
  clear e5 hF hB5
  go_wp2_with fail
  rw [E5.out]
  refine (IsRTCP_any H5.out).mono ?_
  rintro e w23 ⟨rfl, hF⟩
  rw [rtcp_1]
  have HF1 := Lib.hid (HF1.out.trans hF)
  have HB := Lib.hid (Sl.keep HB.out hF)
  have HV := Lib.hid (HV.out.keep hF)
  have HPL := Lib.hid (Sl.keep HPL.out hF)
  have HP := Lib.hid (HP.out.keep hF)
  have HW := Lib.hid (Sl.keep HW.out hF)
  have HQ := Lib.hid (HQ.out.keep hF)
  have HQV := Lib.hid (HQV.out.keep hF)
  clear hF E5 H5
  go_wp2_with fail
  refine (IsRTCP_any HB.out).mono ?_
  rintro e w24 ⟨rfl, hF⟩
  rw [rtcp_b]
  have HF1 := Lib.hid (HF1.out.trans hF)
  have HB := Lib.hid (Sl.keep HB.out hF)
  have HV := Lib.hid (HV.out.keep hF)
  have HPL := Lib.hid (Sl.keep HPL.out hF)
  have HP := Lib.hid (HP.out.keep hF)
  have HW := Lib.hid (Sl.keep HW.out hF)
  have HQ := Lib.hid (HQ.out.keep hF)
  have HQV := Lib.hid (HQV.out.keep hF)
  clear hF
  go_wp2_with fail
  go_ret
  exact ⟨rfl, HF1.out⟩
end Go.Proofs.Yticoongkfhkjgaa
