/- The walk of rtp.Same. -/
import Derived.Test.YticoongkfhkjgaaRtpEq
namespace Go.Proofs.Yticoongkfhkjgaa
open Go.RowKit

theorem nat_int_beq {a b : Nat} (h : a ≠ b) : (((a : Nat) : Int) == ((b : Nat) : Int)) = false := by
  simp only [beq_eq_false_iff_ne, ne_eq, Int.natCast_inj]; exact h

set_option maxRecDepth 100000 in
set_option maxHeartbeats 2000000 in
theorem SameP_any {w : World} {b1 b2 : Nat} {v1 v2 : Value} {p q : Pkt} (hV1 : PktV w b1 v1 p) (hV2 : PktV w b2 v2 q) (hS1 : p.Small) (hS2 : q.Small) :
    Calls Try.prog 40 #[v1, v2] w fun e w' => e = .returned (.bool (decide (p = q))) ∧ Fr [] w w' := by
  obtain ⟨a1, c1, a2, c2, a3, c3, a4, c4, rfl, hcs, hex, hpl, hpd⟩ := hV1.open_
  obtain ⟨d1, f1, d2, f2, d3, f3, d4, f4, rfl, gcs, gex, gpl, gpd⟩ := hV2.open_
  obtain ⟨w2, e2, hF2, hB2, hD2, hs2⟩ := two_new w (pc p.marker p.pt p.seq.toNat p.ts.toNat p.ssrc.toNat (.slice a1 p.csrc.length c1) p.hasExt p.profile.toNat (.slice a2 p.ext.length c2) (.slice a3 p.payload.length c3) (.slice a4 p.pad.length c4)) 67 (pc q.marker q.pt q.seq.toNat q.ts.toNat q.ssrc.toNat (.slice d1 q.csrc.length f1) q.hasExt q.profile.toNat (.slice d2 q.ext.length f2) (.slice d3 q.payload.length f3) (.slice d4 q.pad.length f4)) 67
  have E2 := Lib.hid e2
  have HF2 := Lib.hid hF2; have HB2 := Lib.hid hB2; have HD2 := Lib.hid hD2
  have HCS := Lib.hid hcs; have HEX := Lib.hid hex; have HPL := Lib.hid hpl; have HPD := Lib.hid hpd
  have GCS := Lib.hid gcs; have GEX := Lib.hid gex; have GPL := Lib.hid gpl; have GPD := Lib.hid gpd
  have l1 := hS1.1; have l2 := hS2.1
  have L1 := Lib.hid l1; have L2 := Lib.hid l2
  clear hV1 hV2 hS1 hS2 hF2 hB2 hD2 hs2 e2 hcs hex hpl hpd gcs gex gpl gpd l1 l2
  go_enter Try.func40, Try.ntmps40
  go_upto_region 1 with (fail)
  rw [E2.out]
  clear E2
  obtain ⟨x0, x1, x2, x3, x4, x5, x6, x7, x8, x9, x10⟩ := HB2.out.pcells
  obtain ⟨y0, y1, y2, y3, y4, y5, y6, y7, y8, y9, y10⟩ := HD2.out.pcells
  by_cases hf0 : p.marker = q.marker
  rotate_left
  · have t0 : (p.marker == q.marker) = false := beq_eq_false_iff_ne.2 hf0
    have HNE := Lib.hid hf0
    clear hf0
    go_wp2_with fail
    go_ret
    exact ⟨ret_bool (by symm; simp only [decide_eq_false_iff_not]; intro h; subst h; exact HNE.out rfl), HF2.out⟩
  have t0 : (p.marker == q.marker) = true := beq_iff_eq.2 hf0
  have HQ0 := Lib.hid hf0
  clear hf0
  by_cases hf1 : p.pt = q.pt
  rotate_left
  · have t1 : (p.pt == q.pt) = false := beq_eq_false_iff_ne.2 hf1
    have HNE := Lib.hid hf1
    clear hf1
    go_wp2_with fail
    go_ret
    exact ⟨ret_bool (by symm; simp only [decide_eq_false_iff_not]; intro h; subst h; exact HNE.out rfl), HF2.out⟩
  have t1 : (p.pt == q.pt) = true := beq_iff_eq.2 hf1
  have HQ1 := Lib.hid hf1
  clear hf1
  by_cases hf2 : p.seq = q.seq
  rotate_left
  · have t2 : (((p.seq.toNat : Nat) : Int) == ((q.seq.toNat : Nat) : Int)) = false := nat_int_beq (fun h => hf2 (UInt16.toNat_inj.1 h))
    have HNE := Lib.hid hf2
    clear hf2
    go_wp2_with fail
    go_ret
    exact ⟨ret_bool (by symm; simp only [decide_eq_false_iff_not]; intro h; subst h; exact HNE.out rfl), HF2.out⟩
  have t2 : (((p.seq.toNat : Nat) : Int) == ((q.seq.toNat : Nat) : Int)) = true := by rw [hf2]; simp
  have HQ2 := Lib.hid hf2
  clear hf2
  by_cases hf3 : p.ts = q.ts
  rotate_left
  · have t3 : (((p.ts.toNat : Nat) : Int) == ((q.ts.toNat : Nat) : Int)) = false := nat_int_beq (fun h => hf3 (UInt32.toNat_inj.1 h))
    have HNE := Lib.hid hf3
    clear hf3
    go_wp2_with fail
    go_ret
    exact ⟨ret_bool (by symm; simp only [decide_eq_false_iff_not]; intro h; subst h; exact HNE.out rfl), HF2.out⟩
  have t3 : (((p.ts.toNat : Nat) : Int) == ((q.ts.toNat : Nat) : Int)) = true := by rw [hf3]; simp
  have HQ3 := Lib.hid hf3
  clear hf3
  by_cases hf4 : p.ssrc = q.ssrc
  rotate_left
  · have t4 : (((p.ssrc.toNat : Nat) : Int) == ((q.ssrc.toNat : Nat) : Int)) = false := nat_int_beq (fun h => hf4 (UInt32.toNat_inj.1 h))
    have HNE := Lib.hid hf4
    clear hf4
    go_wp2_with fail
    go_ret
    exact ⟨ret_bool (by symm; simp only [decide_eq_false_iff_not]; intro h; subst h; exact HNE.out rfl), HF2.out⟩
  have t4 : (((p.ssrc.toNat : Nat) : Int) == ((q.ssrc.toNat : Nat) : Int)) = true := by rw [hf4]; simp
  have HQ4 := Lib.hid hf4
  clear hf4
  by_cases hf5 : p.hasExt = q.hasExt
  rotate_left
  · have t5 : (p.hasExt == q.hasExt) = false := beq_eq_false_iff_ne.2 hf5
    have HNE := Lib.hid hf5
    clear hf5
    go_wp2_with fail
    go_ret
    exact ⟨ret_bool (by symm; simp only [decide_eq_false_iff_not]; intro h; subst h; exact HNE.out rfl), HF2.out⟩
  have t5 : (p.hasExt == q.hasExt) = true := beq_iff_eq.2 hf5
  have HQ5 := Lib.hid hf5
  clear hf5
  by_cases hf6 : p.profile = q.profile
  rotate_left
  · have t6 : (((p.profile.toNat : Nat) : Int) == ((q.profile.toNat : Nat) : Int)) = false := nat_int_beq (fun h => hf6 (UInt16.toNat_inj.1 h))
    have HNE := Lib.hid hf6
    clear hf6
    go_wp2_with fail
    go_ret
    exact ⟨ret_bool (by symm; simp only [decide_eq_false_iff_not]; intro h; subst h; exact HNE.out rfl), HF2.out⟩
  have t6 : (((p.profile.toNat : Nat) : Int) == ((q.profile.toNat : Nat) : Int)) = true := by rw [hf6]; simp
  have HQ6 := Lib.hid hf6
  clear hf6
  go_wp2_with fail
  refine (equalW_any (HCS.out.keep HF2.out) (GCS.out.keep HF2.out) L1.out L2.out).mono ?_
  rintro e w3 ⟨rfl, hF3⟩
  have HF3 := Lib.hid (HF2.out.trans hF3)
  have HB3 := Lib.hid (HB2.out.keep hF3)
  have HD3 := Lib.hid (HD2.out.keep hF3)
  clear hF3 x0 x1 x2 x3 x4 x5 x6 x7 x8 x9 x10 y0 y1 y2 y3 y4 y5 y6 y7 y8 y9 y10
  obtain ⟨x0, x1, x2, x3, x4, x5, x6, x7, x8, x9, x10⟩ := HB3.out.pcells
  obtain ⟨y0, y1, y2, y3, y4, y5, y6, y7, y8, y9, y10⟩ := HD3.out.pcells
  by_cases hl0 : p.csrc = q.csrc
  rotate_left
  · rw [show (p.csrc == q.csrc) = false from beq_eq_false_iff_ne.2 hl0]
    have HNE := Lib.hid hl0
    clear hl0
    go_wp2_with fail
    go_ret
    exact ⟨ret_bool (by symm; simp only [decide_eq_false_iff_not]; intro h; subst h; exact HNE.out rfl), HF3.out⟩
  rw [show (p.csrc == q.csrc) = true from beq_iff_eq.2 hl0]
  have HL0 := Lib.hid hl0
  clear hl0
  go_wp2_with fail
  refine (bytesEqual_any (HEX.out.keep HF3.out) (GEX.out.keep HF3.out)).mono ?_
  rintro e w4 ⟨rfl, rfl⟩
  by_cases hl1 : p.ext = q.ext
  rotate_left
  · rw [show (p.ext == q.ext) = false from beq_eq_false_iff_ne.2 hl1]
    have HNE := Lib.hid hl1
    clear hl1
    go_wp2_with fail
    go_ret
    exact ⟨ret_bool (by symm; simp only [decide_eq_false_iff_not]; intro h; subst h; exact HNE.out rfl), HF3.out⟩
  rw [show (p.ext == q.ext) = true from beq_iff_eq.2 hl1]
  have HL1 := Lib.hid hl1
  clear hl1
  go_wp2_with fail
  refine (bytesEqual_any (HPL.out.keep HF3.out) (GPL.out.keep HF3.out)).mono ?_
  rintro e w4 ⟨rfl, rfl⟩
  by_cases hl2 : p.payload = q.payload
  rotate_left
  · rw [show (p.payload == q.payload) = false from beq_eq_false_iff_ne.2 hl2]
    have HNE := Lib.hid hl2
    clear hl2
    go_wp2_with fail
    go_ret
    exact ⟨ret_bool (by symm; simp only [decide_eq_false_iff_not]; intro h; subst h; exact HNE.out rfl), HF3.out⟩
  rw [show (p.payload == q.payload) = true from beq_iff_eq.2 hl2]
  have HL2 := Lib.hid hl2
  clear hl2
  go_wp2_with fail
  refine (bytesEqual_any (HPD.out.keep HF3.out) (GPD.out.keep HF3.out)).mono ?_
  rintro e w4 ⟨rfl, rfl⟩
  by_cases hl3 : p.pad = q.pad
  rotate_left
  · rw [show (p.pad == q.pad) = false from beq_eq_false_iff_ne.2 hl3]
    have HNE := Lib.hid hl3
    clear hl3
    go_wp2_with fail
    go_ret
    exact ⟨ret_bool (by symm; simp only [decide_eq_false_iff_not]; intro h; subst h; exact HNE.out rfl), HF3.out⟩
  rw [show (p.pad == q.pad) = true from beq_iff_eq.2 hl3]
  have HL3 := Lib.hid hl3
  clear hl3
  go_wp2_with fail
  go_ret
  refine ⟨ret_bool ?_, HF3.out⟩
  symm
  rw [decide_eq_true_eq]
  have h0 := HQ0.out; have h1 := HQ1.out; have h2 := HQ2.out; have h3 := HQ3.out; have h4 := HQ4.out; have h5 := HQ5.out; have h6 := HQ6.out; have g0 := HL0.out; have g1 := HL1.out; have g2 := HL2.out; have g3 := HL3.out
  clear HQ0 HQ1 HQ2 HQ3 HQ4 HQ5 HQ6 HL0 HL1 HL2 HL3
  cases p; cases q
  simp only [Pkt.mk.injEq]
  exact ⟨h0, h1, h2, h3, h4, g0, h5, h6, g1, g2, g3⟩
end Go.Proofs.Yticoongkfhkjgaa
