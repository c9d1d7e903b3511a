/- The walk of confluxlaw05.RtpBack (printed by gen_back.py). -/
import Derived.Test.YticoongkfhkjgaaAlive5
import Derived.Test.YticoongkfhkjgaaBackPlain
namespace Go.Proofs.Yticoongkfhkjgaa
open Go.RowKit

def pZ : Pkt := { marker := false, pt := 0, seq := 0, ts := 0, ssrc := 0, csrc := [], hasExt := false, profile := 0, ext := [], payload := [], pad := [] }
theorem pkt_zero (w : World) : PktV w 0 (.agg #[.bool false, .int .i64 0, .int .u16 0, .int .u32 0, .int .u32 0, .slice none 0 0, .bool false, .int .u16 0, .slice none 0 0, .slice none 0 0, .slice none 0 0]) pZ := ⟨.slice none 0 0, .slice none 0 0, .slice none 0 0, .slice none 0 0, rfl, Sl.nil _, Sl.nil _, Sl.nil _, Sl.nil _, fun _ _ => Nat.zero_le _⟩
theorem small_pZ : pZ.Small := by unfold Pkt.Small pZ; simp
theorem Pkt.Fit.small {p : Pkt} (h : p.Fit) : p.Small := by
  have h1 := h.size
  have h2 := h.ext
  unfold Pkt.size at h1
  unfold Pkt.extOk at h2
  unfold Pkt.Small
  cases he : p.hasExt with
  | false =>
    rw [he] at h1 h2
    simp at h1 h2
    rw [h2.2]
    simp only [List.length_nil]
    omega
  | true =>
    rw [he] at h1 h2
    simp at h1 h2
    omega

set_option maxRecDepth 100000 in
set_option maxHeartbeats 4000000 in
theorem RtpBack_any {w : World} {base : Nat} {v vb : Value} {p : Pkt} {l : List UInt8} (hV : PktV w base v p) (hl : Bytes w vb l) :
    Calls Try.prog 8 #[v, vb] w fun e w' => e = .returned (.bool true) ∧ Fr [] w w' := by
  have HV0 := Lib.hid hV
  obtain ⟨ab, cb, hvb⟩ := hl.shape
  have hvb2 : vb = .slice ab l.length cb := by rw [hvb, List.length_map]
  subst hvb2
  clear hvb
  obtain ⟨a1, c1, a2, c2, a3, c3, a4, c4, rfl, hcs, hex, hpl, hpd⟩ := hV.open_
  obtain ⟨w1, e1, hF1, hB1, -⟩ := one_new w (pc p.marker p.pt p.seq.toNat p.ts.toNat p.ssrc.toNat (.slice a1 p.csrc.length c1) p.hasExt p.profile.toNat (.slice a2 p.ext.length c2) (.slice a3 p.payload.length c3) (.slice a4 p.pad.length c4)) 67
  have HF := Lib.hid hF1; have HB := Lib.hid hB1; have E1 := Lib.hid e1; have HV := Lib.hid (HV0.out.keep hF1)
  have HBB := Lib.hid (Sl.keep hl hF1)
  clear hV hcs hex hpl hpd hF1 hB1 e1 HV0 hl
  generalize hG : w.heap.size = g at *
  go_enter Try.func8, Try.ntmps8
  go_upto_region 1 with (fail)
  try rw [hG]
  rw [E1.out]
  clear E1 hG
  go_wp2_with fail
  refine alive5_any.mono ?_
  rintro e w2 ⟨rfl, hF⟩
  have HF := Lib.hid (HF.out.trans hF); have HB := Lib.hid (HB.out.keep hF); have HV := Lib.hid (HV.out.keep hF); have HBB := Lib.hid (Sl.keep HBB.out hF)
  clear hF
  go_wp2_with (refine wpList_load_row rfl 67 (.tmp 2) rfl g rfl 67 _ _ _ HB.out Try.underlying67 rfl (by kernel_rfl) ?_)
  refine (Few_any HV.out).mono ?_
  rintro e w3 ⟨rfl, hF⟩
  have HF := Lib.hid (HF.out.trans hF); have HB := Lib.hid (HB.out.keep hF); have HV := Lib.hid (HV.out.keep hF); have HBB := Lib.hid (Sl.keep HBB.out hF)
  clear hF
  by_cases hfew : p.few = true
  rotate_left
  · have hfew2 : p.few = false := by simpa using hfew
    rw [hfew2]
    go_wp2_with fail
    go_ret
    exact ⟨rfl, HF.out⟩
  have HSM := Lib.hid (Pkt.few_small hfew)
  rw [hfew]
  clear hfew
  by_cases hlen : 3000 < l.length
  · go_wp2_with fail
    go_ret
    exact ⟨rfl, HF.out⟩
  have HLEN := Lib.hid hlen
  go_wp2_with (refine wpList_load_row rfl 67 (.tmp 2) rfl g rfl 67 _ _ _ HB.out Try.underlying67 rfl (by kernel_rfl) ?_)
  clear hlen
  by_cases hwr : p.wrong = 0
  · refine (Write_ok HV.out HSM.out hwr).mono ?_
    rintro e w4 ⟨vw, rfl, hO, hF⟩
    have HWR := Lib.hid hwr
    have HF := Lib.hid (HF.out.trans hF); have HB := Lib.hid (HB.out.keep hF); have HV := Lib.hid (HV.out.keep hF); have HBB := Lib.hid (Sl.keep HBB.out hF)
    obtain ⟨aw, cw, hvw⟩ := hO.bytes.shape
    have hvw2 : vw = .slice aw p.size cw := by rw [hvw, List.length_map, bytes_len]
    subst hvw2
    have HW := Lib.hid hO.bytes
    clear hF hwr hO hvw
    go_wp2_with fail
    refine (Parse_any HW.out).mono ?_
    rintro e w5 (⟨vq, q, hp, rfl, hVq, hF⟩ | ⟨k, hp, rfl, hF⟩)
    rotate_left
    · rw [parse_bytes HWR.out] at hp; cases hp
    rw [parse_bytes HWR.out] at hp
    cases hp
    have HF := Lib.hid (HF.out.trans hF); have HB := Lib.hid (HB.out.keep hF); have HV := Lib.hid (HV.out.keep hF); have HBB := Lib.hid (Sl.keep HBB.out hF)
    have HVq := Lib.hid hVq
    obtain ⟨b1, d1, b2, d2, b3, d3, b4, d4, rfl, -, -, -, -⟩ := hVq.open_
    clear hF hVq
    go_wp2_with (refine wpList_store_row rfl 67 (.tmp 7) (.tmp 33) rfl w5.heap.size rfl _ _ rfl 67 (Box.new w5 67 #[.bool false, .int .i64 0, .int .u16 0, .int .u32 0, .int .u32 0, .slice none 0 0, .bool false, .int .u16 0, .slice none 0 0, .slice none 0 0, .slice none 0 0]) (by kernel_rfl) rfl (oneCell_pc _ _ _ _ _ _ _ _ _ _ _ ⟨_, _, _, rfl⟩ ⟨_, _, _, rfl⟩ ⟨_, _, _, rfl⟩ ⟨_, _, _, rfl⟩) ?_; intro w6 hY hG; have hFn := ((Fr.refl [] w5).alloc _).step hG (by simp); have HF := Lib.hid (HF.out.trans hFn); have HY := Lib.hid hY; have HFn := Lib.hid hFn; clear hG hFn hY; have HB := Lib.hid (HB.out.keep HFn.out); obtain ⟨x0, x1, x2, x3, x4, x5, x6, x7, x8, x9, x10⟩ := HB.out.pcells; obtain ⟨y0, y1, y2, y3, y4, y5, y6, y7, y8, y9, y10⟩ := HY.out.pcells)
    have hF := HFn.out
    have HV := Lib.hid (HV.out.keep hF); have HVq := Lib.hid (HVq.out.keep hF); have HBB := Lib.hid (Sl.keep HBB.out hF)
    clear hF x0 x1 x2 x3 x4 x5 x6 x7 x8 x9 x10 y0 y1 y2 y3 y4 y5 y6 y7 y8 y9 y10
    refine (SameP_any HV.out HVq.out HSM.out HSM.out).mono ?_
    rintro e w7 ⟨rfl, hF⟩
    have hpp : decide (p = p) = true := decide_eq_true rfl
    rw [hpp]
    have HF := Lib.hid (HF.out.trans hF); have HB := Lib.hid (HB.out.keep hF); have HV := Lib.hid (HV.out.keep hF); have HBB := Lib.hid (Sl.keep HBB.out hF)
    clear hF hpp
    obtain ⟨x0, x1, x2, x3, x4, x5, x6, x7, x8, x9, x10⟩ := HB.out.pcells
    go_wp2_with fail
    clear x0 x1 x2 x3 x4 x5 x6 x7 x8 x9 x10
    refine (size_any HV.out HSM.out).mono ?_
    rintro e w8 ⟨rfl, hF⟩
    have HF := Lib.hid (HF.out.trans hF); have HBB := Lib.hid (Sl.keep HBB.out hF)
    clear hF
    go_wp2_with fail
    refine (Parse_any HBB.out).mono ?_
    rintro e w9 (⟨vq, q, hp, rfl, hVq, hF⟩ | ⟨k, hp, rfl, hF⟩)
    · obtain ⟨hwq, hby⟩ := parse_back hp
      have HF := Lib.hid (HF.out.trans hF); have HBB := Lib.hid (Sl.keep HBB.out hF)
      have HVq := Lib.hid hVq
      have HWQ := Lib.hid hwq; have HBY := Lib.hid hby
      obtain ⟨b1, d1, b2, d2, b3, d3, b4, d4, rfl, -, -, -, -⟩ := hVq.open_
      clear hF hVq hp hwq hby
      go_wp2_with (first | (refine wpList_store_row rfl 67 (.tmp 9) (.tmp 53) rfl w9.heap.size rfl _ _ rfl 67 (Box.new w9 67 #[.bool false, .int .i64 0, .int .u16 0, .int .u32 0, .int .u32 0, .slice none 0 0, .bool false, .int .u16 0, .slice none 0 0, .slice none 0 0, .slice none 0 0]) (by kernel_rfl) rfl (oneCell_pc _ _ _ _ _ _ _ _ _ _ _ ⟨_, _, _, rfl⟩ ⟨_, _, _, rfl⟩ ⟨_, _, _, rfl⟩ ⟨_, _, _, rfl⟩) ?_; intro w10 hY hG; have hFn := ((Fr.refl [] w9).alloc _).step hG (by simp); have HF := Lib.hid (HF.out.trans hFn); have HY := Lib.hid hY; have HFn := Lib.hid hFn; clear hG hFn hY) | (refine wpList_load_row rfl 67 (.tmp 9) rfl w9.heap.size rfl 67 _ _ _ HY.out Try.underlying67 rfl (by kernel_rfl) ?_))
      have hF := HFn.out
      have HVq := Lib.hid (HVq.out.keep hF); have HBB := Lib.hid (Sl.keep HBB.out hF)
      clear hF
      refine (Write_ok HVq.out (Pkt.fit HWQ.out).small HWQ.out).mono ?_
      rintro e w11 ⟨vo, rfl, hO, hF⟩
      rw [HBY.out] at hO
      have HF := Lib.hid (HF.out.trans hF); have HBB := Lib.hid (Sl.keep HBB.out hF)
      obtain ⟨ao, co, hvo⟩ := hO.bytes.shape
      have hvo2 : vo = .slice ao l.length co := by rw [hvo, List.length_map]
      subst hvo2
      have HO := Lib.hid hO.bytes
      clear hF hO hvo
      have hl1 : l.length ≤ 1099511627776 := by have := HLEN.out; omega
      have HL1 := Lib.hid hl1
      clear hl1
      go_wp2_with fail
      refine (RSame_any HO.out HBB.out HL1.out HL1.out).mono ?_
      rintro e w12 ⟨rfl, hF⟩
      have hll : (l == l) = true := by simp
      rw [hll]
      have HF := Lib.hid (HF.out.trans hF)
      clear hF hll
      go_wp2_with fail
      go_ret
      exact ⟨rfl, HF.out⟩
    · have HF := Lib.hid (HF.out.trans hF); have HBB := Lib.hid (Sl.keep HBB.out hF)
      have hk : (k != 0) = true := by simpa using parseR_err hp
      clear hF hp
      unfold pz
      go_wp2_with (first | (refine wpList_store_row rfl 67 (.tmp 9) (.tmp 53) rfl w9.heap.size rfl _ _ rfl 67 (Box.new w9 67 #[.bool false, .int .i64 0, .int .u16 0, .int .u32 0, .int .u32 0, .slice none 0 0, .bool false, .int .u16 0, .slice none 0 0, .slice none 0 0, .slice none 0 0]) (by kernel_rfl) rfl (oneCell_pz) ?_; intro w10 hY hG; have hFn := ((Fr.refl [] w9).alloc _).step hG (by simp); have HF := Lib.hid (HF.out.trans hFn); have HY := Lib.hid hY; have HFn := Lib.hid hFn; clear hG hFn hY) | (refine wpList_load_row rfl 67 (.tmp 9) rfl w9.heap.size rfl 67 _ _ _ HY.out Try.underlying67 rfl (by kernel_rfl) ?_))
      refine (SameP_any (pkt_zero _) (pkt_zero _) small_pZ small_pZ).mono ?_
      rintro e w11 ⟨rfl, hF⟩
      have hzz : decide (pZ = pZ) = true := decide_eq_true rfl
      rw [hzz]
      have HF := Lib.hid (HF.out.trans hF)
      clear hF hzz
      go_wp2_with fail
      go_ret
      exact ⟨rfl, HF.out⟩
  · refine (Write_err HV.out HSM.out hwr).mono ?_
    rintro e w4 ⟨rfl, hF⟩
    have t0 : (p.wrong == 0) = false := by simpa using hwr
    have HF := Lib.hid (HF.out.trans hF); have HBB := Lib.hid (Sl.keep HBB.out hF)
    clear hF hwr
    go_wp2_with fail
    clear t0
    refine (Parse_any HBB.out).mono ?_
    rintro e w5 (⟨vq, q, hp, rfl, hVq, hF⟩ | ⟨k, hp, rfl, hF⟩)
    · obtain ⟨hwq, hby⟩ := parse_back hp
      have HF := Lib.hid (HF.out.trans hF); have HBB := Lib.hid (Sl.keep HBB.out hF)
      have HVq := Lib.hid hVq
      have HWQ := Lib.hid hwq; have HBY := Lib.hid hby
      obtain ⟨b1, d1, b2, d2, b3, d3, b4, d4, rfl, -, -, -, -⟩ := hVq.open_
      clear hF hVq hp hwq hby
      go_wp2_with (first | (refine wpList_store_row rfl 67 (.tmp 9) (.tmp 53) rfl w5.heap.size rfl _ _ rfl 67 (Box.new w5 67 #[.bool false, .int .i64 0, .int .u16 0, .int .u32 0, .int .u32 0, .slice none 0 0, .bool false, .int .u16 0, .slice none 0 0, .slice none 0 0, .slice none 0 0]) (by kernel_rfl) rfl (oneCell_pc _ _ _ _ _ _ _ _ _ _ _ ⟨_, _, _, rfl⟩ ⟨_, _, _, rfl⟩ ⟨_, _, _, rfl⟩ ⟨_, _, _, rfl⟩) ?_; intro w6 hY hG; have hFn := ((Fr.refl [] w5).alloc _).step hG (by simp); have HF := Lib.hid (HF.out.trans hFn); have HY := Lib.hid hY; have HFn := Lib.hid hFn; clear hG hFn hY) | (refine wpList_load_row rfl 67 (.tmp 9) rfl w5.heap.size rfl 67 _ _ _ HY.out Try.underlying67 rfl (by kernel_rfl) ?_))
      have hF := HFn.out
      have HVq := Lib.hid (HVq.out.keep hF); have HBB := Lib.hid (Sl.keep HBB.out hF)
      clear hF
      refine (Write_ok HVq.out (Pkt.fit HWQ.out).small HWQ.out).mono ?_
      rintro e w7 ⟨vo, rfl, hO, hF⟩
      rw [HBY.out] at hO
      have HF := Lib.hid (HF.out.trans hF); have HBB := Lib.hid (Sl.keep HBB.out hF)
      obtain ⟨ao, co, hvo⟩ := hO.bytes.shape
      have hvo2 : vo = .slice ao l.length co := by rw [hvo, List.length_map]
      subst hvo2
      have HO := Lib.hid hO.bytes
      clear hF hO hvo
      have hl1 : l.length ≤ 1099511627776 := by have := HLEN.out; omega
      have HL1 := Lib.hid hl1
      clear hl1
      go_wp2_with fail
      refine (RSame_any HO.out HBB.out HL1.out HL1.out).mono ?_
      rintro e w8 ⟨rfl, hF⟩
      have hll : (l == l) = true := by simp
      rw [hll]
      have HF := Lib.hid (HF.out.trans hF)
      clear hF hll
      go_wp2_with fail
      go_ret
      exact ⟨rfl, HF.out⟩
    · have HF := Lib.hid (HF.out.trans hF); have HBB := Lib.hid (Sl.keep HBB.out hF)
      have hk : (k != 0) = true := by simpa using parseR_err hp
      clear hF hp
      unfold pz
      go_wp2_with (first | (refine wpList_store_row rfl 67 (.tmp 9) (.tmp 53) rfl w5.heap.size rfl _ _ rfl 67 (Box.new w5 67 #[.bool false, .int .i64 0, .int .u16 0, .int .u32 0, .int .u32 0, .slice none 0 0, .bool false, .int .u16 0, .slice none 0 0, .slice none 0 0, .slice none 0 0]) (by kernel_rfl) rfl (oneCell_pz) ?_; intro w6 hY hG; have hFn := ((Fr.refl [] w5).alloc _).step hG (by simp); have HF := Lib.hid (HF.out.trans hFn); have HY := Lib.hid hY; have HFn := Lib.hid hFn; clear hG hFn hY) | (refine wpList_load_row rfl 67 (.tmp 9) rfl w5.heap.size rfl 67 _ _ _ HY.out Try.underlying67 rfl (by kernel_rfl) ?_))
      refine (SameP_any (pkt_zero _) (pkt_zero _) small_pZ small_pZ).mono ?_
      rintro e w7 ⟨rfl, hF⟩
      have hzz : decide (pZ = pZ) = true := decide_eq_true rfl
      rw [hzz]
      have HF := Lib.hid (HF.out.trans hF)
      clear hF hzz
      go_wp2_with fail
      go_ret
      exact ⟨rfl, HF.out⟩
end Go.Proofs.Yticoongkfhkjgaa
