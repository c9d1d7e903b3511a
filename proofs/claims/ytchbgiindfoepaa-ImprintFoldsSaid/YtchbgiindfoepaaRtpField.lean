/- The walks of rtp.Seq, SSRC, PT and IsRTCP. -/
import Derived.Test.YtchbgiindfoepaaRtpEq
namespace Go.Proofs.Ytchbgiindfoepaa
open Go.RowKit

set_option maxHeartbeats 400000 in
theorem Seq1_any {w : World} {base : Nat} {v : Value} {p : Pkt} (hV : PktV w base v p) :
    Calls Try.prog 60 #[v] w fun e w' => e = .returned (.int .u16 (p.seq.toNat : Nat)) ∧ Fr [] w w' := by
  obtain ⟨a1, c1, a2, c2, a3, c3, a4, c4, rfl, -, -, -, -⟩ := hV.open_
  have hF := Lib.hid ((Fr.refl [] w).alloc (.cells (pc p.marker p.pt p.seq.toNat p.ts.toNat p.ssrc.toNat (.slice a1 p.csrc.length c1) p.hasExt p.profile.toNat (.slice a2 p.ext.length c2) (.slice a3 p.payload.length c3) (.slice a4 p.pad.length c4)) 88))
  unfold pc at hF ⊢
  clear hV
  go_enter Try.func60, Try.ntmps60
  go_wp2
  go_ret
  exact ⟨rfl, hF.out⟩

set_option maxRecDepth 100000 in
set_option maxHeartbeats 1000000 in
theorem Seq_any {w : World} {v : Value} {l : List UInt8} (hl : Bytes w v l) :
    Calls Try.prog 21 #[v] w fun e w' => (∃ p, parseR l = .ok p ∧ e = .returned (.tuple #[.int .u16 (p.seq.toNat : Nat), .bool true]) ∧ Fr [] w w') ∨
      (∃ k, parseR l = .error k ∧ e = .returned (.tuple #[.int .u16 0, .bool false]) ∧ Fr [] w w') := by
  have H : Calls Try.prog 59 #[v, .func (.func 60) #[] #[]] w fun e w' => (∃ p, parseR l = .ok p ∧ e = .returned (.tuple #[.int .u16 (p.seq.toNat : Nat), .bool true]) ∧ Fr [] w w') ∨
      (∃ k, parseR l = .error k ∧ e = .returned (.tuple #[.int .u16 0, .bool false]) ∧ Fr [] w w') := by
    obtain ⟨a, cap, rfl⟩ := hl.shape
    simp only [List.length_map] at hl ⊢
    have HL := Lib.hid hl
    clear hl
    go_enter Try.func59, Try.ntmps59
    go_wp2_with fail
    refine (Parse_any HL.out).mono ?_
    rintro e w3 (⟨v', p, hp, rfl, hV, hF3⟩ | ⟨k, hp, rfl, hF3⟩)
    · have HV := Lib.hid hV; have HP := Lib.hid hp; have HF := Lib.hid hF3
      obtain ⟨a1, c1, a2, c2, a3, c3, a4, c4, rfl, -, -, -, -⟩ := hV.open_
      clear hV hp hF3
      go_wp2_with (first | (refine wpList_store_row rfl 88 (.tmp 6) (.tmp 12) rfl w3.heap.size rfl _ _ rfl 88 (Box.new w3 88 #[.bool false, .int .i64 0, .int .u16 0, .int .u32 0, .int .u32 0, .slice none 0 0, .bool false, .int .u16 0, .slice none 0 0, .slice none 0 0, .slice none 0 0]) (by kernel_rfl) rfl (oneCell_pc _ _ _ _ _ _ _ _ _ _ _ ⟨_, _, _, rfl⟩ ⟨_, _, _, rfl⟩ ⟨_, _, _, rfl⟩ ⟨_, _, _, rfl⟩) ?_; intro w4 hY hG; have HF4 := Lib.hid (((Fr.refl [] w3).alloc _).step hG (by simp)); have HY := Lib.hid hY; clear hY hG) | (refine wpList_load_row rfl 88 (.tmp 6) rfl w3.heap.size rfl 88 _ _ _ HY.out Try.underlying88 rfl (by kernel_rfl) ?_))
      refine (Seq1_any (HV.out.keep HF4.out)).mono ?_
      rintro e w5 ⟨rfl, hF5⟩
      have HF5 := Lib.hid ((HF.out.trans HF4.out).trans hF5)
      clear hF5
      go_wp2_with fail
      go_ret2
      exact .inl ⟨p, HP.out, rfl, HF5.out⟩
    · have HP := Lib.hid hp; have HF := Lib.hid hF3
      have hk : (k != 0) = true := by simpa using parseR_err hp
      clear hp hF3
      unfold pz
      go_wp2_with (refine wpList_store_row rfl 88 (.tmp 6) (.tmp 12) rfl w3.heap.size rfl _ _ rfl 88 (Box.new w3 88 #[.bool false, .int .i64 0, .int .u16 0, .int .u32 0, .int .u32 0, .slice none 0 0, .bool false, .int .u16 0, .slice none 0 0, .slice none 0 0, .slice none 0 0]) (by kernel_rfl) rfl oneCell_pz ?_; intro w4 hY hG; have HF4 := Lib.hid (((Fr.refl [] w3).alloc _).step hG (by simp)); have HY := Lib.hid hY; clear hY hG)
      go_ret2
      exact .inr ⟨k, HP.out, rfl, HF.out.trans HF4.out⟩
  go_enter Try.func21, Try.ntmps21
  go_wp2_with fail
  refine H.mono ?_
  rintro e w3 (⟨p, hp, rfl, hF⟩ | ⟨k, hp, rfl, hF⟩)
  · have HP := Lib.hid hp; have HF := Lib.hid hF
    clear hp hF H
    go_wp2_with fail
    go_ret2
    exact .inl ⟨p, HP.out, rfl, HF.out⟩
  · have HP := Lib.hid hp; have HF := Lib.hid hF
    clear hp hF H
    go_wp2_with fail
    go_ret2
    exact .inr ⟨k, HP.out, rfl, HF.out⟩

set_option maxHeartbeats 400000 in
theorem SSRC1_any {w : World} {base : Nat} {v : Value} {p : Pkt} (hV : PktV w base v p) :
    Calls Try.prog 62 #[v] w fun e w' => e = .returned (.int .u32 (p.ssrc.toNat : Nat)) ∧ Fr [] w w' := by
  obtain ⟨a1, c1, a2, c2, a3, c3, a4, c4, rfl, -, -, -, -⟩ := hV.open_
  have hF := Lib.hid ((Fr.refl [] w).alloc (.cells (pc p.marker p.pt p.seq.toNat p.ts.toNat p.ssrc.toNat (.slice a1 p.csrc.length c1) p.hasExt p.profile.toNat (.slice a2 p.ext.length c2) (.slice a3 p.payload.length c3) (.slice a4 p.pad.length c4)) 88))
  unfold pc at hF ⊢
  clear hV
  go_enter Try.func62, Try.ntmps62
  go_wp2
  go_ret
  exact ⟨rfl, hF.out⟩

set_option maxRecDepth 100000 in
set_option maxHeartbeats 1000000 in
theorem SSRC_any {w : World} {v : Value} {l : List UInt8} (hl : Bytes w v l) :
    Calls Try.prog 22 #[v] w fun e w' => (∃ p, parseR l = .ok p ∧ e = .returned (.tuple #[.int .u32 (p.ssrc.toNat : Nat), .bool true]) ∧ Fr [] w w') ∨
      (∃ k, parseR l = .error k ∧ e = .returned (.tuple #[.int .u32 0, .bool false]) ∧ Fr [] w w') := by
  have H : Calls Try.prog 61 #[v, .func (.func 62) #[] #[]] w fun e w' => (∃ p, parseR l = .ok p ∧ e = .returned (.tuple #[.int .u32 (p.ssrc.toNat : Nat), .bool true]) ∧ Fr [] w w') ∨
      (∃ k, parseR l = .error k ∧ e = .returned (.tuple #[.int .u32 0, .bool false]) ∧ Fr [] w w') := by
    obtain ⟨a, cap, rfl⟩ := hl.shape
    simp only [List.length_map] at hl ⊢
    have HL := Lib.hid hl
    clear hl
    go_enter Try.func61, Try.ntmps61
    go_wp2_with fail
    refine (Parse_any HL.out).mono ?_
    rintro e w3 (⟨v', p, hp, rfl, hV, hF3⟩ | ⟨k, hp, rfl, hF3⟩)
    · have HV := Lib.hid hV; have HP := Lib.hid hp; have HF := Lib.hid hF3
      obtain ⟨a1, c1, a2, c2, a3, c3, a4, c4, rfl, -, -, -, -⟩ := hV.open_
      clear hV hp hF3
      go_wp2_with (first | (refine wpList_store_row rfl 88 (.tmp 6) (.tmp 12) rfl w3.heap.size rfl _ _ rfl 88 (Box.new w3 88 #[.bool false, .int .i64 0, .int .u16 0, .int .u32 0, .int .u32 0, .slice none 0 0, .bool false, .int .u16 0, .slice none 0 0, .slice none 0 0, .slice none 0 0]) (by kernel_rfl) rfl (oneCell_pc _ _ _ _ _ _ _ _ _ _ _ ⟨_, _, _, rfl⟩ ⟨_, _, _, rfl⟩ ⟨_, _, _, rfl⟩ ⟨_, _, _, rfl⟩) ?_; intro w4 hY hG; have HF4 := Lib.hid (((Fr.refl [] w3).alloc _).step hG (by simp)); have HY := Lib.hid hY; clear hY hG) | (refine wpList_load_row rfl 88 (.tmp 6) rfl w3.heap.size rfl 88 _ _ _ HY.out Try.underlying88 rfl (by kernel_rfl) ?_))
      refine (SSRC1_any (HV.out.keep HF4.out)).mono ?_
      rintro e w5 ⟨rfl, hF5⟩
      have HF5 := Lib.hid ((HF.out.trans HF4.out).trans hF5)
      clear hF5
      go_wp2_with fail
      go_ret2
      exact .inl ⟨p, HP.out, rfl, HF5.out⟩
    · have HP := Lib.hid hp; have HF := Lib.hid hF3
      have hk : (k != 0) = true := by simpa using parseR_err hp
      clear hp hF3
      unfold pz
      go_wp2_with (refine wpList_store_row rfl 88 (.tmp 6) (.tmp 12) rfl w3.heap.size rfl _ _ rfl 88 (Box.new w3 88 #[.bool false, .int .i64 0, .int .u16 0, .int .u32 0, .int .u32 0, .slice none 0 0, .bool false, .int .u16 0, .slice none 0 0, .slice none 0 0, .slice none 0 0]) (by kernel_rfl) rfl oneCell_pz ?_; intro w4 hY hG; have HF4 := Lib.hid (((Fr.refl [] w3).alloc _).step hG (by simp)); have HY := Lib.hid hY; clear hY hG)
      go_ret2
      exact .inr ⟨k, HP.out, rfl, HF.out.trans HF4.out⟩
  go_enter Try.func22, Try.ntmps22
  go_wp2_with fail
  refine H.mono ?_
  rintro e w3 (⟨p, hp, rfl, hF⟩ | ⟨k, hp, rfl, hF⟩)
  · have HP := Lib.hid hp; have HF := Lib.hid hF
    clear hp hF H
    go_wp2_with fail
    go_ret2
    exact .inl ⟨p, HP.out, rfl, HF.out⟩
  · have HP := Lib.hid hp; have HF := Lib.hid hF
    clear hp hF H
    go_wp2_with fail
    go_ret2
    exact .inr ⟨k, HP.out, rfl, HF.out⟩

end Go.Proofs.Ytchbgiindfoepaa
