/- The walk of confluxref23.Bytes (printed by gen_r23bytes.py). -/
import Derived.Test.YticoongkfhkjgaaR23
import Derived.Test.YticoongkfhkjgaaR5Write
import Derived.Test.YticoongkfhkjgaaRemap4
import Derived.Test.YticoongkfhkjgaaR5Parse
import Derived.Test.YticoongkfhkjgaaZone
namespace Go.Proofs.Yticoongkfhkjgaa
open Go.RowKit

theorem u32_nat (a : UInt32) : ((a.toNat : Nat) : Int) = (a.toNat : Nat) := rfl
set_option maxRecDepth 100000 in
set_option maxHeartbeats 8000000 in
theorem R23Bytes_any {w : World} {m : RMap} {v : Value} {l : List UInt8} (hm : m.Ok) (hl : Bytes w v l) :
    Calls Try.prog 52 #[.agg (mc m), v] w fun e w' =>
      (∃ p v', parseR l = .ok p ∧ e = .returned (.tuple #[.agg (mc (m.step_ p)), v', .int .i64 0]) ∧ OwnB w' w.heap.size v' (m.out p).bytes ∧ Fr [] w w') ∨
      (∃ k, parseR l = .error k ∧ e = .returned (.tuple #[.agg (mc m), .slice none 0 0, .int .i64 k]) ∧ Fr [] w w') := by
  have HL := Lib.hid hl; have HOK := Lib.hid hm
  obtain ⟨w1, e1, hF1, hB1, hB2, hs1⟩ := two_new w (mc m) 88 #[.int .u32 0, .int .i64 0, .int .u16 0, .int .u32 0, .int .i64 0, .int .u32 0, .bool false, .int .i64 0, .int .i64 0] 88
  have HF := Lib.hid hF1; have HL := Lib.hid (Sl.keep HL.out hF1); have HM := Lib.hid hB1; have HR := Lib.hid hB2; have E1 := Lib.hid e1
  have HS1 : Hid (w.heap.size + 2 ≤ w1.heap.size) := Lib.hid (by omega)
  clear hl hm hF1 hB1 hB2 hs1 e1
  go_enter Try.func52, Try.ntmps52
  go_upto_region 1 with (fail)
  rw [E1.out]
  clear E1
  generalize hG : w.heap.size = g at *
  have HG := Lib.hid hG
  clear hG
  go_wp2_with fail
  refine (R5Parse_any HL.out).mono ?_
  rintro e w2 (⟨vq, p, hp, rfl, hVq, hF⟩ | ⟨k, hp, rfl, hF⟩)
  rotate_left
  · have HP := Lib.hid hp
    have hk : (k != 0) = true := by simpa using parseR_err hp
    have HF := Lib.hid (HF.out.trans hF)
    have HM := Lib.hid (HM.out.keep hF)
    have HR := Lib.hid (HR.out.keep hF)
    have HS2 : Hid (g + 2 ≤ w2.heap.size) := Lib.hid (Nat.le_trans HS1.out hF.size)
    clear hp hF HL HS1
    unfold pz
    go_upto_region 2 with (refine wpList_store_row rfl 67 (.tmp 7) (.tmp 15) rfl w2.heap.size rfl _ _ rfl 67 (Box.new w2 67 #[.bool false, .int .i64 0, .int .u16 0, .int .u32 0, .int .u32 0, .slice none 0 0, .bool false, .int .u16 0, .slice none 0 0, .slice none 0 0, .slice none 0 0]) (by kernel_rfl) rfl (by simp [Value.oneCell']) ?_; intro w3 hY hG; have hFn := ((Fr.refl [] w2).alloc _).step hG (by simp); have HFn := Lib.hid hFn; have HY := Lib.hid hY; clear hG hFn hY)
    have hF := HFn.out
    have HF := Lib.hid (HF.out.trans hF)
    have HM := Lib.hid (HM.out.keep hF)
    have HR := Lib.hid (HR.out.keep hF)
    clear hF HFn HY
    go_upto_region 3 with fail
    go_wp2_with (first | (refine wpList_load_row_w rfl 88 (.tmp 2) rfl g rfl 88 _ _ HM.out Try.underlying88 rfl (by kernel_rfl) ?_) | (refine wpList_store_row rfl 88 (.tmp 4) (.tmp 19) rfl (g + 1) rfl _ _ rfl 88 HR.out (by kernel_rfl) rfl (oneCell_mc m) ?_; intro w4 hY hG; have HY := Lib.hid hY; have HGr := Lib.hid hG; clear hY hG))
    refine bodyPost_ret (results_row_2 rfl _ _ (g + 1) 88 _ _ rfl HY.out Try.underlying88 rfl (by kernel_rfl)) rfl (.inr ⟨k, HP.out, rfl, HF.out.step HGr.out (by simp; have := HG.out; omega)⟩)
  obtain ⟨hwq, -⟩ := parse_back hp
  have HP := Lib.hid hp; have HWQ := Lib.hid hwq; have HVq := Lib.hid hVq
  obtain ⟨b1, d1, b2, d2, b3, d3, b4, d4, rfl, -, -, -, -⟩ := hVq.open_
  have HF := Lib.hid (HF.out.trans hF)
  have HM := Lib.hid (HM.out.keep hF)
  have HR := Lib.hid (HR.out.keep hF)
  have HS2 : Hid (g + 2 ≤ w2.heap.size) := Lib.hid (Nat.le_trans HS1.out hF.size)
  clear hp hwq hVq hF HL
  go_upto_region 2 with (refine wpList_store_row rfl 67 (.tmp 7) (.tmp 15) rfl w2.heap.size rfl _ _ rfl 67 (Box.new w2 67 #[.bool false, .int .i64 0, .int .u16 0, .int .u32 0, .int .u32 0, .slice none 0 0, .bool false, .int .u16 0, .slice none 0 0, .slice none 0 0, .slice none 0 0]) (by kernel_rfl) rfl (oneCell_pc _ _ _ _ _ _ _ _ _ _ _ ⟨_, _, _, rfl⟩ ⟨_, _, _, rfl⟩ ⟨_, _, _, rfl⟩ ⟨_, _, _, rfl⟩) ?_; intro w3 hY hG; have hFn := ((Fr.refl [] w2).alloc _).step hG (by simp); have HFn := Lib.hid hFn; have HY := Lib.hid hY; clear hG hFn hY)
  have hF := HFn.out
  have HF := Lib.hid (HF.out.trans hF)
  have HM := Lib.hid (HM.out.keep hF)
  have HR := Lib.hid (HR.out.keep hF)
  have HVq := Lib.hid (HVq.out.keep hF)
  have HPB := HY
  have HS3 : Hid (w2.heap.size + 1 ≤ w3.heap.size) := Lib.hid HPB.out.lt
  clear hF HFn HY
  generalize hgp : w2.heap.size = gp at *
  have HS4 : Hid (g + 2 ≤ gp) := Lib.hid HS2.out
  clear hgp
  go_upto_region 4 with fail
  go_wp2_with (first | (refine wpList_load_row_w rfl 88 (.tmp 2) rfl g rfl 88 _ _ HM.out Try.underlying88 rfl (by kernel_rfl) ?_) | (refine wpList_load_row_w rfl 67 (.tmp 7) rfl gp rfl 67 _ _ HPB.out Try.underlying67 rfl (by kernel_rfl) ?_))
  refine (R23Of_any HOK.out HVq.out).mono ?_
  rintro e w4 ⟨vo, rfl, hVo, hF⟩
  have HVo := Lib.hid hVo
  obtain ⟨e1, i1, e2, i2, e3, i3, e4, i4, rfl, -, -, -, -⟩ := hVo.open_
  have HF := Lib.hid (HF.out.trans hF)
  have HM := Lib.hid (HM.out.keep hF)
  have HR := Lib.hid (HR.out.keep hF)
  have HS5 : Hid (gp + 1 ≤ w4.heap.size) := Lib.hid (Nat.le_trans HS3.out hF.size)
  clear hVo hF HVq HPB
  go_upto_region 5 with (first | (refine wpList_store_row rfl 88 (.tmp 2) (.tmp 25) rfl g rfl _ _ rfl 88 (HM.out.keep ((Fr.refl [] w4).alloc _)) (by kernel_rfl) rfl (oneCell_mc (m.step_ p)) ?_; intro w5 hY hG; have HY5 := Lib.hid hY; have HG5 := Lib.hid hG; have HO5 := Lib.hid ((Box.new w4 67 #[.bool false, .int .i64 0, .int .u16 0, .int .u32 0, .int .u32 0, .slice none 0 0, .bool false, .int .u16 0, .slice none 0 0, .slice none 0 0, .slice none 0 0]).fr hG (by simp; have := HS5.out; have := HS4.out; omega)); clear hY hG) | (refine wpList_store_row rfl 67 (.tmp 9) (.tmp 26) rfl w4.heap.size rfl _ _ rfl 67 HO5.out (by kernel_rfl) rfl (oneCell_pc _ _ _ _ _ _ _ _ _ _ _ ⟨_, _, _, rfl⟩ ⟨_, _, _, rfl⟩ ⟨_, _, _, rfl⟩ ⟨_, _, _, rfl⟩) ?_; intro w6 hY hG; have HY6 := Lib.hid hY; have HG6 := Lib.hid hG; clear hY hG))
  have HPB0 := Lib.hid (PktV.bound HVo.out)
  have HF : Hid (Fr [] w w6) := Lib.hid (((HF.out.alloc _).step HG5.out (by simp; have := HG.out; omega)).step HG6.out (by simp; have := HG.out; have := HS5.out; have := HS4.out; omega))
  have HR : Hid (Box w6 (g + 1) 88 _) := Lib.hid (((HR.out.keep ((Fr.refl [] w4).alloc _)).fr HG5.out (by simp)).fr HG6.out (by simp; have := HS5.out; have := HS4.out; omega))
  have HM : Hid (Box w6 g 88 _) := Lib.hid (HY5.out.fr HG6.out (by simp; have := HS5.out; have := HS4.out; omega))
  have HVo := Lib.hid (PktV.frB (PktV.fr (HVo.out.keep ((Fr.refl [] w4).alloc _)) HG5.out (by simp; have := HS1.out; omega)) HPB0.out HG6.out)
  have HQB := HY6
  have HS6 : Hid (g + 2 ≤ w6.heap.size) := Lib.hid (by have h1 := HG5.out.size; have h2 := HG6.out.size; have := HS5.out; have := HS4.out; simp at h1; omega)
  clear HY5 HG5 HO5 HY6 HG6 HPB0
  generalize hgq : w4.heap.size = gq at *
  clear hgq
  go_wp2_with (refine wpList_load_row_w rfl 67 (.tmp 9) rfl gq rfl 67 _ _ HQB.out Try.underlying67 rfl (by kernel_rfl) ?_)
  refine (R5Write_ok HVo.out (Pkt.fit (RMap.out_wrong HOK.out HWQ.out)).sm (RMap.out_wrong HOK.out HWQ.out)).mono ?_
  rintro e w7 ⟨vr, rfl, hO, hF⟩
  have HO := Lib.hid hO
  have HF := Lib.hid (HF.out.trans hF)
  have HM := Lib.hid (HM.out.keep hF)
  have HR := Lib.hid (HR.out.keep hF)
  clear hO hF HVo HQB
  go_wp2_with (first | (refine wpList_load_row_w rfl 88 (.tmp 2) rfl g rfl 88 _ _ HM.out Try.underlying88 rfl (by kernel_rfl) ?_) | (refine wpList_store_row rfl 88 (.tmp 4) (.tmp 32) rfl (g + 1) rfl _ _ rfl 88 HR.out (by kernel_rfl) rfl (oneCell_mc (m.step_ p)) ?_; intro w8 hY hG; have HY := Lib.hid hY; have HGr := Lib.hid hG; clear hY hG))
  refine bodyPost_ret (results_row_2 rfl _ _ (g + 1) 88 _ _ rfl HY.out Try.underlying88 rfl (by kernel_rfl)) rfl (.inl ⟨p, _, HP.out, rfl, (HO.out.fr HGr.out (fun b hb hm => by have := (HO.out.block b hb).1; have := HS6.out; simp at hm; omega)).mono (by have := HS6.out; have := HG.out; omega), HF.out.step HGr.out (by simp; have := HG.out; omega)⟩)
end Go.Proofs.Yticoongkfhkjgaa
