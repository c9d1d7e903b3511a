/- The walks of remap's Bytes and Back (printed by gen_remap4.py). -/
import Derived.Test.YticoongkfhkjgaaRemap3
import Derived.Test.YticoongkfhkjgaaPart
import Derived.Test.YticoongkfhkjgaaRtpWrite2
import Derived.Test.YticoongkfhkjgaaRef1
namespace Go.Proofs.Yticoongkfhkjgaa
open Go.RowKit

theorem Pkt.Fit.sm {p : Pkt} (h : p.Fit) : p.Small := by
  have h1 := h.size
  have h2 := h.ext
  unfold Pkt.size at h1
  unfold Pkt.extOk at h2
  unfold Pkt.Small
  cases he : p.hasExt with
  | false =>
    rw [he] at h1 h2
    simp at h1 h2
    rw [h2.2]
    simp only [List.length_nil]
    omega
  | true =>
    rw [he] at h1 h2
    simp at h1 h2
    omega
theorem OwnB.nilOr {w : World} {base : Nat} {v : Value} {l : List UInt8} (h : OwnB w base v l) : ∃ a c, v = .slice a l.length c := by
  obtain ⟨a, c, e⟩ := h.bytes.shape
  exact ⟨a, c, by rw [e, List.length_map]⟩

set_option maxRecDepth 100000 in
set_option maxHeartbeats 4000000 in
theorem rmBytes_any {w : World} {g : Nat} {m : RMap} {v : Value} {l : List UInt8} (hB : Box w g 132 (mc m)) (hm : m.Ok) (hl : Bytes w v l) :
    Calls Try.prog 51 #[.pointer (some ⟨g, 0, none⟩), v] w fun e w' =>
      (∃ p v', parseR l = .ok p ∧ e = .returned (.tuple #[v', .int .i64 0]) ∧ OwnB w' w.heap.size v' (m.out p).bytes ∧ Box w' g 132 (mc (m.step_ p)) ∧ Fr [g] w w') ∨
      (∃ k, parseR l = .error k ∧ e = .returned (.tuple #[.slice none 0 0, .int .i64 k]) ∧ Box w' g 132 (mc m) ∧ Fr [] w w') := by
  have HM := Lib.hid hB; have HL := Lib.hid hl; have HOK := Lib.hid hm
  have HGL := Lib.hid hB.lt
  clear hB hl hm
  go_enter Try.func51, Try.ntmps51
  go_wp2_with fail
  refine (Parse_any HL.out).mono ?_
  rintro e w1 (⟨vq, p, hp, rfl, hVq, hF⟩ | ⟨k, hp, rfl, hF⟩)
  · obtain ⟨hwq, -⟩ := parse_back hp
    have HP := Lib.hid hp; have HWQ := Lib.hid hwq; have HVq := Lib.hid hVq; have HF := Lib.hid hF; have HM := Lib.hid (HM.out.keep hF)
    obtain ⟨b1, d1, b2, d2, b3, d3, b4, d4, rfl, -, -, -, -⟩ := hVq.open_
    have HZ : Hid (w.heap.size ≤ w1.heap.size) := Lib.hid hF.size
    clear hp hwq hVq hF HL
    go_wp2_with (first | (refine wpList_store_row rfl 67 (.tmp 6) (.tmp 11) rfl w1.heap.size rfl _ _ rfl 67 (Box.new w1 67 #[.bool false, .int .i64 0, .int .u16 0, .int .u32 0, .int .u32 0, .slice none 0 0, .bool false, .int .u16 0, .slice none 0 0, .slice none 0 0, .slice none 0 0]) (by kernel_rfl) rfl (oneCell_pc _ _ _ _ _ _ _ _ _ _ _ ⟨_, _, _, rfl⟩ ⟨_, _, _, rfl⟩ ⟨_, _, _, rfl⟩ ⟨_, _, _, rfl⟩) ?_; intro w2 hY hG; have hFn := ((Fr.refl [] w1).alloc _).step hG (by simp); have HY := Lib.hid hY; have HFn := Lib.hid hFn; clear hG hFn hY) | (refine wpList_load_row rfl 67 (.tmp 6) rfl w1.heap.size rfl 67 _ _ _ HY.out Try.underlying67 rfl (by kernel_rfl) ?_))
    have hF := HFn.out
    have HF := Lib.hid (HF.out.trans hF); have HVq := Lib.hid (HVq.out.keep hF); have HM := Lib.hid (HM.out.keep hF)
    have HZ : Hid (w.heap.size ≤ w2.heap.size) := Lib.hid (Nat.le_trans HZ.out hF.size)
    clear hF HFn HY
    refine (rmOf_any HM.out HOK.out HGL.out HVq.out (Pkt.fit HWQ.out).sm).mono ?_
    rintro e w3 ⟨vo, rfl, hVo, hMo, hF⟩
    have HVo := Lib.hid hVo; have HM := Lib.hid hMo; have HF := Lib.hid (HF.out.any.trans hF)
    have HZ : Hid (w.heap.size ≤ w3.heap.size) := Lib.hid (Nat.le_trans HZ.out hF.size)
    clear hVo hMo hF HVq
    go_wp2_with fail
    refine (Write_ok HVo.out (Pkt.fit (RMap.out_wrong HOK.out HWQ.out)).sm (RMap.out_wrong HOK.out HWQ.out)).mono ?_
    rintro e w4 ⟨vr, rfl, hO, hF⟩
    have HM := Lib.hid (HM.out.keep hF); have HF := Lib.hid (HF.out.quiet hF); have HO := Lib.hid (hO.mono HZ.out)
    clear hO hF HVo
    go_wp2_with fail
    go_ret2
    exact .inl ⟨p, vr, HP.out, rfl, HO.out, HM.out, HF.out⟩
  · have HP := Lib.hid hp; have HF := Lib.hid hF; have HM := Lib.hid (HM.out.keep hF)
    have hk : (k != 0) = true := by simpa using parseR_err hp
    clear hp hF HL
    unfold pz
    go_wp2_with (refine wpList_store_row rfl 67 (.tmp 6) (.tmp 11) rfl w1.heap.size rfl _ _ rfl 67 (Box.new w1 67 #[.bool false, .int .i64 0, .int .u16 0, .int .u32 0, .int .u32 0, .slice none 0 0, .bool false, .int .u16 0, .slice none 0 0, .slice none 0 0, .slice none 0 0]) (by kernel_rfl) rfl (oneCell_pz) ?_; intro w2 hY hG; have hFn := ((Fr.refl [] w1).alloc _).step hG (by simp); have HFn := Lib.hid hFn; clear hG hFn hY)
    go_ret2
    exact .inr ⟨k, HP.out, rfl, HM.out.keep HFn.out, HF.out.trans HFn.out⟩

set_option maxRecDepth 100000 in
set_option maxHeartbeats 4000000 in
theorem rmBack_any {w : World} {v : Value} {l : List UInt8} (hl : Bytes w v l) (sq : UInt16) (ts ss : UInt32) (pt : Int) :
    Calls Try.prog 61 #[v, .int .u16 (sq.toNat : Nat), .int .u32 (ts.toNat : Nat), .int .u32 (ss.toNat : Nat), .int .i64 pt] w fun e w' =>
      (∃ p v', parseR l = .ok p ∧ (0 ≤ pt ∧ pt < 128) ∧ e = .returned (.tuple #[v', .int .i64 0]) ∧ OwnB w' w.heap.size v' (p.turn sq ts ss pt).bytes ∧ Fr [] w w') ∨
      (∃ p, parseR l = .ok p ∧ ¬ (0 ≤ pt ∧ pt < 128) ∧ e = .returned (.tuple #[.slice none 0 0, .int .i64 1]) ∧ Fr [] w w') ∨
      (∃ k, parseR l = .error k ∧ e = .returned (.tuple #[.slice none 0 0, .int .i64 k]) ∧ Fr [] w w') := by
  have HL := Lib.hid hl
  clear hl
  go_enter Try.func61, Try.ntmps61
  go_wp2_with fail
  refine (Parse_any HL.out).mono ?_
  rintro e w1 (⟨vq, p, hp, rfl, hVq, hF⟩ | ⟨k, hp, rfl, hF⟩)
  · obtain ⟨hwq, -⟩ := parse_back hp
    have HP := Lib.hid hp; have HWQ := Lib.hid hwq; have HF := Lib.hid hF
    have HVQ := Lib.hid hVq
    obtain ⟨b1, d1, b2, d2, b3, d3, b4, d4, rfl, -, -, -, -⟩ := hVq.open_
    have HZ : Hid (w.heap.size ≤ w1.heap.size) := Lib.hid hF.size
    clear hp hwq hVq hF HL
    go_wp2_with (first | (refine wpList_store_row rfl 67 (.tmp 12) (.tmp 17) rfl w1.heap.size rfl _ _ rfl 67 (Box.new w1 67 #[.bool false, .int .i64 0, .int .u16 0, .int .u32 0, .int .u32 0, .slice none 0 0, .bool false, .int .u16 0, .slice none 0 0, .slice none 0 0, .slice none 0 0]) (by kernel_rfl) rfl (oneCell_pc _ _ _ _ _ _ _ _ _ _ _ ⟨_, _, _, rfl⟩ ⟨_, _, _, rfl⟩ ⟨_, _, _, rfl⟩ ⟨_, _, _, rfl⟩) ?_; intro w2 hY hG; have hFn := ((Fr.refl [] w1).alloc _).step hG (by simp); obtain ⟨wA, eA, hFA, hBA, -⟩ := set_new hY 2 (.int .u16 (sq.toNat : Nat)); obtain ⟨wB, eB, hFB, hBB, -⟩ := set_new hBA 3 (.int .u32 (ts.toNat : Nat)); obtain ⟨wC, eC, hFC, hBC, -⟩ := set_new hBB 4 (.int .u32 (ss.toNat : Nat)); obtain ⟨wD, eD, hFD, hBD, -⟩ := set_new hBC 1 (.int .i64 pt); have HFn := Lib.hid hFn; have HFA := Lib.hid hFA; have HFB := Lib.hid hFB; have HFC := Lib.hid hFC; have HFD := Lib.hid hFD; have r2 := hY.free 2; have r3 := hBA.free 3; have r4 := hBB.free 4; have r1 := hBC.free 1; have s2 := hY.cell 2; have s3 := hBA.cell 3; have s4 := hBB.cell 4; have s1 := hBC.cell 1; simp only [pc, List.getElem?_toArray, List.getElem?_cons_succ, List.getElem?_cons_zero, List.setIfInBounds_toArray, List.set_cons_succ, List.set_cons_zero] at s1 s2 s3 s4 hBD; have HQ0 := Lib.hid hBD; clear hFn hFA hFB hFC hFD hY hBA hBB hBC hBD hG) | (refine wpList_load_row rfl 67 (.tmp 12) rfl w1.heap.size rfl 67 _ _ _ HQ0.out Try.underlying67 rfl (by kernel_rfl) ?_))
    clear r1 r2 r3 r4 s1 s2 s3 s4 eA eB eC eD
    have hnew : ∀ x ∈ [w1.heap.size], x ∈ ([] : List Nat) ∨ w1.heap.size ≤ x := fun x hx => by simp at hx; subst hx; exact .inr (Nat.le_refl _)
    have hF := (((HFn.out.step HFA.out hnew).step HFB.out hnew).step HFC.out hnew).step HFD.out hnew
    have HF := Lib.hid (HF.out.trans hF)
    have HVT := Lib.hid ((HVQ.out.keep hF).turn sq ts ss pt)
    have HZ : Hid (w.heap.size ≤ wD.heap.size) := Lib.hid (Nat.le_trans HZ.out hF.size)
    clear hF hnew HFn HFA HFB HFC HFD HQ0 HVQ
    by_cases hpt : 0 ≤ pt ∧ pt < 128
    · have HW := Lib.hid (Pkt.turn_wrong HWQ.out sq ts ss hpt.1 hpt.2)
      have HPT := Lib.hid hpt
      clear hpt
      refine (Write_ok HVT.out (Pkt.fit HW.out).sm HW.out).mono ?_
      rintro e w4 ⟨vr, rfl, hO, hF⟩
      have HF := Lib.hid (HF.out.trans hF); have HO := Lib.hid (hO.mono HZ.out)
      clear hO hF
      go_wp2_with fail
      go_ret2
      exact .inl ⟨p, vr, HP.out, HPT.out, rfl, HO.out, HF.out⟩
    · have hwr : (p.turn sq ts ss pt).wrong = 1 := by
        unfold Pkt.wrong
        rw [if_pos (show (p.turn sq ts ss pt).pt < 0 ∨ 128 ≤ (p.turn sq ts ss pt).pt ∨ _ from by show pt < 0 ∨ 128 ≤ pt ∨ _; omega)]
      have HW := Lib.hid hwr
      have HPT := Lib.hid hpt
      clear hpt hwr
      refine (Write_err HVT.out (Pkt.turn_small (Pkt.fit HWQ.out).sm sq ts ss pt) (by rw [HW.out]; omega)).mono ?_
      rintro e w4 ⟨rfl, hF⟩
      rw [HW.out]
      have HF := Lib.hid (HF.out.trans hF)
      clear hF
      go_wp2_with fail
      go_ret2
      exact .inr (.inl ⟨p, HP.out, HPT.out, rfl, HF.out⟩)
  · have HP := Lib.hid hp; have HF := Lib.hid hF
    have hk : (k != 0) = true := by simpa using parseR_err hp
    clear hp hF HL
    unfold pz
    go_wp2_with (refine wpList_store_row rfl 67 (.tmp 12) (.tmp 17) rfl w1.heap.size rfl _ _ rfl 67 (Box.new w1 67 #[.bool false, .int .i64 0, .int .u16 0, .int .u32 0, .int .u32 0, .slice none 0 0, .bool false, .int .u16 0, .slice none 0 0, .slice none 0 0, .slice none 0 0]) (by kernel_rfl) rfl (oneCell_pz) ?_; intro w2 hY hG; have hFn := ((Fr.refl [] w1).alloc _).step hG (by simp); have HFn := Lib.hid hFn; clear hG hFn hY)
    go_ret2
    exact .inr (.inr ⟨k, HP.out, rfl, HF.out.trans HFn.out⟩)
end Go.Proofs.Yticoongkfhkjgaa
