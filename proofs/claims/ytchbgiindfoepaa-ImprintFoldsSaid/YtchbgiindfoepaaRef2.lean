/- The walks of confluxref01.Copy and Number. -/
import Derived.Test.YtchbgiindfoepaaBig
namespace Go.Proofs.Ytchbgiindfoepaa
open Go.RowKit

set_option maxHeartbeats 1000000 in
theorem RCopy_any {w : World} {v : Value} {l : List UInt8} (h : Bytes w v l) (hl : l.length ≤ 1099511627776) :
    Calls Try.prog 28 #[v] w fun e w' => ∃ v', e = .returned v' ∧ OwnB w' w.heap.size v' l ∧ Fr [] w w' := by
  obtain ⟨av, cv, rfl⟩ := h.shape
  simp only [List.length_map] at h ⊢
  have H := Lib.hid h
  obtain ⟨w1, e1, hF1, hB1, hs1⟩ := one_new w #[] 5
  have H1 : Hid (OwnB w1 w.heap.size (.slice (some ⟨w.heap.size, 0, none⟩) 0 0) []) := Lib.hid (by subst e1; exact World.ownsRow_made w #[] 0 (Nat.le_refl _) (by unfold maxLen; omega) (by simp))
  have E1 := Lib.hid e1; have HF1 := Lib.hid hF1
  clear e1 hF1 hB1 hs1 h
  go_enter Try.func28, Try.ntmps28
  go_upto_region 3 with (fail)
  try rw [E1.out]
  clear E1
  go_loopw [3, 4] (fun out jv wr => ∃ j : Nat, j ≤ l.length ∧ jv = .int .i64 j ∧ OwnB wr w.heap.size out (l.take j) ∧ Fr [] w wr) (fun _ jv _ => l.length - (intOf jv).toNat)
  case atStart => exact ⟨0, Nat.zero_le _, rfl, H1.out, HF1.out⟩
  case round =>
    obtain ⟨j, hj, rfl, hO2, hF2⟩ := hrel
    obtain ⟨ao, no, co, rfl⟩ := hO2.isSlice
    have HO2 := Lib.hid hO2; have HF2 := Lib.hid hF2
    clear hO2 hF2
    by_cases hjl : j < l.length
    · obtain ⟨bp, op, ea, hbp, hcp⟩ := H.out.at_ hjl
      subst ea
      have e2 := HF2.out.cellSome (hcp j (B8 l[j]) (by rw [List.getElem?_map, List.getElem?_eq_getElem hjl]; rfl)) (by simp)
      unfold B8 at e2
      have hc : l[j].toNat < 256 := l[j].toNat_lt
      have HC : Hid (l.take (j + 1) = l.take j ++ [l[j]]) := Lib.hid (List.take_succ_eq_append_getElem hjl)
      have HBJ : Hid (B8 l[j] = .int .u8 (l[j].toNat : Nat)) := Lib.hid rfl
      have hlo : (l.take j).length ≤ 1099511627776 := by rw [List.length_take]; omega
      have HLO := Lib.hid hlo
      clear hcp hbp hlo
      generalize hcc : l[j].toNat = c at *
      clear hcc
      have A0 : Hid ((wr.alloc (.cells #[.int .u8 (c : Int)] 5)).ownsRow w.heap.size 5 1 (.slice ao no co) (l.take j).length ((l.take j).map B8)) := Lib.hid (Own.keep HO2.out ((Fr.refl [] wr).alloc _))
      have A1 : Hid ((l.take j).length + [Value.int .u8 (c : Int)].length ≤ maxLen) := Lib.hid (by have := HLO.out; unfold maxLen; simp only [List.length_singleton]; omega)
      have A2 : Hid (((l.take j).length + [Value.int .u8 (c : Int)].length) * 1 ≤ 140737488355328) := Lib.hid (by have := HLO.out; simp only [List.length_singleton]; omega)
      have A3 : Hid (Sl (wr.alloc (.cells #[.int .u8 (c : Int)] 5)) (.slice (some ⟨wr.heap.size, 0, none⟩) 1 1) [.int .u8 (c : Int)]) := Lib.hid (Sl.one wr _ _)
      have A4 : Hid (w.heap.size ≤ (wr.alloc (.cells #[.int .u8 (c : Int)] 5)).heap.size) := Lib.hid (by have := HF2.out.size; simp; omega)
      go_wp2_with (at_builtin; refine wpList_append_slf rfl (.tmp 12) (.tmp 17) 25 rfl w.heap.size 5 (.int .u8 0) 1 Try.underlying25 info_u8 rfl (.slice ao no co) (l.take j).length ((l.take j).map B8) rfl A0.out (.slice (some ⟨wr.heap.size, 0, none⟩) 1 1) [.int .u8 (c : Int)] rfl A3.out (oneCell_int .u8 (c : Int)) A1.out A2.out A4.out ?_; intro v' w3 ho hg hfr; have HO3 := Lib.hid ho; have HG := Lib.hid hg; clear ho hg hfr)
      have hN : OwnB w3 w.heap.size v' (l.take (j + 1)) := by
        have := HO3.out
        unfold OwnB
        rw [HC.out, List.map_append, List.length_append, List.map_cons, List.map_nil, HBJ.out]
        exact this
      have hF3 : Fr [] w w3 := (HF2.out.alloc _).step HG.out (fun x hx => .inr (HO2.out.block x (by simpa using hx)).1)
      have HN := Lib.hid hN; have HF3 := Lib.hid hF3
      clear hN hF3 e2
      go_roundw
      case rel => exact ⟨j + 1, by omega, by go_num, HN.out, HF3.out⟩
      case measure => simp [intOf]; omega
    · obtain rfl : j = l.length := by omega
      go_wp2_with fail
      go_ret
      refine ⟨_, rfl, ?_, HF2.out⟩
      have := HO2.out
      rwa [List.take_of_length_le (Nat.le_refl _)] at this

theorem u64_step (n c : Nat) (h : n * 256 + c < 18446744073709551616) : IntKind.u64.wrap (IntKind.u64.wrap ((n : Int) * 256) + (c : Int)) = ((n * 256 + c : Nat) : Int) := by
  have e : (n : Int) * 256 = ((n * 256 : Nat) : Int) := by simp
  have h2 : n * 256 < 18446744073709551616 := Nat.lt_of_le_of_lt (Nat.le_add_right _ _) h
  rw [e, wrap_u64_nat _ h2]
  have e2 : ((n * 256 : Nat) : Int) + (c : Int) = ((n * 256 + c : Nat) : Int) := by simp
  rw [e2, wrap_u64_nat _ h]
set_option maxHeartbeats 1000000 in
theorem RNumber_any {w : World} {v : Value} {l : List UInt8} (h : Bytes w v l) (hl : l.length ≤ 8) :
    Calls Try.prog 82 #[v] w fun e w' => e = .returned (.int .u64 (be l : Nat)) ∧ Fr [] w w' := by
  obtain ⟨av, cv, rfl⟩ := h.shape
  simp only [List.length_map] at h ⊢
  have H := Lib.hid h
  clear h
  go_enter Try.func82, Try.ntmps82
  go_wp2_with fail
  go_loopw [3, 4] (fun out jv wr => ∃ j : Nat, j ≤ l.length ∧ jv = .int .i64 j ∧ out = .int .u64 (be (l.take j) : Nat) ∧ Fr [] w wr) (fun _ jv _ => l.length - (intOf jv).toNat)
  case atStart => exact ⟨0, Nat.zero_le _, rfl, rfl, Fr.refl _ _⟩
  case round =>
    obtain ⟨j, hj, rfl, rfl, hF2⟩ := hrel
    have HF2 := Lib.hid hF2
    clear hF2
    by_cases hjl : j < l.length
    · obtain ⟨bp, op, ea, hbp, hcp⟩ := H.out.at_ hjl
      subst ea
      have e2 := HF2.out.cellSome (hcp j (B8 l[j]) (by rw [List.getElem?_map, List.getElem?_eq_getElem hjl]; rfl)) (by simp)
      unfold B8 at e2
      have hc : l[j].toNat < 256 := l[j].toNat_lt
      have HC := Lib.hid (be_take l j hjl)
      have hlt := be_lt (l.take (j + 1))
      have hp : 256 ^ (l.take (j + 1)).length ≤ 256 ^ 8 := Nat.pow_le_pow_right (by omega) (by rw [List.length_take]; omega)
      have hst := u64_step (be (l.take j)) l[j].toNat (by rw [HC.out] at hlt; omega)
      have hw0 := IntWalk.u64_in (l[j].toNat : Int) (by omega)
      clear hcp hbp hlt hp
      generalize l[j].toNat = c at *
      generalize be (l.take j) = n at *
      have HST := Lib.hid hst
      clear hst
      go_wp2_with fail
      go_roundw
      case rel => exact ⟨j + 1, by omega, by go_num, by rw [HST.out, HC.out], HF2.out⟩
      case measure => simp [intOf]; omega
    · obtain rfl : j = l.length := by omega
      go_wp2_with fail
      go_ret
      exact ⟨by rw [List.take_of_length_le (Nat.le_refl _)]; rfl, HF2.out⟩
end Go.Proofs.Ytchbgiindfoepaa
