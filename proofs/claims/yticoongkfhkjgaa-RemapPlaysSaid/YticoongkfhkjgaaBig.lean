/- The walk of confluxref01.Big. -/
import Derived.Test.YticoongkfhkjgaaRtpSame
import Derived.Test.YticoongkfhkjgaaCutPlain
namespace Go.Proofs.Yticoongkfhkjgaa
open Go.RowKit

theorem beN_cons (n m : Nat) : beN n (m + 1) = UInt8.ofNat (n / 256 ^ m) :: beN n m := by
  unfold beN
  rw [List.range_succ_eq_map, List.map_cons, List.map_map]
  congr 1
  refine List.map_congr_left fun j hj => ?_
  simp only [Function.comp]
  rw [show m + 1 - 1 - (j + 1) = m - 1 - j by omega]
theorem Sl_none {w : World} {g : Nat} {t : TypeId} (h : Box w g t #[]) : Sl w (.slice (some ⟨g, 0, none⟩) 0 0) [] :=
  ⟨some ⟨g, 0, none⟩, 0, rfl, Nat.le_refl _, by unfold maxLen; omega, fun h => (by cases h), fun p hp _ => by cases hp; exact ⟨rfl, h.lt, fun i x hx => by simp at hx⟩⟩
theorem oneOwn {w w' : World} {x : Value} {t : TypeId} (h : w.alloc (.cells #[x] t) = w') : w'.ownsRow w.heap.size t 1 (.slice (some ⟨w.heap.size, 0, none⟩) 1 1) 1 [x] := by
  subst h
  exact ⟨rfl, .inr ⟨w.heap.size, 1, #[x], rfl, Nat.le_refl _, Box.new w t #[x], Nat.le_refl _, by unfold maxLen; omega, rfl, rfl⟩⟩

theorem wrap_div (q : Nat) (h : q < 18446744073709551616) : IntKind.u64.wrap ((q : Int) / 256) = ((q / 256 : Nat) : Int) := by
  rw [IntWalk.u64_in _ (by omega)]; omega

set_option maxHeartbeats 1000000 in
theorem Big_any {w : World} (n m : Nat) (hn : n < 18446744073709551616) (hm : m ≤ 8) :
    Calls Try.prog 45 #[.int .u64 n, .int .i64 m] w fun e w' => ∃ v', e = .returned v' ∧ Bytes w' v' (beN n m) ∧ Fr [] w w' := by
  have HN := Lib.hid hn
  clear hn
  obtain ⟨w1, e1, hF1, hB1, hs1⟩ := one_new w #[] 5
  have H1 : Hid (Bytes w1 (.slice (some ⟨w.heap.size, 0, none⟩) 0 0) []) := Lib.hid (Sl_none hB1)
  have E1 := Lib.hid e1; have HF1 := Lib.hid hF1
  clear e1 hF1 hB1 hs1
  go_enter Try.func45, Try.ntmps45
  go_upto_region 3 with (fail)
  try rw [E1.out]
  clear E1
  go_loopw [0, 5, 6] (fun nv out iv wr => ∃ j : Nat, j ≤ m ∧ nv = .int .u64 (n / 256 ^ j : Nat) ∧ iv = .int .i64 j ∧ Bytes wr out (beN n j) ∧ Fr [] w wr) (fun _ _ iv _ => m - (intOf iv).toNat)
  case atStart => exact ⟨0, Nat.zero_le _, by simp, rfl, H1.out, HF1.out⟩
  case round =>
    obtain ⟨j, hj, rfl, rfl, hB, hF⟩ := hrel
    have HB := Lib.hid hB; have HF := Lib.hid hF
    by_cases hlt : j < m
    · have hq1 := wrap_u8_nat (n / 256 ^ j)
      have hq3 := wrap_div (n / 256 ^ j) (Nat.lt_of_le_of_lt (Nat.div_le_self _ _) HN.out)
      have hqd : n / 256 ^ j / 256 = n / 256 ^ (j + 1) := by rw [Nat.div_div_eq_div_mul, Nat.pow_succ]
      have HQD := Lib.hid hqd
      have HBC := Lib.hid (beN_cons n j)
      clear hB hF hqd
      generalize n / 256 ^ j = q at *
      obtain ⟨ao, co, ho⟩ := HB.out.shape
      rw [List.length_map, beN_len] at ho
      subst ho
      have A1 : Hid (1 + ((beN n j).map B8).length ≤ maxLen) := Lib.hid (by rw [List.length_map, beN_len]; unfold maxLen; omega)
      have A2 : Hid ((1 + ((beN n j).map B8).length) * 1 ≤ 140737488355328) := Lib.hid (by rw [List.length_map, beN_len]; omega)
      have A4 : Hid (wr.heap.size ≤ (wr.alloc (.cells #[.int .u8 ((q : Int) % 256)] 5)).heap.size) := Lib.hid (by simp)
      have A3 := Lib.hid (Sl.keep HB.out ((Fr.refl [] wr).alloc (.cells #[.int .u8 ((q : Int) % 256)] 5)))
      have A5 : Hid ((wr.alloc (.cells #[.int .u8 ((q : Int) % 256)] 5)).ownsRow wr.heap.size 5 1 (.slice (some ⟨wr.heap.size, 0, none⟩) 1 1) 1 [.int .u8 ((q : Int) % 256)]) := Lib.hid (oneOwn rfl)
      have hB8 : B8 (UInt8.ofNat q) = .int .u8 ((q : Int) % 256) := by unfold B8; simp
      have HB8 := Lib.hid hB8
      clear hB8
      go_wp2_with (at_builtin; refine wpList_append_slf rfl (.tmp 16) (.tmp 17) 22 rfl wr.heap.size 5 (.int .u8 0) 1 Try.underlying22 info_u8 rfl (.slice (some ⟨wr.heap.size, 0, none⟩) 1 1) 1 [.int .u8 ((q : Int) % 256)] rfl A5.out (.slice ao j co) ((beN n j).map B8) rfl A3.out (oneCell_B8 _) A1.out A2.out A4.out ?_; intro v' w2 ho hg hfr; have HO := Lib.hid (Sl.ofOwn ho); have HG := Lib.hid hg; clear ho hg hfr)
      have hN : Bytes w2 v' (beN n (j + 1)) := by
        have := HO.out
        rw [HBC.out]
        unfold Bytes
        rw [List.map_cons, HB8.out]
        exact this
      have hF2 : Fr [] w w2 := HF.out.trans (((Fr.refl [] wr).alloc _).step HG.out (fun x hx => by simp [blockOf] at hx; subst hx; exact .inr (Nat.le_refl _)))
      have HN2 := Lib.hid hN; have HF2 := Lib.hid hF2
      clear hN hF2
      go_roundw
      case rel => exact ⟨j + 1, by omega, by rw [HQD.out.symm]; go_num, by go_num, HN2.out, HF2.out⟩
      case measure => simp [intOf]; omega
    · obtain rfl : j = m := by omega
      clear hB hF
      go_wp2_with fail
      go_ret
      exact ⟨_, rfl, HB.out, HF.out⟩
end Go.Proofs.Yticoongkfhkjgaa
