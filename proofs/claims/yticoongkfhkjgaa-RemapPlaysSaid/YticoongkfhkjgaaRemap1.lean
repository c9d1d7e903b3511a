/- The walks of serial.Add, Add32 and of remap's small functions (printed by gen_remap1.py). -/
import Derived.Test.YticoongkfhkjgaaRemapPlain
import Derived.Test.YticoongkfhkjgaaGuard
namespace Go.Proofs.Yticoongkfhkjgaa
open Go.RowKit

theorem oneCell_mc (m : RMap) : ∀ u ∈ (mc m).toList, u.oneCell' = true := by
  intro u hu
  simp only [mc, List.mem_cons, List.not_mem_nil, or_false] at hu
  rcases hu with rfl | rfl | rfl | rfl | rfl | rfl | rfl | rfl | rfl <;> rfl
theorem serAdd_any (a : UInt16) (n : Int) (w : World) :
    Calls Try.prog 112 #[.int .u16 (a.toNat : Nat), .int .i64 n] w fun e w' => e = .returned (.int .u16 ((add16 a n).toNat : Nat)) ∧ w = w' := by
  go_enter Try.func112, Try.ntmps112
  go_wp2
  go_ret
  refine ⟨ret_int ?_, rfl⟩
  rw [add16_nat]
  try simp only [wrap_u16_mod]
  omega
theorem serAdd32_any (a : UInt32) (n : Int) (w : World) :
    Calls Try.prog 121 #[.int .u32 (a.toNat : Nat), .int .i64 n] w fun e w' => e = .returned (.int .u32 ((add32 a n).toNat : Nat)) ∧ w = w' := by
  go_enter Try.func121, Try.ntmps121
  go_wp2
  go_ret
  refine ⟨ret_int ?_, rfl⟩
  rw [add32_nat]
  try simp only [wrap_u32_mod]
  omega
theorem rmNext_any {w : World} {g : Nat} {m : RMap} (hB : Box w g 132 (mc m)) :
    Calls Try.prog 54 #[.pointer (some ⟨g, 0, none⟩)] w fun e w' => e = .returned (.int .u16 (m.next.toNat : Nat)) ∧ w = w' := by
  have HB := Lib.hid hB
  clear hB
  have x2 := HB.out.cell 2
  simp only [mc, List.getElem?_toArray, List.getElem?_cons_succ, List.getElem?_cons_zero] at x2
  clear HB
  go_enter Try.func54, Try.ntmps54
  go_wp2
  go_ret
  exact ⟨rfl, rfl⟩
theorem rmSegs_any {w : World} {g : Nat} {m : RMap} (hB : Box w g 132 (mc m)) :
    Calls Try.prog 55 #[.pointer (some ⟨g, 0, none⟩)] w fun e w' => e = .returned (.int .i64 (m.segs : Nat)) ∧ w = w' := by
  have HB := Lib.hid hB
  clear hB
  have x7 := HB.out.cell 7
  simp only [mc, List.getElem?_toArray, List.getElem?_cons_succ, List.getElem?_cons_zero] at x7
  clear HB
  go_enter Try.func55, Try.ntmps55
  go_wp2
  go_ret
  exact ⟨rfl, rfl⟩
theorem rmCount_any {w : World} {g : Nat} {m : RMap} (hB : Box w g 132 (mc m)) :
    Calls Try.prog 56 #[.pointer (some ⟨g, 0, none⟩)] w fun e w' => e = .returned (.int .i64 (m.cnt : Nat)) ∧ w = w' := by
  have HB := Lib.hid hB
  clear hB
  have x8 := HB.out.cell 8
  simp only [mc, List.getElem?_toArray, List.getElem?_cons_succ, List.getElem?_cons_zero] at x8
  clear HB
  go_enter Try.func56, Try.ntmps56
  go_wp2
  go_ret
  exact ⟨rfl, rfl⟩
theorem rmShift_any {w : World} {g : Nat} {m : RMap} (hB : Box w g 132 (mc m)) :
    Calls Try.prog 53 #[.pointer (some ⟨g, 0, none⟩)] w fun e w' => e = .returned (.tuple #[.int .u32 ((if m.opn then m.shift else 0).toNat : Nat), .bool m.opn]) ∧ w = w' := by
  have HB := Lib.hid hB
  clear hB
  have x5 := HB.out.cell 5; have x6 := HB.out.cell 6
  simp only [mc, List.getElem?_toArray, List.getElem?_cons_succ, List.getElem?_cons_zero] at x5 x6
  clear HB
  cases hop : m.opn with
  | true =>
    rw [hop] at x6
    clear hop
    go_enter Try.func53, Try.ntmps53
    go_wp2
    go_ret2
    exact ⟨rfl, rfl⟩
  | false =>
    rw [hop] at x6
    clear hop
    go_enter Try.func53, Try.ntmps53
    go_wp2
    go_ret2
    exact ⟨rfl, rfl⟩
theorem rmSwitch_any {w : World} {g : Nat} {m : RMap} (hB : Box w g 132 (mc m)) :
    Calls Try.prog 50 #[.pointer (some ⟨g, 0, none⟩)] w fun e w' => e = .returned (.tuple #[]) ∧ Box w' g 132 (mc m.shut) ∧ Fr [g] w w' := by
  have HB := Lib.hid hB
  clear hB
  have x6 := HB.out.cell 6
  simp only [mc, List.getElem?_toArray, List.getElem?_cons_succ, List.getElem?_cons_zero] at x6
  have f6 := HB.out.free 6
  obtain ⟨w1, e1, hF, hB1, -⟩ := set_new HB.out 6 (.bool false)
  have HF := Lib.hid hF; have HB1 := Lib.hid hB1; have E1 := Lib.hid e1
  clear hF hB1 e1 HB
  go_enter Try.func50, Try.ntmps50
  go_wp2
  rw [E1.out]
  go_end0
  exact ⟨rfl, HB1.out, HF.out⟩
theorem rmClone_any {w : World} {g : Nat} {m : RMap} (hB : Box w g 132 (mc m)) :
    Calls Try.prog 62 #[.pointer (some ⟨g, 0, none⟩)] w fun e w' => ∃ g', e = .returned (.pointer (some ⟨g', 0, none⟩)) ∧ w.heap.size ≤ g' ∧ Box w' g' 132 (mc m) ∧ Fr [] w w' := by
  have HB := Lib.hid hB
  clear hB
  go_enter Try.func62, Try.ntmps62
  go_wp2_with (first | (refine wpList_load_row rfl 132 (.tmp 5) rfl g rfl 132 _ _ _ HB.out Try.underlying132 rfl (by kernel_rfl) ?_) | (refine wpList_store_row rfl 132 (.tmp 3) (.tmp 6) rfl w.heap.size rfl _ _ rfl 132 (Box.new w 132 _) (by kernel_rfl) rfl (oneCell_mc m) ?_; intro w1 hY hG; have hF := ((Fr.refl [] w).alloc _).step hG (by simp)))
  go_ret
  exact ⟨_, rfl, Nat.le_refl _, hY, hF⟩
end Go.Proofs.Yticoongkfhkjgaa
