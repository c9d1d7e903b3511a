/- The walks of remap.New and begin (printed by gen_remap2.py). -/
import Derived.Test.YticoongkfhkjgaaRemap1
namespace Go.Proofs.Yticoongkfhkjgaa
open Go.RowKit

theorem clampI_eq (n lo hi : Int) (h : lo ≤ hi) : min (max n lo) hi = clampI n lo hi := by
  unfold clampI; split <;> (try split) <;> omega
theorem Box.eq {w : World} {g : Nat} {t : TypeId} {c c' : Array Value} (h : Box w g t c) (e : c = c') : Box w g t c' := e ▸ h
theorem rmNew_any (ssrc : UInt32) (pt : Int) (first : UInt16) (ts : UInt32) (step : Int) (w : World) :
    Calls Try.prog 48 #[.int .u32 (ssrc.toNat : Nat), .int .i64 pt, .int .u16 (first.toNat : Nat), .int .u32 (ts.toNat : Nat), .int .i64 step] w fun e w' =>
      ∃ g, e = .returned (.pointer (some ⟨g, 0, none⟩)) ∧ w.heap.size ≤ g ∧ Box w' g 132 (mc (RMap.new ssrc pt first ts step)) ∧ Fr [] w w' := by
  go_enter Try.func48, Try.ntmps48
  go_wp2
  all_goals
    go_ret
    refine ⟨_, rfl, Nat.le_refl _, Box.eq (Box.new w 132 _) ?_, (Fr.refl [] w).alloc _⟩
    simp [mc, RMap.new, clampI]
    repeat' (first | omega | split | apply And.intro)
set_option maxHeartbeats 400000 in
theorem rmBegin_any {w : World} {g : Nat} {m : RMap} (hB : Box w g 132 (mc m)) (hm : m.Ok) (ts : UInt32) :
    Calls Try.prog 111 #[.pointer (some ⟨g, 0, none⟩), .int .u32 (ts.toNat : Nat)] w fun e w' => e = .returned (.tuple #[]) ∧ Box w' g 132 (mc (m.begin_ ts)) ∧ Fr [g] w w' := by
  have HB := Lib.hid hB
  clear hB
  have x3 := HB.out.cell 3; have x4 := HB.out.cell 4; have x5 := HB.out.cell 5; have x6 := HB.out.cell 6; have x7 := HB.out.cell 7
  simp only [mc, List.getElem?_toArray, List.getElem?_cons_succ, List.getElem?_cons_zero] at x3 x4 x5 x6 x7
  have f3 := HB.out.free 3; have f4 := HB.out.free 4; have f5 := HB.out.free 5; have f6 := HB.out.free 6; have f7 := HB.out.free 7
  have hsg := hm.sg
  have hend : ∀ W : World, Box W g 132 (mc m) → ∀ s : Int, s = ((m.start - ts).toNat : Nat) → ∀ k : Int, k = ((m.segs + 1 : Nat) : Int) →
      Box (((W.setCell ⟨g, 5, none⟩ (.int .u32 s)).setCell ⟨g, 6, none⟩ (.bool true)).setCell ⟨g, 7, none⟩ (.int .i64 k)) g 132 (mc (m.begin_ ts)) ∧
      Fr [g] W (((W.setCell ⟨g, 5, none⟩ (.int .u32 s)).setCell ⟨g, 6, none⟩ (.bool true)).setCell ⟨g, 7, none⟩ (.int .i64 k)) := by
    intro W hW s hs k hk
    subst hs hk
    refine ⟨((hW.set 5 _).set 6 _).set 7 _, (((Fr.refl [g] W).set (.inl (by simp)) _).set (.inl (by simp)) _).set (.inl (by simp)) _⟩
  have HE := Lib.hid hend
  clear hend hm
  by_cases h0 : 0 < m.segs
  · have hst : m.start = add32 m.last m.step := by unfold RMap.start; rw [if_pos h0]
    have HST := Lib.hid hst
    clear hst
    go_enter Try.func111, Try.ntmps111
    go_wp2_with fail
    refine (serAdd32_any _ _ _).mono ?_
    rintro e w1 ⟨rfl, rfl⟩
    go_wp2_with fail
    go_end0
    obtain ⟨h1, h2⟩ := HE.out w HB.out _ (by rw [HST.out, u32_sub_nat]; try simp only [wrap_u32_mod]) ((m.segs : Int) + 1) (by simp)
    exact ⟨rfl, h1, h2⟩
  · have hst : m.start = m.last := by unfold RMap.start; rw [if_neg h0]
    have HST := Lib.hid hst
    have hz : m.segs = 0 := by omega
    rw [hz] at x7
    clear hst
    go_enter Try.func111, Try.ntmps111
    go_wp2_with fail
    go_end0
    obtain ⟨h1, h2⟩ := HE.out w HB.out _ (by rw [HST.out, u32_sub_nat]; try simp only [wrap_u32_mod]) 1 (by rw [hz]; rfl)
    exact ⟨rfl, h1, h2⟩
end Go.Proofs.Yticoongkfhkjgaa
