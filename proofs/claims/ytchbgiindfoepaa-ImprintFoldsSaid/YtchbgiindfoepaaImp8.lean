/- The iterator of confluxlaw12.alive: 'yield(x) && yield(x2) && yield(x)'. -/
import Derived.Test.YtchbgiindfoepaaImp7
namespace Go.Proofs.Ytchbgiindfoepaa
open Go.RowKit Go.Shelf
attribute [local go_sem] Oper.semAt_some

set_option maxRecDepth 100000 in
set_option maxHeartbeats 4000000 in
theorem l12alive1_stops {w0 : World} (n : Nat) (hn : 1 ≤ n) (B1 B2 n₀ : Nat) (w : World) (c1 c2 : Array Value) (hb1 : Box w B1 28 c1) (hb2 : Box w B2 28 c2) (h1 : B1 < n₀) (h2 : B2 < n₀) (hs1 : c1.size = 9) (hs2 : c2.size = 9) (hn₀ : n₀ ≤ w.heap.size)
    (y1 y2 : BtAt w0) (e1 : y1.1.1 = .agg c1) (e2 : y2.1.1 = .agg c2) :
    SeqStopsK Fence.wide n Try.prog 53 #[.pointer (some ⟨B1, 0, none⟩), .pointer (some ⟨B2, 0, none⟩)] (fun x : BtAt w0 => #[x.1.1]) (Below n₀) (fun ys => ys = [y1, y2, y1]) (fun pre => pre <+: [y1, y2, y1]) 3 w := fun l J Jx W hW _ _ hY h0 => by
  have hbW := hW.mono hn₀
  have hB1 := Lib.hid (hb1.belowN hbW h1); have hB2 := Lib.hid (hb2.belowN hbW h2)
  have hi1 : (Try.prog.info? 28).map (·.size) = some c1.size := by rw [hs1]; kernel_rfl
  have hi2 : (Try.prog.info? 28).map (·.size) = some c2.size := by rw [hs2]; kernel_rfl
  have HI1 := Lib.hid hi1; have HI2 := Lib.hid hi2
  have HY := Lib.hid hY
  clear hi1 hi2 hb1 hb2 hs1 hs2 hbW hW hY
  show CallsIn _ _ _ _ #[.func (.yield l) #[] #[], .pointer (some ⟨B1, 0, none⟩), .pointer (some ⟨B2, 0, none⟩)] W _
  refine callsIn_of_wp Try.func53 rfl trivial ?_ rfl
  simp only [Try.ntmps53, List.size_toArray, List.length_cons, List.length_nil, Nat.reduceAdd, Nat.reduceSub, Array.replicate_succ, Array.replicate_zero, List.push_toArray, List.append_toArray, List.nil_append, List.cons_append]
  obtain ⟨fn, tmps, assign, body, hy, hR⟩ := HY.out [] y1 W h0 (by simp)
  try dsimp only at hy
  rw [e1] at hy
  gi_wp2_with (refine wpListIn_load_row_w rfl 28 (.tmp 1) rfl B1 rfl 28 _ _ hB1.out Try.underlying28 rfl HI1.out ?_)
  refine hR.mono ?_
  rintro e W1 (⟨rfl, hJ1, hk1⟩ | ⟨rfl, hJx1⟩)
  rotate_left
  · clear hy
    gi_wp2
    all_goals (refine ⟨fun _ h => (by cases h), ?_⟩)
    all_goals gi_wp2
    go_goals
    go_end0
    exact ⟨⟨_, rfl⟩, .inr ⟨_, ⟨[y2, y1], rfl⟩, hJx1⟩⟩
  clear hy hR
  have hB1 := Lib.hid (hB1.out.belowN hk1 h1); have hB2 := Lib.hid (hB2.out.belowN hk1 h2)
  obtain ⟨fn2, tmps2, assign2, body2, hy, hR⟩ := HY.out _ y2 W1 hJ1 (by simp)
  try dsimp only at hy
  rw [e2] at hy
  gi_wp2_with (refine wpListIn_load_row_w rfl 28 (.tmp 2) rfl B2 rfl 28 _ _ hB2.out Try.underlying28 rfl HI2.out ?_)
  refine hR.mono ?_
  rintro e W2 (⟨rfl, hJ2, hk2⟩ | ⟨rfl, hJx2⟩)
  rotate_left
  · clear hy
    gi_wp2
    all_goals (refine ⟨fun _ h => (by cases h), ?_⟩)
    all_goals gi_wp2
    go_goals
    go_end0
    exact ⟨⟨_, rfl⟩, .inr ⟨_, ⟨[y1], rfl⟩, hJx2⟩⟩
  clear hy hR
  have hB1 := Lib.hid (hB1.out.belowN hk2 h1)
  obtain ⟨fn3, tmps3, assign3, body3, hy, hR⟩ := HY.out _ y1 W2 hJ2 (by simp)
  try dsimp only at hy
  rw [e1] at hy
  gi_wp2_with (refine wpListIn_load_row_w rfl 28 (.tmp 1) rfl B1 rfl 28 _ _ hB1.out Try.underlying28 rfl HI1.out ?_)
  refine hR.mono ?_
  rintro e W3 (⟨rfl, hJ3, hk3⟩ | ⟨rfl, hJx3⟩)
  · clear hy
    gi_wp2
    go_end0
    exact ⟨⟨_, rfl⟩, .inl ⟨_, rfl, hJ3⟩⟩
  · clear hy
    gi_wp2
    go_end0
    exact ⟨⟨_, rfl⟩, .inr ⟨_, ⟨[], rfl⟩, hJx3⟩⟩
end Go.Proofs.Ytchbgiindfoepaa
