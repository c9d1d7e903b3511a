import Derived.Defers
import Derived.Recover
import Derived.Test.YtcmpjkopdjncdaaMw11
/- The walks of wire.catch, and of wire.guard, Part and Read at packets. -/
namespace Go.Proofs.Ytcmpjkopdjncdaa
open Go.RowKit

set_option maxHeartbeats 400000 in
theorem catch_fault (b o : Nat) (k x : Int) (older : List PanicEntry) (w : World) (hc : w.cell? ⟨b, o, none⟩ = some (.int .i64 x)) (hz : w.frozen? ⟨b, o, none⟩ = false) :
    CallsD Try.prog 87 #[.pointer (some ⟨b, o, none⟩)] (.panicking ({ v := .iface 130 (.agg #[.int .i64 k]), recovered := false } :: older)) w fun e u' w' =>
      e = .returned (.tuple #[]) ∧ u' = .panicking ({ v := .iface 130 (.agg #[.int .i64 k]), recovered := true } :: older) ∧ w' = (w.setCell ⟨b, o, none⟩ (.int .i64 k)).alloc (.cells #[.int .i64 k] 130) := by
  have hb : b < w.heap.size := World.block_lt_of_cell? _ _ hc
  have hta : ∀ (w : World), (Instr.typeAssert (.iface 130 (.agg #[.int .i64 k])) 20 130 true).run Try.prog w = .ok (.tuple #[.agg #[.int .i64 k], .bool true]) w := fun _ => by kernel_rfl
  refine callsD_of_wpS Try.func87 rfl fun c₀ cs hu => ?_
  apply wpS_seq
  apply wpS_region
  simp [wpOpsS, go_sem, recoverD, hu, Try.ntmps87, Exit.thenS]
  refine wpS_of_wp ?_
  have HU := Lib.hid hu
  clear hu
  simp only [Array.replicate_succ, Array.replicate_zero, List.push_toArray, List.append_toArray, List.nil_append, List.cons_append, List.setIfInBounds_toArray, List.set_cons_succ, List.set_cons_zero]
  go_wp2
  refine ⟨rfl, _, rfl, _, results_none rfl _ _ _, rfl, rfl, rfl⟩

theorem catch_idle (b o : Nat) (w : World) :
    CallsD Try.prog 87 #[.pointer (some ⟨b, o, none⟩)] .returning w fun e u' w' => e = .returned (.tuple #[]) ∧ u' = .returning ∧ w' = w := by
  refine callsD_of_wpS Try.func87 rfl fun c₀ cs hu => ?_
  apply wpS_seq
  apply wpS_region
  simp [wpOpsS, go_sem, recoverD, hu, Try.ntmps87, Exit.thenS]
  refine wpS_of_wp ?_
  go_wp2
  cases c₀
  simp_all [bodyPostS, results, Try.results87]

/-- A function whose two results lie in memory: a struct, and a number. -/
theorem results_row_num {P : Program} {fn : Func} {p q : Tmp} {ty tq : TypeId} (h : fn.results = #[.cell p ty, .cell q tq]) (tmps : Array Value) (w : World) (g gq : Nat) (t : TypeId) (c : Array Value) (d : TypeDesc) (k k' : IntKind) (n : Int)
    (hp : tmps.getD p undef = .pointer (some ⟨g, 0, none⟩)) (hb : Box w g t c) (hu : P.underlying ty = some d) (hd : (match d with | .struct _ | .array _ _ => true | _ => false) = true) (hi : (P.info? ty).map (·.size) = some c.size)
    (hq : tmps.getD q undef = .pointer (some ⟨gq, 0, none⟩)) (hc : w.cell? ⟨gq, 0, none⟩ = some (.int k n)) (huq : P.underlying tq = some (.int k')) :
    (results fn tmps).run P w = .ok (.tuple #[.agg c, .int k n]) w := by
  have hp' : tmps[p]?.getD undef = .pointer (some ⟨g, 0, none⟩) := by simpa using hp
  have hq' : tmps[q]?.getD undef = .pointer (some ⟨gq, 0, none⟩) := by simpa using hq
  have h1 := run_loadVar_row (P := P) w g t ty c (0, 0) d hb hu hd hi
  have h2 : (loadVar tq ⟨gq, 0, none⟩).run P w = .ok (.int k n) w := by
    simp [loadVar, isAgg, Sem.run_bind, run_underlying huq, load, Sem.run, hc]
  simp [results, h, hp', hq', asAddr, h1, h2]

/-- The zero packet's cells. -/
def pz : Array Value := #[.bool false, .int .i64 0, .int .u16 0, .int .u32 0, .int .u32 0, .slice none 0 0, .bool false, .int .u16 0, .slice none 0 0, .slice none 0 0, .slice none 0 0]

end Go.Proofs.Ytcmpjkopdjncdaa
