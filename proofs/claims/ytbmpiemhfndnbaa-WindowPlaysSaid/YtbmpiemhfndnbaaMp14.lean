import Derived.Defers
import Derived.Recover
import Derived.Test.YtbmpiemhfndnbaaMp10
/- The walks of wire.catch, and of wire.guard, Part and Read at packets. -/
namespace Go.Proofs.Ytbmpiemhfndnbaa
open Go.RowKit

/-- A function whose two results lie in memory: a struct, and a number. -/
theorem results_row_num {P : Program} {fn : Func} {p q : Tmp} {ty tq : TypeId} (h : fn.results = #[.cell p ty, .cell q tq]) (tmps : Array Value) (w : World) (g gq : Nat) (t : TypeId) (c : Array Value) (d : TypeDesc) (k k' : IntKind) (n : Int)
    (hp : tmps.getD p undef = .pointer (some ⟨g, 0, none⟩)) (hb : Box w g t c) (hu : P.underlying ty = some d) (hd : (match d with | .struct _ | .array _ _ => true | _ => false) = true) (hi : (P.info? ty).map (·.size) = some c.size)
    (hq : tmps.getD q undef = .pointer (some ⟨gq, 0, none⟩)) (hc : w.cell? ⟨gq, 0, none⟩ = some (.int k n)) (huq : P.underlying tq = some (.int k')) :
    (results fn tmps).run P w = .ok (.tuple #[.agg c, .int k n]) w := by
  have hp' : tmps[p]?.getD undef = .pointer (some ⟨g, 0, none⟩) := by simpa using hp
  have hq' : tmps[q]?.getD undef = .pointer (some ⟨gq, 0, none⟩) := by simpa using hq
  have h1 := run_loadVar_row (P := P) w g t ty c (0, 0) d hb hu hd hi
  have h2 : (loadVar tq ⟨gq, 0, none⟩).run P w = .ok (.int k n) w := by
    simp [loadVar, isAgg, Sem.run_bind, run_underlying huq, load, Sem.run, hc]
  simp [results, h, hp', hq', asAddr, h1, h2]

/-- The zero packet's cells. -/
def pz : Array Value := #[.bool false, .int .i64 0, .int .u16 0, .int .u32 0, .int .u32 0, .slice none 0 0, .bool false, .int .u16 0, .slice none 0 0, .slice none 0 0, .slice none 0 0]

end Go.Proofs.Ytbmpiemhfndnbaa
