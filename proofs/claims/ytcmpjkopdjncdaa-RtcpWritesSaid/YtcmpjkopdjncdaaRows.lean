/-
  No cell of these rows narrows 'for every input' (looked for: loops, veiled, ifaces, maps, wideKeys, modest, calm, conditions, laid).
  DERIVED. THE GIVEN ROWS OF THIS SEAT. 5 by the template 'for every input the law returns true; each argument reads behind the call as it read before'; 0 by the template 'total and deterministic' (their statements: YtcmpjkopdjncdaaTotals.lean).
  GIVEN WITH THE SEED: the statements are not yours to turn. If you find one false, say at which input.
  Laid BY PROGRAM, IN A SANDBOX (cutbox-rows.mjs): the forced cells as the released guide's own fill.sh prints them over the translation 77502d800e7bdd64… (all of the seat's roots in one cut). By AI agents, Wed Nov 11 2026. No macro, syntax, notation, axiom, sorry.
-/
import Derived.Test.YtcmpjkopdjncdaaChecked
import GoSem.Claim
import GoSem.ClaimJoined
import GoSem.ClaimMapViews
import Derived.JoinedTies
import Derived.KernelRfl
namespace Go.Proofs.Ytcmpjkopdjncdaa
/- THE CELL 'sum', in the pinned program and in every row, IS THE sha256 OF THE DUMP (.gsa) THAT YtcmpjkopdjncdaaProg.lean LOADS. Nothing in Lean hashes anything: it is a label: what it is worth is what the hold of that sum in a sandbox is worth. -/
noncomputable def Try.pinned : Pinned := { name := "ytcmpjkopdjncdaa", sum := "77502d800e7bdd64a02f824257ef867e9220ed9ecd6602865b44b0049834f435", checked := Try.checked }
namespace Rows
def none {H : Type} : Left H := { results := [], args := [] }

/-- 'confluxlaw07.RtcpParses': WHATEVER THE INPUT: true; the input reads as it did. -/
def rtcpParsesSpec : ChangeSpec := { name := "rtcpParses", fn := fun _ => fun
  | [d] => { results := [.lit (.bool true)], args := [d] }
  | _ => none }
def rtcpParsesRow : OpenClaim := { program := "ytcmpjkopdjncdaa", sum := "77502d800e7bdd64a02f824257ef867e9220ed9ecd6602865b44b0049834f435", func := "conflux/confluxlaw07.RtcpParses", spec := "rtcpParses", unfollowed := true, recurses := true, apart := false }
def RtcpParsesSaid : Prop := rtcpParsesRow.holds Try.pinned (OpenSpec.ofChange rtcpParsesSpec)

/-- ITS FALSE NEIGHBOUR: 'it returns false'. Refute it at one input. -/
def rtcpParsesWrong : ChangeSpec := { name := "rtcpParses", fn := fun _ => fun
  | [d] => { results := [.lit (.bool false)], args := [d] }
  | _ => none }
def RtcpParsesWrongFalsely : Prop := rtcpParsesRow.holds Try.pinned (OpenSpec.ofChange rtcpParsesWrong)

/-- 'confluxlaw07.RtcpWrites': WHATEVER THE INPUT: true; the input reads as it did. -/
def rtcpWritesSpec : ChangeSpec := { name := "rtcpWrites", fn := fun _ => fun
  | [d1, d2] => { results := [.lit (.bool true)], args := [d1, d2] }
  | _ => none }
def rtcpWritesRow : OpenClaim := { program := "ytcmpjkopdjncdaa", sum := "77502d800e7bdd64a02f824257ef867e9220ed9ecd6602865b44b0049834f435", func := "conflux/confluxlaw07.RtcpWrites", spec := "rtcpWrites", unfollowed := true, recurses := true, apart := false }
def RtcpWritesSaid : Prop := rtcpWritesRow.holds Try.pinned (OpenSpec.ofChange rtcpWritesSpec)

/-- ITS FALSE NEIGHBOUR: 'it returns false'. Refute it at one input. -/
def rtcpWritesWrong : ChangeSpec := { name := "rtcpWrites", fn := fun _ => fun
  | [d1, d2] => { results := [.lit (.bool false)], args := [d1, d2] }
  | _ => none }
def RtcpWritesWrongFalsely : Prop := rtcpWritesRow.holds Try.pinned (OpenSpec.ofChange rtcpWritesWrong)

/-- 'confluxlaw07.RtcpBack': WHATEVER THE INPUT: true; the input reads as it did. -/
def rtcpBackSpec : ChangeSpec := { name := "rtcpBack", fn := fun _ => fun
  | [d1, d2] => { results := [.lit (.bool true)], args := [d1, d2] }
  | _ => none }
def rtcpBackRow : OpenClaim := { program := "ytcmpjkopdjncdaa", sum := "77502d800e7bdd64a02f824257ef867e9220ed9ecd6602865b44b0049834f435", func := "conflux/confluxlaw07.RtcpBack", spec := "rtcpBack", unfollowed := true, recurses := true, apart := false }
def RtcpBackSaid : Prop := rtcpBackRow.holds Try.pinned (OpenSpec.ofChange rtcpBackSpec)

/-- ITS FALSE NEIGHBOUR: 'it returns false'. Refute it at one input. -/
def rtcpBackWrong : ChangeSpec := { name := "rtcpBack", fn := fun _ => fun
  | [d1, d2] => { results := [.lit (.bool false)], args := [d1, d2] }
  | _ => none }
def RtcpBackWrongFalsely : Prop := rtcpBackRow.holds Try.pinned (OpenSpec.ofChange rtcpBackWrong)

/-- 'confluxlaw07.RtcpReports': WHATEVER THE INPUT: true; the input reads as it did. -/
def rtcpReportsSpec : ChangeSpec := { name := "rtcpReports", fn := fun _ => fun
  | [d1, d2, d3] => { results := [.lit (.bool true)], args := [d1, d2, d3] }
  | _ => none }
def rtcpReportsRow : OpenClaim := { program := "ytcmpjkopdjncdaa", sum := "77502d800e7bdd64a02f824257ef867e9220ed9ecd6602865b44b0049834f435", func := "conflux/confluxlaw07.RtcpReports", spec := "rtcpReports", unfollowed := true, recurses := true, apart := false }
def RtcpReportsSaid : Prop := rtcpReportsRow.holds Try.pinned (OpenSpec.ofChange rtcpReportsSpec)

/-- ITS FALSE NEIGHBOUR: 'it returns false'. Refute it at one input. -/
def rtcpReportsWrong : ChangeSpec := { name := "rtcpReports", fn := fun _ => fun
  | [d1, d2, d3] => { results := [.lit (.bool false)], args := [d1, d2, d3] }
  | _ => none }
def RtcpReportsWrongFalsely : Prop := rtcpReportsRow.holds Try.pinned (OpenSpec.ofChange rtcpReportsWrong)

/-- 'confluxlaw07.RtcpJoins': WHATEVER THE INPUT: true; the input reads as it did. -/
def rtcpJoinsSpec : ChangeSpec := { name := "rtcpJoins", fn := fun _ => fun
  | [d1, d2] => { results := [.lit (.bool true)], args := [d1, d2] }
  | _ => none }
def rtcpJoinsRow : OpenClaim := { program := "ytcmpjkopdjncdaa", sum := "77502d800e7bdd64a02f824257ef867e9220ed9ecd6602865b44b0049834f435", func := "conflux/confluxlaw07.RtcpJoins", spec := "rtcpJoins", unfollowed := true, recurses := true, apart := false }
def RtcpJoinsSaid : Prop := rtcpJoinsRow.holds Try.pinned (OpenSpec.ofChange rtcpJoinsSpec)

/-- ITS FALSE NEIGHBOUR: 'it returns false'. Refute it at one input. -/
def rtcpJoinsWrong : ChangeSpec := { name := "rtcpJoins", fn := fun _ => fun
  | [d1, d2] => { results := [.lit (.bool false)], args := [d1, d2] }
  | _ => none }
def RtcpJoinsWrongFalsely : Prop := rtcpJoinsRow.holds Try.pinned (OpenSpec.ofChange rtcpJoinsWrong)

/- THE SECOND FORM. 'bulk': how many values and letters a reading holds, each counted each time it is reached (what is shared counts as often as it is met; a slice's spare places count too). A statement '..UptoSaid' is the law's where the arguments, and the package variables that the reading takes, are together of bulk at most 1048576: NARROWER than '..Said'. Prove '..Said' where nothing that the law and all that it calls make is longer than what came in: it says more and counts as full. Else prove '..UptoSaid'. A law counts once. -/
mutual
def uptoBulk {H : Type} : DataW H → Nat
  | .lit (.string bytes) => bytes.length + 1
  | .lit _ => 1
  | .nil => 1
  | .ptr d => uptoBulk d + 1
  | .slice elems spare => uptoBulkAll elems + uptoBulkAll spare + 1
  | .agg parts => uptoBulkAll parts + 1
  | .iface _ d => uptoBulk d + 1
  | .map entries => uptoBulkEntries entries + 1
  | .held _ => 1
def uptoBulkAll {H : Type} : List (DataW H) → Nat
  | [] => 0
  | d :: r => uptoBulk d + uptoBulkAll r
def uptoBulkEntries {H : Type} : List (Lit × DataW H) → Nat
  | [] => 0
  | x :: r => uptoBulkEntry x + uptoBulkEntries r
def uptoBulkEntry {H : Type} : Lit × DataW H → Nat
  | (.string bytes, d) => bytes.length + uptoBulk d + 1
  | (_, d) => uptoBulk d + 1
 end
def uptoSmall : (H : Type) → List (DataW H) → Bool := fun _ ds => decide (uptoBulkAll ds ≤ 1048576)
def OpenSpec.upto (s : _root_.Go.ChangeSpec) : _root_.Go.OpenSpec := { _root_.Go.OpenSpec.ofChange s with cond := some uptoSmall }

/-- 'confluxlaw07.RtcpParses', WHERE WHAT IT READS IS OF BULK AT MOST 1048576: true; the input reads as it did. -/
def rtcpParsesUptoRow : OpenClaim := { program := "ytcmpjkopdjncdaa", sum := "77502d800e7bdd64a02f824257ef867e9220ed9ecd6602865b44b0049834f435", func := "conflux/confluxlaw07.RtcpParses", spec := "rtcpParses", unfollowed := true, recurses := true, apart := false, narrowed := true }
def RtcpParsesUptoSaid : Prop := rtcpParsesUptoRow.holds Try.pinned (OpenSpec.upto rtcpParsesSpec)

/-- 'confluxlaw07.RtcpWrites', WHERE WHAT IT READS IS OF BULK AT MOST 1048576: true; the input reads as it did. -/
def rtcpWritesUptoRow : OpenClaim := { program := "ytcmpjkopdjncdaa", sum := "77502d800e7bdd64a02f824257ef867e9220ed9ecd6602865b44b0049834f435", func := "conflux/confluxlaw07.RtcpWrites", spec := "rtcpWrites", unfollowed := true, recurses := true, apart := false, narrowed := true }
def RtcpWritesUptoSaid : Prop := rtcpWritesUptoRow.holds Try.pinned (OpenSpec.upto rtcpWritesSpec)

/-- 'confluxlaw07.RtcpBack', WHERE WHAT IT READS IS OF BULK AT MOST 1048576: true; the input reads as it did. -/
def rtcpBackUptoRow : OpenClaim := { program := "ytcmpjkopdjncdaa", sum := "77502d800e7bdd64a02f824257ef867e9220ed9ecd6602865b44b0049834f435", func := "conflux/confluxlaw07.RtcpBack", spec := "rtcpBack", unfollowed := true, recurses := true, apart := false, narrowed := true }
def RtcpBackUptoSaid : Prop := rtcpBackUptoRow.holds Try.pinned (OpenSpec.upto rtcpBackSpec)

/-- 'confluxlaw07.RtcpReports', WHERE WHAT IT READS IS OF BULK AT MOST 1048576: true; the input reads as it did. -/
def rtcpReportsUptoRow : OpenClaim := { program := "ytcmpjkopdjncdaa", sum := "77502d800e7bdd64a02f824257ef867e9220ed9ecd6602865b44b0049834f435", func := "conflux/confluxlaw07.RtcpReports", spec := "rtcpReports", unfollowed := true, recurses := true, apart := false, narrowed := true }
def RtcpReportsUptoSaid : Prop := rtcpReportsUptoRow.holds Try.pinned (OpenSpec.upto rtcpReportsSpec)

/-- 'confluxlaw07.RtcpJoins', WHERE WHAT IT READS IS OF BULK AT MOST 1048576: true; the input reads as it did. -/
def rtcpJoinsUptoRow : OpenClaim := { program := "ytcmpjkopdjncdaa", sum := "77502d800e7bdd64a02f824257ef867e9220ed9ecd6602865b44b0049834f435", func := "conflux/confluxlaw07.RtcpJoins", spec := "rtcpJoins", unfollowed := true, recurses := true, apart := false, narrowed := true }
def RtcpJoinsUptoSaid : Prop := rtcpJoinsUptoRow.holds Try.pinned (OpenSpec.upto rtcpJoinsSpec)

end Rows
end Go.Proofs.Ytcmpjkopdjncdaa
