/-
  No cell of these rows narrows 'for every input' (looked for: loops, veiled, ifaces, maps, wideKeys, modest, calm, conditions, laid).
  DERIVED. THE GIVEN ROWS OF THIS SEAT. 9 by the template 'for every input the law returns true; each argument reads behind the call as it read before'; 0 by the template 'total and deterministic' (their statements: YtchbgiindfoepaaTotals.lean).
  GIVEN WITH THE SEED: the statements are not yours to turn. If you find one false, say at which input.
  Laid BY PROGRAM, IN A SANDBOX (cutbox-rows.mjs): the forced cells as the released guide's own fill.sh prints them over the translation efda70d1d94a88f4… (all of the seat's roots in one cut). By AI agents, Wed Nov 11 2026. No macro, syntax, notation, axiom, sorry.
-/
import Derived.Test.YtchbgiindfoepaaChecked
import GoSem.Claim
import GoSem.ClaimJoined
import GoSem.ClaimMapViews
import Derived.JoinedTies
import Derived.KernelRfl
namespace Go.Proofs.Ytchbgiindfoepaa
/- THE CELL 'sum', in the pinned program and in every row, IS THE sha256 OF THE DUMP (.gsa) THAT YtchbgiindfoepaaProg.lean LOADS. Nothing in Lean hashes anything: it is a label: what it is worth is what the hold of that sum in a sandbox is worth. -/
noncomputable def Try.pinned : Pinned := { name := "ytchbgiindfoepaa", sum := "efda70d1d94a88f423e5dc179a64b1b92b6e72eaf61b40b576eb2f11604adeea", checked := Try.checked }
namespace Rows
def none {H : Type} : Left H := { results := [], args := [] }

/-- 'confluxlaw12.ImprintFolds': WHATEVER THE INPUT: true; the input reads as it did. -/
def imprintFoldsSpec : ChangeSpec := { name := "imprintFolds", fn := fun _ => fun
  | [d1, d2] => { results := [.lit (.bool true)], args := [d1, d2] }
  | _ => none }
def imprintFoldsRow : OpenClaim := { program := "ytchbgiindfoepaa", sum := "efda70d1d94a88f423e5dc179a64b1b92b6e72eaf61b40b576eb2f11604adeea", func := "conflux/confluxlaw12.ImprintFolds", spec := "imprintFolds", unfollowed := true, recurses := true, apart := false }
def ImprintFoldsSaid : Prop := imprintFoldsRow.holds Try.pinned (OpenSpec.ofChange imprintFoldsSpec)

/-- ITS FALSE NEIGHBOUR: 'it returns false'. Refute it at one input. -/
def imprintFoldsWrong : ChangeSpec := { name := "imprintFolds", fn := fun _ => fun
  | [d1, d2] => { results := [.lit (.bool false)], args := [d1, d2] }
  | _ => none }
def ImprintFoldsWrongFalsely : Prop := imprintFoldsRow.holds Try.pinned (OpenSpec.ofChange imprintFoldsWrong)

/-- 'confluxlaw13.ParityMakes': WHATEVER THE INPUT: true; the input reads as it did. -/
def parityMakesSpec : ChangeSpec := { name := "parityMakes", fn := fun _ => fun
  | [d1, d2] => { results := [.lit (.bool true)], args := [d1, d2] }
  | _ => none }
def parityMakesRow : OpenClaim := { program := "ytchbgiindfoepaa", sum := "efda70d1d94a88f423e5dc179a64b1b92b6e72eaf61b40b576eb2f11604adeea", func := "conflux/confluxlaw13.ParityMakes", spec := "parityMakes", unfollowed := true, recurses := true, apart := false }
def ParityMakesSaid : Prop := parityMakesRow.holds Try.pinned (OpenSpec.ofChange parityMakesSpec)

/-- ITS FALSE NEIGHBOUR: 'it returns false'. Refute it at one input. -/
def parityMakesWrong : ChangeSpec := { name := "parityMakes", fn := fun _ => fun
  | [d1, d2] => { results := [.lit (.bool false)], args := [d1, d2] }
  | _ => none }
def ParityMakesWrongFalsely : Prop := parityMakesRow.holds Try.pinned (OpenSpec.ofChange parityMakesWrong)

/-- 'confluxlaw13.ParityBlocks': WHATEVER THE INPUT: true; the input reads as it did. -/
def parityBlocksSpec : ChangeSpec := { name := "parityBlocks", fn := fun _ => fun
  | [d1, d2] => { results := [.lit (.bool true)], args := [d1, d2] }
  | _ => none }
def parityBlocksRow : OpenClaim := { program := "ytchbgiindfoepaa", sum := "efda70d1d94a88f423e5dc179a64b1b92b6e72eaf61b40b576eb2f11604adeea", func := "conflux/confluxlaw13.ParityBlocks", spec := "parityBlocks", unfollowed := true, recurses := true, apart := false }
def ParityBlocksSaid : Prop := parityBlocksRow.holds Try.pinned (OpenSpec.ofChange parityBlocksSpec)

/-- ITS FALSE NEIGHBOUR: 'it returns false'. Refute it at one input. -/
def parityBlocksWrong : ChangeSpec := { name := "parityBlocks", fn := fun _ => fun
  | [d1, d2] => { results := [.lit (.bool false)], args := [d1, d2] }
  | _ => none }
def ParityBlocksWrongFalsely : Prop := parityBlocksRow.holds Try.pinned (OpenSpec.ofChange parityBlocksWrong)

/-- 'confluxlaw13.ParityOrder': WHATEVER THE INPUT: true; the input reads as it did. -/
def parityOrderSpec : ChangeSpec := { name := "parityOrder", fn := fun _ => fun
  | [d1, d2, d3] => { results := [.lit (.bool true)], args := [d1, d2, d3] }
  | _ => none }
def parityOrderRow : OpenClaim := { program := "ytchbgiindfoepaa", sum := "efda70d1d94a88f423e5dc179a64b1b92b6e72eaf61b40b576eb2f11604adeea", func := "conflux/confluxlaw13.ParityOrder", spec := "parityOrder", unfollowed := true, recurses := true, apart := false }
def ParityOrderSaid : Prop := parityOrderRow.holds Try.pinned (OpenSpec.ofChange parityOrderSpec)

/-- ITS FALSE NEIGHBOUR: 'it returns false'. Refute it at one input. -/
def parityOrderWrong : ChangeSpec := { name := "parityOrder", fn := fun _ => fun
  | [d1, d2, d3] => { results := [.lit (.bool false)], args := [d1, d2, d3] }
  | _ => none }
def ParityOrderWrongFalsely : Prop := parityOrderRow.holds Try.pinned (OpenSpec.ofChange parityOrderWrong)

/-- 'confluxlaw13.ParityParts': WHATEVER THE INPUT: true; the input reads as it did. -/
def parityPartsSpec : ChangeSpec := { name := "parityParts", fn := fun _ => fun
  | [d1, d2] => { results := [.lit (.bool true)], args := [d1, d2] }
  | _ => none }
def parityPartsRow : OpenClaim := { program := "ytchbgiindfoepaa", sum := "efda70d1d94a88f423e5dc179a64b1b92b6e72eaf61b40b576eb2f11604adeea", func := "conflux/confluxlaw13.ParityParts", spec := "parityParts", unfollowed := true, recurses := true, apart := false }
def ParityPartsSaid : Prop := parityPartsRow.holds Try.pinned (OpenSpec.ofChange parityPartsSpec)

/-- ITS FALSE NEIGHBOUR: 'it returns false'. Refute it at one input. -/
def parityPartsWrong : ChangeSpec := { name := "parityParts", fn := fun _ => fun
  | [d1, d2] => { results := [.lit (.bool false)], args := [d1, d2] }
  | _ => none }
def ParityPartsWrongFalsely : Prop := parityPartsRow.holds Try.pinned (OpenSpec.ofChange parityPartsWrong)

/-- 'confluxlaw14.SolveWhole': WHATEVER THE INPUT: true; the input reads as it did. -/
def solveWholeSpec : ChangeSpec := { name := "solveWhole", fn := fun _ => fun
  | [d1, d2, d3] => { results := [.lit (.bool true)], args := [d1, d2, d3] }
  | _ => none }
def solveWholeRow : OpenClaim := { program := "ytchbgiindfoepaa", sum := "efda70d1d94a88f423e5dc179a64b1b92b6e72eaf61b40b576eb2f11604adeea", func := "conflux/confluxlaw14.SolveWhole", spec := "solveWhole", unfollowed := true, recurses := true, apart := false }
def SolveWholeSaid : Prop := solveWholeRow.holds Try.pinned (OpenSpec.ofChange solveWholeSpec)

/-- ITS FALSE NEIGHBOUR: 'it returns false'. Refute it at one input. -/
def solveWholeWrong : ChangeSpec := { name := "solveWhole", fn := fun _ => fun
  | [d1, d2, d3] => { results := [.lit (.bool false)], args := [d1, d2, d3] }
  | _ => none }
def SolveWholeWrongFalsely : Prop := solveWholeRow.holds Try.pinned (OpenSpec.ofChange solveWholeWrong)

/-- 'confluxlaw14.SolveBooks': WHATEVER THE INPUT: true; the input reads as it did. -/
def solveBooksSpec : ChangeSpec := { name := "solveBooks", fn := fun _ => fun
  | [d1, d2] => { results := [.lit (.bool true)], args := [d1, d2] }
  | _ => none }
def solveBooksRow : OpenClaim := { program := "ytchbgiindfoepaa", sum := "efda70d1d94a88f423e5dc179a64b1b92b6e72eaf61b40b576eb2f11604adeea", func := "conflux/confluxlaw14.SolveBooks", spec := "solveBooks", unfollowed := true, recurses := true, apart := false }
def SolveBooksSaid : Prop := solveBooksRow.holds Try.pinned (OpenSpec.ofChange solveBooksSpec)

/-- ITS FALSE NEIGHBOUR: 'it returns false'. Refute it at one input. -/
def solveBooksWrong : ChangeSpec := { name := "solveBooks", fn := fun _ => fun
  | [d1, d2] => { results := [.lit (.bool false)], args := [d1, d2] }
  | _ => none }
def SolveBooksWrongFalsely : Prop := solveBooksRow.holds Try.pinned (OpenSpec.ofChange solveBooksWrong)

/-- 'confluxlaw14.SolveBack': WHATEVER THE INPUT: true; the input reads as it did. -/
def solveBackSpec : ChangeSpec := { name := "solveBack", fn := fun _ => fun
  | [d1, d2, d3] => { results := [.lit (.bool true)], args := [d1, d2, d3] }
  | _ => none }
def solveBackRow : OpenClaim := { program := "ytchbgiindfoepaa", sum := "efda70d1d94a88f423e5dc179a64b1b92b6e72eaf61b40b576eb2f11604adeea", func := "conflux/confluxlaw14.SolveBack", spec := "solveBack", unfollowed := true, recurses := true, apart := false }
def SolveBackSaid : Prop := solveBackRow.holds Try.pinned (OpenSpec.ofChange solveBackSpec)

/-- ITS FALSE NEIGHBOUR: 'it returns false'. Refute it at one input. -/
def solveBackWrong : ChangeSpec := { name := "solveBack", fn := fun _ => fun
  | [d1, d2, d3] => { results := [.lit (.bool false)], args := [d1, d2, d3] }
  | _ => none }
def SolveBackWrongFalsely : Prop := solveBackRow.holds Try.pinned (OpenSpec.ofChange solveBackWrong)

/-- 'confluxlaw14.SolveTwo': WHATEVER THE INPUT: true; the input reads as it did. -/
def solveTwoSpec : ChangeSpec := { name := "solveTwo", fn := fun _ => fun
  | [d1, d2, d3, d4] => { results := [.lit (.bool true)], args := [d1, d2, d3, d4] }
  | _ => none }
def solveTwoRow : OpenClaim := { program := "ytchbgiindfoepaa", sum := "efda70d1d94a88f423e5dc179a64b1b92b6e72eaf61b40b576eb2f11604adeea", func := "conflux/confluxlaw14.SolveTwo", spec := "solveTwo", unfollowed := true, recurses := true, apart := false }
def SolveTwoSaid : Prop := solveTwoRow.holds Try.pinned (OpenSpec.ofChange solveTwoSpec)

/-- ITS FALSE NEIGHBOUR: 'it returns false'. Refute it at one input. -/
def solveTwoWrong : ChangeSpec := { name := "solveTwo", fn := fun _ => fun
  | [d1, d2, d3, d4] => { results := [.lit (.bool false)], args := [d1, d2, d3, d4] }
  | _ => none }
def SolveTwoWrongFalsely : Prop := solveTwoRow.holds Try.pinned (OpenSpec.ofChange solveTwoWrong)

/- THE SECOND FORM. 'bulk': how many values and letters a reading holds, each counted each time it is reached (what is shared counts as often as it is met; a slice's spare places count too). A statement '..UptoSaid' is the law's where the arguments, and the package variables that the reading takes, are together of bulk at most 1048576: NARROWER than '..Said'. Prove '..Said' where nothing that the law and all that it calls make is longer than what came in: it says more and counts as full. Else prove '..UptoSaid'. A law counts once. -/
mutual
def uptoBulk {H : Type} : DataW H → Nat
  | .lit (.string bytes) => bytes.length + 1
  | .lit _ => 1
  | .nil => 1
  | .ptr d => uptoBulk d + 1
  | .slice elems spare => uptoBulkAll elems + uptoBulkAll spare + 1
  | .agg parts => uptoBulkAll parts + 1
  | .iface _ d => uptoBulk d + 1
  | .map entries => uptoBulkEntries entries + 1
  | .held _ => 1
def uptoBulkAll {H : Type} : List (DataW H) → Nat
  | [] => 0
  | d :: r => uptoBulk d + uptoBulkAll r
def uptoBulkEntries {H : Type} : List (Lit × DataW H) → Nat
  | [] => 0
  | x :: r => uptoBulkEntry x + uptoBulkEntries r
def uptoBulkEntry {H : Type} : Lit × DataW H → Nat
  | (.string bytes, d) => bytes.length + uptoBulk d + 1
  | (_, d) => uptoBulk d + 1
 end
def uptoSmall : (H : Type) → List (DataW H) → Bool := fun _ ds => decide (uptoBulkAll ds ≤ 1048576)
def OpenSpec.upto (s : _root_.Go.ChangeSpec) : _root_.Go.OpenSpec := { _root_.Go.OpenSpec.ofChange s with cond := some uptoSmall }

/-- 'confluxlaw12.ImprintFolds', WHERE WHAT IT READS IS OF BULK AT MOST 1048576: true; the input reads as it did. -/
def imprintFoldsUptoRow : OpenClaim := { program := "ytchbgiindfoepaa", sum := "efda70d1d94a88f423e5dc179a64b1b92b6e72eaf61b40b576eb2f11604adeea", func := "conflux/confluxlaw12.ImprintFolds", spec := "imprintFolds", unfollowed := true, recurses := true, apart := false, narrowed := true }
def ImprintFoldsUptoSaid : Prop := imprintFoldsUptoRow.holds Try.pinned (OpenSpec.upto imprintFoldsSpec)

/-- 'confluxlaw13.ParityMakes', WHERE WHAT IT READS IS OF BULK AT MOST 1048576: true; the input reads as it did. -/
def parityMakesUptoRow : OpenClaim := { program := "ytchbgiindfoepaa", sum := "efda70d1d94a88f423e5dc179a64b1b92b6e72eaf61b40b576eb2f11604adeea", func := "conflux/confluxlaw13.ParityMakes", spec := "parityMakes", unfollowed := true, recurses := true, apart := false, narrowed := true }
def ParityMakesUptoSaid : Prop := parityMakesUptoRow.holds Try.pinned (OpenSpec.upto parityMakesSpec)

/-- 'confluxlaw13.ParityBlocks', WHERE WHAT IT READS IS OF BULK AT MOST 1048576: true; the input reads as it did. -/
def parityBlocksUptoRow : OpenClaim := { program := "ytchbgiindfoepaa", sum := "efda70d1d94a88f423e5dc179a64b1b92b6e72eaf61b40b576eb2f11604adeea", func := "conflux/confluxlaw13.ParityBlocks", spec := "parityBlocks", unfollowed := true, recurses := true, apart := false, narrowed := true }
def ParityBlocksUptoSaid : Prop := parityBlocksUptoRow.holds Try.pinned (OpenSpec.upto parityBlocksSpec)

/-- 'confluxlaw13.ParityOrder', WHERE WHAT IT READS IS OF BULK AT MOST 1048576: true; the input reads as it did. -/
def parityOrderUptoRow : OpenClaim := { program := "ytchbgiindfoepaa", sum := "efda70d1d94a88f423e5dc179a64b1b92b6e72eaf61b40b576eb2f11604adeea", func := "conflux/confluxlaw13.ParityOrder", spec := "parityOrder", unfollowed := true, recurses := true, apart := false, narrowed := true }
def ParityOrderUptoSaid : Prop := parityOrderUptoRow.holds Try.pinned (OpenSpec.upto parityOrderSpec)

/-- 'confluxlaw13.ParityParts', WHERE WHAT IT READS IS OF BULK AT MOST 1048576: true; the input reads as it did. -/
def parityPartsUptoRow : OpenClaim := { program := "ytchbgiindfoepaa", sum := "efda70d1d94a88f423e5dc179a64b1b92b6e72eaf61b40b576eb2f11604adeea", func := "conflux/confluxlaw13.ParityParts", spec := "parityParts", unfollowed := true, recurses := true, apart := false, narrowed := true }
def ParityPartsUptoSaid : Prop := parityPartsUptoRow.holds Try.pinned (OpenSpec.upto parityPartsSpec)

/-- 'confluxlaw14.SolveWhole', WHERE WHAT IT READS IS OF BULK AT MOST 1048576: true; the input reads as it did. -/
def solveWholeUptoRow : OpenClaim := { program := "ytchbgiindfoepaa", sum := "efda70d1d94a88f423e5dc179a64b1b92b6e72eaf61b40b576eb2f11604adeea", func := "conflux/confluxlaw14.SolveWhole", spec := "solveWhole", unfollowed := true, recurses := true, apart := false, narrowed := true }
def SolveWholeUptoSaid : Prop := solveWholeUptoRow.holds Try.pinned (OpenSpec.upto solveWholeSpec)

/-- 'confluxlaw14.SolveBooks', WHERE WHAT IT READS IS OF BULK AT MOST 1048576: true; the input reads as it did. -/
def solveBooksUptoRow : OpenClaim := { program := "ytchbgiindfoepaa", sum := "efda70d1d94a88f423e5dc179a64b1b92b6e72eaf61b40b576eb2f11604adeea", func := "conflux/confluxlaw14.SolveBooks", spec := "solveBooks", unfollowed := true, recurses := true, apart := false, narrowed := true }
def SolveBooksUptoSaid : Prop := solveBooksUptoRow.holds Try.pinned (OpenSpec.upto solveBooksSpec)

/-- 'confluxlaw14.SolveBack', WHERE WHAT IT READS IS OF BULK AT MOST 1048576: true; the input reads as it did. -/
def solveBackUptoRow : OpenClaim := { program := "ytchbgiindfoepaa", sum := "efda70d1d94a88f423e5dc179a64b1b92b6e72eaf61b40b576eb2f11604adeea", func := "conflux/confluxlaw14.SolveBack", spec := "solveBack", unfollowed := true, recurses := true, apart := false, narrowed := true }
def SolveBackUptoSaid : Prop := solveBackUptoRow.holds Try.pinned (OpenSpec.upto solveBackSpec)

/-- 'confluxlaw14.SolveTwo', WHERE WHAT IT READS IS OF BULK AT MOST 1048576: true; the input reads as it did. -/
def solveTwoUptoRow : OpenClaim := { program := "ytchbgiindfoepaa", sum := "efda70d1d94a88f423e5dc179a64b1b92b6e72eaf61b40b576eb2f11604adeea", func := "conflux/confluxlaw14.SolveTwo", spec := "solveTwo", unfollowed := true, recurses := true, apart := false, narrowed := true }
def SolveTwoUptoSaid : Prop := solveTwoUptoRow.holds Try.pinned (OpenSpec.upto solveTwoSpec)

end Rows
end Go.Proofs.Ytchbgiindfoepaa
