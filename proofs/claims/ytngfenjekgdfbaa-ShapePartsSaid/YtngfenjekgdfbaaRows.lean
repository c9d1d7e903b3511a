/-
  No cell of these rows narrows 'for every input' (looked for: loops, veiled, ifaces, maps, wideKeys, modest, calm, conditions, laid).
  DERIVED. THE GIVEN ROWS OF THIS SEAT. 4 by the template 'for every input the law returns true; each argument reads behind the call as it read before'; 0 by the template 'total and deterministic' (their statements: YtngfenjekgdfbaaTotals.lean).
  GIVEN WITH THE SEED: the statements are not yours to turn. If you find one false, say at which input.
  Laid BY PROGRAM, IN A SANDBOX (cutbox-rows.mjs): the forced cells as the released guide's own fill.sh prints them over the translation ffd196f3910c5438… (all of the seat's roots in one cut). By AI agents, Wed Nov 11 2026. No macro, syntax, notation, axiom, sorry.
-/
import Derived.Test.YtngfenjekgdfbaaChecked
import GoSem.Claim
import GoSem.ClaimJoined
import GoSem.ClaimMapViews
import Derived.JoinedTies
import Derived.KernelRfl
namespace Go.Proofs.Ytngfenjekgdfbaa
/- THE CELL 'sum', in the pinned program and in every row, IS THE sha256 OF THE DUMP (.gsa) THAT YtngfenjekgdfbaaProg.lean LOADS. Nothing in Lean hashes anything: it is a label: what it is worth is what the hold of that sum in a sandbox is worth. -/
noncomputable def Try.pinned : Pinned := { name := "ytngfenjekgdfbaa", sum := "ffd196f3910c543898f8206e72ed2b8beb65e00ff87cb521107faef2bb55f1ae", checked := Try.checked }
namespace Rows
def none {H : Type} : Left H := { results := [], args := [] }

/-- 'confluxlaw18.ShapeOf': WHATEVER THE INPUT: true; the input reads as it did. -/
def shapeOfSpec : ChangeSpec := { name := "shapeOf", fn := fun _ => fun
  | [d1, d2, d3, d4] => { results := [.lit (.bool true)], args := [d1, d2, d3, d4] }
  | _ => none }
def shapeOfRow : OpenClaim := { program := "ytngfenjekgdfbaa", sum := "ffd196f3910c543898f8206e72ed2b8beb65e00ff87cb521107faef2bb55f1ae", func := "conflux/confluxlaw18.ShapeOf", spec := "shapeOf", unfollowed := true, recurses := true, apart := false }
def ShapeOfSaid : Prop := shapeOfRow.holds Try.pinned (OpenSpec.ofChange shapeOfSpec)

/-- ITS FALSE NEIGHBOUR: 'it returns false'. Refute it at one input. -/
def shapeOfWrong : ChangeSpec := { name := "shapeOf", fn := fun _ => fun
  | [d1, d2, d3, d4] => { results := [.lit (.bool false)], args := [d1, d2, d3, d4] }
  | _ => none }
def ShapeOfWrongFalsely : Prop := shapeOfRow.holds Try.pinned (OpenSpec.ofChange shapeOfWrong)

/-- 'confluxlaw18.ShapeBursts': WHATEVER THE INPUT: true; the input reads as it did. -/
def shapeBurstsSpec : ChangeSpec := { name := "shapeBursts", fn := fun _ => fun
  | [d1, d2] => { results := [.lit (.bool true)], args := [d1, d2] }
  | _ => none }
def shapeBurstsRow : OpenClaim := { program := "ytngfenjekgdfbaa", sum := "ffd196f3910c543898f8206e72ed2b8beb65e00ff87cb521107faef2bb55f1ae", func := "conflux/confluxlaw18.ShapeBursts", spec := "shapeBursts", unfollowed := true, recurses := true, apart := false }
def ShapeBurstsSaid : Prop := shapeBurstsRow.holds Try.pinned (OpenSpec.ofChange shapeBurstsSpec)

/-- ITS FALSE NEIGHBOUR: 'it returns false'. Refute it at one input. -/
def shapeBurstsWrong : ChangeSpec := { name := "shapeBursts", fn := fun _ => fun
  | [d1, d2] => { results := [.lit (.bool false)], args := [d1, d2] }
  | _ => none }
def ShapeBurstsWrongFalsely : Prop := shapeBurstsRow.holds Try.pinned (OpenSpec.ofChange shapeBurstsWrong)

/-- 'confluxlaw18.ShapeCovers': WHATEVER THE INPUT: true; the input reads as it did. -/
def shapeCoversSpec : ChangeSpec := { name := "shapeCovers", fn := fun _ => fun
  | [d1, d2, d3, d4] => { results := [.lit (.bool true)], args := [d1, d2, d3, d4] }
  | _ => none }
def shapeCoversRow : OpenClaim := { program := "ytngfenjekgdfbaa", sum := "ffd196f3910c543898f8206e72ed2b8beb65e00ff87cb521107faef2bb55f1ae", func := "conflux/confluxlaw18.ShapeCovers", spec := "shapeCovers", unfollowed := true, recurses := true, apart := false }
def ShapeCoversSaid : Prop := shapeCoversRow.holds Try.pinned (OpenSpec.ofChange shapeCoversSpec)

/-- ITS FALSE NEIGHBOUR: 'it returns false'. Refute it at one input. -/
def shapeCoversWrong : ChangeSpec := { name := "shapeCovers", fn := fun _ => fun
  | [d1, d2, d3, d4] => { results := [.lit (.bool false)], args := [d1, d2, d3, d4] }
  | _ => none }
def ShapeCoversWrongFalsely : Prop := shapeCoversRow.holds Try.pinned (OpenSpec.ofChange shapeCoversWrong)

/-- 'confluxlaw18.ShapeParts': WHATEVER THE INPUT: true; the input reads as it did. -/
def shapePartsSpec : ChangeSpec := { name := "shapeParts", fn := fun _ => fun
  | [d1, d2, d3] => { results := [.lit (.bool true)], args := [d1, d2, d3] }
  | _ => none }
def shapePartsRow : OpenClaim := { program := "ytngfenjekgdfbaa", sum := "ffd196f3910c543898f8206e72ed2b8beb65e00ff87cb521107faef2bb55f1ae", func := "conflux/confluxlaw18.ShapeParts", spec := "shapeParts", unfollowed := true, recurses := true, apart := false }
def ShapePartsSaid : Prop := shapePartsRow.holds Try.pinned (OpenSpec.ofChange shapePartsSpec)

/-- ITS FALSE NEIGHBOUR: 'it returns false'. Refute it at one input. -/
def shapePartsWrong : ChangeSpec := { name := "shapeParts", fn := fun _ => fun
  | [d1, d2, d3] => { results := [.lit (.bool false)], args := [d1, d2, d3] }
  | _ => none }
def ShapePartsWrongFalsely : Prop := shapePartsRow.holds Try.pinned (OpenSpec.ofChange shapePartsWrong)

/- THE SECOND FORM. 'bulk': how many values and letters a reading holds, each counted each time it is reached (what is shared counts as often as it is met; a slice's spare places count too). A statement '..UptoSaid' is the law's where the arguments, and the package variables that the reading takes, are together of bulk at most 1048576: NARROWER than '..Said'. Prove '..Said' where nothing that the law and all that it calls make is longer than what came in: it says more and counts as full. Else prove '..UptoSaid'. A law counts once. -/
mutual
def uptoBulk {H : Type} : DataW H → Nat
  | .lit (.string bytes) => bytes.length + 1
  | .lit _ => 1
  | .nil => 1
  | .ptr d => uptoBulk d + 1
  | .slice elems spare => uptoBulkAll elems + uptoBulkAll spare + 1
  | .agg parts => uptoBulkAll parts + 1
  | .iface _ d => uptoBulk d + 1
  | .map entries => uptoBulkEntries entries + 1
  | .held _ => 1
def uptoBulkAll {H : Type} : List (DataW H) → Nat
  | [] => 0
  | d :: r => uptoBulk d + uptoBulkAll r
def uptoBulkEntries {H : Type} : List (Lit × DataW H) → Nat
  | [] => 0
  | x :: r => uptoBulkEntry x + uptoBulkEntries r
def uptoBulkEntry {H : Type} : Lit × DataW H → Nat
  | (.string bytes, d) => bytes.length + uptoBulk d + 1
  | (_, d) => uptoBulk d + 1
 end
def uptoSmall : (H : Type) → List (DataW H) → Bool := fun _ ds => decide (uptoBulkAll ds ≤ 1048576)
def OpenSpec.upto (s : _root_.Go.ChangeSpec) : _root_.Go.OpenSpec := { _root_.Go.OpenSpec.ofChange s with cond := some uptoSmall }

/-- 'confluxlaw18.ShapeOf', WHERE WHAT IT READS IS OF BULK AT MOST 1048576: true; the input reads as it did. -/
def shapeOfUptoRow : OpenClaim := { program := "ytngfenjekgdfbaa", sum := "ffd196f3910c543898f8206e72ed2b8beb65e00ff87cb521107faef2bb55f1ae", func := "conflux/confluxlaw18.ShapeOf", spec := "shapeOf", unfollowed := true, recurses := true, apart := false, narrowed := true }
def ShapeOfUptoSaid : Prop := shapeOfUptoRow.holds Try.pinned (OpenSpec.upto shapeOfSpec)

/-- 'confluxlaw18.ShapeBursts', WHERE WHAT IT READS IS OF BULK AT MOST 1048576: true; the input reads as it did. -/
def shapeBurstsUptoRow : OpenClaim := { program := "ytngfenjekgdfbaa", sum := "ffd196f3910c543898f8206e72ed2b8beb65e00ff87cb521107faef2bb55f1ae", func := "conflux/confluxlaw18.ShapeBursts", spec := "shapeBursts", unfollowed := true, recurses := true, apart := false, narrowed := true }
def ShapeBurstsUptoSaid : Prop := shapeBurstsUptoRow.holds Try.pinned (OpenSpec.upto shapeBurstsSpec)

/-- 'confluxlaw18.ShapeCovers', WHERE WHAT IT READS IS OF BULK AT MOST 1048576: true; the input reads as it did. -/
def shapeCoversUptoRow : OpenClaim := { program := "ytngfenjekgdfbaa", sum := "ffd196f3910c543898f8206e72ed2b8beb65e00ff87cb521107faef2bb55f1ae", func := "conflux/confluxlaw18.ShapeCovers", spec := "shapeCovers", unfollowed := true, recurses := true, apart := false, narrowed := true }
def ShapeCoversUptoSaid : Prop := shapeCoversUptoRow.holds Try.pinned (OpenSpec.upto shapeCoversSpec)

/-- 'confluxlaw18.ShapeParts', WHERE WHAT IT READS IS OF BULK AT MOST 1048576: true; the input reads as it did. -/
def shapePartsUptoRow : OpenClaim := { program := "ytngfenjekgdfbaa", sum := "ffd196f3910c543898f8206e72ed2b8beb65e00ff87cb521107faef2bb55f1ae", func := "conflux/confluxlaw18.ShapeParts", spec := "shapeParts", unfollowed := true, recurses := true, apart := false, narrowed := true }
def ShapePartsUptoSaid : Prop := shapePartsUptoRow.holds Try.pinned (OpenSpec.upto shapePartsSpec)

end Rows
end Go.Proofs.Ytngfenjekgdfbaa
