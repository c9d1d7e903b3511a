/-
  No cell of these rows narrows 'for every input' (looked for: loops, veiled, ifaces, maps, wideKeys, modest, calm, conditions, laid).
  DERIVED. THE GIVEN ROWS OF THIS SEAT. 4 by the template 'for every input the law returns true; each argument reads behind the call as it read before'; 0 by the template 'total and deterministic' (their statements: YtcngfbjmpemehaaGreatTotals.lean).
  GIVEN WITH THE SEED: the statements are not yours to turn. If you find one false, say at which input.
  Laid BY PROGRAM, IN A SANDBOX (cutbox-rows.mjs): the forced cells as the released guide's own fill.sh prints them over the translation c790415f4c554886… (all of the seat's roots in one cut). By AI agents, Wed Nov 11 2026. No macro, syntax, notation, axiom, sorry.
-/
import Derived.Test.YtcngfbjmpemehaaGreatChecked
import GoSem.Claim
import GoSem.ClaimJoined
import GoSem.ClaimMapViews
import Derived.JoinedTies
import Derived.KernelRfl
namespace Go.Proofs.YtcngfbjmpemehaaGreat
/- THE CELL 'sum', in the pinned program and in every row, IS THE sha256 OF THE DUMP (.gsa) THAT YtcngfbjmpemehaaGreatProg.lean LOADS. Nothing in Lean hashes anything: it is a label: what it is worth is what the hold of that sum in a sandbox is worth. -/
noncomputable def Tryz.pinned : Pinned := { name := "ytcngfbjmpemehaagreat", sum := "c790415f4c55488677195c657b95c74392866eaa286c60d970030b47132e3744", checked := Tryz.checked }
namespace Rows
def none {H : Type} : Left H := { results := [], args := [] }

/-- 'confluxlaw16.PeelPlays': WHATEVER THE INPUT: true; the input reads as it did. -/
def peelPlaysSpec : ChangeSpec := { name := "peelPlays", fn := fun _ => fun
  | [d1, d2, d3, d4, d5] => { results := [.lit (.bool true)], args := [d1, d2, d3, d4, d5] }
  | _ => none }
def peelPlaysRow : OpenClaim := { program := "ytcngfbjmpemehaagreat", sum := "c790415f4c55488677195c657b95c74392866eaa286c60d970030b47132e3744", func := "conflux/confluxlaw16.PeelPlays", spec := "peelPlays", unfollowed := true, recurses := true, apart := false }
def PeelPlaysSaid : Prop := peelPlaysRow.holds Tryz.pinned (OpenSpec.ofChange peelPlaysSpec)

/-- ITS FALSE NEIGHBOUR: 'it returns false'. Refute it at one input. -/
def peelPlaysWrong : ChangeSpec := { name := "peelPlays", fn := fun _ => fun
  | [d1, d2, d3, d4, d5] => { results := [.lit (.bool false)], args := [d1, d2, d3, d4, d5] }
  | _ => none }
def PeelPlaysWrongFalsely : Prop := peelPlaysRow.holds Tryz.pinned (OpenSpec.ofChange peelPlaysWrong)

/-- 'confluxlaw16.PeelTells': WHATEVER THE INPUT: true; the input reads as it did. -/
def peelTellsSpec : ChangeSpec := { name := "peelTells", fn := fun _ => fun
  | [d1, d2, d3, d4] => { results := [.lit (.bool true)], args := [d1, d2, d3, d4] }
  | _ => none }
def peelTellsRow : OpenClaim := { program := "ytcngfbjmpemehaagreat", sum := "c790415f4c55488677195c657b95c74392866eaa286c60d970030b47132e3744", func := "conflux/confluxlaw16.PeelTells", spec := "peelTells", unfollowed := true, recurses := true, apart := false }
def PeelTellsSaid : Prop := peelTellsRow.holds Tryz.pinned (OpenSpec.ofChange peelTellsSpec)

/-- ITS FALSE NEIGHBOUR: 'it returns false'. Refute it at one input. -/
def peelTellsWrong : ChangeSpec := { name := "peelTells", fn := fun _ => fun
  | [d1, d2, d3, d4] => { results := [.lit (.bool false)], args := [d1, d2, d3, d4] }
  | _ => none }
def PeelTellsWrongFalsely : Prop := peelTellsRow.holds Tryz.pinned (OpenSpec.ofChange peelTellsWrong)

/-- 'confluxlaw16.PeelHonest': WHATEVER THE INPUT: true; the input reads as it did. -/
def peelHonestSpec : ChangeSpec := { name := "peelHonest", fn := fun _ => fun
  | [d1, d2, d3, d4, d5] => { results := [.lit (.bool true)], args := [d1, d2, d3, d4, d5] }
  | _ => none }
def peelHonestRow : OpenClaim := { program := "ytcngfbjmpemehaagreat", sum := "c790415f4c55488677195c657b95c74392866eaa286c60d970030b47132e3744", func := "conflux/confluxlaw16.PeelHonest", spec := "peelHonest", unfollowed := true, recurses := true, apart := false }
def PeelHonestSaid : Prop := peelHonestRow.holds Tryz.pinned (OpenSpec.ofChange peelHonestSpec)

/-- ITS FALSE NEIGHBOUR: 'it returns false'. Refute it at one input. -/
def peelHonestWrong : ChangeSpec := { name := "peelHonest", fn := fun _ => fun
  | [d1, d2, d3, d4, d5] => { results := [.lit (.bool false)], args := [d1, d2, d3, d4, d5] }
  | _ => none }
def PeelHonestWrongFalsely : Prop := peelHonestRow.holds Tryz.pinned (OpenSpec.ofChange peelHonestWrong)

/-- 'confluxlaw16.PeelOrders': WHATEVER THE INPUT: true; the input reads as it did. -/
def peelOrdersSpec : ChangeSpec := { name := "peelOrders", fn := fun _ => fun
  | [d1, d2, d3, d4, d5] => { results := [.lit (.bool true)], args := [d1, d2, d3, d4, d5] }
  | _ => none }
def peelOrdersRow : OpenClaim := { program := "ytcngfbjmpemehaagreat", sum := "c790415f4c55488677195c657b95c74392866eaa286c60d970030b47132e3744", func := "conflux/confluxlaw16.PeelOrders", spec := "peelOrders", unfollowed := true, recurses := true, apart := false }
def PeelOrdersSaid : Prop := peelOrdersRow.holds Tryz.pinned (OpenSpec.ofChange peelOrdersSpec)

/-- ITS FALSE NEIGHBOUR: 'it returns false'. Refute it at one input. -/
def peelOrdersWrong : ChangeSpec := { name := "peelOrders", fn := fun _ => fun
  | [d1, d2, d3, d4, d5] => { results := [.lit (.bool false)], args := [d1, d2, d3, d4, d5] }
  | _ => none }
def PeelOrdersWrongFalsely : Prop := peelOrdersRow.holds Tryz.pinned (OpenSpec.ofChange peelOrdersWrong)

/- THE SECOND FORM. 'bulk': how many values and letters a reading holds, each counted each time it is reached (what is shared counts as often as it is met; a slice's spare places count too). A statement '..UptoSaid' is the law's where the arguments, and the package variables that the reading takes, are together of bulk at most 1048576: NARROWER than '..Said'. Prove '..Said' where nothing that the law and all that it calls make is longer than what came in: it says more and counts as full. Else prove '..UptoSaid'. A law counts once. -/
mutual
def uptoBulk {H : Type} : DataW H → Nat
  | .lit (.string bytes) => bytes.length + 1
  | .lit _ => 1
  | .nil => 1
  | .ptr d => uptoBulk d + 1
  | .slice elems spare => uptoBulkAll elems + uptoBulkAll spare + 1
  | .agg parts => uptoBulkAll parts + 1
  | .iface _ d => uptoBulk d + 1
  | .map entries => uptoBulkEntries entries + 1
  | .held _ => 1
def uptoBulkAll {H : Type} : List (DataW H) → Nat
  | [] => 0
  | d :: r => uptoBulk d + uptoBulkAll r
def uptoBulkEntries {H : Type} : List (Lit × DataW H) → Nat
  | [] => 0
  | x :: r => uptoBulkEntry x + uptoBulkEntries r
def uptoBulkEntry {H : Type} : Lit × DataW H → Nat
  | (.string bytes, d) => bytes.length + uptoBulk d + 1
  | (_, d) => uptoBulk d + 1
 end
def uptoSmall : (H : Type) → List (DataW H) → Bool := fun _ ds => decide (uptoBulkAll ds ≤ 1048576)
def OpenSpec.upto (s : _root_.Go.ChangeSpec) : _root_.Go.OpenSpec := { _root_.Go.OpenSpec.ofChange s with cond := some uptoSmall }

/-- 'confluxlaw16.PeelPlays', WHERE WHAT IT READS IS OF BULK AT MOST 1048576: true; the input reads as it did. -/
def peelPlaysUptoRow : OpenClaim := { program := "ytcngfbjmpemehaagreat", sum := "c790415f4c55488677195c657b95c74392866eaa286c60d970030b47132e3744", func := "conflux/confluxlaw16.PeelPlays", spec := "peelPlays", unfollowed := true, recurses := true, apart := false, narrowed := true }
def PeelPlaysUptoSaid : Prop := peelPlaysUptoRow.holds Tryz.pinned (OpenSpec.upto peelPlaysSpec)

/-- 'confluxlaw16.PeelTells', WHERE WHAT IT READS IS OF BULK AT MOST 1048576: true; the input reads as it did. -/
def peelTellsUptoRow : OpenClaim := { program := "ytcngfbjmpemehaagreat", sum := "c790415f4c55488677195c657b95c74392866eaa286c60d970030b47132e3744", func := "conflux/confluxlaw16.PeelTells", spec := "peelTells", unfollowed := true, recurses := true, apart := false, narrowed := true }
def PeelTellsUptoSaid : Prop := peelTellsUptoRow.holds Tryz.pinned (OpenSpec.upto peelTellsSpec)

/-- 'confluxlaw16.PeelHonest', WHERE WHAT IT READS IS OF BULK AT MOST 1048576: true; the input reads as it did. -/
def peelHonestUptoRow : OpenClaim := { program := "ytcngfbjmpemehaagreat", sum := "c790415f4c55488677195c657b95c74392866eaa286c60d970030b47132e3744", func := "conflux/confluxlaw16.PeelHonest", spec := "peelHonest", unfollowed := true, recurses := true, apart := false, narrowed := true }
def PeelHonestUptoSaid : Prop := peelHonestUptoRow.holds Tryz.pinned (OpenSpec.upto peelHonestSpec)

/-- 'confluxlaw16.PeelOrders', WHERE WHAT IT READS IS OF BULK AT MOST 1048576: true; the input reads as it did. -/
def peelOrdersUptoRow : OpenClaim := { program := "ytcngfbjmpemehaagreat", sum := "c790415f4c55488677195c657b95c74392866eaa286c60d970030b47132e3744", func := "conflux/confluxlaw16.PeelOrders", spec := "peelOrders", unfollowed := true, recurses := true, apart := false, narrowed := true }
def PeelOrdersUptoSaid : Prop := peelOrdersUptoRow.holds Tryz.pinned (OpenSpec.upto peelOrdersSpec)

end Rows
end Go.Proofs.YtcngfbjmpemehaaGreat
