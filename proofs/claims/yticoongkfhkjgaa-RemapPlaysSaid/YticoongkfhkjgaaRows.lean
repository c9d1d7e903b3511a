/-
  No cell of these rows narrows 'for every input' (looked for: loops, veiled, ifaces, maps, wideKeys, modest, calm, conditions, laid).
  DERIVED. THE GIVEN ROWS OF THIS SEAT. 12 by the template 'for every input the law returns true; each argument reads behind the call as it read before'; 0 by the template 'total and deterministic' (their statements: YticoongkfhkjgaaTotals.lean).
  GIVEN WITH THE SEED: the statements are not yours to turn. If you find one false, say at which input.
  Laid BY PROGRAM, IN A SANDBOX (cutbox-rows.mjs): the forced cells as the released guide's own fill.sh prints them over the translation a44545ac07203a90… (all of the seat's roots in one cut). By AI agents, Wed Nov 11 2026. No macro, syntax, notation, axiom, sorry.
-/
import Derived.Test.YticoongkfhkjgaaChecked
import GoSem.Claim
import GoSem.ClaimJoined
import GoSem.ClaimMapViews
import Derived.JoinedTies
import Derived.KernelRfl
namespace Go.Proofs.Yticoongkfhkjgaa
/- THE CELL 'sum', in the pinned program and in every row, IS THE sha256 OF THE DUMP (.gsa) THAT YticoongkfhkjgaaProg.lean LOADS. Nothing in Lean hashes anything: it is a label: what it is worth is what the hold of that sum in a sandbox is worth. -/
noncomputable def Try.pinned : Pinned := { name := "yticoongkfhkjgaa", sum := "a44545ac07203a90815aacf48c4b8093a18805fa9df740e403382f6f2a86fbff", checked := Try.checked }
namespace Rows
def none {H : Type} : Left H := { results := [], args := [] }

/-- 'confluxlaw12.ImprintOf': WHATEVER THE INPUT: true; the input reads as it did. -/
def imprintOfSpec : ChangeSpec := { name := "imprintOf", fn := fun _ => fun
  | [d] => { results := [.lit (.bool true)], args := [d] }
  | _ => none }
def imprintOfRow : OpenClaim := { program := "yticoongkfhkjgaa", sum := "a44545ac07203a90815aacf48c4b8093a18805fa9df740e403382f6f2a86fbff", func := "conflux/confluxlaw12.ImprintOf", spec := "imprintOf", unfollowed := true, recurses := true, apart := false }
def ImprintOfSaid : Prop := imprintOfRow.holds Try.pinned (OpenSpec.ofChange imprintOfSpec)

/-- ITS FALSE NEIGHBOUR: 'it returns false'. Refute it at one input. -/
def imprintOfWrong : ChangeSpec := { name := "imprintOf", fn := fun _ => fun
  | [d] => { results := [.lit (.bool false)], args := [d] }
  | _ => none }
def ImprintOfWrongFalsely : Prop := imprintOfRow.holds Try.pinned (OpenSpec.ofChange imprintOfWrong)

/-- 'confluxlaw12.ImprintPackets': WHATEVER THE INPUT: true; the input reads as it did. -/
def imprintPacketsSpec : ChangeSpec := { name := "imprintPackets", fn := fun _ => fun
  | [d1, d2, d3, d4] => { results := [.lit (.bool true)], args := [d1, d2, d3, d4] }
  | _ => none }
def imprintPacketsRow : OpenClaim := { program := "yticoongkfhkjgaa", sum := "a44545ac07203a90815aacf48c4b8093a18805fa9df740e403382f6f2a86fbff", func := "conflux/confluxlaw12.ImprintPackets", spec := "imprintPackets", unfollowed := true, recurses := true, apart := false }
def ImprintPacketsSaid : Prop := imprintPacketsRow.holds Try.pinned (OpenSpec.ofChange imprintPacketsSpec)

/-- ITS FALSE NEIGHBOUR: 'it returns false'. Refute it at one input. -/
def imprintPacketsWrong : ChangeSpec := { name := "imprintPackets", fn := fun _ => fun
  | [d1, d2, d3, d4] => { results := [.lit (.bool false)], args := [d1, d2, d3, d4] }
  | _ => none }
def ImprintPacketsWrongFalsely : Prop := imprintPacketsRow.holds Try.pinned (OpenSpec.ofChange imprintPacketsWrong)

/-- 'confluxlaw12.ImprintBack': WHATEVER THE INPUT: true; the input reads as it did. -/
def imprintBackSpec : ChangeSpec := { name := "imprintBack", fn := fun _ => fun
  | [d1, d2] => { results := [.lit (.bool true)], args := [d1, d2] }
  | _ => none }
def imprintBackRow : OpenClaim := { program := "yticoongkfhkjgaa", sum := "a44545ac07203a90815aacf48c4b8093a18805fa9df740e403382f6f2a86fbff", func := "conflux/confluxlaw12.ImprintBack", spec := "imprintBack", unfollowed := true, recurses := true, apart := false }
def ImprintBackSaid : Prop := imprintBackRow.holds Try.pinned (OpenSpec.ofChange imprintBackSpec)

/-- ITS FALSE NEIGHBOUR: 'it returns false'. Refute it at one input. -/
def imprintBackWrong : ChangeSpec := { name := "imprintBack", fn := fun _ => fun
  | [d1, d2] => { results := [.lit (.bool false)], args := [d1, d2] }
  | _ => none }
def ImprintBackWrongFalsely : Prop := imprintBackRow.holds Try.pinned (OpenSpec.ofChange imprintBackWrong)

/-- 'confluxlaw12.ImprintFolds': WHATEVER THE INPUT: true; the input reads as it did. -/
def imprintFoldsSpec : ChangeSpec := { name := "imprintFolds", fn := fun _ => fun
  | [d1, d2] => { results := [.lit (.bool true)], args := [d1, d2] }
  | _ => none }
def imprintFoldsRow : OpenClaim := { program := "yticoongkfhkjgaa", sum := "a44545ac07203a90815aacf48c4b8093a18805fa9df740e403382f6f2a86fbff", func := "conflux/confluxlaw12.ImprintFolds", spec := "imprintFolds", unfollowed := true, recurses := true, apart := false }
def ImprintFoldsSaid : Prop := imprintFoldsRow.holds Try.pinned (OpenSpec.ofChange imprintFoldsSpec)

/-- ITS FALSE NEIGHBOUR: 'it returns false'. Refute it at one input. -/
def imprintFoldsWrong : ChangeSpec := { name := "imprintFolds", fn := fun _ => fun
  | [d1, d2] => { results := [.lit (.bool false)], args := [d1, d2] }
  | _ => none }
def ImprintFoldsWrongFalsely : Prop := imprintFoldsRow.holds Try.pinned (OpenSpec.ofChange imprintFoldsWrong)

/-- 'confluxlaw12.ImprintAlike': WHATEVER THE INPUT: true; the input reads as it did. -/
def imprintAlikeSpec : ChangeSpec := { name := "imprintAlike", fn := fun _ => fun
  | [d1, d2, d3, d4] => { results := [.lit (.bool true)], args := [d1, d2, d3, d4] }
  | _ => none }
def imprintAlikeRow : OpenClaim := { program := "yticoongkfhkjgaa", sum := "a44545ac07203a90815aacf48c4b8093a18805fa9df740e403382f6f2a86fbff", func := "conflux/confluxlaw12.ImprintAlike", spec := "imprintAlike", unfollowed := true, recurses := true, apart := false }
def ImprintAlikeSaid : Prop := imprintAlikeRow.holds Try.pinned (OpenSpec.ofChange imprintAlikeSpec)

/-- ITS FALSE NEIGHBOUR: 'it returns false'. Refute it at one input. -/
def imprintAlikeWrong : ChangeSpec := { name := "imprintAlike", fn := fun _ => fun
  | [d1, d2, d3, d4] => { results := [.lit (.bool false)], args := [d1, d2, d3, d4] }
  | _ => none }
def ImprintAlikeWrongFalsely : Prop := imprintAlikeRow.holds Try.pinned (OpenSpec.ofChange imprintAlikeWrong)

/-- 'confluxlaw05.RtpBack': WHATEVER THE INPUT: true; the input reads as it did. -/
def rtpBackSpec : ChangeSpec := { name := "rtpBack", fn := fun _ => fun
  | [d1, d2] => { results := [.lit (.bool true)], args := [d1, d2] }
  | _ => none }
def rtpBackRow : OpenClaim := { program := "yticoongkfhkjgaa", sum := "a44545ac07203a90815aacf48c4b8093a18805fa9df740e403382f6f2a86fbff", func := "conflux/confluxlaw05.RtpBack", spec := "rtpBack", unfollowed := true, recurses := true, apart := false }
def RtpBackSaid : Prop := rtpBackRow.holds Try.pinned (OpenSpec.ofChange rtpBackSpec)

/-- ITS FALSE NEIGHBOUR: 'it returns false'. Refute it at one input. -/
def rtpBackWrong : ChangeSpec := { name := "rtpBack", fn := fun _ => fun
  | [d1, d2] => { results := [.lit (.bool false)], args := [d1, d2] }
  | _ => none }
def RtpBackWrongFalsely : Prop := rtpBackRow.holds Try.pinned (OpenSpec.ofChange rtpBackWrong)

/-- 'confluxlaw05.RtpCuts': WHATEVER THE INPUT: true; the input reads as it did. -/
def rtpCutsSpec : ChangeSpec := { name := "rtpCuts", fn := fun _ => fun
  | [d1, d2] => { results := [.lit (.bool true)], args := [d1, d2] }
  | _ => none }
def rtpCutsRow : OpenClaim := { program := "yticoongkfhkjgaa", sum := "a44545ac07203a90815aacf48c4b8093a18805fa9df740e403382f6f2a86fbff", func := "conflux/confluxlaw05.RtpCuts", spec := "rtpCuts", unfollowed := true, recurses := true, apart := false }
def RtpCutsSaid : Prop := rtpCutsRow.holds Try.pinned (OpenSpec.ofChange rtpCutsSpec)

/-- ITS FALSE NEIGHBOUR: 'it returns false'. Refute it at one input. -/
def rtpCutsWrong : ChangeSpec := { name := "rtpCuts", fn := fun _ => fun
  | [d1, d2] => { results := [.lit (.bool false)], args := [d1, d2] }
  | _ => none }
def RtpCutsWrongFalsely : Prop := rtpCutsRow.holds Try.pinned (OpenSpec.ofChange rtpCutsWrong)

/-- 'confluxlaw05.RtpPlaces': WHATEVER THE INPUT: true; the input reads as it did. -/
def rtpPlacesSpec : ChangeSpec := { name := "rtpPlaces", fn := fun _ => fun
  | [d1, d2, d3, d4] => { results := [.lit (.bool true)], args := [d1, d2, d3, d4] }
  | _ => none }
def rtpPlacesRow : OpenClaim := { program := "yticoongkfhkjgaa", sum := "a44545ac07203a90815aacf48c4b8093a18805fa9df740e403382f6f2a86fbff", func := "conflux/confluxlaw05.RtpPlaces", spec := "rtpPlaces", unfollowed := true, recurses := true, apart := false }
def RtpPlacesSaid : Prop := rtpPlacesRow.holds Try.pinned (OpenSpec.ofChange rtpPlacesSpec)

/-- ITS FALSE NEIGHBOUR: 'it returns false'. Refute it at one input. -/
def rtpPlacesWrong : ChangeSpec := { name := "rtpPlaces", fn := fun _ => fun
  | [d1, d2, d3, d4] => { results := [.lit (.bool false)], args := [d1, d2, d3, d4] }
  | _ => none }
def RtpPlacesWrongFalsely : Prop := rtpPlacesRow.holds Try.pinned (OpenSpec.ofChange rtpPlacesWrong)

/-- 'confluxlaw23.RemapPlays': WHATEVER THE INPUT: true; the input reads as it did. -/
def remapPlaysSpec : ChangeSpec := { name := "remapPlays", fn := fun _ => fun
  | [d1, d2, d3, d4, d5, d6] => { results := [.lit (.bool true)], args := [d1, d2, d3, d4, d5, d6] }
  | _ => none }
def remapPlaysRow : OpenClaim := { program := "yticoongkfhkjgaa", sum := "a44545ac07203a90815aacf48c4b8093a18805fa9df740e403382f6f2a86fbff", func := "conflux/confluxlaw23.RemapPlays", spec := "remapPlays", unfollowed := true, recurses := true, apart := false }
def RemapPlaysSaid : Prop := remapPlaysRow.holds Try.pinned (OpenSpec.ofChange remapPlaysSpec)

/-- ITS FALSE NEIGHBOUR: 'it returns false'. Refute it at one input. -/
def remapPlaysWrong : ChangeSpec := { name := "remapPlays", fn := fun _ => fun
  | [d1, d2, d3, d4, d5, d6] => { results := [.lit (.bool false)], args := [d1, d2, d3, d4, d5, d6] }
  | _ => none }
def RemapPlaysWrongFalsely : Prop := remapPlaysRow.holds Try.pinned (OpenSpec.ofChange remapPlaysWrong)

/-- 'confluxlaw23.RemapKeeps': WHATEVER THE INPUT: true; the input reads as it did. -/
def remapKeepsSpec : ChangeSpec := { name := "remapKeeps", fn := fun _ => fun
  | [d1, d2, d3, d4, d5] => { results := [.lit (.bool true)], args := [d1, d2, d3, d4, d5] }
  | _ => none }
def remapKeepsRow : OpenClaim := { program := "yticoongkfhkjgaa", sum := "a44545ac07203a90815aacf48c4b8093a18805fa9df740e403382f6f2a86fbff", func := "conflux/confluxlaw23.RemapKeeps", spec := "remapKeeps", unfollowed := true, recurses := true, apart := false }
def RemapKeepsSaid : Prop := remapKeepsRow.holds Try.pinned (OpenSpec.ofChange remapKeepsSpec)

/-- ITS FALSE NEIGHBOUR: 'it returns false'. Refute it at one input. -/
def remapKeepsWrong : ChangeSpec := { name := "remapKeeps", fn := fun _ => fun
  | [d1, d2, d3, d4, d5] => { results := [.lit (.bool false)], args := [d1, d2, d3, d4, d5] }
  | _ => none }
def RemapKeepsWrongFalsely : Prop := remapKeepsRow.holds Try.pinned (OpenSpec.ofChange remapKeepsWrong)

/-- 'confluxlaw23.RemapBack': WHATEVER THE INPUT: true; the input reads as it did. -/
def remapBackSpec : ChangeSpec := { name := "remapBack", fn := fun _ => fun
  | [d1, d2, d3, d4] => { results := [.lit (.bool true)], args := [d1, d2, d3, d4] }
  | _ => none }
def remapBackRow : OpenClaim := { program := "yticoongkfhkjgaa", sum := "a44545ac07203a90815aacf48c4b8093a18805fa9df740e403382f6f2a86fbff", func := "conflux/confluxlaw23.RemapBack", spec := "remapBack", unfollowed := true, recurses := true, apart := false }
def RemapBackSaid : Prop := remapBackRow.holds Try.pinned (OpenSpec.ofChange remapBackSpec)

/-- ITS FALSE NEIGHBOUR: 'it returns false'. Refute it at one input. -/
def remapBackWrong : ChangeSpec := { name := "remapBack", fn := fun _ => fun
  | [d1, d2, d3, d4] => { results := [.lit (.bool false)], args := [d1, d2, d3, d4] }
  | _ => none }
def RemapBackWrongFalsely : Prop := remapBackRow.holds Try.pinned (OpenSpec.ofChange remapBackWrong)

/-- 'confluxlaw23.RemapTwo': WHATEVER THE INPUT: true; the input reads as it did. -/
def remapTwoSpec : ChangeSpec := { name := "remapTwo", fn := fun _ => fun
  | [d1, d2, d3, d4, d5] => { results := [.lit (.bool true)], args := [d1, d2, d3, d4, d5] }
  | _ => none }
def remapTwoRow : OpenClaim := { program := "yticoongkfhkjgaa", sum := "a44545ac07203a90815aacf48c4b8093a18805fa9df740e403382f6f2a86fbff", func := "conflux/confluxlaw23.RemapTwo", spec := "remapTwo", unfollowed := true, recurses := true, apart := false }
def RemapTwoSaid : Prop := remapTwoRow.holds Try.pinned (OpenSpec.ofChange remapTwoSpec)

/-- ITS FALSE NEIGHBOUR: 'it returns false'. Refute it at one input. -/
def remapTwoWrong : ChangeSpec := { name := "remapTwo", fn := fun _ => fun
  | [d1, d2, d3, d4, d5] => { results := [.lit (.bool false)], args := [d1, d2, d3, d4, d5] }
  | _ => none }
def RemapTwoWrongFalsely : Prop := remapTwoRow.holds Try.pinned (OpenSpec.ofChange remapTwoWrong)

/- THE SECOND FORM. 'bulk': how many values and letters a reading holds, each counted each time it is reached (what is shared counts as often as it is met; a slice's spare places count too). A statement '..UptoSaid' is the law's where the arguments, and the package variables that the reading takes, are together of bulk at most 1048576: NARROWER than '..Said'. Prove '..Said' where nothing that the law and all that it calls make is longer than what came in: it says more and counts as full. Else prove '..UptoSaid'. A law counts once. -/
mutual
def uptoBulk {H : Type} : DataW H → Nat
  | .lit (.string bytes) => bytes.length + 1
  | .lit _ => 1
  | .nil => 1
  | .ptr d => uptoBulk d + 1
  | .slice elems spare => uptoBulkAll elems + uptoBulkAll spare + 1
  | .agg parts => uptoBulkAll parts + 1
  | .iface _ d => uptoBulk d + 1
  | .map entries => uptoBulkEntries entries + 1
  | .held _ => 1
def uptoBulkAll {H : Type} : List (DataW H) → Nat
  | [] => 0
  | d :: r => uptoBulk d + uptoBulkAll r
def uptoBulkEntries {H : Type} : List (Lit × DataW H) → Nat
  | [] => 0
  | x :: r => uptoBulkEntry x + uptoBulkEntries r
def uptoBulkEntry {H : Type} : Lit × DataW H → Nat
  | (.string bytes, d) => bytes.length + uptoBulk d + 1
  | (_, d) => uptoBulk d + 1
 end
def uptoSmall : (H : Type) → List (DataW H) → Bool := fun _ ds => decide (uptoBulkAll ds ≤ 1048576)
def OpenSpec.upto (s : _root_.Go.ChangeSpec) : _root_.Go.OpenSpec := { _root_.Go.OpenSpec.ofChange s with cond := some uptoSmall }

/-- 'confluxlaw12.ImprintOf', WHERE WHAT IT READS IS OF BULK AT MOST 1048576: true; the input reads as it did. -/
def imprintOfUptoRow : OpenClaim := { program := "yticoongkfhkjgaa", sum := "a44545ac07203a90815aacf48c4b8093a18805fa9df740e403382f6f2a86fbff", func := "conflux/confluxlaw12.ImprintOf", spec := "imprintOf", unfollowed := true, recurses := true, apart := false, narrowed := true }
def ImprintOfUptoSaid : Prop := imprintOfUptoRow.holds Try.pinned (OpenSpec.upto imprintOfSpec)

/-- 'confluxlaw12.ImprintPackets', WHERE WHAT IT READS IS OF BULK AT MOST 1048576: true; the input reads as it did. -/
def imprintPacketsUptoRow : OpenClaim := { program := "yticoongkfhkjgaa", sum := "a44545ac07203a90815aacf48c4b8093a18805fa9df740e403382f6f2a86fbff", func := "conflux/confluxlaw12.ImprintPackets", spec := "imprintPackets", unfollowed := true, recurses := true, apart := false, narrowed := true }
def ImprintPacketsUptoSaid : Prop := imprintPacketsUptoRow.holds Try.pinned (OpenSpec.upto imprintPacketsSpec)

/-- 'confluxlaw12.ImprintBack', WHERE WHAT IT READS IS OF BULK AT MOST 1048576: true; the input reads as it did. -/
def imprintBackUptoRow : OpenClaim := { program := "yticoongkfhkjgaa", sum := "a44545ac07203a90815aacf48c4b8093a18805fa9df740e403382f6f2a86fbff", func := "conflux/confluxlaw12.ImprintBack", spec := "imprintBack", unfollowed := true, recurses := true, apart := false, narrowed := true }
def ImprintBackUptoSaid : Prop := imprintBackUptoRow.holds Try.pinned (OpenSpec.upto imprintBackSpec)

/-- 'confluxlaw12.ImprintFolds', WHERE WHAT IT READS IS OF BULK AT MOST 1048576: true; the input reads as it did. -/
def imprintFoldsUptoRow : OpenClaim := { program := "yticoongkfhkjgaa", sum := "a44545ac07203a90815aacf48c4b8093a18805fa9df740e403382f6f2a86fbff", func := "conflux/confluxlaw12.ImprintFolds", spec := "imprintFolds", unfollowed := true, recurses := true, apart := false, narrowed := true }
def ImprintFoldsUptoSaid : Prop := imprintFoldsUptoRow.holds Try.pinned (OpenSpec.upto imprintFoldsSpec)

/-- 'confluxlaw12.ImprintAlike', WHERE WHAT IT READS IS OF BULK AT MOST 1048576: true; the input reads as it did. -/
def imprintAlikeUptoRow : OpenClaim := { program := "yticoongkfhkjgaa", sum := "a44545ac07203a90815aacf48c4b8093a18805fa9df740e403382f6f2a86fbff", func := "conflux/confluxlaw12.ImprintAlike", spec := "imprintAlike", unfollowed := true, recurses := true, apart := false, narrowed := true }
def ImprintAlikeUptoSaid : Prop := imprintAlikeUptoRow.holds Try.pinned (OpenSpec.upto imprintAlikeSpec)

/-- 'confluxlaw05.RtpBack', WHERE WHAT IT READS IS OF BULK AT MOST 1048576: true; the input reads as it did. -/
def rtpBackUptoRow : OpenClaim := { program := "yticoongkfhkjgaa", sum := "a44545ac07203a90815aacf48c4b8093a18805fa9df740e403382f6f2a86fbff", func := "conflux/confluxlaw05.RtpBack", spec := "rtpBack", unfollowed := true, recurses := true, apart := false, narrowed := true }
def RtpBackUptoSaid : Prop := rtpBackUptoRow.holds Try.pinned (OpenSpec.upto rtpBackSpec)

/-- 'confluxlaw05.RtpCuts', WHERE WHAT IT READS IS OF BULK AT MOST 1048576: true; the input reads as it did. -/
def rtpCutsUptoRow : OpenClaim := { program := "yticoongkfhkjgaa", sum := "a44545ac07203a90815aacf48c4b8093a18805fa9df740e403382f6f2a86fbff", func := "conflux/confluxlaw05.RtpCuts", spec := "rtpCuts", unfollowed := true, recurses := true, apart := false, narrowed := true }
def RtpCutsUptoSaid : Prop := rtpCutsUptoRow.holds Try.pinned (OpenSpec.upto rtpCutsSpec)

/-- 'confluxlaw05.RtpPlaces', WHERE WHAT IT READS IS OF BULK AT MOST 1048576: true; the input reads as it did. -/
def rtpPlacesUptoRow : OpenClaim := { program := "yticoongkfhkjgaa", sum := "a44545ac07203a90815aacf48c4b8093a18805fa9df740e403382f6f2a86fbff", func := "conflux/confluxlaw05.RtpPlaces", spec := "rtpPlaces", unfollowed := true, recurses := true, apart := false, narrowed := true }
def RtpPlacesUptoSaid : Prop := rtpPlacesUptoRow.holds Try.pinned (OpenSpec.upto rtpPlacesSpec)

/-- 'confluxlaw23.RemapPlays', WHERE WHAT IT READS IS OF BULK AT MOST 1048576: true; the input reads as it did. -/
def remapPlaysUptoRow : OpenClaim := { program := "yticoongkfhkjgaa", sum := "a44545ac07203a90815aacf48c4b8093a18805fa9df740e403382f6f2a86fbff", func := "conflux/confluxlaw23.RemapPlays", spec := "remapPlays", unfollowed := true, recurses := true, apart := false, narrowed := true }
def RemapPlaysUptoSaid : Prop := remapPlaysUptoRow.holds Try.pinned (OpenSpec.upto remapPlaysSpec)

/-- 'confluxlaw23.RemapKeeps', WHERE WHAT IT READS IS OF BULK AT MOST 1048576: true; the input reads as it did. -/
def remapKeepsUptoRow : OpenClaim := { program := "yticoongkfhkjgaa", sum := "a44545ac07203a90815aacf48c4b8093a18805fa9df740e403382f6f2a86fbff", func := "conflux/confluxlaw23.RemapKeeps", spec := "remapKeeps", unfollowed := true, recurses := true, apart := false, narrowed := true }
def RemapKeepsUptoSaid : Prop := remapKeepsUptoRow.holds Try.pinned (OpenSpec.upto remapKeepsSpec)

/-- 'confluxlaw23.RemapBack', WHERE WHAT IT READS IS OF BULK AT MOST 1048576: true; the input reads as it did. -/
def remapBackUptoRow : OpenClaim := { program := "yticoongkfhkjgaa", sum := "a44545ac07203a90815aacf48c4b8093a18805fa9df740e403382f6f2a86fbff", func := "conflux/confluxlaw23.RemapBack", spec := "remapBack", unfollowed := true, recurses := true, apart := false, narrowed := true }
def RemapBackUptoSaid : Prop := remapBackUptoRow.holds Try.pinned (OpenSpec.upto remapBackSpec)

/-- 'confluxlaw23.RemapTwo', WHERE WHAT IT READS IS OF BULK AT MOST 1048576: true; the input reads as it did. -/
def remapTwoUptoRow : OpenClaim := { program := "yticoongkfhkjgaa", sum := "a44545ac07203a90815aacf48c4b8093a18805fa9df740e403382f6f2a86fbff", func := "conflux/confluxlaw23.RemapTwo", spec := "remapTwo", unfollowed := true, recurses := true, apart := false, narrowed := true }
def RemapTwoUptoSaid : Prop := remapTwoUptoRow.holds Try.pinned (OpenSpec.upto remapTwoSpec)

end Rows
end Go.Proofs.Yticoongkfhkjgaa
