import Derived.Deep.RegionHeld3
import Derived.Deep.RegionWith
import Derived.Test.YtcmpjkopdjncdaaMw7
/- The walk of rtp.padding. -/
namespace Go.Proofs.Ytcmpjkopdjncdaa
open Go.RowKit

/-- How many bytes of padding the last byte tells. -/
def padN (l : List UInt8) : Nat := (l.getLast?.map (·.toNat)).getD 0

end Go.Proofs.Ytcmpjkopdjncdaa

/- The walk of rtp.parse: what it makes of bytes. -/
namespace Go.Proofs.Ytcmpjkopdjncdaa
open Go.RowKit

/-- A packet, as plain data. -/
structure Pkt where
  marker : Bool
  pt : Int
  seq : UInt16
  ts : UInt32
  ssrc : UInt32
  csrc : List UInt32
  hasExt : Bool
  profile : UInt16
  ext : List UInt8
  payload : List UInt8
  pad : List UInt8
  deriving DecidableEq

/-- The aggregate v reads as the packet p; its slices lie from block base on. -/
def PktV (w : World) (base : Nat) (v : Value) (p : Pkt) : Prop :=
  ∃ cs ex pl pd, v = .agg (pc p.marker p.pt p.seq.toNat p.ts.toNat p.ssrc.toNat cs p.hasExt p.profile.toNat ex pl pd) ∧
    Words w cs p.csrc ∧ Bytes w ex p.ext ∧ Bytes w pl p.payload ∧ Bytes w pd p.pad ∧
    ∀ b, (blockOf cs = some b ∨ blockOf ex = some b ∨ blockOf pl = some b ∨ blockOf pd = some b) → base ≤ b

def hdr (l : List UInt8) (k1 k2 : Nat) (he : Bool) : Pkt :=
  { marker := nb l 1 1 / 128 % 2 == 1, pt := (nb l 1 1 % 128 : Nat), seq := UInt16.ofNat (nb l 2 2), ts := UInt32.ofNat (nb l 4 4), ssrc := UInt32.ofNat (nb l 8 4),
    csrc := w32s l 12 (nb l 0 1 % 16), hasExt := he, profile := if he then UInt16.ofNat (nb l k1 2) else 0, ext := if he then (l.drop (k1 + 4)).take (4 * nb l (k1 + 2) 2) else [], payload := l.drop k2, pad := [] }
/-- What rtp.parse makes of bytes: a packet, or the error's number. -/
def parseP (l : List UInt8) : Except Int Pkt :=
  if l.length < 1 then .error 20
  else if nb l 0 1 / 64 ≠ 2 then .error 21
  else if l.length < 12 then .error 20
  else
    let k1 := 12 + 4 * (nb l 0 1 % 16)
    if l.length < k1 then .error 20 else
    let he := nb l 0 1 / 16 % 2 == 1
    let k2 := if he then k1 + 4 + 4 * nb l (k1 + 2) 2 else k1
    if l.length < k2 then .error 20 else
    if nb l 0 1 / 32 % 2 == 1 then
      if padN (l.drop k2) = 0 ∨ (l.drop k2).length < padN (l.drop k2) then .error 21
      else .ok { hdr l k1 k2 he with payload := (l.drop k2).take ((l.drop k2).length - padN (l.drop k2)), pad := (l.drop k2).drop ((l.drop k2).length - padN (l.drop k2)) }
    else .ok (hdr l k1 k2 he)

end Go.Proofs.Ytcmpjkopdjncdaa
