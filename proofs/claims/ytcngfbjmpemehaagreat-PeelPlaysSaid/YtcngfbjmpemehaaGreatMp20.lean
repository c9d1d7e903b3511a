import Derived.Test.YtcngfbjmpemehaaGreatMp17
import Derived.Test.YtcngfbjmpemehaaGreatMp9
set_option maxRecDepth 100000
set_option maxHeartbeats 16000000
/- Slices whose elements are slices,opened out of the arguments of a law. -/
namespace Go.Proofs.YtcngfbjmpemehaaGreat
open Go.RowKit Go.ChangeShapes Go.WideShapes Go.Deep

abbrev BRows (w : World) (v : Value) (ls : List (List UInt8)) : Prop:=SlOf Bytes w v ls
theorem BRows.keep {w w' : World} {v : Value} {ls : List (List UInt8)} (h : BRows w v ls) (hf : Fr [] w w') : BRows w' v ls:=by
 obtain ⟨vs,h1,h2,h3⟩:=h
 exact ⟨vs,h1.keep hf,h2,fun i x a hx ha => Sl.keep (h3 i x a hx ha) hf⟩
section
variable {H : Type} {enc : TypeId × Value → H} {w : World} {base : Nat}
theorem open_u8s' {fuel : Nat} {v : Value} {x : DataW H × List MemPlace} (h : DataW.trod enc Tryz.prog w base (fun _ => true) true fuel 34 [v] = some x) : ∃ l : List UInt8,Bytes w v l :=
 open_nums (fun n => UInt8.ofNat n.toNat) B8 (fun n hn => by have:=wf_u8 hn;unfold B8;congr 1;simp;omega) Tryz.underlying34 Tryz.underlying5 (by kernel_rfl) h
end
end Go.Proofs.YtcngfbjmpemehaaGreat
