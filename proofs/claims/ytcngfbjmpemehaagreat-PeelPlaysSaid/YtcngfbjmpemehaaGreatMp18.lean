import Derived.Test.YtcngfbjmpemehaaGreatProg
import Derived.Maps.Own
import Derived.Maps.Views
import Derived.Test.YtcngfbjmpemehaaGreatMp9
import Derived.Test.YtcngfbjmpemehaaGreatMp7
import Derived.Test.YtcngfbjmpemehaaGreatMp5
set_option maxRecDepth 100000
set_option maxHeartbeats 16000000
/- Slices of ints,sets of ints as maps. -/
namespace Go.Proofs.YtcngfbjmpemehaaGreat
open Go.RowKit Go.Maps

theorem Fr.ownsMap {H : Type} {P : Program} {k : TypeId} {R : Value → Option (DataW H × List MemPlace)} {w w' : World} {S : List Nat} {b n : Nat} {D : DataW H} (hf : Fr S w w') (h : w.ownsMap P k R b n D) (hb : b ∉ S) : w'.ownsMap P k R b n D:=by
 have hlt:=h.lt
 obtain ⟨es,clock,h1,F,hs,hD⟩:=h
 exact ⟨es,clock,(hf.block b hlt hb).trans h1,F,hs,hD⟩
theorem info_int : (Tryz.prog.info? 3).map (fun i => (i.zero,i.size,i.bytes)) = some (some (.int .i64 0),1,8):=by kernel_rfl
end Go.Proofs.YtcngfbjmpemehaaGreat
