import Derived.Lib.SlBytesConst
import Derived.Test.YtcngfbjmpemehaaGreatMp15
import Derived.Test.YtcngfbjmpemehaaGreatMp17
set_option maxRecDepth 100000
set_option maxHeartbeats 16000000
/- The walk of confluxlaw05.alive. -/
namespace Go.Proofs.YtcngfbjmpemehaaGreat
open Go.RowKit

def p0 : Pkt:={ marker:=false,pt:=96,seq:=1,ts:=2,ssrc:=3,csrc:=[],hasExt:=false,profile:=0,ext:=[],payload:=[65],pad:=[] }
theorem const_block (w : World) (c : Array Value) (t : TypeId) (fr : Nat × Nat) (n : Nat) (hn : c.size = n) (hm : n ≤ maxLen) :
  ∃ w1,w.alloc (.cells c t fr) = w1 ∧ Fr [] w w1 ∧ Sl w1 (.slice (some ⟨w.heap.size,0,none⟩) n n) c.toList:=by
 subst hn
 refine ⟨_,rfl,(Fr.refl [] w).alloc _,some ⟨w.heap.size,0,none⟩,c.size,by simp,by simp,hm,by simp,fun p hp _ => ?_⟩
 cases hp
 refine ⟨rfl,by simp,fun i x hx => ?_⟩
 simp only [Nat.zero_add]
 rw [World.cell?_alloc_mark]
 simpa using hx

def q0 : Pkt:={ p0 with payload:=[66] }
end Go.Proofs.YtcngfbjmpemehaaGreat
