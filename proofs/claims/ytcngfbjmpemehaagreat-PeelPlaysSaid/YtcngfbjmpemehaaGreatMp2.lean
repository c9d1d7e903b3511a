import Derived.Shelf.Small.Bits
import Derived.Shelf.Strconv.Itoa0
import Derived.Test.YtcngfbjmpemehaaGreatProg
set_option maxRecDepth 100000
set_option maxHeartbeats 16000000
/- math/bits.LeadingZeros64 and Len64 at this program,laid by the shelf (printed by its plain mode). -/
namespace Go.Proofs.YtcngfbjmpemehaaGreat
open Go.Shelf
def lays134_ren : Go.Shelf.Ren:=⟨fun | 134 => 147 | 129 => 155 | n => n,fun | 53 => 36 | 3 => 3 | 4 => 4 | 46 => 189 | 5 => 5 | 9 => 9 | n => n,fun | n => n⟩
theorem lays134 : Lays.n134 Tryz.prog lays134_ren:={
 mixed:=by kernel_rfl
 f129:=Tryz.func155.trans (congrArg some (by kernel_rfl))
 f134:=Tryz.func147.trans (congrArg some (by kernel_rfl))
 t3:=Tryz.underlying3
 a3:=Tryz.isAgg3
 z3:=Tryz.sizeOf3
 v3:=Tryz.zeroValue3
 t4:=Tryz.underlying4
 a4:=Tryz.isAgg4
 z4:=Tryz.sizeOf4
 v4:=Tryz.zeroValue4
 t5:=Tryz.underlying5
 a5:=Tryz.isAgg5
 z5:=Tryz.sizeOf5
 v5:=Tryz.zeroValue5
 t9:=Tryz.underlying9
 a9:=Tryz.isAgg9
 z9:=Tryz.sizeOf9
 v9:=Tryz.zeroValue9
 t46:=Tryz.underlying189
 a46:=Tryz.isAgg189
 z46:=Tryz.sizeOf189
 v46:=Tryz.zeroValue189
 t53:=Tryz.underlying36
 a53:=Tryz.isAgg36
 z53:=Tryz.sizeOf36
 v53:=Tryz.zeroValue36 }
theorem bits_LeadingZeros64 (x : Int) (w : World) (h0 : 0 ≤ x) (h1 : x ≤ 18446744073709551615) :
  Calls Tryz.prog 147 #[.int .u64 x] w fun e w' => e = .returned (.int .i64 (64 - (Lib.bitLen x.toNat : Int))) ∧ w' = w:=Any.bits_LeadingZeros64 lays134 x w h0 h1
end Go.Proofs.YtcngfbjmpemehaaGreat
