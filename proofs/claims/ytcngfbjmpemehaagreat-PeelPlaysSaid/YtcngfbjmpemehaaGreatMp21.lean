import Derived.Test.YtcngfbjmpemehaaGreatMp20
import Derived.Test.YtcngfbjmpemehaaGreatMp15
import Derived.Test.YtcngfbjmpemehaaGreatMp12
set_option maxRecDepth 100000
set_option maxHeartbeats 16000000
/- Slices of slices of bytes that a literal makes;Join over them. -/
namespace Go.Proofs.YtcngfbjmpemehaaGreat
open Go.RowKit

end Go.Proofs.YtcngfbjmpemehaaGreat
