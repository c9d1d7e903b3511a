/- The walk of rtp.Clone (printed by gen_clone.py). -/
import Derived.Test.YtchbgiindfoepaaRtpEq
import Derived.Test.YtchbgiindfoepaaHeld
namespace Go.Proofs.Ytchbgiindfoepaa
open Go.RowKit

end Go.Proofs.Ytchbgiindfoepaa
