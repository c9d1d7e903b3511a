/- The walk of confluxref01.Join. -/
import Derived.Test.YtchbgiindfoepaaBig
namespace Go.Proofs.Ytchbgiindfoepaa
open Go.RowKit

end Go.Proofs.Ytchbgiindfoepaa
