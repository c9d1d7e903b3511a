import Derived.Shelf.Small.Bits
import Derived.Shelf.Strconv.Itoa0
import Derived.Test.YtcmpjkopdjncdaaProg
/- math/bits.LeadingZeros64 and Len64 at this program, laid by the shelf (printed by its plain mode). -/
namespace Go.Proofs.Ytcmpjkopdjncdaa
open Go.Shelf
end Go.Proofs.Ytcmpjkopdjncdaa
