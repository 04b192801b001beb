/- Parts of the proof: FpCj, FpCl. -/
import Derived.Test.YtpdchdfajhbglaaGreatDoorCb
import Derived.Test.YtpdchdfajhbglaaGreatDoorHy
namespace Go.Abs.W
end Go.Abs.W
