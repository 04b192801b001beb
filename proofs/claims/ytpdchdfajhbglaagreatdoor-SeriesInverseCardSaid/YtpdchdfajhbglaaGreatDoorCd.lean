/- Parts of the proof: FpCm. -/
import Derived.Test.YtpdchdfajhbglaaGreatDoorCc
import Derived.Test.YtpdchdfajhbglaaGreatDoorHs
import Derived.Test.YtpdchdfajhbglaaGreatDoorHx
namespace Go.Abs.W
end Go.Abs.W
