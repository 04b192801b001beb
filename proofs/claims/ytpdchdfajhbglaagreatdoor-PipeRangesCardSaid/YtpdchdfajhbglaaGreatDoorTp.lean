/- Parts of the proof: FpTop. -/
import Derived.Test.YtpdchdfajhbglaaGreatDoorXg
import Derived.Test.YtpdchdfajhbglaaGreatDoorVa
import Derived.Test.YtpdchdfajhbglaaGreatDoorHm
namespace Go.Abs.W
end Go.Abs.W
