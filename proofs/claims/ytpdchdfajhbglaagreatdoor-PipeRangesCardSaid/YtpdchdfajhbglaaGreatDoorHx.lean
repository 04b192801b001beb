/- Parts of the proof: FpIvPo. -/
import Derived.Test.YtpdchdfajhbglaaGreatDoorHr
import Derived.Test.YtpdchdfajhbglaaGreatDoorHp
namespace Go.Abs.W
end Go.Abs.W
