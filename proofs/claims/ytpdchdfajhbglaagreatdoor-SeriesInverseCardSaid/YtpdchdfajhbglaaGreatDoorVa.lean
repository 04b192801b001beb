/- Parts of the proof: FpVa. -/
import Derived.Test.YtpdchdfajhbglaaGreatDoorUb
import Derived.Test.YtpdchdfajhbglaaGreatDoorCe
import Derived.Test.YtpdchdfajhbglaaGreatDoorCf
import Derived.Test.YtpdchdfajhbglaaGreatDoorXf
namespace Go.Abs.W
end Go.Abs.W
