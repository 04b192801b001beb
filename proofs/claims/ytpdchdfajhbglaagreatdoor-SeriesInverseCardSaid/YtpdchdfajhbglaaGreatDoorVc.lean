/- Parts of the proof: FpVc. -/
import Derived.Test.YtpdchdfajhbglaaGreatDoorVb
namespace Go.Abs.W
end Go.Abs.W
