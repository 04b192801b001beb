/- Parts of the proof: FpCp. -/
import Derived.Test.YtpdchdfajhbglaaGreatDoorCe
namespace Go.Abs.W
end Go.Abs.W
