/- Parts of the proof: FpIvP, FpIvQ. -/
import Derived.Test.YtfioikimlnlcbaaGreatDoorHm
namespace Go.Abs.W
end Go.Abs.W
