/- Parts of the proof: FpIvPo. -/
import Derived.Test.YtfioikimlnlcbaaGreatDoorHr
import Derived.Test.YtfioikimlnlcbaaGreatDoorHp
namespace Go.Abs.W
end Go.Abs.W
