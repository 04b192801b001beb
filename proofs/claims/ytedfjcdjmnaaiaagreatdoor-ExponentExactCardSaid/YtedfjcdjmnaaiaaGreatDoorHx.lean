/- Parts of the proof: FpIvPo. -/
import Derived.Test.YtedfjcdjmnaaiaaGreatDoorHr
import Derived.Test.YtedfjcdjmnaaiaaGreatDoorHp
namespace Go.Abs.W
end Go.Abs.W
