/- Parts of the proof: FpIvMk. -/
import Derived.Test.YteajloobgibenaaGreatDoorHh
/- The laws IntervalMakes, IntervalSets and IntervalMeasures. -/
namespace Go.Abs.W

end Go.Abs.W

