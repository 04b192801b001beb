/- Parts of the proof: FpIvP, FpIvQ. -/
import Derived.Test.YteajloobgibenaaGreatDoorHh
/- PRINTED BY wip/tools/gen_ivp.py: powers in package interval and in its reference. -/
namespace Go.Abs.W

end Go.Abs.W

/- Powers of intervals: program, reference, and the law IntervalPowers. -/
namespace Go.Abs.W

end Go.Abs.W

