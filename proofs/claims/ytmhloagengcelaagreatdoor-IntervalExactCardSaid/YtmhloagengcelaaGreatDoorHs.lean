/- Parts of the proof: FpIvS. -/
import Derived.Test.YtmhloagengcelaaGreatDoorFi
/- The law IntervalSums. -/
namespace Go.Abs.W

theorem same5_refl {x : Iv} (wx : x.W) : CQ prog g_fplaw05_same [x.v, x.v] (.bool true) := same5_t wx rfl

end Go.Abs.W

