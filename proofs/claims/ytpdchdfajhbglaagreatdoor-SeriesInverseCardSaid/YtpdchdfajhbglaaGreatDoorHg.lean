/- Parts of the proof: FpIvG. -/
import Derived.Test.YtpdchdfajhbglaaGreatDoorHs
namespace Go.Abs.W
theorem q1x {x:Iv}{p:Int}:(x.sqrt p).W:=by
 unfold Iv.sqrt;split
 ·exact qpu rSqrt_ok.w rSqrt_ok.w
 ·exact Iv.whole_W
end Go.Abs.W
