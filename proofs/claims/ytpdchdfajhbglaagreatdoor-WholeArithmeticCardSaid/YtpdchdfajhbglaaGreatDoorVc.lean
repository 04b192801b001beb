/- Parts of the proof: FpVc. -/
import Derived.Test.YtpdchdfajhbglaaGreatDoorVb
namespace Go.Abs.W
theorem q81 (n:Int):(piO n).Has pis:=by
 by_cases h:precB n=true
 ·exact(qag9 h).2
 ·unfold piO;rw[if_neg h];exact .whole
end Go.Abs.W
