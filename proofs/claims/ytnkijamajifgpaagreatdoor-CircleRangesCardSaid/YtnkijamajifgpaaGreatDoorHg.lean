/- Parts of the proof: FpIvG. -/
import Derived.Test.YtnkijamajifgpaaGreatDoorHs
namespace Go.Abs.W
theorem q79 {x:Iv}{p:Int}:(x.sqrt p).W:=by
 unfold Iv.sqrt;split
 ·exact q33 rSqrt_ok.w rSqrt_ok.w
 ·exact Iv.whole_W
end Go.Abs.W
