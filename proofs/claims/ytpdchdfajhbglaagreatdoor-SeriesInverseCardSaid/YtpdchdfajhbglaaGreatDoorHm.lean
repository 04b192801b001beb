/- Parts of the proof: FpIvMk, FpIvMs. -/
import Derived.Test.YtpdchdfajhbglaaGreatDoorHh
namespace Go.Abs.W
theorem wid_W {x:Iv}{p:Int}:(x.wid p).1.W:=by
 unfold Iv.wid;split
 ·exact rAdd_ok.w
 ·exact Dy.zero_W
end Go.Abs.W
