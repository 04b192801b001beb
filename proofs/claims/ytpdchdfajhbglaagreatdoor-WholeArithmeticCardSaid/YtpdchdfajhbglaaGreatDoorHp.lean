/- Parts of the proof: FpIvP, FpIvQ. -/
import Derived.Test.YtpdchdfajhbglaaGreatDoorHh
namespace Go.Abs.W
theorem qaiw {x:Iv}(w:x.W)(hk:x.known=true):x.abs.lo.Ok/\x.abs.hi.Ok:=by
 unfold Iv.abs;rw[if_pos hk];exact⟨q9j w hk,qng w hk⟩
end Go.Abs.W
