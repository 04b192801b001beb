/- Parts of the proof: FpIvP, FpIvQ. -/
import Derived.Test.YtnkijamajifgpaaGreatDoorHh
namespace Go.Abs.W
theorem qaoj {x:Iv}(w:x.W)(hk:x.known=true):x.abs.lo.Ok/\x.abs.hi.Ok:=by
 unfold Iv.abs;rw[if_pos hk];exact⟨qaer w hk,q32 w hk⟩
end Go.Abs.W
