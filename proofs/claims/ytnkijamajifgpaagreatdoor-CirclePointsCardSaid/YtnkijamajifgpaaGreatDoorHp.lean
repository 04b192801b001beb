/- Parts of the proof: FpIvP, FpIvQ. -/
import Derived.Test.YtnkijamajifgpaaGreatDoorHh
namespace Go.Abs.W
end Go.Abs.W
namespace Go.Abs.W
theorem qaj4 {x:Iv} (w:x.W) (hk:x.known=true):x.abs.lo.Ok∧x.abs.hi.Ok:=by
 unfold Iv.abs; rw [if_pos hk]
 exact ⟨qaaz w hk,q1d w hk⟩
end Go.Abs.W
