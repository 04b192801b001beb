/- Parts of the proof: FpIvP, FpIvQ. -/
import Derived.Test.YtnkijamajifgpaaGreatDoorHh
namespace Go.Abs.W
end Go.Abs.W
namespace Go.Abs.W
theorem qaep {x : Iv} (w : x.W) (hk : x.known = true) : x.abs.lo.Ok ∧ x.abs.hi.Ok := by
 unfold Iv.abs; rw [if_pos hk]
 exact ⟨q6v w hk, qyj w hk⟩
end Go.Abs.W
