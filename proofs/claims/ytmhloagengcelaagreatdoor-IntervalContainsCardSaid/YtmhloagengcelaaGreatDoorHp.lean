/- Parts of the proof: FpIvP, FpIvQ. -/
import Derived.Test.YtmhloagengcelaaGreatDoorHh
/- PRINTED BY wip/tools/gen_ivp.py: powers in package interval and in its reference. -/
namespace Go.Abs.W

end Go.Abs.W

/- Powers of intervals: program, reference, and the law IntervalPowers. -/
namespace Go.Abs.W

theorem abs_okk {x : Iv} (w : x.W) (hk : x.known = true) : x.abs.lo.Ok ∧ x.abs.hi.Ok := by
 unfold Iv.abs; rw [if_pos hk]
 exact ⟨mig_ok w hk, mag_ok w hk⟩

end Go.Abs.W

