/- Parts of the proof: FpIvS. -/
import Derived.Test.YtmhloagengcelaaGreatDoorFi
/- The law IntervalSums. -/
namespace Go.Abs.W

/-- Limbs, of any number. -/
def Iv.Lm (x : Iv) : Prop := Li x.lo.m ∧ Li x.hi.m
theorem W_of_great {x : Iv} (h : x.Lm) (g : x.great = false) : x.W := by
  simp [Iv.great, Dy.huge] at g
  exact ⟨⟨h.1, by omega⟩, ⟨h.2, by omega⟩⟩

theorem same5_refl {x : Iv} (wx : x.W) : CQ prog g_fplaw05_same [x.v, x.v] (.bool true) := same5_t wx rfl

end Go.Abs.W

