/- Parts of the proof: FpIvS. -/
import Derived.Test.YteajloobgibenaaGreatDoorFi
/- The law IntervalSums. -/
namespace Go.Abs.W

/-- Limbs, of any number. -/
def Iv.Lm (x : Iv) : Prop := Li x.lo.m ∧ Li x.hi.m
end Go.Abs.W

