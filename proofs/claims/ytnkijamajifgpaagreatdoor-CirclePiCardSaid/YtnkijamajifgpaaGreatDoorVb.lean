/- Parts of the proof: FpVb. -/
import Derived.Test.YtnkijamajifgpaaGreatDoorVa
import Derived.Test.YtnkijamajifgpaaGreatDoorUb
namespace Go.Abs.W
theorem q16 {p : Int} : (piO p).Gd := by
 by_cases h : precB p = true
 · exact .inr (q0i h).1.k
 · left; unfold piO; rw [if_neg h]
theorem piO_W {p : Int} : (piO p).W := by unfold piO; split <;> first | exact q2d | exact Iv.whole_W
end Go.Abs.W
