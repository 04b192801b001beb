/- Parts of the proof: FpVc. -/
import Derived.Test.YtnkijamajifgpaaGreatDoorVb
namespace Go.Abs.W
theorem q6e (n : Int) : (piO n).Has pis := by
 by_cases h : precB n = true
 · exact (q0i h).2
 · unfold piO; rw [if_neg h]; exact .whole
end Go.Abs.W
