/- Parts of the proof: FpVc. -/
import Derived.Test.YtnkijamajifgpaaGreatDoorVb
namespace Go.Abs.W
theorem qagv {x : Iv} (w : x.W) (g : x.Gd) : x.neg.Gd := by
 rcases g with rfl | k
 · left; rfl
 · obtain ⟨o1, o2⟩ := qal w k
   exact .inr (qagw w ⟨k, Int.le_refl _, Int.le_refl _⟩).k
theorem qady (n : Int) : (piO n).Has pis := by
 by_cases h : precB n = true
 · exact (q6d h).2
 · unfold piO; rw [if_neg h]; exact .whole
end Go.Abs.W
