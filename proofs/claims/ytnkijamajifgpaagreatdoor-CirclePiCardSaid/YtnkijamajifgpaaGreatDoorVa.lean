/- Parts of the proof: FpVa. -/
import Derived.Test.YtnkijamajifgpaaGreatDoorUb
import Derived.Test.YtnkijamajifgpaaGreatDoorCe
import Derived.Test.YtnkijamajifgpaaGreatDoorCf
import Derived.Test.YtnkijamajifgpaaGreatDoorXf
namespace Go.Abs.W
theorem quu (x y : Iv) (wx : x.W) (wy : y.W) (vx : x.valid = true) : CQ prog qsh [x.v, y.v] (.bool (meetB x y)) := by
 refine qah rfl fun H => ?_
 have c := qabb x y wx wy
 simp only [meetV] at c
 have v := qjz x wx
 rw [vx] at v
 simp
 refine qab rfl rfl rfl c ?_
 simp
 refine qab rfl rfl rfl v ?_
 simp [meetB]
end Go.Abs.W
