/- Parts of the proof: FpVb. -/
import Derived.Test.YtnkijamajifgpaaGreatDoorVa
import Derived.Test.YtnkijamajifgpaaGreatDoorUb
namespace Go.Abs.W
end Go.Abs.W
