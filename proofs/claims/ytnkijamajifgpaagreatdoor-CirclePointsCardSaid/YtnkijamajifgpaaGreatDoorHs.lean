/- Parts of the proof: FpIvS. -/
import Derived.Test.YtnkijamajifgpaaGreatDoorFi
namespace Go.Abs.W
end Go.Abs.W
