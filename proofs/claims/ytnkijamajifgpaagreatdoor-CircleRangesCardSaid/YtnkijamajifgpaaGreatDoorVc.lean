/- Parts of the proof: FpVc. -/
import Derived.Test.YtnkijamajifgpaaGreatDoorVb
namespace Go.Abs.W
end Go.Abs.W
