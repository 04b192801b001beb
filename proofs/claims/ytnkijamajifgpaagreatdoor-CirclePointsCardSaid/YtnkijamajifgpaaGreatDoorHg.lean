/- Parts of the proof: FpIvG. -/
import Derived.Test.YtnkijamajifgpaaGreatDoorHs
namespace Go.Abs.W
end Go.Abs.W
