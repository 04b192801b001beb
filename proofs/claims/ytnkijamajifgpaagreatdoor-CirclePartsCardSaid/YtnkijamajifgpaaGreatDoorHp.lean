/- Parts of the proof: FpIvP, FpIvQ. -/
import Derived.Test.YtnkijamajifgpaaGreatDoorHh
namespace Go.Abs.W
end Go.Abs.W
namespace Go.Abs.W
end Go.Abs.W
