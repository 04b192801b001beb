/- Parts of the proof: FpCp. -/
import Derived.Test.YtnkijamajifgpaaGreatDoorCe
namespace Go.Abs.W
end Go.Abs.W
