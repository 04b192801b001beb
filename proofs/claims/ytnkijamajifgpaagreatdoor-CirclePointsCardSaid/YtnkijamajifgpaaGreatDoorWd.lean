/- Parts of the proof: FpWd. -/
import Derived.Test.YtnkijamajifgpaaGreatDoorWa
import Derived.Test.YtnkijamajifgpaaGreatDoorHg
namespace Go.Abs.W
section
variable {p : Int} {x y : Iv}
end
end Go.Abs.W
