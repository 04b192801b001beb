/- Parts of the proof: FpIvMk. -/
import Derived.Test.YtedfjcdjmnaaiaaGreatDoorHh
namespace Go.Abs.W
end Go.Abs.W
