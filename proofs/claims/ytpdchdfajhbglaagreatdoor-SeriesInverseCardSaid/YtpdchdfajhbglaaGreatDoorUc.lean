/- Parts of the proof: FpUh, FpUi. -/
import Derived.Test.YtpdchdfajhbglaaGreatDoorUb
namespace Go.Abs.W
def un (x:Fx)(b:Nat):Rat:=(x.n:Rat)*(p2 b)⁻¹
end Go.Abs.W
