/- Parts of the proof: FpXg, FpXh, FpXi. -/
import Derived.Test.YtfioikimlnlcbaaGreatDoorXc
namespace Go.Abs.W
section
variable {P : Nat} {q w s z : Iv}
end
end Go.Abs.W
namespace Go.Abs.W
section
variable {d : Dy} {P : Nat}
end
end Go.Abs.W
namespace Go.Abs.W
end Go.Abs.W
