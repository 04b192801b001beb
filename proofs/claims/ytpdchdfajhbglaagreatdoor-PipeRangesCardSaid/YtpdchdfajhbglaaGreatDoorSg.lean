/- Parts of the proof: FpSf1, FpSf2, FpSf3, FpSf4. -/
import Derived.Test.YtpdchdfajhbglaaGreatDoorSc
import Derived.Test.YtpdchdfajhbglaaGreatDoorXf
import Derived.Test.YtpdchdfajhbglaaGreatDoorCe
namespace Go.Abs.W
theorem qagy {n:Nat}{l:List Nat}:V.lowB n (lim l)=true:=rfl
theorem qacm {n:Nat}{b:Bool}:V.lowB n (.bool b)=true:=rfl
theorem qagz {n:Nat}{k:IntKind}{i:Int}:V.lowB n (.int k i)=true:=rfl
end Go.Abs.W
