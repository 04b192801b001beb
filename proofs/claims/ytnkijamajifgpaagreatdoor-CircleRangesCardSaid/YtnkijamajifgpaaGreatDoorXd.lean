/- Parts of the proof: FpXg, FpXh, FpXi. -/
import Derived.Test.YtnkijamajifgpaaGreatDoorXc
namespace Go.Abs.W
theorem qzf {n:Nat}{l:List Nat}:(lim l).lowB n=true:=rfl
theorem qse {n:Nat}{b:Bool}:(V.bool b).lowB n=true:=rfl
theorem qzg {n:Nat}{k:IntKind}{i:Int}:(V.int k i).lowB n=true:=rfl
section
variable {P : Nat} {q w s z : Iv}
end
end Go.Abs.W
namespace Go.Abs.W
section
variable {d : Dy} {P : Nat}
end
end Go.Abs.W
namespace Go.Abs.W
end Go.Abs.W
