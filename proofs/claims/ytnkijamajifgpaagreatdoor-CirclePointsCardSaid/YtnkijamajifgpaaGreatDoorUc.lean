/- Parts of the proof: FpUh, FpUi. -/
import Derived.Test.YtnkijamajifgpaaGreatDoorUb
namespace Go.Abs.W
def un (x:Fx) (b:Nat):Rat:=(x.n:Rat)*(p2 b)⁻¹
theorem od_le {z:Rat} (h0:0≤z) (h1:z≤1) (j:Nat):od z j≤z:=by
 induction j with
 | zero=>exact Rat.le_refl
 | succ j ih =>
   have o:=od_nn h0 j
   have zz:z*z≤1:=by have:=qdj (a:=z) (b:=1) (c:=z) (d:=1) h1 h1 (by decide) h0; grind
   have:=mul_nn o (show 0≤1-z*z by grind)
   simp only [od]; grind
end Go.Abs.W
namespace Go.Abs.W
end Go.Abs.W
