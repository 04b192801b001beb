/- Parts of the proof: FpXj, FpXk. -/
import Derived.Test.YtpdchdfajhbglaaGreatDoorXd
namespace Go.Abs.W
def Iv.Gd (x:Iv):Prop:=x=Iv.whole\/x.known=true
theorem Gd.of_valid {r:Iv}(h:r.valid=true)(hw:r.all=true->r=Iv.whole):r.Gd:=by
 cases ha:r.all
 ·right;simp[Iv.known,ha,h]
 ·exact .inl (hw ha)
end Go.Abs.W
