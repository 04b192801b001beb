/- Parts of the proof: FpWx1. -/
import Derived.Test.YtnkijamajifgpaaGreatDoorWa
namespace Go.Abs.W
def qvi (x:Iv):Bool:=x.known&&decide (3*pw 16383<=x.lo.val)&&decide (x.hi.val<=pw 16385)&&decide (x.hi.val-x.lo.val<=pw 16284)
def half210 : Iv:=(rPi 210).scl (-1)
set_option maxRecDepth 100000 in
theorem qxq : qvi half210=true:=by decide +kernel
end Go.Abs.W
