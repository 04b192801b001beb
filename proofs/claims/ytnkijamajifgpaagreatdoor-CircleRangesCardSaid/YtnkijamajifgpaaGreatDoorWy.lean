/- Parts of the proof: FpWx2. -/
import Derived.Test.YtnkijamajifgpaaGreatDoorWa
namespace Go.Abs.W
def q0w (x:Iv):Bool:=x.known&&decide (3*pw 16383<=x.lo.val)&&decide (x.hi.val<=pw 16385)&&decide (x.hi.val-x.lo.val<=pw 16204)
def half190 : Iv:=(rPi 190).scl (-1)
set_option maxRecDepth 100000 in
theorem qkr : q0w half190=true:=by decide +kernel
end Go.Abs.W
