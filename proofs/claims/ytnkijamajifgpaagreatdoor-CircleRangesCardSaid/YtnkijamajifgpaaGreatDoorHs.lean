/- Parts of the proof: FpIvS. -/
import Derived.Test.YtnkijamajifgpaaGreatDoorFi
namespace Go.Abs.W
def Iv.Lm (x:Iv):Prop:=Li x.lo.m/\Li x.hi.m
end Go.Abs.W
