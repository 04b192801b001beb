/- Parts of the proof: FpIvS. -/
import Derived.Test.YtpdchdfajhbglaaGreatDoorFi
namespace Go.Abs.W
def Iv.Lm (x:Iv):Prop:=Li x.lo.m/\Li x.hi.m
end Go.Abs.W
