/- Parts of the proof: FpVb. -/
import Derived.Test.YtpdchdfajhbglaaGreatDoorVa
import Derived.Test.YtpdchdfajhbglaaGreatDoorUb
namespace Go.Abs.W
theorem q85 {x:Iv}{c:Bool}{p:Int}{u:Nat->Rat}(w:x.W)(h:x.Has u):(bothI x c p).Has (Fn c u):=by
 by_cases hc:(precB p&&x.known)=true
 ·have hc2:=hc;simp only[Bool.and_eq_true]at hc2;obtain⟨a,b⟩:=qo2 hc2.2 h;exact qaii w hc2.1 hc2.2 a b
 ·unfold bothI;rw[if_neg hc];exact .whole
end Go.Abs.W
