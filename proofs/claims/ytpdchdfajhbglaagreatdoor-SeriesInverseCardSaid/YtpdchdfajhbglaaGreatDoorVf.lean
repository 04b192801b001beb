/- Parts of the proof: FpVf. -/
import Derived.Test.YtpdchdfajhbglaaGreatDoorVc
import Derived.Test.YtpdchdfajhbglaaGreatDoorUc
namespace Go.Abs.W
theorem Null.of_ev {s t:Nat->Rat}(ht:Null t)(N:Nat)(h:∀n,N<=n->s n=t n):Null s:=fun ε he=>by
 obtain⟨M,hM⟩:=ht ε he;exact⟨max N M,fun n hn=>by rw[h n (by omega)];exact hM n (by omega)⟩
end Go.Abs.W
