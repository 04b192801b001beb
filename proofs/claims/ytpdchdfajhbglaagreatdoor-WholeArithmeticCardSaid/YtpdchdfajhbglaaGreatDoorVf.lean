/- Parts of the proof: FpVf. -/
import Derived.Test.YtpdchdfajhbglaaGreatDoorVc
import Derived.Test.YtpdchdfajhbglaaGreatDoorUc
namespace Go.Abs.W
theorem Null.of_ev {s t:Nat->Rat}(ht:Null t)(N:Nat)(h:∀n,N<=n->s n=t n):Null s:=fun ε he=>by
 obtain⟨M,hM⟩:=ht ε he;exact⟨max N M,fun n hn=>by rw[h n (by omega)];exact hM n (by omega)⟩
theorem qalg {x:Iv}{s:Nat->Rat}(wx:x.W)(h:x.Has s):(x.scl 1).Has (fun n=>2*s n):=by
 obtain⟨c,h1,h2⟩:=h;refine⟨fun n=>2*c n,fun n=>qu0 (a:=1) (b:=0) wx (by omega) ?_ (h1 n),?_⟩
 ·rw[show((pw 0:Int):Rat)=1 from rfl,show((pw 1:Int):Rat)=2 from rfl];grind
 ·exact Null.congr (Null.mul h2 (Bnd.const 2)) fun n=>by grind
end Go.Abs.W
