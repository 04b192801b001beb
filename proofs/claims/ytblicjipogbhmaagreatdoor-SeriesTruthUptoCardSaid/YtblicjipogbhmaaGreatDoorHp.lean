import Derived.Test.YtblicjipogbhmaaGreatDoorHm
namespace Go.Abs.W
theorem KP {x:Iv}(w:x.W)(a:x.known=true):x.abs.lo.Ok/\x.abs.hi.Ok:=by
 unfold Iv.abs;rw[Vh a];exact⟨rC w a,jM w a⟩
