import Derived.Test.YtblicjipogbhmaaGreatDoorXf
namespace Go.Abs.W
theorem KD {x:Iv}{p:Int}(w:x.W):(x.exp p).Gd/\∀q,x.In q->(x.exp p).Has (es q):=by
 by_cases h:(x.known&&af p&&dD x.lo&&dD x.hi)=true
 ·simp only[VA]at h;obtain⟨⟨⟨k,c⟩,a⟩,b⟩:=h;refine⟨.inr (xv w k c a b V2 (rat_le.2 (bP w k))).1,fun q d=>?_⟩;obtain⟨f,g⟩:=kA d k;exact(xv w k c a b f g).2
 ·have e:x.exp p=Iv.whole:=by unfold Iv.exp;rw[Vk h]
  rw[e];exact⟨.inl rfl,fun q _=>.whole⟩
