/- Parts of the proof: FpXp. -/
import Derived.Test.YtpdchdfajhbglaaGreatDoorXf
namespace Go.Abs.W
theorem qakt {x:Iv}{p:Int}(w:x.W):(x.exp p).Gd/\∀q,x.In q->(x.exp p).Has (es q):=by
 by_cases h:(x.known&&precB p&&modB x.lo&&modB x.hi)=true
 ·simp only[Bool.and_eq_true]at h;obtain⟨⟨⟨k,hp⟩,h1⟩,h2⟩:=h;refine⟨.inr (qadn w k hp h1 h2 Rat.le_refl (rat_le.2 (qal w k))).1,fun q hq=>?_⟩;obtain⟨q1,q2⟩:=qov hq k;exact(qadn w k hp h1 h2 q1 q2).2
 ·have e:x.exp p=Iv.whole:=by unfold Iv.exp;rw[if_neg h]
  rw[e];exact⟨.inl rfl,fun q _=>.whole⟩
end Go.Abs.W
