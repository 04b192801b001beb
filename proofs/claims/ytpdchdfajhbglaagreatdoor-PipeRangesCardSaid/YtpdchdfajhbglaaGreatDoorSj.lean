/- Parts of the proof: FpIn1, FpIn2, FpIn3. -/
import Derived.Test.YtpdchdfajhbglaaGreatDoorSg
import Derived.Test.YtpdchdfajhbglaaGreatDoorSe
import Derived.Test.YtpdchdfajhbglaaGreatDoorTp
import Derived.Test.YtpdchdfajhbglaaGreatDoorSc
namespace Go.Abs.W
theorem qaig {d:Dy}{p:Int}:(lgI d p).Gd:=by
 unfold lgI;split
 ·exact .inr q87
 ·exact qamm add_W
theorem qam5 {x:Iv}{p:Int}(w:x.W):(x.log p).Gd/\∀q,x.In q->(x.log p).HasLog q:=by
 by_cases h:(x.known&&precB p&&decide (0<x.lo.sgn))=true
 ·have e:x.log p=endsI (lgI x.lo p) (lgI x.hi p):=by unfold Iv.log;rw[if_pos h]
  simp only[Bool.and_eq_true,decide_eq_true_eq]at h;obtain⟨⟨k,hp⟩,h1⟩:=h;obtain⟨o1,o2⟩:=qai w k;have le0:=qal w k;have h2:0<x.hi.sgn:=(qh5 o2).1.2 (by have:=(qh5 o1).1.1 h1;omega);have l1:=qacw (p:=p) o1 h1;have l2:=qacw (p:=p) o2 h2;rw[e];have wh:∀{a b:Iv},(a.all ||b.all)=true->(endsI a b).Gd/\∀q,x.In q->(endsI a b).HasLog q:=fun{a b} h=>by
   have e:endsI a b=Iv.whole:=by unfold endsI;rw[if_pos h]
   rw[e];exact⟨.inl rfl,fun q _ h=>absurd h qox⟩
  rcases qaig (d:=x.lo) (p:=p)with g|g
  ·exact wh (by rw[g];rfl)
  ·rcases qaig (d:=x.hi) (p:=p)with g2|g2
   ·exact wh (by rw[g2];simp[Iv.whole])
   ·refine⟨.inr (qw8 lgI_W lgI_W g g2 l1 l2 Rat.le_refl (rat_le.2 le0)).1,fun q hq=>?_⟩;obtain⟨q1,q2⟩:=qov hq k;exact(qw8 lgI_W lgI_W g g2 l1 l2 q1 q2).2
 ·have e:x.log p=Iv.whole:=by unfold Iv.log;rw[if_neg h]
  rw[e];exact⟨.inl rfl,fun q _ h=>absurd h qox⟩
end Go.Abs.W
