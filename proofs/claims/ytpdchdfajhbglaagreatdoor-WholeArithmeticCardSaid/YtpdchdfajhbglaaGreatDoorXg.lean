/- Parts of the proof: FpXp. -/
import Derived.Test.YtpdchdfajhbglaaGreatDoorXf
namespace Go.Abs.W
theorem qs9 {x:Iv}{p:Int}(w:x.W):(x.exp p).Gd/\∀q,x.In q->(x.exp p).Has (es q):=by
 by_cases h:(x.known&&precB p&&modB x.lo&&modB x.hi)=true
 ·simp only[Bool.and_eq_true]at h;obtain⟨⟨⟨k,hp⟩,h1⟩,h2⟩:=h;refine⟨.inr (qta w k hp h1 h2 Rat.le_refl (rat_le.2 (qan w k))).1,fun q hq=>?_⟩;obtain⟨q1,q2⟩:=qg1 hq k;exact(qta w k hp h1 h2 q1 q2).2
 ·have e:x.exp p=Iv.whole:=by unfold Iv.exp;rw[if_neg h]
  rw[e];exact⟨.inl rfl,fun q _=>.whole⟩
theorem q9q {x:Iv}{p:Int}(w:x.W)(ht:x.known=true->x.lo.top<=16383/\x.hi.top<=16383):(x.log p).Gd/\∀q,x.In q->(x.log p).HasLog q:=by
 by_cases h:(x.known&&precB p&&decide (0<x.lo.sgn))=true
 ·simp only[Bool.and_eq_true,decide_eq_true_eq]at h;obtain⟨⟨k,hp⟩,h1⟩:=h;obtain⟨t1,t2⟩:=ht k;refine⟨.inr (qmx w k hp h1 t1 t2 Rat.le_refl (rat_le.2 (qan w k))).1,fun q hq=>?_⟩;obtain⟨q1,q2⟩:=qg1 hq k;exact(qmx w k hp h1 t1 t2 q1 q2).2
 ·have e:x.log p=Iv.whole:=by unfold Iv.log;rw[if_neg h]
  rw[e];exact⟨.inl rfl,fun q _ h=>absurd h qfx⟩
theorem q1g {x:Iv}{n:Nat}(w:x.W)(k:x.known=true)(h1:-pw n<=x.lo.val)(h2:x.hi.val<=pw n)(hn:n<=32766):x.lo.top<=16383/\x.hi.top<=16383:=by
 obtain⟨o1,o2⟩:=qai w k;have le0:=qan w k;have e:pw n=((2^n:Nat):Int):=rfl;have key:∀{d:Dy},d.Ok->d.val.natAbs<=2^n->d.top<=16383:=by
  intro d ok h;by_cases hm:d.m=[]
  ·unfold Dy.top;rw[if_pos hm];omega
  ·have:=qajy ok hm h;omega
 exact⟨key o1 (by omega),key o2 (by omega)⟩
theorem qah8 {x:Iv}{p:Int}(w:x.W)(k:x.known=true)(hp:precB p=true)(h1:modB x.lo=true)(h2:modB x.hi=true):(x.exp p).known=true/\pw 12288<=(x.exp p).lo.val/\(x.exp p).hi.val<=pw 20480:=by
 obtain⟨o1,o2⟩:=qai w k;have kk:=(qta w k hp h1 h2 Rat.le_refl (rat_le.2 (qan w k))).1;have e:x.exp p=endsI (qc6 x.lo p) (qc6 x.hi p):=by unfold Iv.exp;rw[k,hp,h1,h2];rfl
 have b1:=(qor o1 hp h1).1;have b2:=(qor o2 hp h2).1;refine⟨kk,?_⟩;have e2:endsI (qc6 x.lo p) (qc6 x.hi p)=⟨(qc6 x.lo p).lo,(qc6 x.hi p).hi,false⟩:=by
  unfold endsI;rw[(qa2 b1.k).2,(qa2 b2.k).2];rfl
 rw[e,e2];exact⟨b1.lo,b2.hi⟩
theorem qahx {x:Iv}{p:Int}(w:x.W)(k:x.known=true)(hp:precB p=true)(h1:modB x.lo=true)(h2:modB x.hi=true):x.ins ((x.exp p).log p)=true:=by
 obtain⟨ke,b1,b2⟩:=qah8 w k hp h1 h2;have we:(x.exp p).W:=exp_W w;obtain⟨e1,e2⟩:=qai we ke;have p0:=qas 12288;have s0:0<(x.exp p).lo.sgn:=(qhf e1).1.2 (by omega);have le0:=qan we ke;have pn:=qas 20480;obtain⟨t1,t2⟩:=q1g (n:=20480) we ke (by omega) b2 (by omega);have l1:=qmx (p:=p) we ke hp s0 t1 t2 (q:=(x.exp p).lo.rat) Rat.le_refl (rat_le.2 le0);have l2:=qmx (p:=p) we ke hp s0 t1 t2 (q:=(x.exp p).hi.rat) (rat_le.2 le0) Rat.le_refl;have a1:=qjt ke (qta w k hp h1 h2 (q:=x.lo.rat) Rat.le_refl (rat_le.2 (qan w k))).2;have a2:=qjt ke (qta w k hp h1 h2 (q:=x.hi.rat) (rat_le.2 (qan w k)) Rat.le_refl).2;have r1:((x.exp p).log p).lo.rat<=x.lo.rat:=qaax (SLe.trans (l1.2 l1.1).1 a1.1);have r2:x.hi.rat<=((x.exp p).log p).hi.rat:=qaax (SLe.trans a2.2 (l2.2 l2.1).2);exact qzq w log_W k l1.1 (rat_le.1 r1) (rat_le.1 r2)
end Go.Abs.W
