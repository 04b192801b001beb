/- Parts of the proof: FpTop. -/
import Derived.Test.YtpdchdfajhbglaaGreatDoorXg
import Derived.Test.YtpdchdfajhbglaaGreatDoorVf
import Derived.Test.YtpdchdfajhbglaaGreatDoorHg
namespace Go.Abs.W
def one1 : Iv:=Iv.pt (nD 1)
theorem rat_sq {r l:Dy}:(r.val*r.val<=l.val*pw 16384->r.rat*r.rat<=l.rat)/\(l.val*pw 16384<=r.val*r.val->l.rat<=r.rat*r.rat):=by
 have s2:0<sc*sc:=Rat.mul_pos qdc qdc;have e:((r.val*r.val:Int):Rat)=r.rat*r.rat*(sc*sc):=by rw[Rat.intCast_mul,<-qep];grind
 have f:((l.val*pw 16384:Int):Rat)=l.rat*(sc*sc):=by rw[Rat.intCast_mul,<-qep,show((pw 16384:Int):Rat)=sc from rfl];grind
 constructor
 ·intro h;have:=Rat.intCast_le_intCast.2 h;rw[e,f]at this;exact Rat.le_of_mul_le_mul_right this s2
 ·intro h;have:=Rat.intCast_le_intCast.2 h;rw[e,f]at this;exact Rat.le_of_mul_le_mul_right this s2
theorem q9z {x y:Iv}{p:Int}(w:x.W)(g:x.Gd)(wy:y.W)(gy:y.Gd)(hk:y.known=true->(x.sqrt p).known=true)(hy:∀q,(x.sqrt p).In q->y.In (q*q)):x.ins y=true:=by
 have vx:x.valid=true:=qai2 g;rcases gy with rfl|ks
 ·exact qbk vx
 have kr:=hk ks;have hw:=(q1x (x:=x) (p:=p))
 have l1:=qjy (hy _ (In_lo hw kr)) ks;have l2:=qjy (hy _ (In_hi hw kr)) ks;by_cases hc:(x.known&&precB p&&decide (0<x.lo.sgn))=true
 ·have hc2:=hc;simp only[Bool.and_eq_true,decide_eq_true_eq]at hc2;obtain⟨⟨k,hp⟩,h0⟩:=hc2;obtain⟨o1,o2⟩:=qai w k;have v1:=(qkj o1).1.1 h0;have le0:=qam w k;have n1:=qnx (d:=x.lo) (by omega);have n2:=qnx (d:=x.hi) (by omega);have e:x.sqrt p=Iv.made (rSqrt x.lo p false) (rSqrt x.hi p true):=by unfold Iv.sqrt;rw[if_pos hc]
  rw[e]at kr l1 l2;unfold Iv.made at kr l1 l2;split at kr
  ·rename_i h;rw[if_pos h]at l1 l2;have d:=(qzo o1 hp n1 ((qj3 o1 n1).1 v1)).at h.1;have u:=(q7h o2 hp n2 ((qj3 o2 n2).1 (by omega))).at h.2;have d0:=((qzo o1 hp n1 ((qj3 o1 n1).1 v1)).nonneg (.inl (by omega))).2;have d1:(rSqrt x.lo p false).1.val*(rSqrt x.lo p false).1.val<=x.lo.val*pw 16384:=by
    rcases d with d|d
    ·have:(rSqrt x.lo p false).1.val=0:=by omega
     rw[this];exact Int.mul_nonneg (by omega) (Int.le_of_lt (qaw 16384))
    ·exact d
   exact qyh w wy k ks (rat_le.1 (Rat.le_trans l1.1 (rat_sq.1 d1))) (rat_le.1 (Rat.le_trans (rat_sq.2 u.2) l2.2))
  ·exact absurd kr qfe
 ·have e:x.sqrt p=Iv.whole:=by unfold Iv.sqrt;rw[if_neg hc]
  rw[e]at kr;exact absurd kr qfe
end Go.Abs.W
