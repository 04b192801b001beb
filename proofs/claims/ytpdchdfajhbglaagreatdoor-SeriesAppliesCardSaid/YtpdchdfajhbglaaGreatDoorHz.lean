/- Parts of the proof: FpIso, FpIso2, FpIso3, FpIso4. -/
import Derived.Test.YtpdchdfajhbglaaGreatDoorHy
import Derived.Test.YtpdchdfajhbglaaGreatDoorHr
import Derived.Test.YtpdchdfajhbglaaGreatDoorHp
namespace Go.Abs.W
theorem q87 {l h:Dy}(ol:l.Ok)(oh:h.Ok)(hle:l.val<=h.val):(Iv.mk l h false).valid=true:=by
 have:l.cmp h<=0:=by rw[qri ol oh,cmpI_le];exact hle
 simp[Iv.valid,ol.valid,oh.valid,this]
theorem qqv {l h:Dy}(ol:l.Ok)(oh:h.Ok)(hle:l.val<=h.val):(Iv.mk l h false).known=true:=by
 have:=q87 ol oh hle;simp[Iv.known,this]
theorem q71 {x:Iv}(h:x.known=true):x.valid=true/\x.all=false:=by
 simp[Iv.known]at h;exact⟨h.2,h.1⟩
theorem IsDn.le_up {p:Nat}{r s:Dy × Int}{le ge:Int->Prop}(h:IsDn p r le)(h2:IsUp p s ge)(hlg:∀g g2,le g->ge g2->g<=g2)(h0:r.2=0)(h1:s.2=0):r.1.val<=s.1.val:=by
 rcases h with ⟨_,b,c⟩|⟨a,_⟩
 ·rcases h2 with ⟨_,y,z⟩|⟨x,_⟩
  ·exact hlg _ _ ((c _ b).1 (Int.le_refl _)) ((z _ y).1 (Int.le_refl _))
  ·exact absurd h1 x
 ·exact absurd h0 a
theorem q6u {f:Dy->Dy->Dy × Int}(okf:∀a b,(f a b).1.Ok){x y:Iv} :
 (accLo f (pairs x y) 4).val=min (min (min (f (qai x y 0).1 (qai x y 0).2).1.val (f (qai x y 1).1 (qai x y 1).2).1.val) (f (qai x y 2).1 (qai x y 2).2).1.val) (f (qai x y 3).1 (qai x y 3).2).1.val:=by
 rw[qcl,if_neg (by omega),qnj (qds okf 3) (okf _ _),qcl,if_neg (by omega),qnj (qds okf 2) (okf _ _),qcl,if_neg (by omega),qnj (qds okf 1) (okf _ _),qcl,if_pos rfl]
theorem q6v {f:Dy->Dy->Dy × Int}(okf:∀a b,(f a b).1.Ok){x y:Iv} :
 (accHi f (pairs x y) 4).val=max (max (max (f (qai x y 0).1 (qai x y 0).2).1.val (f (qai x y 1).1 (qai x y 1).2).1.val) (f (qai x y 2).1 (qai x y 2).2).1.val) (f (qai x y 3).1 (qai x y 3).2).1.val:=by
 rw[qcm,if_neg (by omega),qnl (qdt okf 3) (okf _ _),qcm,if_neg (by omega),qnl (qdt okf 2) (okf _ _),qcm,if_neg (by omega),qnl (qdt okf 1) (okf _ _),qcm,if_pos rfl]
theorem q32 {f:Dy->Dy->Dy × Int}(okf:∀a b,(f a b).1.Ok){x y:Iv}{i:Nat}(hi:i<4):(accLo f (pairs x y) 4).val<=(f (qai x y i).1 (qai x y i).2).1.val:=by
 rw[q6u okf];obtain rfl|rfl|rfl|rfl:i=0\/i=1\/i=2\/i=3:=by omega
 all_goals omega
theorem q33 {f:Dy->Dy->Dy × Int}(okf:∀a b,(f a b).1.Ok){x y:Iv}{i:Nat}(hi:i<4):(f (qai x y i).1 (qai x y i).2).1.val<=(accHi f (pairs x y) 4).val:=by
 rw[q6v okf];obtain rfl|rfl|rfl|rfl:i=0\/i=1\/i=2\/i=3:=by omega
 all_goals omega
theorem qai2 {f:Dy->Dy->Dy × Int}(okf:∀a b,(f a b).1.Ok){x y:Iv}{v:Int}(h:∀i,i<4->v<=(f (qai x y i).1 (qai x y i).2).1.val):v<=(accLo f (pairs x y) 4).val:=by
 have h0:=h 0 (by omega);have h1:=h 1 (by omega);have h2:=h 2 (by omega);have h3:=h 3 (by omega);rw[q6u okf];omega
theorem qaju {f:Dy->Dy->Dy × Int}(okf:∀a b,(f a b).1.Ok){x y:Iv}{v:Int}(h:∀i,i<4->(f (qai x y i).1 (qai x y i).2).1.val<=v):(accHi f (pairs x y) 4).val<=v:=by
 have h0:=h 0 (by omega);have h1:=h 1 (by omega);have h2:=h 2 (by omega);have h3:=h 3 (by omega);rw[q6v okf];omega
section
variable {P : Nat} {f g : Dy → Dy → Dy × Int} {x y a b : Iv} {le ge : Dy → Dy → Int → Prop}
theorem qaby (d1:IsDn P (f (qai x y 0).1 (qai x y 0).2) (le (qai x y 0).1 (qai x y 0).2))(u1:IsUp P (g (qai x y 0).1 (qai x y 0).2) (ge (qai x y 0).1 (qai x y 0).2))
 (lg:∀h h2,le (qai x y 0).1 (qai x y 0).2 h->ge (qai x y 0).1 (qai x y 0).2 h2->h<=h2) (okf:∀a b,(f a b).1.Ok) (okg:∀a b,(g a b).1.Ok) :
 (Iv.four f g x y).valid=true/\(good4 f g x y 4->(accLo f (pairs x y) 4).val<=(accHi g (pairs x y) 4).val):=by
 have key:good4 f g x y 4->(accLo f (pairs x y) 4).val<=(accHi g (pairs x y) 4).val:=by
  intro hg;have h:=hg 0 (by omega);have h1:=d1.le_up u1 lg h.1 h.2;have h2:=q32 okf (x:=x) (y:=y) (i:=0) (by omega);have h3:=q33 okg (x:=x) (y:=y) (i:=0) (by omega);omega
 refine⟨?_,key⟩;by_cases hg:good4 f g x y 4
 ·rw[qg9 hg];exact q87 (qds okf 4) (qdt okg 4) (key hg)
 ·unfold Iv.four;split
  ·rename_i hc;exfalso;apply hg;intro j hj;simp[pairs]at hc;obtain rfl|rfl|rfl|rfl:j=0\/j=1\/j=2\/j=3:=by omega
   all_goals simp[qai,pairs,hc]
  ·rfl
end
theorem qpe {x y:Iv}{i:Nat}(hi:i<4)(hx:x.lo.val<=x.hi.val)(hy:y.lo.val<=y.hi.val):x.lo.val<=(qai x y i).1.val/\(qai x y i).1.val<=x.hi.val/\y.lo.val<=(qai x y i).2.val/\(qai x y i).2.val<=y.hi.val:=by
 obtain rfl|rfl|rfl|rfl:i=0\/i=1\/i=2\/i=3:=by omega
 all_goals simp[qai,pairs,hx,hy]
theorem qg7 {x y:Iv}{i:Nat}(hi:i<4)(hx:x.lo.Ok/\x.hi.Ok)(hy:y.lo.Ok/\y.hi.Ok):(qai x y i).1.Ok/\(qai x y i).2.Ok:=by
 obtain rfl|rfl|rfl|rfl:i=0\/i=1\/i=2\/i=3:=by omega
 all_goals simp[qai,pairs,hx,hy]
theorem q30 {a b:Iv}{Q:Dy->Dy->Prop}(h:Q a.lo b.lo\/Q a.lo b.hi\/Q a.hi b.lo\/Q a.hi b.hi):∃j,j<4/\Q (qai a b j).1 (qai a b j).2:=by
 rcases h with h|h|h|h
 ·exact⟨0,by omega,h⟩
 ·exact⟨1,by omega,h⟩
 ·exact⟨2,by omega,h⟩
 ·exact⟨3,by omega,h⟩
end Go.Abs.W
namespace Go.Abs.W
theorem qapk {u v:Int}(hv:v≠0)(h h2:Int)(g1:divLe u v h)(g2:divGe u v h2):h<=h2:=by
 rcases Int.lt_or_le 0 v with hp|hp
 ·rw[qpt hp]at g1;rw[qpu hp]at g2;exact(qa5 hp).1 (by omega)
 ·rw[qs3 (by omega)]at g1;rw[qs4 (by omega)]at g2;have:=qa5 (x:=h) (y:=h2) (c:=-v) (by omega);rw[Int.mul_neg,Int.mul_neg]at this;omega
theorem qwc {y:Iv}(wy:y.W)(hk:y.known=true):y.sgn≠0↔(0<y.lo.val\/y.hi.val<0):=by
 obtain⟨o1,o2⟩:=qat wy hk;have s1:=qte o1;have s2:=qte o2;unfold Iv.sgn;rw[if_pos hk];constructor
 ·intro h;by_cases h1:0<y.lo.sgn
  ·exact .inl (s1.1.1 h1)
  ·rw[if_neg h1]at h;by_cases h2:y.hi.sgn<0
   ·exact .inr (s2.2.1 h2)
   ·rw[if_neg h2]at h;exact absurd rfl h
 ·rintro(h|h)
  ·rw[if_pos (s1.1.2 h)];omega
  ·have h2:=s2.2.2 h;by_cases h3:0<y.lo.sgn
   ·rw[if_pos h3];omega
   ·rw[if_neg h3,if_pos h2];omega
theorem qaem {d:Dy}(h:d.val≠0):d.m≠[]:=by
 intro h0;apply h;unfold Dy.val;rw[Dy.absN_nil h0];simp
theorem qyv {x:Iv}(wx:x.W)(hk:x.known=true):x.abs.known=true/\x.abs.lo.Ok/\x.abs.hi.Ok/\0<=x.abs.lo.val/\x.abs.lo.val<=x.abs.hi.val:=by
 obtain⟨o1,o2⟩:=qagx wx hk;obtain⟨r1,r2⟩:=q6w wx hk;have ha:x.abs.all=false:=by unfold Iv.abs;rw[if_pos hk]
 have hv:x.abs.known=true:=by
  have:x.abs.lo.cmp x.abs.hi<=0:=by rw[qri o1 o2,cmpI_le];exact r2
  simp[Iv.known,Iv.valid,ha,o1.valid,o2.valid,this]
 exact⟨hv,o1,o2,r1,r2⟩
theorem qvy {x:Iv}(wx:x.W)(hk:x.known=true):x.abs.hi.val=max (x.lo.val.natAbs:Int) x.hi.val.natAbs/\x.abs.lo.val=(if 0<x.lo.val\/x.hi.val<0 then min (x.lo.val.natAbs:Int) x.hi.val.natAbs else 0):=by
 obtain⟨h1,h2⟩:=qat wx hk;have a1:=qyu h1;have a2:=qyu h2;have m2:=qnl (qha h1) (qha h2);have m1:=qnj (qha h1) (qha h2);have sr:=qwc wx hk;unfold Iv.abs;rw[if_pos hk];show x.mag.val=_/\x.mig.val=_;unfold Iv.mag Iv.mig;rw[m2,a1,a2];refine⟨rfl,?_⟩;by_cases h:x.sgn=0
 ·rw[if_pos h,qil,if_neg (fun h3=>(sr.2 h3) h)]
 ·rw[if_neg h,m1,a1,a2,if_pos (sr.1 h)]
theorem IsUp.at {p:Nat}{r:Dy × Int}{ge:Int->Prop}(h:IsUp p r ge)(h0:r.2=0):ge r.1.val:=by
 rcases h with ⟨_,b,c⟩|⟨a,_⟩
 ·exact(c _ b).1 (Int.le_refl _)
 ·exact absurd h0 a
section
variable {d e : Dy} {p : Int}
end
end Go.Abs.W
