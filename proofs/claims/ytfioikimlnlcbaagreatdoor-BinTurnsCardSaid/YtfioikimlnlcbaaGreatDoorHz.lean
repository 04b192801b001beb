/- Parts of the proof: FpIso, FpIso2, FpIso3, FpIso4. -/
import Derived.Test.YtfioikimlnlcbaaGreatDoorHy
import Derived.Test.YtfioikimlnlcbaaGreatDoorHr
import Derived.Test.YtfioikimlnlcbaaGreatDoorHp
namespace Go.Abs.W
theorem q2y {l h:Dy}(ol:l.Ok)(oh:h.Ok)(hle:l.val<=h.val):(Iv.mk l h false).valid=true:=by
 have:l.cmp h<=0:=by rw[qlf ol oh,qj1];exact hle
 simp[Iv.valid,ol.valid,oh.valid,this]
theorem qma {l h:Dy}(ol:l.Ok)(oh:h.Ok)(hle:l.val<=h.val):(Iv.mk l h false).known=true:=by
 have:=q2y ol oh hle;simp[Iv.known,this]
theorem qc7 {x:Iv}(h:x.known=true):x.valid=true/\x.all=false:=by
 simp[Iv.known]at h;exact⟨h.2,h.1⟩
theorem qaj8 {r s:Iv}(wr:r.W)(ws:s.W)(kr:r.known=true)(ks:s.known=true)(h1:s.lo.val<=r.lo.val)(h2:r.hi.val<=s.hi.val):r.ins s=true:=by
 obtain⟨a1,a2⟩:=qb3 wr kr;obtain⟨b1,b2⟩:=qb3 ws ks;obtain⟨v1,l1⟩:=qc7 kr;obtain⟨v2,l2⟩:=qc7 ks;have c1:s.lo.cmp r.lo<=0:=by rw[qlf b1 a1,qj1];exact h1
 have c2:r.hi.cmp s.hi<=0:=by rw[qlf a2 b2,qj1];exact h2
 simp[Iv.ins,v1,v2,l1,l2,c1,c2]
theorem IsDn.le_up {p:Nat}{r s:Dy × Int}{le ge:Int->Prop}(h:IsDn p r le)(h2:IsUp p s ge)(hlg:∀g g2,le g->ge g2->g<=g2)(h0:r.2=0)(h1:s.2=0):r.1.val<=s.1.val:=by
 rcases h with ⟨_,b,c⟩|⟨a,_⟩
 ·rcases h2 with ⟨_,y,z⟩|⟨x,_⟩
  ·exact hlg _ _ ((c _ b).1 (Int.le_refl _)) ((z _ y).1 (Int.le_refl _))
  ·exact absurd h1 x
 ·exact absurd h0 a
theorem q0n {f:Dy->Dy->Dy × Int}(okf:∀a b,(f a b).1.Ok){x y:Iv} :
 (accLo f (pairs x y) 4).val=min (min (min (f (qai x y 0).1 (qai x y 0).2).1.val (f (qai x y 1).1 (qai x y 1).2).1.val) (f (qai x y 2).1 (qai x y 2).2).1.val) (f (qai x y 3).1 (qai x y 3).2).1.val:=by
 rw[qg1,if_neg (by omega),q1h (qii okf 3) (okf _ _),qg1,if_neg (by omega),q1h (qii okf 2) (okf _ _),qg1,if_neg (by omega),q1h (qii okf 1) (okf _ _),qg1,if_pos rfl]
theorem q0o {f:Dy->Dy->Dy × Int}(okf:∀a b,(f a b).1.Ok){x y:Iv} :
 (accHi f (pairs x y) 4).val=max (max (max (f (qai x y 0).1 (qai x y 0).2).1.val (f (qai x y 1).1 (qai x y 1).2).1.val) (f (qai x y 2).1 (qai x y 2).2).1.val) (f (qai x y 3).1 (qai x y 3).2).1.val:=by
 rw[qg2,if_neg (by omega),q1l (qij okf 3) (okf _ _),qg2,if_neg (by omega),q1l (qij okf 2) (okf _ _),qg2,if_neg (by omega),q1l (qij okf 1) (okf _ _),qg2,if_pos rfl]
theorem q4x {f:Dy->Dy->Dy × Int}(okf:∀a b,(f a b).1.Ok){x y:Iv}{i:Nat}(hi:i<4):(accLo f (pairs x y) 4).val<=(f (qai x y i).1 (qai x y i).2).1.val:=by
 rw[q0n okf];obtain rfl|rfl|rfl|rfl:i=0\/i=1\/i=2\/i=3:=by omega
 all_goals omega
theorem q4y {f:Dy->Dy->Dy × Int}(okf:∀a b,(f a b).1.Ok){x y:Iv}{i:Nat}(hi:i<4):(f (qai x y i).1 (qai x y i).2).1.val<=(accHi f (pairs x y) 4).val:=by
 rw[q0o okf];obtain rfl|rfl|rfl|rfl:i=0\/i=1\/i=2\/i=3:=by omega
 all_goals omega
theorem qacw {f:Dy->Dy->Dy × Int}(okf:∀a b,(f a b).1.Ok){x y:Iv}{v:Int}(h:∀i,i<4->v<=(f (qai x y i).1 (qai x y i).2).1.val):v<=(accLo f (pairs x y) 4).val:=by
 have h0:=h 0 (by omega);have h1:=h 1 (by omega);have h2:=h 2 (by omega);have h3:=h 3 (by omega);rw[q0n okf];omega
theorem qadz {f:Dy->Dy->Dy × Int}(okf:∀a b,(f a b).1.Ok){x y:Iv}{v:Int}(h:∀i,i<4->(f (qai x y i).1 (qai x y i).2).1.val<=v):(accHi f (pairs x y) 4).val<=v:=by
 have h0:=h 0 (by omega);have h1:=h 1 (by omega);have h2:=h 2 (by omega);have h3:=h 3 (by omega);rw[q0o okf];omega
section
variable {P : Nat} {f g : Dy → Dy → Dy × Int} {x y a b : Iv} {le ge : Dy → Dy → Int → Prop}
theorem q57 (d1:IsDn P (f (qai x y 0).1 (qai x y 0).2) (le (qai x y 0).1 (qai x y 0).2))(u1:IsUp P (g (qai x y 0).1 (qai x y 0).2) (ge (qai x y 0).1 (qai x y 0).2))
 (lg:∀h h2,le (qai x y 0).1 (qai x y 0).2 h->ge (qai x y 0).1 (qai x y 0).2 h2->h<=h2) (okf:∀a b,(f a b).1.Ok) (okg:∀a b,(g a b).1.Ok) :
 (Iv.four f g x y).valid=true/\(good4 f g x y 4->(accLo f (pairs x y) 4).val<=(accHi g (pairs x y) 4).val):=by
 have key:good4 f g x y 4->(accLo f (pairs x y) 4).val<=(accHi g (pairs x y) 4).val:=by
  intro hg;have h:=hg 0 (by omega);have h1:=d1.le_up u1 lg h.1 h.2;have h2:=q4x okf (x:=x) (y:=y) (i:=0) (by omega);have h3:=q4y okg (x:=x) (y:=y) (i:=0) (by omega);omega
 refine⟨?_,key⟩;by_cases hg:good4 f g x y 4
 ·rw[qot hg];exact q2y (qii okf 4) (qij okg 4) (key hg)
 ·unfold Iv.four;split
  ·rename_i hc;exfalso;apply hg;intro j hj;simp[pairs]at hc;obtain rfl|rfl|rfl|rfl:j=0\/j=1\/j=2\/j=3:=by omega
   all_goals simp[qai,pairs,hc]
  ·rfl
end
theorem qru {x y:Iv}{i:Nat}(hi:i<4)(hx:x.lo.val<=x.hi.val)(hy:y.lo.val<=y.hi.val):x.lo.val<=(qai x y i).1.val/\(qai x y i).1.val<=x.hi.val/\y.lo.val<=(qai x y i).2.val/\(qai x y i).2.val<=y.hi.val:=by
 obtain rfl|rfl|rfl|rfl:i=0\/i=1\/i=2\/i=3:=by omega
 all_goals simp[qai,pairs,hx,hy]
theorem qjh {x y:Iv}{i:Nat}(hi:i<4)(hx:x.lo.Ok/\x.hi.Ok)(hy:y.lo.Ok/\y.hi.Ok):(qai x y i).1.Ok/\(qai x y i).2.Ok:=by
 obtain rfl|rfl|rfl|rfl:i=0\/i=1\/i=2\/i=3:=by omega
 all_goals simp[qai,pairs,hx,hy]
theorem qaat {a b:Iv}{Q:Dy->Dy->Prop}(h:Q a.lo b.lo\/Q a.lo b.hi\/Q a.hi b.lo\/Q a.hi b.hi):∃j,j<4/\Q (qai a b j).1 (qai a b j).2:=by
 rcases h with h|h|h|h
 ·exact⟨0,by omega,h⟩
 ·exact⟨1,by omega,h⟩
 ·exact⟨2,by omega,h⟩
 ·exact⟨3,by omega,h⟩
end Go.Abs.W
namespace Go.Abs.W
theorem qakr {u v:Int}(hv:v≠0)(h h2:Int)(g1:divLe u v h)(g2:divGe u v h2):h<=h2:=by
 rcases Int.lt_or_le 0 v with hp|hp
 ·rw[qo0 hp]at g1;rw[qo1 hp]at g2;exact(qbl hp).1 (by omega)
 ·rw[qs3 (by omega)]at g1;rw[qs4 (by omega)]at g2;have:=qbl (x:=h) (y:=h2) (c:=-v) (by omega);rw[Int.mul_neg,Int.mul_neg]at this;omega
theorem q7v {y:Iv}(wy:y.W)(hk:y.known=true):y.sgn≠0↔(0<y.lo.val\/y.hi.val<0):=by
 obtain⟨o1,o2⟩:=qb3 wy hk;have s1:=sgn_val o1;have s2:=sgn_val o2;unfold Iv.sgn;rw[if_pos hk];constructor
 ·intro h;by_cases h1:0<y.lo.sgn
  ·exact .inl (s1.1.1 h1)
  ·rw[if_neg h1]at h;by_cases h2:y.hi.sgn<0
   ·exact .inr (s2.2.1 h2)
   ·rw[if_neg h2]at h;exact absurd rfl h
 ·rintro(h|h)
  ·rw[if_pos (s1.1.2 h)];omega
  ·have h2:=s2.2.2 h;by_cases h3:0<y.lo.sgn
   ·rw[if_pos h3];omega
   ·rw[if_neg h3,if_pos h2];omega
theorem qaju {d:Dy}(h:d.val≠0):d.m≠[]:=by
 intro h0;apply h;unfold Dy.val;rw[Dy.absN_nil h0];simp
theorem IsUp.at {p:Nat}{r:Dy × Int}{ge:Int->Prop}(h:IsUp p r ge)(h0:r.2=0):ge r.1.val:=by
 rcases h with ⟨_,b,c⟩|⟨a,_⟩
 ·exact(c _ b).1 (Int.le_refl _)
 ·exact absurd h0 a
section
variable {d e : Dy} {p : Int}
end
end Go.Abs.W
