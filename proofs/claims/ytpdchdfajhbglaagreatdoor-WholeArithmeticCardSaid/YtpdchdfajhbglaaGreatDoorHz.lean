/- Parts of the proof: FpIso, FpIso2, FpIso3, FpIso4. -/
import Derived.Test.YtpdchdfajhbglaaGreatDoorHy
import Derived.Test.YtpdchdfajhbglaaGreatDoorHr
import Derived.Test.YtpdchdfajhbglaaGreatDoorHp
namespace Go.Abs.W
def Iv.Le (x a:Iv):Prop:=a=Iv.whole\/(x.known=true/\a.known=true/\a.lo.val<=x.lo.val/\x.hi.val<=a.hi.val)
theorem qq9 {l h:Dy}(ol:l.Ok)(oh:h.Ok)(hle:l.val<=h.val):(Iv.mk l h false).valid=true:=by
 have:l.cmp h<=0:=by rw[qe6 ol oh,cmpI_le];exact hle
 simp[Iv.valid,ol.valid,oh.valid,this]
theorem qbd {l h:Dy}(ol:l.Ok)(oh:h.Ok)(hle:l.val<=h.val):(Iv.mk l h false).known=true:=by
 have:=qq9 ol oh hle;simp[Iv.known,this]
theorem qa2 {x:Iv}(h:x.known=true):x.valid=true/\x.all=false:=by
 simp[Iv.known]at h;exact⟨h.2,h.1⟩
theorem qex {r:Iv}(h:r.valid=true):r.ins Iv.whole=true:=by
 have h1:Iv.whole.valid=true:=rfl;have h2:Iv.whole.all=true:=rfl;simp[Iv.ins,h,h1,h2]
theorem qzq {r s:Iv}(wr:r.W)(ws:s.W)(kr:r.known=true)(ks:s.known=true)(h1:s.lo.val<=r.lo.val)(h2:r.hi.val<=s.hi.val):r.ins s=true:=by
 obtain⟨a1,a2⟩:=qai wr kr;obtain⟨b1,b2⟩:=qai ws ks;obtain⟨v1,l1⟩:=qa2 kr;obtain⟨v2,l2⟩:=qa2 ks;have c1:s.lo.cmp r.lo<=0:=by rw[qe6 b1 a1,cmpI_le];exact h1
 have c2:r.hi.cmp s.hi<=0:=by rw[qe6 a2 b2,cmpI_le];exact h2
 simp[Iv.ins,v1,v2,l1,l2,c1,c2]
theorem qadz {r1 s1 r2 s2:Dy × Int}(o1:r1.1.Ok)(p1:s1.1.Ok)(o2:r2.1.Ok)(p2:s2.1.Ok)(hv:r1.2=0->s1.2=0->r1.1.val<=s1.1.val)
 (hd:r2.2=0->r1.2=0/\r2.1.val<=r1.1.val) (hu:s2.2=0->s1.2=0/\s1.1.val<=s2.1.val):(Iv.made r1 s1).ins (Iv.made r2 s2)=true:=by
 have v1:(Iv.made r1 s1).valid=true:=by
  unfold Iv.made;split
  ·rename_i h;exact qq9 o1 p1 (hv h.1 h.2)
  ·rfl
 by_cases h:r2.2=0/\s2.2=0
 ·obtain⟨d1,d2⟩:=hd h.1;obtain⟨u1,u2⟩:=hu h.2;have h3:=hv d1 u1;have e1:Iv.made r1 s1=⟨r1.1,s1.1,false⟩:=by unfold Iv.made;rw[if_pos ⟨d1,u1⟩]
  have e2:Iv.made r2 s2=⟨r2.1,s2.1,false⟩:=by unfold Iv.made;rw[if_pos h]
  rw[e1,e2];exact qzq ⟨o1.w,p1.w⟩ ⟨o2.w,p2.w⟩ (qbd o1 p1 h3) (qbd o2 p2 (by omega)) d2 u2
 ·have e2:Iv.made r2 s2=Iv.whole:=by unfold Iv.made;rw[if_neg h]
  rw[e2];exact qex v1
theorem IsDn.le_up {p:Nat}{r s:Dy × Int}{le ge:Int->Prop}(h:IsDn p r le)(h2:IsUp p s ge)(hlg:∀g g2,le g->ge g2->g<=g2)(h0:r.2=0)(h1:s.2=0):r.1.val<=s.1.val:=by
 rcases h with ⟨_,b,c⟩|⟨a,_⟩
 ·rcases h2 with ⟨_,y,z⟩|⟨x,_⟩
  ·exact hlg _ _ ((c _ b).1 (Int.le_refl _)) ((z _ y).1 (Int.le_refl _))
  ·exact absurd h1 x
 ·exact absurd h0 a
theorem qabw {x y a b:Iv}{p:Int}(wx:x.W)(wy:y.W)(wa:a.W)(wb:b.W)(hx:x.Le a)(hy:y.Le b):(x.add y p).ins (a.add b p)=true:=by
 have hv:(x.add y p).valid=true:=by
  unfold Iv.add;split
  ·rename_i h;simp only[Bool.and_eq_true]at h;obtain⟨⟨k1,k2⟩,hp⟩:=h;obtain⟨a1,a2⟩:=qai wx k1;obtain⟨b1,b2⟩:=qai wy k2;have l1:=qan wx k1;have l2:=qan wy k2;unfold Iv.made;split
   ·rename_i h0;exact qq9 rAdd_ok rAdd_ok ((qnr a1 b1 hp).le_up (qnq a2 b2 hp) (fun g g2 h h2=>by omega) h0.1 h0.2)
   ·rfl
  ·rfl
 have wh:∀z:Iv,Iv.whole.add z p=Iv.whole/\z.add Iv.whole p=Iv.whole:=fun z=>by
  have:Iv.whole.known=false:=rfl;simp[Iv.add,this]
 rcases hx with rfl|⟨k1,k3,l1,l2⟩
 ·rw[(wh b).1];exact qex hv
 ·rcases hy with rfl|⟨k2,k4,l3,l4⟩
  ·rw[(wh a).2];exact qex hv
  ·cases hp:precB p
   ·have:a.add b p=Iv.whole:=by simp[Iv.add,hp]
    rw[this];exact qex hv
   ·obtain⟨a1,a2⟩:=qai wx k1;obtain⟨b1,b2⟩:=qai wy k2;obtain⟨c1,c2⟩:=qai wa k3;obtain⟨d1,d2⟩:=qai wb k4;have q1:=qan wx k1;have q2:=qan wy k2;unfold Iv.add;rw[k1,k2,k3,k4,hp,if_pos (by rfl),if_pos (by rfl)];refine qadz rAdd_ok rAdd_ok rAdd_ok rAdd_ok (fun h1 h2=>(qnr a1 b1 hp).le_up (qnq a2 b2 hp) (fun g g2 h h2=>by omega) h1 h2) ?_ ?_
    ·exact(qnr c1 d1 hp).mono (qnr a1 b1 hp) (fun g h=>by omega)
    ·exact(qnq a2 b2 hp).mono (qnq c2 d2 hp) (fun g h=>by omega)
theorem q04 {f:Dy->Dy->Dy × Int}(okf:∀a b,(f a b).1.Ok){x y:Iv} :
 (accLo f (pairs x y) 4).val=min (min (min (f (qah x y 0).1 (qah x y 0).2).1.val (f (qah x y 1).1 (qah x y 1).2).1.val) (f (qah x y 2).1 (qah x y 2).2).1.val) (f (qah x y 3).1 (qah x y 3).2).1.val:=by
 rw[qc2,if_neg (by omega),qf4 (qca okf 3) (okf _ _),qc2,if_neg (by omega),qf4 (qca okf 2) (okf _ _),qc2,if_neg (by omega),qf4 (qca okf 1) (okf _ _),qc2,if_pos rfl]
theorem q05 {f:Dy->Dy->Dy × Int}(okf:∀a b,(f a b).1.Ok){x y:Iv} :
 (accHi f (pairs x y) 4).val=max (max (max (f (qah x y 0).1 (qah x y 0).2).1.val (f (qah x y 1).1 (qah x y 1).2).1.val) (f (qah x y 2).1 (qah x y 2).2).1.val) (f (qah x y 3).1 (qah x y 3).2).1.val:=by
 rw[qc3,if_neg (by omega),qf6 (qcb okf 3) (okf _ _),qc3,if_neg (by omega),qf6 (qcb okf 2) (okf _ _),qc3,if_neg (by omega),qf6 (qcb okf 1) (okf _ _),qc3,if_pos rfl]
theorem qrk {f:Dy->Dy->Dy × Int}(okf:∀a b,(f a b).1.Ok){x y:Iv}{i:Nat}(hi:i<4):(accLo f (pairs x y) 4).val<=(f (qah x y i).1 (qah x y i).2).1.val:=by
 rw[q04 okf];obtain rfl|rfl|rfl|rfl:i=0\/i=1\/i=2\/i=3:=by omega
 all_goals omega
theorem qrl {f:Dy->Dy->Dy × Int}(okf:∀a b,(f a b).1.Ok){x y:Iv}{i:Nat}(hi:i<4):(f (qah x y i).1 (qah x y i).2).1.val<=(accHi f (pairs x y) 4).val:=by
 rw[q05 okf];obtain rfl|rfl|rfl|rfl:i=0\/i=1\/i=2\/i=3:=by omega
 all_goals omega
theorem q4r {f:Dy->Dy->Dy × Int}(okf:∀a b,(f a b).1.Ok){x y:Iv}{v:Int}(h:∀i,i<4->v<=(f (qah x y i).1 (qah x y i).2).1.val):v<=(accLo f (pairs x y) 4).val:=by
 have h0:=h 0 (by omega);have h1:=h 1 (by omega);have h2:=h 2 (by omega);have h3:=h 3 (by omega);rw[q04 okf];omega
theorem q5q {f:Dy->Dy->Dy × Int}(okf:∀a b,(f a b).1.Ok){x y:Iv}{v:Int}(h:∀i,i<4->(f (qah x y i).1 (qah x y i).2).1.val<=v):(accHi f (pairs x y) 4).val<=v:=by
 have h0:=h 0 (by omega);have h1:=h 1 (by omega);have h2:=h 2 (by omega);have h3:=h 3 (by omega);rw[q05 okf];omega
section
variable {P : Nat} {f g : Dy → Dy → Dy × Int} {x y a b : Iv} {le ge : Dy → Dy → Int → Prop}
theorem qpw (d1:IsDn P (f (qah x y 0).1 (qah x y 0).2) (le (qah x y 0).1 (qah x y 0).2))(u1:IsUp P (g (qah x y 0).1 (qah x y 0).2) (ge (qah x y 0).1 (qah x y 0).2))
 (lg:∀h h2,le (qah x y 0).1 (qah x y 0).2 h->ge (qah x y 0).1 (qah x y 0).2 h2->h<=h2) (okf:∀a b,(f a b).1.Ok) (okg:∀a b,(g a b).1.Ok) :
 (Iv.four f g x y).valid=true/\(good4 f g x y 4->(accLo f (pairs x y) 4).val<=(accHi g (pairs x y) 4).val):=by
 have key:good4 f g x y 4->(accLo f (pairs x y) 4).val<=(accHi g (pairs x y) 4).val:=by
  intro hg;have h:=hg 0 (by omega);have h1:=d1.le_up u1 lg h.1 h.2;have h2:=qrk okf (x:=x) (y:=y) (i:=0) (by omega);have h3:=qrl okg (x:=x) (y:=y) (i:=0) (by omega);omega
 refine⟨?_,key⟩;by_cases hg:good4 f g x y 4
 ·rw[qe1 hg];exact qq9 (qca okf 4) (qcb okg 4) (key hg)
 ·unfold Iv.four;split
  ·rename_i hc;exfalso;apply hg;intro j hj;simp[pairs]at hc;obtain rfl|rfl|rfl|rfl:j=0\/j=1\/j=2\/j=3:=by omega
   all_goals simp[qah,pairs,hc]
  ·rfl
theorem qaee (okf:∀a b,(f a b).1.Ok)(okg:∀a b,(g a b).1.Ok)(d1:∀i,i<4->IsDn P (f (qah x y i).1 (qah x y i).2) (le (qah x y i).1 (qah x y i).2))(u1:∀i,i<4->IsUp P (g (qah x y i).1 (qah x y i).2) (ge (qah x y i).1 (qah x y i).2))
 (d2:∀i,i<4->IsDn P (f (qah a b i).1 (qah a b i).2) (le (qah a b i).1 (qah a b i).2)) (u2:∀i,i<4->IsUp P (g (qah a b i).1 (qah a b i).2) (ge (qah a b i).1 (qah a b i).2))
 (lg:∀h h2,le (qah x y 0).1 (qah x y 0).2 h->ge (qah x y 0).1 (qah x y 0).2 h2->h<=h2)
 (cd:∀i,i<4->∃j,j<4/\∀h,le (qah a b j).1 (qah a b j).2 h->le (qah x y i).1 (qah x y i).2 h)
 (cu:∀i,i<4->∃j,j<4/\∀h,ge (qah a b j).1 (qah a b j).2 h->ge (qah x y i).1 (qah x y i).2 h) :
 (Iv.four f g x y).ins (Iv.four f g a b)=true:=by
 obtain⟨v1,k1⟩:=qpw (d1 0 (by omega)) (u1 0 (by omega)) lg okf okg;by_cases hb:good4 f g a b 4
 ·have lo:∀i,i<4->(f (qah x y i).1 (qah x y i).2).2=0/\(accLo f (pairs a b) 4).val<=(f (qah x y i).1 (qah x y i).2).1.val:=by
   intro i hi;obtain⟨j,hj,hc⟩:=cd i hi;obtain⟨h1,h2⟩:=(d2 j hj).mono (d1 i hi) hc (hb j hj).1;have:=qrk okf (x:=a) (y:=b) hj;exact⟨h1,by omega⟩
  have hi':∀i,i<4->(g (qah x y i).1 (qah x y i).2).2=0/\(g (qah x y i).1 (qah x y i).2).1.val<=(accHi g (pairs a b) 4).val:=by
   intro i hi;obtain⟨j,hj,hc⟩:=cu i hi;obtain⟨h1,h2⟩:=(u1 i hi).mono (u2 j hj) hc (hb j hj).2;have:=qrl okg (x:=a) (y:=b) hj;exact⟨h1,by omega⟩
  have hs:good4 f g x y 4:=fun i hi=>⟨(lo i hi).1,(hi' i hi).1⟩
  have l1:=q4r okf (x:=x) (y:=y) (fun i hi=>(lo i hi).2);have l2:=q5q okg (x:=x) (y:=y) (fun i hi=>(hi' i hi).2);have l3:=k1 hs;rw[qe1 hs,qe1 hb];exact qzq ⟨(qca okf 4).w,(qcb okg 4).w⟩ ⟨(qca okf 4).w,(qcb okg 4).w⟩ (qbd (qca okf 4) (qcb okg 4) l3) (qbd (qca okf 4) (qcb okg 4) (by omega)) l1 l2
 ·have:Iv.four f g a b=Iv.whole:=by
   unfold Iv.four;split
   ·rename_i hc;exfalso;apply hb;intro j hj;simp[pairs]at hc;obtain rfl|rfl|rfl|rfl:j=0\/j=1\/j=2\/j=3:=by omega
    all_goals simp[qah,pairs,hc]
   ·rfl
  rw[this];exact qex v1
end
theorem mulL {a b c:Int}(h:a<=b)(hc:0<=c):c*a<=c*b:=Int.mul_le_mul_of_nonneg_left h hc
theorem mulLn {a b c:Int}(h:a<=b)(hc:c<=0):c*b<=c*a:=by
 have:=mulL h (show 0<=-c by omega);rw[Int.neg_mul,Int.neg_mul]at this;omega
theorem mulR {a b c:Int}(h:a<=b)(hc:0<=c):a*c<=b*c:=Int.mul_le_mul_of_nonneg_right h hc
theorem mulRn {a b c:Int}(h:a<=b)(hc:c<=0):b*c<=a*c:=by
 have:=mulR h (show 0<=-c by omega);rw[Int.mul_neg,Int.mul_neg]at this;omega
theorem q6x {a0 a1 b0 b1 U V:Int}(h1:a0<=U)(h2:U<=a1)(h3:b0<=V)(h4:V<=b1):a0*b0<=U*V\/a0*b1<=U*V\/a1*b0<=U*V\/a1*b1<=U*V:=by
 rcases Int.lt_or_le V 0 with hV|hV
 ·have:=mulRn h2 (Int.le_of_lt hV);rcases Int.lt_or_le a1 0 with ha|ha
  ·have:=mulLn h4 (Int.le_of_lt ha);omega
  ·have:=mulL h3 ha;omega
 ·have:=mulR h1 hV;rcases Int.lt_or_le a0 0 with ha|ha
  ·have:=mulLn h4 (Int.le_of_lt ha);omega
  ·have:=mulL h3 ha;omega
theorem q6y {a0 a1 b0 b1 U V:Int}(h1:a0<=U)(h2:U<=a1)(h3:b0<=V)(h4:V<=b1):U*V<=a0*b0\/U*V<=a0*b1\/U*V<=a1*b0\/U*V<=a1*b1:=by
 rcases Int.lt_or_le V 0 with hV|hV
 ·have:=mulRn h1 (Int.le_of_lt hV);rcases Int.lt_or_le a0 0 with ha|ha
  ·have:=mulLn h3 (Int.le_of_lt ha);omega
  ·have:=mulL h4 ha;omega
 ·have:=mulR h2 hV;rcases Int.lt_or_le a1 0 with ha|ha
  ·have:=mulLn h3 (Int.le_of_lt ha);omega
  ·have:=mulL h4 ha;omega
theorem qhi {x y:Iv}{i:Nat}(hi:i<4)(hx:x.lo.val<=x.hi.val)(hy:y.lo.val<=y.hi.val):x.lo.val<=(qah x y i).1.val/\(qah x y i).1.val<=x.hi.val/\y.lo.val<=(qah x y i).2.val/\(qah x y i).2.val<=y.hi.val:=by
 obtain rfl|rfl|rfl|rfl:i=0\/i=1\/i=2\/i=3:=by omega
 all_goals simp[qah,pairs,hx,hy]
theorem qce {x y:Iv}{i:Nat}(hi:i<4)(hx:x.lo.Ok/\x.hi.Ok)(hy:y.lo.Ok/\y.hi.Ok):(qah x y i).1.Ok/\(qah x y i).2.Ok:=by
 obtain rfl|rfl|rfl|rfl:i=0\/i=1\/i=2\/i=3:=by omega
 all_goals simp[qah,pairs,hx,hy]
theorem qp1 {a b:Iv}{Q:Dy->Dy->Prop}(h:Q a.lo b.lo\/Q a.lo b.hi\/Q a.hi b.lo\/Q a.hi b.hi):∃j,j<4/\Q (qah a b j).1 (qah a b j).2:=by
 rcases h with h|h|h|h
 ·exact⟨0,by omega,h⟩
 ·exact⟨1,by omega,h⟩
 ·exact⟨2,by omega,h⟩
 ·exact⟨3,by omega,h⟩
theorem q9h {x y a b:Iv}{p:Int}(wx:x.W)(wy:y.W)(wa:a.W)(wb:b.W)(hx:x.Le a)(hy:y.Le b):(x.mul y p).ins (a.mul b p)=true:=by
 have lgm:∀u v:Dy,∀h h2:Int,h*pw 16384<=u.val*v.val->u.val*v.val<=h2*pw 16384->h<=h2:=fun u v h h2 g1 g2=>(qat (qas 16384)).1 (by omega)
 have hv:(x.mul y p).valid=true:=by
  unfold Iv.mul;split
  ·rename_i h;simp only[Bool.and_eq_true]at h;obtain⟨⟨k1,k2⟩,hp⟩:=h;have o:=qce (i:=0) (by omega) (qai wx k1) (qai wy k2);exact(qpw (le:=fun u v g=>g*pw 16384<=u.val*v.val) (ge:=fun u v g=>u.val*v.val<=g*pw 16384) (qnp o.1 o.2 hp) (qno o.1 o.2 hp) (lgm _ _) (fun _ _=>rMul_ok) (fun _ _=>rMul_ok)).1
  ·rfl
 have wh:∀z:Iv,Iv.whole.mul z p=Iv.whole/\z.mul Iv.whole p=Iv.whole:=fun z=>by
  have:Iv.whole.known=false:=rfl;simp[Iv.mul,this]
 rcases hx with rfl|⟨k1,k3,l1,l2⟩
 ·rw[(wh b).1];exact qex hv
 ·rcases hy with rfl|⟨k2,k4,l3,l4⟩
  ·rw[(wh a).2];exact qex hv
  ·cases hp:precB p
   ·have:a.mul b p=Iv.whole:=by simp[Iv.mul,hp]
    rw[this];exact qex hv
   ·have ox:=qai wx k1;have oy:=qai wy k2;have oa:=qai wa k3;have ob:=qai wb k4;have q1:=qan wx k1;have q2:=qan wy k2;unfold Iv.mul;rw[k1,k2,k3,k4,hp,if_pos (by rfl),if_pos (by rfl)];refine qaee (P:=p.toNat) (le:=fun u v g=>g*pw 16384<=u.val*v.val) (ge:=fun u v g=>u.val*v.val<=g*pw 16384) (fun _ _=>rMul_ok) (fun _ _=>rMul_ok) ?_ ?_ ?_ ?_ (lgm _ _) ?_ ?_
    ·intro i hi;have o:=qce hi ox oy;exact qnp o.1 o.2 hp
    ·intro i hi;have o:=qce hi ox oy;exact qno o.1 o.2 hp
    ·intro i hi;have o:=qce hi oa ob;exact qnp o.1 o.2 hp
    ·intro i hi;have o:=qce hi oa ob;exact qno o.1 o.2 hp
    ·intro i hi;obtain⟨g1,g2,g3,g4⟩:=qhi hi q1 q2;obtain⟨j,hj,hq⟩:=qp1 (a:=a) (b:=b) (Q:=fun u v=>u.val*v.val<=(qah x y i).1.val*(qah x y i).2.val) (q6x (by omega) (by omega) (by omega) (by omega));exact⟨j,hj,fun h hh=>by omega⟩
    ·intro i hi;obtain⟨g1,g2,g3,g4⟩:=qhi hi q1 q2;obtain⟨j,hj,hq⟩:=qp1 (a:=a) (b:=b) (Q:=fun u v=>(qah x y i).1.val*(qah x y i).2.val<=u.val*v.val) (q6y (by omega) (by omega) (by omega) (by omega));exact⟨j,hj,fun h hh=>by omega⟩
end Go.Abs.W
namespace Go.Abs.W
theorem qald {u v:Int}(hv:v≠0)(h h2:Int)(g1:divLe u v h)(g2:divGe u v h2):h<=h2:=by
 rcases Int.lt_or_le 0 v with hp|hp
 ·rw[ql5 hp]at g1;rw[ql6 hp]at g2;exact(qat hp).1 (by omega)
 ·rw[qo8 (by omega)]at g1;rw[qo9 (by omega)]at g2;have:=qat (x:=h) (y:=h2) (c:=-v) (by omega);rw[Int.mul_neg,Int.mul_neg]at this;omega
theorem qrv {y:Iv}(wy:y.W)(hk:y.known=true):y.sgn≠0↔(0<y.lo.val\/y.hi.val<0):=by
 obtain⟨o1,o2⟩:=qai wy hk;have s1:=qhf o1;have s2:=qhf o2;unfold Iv.sgn;rw[if_pos hk];constructor
 ·intro h;by_cases h1:0<y.lo.sgn
  ·exact .inl (s1.1.1 h1)
  ·rw[if_neg h1]at h;by_cases h2:y.hi.sgn<0
   ·exact .inr (s2.2.1 h2)
   ·rw[if_neg h2]at h;exact absurd rfl h
 ·rintro(h|h)
  ·rw[if_pos (s1.1.2 h)];omega
  ·have h2:=s2.2.2 h;by_cases h3:0<y.lo.sgn
   ·rw[if_pos h3];omega
   ·rw[if_neg h3,if_pos h2];omega
theorem qzc {d:Dy}(h:d.val≠0):d.m≠[]:=by
 intro h0;apply h;unfold Dy.val;rw[Dy.absN_nil h0];simp
theorem qmo {x:Iv}(wx:x.W)(hk:x.known=true):x.abs.known=true/\x.abs.lo.Ok/\x.abs.hi.Ok/\0<=x.abs.lo.val/\x.abs.lo.val<=x.abs.hi.val:=by
 obtain⟨o1,o2⟩:=qaiw wx hk;obtain⟨r1,r2⟩:=q06 wx hk;have ha:x.abs.all=false:=by unfold Iv.abs;rw[if_pos hk]
 have hv:x.abs.known=true:=by
  have:x.abs.lo.cmp x.abs.hi<=0:=by rw[qe6 o1 o2,cmpI_le];exact r2
  simp[Iv.known,Iv.valid,ha,o1.valid,o2.valid,this]
 exact⟨hv,o1,o2,r1,r2⟩
theorem qm3 {x:Iv}(wx:x.W)(hk:x.known=true):x.abs.hi.val=max (x.lo.val.natAbs:Int) x.hi.val.natAbs/\x.abs.lo.val=(if 0<x.lo.val\/x.hi.val<0 then min (x.lo.val.natAbs:Int) x.hi.val.natAbs else 0):=by
 obtain⟨h1,h2⟩:=qai wx hk;have a1:=qts h1;have a2:=qts h2;have m2:=qf6 (qdx h1) (qdx h2);have m1:=qf4 (qdx h1) (qdx h2);have sr:=qrv wx hk;unfold Iv.abs;rw[if_pos hk];show x.mag.val=_/\x.mig.val=_;unfold Iv.mag Iv.mig;rw[m2,a1,a2];refine⟨rfl,?_⟩;by_cases h:x.sgn=0
 ·rw[if_pos h,qec,if_neg (fun h3=>(sr.2 h3) h)]
 ·rw[if_neg h,m1,a1,a2,if_pos (sr.1 h)]
theorem qagb {x a:Iv}(wx:x.W)(wa:a.W)(hx:x.Le a):x.abs.Le a.abs:=by
 rcases hx with rfl|⟨k1,k3,l1,l2⟩
 ·left;rfl
 ·right;obtain⟨x1,x2⟩:=qm3 wx k1;obtain⟨a1,a2⟩:=qm3 wa k3;have q1:=qan wx k1;refine⟨(qmo wx k1).1,(qmo wa k3).1,?_,?_⟩
  ·rw[x2,a2];split<;>split<;>omega
  ·rw[x1,a1];omega
theorem qafh {x a:Iv}{p:Int}(wx:x.W)(wa:a.W)(hx:x.Le a):(x.sq p).ins (a.sq p)=true:=by
 rw[qux wx,qux wa];exact q9h (abs_W wx) (abs_W wx) (abs_W wa) (abs_W wa) (qagb wx wa hx) (qagb wx wa hx)
theorem IsDn.nonneg {p:Nat}{r:Dy × Int}{le:Int->Prop}(h:IsDn p r le)(h0:le 0):r.2=0/\0<=r.1.val:=by
 rcases h with ⟨a,b,c⟩|⟨_,c⟩
 ·exact⟨a,(c 0 qez).2 h0⟩
 ·exact absurd h0 (c 0 qez)
theorem IsUp.at {p:Nat}{r:Dy × Int}{ge:Int->Prop}(h:IsUp p r ge)(h0:r.2=0):ge r.1.val:=by
 rcases h with ⟨_,b,c⟩|⟨a,_⟩
 ·exact(c _ b).1 (Int.le_refl _)
 ·exact absurd h0 a
section
variable {d e : Dy} {p : Int}
end
end Go.Abs.W
