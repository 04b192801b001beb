/- Parts of the proof: FpIso, FpIso2, FpIso3, FpIso4. -/
import Derived.Test.YtpdchdfajhbglaaGreatDoorHy
import Derived.Test.YtpdchdfajhbglaaGreatDoorHr
import Derived.Test.YtpdchdfajhbglaaGreatDoorHp
namespace Go.Abs.W
def Iv.Le (x a:Iv):Prop:=a=Iv.whole\/(x.known=true/\a.known=true/\a.lo.val<=x.lo.val/\x.hi.val<=a.hi.val)
theorem qjs {l h:Dy}(ol:l.Ok)(oh:h.Ok)(hle:l.val<=h.val):(Iv.mk l h false).valid=true:=by
 have:l.cmp h<=0:=by rw[qj1 ol oh,cmpI_le];exact hle
 simp[Iv.valid,ol.valid,oh.valid,this]
theorem qcl {l h:Dy}(ol:l.Ok)(oh:h.Ok)(hle:l.val<=h.val):(Iv.mk l h false).known=true:=by
 have:=qjs ol oh hle;simp[Iv.known,this]
theorem qia {x:Iv}(h:x.known=true):x.valid=true/\x.all=false:=by
 simp[Iv.known]at h;exact⟨h.2,h.1⟩
theorem qbh {r:Iv}(h:r.valid=true):r.ins Iv.whole=true:=by
 have h1:Iv.whole.valid=true:=rfl;have h2:Iv.whole.all=true:=rfl;simp[Iv.ins,h,h1,h2]
theorem qac2 {r s:Iv}(wr:r.W)(ws:s.W)(kr:r.known=true)(ks:s.known=true)(h1:s.lo.val<=r.lo.val)(h2:r.hi.val<=s.hi.val):r.ins s=true:=by
 obtain⟨a1,a2⟩:=qai wr kr;obtain⟨b1,b2⟩:=qai ws ks;obtain⟨v1,l1⟩:=qia kr;obtain⟨v2,l2⟩:=qia ks;have c1:s.lo.cmp r.lo<=0:=by rw[qj1 b1 a1,cmpI_le];exact h1
 have c2:r.hi.cmp s.hi<=0:=by rw[qj1 a2 b2,cmpI_le];exact h2
 simp[Iv.ins,v1,v2,l1,l2,c1,c2]
theorem q0d {r1 s1 r2 s2:Dy × Int}(o1:r1.1.Ok)(p1:s1.1.Ok)(o2:r2.1.Ok)(p2:s2.1.Ok)(hv:r1.2=0->s1.2=0->r1.1.val<=s1.1.val)
 (hd:r2.2=0->r1.2=0/\r2.1.val<=r1.1.val) (hu:s2.2=0->s1.2=0/\s1.1.val<=s2.1.val):(Iv.made r1 s1).ins (Iv.made r2 s2)=true:=by
 have v1:(Iv.made r1 s1).valid=true:=by
  unfold Iv.made;split
  ·rename_i h;exact qjs o1 p1 (hv h.1 h.2)
  ·rfl
 by_cases h:r2.2=0/\s2.2=0
 ·obtain⟨d1,d2⟩:=hd h.1;obtain⟨u1,u2⟩:=hu h.2;have h3:=hv d1 u1;have e1:Iv.made r1 s1=⟨r1.1,s1.1,false⟩:=by unfold Iv.made;rw[if_pos ⟨d1,u1⟩]
  have e2:Iv.made r2 s2=⟨r2.1,s2.1,false⟩:=by unfold Iv.made;rw[if_pos h]
  rw[e1,e2];exact qac2 ⟨o1.w,p1.w⟩ ⟨o2.w,p2.w⟩ (qcl o1 p1 h3) (qcl o2 p2 (by omega)) d2 u2
 ·have e2:Iv.made r2 s2=Iv.whole:=by unfold Iv.made;rw[if_neg h]
  rw[e2];exact qbh v1
theorem IsDn.le_up {p:Nat}{r s:Dy × Int}{le ge:Int->Prop}(h:IsDn p r le)(h2:IsUp p s ge)(hlg:∀g g2,le g->ge g2->g<=g2)(h0:r.2=0)(h1:s.2=0):r.1.val<=s.1.val:=by
 rcases h with ⟨_,b,c⟩|⟨a,_⟩
 ·rcases h2 with ⟨_,y,z⟩|⟨x,_⟩
  ·exact hlg _ _ ((c _ b).1 (Int.le_refl _)) ((z _ y).1 (Int.le_refl _))
  ·exact absurd h1 x
 ·exact absurd h0 a
theorem qale {x y a b:Iv}{p:Int}(wx:x.W)(wy:y.W)(wa:a.W)(wb:b.W)(hx:x.Le a)(hy:y.Le b):(x.add y p).ins (a.add b p)=true:=by
 have hv:(x.add y p).valid=true:=by
  unfold Iv.add;split
  ·rename_i h;simp only[Bool.and_eq_true]at h;obtain⟨⟨k1,k2⟩,hp⟩:=h;obtain⟨a1,a2⟩:=qai wx k1;obtain⟨b1,b2⟩:=qai wy k2;have l1:=qal wx k1;have l2:=qal wy k2;unfold Iv.made;split
   ·rename_i h0;exact qjs rAdd_ok rAdd_ok ((qp0 a1 b1 hp).le_up (qpz a2 b2 hp) (fun g g2 h h2=>by omega) h0.1 h0.2)
   ·rfl
  ·rfl
 have wh:∀z:Iv,Iv.whole.add z p=Iv.whole/\z.add Iv.whole p=Iv.whole:=fun z=>by
  have:Iv.whole.known=false:=rfl;simp[Iv.add,this]
 rcases hx with rfl|⟨k1,k3,l1,l2⟩
 ·rw[(wh b).1];exact qbh hv
 ·rcases hy with rfl|⟨k2,k4,l3,l4⟩
  ·rw[(wh a).2];exact qbh hv
  ·cases hp:precB p
   ·have:a.add b p=Iv.whole:=by simp[Iv.add,hp]
    rw[this];exact qbh hv
   ·obtain⟨a1,a2⟩:=qai wx k1;obtain⟨b1,b2⟩:=qai wy k2;obtain⟨c1,c2⟩:=qai wa k3;obtain⟨d1,d2⟩:=qai wb k4;have q1:=qal wx k1;have q2:=qal wy k2;unfold Iv.add;rw[k1,k2,k3,k4,hp,if_pos (by rfl),if_pos (by rfl)];refine q0d rAdd_ok rAdd_ok rAdd_ok rAdd_ok (fun h1 h2=>(qp0 a1 b1 hp).le_up (qpz a2 b2 hp) (fun g g2 h h2=>by omega) h1 h2) ?_ ?_
    ·exact(qp0 c1 d1 hp).mono (qp0 a1 b1 hp) (fun g h=>by omega)
    ·exact(qpz a2 b2 hp).mono (qpz c2 d2 hp) (fun g h=>by omega)
theorem qajq {x a:Iv}{p:Int}(wx:x.W)(wa:a.W)(hx:x.Le a):(x.rnd p).ins (a.rnd p)=true:=by
 have hv:(x.rnd p).valid=true:=by
  unfold Iv.rnd;split
  ·rename_i h;simp only[Bool.and_eq_true]at h;obtain⟨k1,hp⟩:=h;obtain⟨a1,a2⟩:=qai wx k1;have l1:=qal wx k1;unfold Iv.made;split
   ·rename_i h0;exact qjs rRound_ok rRound_ok ((qc6 a1 hp).le_up (qdm a2 hp) (fun g g2 h h2=>by omega) h0.1 h0.2)
   ·rfl
  ·rfl
 rcases hx with rfl|⟨k1,k3,l1,l2⟩
 ·have:Iv.whole.rnd p=Iv.whole:=by
   have:Iv.whole.known=false:=rfl;simp[Iv.rnd,this]
  rw[this];exact qbh hv
 ·cases hp:precB p
  ·have:a.rnd p=Iv.whole:=by simp[Iv.rnd,hp]
   rw[this];exact qbh hv
  ·obtain⟨a1,a2⟩:=qai wx k1;obtain⟨c1,c2⟩:=qai wa k3;have q1:=qal wx k1;unfold Iv.rnd;rw[k1,k3,hp,if_pos (by rfl),if_pos (by rfl)];refine q0d rRound_ok rRound_ok rRound_ok rRound_ok (fun h1 h2=>(qc6 a1 hp).le_up (qdm a2 hp) (fun g g2 h h2=>by omega) h1 h2) ?_ ?_
   ·exact(qc6 c1 hp).mono (qc6 a1 hp) (fun g h=>by omega)
   ·exact(qdm a2 hp).mono (qdm c2 hp) (fun g h=>by omega)
theorem q4m {f:Dy->Dy->Dy × Int}(okf:∀a b,(f a b).1.Ok){x y:Iv} :
 (accLo f (pairs x y) 4).val=min (min (min (f (qah x y 0).1 (qah x y 0).2).1.val (f (qah x y 1).1 (qah x y 1).2).1.val) (f (qah x y 2).1 (qah x y 2).2).1.val) (f (qah x y 3).1 (qah x y 3).2).1.val:=by
 rw[qdc,if_neg (by omega),ql3 (qcm okf 3) (okf _ _),qdc,if_neg (by omega),ql3 (qcm okf 2) (okf _ _),qdc,if_neg (by omega),ql3 (qcm okf 1) (okf _ _),qdc,if_pos rfl]
theorem q4n {f:Dy->Dy->Dy × Int}(okf:∀a b,(f a b).1.Ok){x y:Iv} :
 (accHi f (pairs x y) 4).val=max (max (max (f (qah x y 0).1 (qah x y 0).2).1.val (f (qah x y 1).1 (qah x y 1).2).1.val) (f (qah x y 2).1 (qah x y 2).2).1.val) (f (qah x y 3).1 (qah x y 3).2).1.val:=by
 rw[qdd,if_neg (by omega),ql6 (qcn okf 3) (okf _ _),qdd,if_neg (by omega),ql6 (qcn okf 2) (okf _ _),qdd,if_neg (by omega),ql6 (qcn okf 1) (okf _ _),qdd,if_pos rfl]
theorem qt6 {f:Dy->Dy->Dy × Int}(okf:∀a b,(f a b).1.Ok){x y:Iv}{i:Nat}(hi:i<4):(accLo f (pairs x y) 4).val<=(f (qah x y i).1 (qah x y i).2).1.val:=by
 rw[q4m okf];obtain rfl|rfl|rfl|rfl:i=0\/i=1\/i=2\/i=3:=by omega
 all_goals omega
theorem qt7 {f:Dy->Dy->Dy × Int}(okf:∀a b,(f a b).1.Ok){x y:Iv}{i:Nat}(hi:i<4):(f (qah x y i).1 (qah x y i).2).1.val<=(accHi f (pairs x y) 4).val:=by
 rw[q4n okf];obtain rfl|rfl|rfl|rfl:i=0\/i=1\/i=2\/i=3:=by omega
 all_goals omega
theorem q7y {f:Dy->Dy->Dy × Int}(okf:∀a b,(f a b).1.Ok){x y:Iv}{v:Int}(h:∀i,i<4->v<=(f (qah x y i).1 (qah x y i).2).1.val):v<=(accLo f (pairs x y) 4).val:=by
 have h0:=h 0 (by omega);have h1:=h 1 (by omega);have h2:=h 2 (by omega);have h3:=h 3 (by omega);rw[q4m okf];omega
theorem q8x {f:Dy->Dy->Dy × Int}(okf:∀a b,(f a b).1.Ok){x y:Iv}{v:Int}(h:∀i,i<4->(f (qah x y i).1 (qah x y i).2).1.val<=v):(accHi f (pairs x y) 4).val<=v:=by
 have h0:=h 0 (by omega);have h1:=h 1 (by omega);have h2:=h 2 (by omega);have h3:=h 3 (by omega);rw[q4n okf];omega
section
variable {P : Nat} {f g : Dy → Dy → Dy × Int} {x y a b : Iv} {le ge : Dy → Dy → Int → Prop}
theorem qo6 (d1:IsDn P (f (qah x y 0).1 (qah x y 0).2) (le (qah x y 0).1 (qah x y 0).2))(u1:IsUp P (g (qah x y 0).1 (qah x y 0).2) (ge (qah x y 0).1 (qah x y 0).2))
 (lg:∀h h2,le (qah x y 0).1 (qah x y 0).2 h->ge (qah x y 0).1 (qah x y 0).2 h2->h<=h2) (okf:∀a b,(f a b).1.Ok) (okg:∀a b,(g a b).1.Ok) :
 (Iv.four f g x y).valid=true/\(good4 f g x y 4->(accLo f (pairs x y) 4).val<=(accHi g (pairs x y) 4).val):=by
 have key:good4 f g x y 4->(accLo f (pairs x y) 4).val<=(accHi g (pairs x y) 4).val:=by
  intro hg;have h:=hg 0 (by omega);have h1:=d1.le_up u1 lg h.1 h.2;have h2:=qt6 okf (x:=x) (y:=y) (i:=0) (by omega);have h3:=qt7 okg (x:=x) (y:=y) (i:=0) (by omega);omega
 refine⟨?_,key⟩;by_cases hg:good4 f g x y 4
 ·rw[qfd hg];exact qjs (qcm okf 4) (qcn okg 4) (key hg)
 ·unfold Iv.four;split
  ·rename_i hc;exfalso;apply hg;intro j hj;simp[pairs]at hc;obtain rfl|rfl|rfl|rfl:j=0\/j=1\/j=2\/j=3:=by omega
   all_goals simp[qah,pairs,hc]
  ·rfl
theorem q75 (okf:∀a b,(f a b).1.Ok)(okg:∀a b,(g a b).1.Ok)(d1:∀i,i<4->IsDn P (f (qah x y i).1 (qah x y i).2) (le (qah x y i).1 (qah x y i).2))(u1:∀i,i<4->IsUp P (g (qah x y i).1 (qah x y i).2) (ge (qah x y i).1 (qah x y i).2))
 (d2:∀i,i<4->IsDn P (f (qah a b i).1 (qah a b i).2) (le (qah a b i).1 (qah a b i).2)) (u2:∀i,i<4->IsUp P (g (qah a b i).1 (qah a b i).2) (ge (qah a b i).1 (qah a b i).2))
 (lg:∀h h2,le (qah x y 0).1 (qah x y 0).2 h->ge (qah x y 0).1 (qah x y 0).2 h2->h<=h2)
 (cd:∀i,i<4->∃j,j<4/\∀h,le (qah a b j).1 (qah a b j).2 h->le (qah x y i).1 (qah x y i).2 h)
 (cu:∀i,i<4->∃j,j<4/\∀h,ge (qah a b j).1 (qah a b j).2 h->ge (qah x y i).1 (qah x y i).2 h) :
 (Iv.four f g x y).ins (Iv.four f g a b)=true:=by
 obtain⟨v1,k1⟩:=qo6 (d1 0 (by omega)) (u1 0 (by omega)) lg okf okg;by_cases hb:good4 f g a b 4
 ·have lo:∀i,i<4->(f (qah x y i).1 (qah x y i).2).2=0/\(accLo f (pairs a b) 4).val<=(f (qah x y i).1 (qah x y i).2).1.val:=by
   intro i hi;obtain⟨j,hj,hc⟩:=cd i hi;obtain⟨h1,h2⟩:=(d2 j hj).mono (d1 i hi) hc (hb j hj).1;have:=qt6 okf (x:=a) (y:=b) hj;exact⟨h1,by omega⟩
  have hi':∀i,i<4->(g (qah x y i).1 (qah x y i).2).2=0/\(g (qah x y i).1 (qah x y i).2).1.val<=(accHi g (pairs a b) 4).val:=by
   intro i hi;obtain⟨j,hj,hc⟩:=cu i hi;obtain⟨h1,h2⟩:=(u1 i hi).mono (u2 j hj) hc (hb j hj).2;have:=qt7 okg (x:=a) (y:=b) hj;exact⟨h1,by omega⟩
  have hs:good4 f g x y 4:=fun i hi=>⟨(lo i hi).1,(hi' i hi).1⟩
  have l1:=q7y okf (x:=x) (y:=y) (fun i hi=>(lo i hi).2);have l2:=q8x okg (x:=x) (y:=y) (fun i hi=>(hi' i hi).2);have l3:=k1 hs;rw[qfd hs,qfd hb];exact qac2 ⟨(qcm okf 4).w,(qcn okg 4).w⟩ ⟨(qcm okf 4).w,(qcn okg 4).w⟩ (qcl (qcm okf 4) (qcn okg 4) l3) (qcl (qcm okf 4) (qcn okg 4) (by omega)) l1 l2
 ·have:Iv.four f g a b=Iv.whole:=by
   unfold Iv.four;split
   ·rename_i hc;exfalso;apply hb;intro j hj;simp[pairs]at hc;obtain rfl|rfl|rfl|rfl:j=0\/j=1\/j=2\/j=3:=by omega
    all_goals simp[qah,pairs,hc]
   ·rfl
  rw[this];exact qbh v1
end
theorem mulL {a b c:Int}(h:a<=b)(hc:0<=c):c*a<=c*b:=Int.mul_le_mul_of_nonneg_left h hc
theorem mulLn {a b c:Int}(h:a<=b)(hc:c<=0):c*b<=c*a:=by
 have:=mulL h (show 0<=-c by omega);rw[Int.neg_mul,Int.neg_mul]at this;omega
theorem mulR {a b c:Int}(h:a<=b)(hc:0<=c):a*c<=b*c:=Int.mul_le_mul_of_nonneg_right h hc
theorem mulRn {a b c:Int}(h:a<=b)(hc:c<=0):b*c<=a*c:=by
 have:=mulR h (show 0<=-c by omega);rw[Int.mul_neg,Int.mul_neg]at this;omega
theorem q96 {a0 a1 b0 b1 U V:Int}(h1:a0<=U)(h2:U<=a1)(h3:b0<=V)(h4:V<=b1):a0*b0<=U*V\/a0*b1<=U*V\/a1*b0<=U*V\/a1*b1<=U*V:=by
 rcases Int.lt_or_le V 0 with hV|hV
 ·have:=mulRn h2 (Int.le_of_lt hV);rcases Int.lt_or_le a1 0 with ha|ha
  ·have:=mulLn h4 (Int.le_of_lt ha);omega
  ·have:=mulL h3 ha;omega
 ·have:=mulR h1 hV;rcases Int.lt_or_le a0 0 with ha|ha
  ·have:=mulLn h4 (Int.le_of_lt ha);omega
  ·have:=mulL h3 ha;omega
theorem q97 {a0 a1 b0 b1 U V:Int}(h1:a0<=U)(h2:U<=a1)(h3:b0<=V)(h4:V<=b1):U*V<=a0*b0\/U*V<=a0*b1\/U*V<=a1*b0\/U*V<=a1*b1:=by
 rcases Int.lt_or_le V 0 with hV|hV
 ·have:=mulRn h1 (Int.le_of_lt hV);rcases Int.lt_or_le a0 0 with ha|ha
  ·have:=mulLn h3 (Int.le_of_lt ha);omega
  ·have:=mulL h4 ha;omega
 ·have:=mulR h2 hV;rcases Int.lt_or_le a1 0 with ha|ha
  ·have:=mulLn h3 (Int.le_of_lt ha);omega
  ·have:=mulL h4 ha;omega
theorem qc7 {x y:Iv}{i:Nat}(hi:i<4)(hx:x.lo.val<=x.hi.val)(hy:y.lo.val<=y.hi.val):x.lo.val<=(qah x y i).1.val/\(qah x y i).1.val<=x.hi.val/\y.lo.val<=(qah x y i).2.val/\(qah x y i).2.val<=y.hi.val:=by
 obtain rfl|rfl|rfl|rfl:i=0\/i=1\/i=2\/i=3:=by omega
 all_goals simp[qah,pairs,hx,hy]
theorem qba {x y:Iv}{i:Nat}(hi:i<4)(hx:x.lo.Ok/\x.hi.Ok)(hy:y.lo.Ok/\y.hi.Ok):(qah x y i).1.Ok/\(qah x y i).2.Ok:=by
 obtain rfl|rfl|rfl|rfl:i=0\/i=1\/i=2\/i=3:=by omega
 all_goals simp[qah,pairs,hx,hy]
theorem qot {a b:Iv}{Q:Dy->Dy->Prop}(h:Q a.lo b.lo\/Q a.lo b.hi\/Q a.hi b.lo\/Q a.hi b.hi):∃j,j<4/\Q (qah a b j).1 (qah a b j).2:=by
 rcases h with h|h|h|h
 ·exact⟨0,by omega,h⟩
 ·exact⟨1,by omega,h⟩
 ·exact⟨2,by omega,h⟩
 ·exact⟨3,by omega,h⟩
theorem qaj8 {x y a b:Iv}{p:Int}(wx:x.W)(wy:y.W)(wa:a.W)(wb:b.W)(hx:x.Le a)(hy:y.Le b):(x.mul y p).ins (a.mul b p)=true:=by
 have lgm:∀u v:Dy,∀h h2:Int,h*pw 16384<=u.val*v.val->u.val*v.val<=h2*pw 16384->h<=h2:=fun u v h h2 g1 g2=>(qav (qax 16384)).1 (by omega)
 have hv:(x.mul y p).valid=true:=by
  unfold Iv.mul;split
  ·rename_i h;simp only[Bool.and_eq_true]at h;obtain⟨⟨k1,k2⟩,hp⟩:=h;have o:=qba (i:=0) (by omega) (qai wx k1) (qai wy k2);exact(qo6 (le:=fun u v g=>g*pw 16384<=u.val*v.val) (ge:=fun u v g=>u.val*v.val<=g*pw 16384) (qj7 o.1 o.2 hp) (qj6 o.1 o.2 hp) (lgm _ _) (fun _ _=>rMul_ok) (fun _ _=>rMul_ok)).1
  ·rfl
 have wh:∀z:Iv,Iv.whole.mul z p=Iv.whole/\z.mul Iv.whole p=Iv.whole:=fun z=>by
  have:Iv.whole.known=false:=rfl;simp[Iv.mul,this]
 rcases hx with rfl|⟨k1,k3,l1,l2⟩
 ·rw[(wh b).1];exact qbh hv
 ·rcases hy with rfl|⟨k2,k4,l3,l4⟩
  ·rw[(wh a).2];exact qbh hv
  ·cases hp:precB p
   ·have:a.mul b p=Iv.whole:=by simp[Iv.mul,hp]
    rw[this];exact qbh hv
   ·have ox:=qai wx k1;have oy:=qai wy k2;have oa:=qai wa k3;have ob:=qai wb k4;have q1:=qal wx k1;have q2:=qal wy k2;unfold Iv.mul;rw[k1,k2,k3,k4,hp,if_pos (by rfl),if_pos (by rfl)];refine q75 (P:=p.toNat) (le:=fun u v g=>g*pw 16384<=u.val*v.val) (ge:=fun u v g=>u.val*v.val<=g*pw 16384) (fun _ _=>rMul_ok) (fun _ _=>rMul_ok) ?_ ?_ ?_ ?_ (lgm _ _) ?_ ?_
    ·intro i hi;have o:=qba hi ox oy;exact qj7 o.1 o.2 hp
    ·intro i hi;have o:=qba hi ox oy;exact qj6 o.1 o.2 hp
    ·intro i hi;have o:=qba hi oa ob;exact qj7 o.1 o.2 hp
    ·intro i hi;have o:=qba hi oa ob;exact qj6 o.1 o.2 hp
    ·intro i hi;obtain⟨g1,g2,g3,g4⟩:=qc7 hi q1 q2;obtain⟨j,hj,hq⟩:=qot (a:=a) (b:=b) (Q:=fun u v=>u.val*v.val<=(qah x y i).1.val*(qah x y i).2.val) (q96 (by omega) (by omega) (by omega) (by omega));exact⟨j,hj,fun h hh=>by omega⟩
    ·intro i hi;obtain⟨g1,g2,g3,g4⟩:=qc7 hi q1 q2;obtain⟨j,hj,hq⟩:=qot (a:=a) (b:=b) (Q:=fun u v=>(qah x y i).1.val*(qah x y i).2.val<=u.val*v.val) (q97 (by omega) (by omega) (by omega) (by omega));exact⟨j,hj,fun h hh=>by omega⟩
end Go.Abs.W
namespace Go.Abs.W
theorem qx8 {a0 a1 b0 b1 U V:Int}(h1:a0<=U)(h2:U<=a1)(h3:b0<=V)(h4:V<=b1)(hs:0<b0\/b1<0) :
 (∀g,divLe a0 b0 g->divLe U V g)\/(∀g,divLe a0 b1 g->divLe U V g)\/(∀g,divLe a1 b0 g->divLe U V g)\/(∀g,divLe a1 b1 g->divLe U V g):=by
 have P0:=Int.le_of_lt (qax 16384);rcases hs with hs|hs
 ·have u1:=mulR h1 P0;rcases Int.lt_or_le a0 0 with ha|ha
  ·left;intro g hg;rw[qfh hs]at hg;rw[qfh (by omega)];have z:=mulR (Int.le_of_lt ha) P0;rw[Int.zero_mul]at z;have zz:a0*pw 16384<0:=by
    have:=Int.mul_lt_mul_of_pos_right ha (qax 16384);rwa[Int.zero_mul]at this
   have gn:g<0:=by
    rcases Int.lt_or_le g 0 with h|h
    ·exact h
    ·have:=Int.mul_nonneg h (Int.le_of_lt hs);omega
   have:=mulLn h3 (Int.le_of_lt gn);omega
  ·right;left;intro g hg;rw[qfh (by omega)]at hg ⊢;have z:=Int.mul_nonneg ha P0;rcases Int.lt_or_le g 0 with h|h
   ·have:=mulLn (show 0<=V by omega) (Int.le_of_lt h);rw[Int.mul_zero]at this;omega
   ·have:=mulL h4 h;omega
 ·have u1:=mulR h2 P0;rcases Int.lt_or_le 0 a1 with ha|ha
  ·right;right;right;intro g hg;rw[qln (by omega)]at hg ⊢;have zz:0<a1*pw 16384:=Int.mul_pos ha (qax 16384);have gn:g<0:=by
    rcases Int.lt_or_le g 0 with h|h
    ·exact h
    ·have:=mulL (show b1<=0 by omega) h;rw[Int.mul_zero]at this;omega
   have:=mulLn h4 (Int.le_of_lt gn);omega
  ·right;right;left;intro g hg;rw[qln (by omega)]at hg ⊢;have z:=mulR ha P0;rw[Int.zero_mul]at z;rcases Int.lt_or_le 0 g with h|h
   ·have:=mulL h3 (Int.le_of_lt h);omega
   ·have:=mulLn (show V<=0 by omega) h;rw[Int.mul_zero]at this;omega
theorem qx9 {a0 a1 b0 b1 U V:Int}(h1:a0<=U)(h2:U<=a1)(h3:b0<=V)(h4:V<=b1)(hs:0<b0\/b1<0) :
 (∀g,divGe a0 b0 g->divGe U V g)\/(∀g,divGe a0 b1 g->divGe U V g)\/(∀g,divGe a1 b0 g->divGe U V g)\/(∀g,divGe a1 b1 g->divGe U V g):=by
 have P0:=Int.le_of_lt (qax 16384);rcases hs with hs|hs
 ·have u1:=mulR h2 P0;rcases Int.lt_or_le a1 0 with ha|ha
  ·right;right;right;intro g hg;rw[qgm (by omega)]at hg ⊢;have z:=mulR (Int.le_of_lt ha) P0;rw[Int.zero_mul]at z;rcases Int.lt_or_le g 0 with h|h
   ·have:=mulLn h4 (Int.le_of_lt h);omega
   ·have:=Int.mul_nonneg h (show 0<=V by omega);omega
  ·right;right;left;intro g hg;rw[qgm (by omega)]at hg ⊢;have z:=Int.mul_nonneg ha P0;have gn:0<=g:=by
    rcases Int.lt_or_le g 0 with h|h
    ·have:g*b0<0:=Int.mul_neg_of_neg_of_pos h hs;omega
    ·exact h
   have:=mulL h3 gn;omega
 ·have u1:=mulR h1 P0;rcases Int.lt_or_le 0 a0 with ha|ha
  ·left;intro g hg;rw[qlo (by omega)]at hg ⊢;have z:=Int.mul_nonneg (Int.le_of_lt ha) P0;rcases Int.lt_or_le g 0 with h|h
   ·have:=mulLn h3 (Int.le_of_lt h);omega
   ·have:=mulL (show V<=0 by omega) h;rw[Int.mul_zero]at this;omega
  ·right;left;intro g hg;rw[qlo (by omega)]at hg ⊢;have z:=mulR ha P0;rw[Int.zero_mul]at z;have gn:0<=g:=by
    rcases Int.lt_or_le g 0 with h|h
    ·have:0<g*b1:=Int.mul_pos_of_neg_of_neg h hs;omega
    ·exact h
   have:=mulL h4 gn;omega
theorem qad1 {u v:Int}(hv:v≠0)(h h2:Int)(g1:divLe u v h)(g2:divGe u v h2):h<=h2:=by
 rcases Int.lt_or_le 0 v with hp|hp
 ·rw[qfh hp]at g1;rw[qgm hp]at g2;exact(qav hp).1 (by omega)
 ·rw[qln (by omega)]at g1;rw[qlo (by omega)]at g2;have:=qav (x:=h) (y:=h2) (c:=-v) (by omega);rw[Int.mul_neg,Int.mul_neg]at this;omega
theorem qlf {y:Iv}(wy:y.W)(hk:y.known=true):y.sgn≠0↔(0<y.lo.val\/y.hi.val<0):=by
 obtain⟨o1,o2⟩:=qai wy hk;have s1:=qh5 o1;have s2:=qh5 o2;unfold Iv.sgn;rw[if_pos hk];constructor
 ·intro h;by_cases h1:0<y.lo.sgn
  ·exact .inl (s1.1.1 h1)
  ·rw[if_neg h1]at h;by_cases h2:y.hi.sgn<0
   ·exact .inr (s2.2.1 h2)
   ·rw[if_neg h2]at h;exact absurd rfl h
 ·rintro(h|h)
  ·rw[if_pos (s1.1.2 h)];omega
  ·have h2:=s2.2.2 h;by_cases h3:0<y.lo.sgn
   ·rw[if_pos h3];omega
   ·rw[if_neg h3,if_pos h2];omega
theorem qpo {d:Dy}(h:d.val≠0):d.m≠[]:=by
 intro h0;apply h;unfold Dy.val;rw[Dy.absN_nil h0];simp
theorem qak3 {x y a b:Iv}{p:Int}(wx:x.W)(wy:y.W)(wa:a.W)(wb:b.W)(hx:x.Le a)(hy:y.Le b):(x.div y p).ins (a.div b p)=true:=by
 have hv:(x.div y p).valid=true:=by
  unfold Iv.div;split
  ·rename_i h;simp only[Bool.and_eq_true,decide_eq_true_eq]at h;obtain⟨⟨⟨k1,k2⟩,hp⟩,hs⟩:=h;have o:=qba (i:=0) (by omega) (qai wx k1) (qai wy k2);have r:=qc7 (i:=0) (by omega) (qal wx k1) (qal wy k2);have hr:=(qlf wy k2).1 hs;have hne:(qah x y 0).2.val≠0:=by omega
   exact(qo6 (le:=fun u v=>divLe u.val v.val) (ge:=fun u v=>divGe u.val v.val) (qrp o.1 o.2 hp (qpo hne)) (qro o.1 o.2 hp (qpo hne)) (qad1 hne) (fun _ _=>rDiv_ok) (fun _ _=>rDiv_ok)).1
  ·rfl
 have wh:∀z:Iv,Iv.whole.div z p=Iv.whole/\z.div Iv.whole p=Iv.whole:=fun z=>by
  have:Iv.whole.known=false:=rfl;simp[Iv.div,this]
 rcases hx with rfl|⟨k1,k3,l1,l2⟩
 ·rw[(wh b).1];exact qbh hv
 ·rcases hy with rfl|⟨k2,k4,l3,l4⟩
  ·rw[(wh a).2];exact qbh hv
  ·cases hp:precB p
   ·have:a.div b p=Iv.whole:=by simp[Iv.div,hp]
    rw[this];exact qbh hv
   ·by_cases hsb:b.sgn=0
    ·have:a.div b p=Iv.whole:=by simp[Iv.div,hsb]
     rw[this];exact qbh hv
    ·have ox:=qai wx k1;have oy:=qai wy k2;have oa:=qai wa k3;have ob:=qai wb k4;have q1:=qal wx k1;have q2:=qal wy k2;have q4:=qal wb k4;have q3:=qal wa k3;have rb:=(qlf wb k4).1 hsb;have hsy:y.sgn≠0:=(qlf wy k2).2 (by omega);unfold Iv.div;rw[k1,k2,k3,k4,hp,if_pos (by simpa using hsy),if_pos (by simpa using hsb)];have nx:∀i,i<4->(qah x y i).2.val≠0:=fun i hi=>by have:=qc7 hi q1 q2;omega
     have na:∀i,i<4->(qah a b i).2.val≠0:=fun i hi=>by have:=qc7 hi q3 q4;omega
     refine q75 (P:=p.toNat) (le:=fun u v=>divLe u.val v.val) (ge:=fun u v=>divGe u.val v.val) (fun _ _=>rDiv_ok) (fun _ _=>rDiv_ok) ?_ ?_ ?_ ?_ (qad1 (nx 0 (by omega))) ?_ ?_
     ·intro i hi;have o:=qba hi ox oy;exact qrp o.1 o.2 hp (qpo (nx i hi))
     ·intro i hi;have o:=qba hi ox oy;exact qro o.1 o.2 hp (qpo (nx i hi))
     ·intro i hi;have o:=qba hi oa ob;exact qrp o.1 o.2 hp (qpo (na i hi))
     ·intro i hi;have o:=qba hi oa ob;exact qro o.1 o.2 hp (qpo (na i hi))
     ·intro i hi;obtain⟨g1,g2,g3,g4⟩:=qc7 hi q1 q2;exact qot (a:=a) (b:=b) (Q:=fun u v=>∀g,divLe u.val v.val g->divLe (qah x y i).1.val (qah x y i).2.val g) (qx8 (by omega) (by omega) (by omega) (by omega) rb)
     ·intro i hi;obtain⟨g1,g2,g3,g4⟩:=qc7 hi q1 q2;exact qot (a:=a) (b:=b) (Q:=fun u v=>∀g,divGe u.val v.val g->divGe (qah x y i).1.val (qah x y i).2.val g) (qx9 (by omega) (by omega) (by omega) (by omega) rb)
theorem qri {x:Iv}(wx:x.W)(hk:x.known=true):x.abs.known=true/\x.abs.lo.Ok/\x.abs.hi.Ok/\0<=x.abs.lo.val/\x.abs.lo.val<=x.abs.hi.val:=by
 obtain⟨o1,o2⟩:=qaez wx hk;obtain⟨r1,r2⟩:=q4o wx hk;have ha:x.abs.all=false:=by unfold Iv.abs;rw[if_pos hk]
 have hv:x.abs.known=true:=by
  have:x.abs.lo.cmp x.abs.hi<=0:=by rw[qj1 o1 o2,cmpI_le];exact r2
  simp[Iv.known,Iv.valid,ha,o1.valid,o2.valid,this]
 exact⟨hv,o1,o2,r1,r2⟩
theorem qt8 {x:Iv}(wx:x.W)(hk:x.known=true):x.abs.hi.val=max (x.lo.val.natAbs:Int) x.hi.val.natAbs/\x.abs.lo.val=(if 0<x.lo.val\/x.hi.val<0 then min (x.lo.val.natAbs:Int) x.hi.val.natAbs else 0):=by
 obtain⟨h1,h2⟩:=qai wx hk;have a1:=qwy h1;have a2:=qwy h2;have m2:=ql6 (qgn h1) (qgn h2);have m1:=ql3 (qgn h1) (qgn h2);have sr:=qlf wx hk;unfold Iv.abs;rw[if_pos hk];show x.mag.val=_/\x.mig.val=_;unfold Iv.mag Iv.mig;rw[m2,a1,a2];refine⟨rfl,?_⟩;by_cases h:x.sgn=0
 ·rw[if_pos h,qhs,if_neg (fun h3=>(sr.2 h3) h)]
 ·rw[if_neg h,m1,a1,a2,if_pos (sr.1 h)]
theorem qabe {v:Int}(h h2:Int)(g1:sqLe v h)(g2:sqGe v h2):h<=h2:=by
 obtain⟨g3,g4⟩:=g2;rcases g1 with g1|g1
 ·omega
 ·rcases Int.lt_or_le h 0 with h0|h0
  ·omega
  ·exact(qabg h0 g3).1 (by omega)
theorem qaf7 {x a:Iv}{p:Int}(wx:x.W)(wa:a.W)(hx:x.Le a):(x.sqrt p).ins (a.sqrt p)=true:=by
 have pos:∀{d:Dy},d.Ok->0<d.val->d.m≠[]/\d.neg=false:=fun{d} o h=>by
  have:=qpo (d:=d) (by omega);exact⟨this,(qqq o this).1 h⟩
 have both:∀{x:Iv},x.W->x.known=true->0<x.lo.sgn->0<x.lo.val/\0<x.hi.val:=fun{x} w k h=>by
  obtain⟨o1,o2⟩:=qai w k;have:=(qh5 o1).1.1 h;have:=qal w k;omega
 have mono1:∀u v:Int,u<=v->∀g,sqLe u g->sqLe v g:=by
  intro u v h g hg;have:=mulR h (Int.le_of_lt (qax 16384));rcases hg with hg|hg
  ·exact .inl hg
  ·exact .inr (by omega)
 have mono2:∀u v:Int,u<=v->∀g,sqGe v g->sqGe u g:=by
  intro u v h g hg;have:=mulR h (Int.le_of_lt (qax 16384));exact⟨hg.1,by have:=hg.2;omega⟩
 have hv:(x.sqrt p).valid=true:=by
  unfold Iv.sqrt;split
  ·rename_i h;simp only[Bool.and_eq_true,decide_eq_true_eq]at h;obtain⟨⟨k1,hp⟩,hs⟩:=h;obtain⟨o1,o2⟩:=qai wx k1;obtain⟨v1,v2⟩:=both wx k1 hs;obtain⟨n1,s1⟩:=pos o1 v1;obtain⟨n2,s2⟩:=pos o2 v2;have l1:=qal wx k1;unfold Iv.made;split
   ·rename_i h0;exact qjs rSqrt_ok rSqrt_ok ((qtx o1 hp n1 s1).le_up (qtw o2 hp n2 s2) (fun g g2 h h2=>qabe (v:=x.hi.val) g g2 (mono1 _ _ l1 g h) h2) h0.1 h0.2)
   ·rfl
  ·rfl
 rcases hx with rfl|⟨k1,k3,l1,l2⟩
 ·have:Iv.whole.sqrt p=Iv.whole:=by
   have:Iv.whole.known=false:=rfl;simp[Iv.sqrt,this]
  rw[this];exact qbh hv
 ·cases hp:precB p
  ·have:a.sqrt p=Iv.whole:=by simp[Iv.sqrt,hp]
   rw[this];exact qbh hv
  ·by_cases hs:0<a.lo.sgn
   ·obtain⟨a1,a2⟩:=qai wx k1;obtain⟨c1,c2⟩:=qai wa k3;obtain⟨v3,v4⟩:=both wa k3 hs;have q1:=qal wx k1;have hsx:0<x.lo.sgn:=(qh5 a1).1.2 (by omega);obtain⟨n1,s1⟩:=pos a1 (by omega);obtain⟨n2,s2⟩:=pos a2 (by omega);obtain⟨n3,s3⟩:=pos c1 (by omega);obtain⟨n4,s4⟩:=pos c2 (by omega);unfold Iv.sqrt;rw[k1,k3,hp,if_pos (by simpa using hsx),if_pos (by simpa using hs)];refine q0d rSqrt_ok rSqrt_ok rSqrt_ok rSqrt_ok (fun h1 h2=>(qtx a1 hp n1 s1).le_up (qtw a2 hp n2 s2) (fun g g2 h h2=>qabe (v:=x.hi.val) g g2 (mono1 _ _ q1 g h) h2) h1 h2) ?_ ?_
    ·exact(qtx c1 hp n3 s3).mono (qtx a1 hp n1 s1) (mono1 _ _ l1)
    ·exact(qtw a2 hp n2 s2).mono (qtw c2 hp n4 s4) (mono2 _ _ l2)
   ·have:a.sqrt p=Iv.whole:=by simp[Iv.sqrt,hs]
    rw[this];exact qbh hv
theorem IsDn.nonneg {p:Nat}{r:Dy × Int}{le:Int->Prop}(h:IsDn p r le)(h0:le 0):r.2=0/\0<=r.1.val:=by
 rcases h with ⟨a,b,c⟩|⟨_,c⟩
 ·exact⟨a,(c 0 qfb).2 h0⟩
 ·exact absurd h0 (c 0 qfb)
theorem IsUp.at {p:Nat}{r:Dy × Int}{ge:Int->Prop}(h:IsUp p r ge)(h0:r.2=0):ge r.1.val:=by
 rcases h with ⟨_,b,c⟩|⟨a,_⟩
 ·exact(c _ b).1 (Int.le_refl _)
 ·exact absurd h0 a
theorem qaat {v g:Int}(hv:0<=v)(h:v<=g*pw 16384):0<=g:=by
 have:=qav (x:=0) (y:=g) (qax 16384);rw[Int.zero_mul]at this;exact this.1 (by omega)
theorem qlh {d:Dy}{p:Int}{up:Bool}{k:Nat}:powR d p up (k+1)=if(powR d p up k).2=0 then rMul (powR d p up k).1 d p up else powR d p up k:=rfl
section
variable {d e : Dy} {p : Int}
theorem qz6 (od:d.Ok)(oe:e.Ok)(hp:precB p=true)(h0:0<=d.val)(hle:d.val<=e.val) :
 ∀k,(powR d p false k).2=0/\(powR e p false k).2=0/\0<=(powR d p false k).1.val/\(powR d p false k).1.val<=(powR e p false k).1.val
 |0=>by
  have h1:=(qc6 od hp).nonneg h0;have h2:=(qc6 od hp).mono (qc6 oe hp) (fun g h=>by omega) h1.1;exact⟨h1.1,h2.1,h1.2,h2.2⟩
 |k+1=>by
  obtain⟨a,b,c,f⟩:=qz6 od oe hp h0 hle k;rw[qlh,qlh,if_pos a,if_pos b];have m1:=qj7 (ql1 (d:=d) (p:=p) (up:=false) k) od hp;have m2:=qj7 (ql1 (d:=e) (p:=p) (up:=false) k) oe hp;have pr:=qe9 c f h0 hle;have pp:=Int.mul_nonneg c h0;have h1:=m1.nonneg (by simpa using pp);have h2:=m1.mono m2 (fun g h=>by omega) h1.1;exact⟨h1.1,h2.1,h1.2,h2.2⟩
theorem q49 (od:d.Ok)(oe:e.Ok)(hp:precB p=true)(h0:0<=d.val)(hle:d.val<=e.val) :
 ∀k,(powR e p true k).2=0->(powR d p true k).2=0/\0<=(powR d p true k).1.val/\(powR d p true k).1.val<=(powR e p true k).1.val
 |0=>by
  intro hz;have h2:=(qdm od hp).mono (qdm oe hp) (fun g h=>by omega) hz;have h3:=(qdm od hp).at h2.1;exact⟨h2.1,by show 0<=(qbz d p true).1.val;omega,h2.2⟩
 |k+1=>by
  rw[qlh,qlh];intro hz;by_cases he:(powR e p true k).2=0
  ·obtain⟨a,c,f⟩:=q49 od oe hp h0 hle k he;rw[if_pos he]at hz ⊢;rw[if_pos a];have m1:=qj6 (ql1 (d:=d) (p:=p) (up:=true) k) od hp;have m2:=qj6 (ql1 (d:=e) (p:=p) (up:=true) k) oe hp;have pr:=qe9 c f h0 hle;have pp:=Int.mul_nonneg c h0;have h2:=m1.mono m2 (fun g h=>by omega) hz;have h3:=m1.at h2.1;exact⟨h2.1,qaat pp h3,h2.2⟩
  ·rw[if_neg he]at hz;exact absurd hz he
theorem q5a (od:d.Ok)(hp:precB p=true)(h0:0<=d.val):∀k,(powR d p true k).2=0->(powR d p false k).1.val<=(powR d p true k).1.val
 |0=>by
  intro hz;have h1:=(qc6 od hp).nonneg h0;exact(qc6 od hp).le_up (qdm od hp) (fun g g2 h h2=>by omega) h1.1 hz
 |k+1=>by
  rw[qlh,qlh];intro hz;by_cases he:(powR d p true k).2=0
  ·have ih:=q5a od hp h0 k he;obtain⟨a,_,c,_⟩:=qz6 od od hp h0 (Int.le_refl _) k;rw[if_pos he]at hz ⊢;rw[if_pos a];have m1:=qj7 (ql1 (d:=d) (p:=p) (up:=false) k) od hp;have m2:=qj6 (ql1 (d:=d) (p:=p) (up:=true) k) od hp;have pr:=qe9 c ih h0 (Int.le_refl _);have pp:=Int.mul_nonneg c h0;have h1:=m1.nonneg (by simpa using pp);exact m1.le_up m2 (fun g g2 h h2=>(qav (qax 16384)).1 (by omega)) h1.1 hz
  ·rw[if_neg he]at hz;exact absurd hz he
theorem qt4 {n:Int}{up:Bool}(od:d.Ok)(h:d.val<0):endE d n p up=((powE d.neg' n p (!up)).1.neg',(powE d.neg' n p (!up)).2):=by
 unfold endE;rw[if_pos ((qh5 od).2.2 h)]
theorem qre {n:Int}{up:Bool}(od:d.Ok)(h:0<=d.val):endE d n p up=powE d n p up:=by
 unfold endE;rw[if_neg (fun h2=>by have:=(qh5 od).2.1 h2;omega)]
theorem qakz {n:Int}(od:d.Ok)(oe:e.Ok)(hp:precB p=true)(hle:d.val<=e.val)(hz:(endE d n p false).2=0):(endE e n p false).2=0/\(endE d n p false).1.val<=(endE e n p false).1.val:=by
 have nd:=qh9 od;have ne:=qh9 oe;rcases Int.lt_or_le d.val 0 with h|h
 ·rw[qt4 od h]at hz ⊢;rcases Int.lt_or_le e.val 0 with h2|h2
  ·rw[qt4 oe h2];have:=q49 ne nd hp (by rw[qgd];omega) (by rw[qgd,qgd];omega) (n.toNat-1) hz;refine⟨this.1,?_⟩;simp only[qgd];have h3:=this.2.2;unfold powE;simp only[Bool.not_false];omega
  ·rw[qre oe h2];have:=qz6 oe oe hp h2 (Int.le_refl _) (n.toNat-1);have h3:=q49 nd nd hp (by rw[qgd];omega) (Int.le_refl _) (n.toNat-1) hz;refine⟨this.1,?_⟩;simp only[qgd];unfold powE;simp only[Bool.not_false];omega
 ·rw[qre od h,qre oe (by omega)];have:=qz6 od oe hp h hle (n.toNat-1);exact⟨this.2.1,this.2.2.2⟩
theorem qaky {n:Int}(od:d.Ok)(hp:precB p=true)(hz:(endE d n p false).2=0)(hz2:(endE d n p true).2=0):(endE d n p false).1.val<=(endE d n p true).1.val:=by
 have nd:=qh9 od;rcases Int.lt_or_le d.val 0 with h|h
 ·rw[qt4 od h]at hz hz2 ⊢;rw[qt4 od h];have:=q5a nd hp (by rw[qgd];omega) (n.toNat-1) hz;simp only[qgd];unfold powE;simp only[Bool.not_false,Bool.not_true];omega
 ·rw[qre od h]at hz hz2 ⊢;rw[qre od h];exact q5a od hp h (n.toNat-1) hz2
end
theorem qab6 {x:Iv}{n p:Int}(wx:x.W):(x.pow n p).valid=true:=by
 have o1:=nD_ok (k:=1) (by omega);have hp1:(Iv.pt (nD 1)).valid=true:=qjs o1 o1 (Int.le_refl _);have self:∀l h:Dy,l.Ok->h.Ok->l.val<=h.val->precB p=true->(Iv.made (endE l n p false) (endE h n p true)).valid=true:=by
  intro l h ol oh hle hp;unfold Iv.made;split
  ·rename_i hz;have a:=qakz ol oh hp hle hz.1;have b:=qaky oh hp a.1 hz.2;exact qjs endE_ok endE_ok (by omega)
  ·rfl
 unfold Iv.pow;split
 ·rename_i h;simp only[Bool.and_eq_true]at h;obtain⟨⟨⟨k,hp⟩,_⟩,_⟩:=h;obtain⟨o1,o2⟩:=qai wx k;obtain⟨_,o3,o4,_,r⟩:=qri wx k;split
  ·exact hp1
  ·split
   ·exact self _ _ o3 o4 r hp
   ·exact self _ _ o1 o2 (qal wx k) hp
 ·rfl
end Go.Abs.W
