/- Parts of the proof: FpKn, FpXe, FpKe, FpKf, FpXf. -/
import Derived.Test.YtnkijamajifgpaaGreatDoorXb
import Derived.Test.YtnkijamajifgpaaGreatDoorHz
import Derived.Test.YtnkijamajifgpaaGreatDoorFe
namespace Go.Abs.W
structure Iv.Bt (x:Iv)(A B:Int):Prop where
 k:x.known=true
 lo:A<=x.lo.val
 hi:x.hi.val<=B
theorem Iv.Bt.mono {x:Iv}{A B C D:Int}(h:x.Bt A B)(h1:C<=A)(h2:B<=D):x.Bt C D:=⟨h.k,Int.le_trans h1 h.lo,Int.le_trans h.hi h2⟩
theorem qpi {p:Nat}{g:Int}(h:GridI p g):GridI p (-g):=by unfold GridI at *;rwa[Int.natAbs_neg]
theorem qzb (a:Nat):(pw a).natAbs=2^a:=rfl
theorem qpj {p a b:Nat}{k:Int}(hk:k.natAbs<=2^p)(hb:k.natAbs<2^b)(hab:a+b<=capE):GridI p (k*pw a):=by
 unfold GridI;rw[qaen];refine⟨⟨k.natAbs,a,rfl,hk⟩,?_⟩;unfold capN;have h1:k.natAbs*2^a<2^b*2^a:=Nat.mul_lt_mul_of_pos_right hb (Nat.two_pow_pos a);rw[<-Nat.pow_add]at h1;exact Nat.lt_of_lt_of_le h1 (Nat.pow_le_pow_right (by omega) (by omega))
theorem qc1 {p a:Nat}(ha:a<=32767):GridI p (pw a):=by
 have:=qpj (p:=p) (a:=a) (b:=1) (k:=1) (Nat.one_le_two_pow) (by decide) (by unfold capE;omega);rwa[Int.one_mul]at this
theorem pw_le {a b:Nat}(h:a<=b):pw a<=pw b:=by
 unfold pw;exact Int.ofNat_le.2 (Nat.pow_le_pow_right (by omega) h)
theorem qcj (a:Nat):pw (a+1)=2*pw a:=by rw[qbh,Int.mul_comm];rfl
section
variable {p : Nat} {r s : Dy × Int} {le ge : Int → Prop} {A B v : Int}
theorem IsDn.atl (h:IsDn p r le)(g:GridI p A)(hA:le A):r.2=0/\A<=r.1.val:=by
 rcases h with ⟨a,_,c⟩|⟨_,c⟩
 ·exact⟨a,(c A g).2 hA⟩
 ·exact absurd hA (c A g)
theorem IsUp.atu (h:IsUp p r ge)(g:GridI p A)(hA:ge A):r.2=0/\r.1.val<=A:=by
 rcases h with ⟨a,_,c⟩|⟨_,c⟩
 ·exact⟨a,(c A g).2 hA⟩
 ·exact absurd hA (c A g)
theorem IsDn.grid (h:IsDn p r le)(h0:r.2=0):GridI p r.1.val:=by
 rcases h with ⟨_,b,_⟩|⟨a,_⟩
 ·exact b
 ·exact absurd h0 a
theorem IsUp.grid (h:IsUp p r ge)(h0:r.2=0):GridI p r.1.val:=by
 rcases h with ⟨_,b,_⟩|⟨a,_⟩
 ·exact b
 ·exact absurd h0 a
theorem q0y (or:r.1.Ok)(os:s.1.Ok)(d:IsDn p r le)(u:IsUp p s ge)(lg:∀g g2,le g->ge g2->g<=g2)(gA:GridI p A)(gB:GridI p B)(hA:le A)(hB:ge B) :
 (Iv.made r s).Bt A B/\GridI p (Iv.made r s).lo.val/\GridI p (Iv.made r s).hi.val:=by
 obtain⟨d1,d2⟩:=d.atl gA hA;obtain⟨u1,u2⟩:=u.atu gB hB;have e:Iv.made r s=⟨r.1,s.1,false⟩:=by unfold Iv.made;rw[if_pos ⟨d1,u1⟩]
 rw[e];exact⟨⟨qbj or os (d.le_up u lg d1 u1),d2,u2⟩,d.grid d1,u.grid u1⟩
theorem IsDn.ok2 (h:IsDn p r le)(h0:r.2=0):GridI p r.1.val/\∀g,GridI p g->(g<=r.1.val↔le g):=by
 rcases h with ⟨_,b⟩|⟨a,_⟩
 ·exact b
 ·exact absurd h0 a
theorem IsUp.ok2 (h:IsUp p r ge)(h0:r.2=0):GridI p r.1.val/\∀g,GridI p g->(r.1.val<=g↔ge g):=by
 rcases h with ⟨_,b⟩|⟨a,_⟩
 ·exact b
 ·exact absurd h0 a
theorem IsDn.err {m:Nat}(h:IsDn p r (fun g=>g<=v))(hp:p<=m)(hm:m<=32767)(h1:-pw m<=v)(h2:v<=pw m):r.2=0/\v-pw (m-p)<=r.1.val:=by
 have hpos:=qaw (m-p);have⟨q,hq⟩:∃q,q=v/pw (m-p):=⟨_,rfl⟩
 have e1:q*pw (m-p)<=v:=by rw[hq];exact Int.ediv_mul_le v (by omega)
 have e2:v<(q+1)*pw (m-p):=by rw[hq];exact Int.lt_ediv_add_one_mul_self v hpos
 have em:pw m=pw p*pw (m-p):=by rw[<-qbh];congr 1;omega
 have q1:-pw p<=q:=by
  rw[em]at h1;have:(-pw p)*pw (m-p)<(q+1)*pw (m-p):=by rw[Int.neg_mul];omega
  have:=Int.lt_of_mul_lt_mul_right this (Int.le_of_lt hpos);omega
 have q2:q<=pw p:=by
  rw[em]at h2;exact(qbb hpos).1 (by omega)
 have hqn:q.natAbs<=2^p:=by
  have:pw p=((2^p:Nat):Int):=rfl;omega
 have g:GridI p (q*pw (m-p)):=qpj (b:=p+1) hqn (by rw[Nat.pow_succ];have:=Nat.two_pow_pos p;omega) (by unfold capE;omega);obtain⟨a,b⟩:=h.atl g e1;rw[Int.add_mul,Int.one_mul]at e2;exact⟨a,by omega⟩
theorem IsUp.err {m:Nat}(h:IsUp p r (fun g=>v<=g))(hp:p<=m)(hm:m<=32767)(h1:-pw m<=v)(h2:v<=pw m):r.2=0/\r.1.val<=v+pw (m-p):=by
 have hpos:=qaw (m-p);have⟨q,hq⟩:∃q,q=(-v)/pw (m-p):=⟨_,rfl⟩
 have e1:q*pw (m-p)<=-v:=by rw[hq];exact Int.ediv_mul_le _ (by omega)
 have e2:-v<(q+1)*pw (m-p):=by rw[hq];exact Int.lt_ediv_add_one_mul_self _ hpos
 have em:pw m=pw p*pw (m-p):=by rw[<-qbh];congr 1;omega
 have q1:-pw p<=q:=by
  rw[em]at h2;have:(-pw p)*pw (m-p)<(q+1)*pw (m-p):=by rw[Int.neg_mul];omega
  have:=Int.lt_of_mul_lt_mul_right this (Int.le_of_lt hpos);omega
 have q2:q<=pw p:=by
  rw[em]at h1;exact(qbb hpos).1 (by omega)
 have hqn:q.natAbs<=2^p:=by
  have:pw p=((2^p:Nat):Int):=rfl;omega
 have g:GridI p (-(q*pw (m-p))):=qpi (qpj (b:=p+1) hqn (by rw[Nat.pow_succ];have:=Nat.two_pow_pos p;omega) (by unfold capE;omega));obtain⟨a,b⟩:=h.atu g (by omega);rw[Int.add_mul,Int.one_mul]at e2;exact⟨a,by omega⟩
theorem qvq {g:Int}(h:GridI p g)(c:Nat):pw c∣g\/(0<c/\g.natAbs<=2^(p+(c-1))):=by
 obtain⟨⟨q,k,e,hq⟩,_⟩:=h;by_cases hk:c<=k
 ·left;have:2^c∣g.natAbs:=⟨q*2^(k-c),by rw[e,Nat.mul_left_comm,<-Nat.pow_add];congr 2;omega⟩
  exact Int.natAbs_dvd_natAbs.1 this
 ·right;refine⟨by omega,?_⟩;rw[e,Nat.pow_add];exact Nat.mul_le_mul hq (Nat.pow_le_pow_right (by omega) (by omega))
theorem IsDn.dvd {c:Nat}(h:IsDn p r (fun g=>g<=v))(h0:r.2=0)(hp:1<=p)(hc:c+p<=32766)(hd:pw c∣v):pw c∣r.1.val:=by
 have gr:=h.grid h0;rcases qvq gr c with h2|⟨h2,h3⟩
 ·exact h2
 obtain⟨_,e⟩:=h.ok2 h0;have hpos:=qaw c;have hle:=(e _ gr).1 (Int.le_refl _);generalize r.1.val=R at *
 obtain⟨m,rfl⟩:=hd;have⟨t,ht⟩:∃t,t=(-R)/pw c:=⟨_,rfl⟩
 have e1:t*pw c<=-R:=by rw[ht];exact Int.ediv_mul_le _ (by omega)
 have e2:-R<(t+1)*pw c:=by rw[ht];exact Int.lt_ediv_add_one_mul_self _ hpos
 have e3:-m<=t:=by
  have:(-m)*pw c<(t+1)*pw c:=by rw[Int.neg_mul,Int.mul_comm m];omega
  have:=Int.lt_of_mul_lt_mul_right this (Int.le_of_lt hpos);omega
 have e4:pw (p+(c-1))*2=pw p*pw c:=by
  rw[<-qbh,Int.mul_comm,<-qcj];congr 1;omega
 have e5:pw c<=pw (p+(c-1)):=pw_le (by omega);have hR:(R.natAbs:Int)<=pw (p+(c-1)):=by unfold pw;exact Int.ofNat_le.2 h3
 have t1:t<=pw p:=(qbb hpos).1 (by omega);have t2:-pw p<=t:=by
  have:(-pw p)*pw c<(t+1)*pw c:=by rw[Int.neg_mul];omega
  have:=Int.lt_of_mul_lt_mul_right this (Int.le_of_lt hpos);omega
 have htn:t.natAbs<=2^p:=by
  have:pw p=((2^p:Nat):Int):=rfl;omega
 have g:=qpi (qpj (p:=p) (a:=c) (b:=p+1) htn (by rw[Nat.pow_succ];have:=Nat.two_pow_pos p;omega) (by unfold capE;omega));have hm:-(t*pw c)<=pw c*m:=by
  rw[<-Int.neg_mul,Int.mul_comm (pw c)];exact(qbb hpos).2 (by omega)
 have:=(e _ g).2 hm;exact⟨-t,by rw[Int.mul_neg,Int.mul_comm];omega⟩
theorem IsUp.dvd {c:Nat}(h:IsUp p r (fun g=>v<=g))(h0:r.2=0)(hp:1<=p)(hc:c+p<=32766)(hd:pw c∣v):pw c∣r.1.val:=by
 have gr:=h.grid h0;rcases qvq gr c with h2|⟨h2,h3⟩
 ·exact h2
 obtain⟨_,e⟩:=h.ok2 h0;have hpos:=qaw c;have hle:=(e _ gr).1 (Int.le_refl _);generalize r.1.val=R at *
 obtain⟨m,rfl⟩:=hd;have⟨t,ht⟩:∃t,t=R/pw c:=⟨_,rfl⟩
 have e1:t*pw c<=R:=by rw[ht];exact Int.ediv_mul_le _ (by omega)
 have e2:R<(t+1)*pw c:=by rw[ht];exact Int.lt_ediv_add_one_mul_self _ hpos
 have e3:m<=t:=by
  have:m*pw c<(t+1)*pw c:=by rw[Int.mul_comm m];omega
  have:=Int.lt_of_mul_lt_mul_right this (Int.le_of_lt hpos);omega
 have e4:pw (p+(c-1))*2=pw p*pw c:=by
  rw[<-qbh,Int.mul_comm,<-qcj];congr 1;omega
 have e5:pw c<=pw (p+(c-1)):=pw_le (by omega);have hR:(R.natAbs:Int)<=pw (p+(c-1)):=by unfold pw;exact Int.ofNat_le.2 h3
 have t1:t<=pw p:=(qbb hpos).1 (by omega);have t2:-pw p<=t:=by
  have:(-pw p)*pw c<(t+1)*pw c:=by rw[Int.neg_mul];omega
  have:=Int.lt_of_mul_lt_mul_right this (Int.le_of_lt hpos);omega
 have htn:t.natAbs<=2^p:=by
  have:pw p=((2^p:Nat):Int):=rfl;omega
 have g:=qpj (p:=p) (a:=c) (b:=p+1) htn (by rw[Nat.pow_succ];have:=Nat.two_pow_pos p;omega) (by unfold capE;omega);have hm:pw c*m<=t*pw c:=by
  rw[Int.mul_comm (pw c)];exact(qbb hpos).2 (by omega)
 have:=(e _ g).2 hm;exact⟨t,by rw[Int.mul_comm];omega⟩
end
section
variable {p : Int} {x y : Iv} {A B C D E F : Int}
theorem qagw (wx:x.W)(wy:y.W)(hp:precB p=true)(hx:x.Bt A B)(hy:y.Bt C D)(gE:GridI p.toNat E)(gF:GridI p.toNat F)(hE:E<=A+C)(hF:B+D<=F) :
 (x.add y p).Bt E F:=by
 obtain⟨a1,a2⟩:=qai wx hx.k;obtain⟨b1,b2⟩:=qai wy hy.k;have q1:=qap wx hx.k;have q2:=qap wy hy.k;have:=hx.lo;have:=hx.hi;have:=hy.lo;have:=hy.hi;unfold Iv.add;rw[hx.k,hy.k,hp,if_pos (by rfl)];exact(q0y rAdd_ok rAdd_ok (qp6 a1 b1 hp) (qob a2 b2 hp) (fun g g2 h h2=>by omega) gE gF (by omega) (by omega)).1
theorem qagv {m:Nat}(wx:x.W)(wy:y.W)(hp:precB p=true)(kx:x.known=true)(ky:y.known=true)(hm:p.toNat<=m)(hm2:m<=32767)(h1:-pw m<=x.lo.val+y.lo.val)(h2:x.hi.val+y.hi.val<=pw m) :
 (x.add y p).Bt (x.lo.val+y.lo.val-pw (m-p.toNat)) (x.hi.val+y.hi.val+pw (m-p.toNat)):=by
 obtain⟨a1,a2⟩:=qai wx kx;obtain⟨b1,b2⟩:=qai wy ky;have q1:=qap wx kx;have q2:=qap wy ky;have d:=qp6 a1 b1 hp;have u:=qob a2 b2 hp;obtain⟨d1,d2⟩:=d.err hm hm2 h1 (by omega);obtain⟨u1,u2⟩:=u.err hm hm2 (by omega) h2;unfold Iv.add;rw[kx,ky,hp,if_pos (by rfl)];have e:Iv.made (rAdd x.lo y.lo p false) (rAdd x.hi y.hi p true)=⟨(rAdd x.lo y.lo p false).1,(rAdd x.hi y.hi p true).1,false⟩:=by unfold Iv.made;rw[if_pos ⟨d1,u1⟩]
 rw[e];exact⟨qbj rAdd_ok rAdd_ok (d.le_up u (fun g g2 h h2=>by omega) d1 u1),d2,u2⟩
theorem qap3 (wx:x.W)(hp:precB p=true)(hx:x.Bt A B)(gA:GridI p.toNat A)(gB:GridI p.toNat B):(x.rnd p).Bt A B/\GridI p.toNat (x.rnd p).lo.val/\GridI p.toNat (x.rnd p).hi.val:=by
 obtain⟨a1,a2⟩:=qai wx hx.k;have q1:=qap wx hx.k;have:=hx.lo;have:=hx.hi;unfold Iv.rnd;rw[hx.k,hp,if_pos (by rfl)];exact q0y rRound_ok rRound_ok (qu9 a1 hp) (qu8 a2 hp) (fun g g2 h h2=>by omega) gA gB (by omega) (by omega)
theorem qafd {P:Nat}{f g:Dy->Dy->Dy × Int}{le ge:Dy->Dy->Int->Prop}(okf:∀a b,(f a b).1.Ok)(okg:∀a b,(g a b).1.Ok)
 (d1:∀i,i<4->IsDn P (f (qag x y i).1 (qag x y i).2) (le (qag x y i).1 (qag x y i).2)) (u1:∀i,i<4->IsUp P (g (qag x y i).1 (qag x y i).2) (ge (qag x y i).1 (qag x y i).2))
 (lg:∀h h2,le (qag x y 0).1 (qag x y 0).2 h->ge (qag x y 0).1 (qag x y 0).2 h2->h<=h2) (gA:GridI P A) (gB:GridI P B)
 (cd:∀i,i<4->le (qag x y i).1 (qag x y i).2 A) (cu:∀i,i<4->ge (qag x y i).1 (qag x y i).2 B):(Iv.four f g x y).Bt A B:=by
 have hs:good4 f g x y 4:=fun i hi=>⟨((d1 i hi).atl gA (cd i hi)).1,((u1 i hi).atu gB (cu i hi)).1⟩
 obtain⟨v1,k1⟩:=ql4 (d1 0 (by omega)) (u1 0 (by omega)) lg okf okg;have l1:=q00 okf (x:=x) (y:=y) (fun i hi=>((d1 i hi).atl gA (cd i hi)).2);have l2:=q2m okg (x:=x) (y:=y) (fun i hi=>((u1 i hi).atu gB (cu i hi)).2);rw[qd8 hs];exact⟨qbj (qcq okf 4) (qcr okg 4) (k1 hs),l1,l2⟩
theorem qaeq {a b u v:Int}(h1:-a<=u)(h2:u<=a)(h3:-b<=v)(h4:v<=b):-(a*b)<=u*v/\u*v<=a*b:=by
 have ha:0<=a:=by omega
 have hb:0<=b:=by omega
 have e:(u*v).natAbs<=(a*b).natAbs:=by
  rw[Int.natAbs_mul,Int.natAbs_mul];exact Nat.mul_le_mul (by omega) (by omega)
 have:=Int.mul_nonneg ha hb;omega
theorem qzc {a b c:Int}(wx:x.W)(wy:y.W)(hp:precB p=true)(hx:x.Bt (-a) a)(hy:y.Bt (-b) b)(g:GridI p.toNat c)(hc:a*b<=c*pw 16384):(x.mul y p).Bt (-c) c:=by
 have ox:=qai wx hx.k;have oy:=qai wy hy.k;have q1:=qap wx hx.k;have q2:=qap wy hy.k;have h1:=hx.lo;have h2:=hx.hi;have h3:=hy.lo;have h4:=hy.hi;have bd:∀i,i<4->-(a*b)<=(qag x y i).1.val*(qag x y i).2.val/\(qag x y i).1.val*(qag x y i).2.val<=a*b:=by
  intro i hi;obtain⟨g1,g2,g3,g4⟩:=qcx hi q1 q2;exact qaeq (by omega) (by omega) (by omega) (by omega)
 unfold Iv.mul;rw[hx.k,hy.k,hp,if_pos (by rfl)];refine qafd (P:=p.toNat) (le:=fun u v g=>g*pw 16384<=u.val*v.val) (ge:=fun u v g=>u.val*v.val<=g*pw 16384) (fun _ _=>rMul_ok) (fun _ _=>rMul_ok) ?_ ?_
  (fun h h2 g1 g2=>(qbb (qaw 16384)).1 (by omega)) (qpi g) g ?_ ?_
 ·intro i hi;have o:=qbd hi ox oy;exact qml o.1 o.2 hp
 ·intro i hi;have o:=qbd hi ox oy;exact qmk o.1 o.2 hp
 ·intro i hi;have:=bd i hi;rw[Int.neg_mul];omega
 ·intro i hi;have:=bd i hi;omega
theorem qafs {a c m u v:Int}(hu1:-a<=u)(hu2:u<=a)(hm:0<m)(hv:m<=v)(hc:0<=c)(h:a*pw 16384<=c*m):divLe u v (-c)/\divGe u v c:=by
 have hpos:=qaw 16384;have h1:c*m<=c*v:=Int.mul_le_mul_of_nonneg_left hv hc;have h2:u*pw 16384<=a*pw 16384:=(qbb hpos).2 hu2;have h3:(-a)*pw 16384<=u*pw 16384:=(qbb hpos).2 hu1;rw[Int.neg_mul]at h3;rw[qfy (by omega),qha (by omega),Int.neg_mul];constructor<;>omega
theorem qwx {a c m M:Int}(wx:x.W)(wy:y.W)(hp:precB p=true)(hx:x.Bt (-a) a)(hy:y.Bt m M)(hm:0<m)(g:GridI p.toNat c)(h0:0<=c)(hc:a*pw 16384<=c*m):(x.div y p).Bt (-c) c:=by
 have ox:=qai wx hx.k;have oy:=qai wy hy.k;have q1:=qap wx hx.k;have q2:=qap wy hy.k;have h1:=hx.lo;have h2:=hx.hi;have h3:=hy.lo;have sg:y.sgn≠0:=(qiq wy hy.k).2 (.inl (by omega));have pos:∀i,i<4->m<=(qag x y i).2.val:=by
  intro i hi;obtain⟨g1,g2,g3,g4⟩:=qcx hi q1 q2;omega
 have bd:∀i,i<4->divLe (qag x y i).1.val (qag x y i).2.val (-c)/\divGe (qag x y i).1.val (qag x y i).2.val c:=by
  intro i hi;obtain⟨g1,g2,g3,g4⟩:=qcx hi q1 q2;exact qafs (a:=a) (m:=m) (by omega) (by omega) hm (pos i hi) h0 hc
 unfold Iv.div;rw[hx.k,hy.k,hp,decide_eq_true sg,if_pos (by rfl)];have ne:∀i,i<4->(qag x y i).2.m≠[]:=fun i hi=>qpx (by have:=pos i hi;omega)
 refine qafd (P:=p.toNat) (le:=fun u v g=>divLe u.val v.val g) (ge:=fun u v g=>divGe u.val v.val g) (fun _ _=>qep) (fun _ _=>qep) ?_ ?_
  (q9z (by have:=pos 0 (by omega);omega)) (qpi g) g (fun i hi=>(bd i hi).1) (fun i hi=>(bd i hi).2)
 ·intro i hi;have o:=qbd hi ox oy;exact qp5 o.1 o.2 hp (ne i hi)
 ·intro i hi;have o:=qbd hi ox oy;exact qp4 o.1 o.2 hp (ne i hi)
theorem sq_up {a c:Int}(wx:x.W)(hp:precB p=true)(hx:x.Bt (-a) a)(g:GridI p.toNat c)(hc:a*a<=c*pw 16384):(x.sq p).Bt (-c) c:=by
 obtain⟨k,o1,o2,n1,n2⟩:=qxd wx hx.k;obtain⟨v1,v2⟩:=qrs wx hx.k;have h1:=hx.lo;have h2:=hx.hi;have le0:=qap wx hx.k;rw[qac7 wx];have ha:x.abs.Bt (-a) a:=⟨k,by omega,by omega⟩
 exact qzc (abs_W wx) (abs_W wx) hp ha ha g hc
theorem nI_Bt {k:Int}(hk:k.natAbs<=1048576):(nI k k).Bt (k*pw 16384) (k*pw 16384):=by
 refine⟨qai0 hk,?_,?_⟩
 ·show _<=(nD k).val;rw[qq3];exact Int.le_refl _
 ·show(nD k).val<=_;rw[qq3];exact Int.le_refl _
theorem nI_Wk {k:Int}(hk:k.natAbs<=1048576):(nI k k).W:=nI_W (by omega) (by omega)
theorem q3u (wx:x.W)(hx:x.Bt A B):x.neg.Bt (-B) (-A):=by
 obtain⟨a1,a2⟩:=qai wx hx.k;have q1:=qap wx hx.k;have h1:=hx.lo;have h2:=hx.hi;unfold Iv.neg;rw[if_pos hx.k];refine⟨qbj (qa9 a2) (qa9 a1) ?_,?_,?_⟩<;>simp only[qco]<;>omega
theorem q6k (wx:x.W)(hk:x.known=true):x.mag.val=max (x.lo.val.natAbs:Int) x.hi.val.natAbs:=by
 have:=(qrs wx hk).1;have e:x.abs.hi=x.mag:=by unfold Iv.abs;rw[if_pos hk]
 rwa[e]at this
theorem q8g {d:Dy}{k V:Int}{a b:Nat}(ok:d.Ok)(hk:k=(a:Int)-b)(ha:a<=32768)(hb:b<=32768)(hV:V*pw b=d.val*pw a)(hc:V.natAbs<capN):d.sclE k=0/\(d.scl k).val=V:=by
 have h0:d.sclE k=0:=by
  unfold Dy.sclE;rw[if_pos ⟨ok.valid,by omega,by omega⟩];unfold Dy.chkE;rw[if_pos];by_cases hm:d.m=[]
  ·rw[hm];rfl
  ·have hn:=qeq ok.tr hm;have ho:=ok.odd hm;have he:=ok.elo;have hh:=ok.ehi;have e:V.natAbs*2^b=natV d.m*2^((d.e+16384).toNat+a):=by
    have:=congrArg Int.natAbs hV;rw[Int.natAbs_mul,Int.natAbs_mul,qzb,qzb]at this;have va:d.val.natAbs=natV d.m*2^(d.e+16384).toNat:=by
     unfold Dy.val;split
     ·rw[Int.natAbs_neg];rfl
     ·rfl
    rw[this,va,Nat.mul_assoc,<-Nat.pow_add]
   have hge:b<=(d.e+16384).toNat+a:=by
    rcases Nat.lt_or_ge ((d.e+16384).toNat+a) b with h|h
    ·exfalso;have⟨j,hj⟩:∃j,b=(d.e+16384).toNat+a+(j+1):=⟨b-((d.e+16384).toNat+a)-1,by omega⟩
     rw[hj,Nat.pow_add _ _ (j+1),<-Nat.mul_assoc,Nat.mul_right_comm]at e;have:=Nat.eq_of_mul_eq_mul_right (Nat.two_pow_pos _) e;rw[Nat.pow_succ,<-Nat.mul_assoc]at this;omega
    ·exact h
   have⟨j,hj⟩:∃j,(d.e+16384).toNat+a=j+b:=⟨(d.e+16384).toNat+a-b,by omega⟩
   rw[hj,Nat.pow_add,<-Nat.mul_assoc]at e;have e2:=Nat.eq_of_mul_eq_mul_right (Nat.two_pow_pos _) e;have hb2:bitL (natV d.m)+j<=32768:=by
    rcases Nat.lt_or_ge 32768 (bitL (natV d.m)+j)with h|h
    ·exfalso;rw[<-qmb hn,<-e2]at h;have:=bitL_gt.1 h;unfold capN capE at hc;omega
    ·exact h
   exact Dy.of_inR ok.bits (by omega) (by omega)
 refine⟨h0,?_⟩;have:=q56 ok hk h0;rw[<-hV]at this;exact Int.eq_of_mul_eq_mul_right (by have:=qaw b;omega) this
theorem qap1 {k U V:Int}{a b:Nat}(wx:x.W)(kx:x.known=true)(hk:k=(a:Int)-b)(ha:a<=32768)(hb:b<=32768)(hU:U*pw b=x.lo.val*pw a)(hV:V*pw b=x.hi.val*pw a)(cU:U.natAbs<capN)(cV:V.natAbs<capN) :
 (x.scl k).known=true/\(x.scl k).lo.val=U/\(x.scl k).hi.val=V:=by
 obtain⟨a1,a2⟩:=qai wx kx;have q1:=qap wx kx;obtain⟨s1,s2⟩:=q8g a1 hk ha hb hU cU;obtain⟨s3,s4⟩:=q8g a2 hk ha hb hV cV;unfold Iv.scl;rw[if_pos kx];have e:Iv.made (x.lo.scl k,x.lo.sclE k) (x.hi.scl k,x.hi.sclE k)=⟨x.lo.scl k,x.hi.scl k,false⟩:=by unfold Iv.made;rw[if_pos ⟨s1,s3⟩]
 rw[e];refine⟨qbj qakx qakx ?_,s2,s4⟩;rw[s2,s4];refine(qbb (qaw b)).1 ?_;rw[hU,hV];exact(qbb (qaw a)).2 q1
end
end Go.Abs.W
namespace Go.Abs.W
def wk (P:Int):V:=.agg [.int .i64 P]
theorem qdt (d:Dy):d.val.natAbs=d.absN:=by
 unfold Dy.val;split
 ·rw[Int.natAbs_neg];rfl
 ·rfl
theorem pw_lt_iff {a b:Nat}:pw a<pw b↔a<b:=by
 constructor
 ·intro h;rcases Nat.lt_or_ge a b with h1|h1
  ·exact h1
  ·have:=pw_le h1;omega
 ·intro h;have:=pw_le (show a+1<=b from h);rw[qcj]at this;have:=qaw a;omega
def Tb (n:Nat):Int:=if n=0 then pw 16384 else pw (16385-2*n)
theorem qaot : Tb 0=pw 16384:=rfl
theorem qag5 (n:Nat):Tb (n+1)=pw (16385-2*(n+1)):=by unfold Tb;rw[if_neg (by omega)]
structure ExpInv (P n:Nat)(t s:Iv):Prop where
 wt:t.W
 ws:s.W
 t:t.Bt (-(Tb n)) (Tb n)
 k:s.known=true
 lo:pw 16384+pw (16385-2*n)-3*((n:Int)*pw (16385-P))<=3*s.lo.val
 hi:3*s.hi.val<=5*pw 16384-pw (16385-2*n)+3*((n:Int)*pw (16385-P))
section
variable {P n : Nat} {y t s : Iv}
theorem precP (h1:32<=P)(h2:P<=512):precB (P:Int)=true:=precB_iff.2 (by omega)
theorem q73 : (P:Int).toNat=P:=rfl
theorem qajl (h1:32<=P)(h2:P<=512)(hn:n<=300)(wy:y.W)(hy:y.Bt (-pw 16383) (pw 16383))(wt:t.W)(ht:t.Bt (-(Tb n)) (Tb n)) :
 ((t.mul y P).div (nI ((n+1:Nat):Int) ((n+1:Nat):Int)) P).Bt (-(Tb (n+1))) (Tb (n+1)):=by
 have hp:=precP h1 h2;have hnI:=nI_Bt (k:=((n+1:Nat):Int)) (by omega);have wn:(nI ((n+1:Nat):Int) ((n+1:Nat):Int)).W:=nI_W (by omega) (by omega);have p0:=qaw 16384;rw[qag5];by_cases h0:n=0
 ·subst h0;have m:=qzc (c:=pw 16383) wt wy hp ht hy (qc1 (by omega)) (by rw[qaot,Int.mul_comm];exact Int.le_refl _);exact qwx (m:=((0+1:Nat):Int)*pw 16384) mul_W wn hp m hnI (by omega) (qc1 (by omega)) (Int.le_of_lt (qaw _)) (by simp)
 ·have e:Tb n=pw (16385-2*n):=by unfold Tb;rw[if_neg h0]
  have m:=qzc (c:=pw (16384-2*n)) wt wy hp ht hy (qc1 (by omega)) (by
   rw[e,<-qbh,<-qbh];exact pw_le (by omega))
  refine qwx (m:=((n+1:Nat):Int)*pw 16384) mul_W wn hp m hnI (Int.mul_pos (by omega) p0) (qc1 (by omega)) (Int.le_of_lt (qaw _)) ?_;have e2:pw (16384-2*n)=2*pw (16385-2*(n+1)):=by rw[<-qcj];congr 1;omega
  rw[e2,<-Int.mul_assoc];refine(qbb p0).2 ?_;rw[Int.mul_comm];exact Int.mul_le_mul_of_nonneg_left (by omega) (Int.le_of_lt (qaw _))
theorem ExpInv.step (h1:32<=P)(h2:P<=512)(hn:n<=300)(wy:y.W)(hy:y.Bt (-pw 16383) (pw 16383))(h:ExpInv P n t s) :
 ExpInv P (n+1) ((t.mul y P).div (nI ((n+1:Nat):Int) ((n+1:Nat):Int)) P) (s.add ((t.mul y P).div (nI ((n+1:Nat):Int) ((n+1:Nat):Int)) P) P):=by
 have hp:=precP h1 h2;have ht:=qajl h1 h2 hn wy hy h.wt h.t;have wt':((t.mul y P).div (nI ((n+1:Nat):Int) ((n+1:Nat):Int)) P).W:=div_W;generalize (t.mul y P).div (nI ((n+1:Nat):Int) ((n+1:Nat):Int)) P=t' at ht wt' ⊢;have eX:pw (16385-2*n)=4*pw (16385-2*(n+1)):=by
  rw[show 16385-2*n=(16385-2*(n+1))+1+1 by omega,qcj,qcj];omega
 have eE:pw 16384=pw (16385-P)*pw (P-1):=by rw[<-qbh];congr 1;omega
 have eP:pw 31<=pw (P-1):=pw_le (by omega);have e31:pw 31=2147483648:=rfl;have pe:=qaw (16385-P);have eA:2147483648*pw (16385-P)<=pw 16384:=by
  rw[eE,Int.mul_comm];exact Int.mul_le_mul_of_nonneg_left (by omega) (Int.le_of_lt pe)
 have px:=qaw (16385-2*(n+1));have eN:(n:Int)*pw (16385-P)<=300*pw (16385-P):=Int.mul_le_mul_of_nonneg_right (by omega) (Int.le_of_lt pe);have eN0:0<=(n:Int)*pw (16385-P):=Int.mul_nonneg (by omega) (Int.le_of_lt pe);have eN1:((n+1:Nat):Int)*pw (16385-P)=(n:Int)*pw (16385-P)+pw (16385-P):=by
  rw[show((n+1:Nat):Int)=(n:Int)+1 by omega,Int.add_mul,Int.one_mul]
 have e5:pw 16385=2*pw 16384:=qcj 16384;have l1:=h.lo;have l2:=h.hi;have t1:=ht.lo;have t2:=ht.hi;have tl:=qap wt' ht.k;have sl:=qap h.ws h.k;rw[qag5]at t1 t2;rw[eX]at l1 l2;have b:=qagv (m:=16385) (p:=(P:Int)) h.ws wt' hp h.k ht.k (by rw[q73];omega) (by omega) (by omega) (by omega);rw[q73]at b;have b1:=b.lo;have b2:=b.hi;refine⟨wt',add_W,ht,b.k,?_,?_⟩
 ·rw[eN1];omega
 ·rw[eN1];omega
end
end Go.Abs.W
namespace Go.Abs.W
theorem qpd {d:Dy}(ok:d.Ok):(Iv.pt d).known=true:=qbj ok ok (Int.le_refl _)
end Go.Abs.W
