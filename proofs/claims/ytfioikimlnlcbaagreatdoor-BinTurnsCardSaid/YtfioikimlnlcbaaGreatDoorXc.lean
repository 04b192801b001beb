/- Parts of the proof: FpKn, FpXe, FpKe, FpKf, FpXf. -/
import Derived.Test.YtfioikimlnlcbaaGreatDoorXb
import Derived.Test.YtfioikimlnlcbaaGreatDoorHz
import Derived.Test.YtfioikimlnlcbaaGreatDoorFe
namespace Go.Abs.W
structure Iv.Bt (x:Iv)(A B:Int):Prop where
 k:x.known=true
 lo:A<=x.lo.val
 hi:x.hi.val<=B
theorem Iv.Bt.mono {x:Iv}{A B C D:Int}(h:x.Bt A B)(h1:C<=A)(h2:B<=D):x.Bt C D:=⟨h.k,Int.le_trans h1 h.lo,Int.le_trans h.hi h2⟩
theorem qwb {p:Nat}{g:Int}(h:GridI p g):GridI p (-g):=by unfold GridI at *;rwa[Int.natAbs_neg]
theorem qwc {p a b:Nat}{k:Int}(hk:k.natAbs<=2^p)(hb:k.natAbs<2^b)(hab:a+b<=capE):GridI p (k*pw a):=by
 unfold GridI;rw[q8w];refine⟨⟨k.natAbs,a,rfl,hk⟩,?_⟩;unfold capN;have h1:k.natAbs*2^a<2^b*2^a:=Nat.mul_lt_mul_of_pos_right hb (Nat.two_pow_pos a);rw[<-Nat.pow_add]at h1;exact Nat.lt_of_lt_of_le h1 (Nat.pow_le_pow_right (by omega) (by omega))
theorem qpk {p a:Nat}(ha:a<=32767):GridI p (pw a):=by
 have:=qwc (p:=p) (a:=a) (b:=1) (k:=1) (Nat.one_le_two_pow) (by decide) (by unfold capE;omega);rwa[Int.one_mul]at this
theorem pw_le {a b:Nat}(h:a<=b):pw a<=pw b:=by
 unfold pw;exact Int.ofNat_le.2 (Nat.pow_le_pow_right (by omega) h)
theorem qm3 (a:Nat):pw (a+1)=2*pw a:=by rw[qe9,Int.mul_comm];rfl
section
variable {p : Nat} {r s : Dy × Int} {le ge : Int → Prop} {A B v : Int}
theorem IsDn.atl (h:IsDn p r le)(g:GridI p A)(hA:le A):r.2=0/\A<=r.1.val:=by
 rcases h with ⟨a,_,c⟩|⟨_,c⟩
 ·exact⟨a,(c A g).2 hA⟩
 ·exact absurd hA (c A g)
theorem IsUp.atu (h:IsUp p r ge)(g:GridI p A)(hA:ge A):r.2=0/\r.1.val<=A:=by
 rcases h with ⟨a,_,c⟩|⟨_,c⟩
 ·exact⟨a,(c A g).2 hA⟩
 ·exact absurd hA (c A g)
theorem IsDn.grid (h:IsDn p r le)(h0:r.2=0):GridI p r.1.val:=by
 rcases h with ⟨_,b,_⟩|⟨a,_⟩
 ·exact b
 ·exact absurd h0 a
theorem IsUp.grid (h:IsUp p r ge)(h0:r.2=0):GridI p r.1.val:=by
 rcases h with ⟨_,b,_⟩|⟨a,_⟩
 ·exact b
 ·exact absurd h0 a
theorem qag5 (or:r.1.Ok)(os:s.1.Ok)(d:IsDn p r le)(u:IsUp p s ge)(lg:∀g g2,le g->ge g2->g<=g2)(gA:GridI p A)(gB:GridI p B)(hA:le A)(hB:ge B) :
 (Iv.made r s).Bt A B/\GridI p (Iv.made r s).lo.val/\GridI p (Iv.made r s).hi.val:=by
 obtain⟨d1,d2⟩:=d.atl gA hA;obtain⟨u1,u2⟩:=u.atu gB hB;have e:Iv.made r s=⟨r.1,s.1,false⟩:=by unfold Iv.made;rw[if_pos ⟨d1,u1⟩]
 rw[e];exact⟨⟨qma or os (d.le_up u lg d1 u1),d2,u2⟩,d.grid d1,u.grid u1⟩
theorem IsDn.err {m:Nat}(h:IsDn p r (fun g=>g<=v))(hp:p<=m)(hm:m<=32767)(h1:-pw m<=v)(h2:v<=pw m):r.2=0/\v-pw (m-p)<=r.1.val:=by
 have hpos:=qc6 (m-p);have⟨q,hq⟩:∃q,q=v/pw (m-p):=⟨_,rfl⟩
 have e1:q*pw (m-p)<=v:=by rw[hq];exact Int.ediv_mul_le v (by omega)
 have e2:v<(q+1)*pw (m-p):=by rw[hq];exact Int.lt_ediv_add_one_mul_self v hpos
 have em:pw m=pw p*pw (m-p):=by rw[<-qe9];congr 1;omega
 have q1:-pw p<=q:=by
  rw[em]at h1;have:(-pw p)*pw (m-p)<(q+1)*pw (m-p):=by rw[Int.neg_mul];omega
  have:=Int.lt_of_mul_lt_mul_right this (Int.le_of_lt hpos);omega
 have q2:q<=pw p:=by
  rw[em]at h2;exact(qbl hpos).1 (by omega)
 have hqn:q.natAbs<=2^p:=by
  have:pw p=((2^p:Nat):Int):=rfl;omega
 have g:GridI p (q*pw (m-p)):=qwc (b:=p+1) hqn (by rw[Nat.pow_succ];have:=Nat.two_pow_pos p;omega) (by unfold capE;omega);obtain⟨a,b⟩:=h.atl g e1;rw[Int.add_mul,Int.one_mul]at e2;exact⟨a,by omega⟩
theorem IsUp.err {m:Nat}(h:IsUp p r (fun g=>v<=g))(hp:p<=m)(hm:m<=32767)(h1:-pw m<=v)(h2:v<=pw m):r.2=0/\r.1.val<=v+pw (m-p):=by
 have hpos:=qc6 (m-p);have⟨q,hq⟩:∃q,q=(-v)/pw (m-p):=⟨_,rfl⟩
 have e1:q*pw (m-p)<=-v:=by rw[hq];exact Int.ediv_mul_le _ (by omega)
 have e2:-v<(q+1)*pw (m-p):=by rw[hq];exact Int.lt_ediv_add_one_mul_self _ hpos
 have em:pw m=pw p*pw (m-p):=by rw[<-qe9];congr 1;omega
 have q1:-pw p<=q:=by
  rw[em]at h2;have:(-pw p)*pw (m-p)<(q+1)*pw (m-p):=by rw[Int.neg_mul];omega
  have:=Int.lt_of_mul_lt_mul_right this (Int.le_of_lt hpos);omega
 have q2:q<=pw p:=by
  rw[em]at h1;exact(qbl hpos).1 (by omega)
 have hqn:q.natAbs<=2^p:=by
  have:pw p=((2^p:Nat):Int):=rfl;omega
 have g:GridI p (-(q*pw (m-p))):=qwb (qwc (b:=p+1) hqn (by rw[Nat.pow_succ];have:=Nat.two_pow_pos p;omega) (by unfold capE;omega));obtain⟨a,b⟩:=h.atu g (by omega);rw[Int.add_mul,Int.one_mul]at e2;exact⟨a,by omega⟩
end
section
variable {p : Int} {x y : Iv} {A B C D E F : Int}
theorem qah7 {m:Nat}(wx:x.W)(wy:y.W)(hp:precB p=true)(kx:x.known=true)(ky:y.known=true)(hm:p.toNat<=m)(hm2:m<=32767)(h1:-pw m<=x.lo.val+y.lo.val)(h2:x.hi.val+y.hi.val<=pw m) :
 (x.add y p).Bt (x.lo.val+y.lo.val-pw (m-p.toNat)) (x.hi.val+y.hi.val+pw (m-p.toNat)):=by
 obtain⟨a1,a2⟩:=qb3 wx kx;obtain⟨b1,b2⟩:=qb3 wy ky;have q1:=qgt wx kx;have q2:=qgt wy ky;have d:=qagm a1 b1 hp;have u:=qagl a2 b2 hp;obtain⟨d1,d2⟩:=d.err hm hm2 h1 (by omega);obtain⟨u1,u2⟩:=u.err hm hm2 (by omega) h2;unfold Iv.add;rw[kx,ky,hp,if_pos (by rfl)];have e:Iv.made (rAdd x.lo y.lo p false) (rAdd x.hi y.hi p true)=⟨(rAdd x.lo y.lo p false).1,(rAdd x.hi y.hi p true).1,false⟩:=by unfold Iv.made;rw[if_pos ⟨d1,u1⟩]
 rw[e];exact⟨qma rAdd_ok rAdd_ok (d.le_up u (fun g g2 h h2=>by omega) d1 u1),d2,u2⟩
theorem qaji (wx:x.W)(hp:precB p=true)(hx:x.Bt A B)(gA:GridI p.toNat A)(gB:GridI p.toNat B):(x.rnd p).Bt A B/\GridI p.toNat (x.rnd p).lo.val/\GridI p.toNat (x.rnd p).hi.val:=by
 obtain⟨a1,a2⟩:=qb3 wx hx.k;have q1:=qgt wx hx.k;have:=hx.lo;have:=hx.hi;unfold Iv.rnd;rw[hx.k,hp,if_pos (by rfl)];exact qag5 rRound_ok rRound_ok (qyi a1 hp) (qyh a2 hp) (fun g g2 h h2=>by omega) gA gB (by omega) (by omega)
theorem q9o {P:Nat}{f g:Dy->Dy->Dy × Int}{le ge:Dy->Dy->Int->Prop}(okf:∀a b,(f a b).1.Ok)(okg:∀a b,(g a b).1.Ok)
 (d1:∀i,i<4->IsDn P (f (qai x y i).1 (qai x y i).2) (le (qai x y i).1 (qai x y i).2)) (u1:∀i,i<4->IsUp P (g (qai x y i).1 (qai x y i).2) (ge (qai x y i).1 (qai x y i).2))
 (lg:∀h h2,le (qai x y 0).1 (qai x y 0).2 h->ge (qai x y 0).1 (qai x y 0).2 h2->h<=h2) (gA:GridI P A) (gB:GridI P B)
 (cd:∀i,i<4->le (qai x y i).1 (qai x y i).2 A) (cu:∀i,i<4->ge (qai x y i).1 (qai x y i).2 B):(Iv.four f g x y).Bt A B:=by
 have hs:good4 f g x y 4:=fun i hi=>⟨((d1 i hi).atl gA (cd i hi)).1,((u1 i hi).atu gB (cu i hi)).1⟩
 obtain⟨v1,k1⟩:=q57 (d1 0 (by omega)) (u1 0 (by omega)) lg okf okg;have l1:=qacw okf (x:=x) (y:=y) (fun i hi=>((d1 i hi).atl gA (cd i hi)).2);have l2:=qadz okg (x:=x) (y:=y) (fun i hi=>((u1 i hi).atu gB (cu i hi)).2);rw[qot hs];exact⟨qma (qii okf 4) (qij okg 4) (k1 hs),l1,l2⟩
theorem q8y {a b u v:Int}(h1:-a<=u)(h2:u<=a)(h3:-b<=v)(h4:v<=b):-(a*b)<=u*v/\u*v<=a*b:=by
 have ha:0<=a:=by omega
 have hb:0<=b:=by omega
 have e:(u*v).natAbs<=(a*b).natAbs:=by
  rw[Int.natAbs_mul,Int.natAbs_mul];exact Nat.mul_le_mul (by omega) (by omega)
 have:=Int.mul_nonneg ha hb;omega
theorem qae2 {a b c:Int}(wx:x.W)(wy:y.W)(hp:precB p=true)(hx:x.Bt (-a) a)(hy:y.Bt (-b) b)(g:GridI p.toNat c)(hc:a*b<=c*pw 16384):(x.mul y p).Bt (-c) c:=by
 have ox:=qb3 wx hx.k;have oy:=qb3 wy hy.k;have q1:=qgt wx hx.k;have q2:=qgt wy hy.k;have h1:=hx.lo;have h2:=hx.hi;have h3:=hy.lo;have h4:=hy.hi;have bd:∀i,i<4->-(a*b)<=(qai x y i).1.val*(qai x y i).2.val/\(qai x y i).1.val*(qai x y i).2.val<=a*b:=by
  intro i hi;obtain⟨g1,g2,g3,g4⟩:=qru hi q1 q2;exact q8y (by omega) (by omega) (by omega) (by omega)
 unfold Iv.mul;rw[hx.k,hy.k,hp,if_pos (by rfl)];refine q9o (P:=p.toNat) (le:=fun u v g=>g*pw 16384<=u.val*v.val) (ge:=fun u v g=>u.val*v.val<=g*pw 16384) (fun _ _=>qk6) (fun _ _=>qk6) ?_ ?_
  (fun h h2 g1 g2=>(qbl (qc6 16384)).1 (by omega)) (qwb g) g ?_ ?_
 ·intro i hi;have o:=qjh hi ox oy;exact q77 o.1 o.2 hp
 ·intro i hi;have o:=qjh hi ox oy;exact q76 o.1 o.2 hp
 ·intro i hi;have:=bd i hi;rw[Int.neg_mul];omega
 ·intro i hi;have:=bd i hi;omega
theorem q90 {a c m u v:Int}(hu1:-a<=u)(hu2:u<=a)(hm:0<m)(hv:m<=v)(hc:0<=c)(h:a*pw 16384<=c*m):divLe u v (-c)/\divGe u v c:=by
 have hpos:=qc6 16384;have h1:c*m<=c*v:=Int.mul_le_mul_of_nonneg_left hv hc;have h2:u*pw 16384<=a*pw 16384:=(qbl hpos).2 hu2;have h3:(-a)*pw 16384<=u*pw 16384:=(qbl hpos).2 hu1;rw[Int.neg_mul]at h3;rw[qo0 (by omega),qo1 (by omega),Int.neg_mul];constructor<;>omega
theorem qae9 {a c m M:Int}(wx:x.W)(wy:y.W)(hp:precB p=true)(hx:x.Bt (-a) a)(hy:y.Bt m M)(hm:0<m)(g:GridI p.toNat c)(h0:0<=c)(hc:a*pw 16384<=c*m):(x.div y p).Bt (-c) c:=by
 have ox:=qb3 wx hx.k;have oy:=qb3 wy hy.k;have q1:=qgt wx hx.k;have q2:=qgt wy hy.k;have h1:=hx.lo;have h2:=hx.hi;have h3:=hy.lo;have sg:y.sgn≠0:=(q7v wy hy.k).2 (.inl (by omega));have pos:∀i,i<4->m<=(qai x y i).2.val:=by
  intro i hi;obtain⟨g1,g2,g3,g4⟩:=qru hi q1 q2;omega
 have bd:∀i,i<4->divLe (qai x y i).1.val (qai x y i).2.val (-c)/\divGe (qai x y i).1.val (qai x y i).2.val c:=by
  intro i hi;obtain⟨g1,g2,g3,g4⟩:=qru hi q1 q2;exact q90 (a:=a) (m:=m) (by omega) (by omega) hm (pos i hi) h0 hc
 unfold Iv.div;rw[hx.k,hy.k,hp,decide_eq_true sg,if_pos (by rfl)];have ne:∀i,i<4->(qai x y i).2.m≠[]:=fun i hi=>qaju (by have:=pos i hi;omega)
 refine q9o (P:=p.toNat) (le:=fun u v g=>divLe u.val v.val g) (ge:=fun u v g=>divGe u.val v.val g) (fun _ _=>qv2) (fun _ _=>qv2) ?_ ?_
  (qakr (by have:=pos 0 (by omega);omega)) (qwb g) g (fun i hi=>(bd i hi).1) (fun i hi=>(bd i hi).2)
 ·intro i hi;have o:=qjh hi ox oy;exact qagk o.1 o.2 hp (ne i hi)
 ·intro i hi;have o:=qjh hi ox oy;exact qagj o.1 o.2 hp (ne i hi)
theorem nI_Bt {k:Int}(hk:k.natAbs<=1048576):(nI k k).Bt (k*pw 16384) (k*pw 16384):=by
 refine⟨qaco hk,?_,?_⟩
 ·show _<=(nD k).val;rw[qqi];exact Int.le_refl _
 ·show(nD k).val<=_;rw[qqi];exact Int.le_refl _
theorem nI_Wk {k:Int}(hk:k.natAbs<=1048576):(nI k k).W:=nI_W (by omega) (by omega)
end
end Go.Abs.W
namespace Go.Abs.W
def Tb (n:Nat):Int:=if n=0 then pw 16384 else pw (16385-2*n)
theorem qaii : Tb 0=pw 16384:=rfl
theorem qaa4 (n:Nat):Tb (n+1)=pw (16385-2*(n+1)):=by unfold Tb;rw[if_neg (by omega)]
structure ExpInv (P n:Nat)(t s:Iv):Prop where
 wt:t.W
 ws:s.W
 t:t.Bt (-(Tb n)) (Tb n)
 k:s.known=true
 lo:pw 16384+pw (16385-2*n)-3*((n:Int)*pw (16385-P))<=3*s.lo.val
 hi:3*s.hi.val<=5*pw 16384-pw (16385-2*n)+3*((n:Int)*pw (16385-P))
section
variable {P n : Nat} {y t s : Iv}
theorem precP (h1:32<=P)(h2:P<=512):precB (P:Int)=true:=precB_iff.2 (by omega)
theorem qaef : (P:Int).toNat=P:=rfl
theorem qac7 (h1:32<=P)(h2:P<=512)(hn:n<=300)(wy:y.W)(hy:y.Bt (-pw 16383) (pw 16383))(wt:t.W)(ht:t.Bt (-(Tb n)) (Tb n)) :
 ((t.mul y P).div (nI ((n+1:Nat):Int) ((n+1:Nat):Int)) P).Bt (-(Tb (n+1))) (Tb (n+1)):=by
 have hp:=precP h1 h2;have hnI:=nI_Bt (k:=((n+1:Nat):Int)) (by omega);have wn:(nI ((n+1:Nat):Int) ((n+1:Nat):Int)).W:=nI_W (by omega) (by omega);have p0:=qc6 16384;rw[qaa4];by_cases h0:n=0
 ·subst h0;have m:=qae2 (c:=pw 16383) wt wy hp ht hy (qpk (by omega)) (by rw[qaii,Int.mul_comm];exact Int.le_refl _);exact qae9 (m:=((0+1:Nat):Int)*pw 16384) mul_W wn hp m hnI (by omega) (qpk (by omega)) (Int.le_of_lt (qc6 _)) (by simp)
 ·have e:Tb n=pw (16385-2*n):=by unfold Tb;rw[if_neg h0]
  have m:=qae2 (c:=pw (16384-2*n)) wt wy hp ht hy (qpk (by omega)) (by
   rw[e,<-qe9,<-qe9];exact pw_le (by omega))
  refine qae9 (m:=((n+1:Nat):Int)*pw 16384) mul_W wn hp m hnI (Int.mul_pos (by omega) p0) (qpk (by omega)) (Int.le_of_lt (qc6 _)) ?_;have e2:pw (16384-2*n)=2*pw (16385-2*(n+1)):=by rw[<-qm3];congr 1;omega
  rw[e2,<-Int.mul_assoc];refine(qbl p0).2 ?_;rw[Int.mul_comm];exact Int.mul_le_mul_of_nonneg_left (by omega) (Int.le_of_lt (qc6 _))
theorem ExpInv.step (h1:32<=P)(h2:P<=512)(hn:n<=300)(wy:y.W)(hy:y.Bt (-pw 16383) (pw 16383))(h:ExpInv P n t s) :
 ExpInv P (n+1) ((t.mul y P).div (nI ((n+1:Nat):Int) ((n+1:Nat):Int)) P) (s.add ((t.mul y P).div (nI ((n+1:Nat):Int) ((n+1:Nat):Int)) P) P):=by
 have hp:=precP h1 h2;have ht:=qac7 h1 h2 hn wy hy h.wt h.t;have wt':((t.mul y P).div (nI ((n+1:Nat):Int) ((n+1:Nat):Int)) P).W:=div_W;generalize (t.mul y P).div (nI ((n+1:Nat):Int) ((n+1:Nat):Int)) P=t' at ht wt' ⊢;have eX:pw (16385-2*n)=4*pw (16385-2*(n+1)):=by
  rw[show 16385-2*n=(16385-2*(n+1))+1+1 by omega,qm3,qm3];omega
 have eE:pw 16384=pw (16385-P)*pw (P-1):=by rw[<-qe9];congr 1;omega
 have eP:pw 31<=pw (P-1):=pw_le (by omega);have e31:pw 31=2147483648:=rfl;have pe:=qc6 (16385-P);have eA:2147483648*pw (16385-P)<=pw 16384:=by
  rw[eE,Int.mul_comm];exact Int.mul_le_mul_of_nonneg_left (by omega) (Int.le_of_lt pe)
 have px:=qc6 (16385-2*(n+1));have eN:(n:Int)*pw (16385-P)<=300*pw (16385-P):=Int.mul_le_mul_of_nonneg_right (by omega) (Int.le_of_lt pe);have eN0:0<=(n:Int)*pw (16385-P):=Int.mul_nonneg (by omega) (Int.le_of_lt pe);have eN1:((n+1:Nat):Int)*pw (16385-P)=(n:Int)*pw (16385-P)+pw (16385-P):=by
  rw[show((n+1:Nat):Int)=(n:Int)+1 by omega,Int.add_mul,Int.one_mul]
 have e5:pw 16385=2*pw 16384:=qm3 16384;have l1:=h.lo;have l2:=h.hi;have t1:=ht.lo;have t2:=ht.hi;have tl:=qgt wt' ht.k;have sl:=qgt h.ws h.k;rw[qaa4]at t1 t2;rw[eX]at l1 l2;have b:=qah7 (m:=16385) (p:=(P:Int)) h.ws wt' hp h.k ht.k (by rw[qaef];omega) (by omega) (by omega) (by omega);rw[qaef]at b;have b1:=b.lo;have b2:=b.hi;refine⟨wt',add_W,ht,b.k,?_,?_⟩
 ·rw[eN1];omega
 ·rw[eN1];omega
end
end Go.Abs.W
namespace Go.Abs.W
end Go.Abs.W
