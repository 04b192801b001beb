/- Parts of the proof: FpKn, FpXe, FpKe, FpKf, FpXf. -/
import Derived.Test.YtpdchdfajhbglaaGreatDoorXb
import Derived.Test.YtpdchdfajhbglaaGreatDoorHz
import Derived.Test.YtpdchdfajhbglaaGreatDoorFe
namespace Go.Abs.W
structure Iv.Bt (x:Iv)(A B:Int):Prop where
 k:x.known=true
 lo:A<=x.lo.val
 hi:x.hi.val<=B
theorem Iv.Bt.mono {x:Iv}{A B C D:Int}(h:x.Bt A B)(h1:C<=A)(h2:B<=D):x.Bt C D:=⟨h.k,Int.le_trans h1 h.lo,Int.le_trans h.hi h2⟩
theorem qhv {p:Nat}{g:Int}(h:GridI p g):GridI p (-g):=by unfold GridI at *;rwa[Int.natAbs_neg]
theorem qyy (a:Nat):(pw a).natAbs=2^a:=rfl
theorem qt2 {p a b:Nat}{k:Int}(hk:k.natAbs<=2^p)(hb:k.natAbs<2^b)(hab:a+b<=capE):GridI p (k*pw a):=by
 unfold GridI;rw[qacg];refine⟨⟨k.natAbs,a,rfl,hk⟩,?_⟩;unfold capN;have h1:k.natAbs*2^a<2^b*2^a:=Nat.mul_lt_mul_of_pos_right hb (Nat.two_pow_pos a);rw[<-Nat.pow_add]at h1;exact Nat.lt_of_lt_of_le h1 (Nat.pow_le_pow_right (by omega) (by omega))
theorem qb1 {p a:Nat}(ha:a<=32767):GridI p (pw a):=by
 have:=qt2 (p:=p) (a:=a) (b:=1) (k:=1) (Nat.one_le_two_pow) (by decide) (by unfold capE;omega);rwa[Int.one_mul]at this
theorem pw_le {a b:Nat}(h:a<=b):pw a<=pw b:=by
 unfold pw;exact Int.ofNat_le.2 (Nat.pow_le_pow_right (by omega) h)
theorem qdn (a:Nat):pw (a+1)=2*pw a:=by rw[qa3,Int.mul_comm];rfl
section
variable {p : Nat} {r s : Dy × Int} {le ge : Int → Prop} {A B v : Int}
theorem IsDn.atl (h:IsDn p r le)(g:GridI p A)(hA:le A):r.2=0/\A<=r.1.val:=by
 rcases h with ⟨a,_,c⟩|⟨_,c⟩
 ·exact⟨a,(c A g).2 hA⟩
 ·exact absurd hA (c A g)
theorem IsUp.atu (h:IsUp p r ge)(g:GridI p A)(hA:ge A):r.2=0/\r.1.val<=A:=by
 rcases h with ⟨a,_,c⟩|⟨_,c⟩
 ·exact⟨a,(c A g).2 hA⟩
 ·exact absurd hA (c A g)
theorem IsDn.grid (h:IsDn p r le)(h0:r.2=0):GridI p r.1.val:=by
 rcases h with ⟨_,b,_⟩|⟨a,_⟩
 ·exact b
 ·exact absurd h0 a
theorem IsUp.grid (h:IsUp p r ge)(h0:r.2=0):GridI p r.1.val:=by
 rcases h with ⟨_,b,_⟩|⟨a,_⟩
 ·exact b
 ·exact absurd h0 a
theorem q5g (or:r.1.Ok)(os:s.1.Ok)(d:IsDn p r le)(u:IsUp p s ge)(lg:∀g g2,le g->ge g2->g<=g2)(gA:GridI p A)(gB:GridI p B)(hA:le A)(hB:ge B) :
 (Iv.made r s).Bt A B/\GridI p (Iv.made r s).lo.val/\GridI p (Iv.made r s).hi.val:=by
 obtain⟨d1,d2⟩:=d.atl gA hA;obtain⟨u1,u2⟩:=u.atu gB hB;have e:Iv.made r s=⟨r.1,s.1,false⟩:=by unfold Iv.made;rw[if_pos ⟨d1,u1⟩]
 rw[e];exact⟨⟨qcl or os (d.le_up u lg d1 u1),d2,u2⟩,d.grid d1,u.grid u1⟩
theorem IsDn.ok2 (h:IsDn p r le)(h0:r.2=0):GridI p r.1.val/\∀g,GridI p g->(g<=r.1.val↔le g):=by
 rcases h with ⟨_,b⟩|⟨a,_⟩
 ·exact b
 ·exact absurd h0 a
theorem IsUp.ok2 (h:IsUp p r ge)(h0:r.2=0):GridI p r.1.val/\∀g,GridI p g->(r.1.val<=g↔ge g):=by
 rcases h with ⟨_,b⟩|⟨a,_⟩
 ·exact b
 ·exact absurd h0 a
theorem IsDn.err {m:Nat}(h:IsDn p r (fun g=>g<=v))(hp:p<=m)(hm:m<=32767)(h1:-pw m<=v)(h2:v<=pw m):r.2=0/\v-pw (m-p)<=r.1.val:=by
 have hpos:=qax (m-p);have⟨q,hq⟩:∃q,q=v/pw (m-p):=⟨_,rfl⟩
 have e1:q*pw (m-p)<=v:=by rw[hq];exact Int.ediv_mul_le v (by omega)
 have e2:v<(q+1)*pw (m-p):=by rw[hq];exact Int.lt_ediv_add_one_mul_self v hpos
 have em:pw m=pw p*pw (m-p):=by rw[<-qa3];congr 1;omega
 have q1:-pw p<=q:=by
  rw[em]at h1;have:(-pw p)*pw (m-p)<(q+1)*pw (m-p):=by rw[Int.neg_mul];omega
  have:=Int.lt_of_mul_lt_mul_right this (Int.le_of_lt hpos);omega
 have q2:q<=pw p:=by
  rw[em]at h2;exact(qav hpos).1 (by omega)
 have hqn:q.natAbs<=2^p:=by
  have:pw p=((2^p:Nat):Int):=rfl;omega
 have g:GridI p (q*pw (m-p)):=qt2 (b:=p+1) hqn (by rw[Nat.pow_succ];have:=Nat.two_pow_pos p;omega) (by unfold capE;omega);obtain⟨a,b⟩:=h.atl g e1;rw[Int.add_mul,Int.one_mul]at e2;exact⟨a,by omega⟩
theorem IsUp.err {m:Nat}(h:IsUp p r (fun g=>v<=g))(hp:p<=m)(hm:m<=32767)(h1:-pw m<=v)(h2:v<=pw m):r.2=0/\r.1.val<=v+pw (m-p):=by
 have hpos:=qax (m-p);have⟨q,hq⟩:∃q,q=(-v)/pw (m-p):=⟨_,rfl⟩
 have e1:q*pw (m-p)<=-v:=by rw[hq];exact Int.ediv_mul_le _ (by omega)
 have e2:-v<(q+1)*pw (m-p):=by rw[hq];exact Int.lt_ediv_add_one_mul_self _ hpos
 have em:pw m=pw p*pw (m-p):=by rw[<-qa3];congr 1;omega
 have q1:-pw p<=q:=by
  rw[em]at h2;have:(-pw p)*pw (m-p)<(q+1)*pw (m-p):=by rw[Int.neg_mul];omega
  have:=Int.lt_of_mul_lt_mul_right this (Int.le_of_lt hpos);omega
 have q2:q<=pw p:=by
  rw[em]at h1;exact(qav hpos).1 (by omega)
 have hqn:q.natAbs<=2^p:=by
  have:pw p=((2^p:Nat):Int):=rfl;omega
 have g:GridI p (-(q*pw (m-p))):=qhv (qt2 (b:=p+1) hqn (by rw[Nat.pow_succ];have:=Nat.two_pow_pos p;omega) (by unfold capE;omega));obtain⟨a,b⟩:=h.atu g (by omega);rw[Int.add_mul,Int.one_mul]at e2;exact⟨a,by omega⟩
theorem q5k {g:Int}(h:GridI p g)(c:Nat):pw c∣g\/(0<c/\g.natAbs<=2^(p+(c-1))):=by
 obtain⟨⟨q,k,e,hq⟩,_⟩:=h;by_cases hk:c<=k
 ·left;have:2^c∣g.natAbs:=⟨q*2^(k-c),by rw[e,Nat.mul_left_comm,<-Nat.pow_add];congr 2;omega⟩
  exact Int.natAbs_dvd_natAbs.1 this
 ·right;refine⟨by omega,?_⟩;rw[e,Nat.pow_add];exact Nat.mul_le_mul hq (Nat.pow_le_pow_right (by omega) (by omega))
theorem qo4 {g:Int}{c:Nat}(h:GridI p g)(h1:pw (c+p)<=g):pw c∣g:=by
 rcases q5k h c with h2|⟨h2,h3⟩
 ·exact h2
 ·exfalso;have:2^(p+(c-1))<2^(c+p):=Nat.pow_lt_pow_right (by omega) (by omega);unfold pw at h1;omega
end
section
variable {p : Int} {x y : Iv} {A B C D E F : Int}
theorem qaiw (wx:x.W)(wy:y.W)(hp:precB p=true)(hx:x.Bt A B)(hy:y.Bt C D)(gE:GridI p.toNat E)(gF:GridI p.toNat F)(hE:E<=A+C)(hF:B+D<=F) :
 (x.add y p).Bt E F:=by
 obtain⟨a1,a2⟩:=qai wx hx.k;obtain⟨b1,b2⟩:=qai wy hy.k;have q1:=qal wx hx.k;have q2:=qal wy hy.k;have:=hx.lo;have:=hx.hi;have:=hy.lo;have:=hy.hi;unfold Iv.add;rw[hx.k,hy.k,hp,if_pos (by rfl)];exact(q5g rAdd_ok rAdd_ok (qp0 a1 b1 hp) (qpz a2 b2 hp) (fun g g2 h h2=>by omega) gE gF (by omega) (by omega)).1
theorem qaey {m:Nat}(wx:x.W)(wy:y.W)(hp:precB p=true)(kx:x.known=true)(ky:y.known=true)(hm:p.toNat<=m)(hm2:m<=32767)(h1:-pw m<=x.lo.val+y.lo.val)(h2:x.hi.val+y.hi.val<=pw m) :
 (x.add y p).Bt (x.lo.val+y.lo.val-pw (m-p.toNat)) (x.hi.val+y.hi.val+pw (m-p.toNat)):=by
 obtain⟨a1,a2⟩:=qai wx kx;obtain⟨b1,b2⟩:=qai wy ky;have q1:=qal wx kx;have q2:=qal wy ky;have d:=qp0 a1 b1 hp;have u:=qpz a2 b2 hp;obtain⟨d1,d2⟩:=d.err hm hm2 h1 (by omega);obtain⟨u1,u2⟩:=u.err hm hm2 (by omega) h2;unfold Iv.add;rw[kx,ky,hp,if_pos (by rfl)];have e:Iv.made (rAdd x.lo y.lo p false) (rAdd x.hi y.hi p true)=⟨(rAdd x.lo y.lo p false).1,(rAdd x.hi y.hi p true).1,false⟩:=by unfold Iv.made;rw[if_pos ⟨d1,u1⟩]
 rw[e];exact⟨qcl rAdd_ok rAdd_ok (d.le_up u (fun g g2 h h2=>by omega) d1 u1),d2,u2⟩
theorem q7b (wx:x.W)(hp:precB p=true)(hx:x.Bt A B)(gA:GridI p.toNat A)(gB:GridI p.toNat B):(x.rnd p).Bt A B/\GridI p.toNat (x.rnd p).lo.val/\GridI p.toNat (x.rnd p).hi.val:=by
 obtain⟨a1,a2⟩:=qai wx hx.k;have q1:=qal wx hx.k;have:=hx.lo;have:=hx.hi;unfold Iv.rnd;rw[hx.k,hp,if_pos (by rfl)];exact q5g rRound_ok rRound_ok (qc6 a1 hp) (qdm a2 hp) (fun g g2 h h2=>by omega) gA gB (by omega) (by omega)
theorem qadf {P:Nat}{f g:Dy->Dy->Dy × Int}{le ge:Dy->Dy->Int->Prop}(okf:∀a b,(f a b).1.Ok)(okg:∀a b,(g a b).1.Ok)
 (d1:∀i,i<4->IsDn P (f (qah x y i).1 (qah x y i).2) (le (qah x y i).1 (qah x y i).2)) (u1:∀i,i<4->IsUp P (g (qah x y i).1 (qah x y i).2) (ge (qah x y i).1 (qah x y i).2))
 (lg:∀h h2,le (qah x y 0).1 (qah x y 0).2 h->ge (qah x y 0).1 (qah x y 0).2 h2->h<=h2) (gA:GridI P A) (gB:GridI P B)
 (cd:∀i,i<4->le (qah x y i).1 (qah x y i).2 A) (cu:∀i,i<4->ge (qah x y i).1 (qah x y i).2 B):(Iv.four f g x y).Bt A B:=by
 have hs:good4 f g x y 4:=fun i hi=>⟨((d1 i hi).atl gA (cd i hi)).1,((u1 i hi).atu gB (cu i hi)).1⟩
 obtain⟨v1,k1⟩:=qo6 (d1 0 (by omega)) (u1 0 (by omega)) lg okf okg;have l1:=q7y okf (x:=x) (y:=y) (fun i hi=>((d1 i hi).atl gA (cd i hi)).2);have l2:=q8x okg (x:=x) (y:=y) (fun i hi=>((u1 i hi).atu gB (cu i hi)).2);rw[qfd hs];exact⟨qcl (qcm okf 4) (qcn okg 4) (k1 hs),l1,l2⟩
theorem qaci {a b u v:Int}(h1:-a<=u)(h2:u<=a)(h3:-b<=v)(h4:v<=b):-(a*b)<=u*v/\u*v<=a*b:=by
 have ha:0<=a:=by omega
 have hb:0<=b:=by omega
 have e:(u*v).natAbs<=(a*b).natAbs:=by
  rw[Int.natAbs_mul,Int.natAbs_mul];exact Nat.mul_le_mul (by omega) (by omega)
 have:=Int.mul_nonneg ha hb;omega
theorem q7r {a b c:Int}(wx:x.W)(wy:y.W)(hp:precB p=true)(hx:x.Bt (-a) a)(hy:y.Bt (-b) b)(g:GridI p.toNat c)(hc:a*b<=c*pw 16384):(x.mul y p).Bt (-c) c:=by
 have ox:=qai wx hx.k;have oy:=qai wy hy.k;have q1:=qal wx hx.k;have q2:=qal wy hy.k;have h1:=hx.lo;have h2:=hx.hi;have h3:=hy.lo;have h4:=hy.hi;have bd:∀i,i<4->-(a*b)<=(qah x y i).1.val*(qah x y i).2.val/\(qah x y i).1.val*(qah x y i).2.val<=a*b:=by
  intro i hi;obtain⟨g1,g2,g3,g4⟩:=qc7 hi q1 q2;exact qaci (by omega) (by omega) (by omega) (by omega)
 unfold Iv.mul;rw[hx.k,hy.k,hp,if_pos (by rfl)];refine qadf (P:=p.toNat) (le:=fun u v g=>g*pw 16384<=u.val*v.val) (ge:=fun u v g=>u.val*v.val<=g*pw 16384) (fun _ _=>rMul_ok) (fun _ _=>rMul_ok) ?_ ?_
  (fun h h2 g1 g2=>(qav (qax 16384)).1 (by omega)) (qhv g) g ?_ ?_
 ·intro i hi;have o:=qba hi ox oy;exact qj7 o.1 o.2 hp
 ·intro i hi;have o:=qba hi ox oy;exact qj6 o.1 o.2 hp
 ·intro i hi;have:=bd i hi;rw[Int.neg_mul];omega
 ·intro i hi;have:=bd i hi;omega
theorem qad2 {a c m u v:Int}(hu1:-a<=u)(hu2:u<=a)(hm:0<m)(hv:m<=v)(hc:0<=c)(h:a*pw 16384<=c*m):divLe u v (-c)/\divGe u v c:=by
 have hpos:=qax 16384;have h1:c*m<=c*v:=Int.mul_le_mul_of_nonneg_left hv hc;have h2:u*pw 16384<=a*pw 16384:=(qav hpos).2 hu2;have h3:(-a)*pw 16384<=u*pw 16384:=(qav hpos).2 hu1;rw[Int.neg_mul]at h3;rw[qfh (by omega),qgm (by omega),Int.neg_mul];constructor<;>omega
theorem q8h {a c m M:Int}(wx:x.W)(wy:y.W)(hp:precB p=true)(hx:x.Bt (-a) a)(hy:y.Bt m M)(hm:0<m)(g:GridI p.toNat c)(h0:0<=c)(hc:a*pw 16384<=c*m):(x.div y p).Bt (-c) c:=by
 have ox:=qai wx hx.k;have oy:=qai wy hy.k;have q1:=qal wx hx.k;have q2:=qal wy hy.k;have h1:=hx.lo;have h2:=hx.hi;have h3:=hy.lo;have sg:y.sgn≠0:=(qlf wy hy.k).2 (.inl (by omega));have pos:∀i,i<4->m<=(qah x y i).2.val:=by
  intro i hi;obtain⟨g1,g2,g3,g4⟩:=qc7 hi q1 q2;omega
 have bd:∀i,i<4->divLe (qah x y i).1.val (qah x y i).2.val (-c)/\divGe (qah x y i).1.val (qah x y i).2.val c:=by
  intro i hi;obtain⟨g1,g2,g3,g4⟩:=qc7 hi q1 q2;exact qad2 (a:=a) (m:=m) (by omega) (by omega) hm (pos i hi) h0 hc
 unfold Iv.div;rw[hx.k,hy.k,hp,decide_eq_true sg,if_pos (by rfl)];have ne:∀i,i<4->(qah x y i).2.m≠[]:=fun i hi=>qpo (by have:=pos i hi;omega)
 refine qadf (P:=p.toNat) (le:=fun u v g=>divLe u.val v.val g) (ge:=fun u v g=>divGe u.val v.val g) (fun _ _=>rDiv_ok) (fun _ _=>rDiv_ok) ?_ ?_
  (qad1 (by have:=pos 0 (by omega);omega)) (qhv g) g (fun i hi=>(bd i hi).1) (fun i hi=>(bd i hi).2)
 ·intro i hi;have o:=qba hi ox oy;exact qrp o.1 o.2 hp (ne i hi)
 ·intro i hi;have o:=qba hi ox oy;exact qro o.1 o.2 hp (ne i hi)
theorem sq_Bt (wx:x.W)(hp:precB p=true)(hx:x.Bt A B)(h0:0<A)(gE:GridI p.toNat E)(gF:GridI p.toNat F)(hE:E*pw 16384<=A*A)(hF:B*B<=F*pw 16384):(x.sq p).Bt E F:=by
 obtain⟨k,o1,o2,n1,n2⟩:=qri wx hx.k;obtain⟨v1,v2⟩:=qt8 wx hx.k;have h1:=hx.lo;have h2:=hx.hi;have le0:=qal wx hx.k;have ka:x.abs.all=false:=(qia k).2;rw[if_pos (.inl (by omega))]at v2;have a1:A<=x.abs.lo.val:=by omega
 have a2:x.abs.hi.val<=B:=by omega
 have m1:A*A<=x.abs.lo.val*x.abs.lo.val:=Int.mul_le_mul a1 a1 (by omega) (by omega);have m2:x.abs.hi.val*x.abs.hi.val<=B*B:=Int.mul_le_mul a2 a2 (by omega) (by omega);have m3:x.abs.lo.val*x.abs.lo.val<=x.abs.hi.val*x.abs.hi.val:=Int.mul_le_mul n2 n2 n1 (by omega);unfold Iv.sq;rw[ka,hp,if_pos (by rfl)];exact(q5g rMul_ok rMul_ok (qj7 o1 o1 hp) (qj6 o2 o2 hp) (fun g g2 h h2=>(qav (qax 16384)).1 (by omega)) gE gF (by omega) (by omega)).1
theorem sq_up {a c:Int}(wx:x.W)(hp:precB p=true)(hx:x.Bt (-a) a)(g:GridI p.toNat c)(hc:a*a<=c*pw 16384):(x.sq p).Bt (-c) c:=by
 obtain⟨k,o1,o2,n1,n2⟩:=qri wx hx.k;obtain⟨v1,v2⟩:=qt8 wx hx.k;have h1:=hx.lo;have h2:=hx.hi;have le0:=qal wx hx.k;rw[qah7 wx];have ha:x.abs.Bt (-a) a:=⟨k,by omega,by omega⟩
 exact q7r (abs_W wx) (abs_W wx) hp ha ha g hc
theorem nI_Bt {k:Int}(hk:k.natAbs<=1048576):(nI k k).Bt (k*pw 16384) (k*pw 16384):=by
 refine⟨qagr hk,?_,?_⟩
 ·show _<=(nD k).val;rw[qpp];exact Int.le_refl _
 ·show(nD k).val<=_;rw[qpp];exact Int.le_refl _
theorem nI_Wk {k:Int}(hk:k.natAbs<=1048576):(nI k k).W:=nI_W (by omega) (by omega)
theorem q0c (wx:x.W)(hk:x.known=true):x.mag.val=max (x.lo.val.natAbs:Int) x.hi.val.natAbs:=by
 have:=(qt8 wx hk).1;have e:x.abs.hi=x.mag:=by unfold Iv.abs;rw[if_pos hk]
 rwa[e]at this
theorem qaet {a:Int}(wx:x.W)(hk:x.known=true)(h:x.mag.val<=a):(qdx x).Bt (-a) a:=by
 have ok:=qpq wx hk;have hm:=q0c wx hk;unfold qdx;rw[if_pos hk];have v:x.mag.opp.val=-x.mag.val:=q7l ok;have ok2:x.mag.opp.Ok:=by rw[qo1 ok];exact qh9 ok
 refine⟨qcl ok2 ok (by omega),?_,?_⟩<;>simp only[]<;>omega
theorem q67 {d:Dy}{k V:Int}{a b:Nat}(ok:d.Ok)(hk:k=(a:Int)-b)(ha:a<=32768)(hb:b<=32768)(hV:V*pw b=d.val*pw a)(hc:V.natAbs<capN):d.sclE k=0/\(d.scl k).val=V:=by
 have h0:d.sclE k=0:=by
  unfold Dy.sclE;rw[if_pos ⟨ok.valid,by omega,by omega⟩];unfold Dy.chkE;rw[if_pos];by_cases hm:d.m=[]
  ·rw[hm];rfl
  ·have hn:=qcq ok.tr hm;have ho:=ok.odd hm;have he:=ok.elo;have hh:=ok.ehi;have e:V.natAbs*2^b=natV d.m*2^((d.e+16384).toNat+a):=by
    have:=congrArg Int.natAbs hV;rw[Int.natAbs_mul,Int.natAbs_mul,qyy,qyy]at this;have va:d.val.natAbs=natV d.m*2^(d.e+16384).toNat:=by
     unfold Dy.val;split
     ·rw[Int.natAbs_neg];rfl
     ·rfl
    rw[this,va,Nat.mul_assoc,<-Nat.pow_add]
   have hge:b<=(d.e+16384).toNat+a:=by
    rcases Nat.lt_or_ge ((d.e+16384).toNat+a) b with h|h
    ·exfalso;have⟨j,hj⟩:∃j,b=(d.e+16384).toNat+a+(j+1):=⟨b-((d.e+16384).toNat+a)-1,by omega⟩
     rw[hj,Nat.pow_add _ _ (j+1),<-Nat.mul_assoc,Nat.mul_right_comm]at e;have:=Nat.eq_of_mul_eq_mul_right (Nat.two_pow_pos _) e;rw[Nat.pow_succ,<-Nat.mul_assoc]at this;omega
    ·exact h
   have⟨j,hj⟩:∃j,(d.e+16384).toNat+a=j+b:=⟨(d.e+16384).toNat+a-b,by omega⟩
   rw[hj,Nat.pow_add,<-Nat.mul_assoc]at e;have e2:=Nat.eq_of_mul_eq_mul_right (Nat.two_pow_pos _) e;have hb2:bitL (natV d.m)+j<=32768:=by
    rcases Nat.lt_or_ge 32768 (bitL (natV d.m)+j)with h|h
    ·exfalso;rw[<-qls hn,<-e2]at h;have:=bitL_gt.1 h;unfold capN capE at hc;omega
    ·exact h
   exact Dy.of_inR ok.bits (by omega) (by omega)
 refine⟨h0,?_⟩;have:=quj ok hk h0;rw[<-hV]at this;exact Int.eq_of_mul_eq_mul_right (by have:=qax b;omega) this
theorem qamk {k U V:Int}{a b:Nat}(wx:x.W)(kx:x.known=true)(hk:k=(a:Int)-b)(ha:a<=32768)(hb:b<=32768)(hU:U*pw b=x.lo.val*pw a)(hV:V*pw b=x.hi.val*pw a)(cU:U.natAbs<capN)(cV:V.natAbs<capN) :
 (x.scl k).known=true/\(x.scl k).lo.val=U/\(x.scl k).hi.val=V:=by
 obtain⟨a1,a2⟩:=qai wx kx;have q1:=qal wx kx;obtain⟨s1,s2⟩:=q67 a1 hk ha hb hU cU;obtain⟨s3,s4⟩:=q67 a2 hk ha hb hV cV;unfold Iv.scl;rw[if_pos kx];have e:Iv.made (x.lo.scl k,x.lo.sclE k) (x.hi.scl k,x.hi.sclE k)=⟨x.lo.scl k,x.hi.scl k,false⟩:=by unfold Iv.made;rw[if_pos ⟨s1,s3⟩]
 rw[e];refine⟨qcl qaib qaib ?_,s2,s4⟩;rw[s2,s4];refine(qav (qax b)).1 ?_;rw[hU,hV];exact(qav (qax a)).2 q1
end
end Go.Abs.W
namespace Go.Abs.W
def wk (P:Int):V:=.agg [.int .i64 P]
theorem qfg (k:Int)(h1:-4611686018427387904<=k)(h2:k<=4611686018427387904):CQ prog qti [.int .i64 k] (nI k k).v:=by
 refine qaf rfl fun H=>?_
 have c:=qng k h1 h2;rw[<-show nD k=Dy.of (decide (k<0)) k.natAbs 0 from rfl]at c;have o:(nD k).Ok:=nD_ok (by omega);have d:=qlu (nD k) o.w;rw[o.valid]at d;rw[if_pos rfl,show Iv.pt (nD k)=nI k k from rfl]at d;simp;refine zq c ?_;simp;refine zq d ?_;simp[lim]
theorem qp8 (P:Int)(x y:Iv)(wx:x.W)(wy:y.W):CQ prog qn4 [wk P,x.v,y.v] (x.add y P).v:=by
 refine qaf rfl fun H=>?_
 simp[wk];refine qaa rfl rfl rfl (q6q x y P wx wy) ?_;simp[lim]
theorem q56 (P:Int)(x y:Iv)(wx:x.W)(wy:y.W):CQ prog qn0 [wk P,x.v,y.v] (x.mul y P).v:=by
 refine qaf rfl fun H=>?_
 simp[wk];refine qaa rfl rfl rfl (qafe x y P wx wy) ?_;simp[lim]
theorem q1j (P:Int)(x y:Iv)(wx:x.W)(wy:y.W):CQ prog qn3 [wk P,x.v,y.v] (x.div y P).v:=by
 refine qaf rfl fun H=>?_
 simp[wk];refine qaa rfl rfl rfl (qaff x y P wx wy) ?_;simp[lim]
theorem q3w (P:Int)(x:Iv)(wx:x.W)(hP:0<=P)(hP2:P<=1000000):CQ prog ql9 [wk P,x.v] (.bool (qcv P x)):=by
 refine qaf rfl fun H=>?_
 have m:=q6p x wx;have wr:IntKind.i64.wrap (-P)=-P:=by rw[wrap_i64]<;>omega
 simp[wk];refine zq m ?_;cases hk:x.known
 ·simp[Dy.zero,lim];simp[qcv,hk]
 ·have ok:=qpq wx hk;have s:=qjm x.mag ok.w;have t:=qj5 x.mag ok.w;rw[ok.valid]at s t;simp;refine zq s ?_;by_cases h0:x.mag.sgn=0
  ·simp[h0,qcv]
  ·simp[h0];refine zq t ?_;simp[qcv,hk,h0,wr]
theorem qzb (x:Iv)(wx:x.W):CQ prog qr4 [x.v] (qdx x).v:=by
 refine qaf rfl fun H=>?_
 have m:=q6p x wx;simp;refine zq m ?_;cases hk:x.known
 ·simp[Dy.zero,lim];refine zq qak ?_;simp[qdx,hk,lim]
 ·have ok:=qpq wx hk;simp;refine qaa rfl rfl rfl (qqp x.mag ok.w) ?_;simp[qdx,hk,lim]
def qma (P:Int)(y:Iv):Nat->Nat->Iv->Prop
 |0,_,_=>False
 |f+1,n,t=>qcv P ((t.mul y P).div (nI n n) P)=true\/qma P y f (n+1) ((t.mul y P).div (nI n n) P)
theorem qy7 {P:Int}{y:Iv}{f n:Nat}{t s:Iv}(h:qcv P ((t.mul y P).div (nI n n) P)=true):expG P y (f+1) n t s=((t.mul y P).div (nI n n) P,s.add ((t.mul y P).div (nI n n) P) P):=by
 unfold expG;simp only[h,if_true]
theorem q3v {P:Int}{y:Iv}{f n:Nat}{t s:Iv}(h:qcv P ((t.mul y P).div (nI n n) P)=false):expG P y (f+1) n t s=expG P y f (n+1) ((t.mul y P).div (nI n n) P) (s.add ((t.mul y P).div (nI n n) P) P):=by
 conv=>lhs;unfold expG
 simp only[h,Bool.false_eq_true,if_false]
theorem qak1 (P:Int)(y:Iv)(wy:y.W)(hP:0<=P)(hP2:P<=1000000)(hs:qma P y 1000 1 (nI 1 1)):CQ prog qn2 [wk P,y.v] (expI P y).v:=by
 refine qaf rfl fun H=>?_
 have w1:(nI 1 1).W:=nI_W (by omega) (by omega);have c1:=qfg 1 (by omega) (by omega);simp[wk];refine zq c1 ?_;simp;refine zq c1 ?_;simp;refine qc5 (fun k E H'=>∃(n:Nat) (t s:Iv),H'=H++[some ⟨1,[.agg [.int .i64 P]],false,true⟩,some ⟨7,[y.v],false,true⟩,some ⟨7,[zIv],false,true⟩,some ⟨7,[t.v],false,true⟩,some ⟨7,[s.v],false,true⟩] /\
  E 2=.ptr H.length 0 0/\E 3=.ptr (H.length+1) 0 0/\E 4=.ptr (H.length+2) 0 0/\E 5=.ptr (H.length+3) 0 0/\E 6=.ptr (H.length+4) 0 0/\E 7=.int .i64 n/\t.W/\s.W/\n+k<=2000/\qma P y k n t/\expG P y k n t s=expG P y 1000 1 (nI 1 1) (nI 1 1)) 1000 ?_ ?_
 ·exact⟨1,nI 1 1,nI 1 1,by simp[zIv],by simp,by simp,by simp,by simp,by simp,by simp,w1,w1,by omega,hs,rfl⟩
 ·rintro k E H' ⟨n,t,s,rfl,h2,h3,h4,h5,h6,h7,wt,ws,hn,hst,hg⟩;cases k with
  |zero=>exact hst.elim
  |succ k=>
   have cm:=q56 P t y wt wy;have wm:(t.mul y P).W:=mul_W;have wn:(nI (n:Int) (n:Int)).W:=nI_W (by omega) (by omega);have cn:=qfg n (by omega) (by omega);have cd:=q1j P (t.mul y P) (nI n n) wm wn;have wd:((t.mul y P).div (nI n n) P).W:=div_W;have ca:=qp8 P s _ ws wd;have wa:(s.add ((t.mul y P).div (nI n n) P) P).W:=add_W;have cs:=q3w P _ wd hP hP2;have e1:IntKind.i64.wrap ((n:Int)+1)=((n+1:Nat):Int):=by rw[wrap_i64]<;>omega
   have hst':qcv P ((t.mul y P).div (nI n n) P)=true\/qma P y k (n+1) ((t.mul y P).div (nI n n) P):=hst;have g1:=@qy7 P y k n t s;have g2:=@q3v P y k n t s;generalize hT:(t.mul y P).div (nI n n) P=T at *
   generalize hS:s.add T P=S at *
   simp only[wk]at *
   refine qas ?_;simp[qe5,h2,h3,h5];refine zq cm ?_;simp[h7];refine zq cn ?_;simp;refine zq cd ?_;simp[h2,h5,h6];refine zq ca ?_;simp[h2,h5,h6];refine zq cs ?_;cases hsm:qcv P T
   ·have hst2:=hst'.resolve_left (by simp[hsm]);simp[h2,h3,h4,h5,h6,h7];exact⟨k,by omega,n+1,T,S,by simp,by simpa using e1,wd,wa,by omega,hst2,by rw[<-g2 hsm,hg]⟩
   ·have er:=g1 hsm;rw[hg]at er;have cr:=qzb T wd;have wr:(qdx T).W:=qo8 wd;have cf:=qp8 P S (qdx T) wa wr;simp[h2,h5,h6];refine zq cr ?_;simp;refine zq cf ?_;simp[h4,expI,er,lim,zIv]
theorem qo2 (d:Dy):d.val.natAbs=d.absN:=by
 unfold Dy.val;split
 ·rw[Int.natAbs_neg];rfl
 ·rfl
theorem sgn0 {d:Dy}:d.sgn=0↔d.m=[]:=by
 unfold Dy.sgn;split
 ·rename_i h;simp[h]
 ·rename_i h;constructor
  ·intro h2;split at h2<;>omega
  ·intro h2;exact absurd h2 h
theorem pw_lt_iff {a b:Nat}:pw a<pw b↔a<b:=by
 constructor
 ·intro h;rcases Nat.lt_or_ge a b with h1|h1
  ·exact h1
  ·have:=pw_le h1;omega
 ·intro h;have:=pw_le (show a+1<=b from h);rw[qdn]at this;have:=qax a;omega
theorem qug {P:Nat}{x:Iv}(wx:x.W)(hk:x.known=true)(hP:P<=16000):qcv P x=true↔x.mag.val<pw (16384-P):=by
 have ok:=qpq wx hk;have hm:=q0c wx hk;have hn:(x.mag.absN:Int)=x.mag.val:=by rw[<-qo2];omega
 have hpos:=qax (16384-P);unfold qcv;simp only[hk,Bool.not_true,Bool.false_or,Bool.or_eq_true,decide_eq_true_eq];by_cases h0:x.mag.m=[]
 ·have:=Dy.absN_nil h0;constructor
  ·intro _;omega
  ·intro _;exact .inl (sgn0.2 h0)
 ·obtain⟨b1,b2⟩:=ok.absN_bounds h0;have ht:=ok.top_pos h0;constructor
  ·rintro(h|h)
   ·exact absurd (sgn0.1 h) h0
   ·have:2^(x.mag.top+16384).toNat<=2^(16384-P):=Nat.pow_le_pow_right (by omega) (by omega);rw[<-hn];unfold pw;exact Int.ofNat_lt.2 (by omega)
  ·intro h;right;have h1:pw (x.mag.top+16383).toNat<pw (16384-P):=by
    have:pw (x.mag.top+16383).toNat<=x.mag.absN:=by unfold pw;exact Int.ofNat_le.2 b1
    omega
   have:=pw_lt_iff.1 h1;omega
def Tb (n:Nat):Int:=if n=0 then pw 16384 else pw (16385-2*n)
theorem q6g : Tb 0=pw 16384:=rfl
theorem q6h (n:Nat):Tb (n+1)=pw (16385-2*(n+1)):=by unfold Tb;rw[if_neg (by omega)]
structure ExpInv (P n:Nat)(t s:Iv):Prop where
 wt:t.W
 ws:s.W
 t:t.Bt (-(Tb n)) (Tb n)
 k:s.known=true
 lo:pw 16384+pw (16385-2*n)-3*((n:Int)*pw (16385-P))<=3*s.lo.val
 hi:3*s.hi.val<=5*pw 16384-pw (16385-2*n)+3*((n:Int)*pw (16385-P))
section
variable {P n : Nat} {y t s : Iv}
theorem precP (h1:32<=P)(h2:P<=512):precB (P:Int)=true:=precB_iff.2 (by omega)
theorem qqs : (P:Int).toNat=P:=rfl
theorem q8c (h1:32<=P)(h2:P<=512)(hn:n<=300)(wy:y.W)(hy:y.Bt (-pw 16383) (pw 16383))(wt:t.W)(ht:t.Bt (-(Tb n)) (Tb n)) :
 ((t.mul y P).div (nI ((n+1:Nat):Int) ((n+1:Nat):Int)) P).Bt (-(Tb (n+1))) (Tb (n+1)):=by
 have hp:=precP h1 h2;have hnI:=nI_Bt (k:=((n+1:Nat):Int)) (by omega);have wn:(nI ((n+1:Nat):Int) ((n+1:Nat):Int)).W:=nI_W (by omega) (by omega);have p0:=qax 16384;rw[q6h];by_cases h0:n=0
 ·subst h0;have m:=q7r (c:=pw 16383) wt wy hp ht hy (qb1 (by omega)) (by rw[q6g,Int.mul_comm];exact Int.le_refl _);exact q8h (m:=((0+1:Nat):Int)*pw 16384) mul_W wn hp m hnI (by omega) (qb1 (by omega)) (Int.le_of_lt (qax _)) (by simp)
 ·have e:Tb n=pw (16385-2*n):=by unfold Tb;rw[if_neg h0]
  have m:=q7r (c:=pw (16384-2*n)) wt wy hp ht hy (qb1 (by omega)) (by
   rw[e,<-qa3,<-qa3];exact pw_le (by omega))
  refine q8h (m:=((n+1:Nat):Int)*pw 16384) mul_W wn hp m hnI (Int.mul_pos (by omega) p0) (qb1 (by omega)) (Int.le_of_lt (qax _)) ?_;have e2:pw (16384-2*n)=2*pw (16385-2*(n+1)):=by rw[<-qdn];congr 1;omega
  rw[e2,<-Int.mul_assoc];refine(qav p0).2 ?_;rw[Int.mul_comm];exact Int.mul_le_mul_of_nonneg_left (by omega) (Int.le_of_lt (qax _))
theorem ExpInv.step (h1:32<=P)(h2:P<=512)(hn:n<=300)(wy:y.W)(hy:y.Bt (-pw 16383) (pw 16383))(h:ExpInv P n t s) :
 ExpInv P (n+1) ((t.mul y P).div (nI ((n+1:Nat):Int) ((n+1:Nat):Int)) P) (s.add ((t.mul y P).div (nI ((n+1:Nat):Int) ((n+1:Nat):Int)) P) P):=by
 have hp:=precP h1 h2;have ht:=q8c h1 h2 hn wy hy h.wt h.t;have wt':((t.mul y P).div (nI ((n+1:Nat):Int) ((n+1:Nat):Int)) P).W:=div_W;generalize (t.mul y P).div (nI ((n+1:Nat):Int) ((n+1:Nat):Int)) P=t' at ht wt' ⊢;have eX:pw (16385-2*n)=4*pw (16385-2*(n+1)):=by
  rw[show 16385-2*n=(16385-2*(n+1))+1+1 by omega,qdn,qdn];omega
 have eE:pw 16384=pw (16385-P)*pw (P-1):=by rw[<-qa3];congr 1;omega
 have eP:pw 31<=pw (P-1):=pw_le (by omega);have e31:pw 31=2147483648:=rfl;have pe:=qax (16385-P);have eA:2147483648*pw (16385-P)<=pw 16384:=by
  rw[eE,Int.mul_comm];exact Int.mul_le_mul_of_nonneg_left (by omega) (Int.le_of_lt pe)
 have px:=qax (16385-2*(n+1));have eN:(n:Int)*pw (16385-P)<=300*pw (16385-P):=Int.mul_le_mul_of_nonneg_right (by omega) (Int.le_of_lt pe);have eN0:0<=(n:Int)*pw (16385-P):=Int.mul_nonneg (by omega) (Int.le_of_lt pe);have eN1:((n+1:Nat):Int)*pw (16385-P)=(n:Int)*pw (16385-P)+pw (16385-P):=by
  rw[show((n+1:Nat):Int)=(n:Int)+1 by omega,Int.add_mul,Int.one_mul]
 have e5:pw 16385=2*pw 16384:=qdn 16384;have l1:=h.lo;have l2:=h.hi;have t1:=ht.lo;have t2:=ht.hi;have tl:=qal wt' ht.k;have sl:=qal h.ws h.k;rw[q6h]at t1 t2;rw[eX]at l1 l2;have b:=qaey (m:=16385) (p:=(P:Int)) h.ws wt' hp h.k ht.k (by rw[qqs];omega) (by omega) (by omega) (by omega);rw[qqs]at b;have b1:=b.lo;have b2:=b.hi;refine⟨wt',add_W,ht,b.k,?_,?_⟩
 ·rw[eN1];omega
 ·rw[eN1];omega
theorem q2u {x:Iv}(wx:x.W)(hP:P<=512)(hb:x.Bt (-(Tb (n+1))) (Tb (n+1)))(h:¬qcv P x=true):2*(n+1)<P+2:=by
 rw[qug wx hb.k (by omega)]at h;have hm:=q0c wx hb.k;have h1:=hb.lo;have h2:=hb.hi;have le0:=qal wx hb.k;rw[q6h]at h1 h2;rcases Nat.lt_or_ge (2*(n+1)) (P+2)with h3|h3
 ·exact h3
 ·exfalso;have h4:pw (16385-2*(n+1))<pw (16384-P):=by
   rcases Nat.lt_or_ge (2*(n+1)) 16385 with h5|h5
   ·exact pw_lt_iff.2 (by omega)
   ·exact pw_lt_iff.2 (by omega)
  have:=qax (16385-2*(n+1));omega
theorem q8d (h1:32<=P)(h2:P<=512)(wy:y.W)(hy:y.Bt (-pw 16383) (pw 16383)):∀(f n:Nat) (t:Iv),t.W->t.Bt (-(Tb n)) (Tb n)->n<=300->P+2<=2*(n+f)->0<f->qma P y f (n+1) t
 |0,n,t,wt,ht,hn,hf,h0=>absurd h0 (by decide)
 |f+1,n,t,wt,ht,hn,hf,_=>by
  have b:=q8c h1 h2 hn wy hy wt ht;by_cases hsm:qcv P ((t.mul y P).div (nI ((n+1:Nat):Int) ((n+1:Nat):Int)) P)=true
  ·exact .inl hsm
  ·have:=q2u div_W h2 b hsm;exact .inr (q8d h1 h2 wy hy f (n+1) _ div_W b (by omega) (by omega) (by omega))
theorem qadm (h1:32<=P)(h2:P<=512)(wy:y.W)(hy:y.Bt (-pw 16383) (pw 16383)):∀(f n:Nat) (t s:Iv),ExpInv P n t s->n<300->P+2<=2*(n+f)->0<f ->
 ∃m,m<=300/\ExpInv P m (expG P y f (n+1) t s).1 (expG P y f (n+1) t s).2/\qcv P (expG P y f (n+1) t s).1=true
 |0,n,t,s,h,hn,hf,h0=>absurd h0 (by decide)
 |f+1,n,t,s,h,hn,hf,_=>by
  have b:=h.step h1 h2 (by omega) wy hy;cases hsm:qcv P ((t.mul y P).div (nI ((n+1:Nat):Int) ((n+1:Nat):Int)) P)
  ·have:=q2u b.wt h2 b.t (by rw[hsm];decide);rw[q3v hsm];exact qadm h1 h2 wy hy f (n+1) _ _ b (by omega) (by omega) (by omega)
  ·rw[qy7 hsm];exact⟨n+1,hn,b,hsm⟩
theorem q1h : ExpInv P 0 (nI 1 1) (nI 1 1):=by
 have b:=nI_Bt (k:=1) (by decide);have w:(nI 1 1).W:=nI_W (by omega) (by omega);have b1:=b.lo;have b2:=b.hi;have e5:pw (16385-2*0)=2*pw 16384:=qdn 16384;have p0:=qax 16384;rw[Int.one_mul]at b1 b2;exact⟨w,w,⟨b.k,by rw[q6g];omega,by rw[q6g];omega⟩,b.k,by rw[e5];simp;omega,by rw[e5];simp;omega⟩
theorem qado (h1:32<=P)(h2:P<=512)(wy:y.W)(hy:y.Bt (-pw 16383) (pw 16383)):qma P y 1000 1 (nI 1 1):=
 q8d h1 h2 wy hy 1000 0 (nI 1 1) (q1h (P:=P)).wt (q1h (P:=P)).t (by omega) (by omega) (by omega)
theorem qaku (h1:32<=P)(h2:P<=512)(wy:y.W)(hy:y.Bt (-pw 16383) (pw 16383)):(expI P y).Bt (pw (16384-2*2^0)) (pw (16384+2*2^0)):=by
 obtain⟨m,hm,inv,hsm⟩:=qadm h1 h2 wy hy 1000 0 (nI 1 1) (nI 1 1) q1h (by omega) (by omega) (by omega);have hp:=precP h1 h2;unfold expI;rw[show(expG P y 1000 1 (nI 1 1) (nI 1 1))=expG P y 1000 (0+1) (nI 1 1) (nI 1 1) from rfl];have⟨T,hT⟩:∃T,T=(expG P y 1000 (0+1) (nI 1 1) (nI 1 1)).1:=⟨_,rfl⟩
 have⟨S,hS⟩:∃S,S=(expG P y 1000 (0+1) (nI 1 1) (nI 1 1)).2:=⟨_,rfl⟩
 simp only[<-hT,<-hS]at inv hsm ⊢;clear hT hS;have hmag:=(qug inv.wt inv.t.k (by omega)).1 hsm;have ab:=qaet inv.wt inv.t.k (Int.le_of_lt hmag);have eE:pw 16384=pw (16384-P)*pw P:=by rw[<-qa3];congr 1;omega
 have eP:pw 32<=pw P:=pw_le h1;have e32:pw 32=4294967296:=rfl;have pe:=qax (16384-P);have eA:4294967296*pw (16384-P)<=pw 16384:=by
  rw[eE,Int.mul_comm];exact Int.mul_le_mul_of_nonneg_left (by omega) (Int.le_of_lt pe)
 have e2:pw (16385-P)=2*pw (16384-P):=by rw[<-qdn];congr 1;omega
 have eN:(m:Int)*pw (16385-P)<=300*pw (16385-P):=Int.mul_le_mul_of_nonneg_right (by omega) (by omega);have e5:pw 16385=2*pw 16384:=qdn 16384;have e6:pw 16386=2*pw 16385:=qdn 16385;have e4:pw 16384=2*pw 16383:=qdn 16383;have e3:pw 16383=2*pw 16382:=qdn 16382;have px:=qax (16385-2*m);have l1:=inv.lo;have l2:=inv.hi;have t1:=ab.lo;have t2:=ab.hi;have sl:=qal inv.ws inv.k;have tl:=qal (qo8 inv.wt) ab.k;have b:=qaey (m:=16385) (p:=(P:Int)) inv.ws (qo8 inv.wt) hp inv.k ab.k (by rw[qqs];omega) (by omega) (by omega) (by omega);rw[qqs]at b;refine b.mono ?_ ?_
 ·show pw 16382<=_;omega
 ·show _<=pw 16386;omega
theorem qamq {m:Nat}(h:m<capE):pw m<((capN:Nat):Int):=by
 unfold pw capN;exact Int.ofNat_lt.2 (Nat.pow_lt_pow_right (by omega) h)
def baseI : Nat->Iv->Iv
 |0,y=>y
 |n+1,y=>baseI n (y.scl (-1))
theorem qagg (wy:y.W)(k:y.known=true){j m:Nat}(d1:pw (j+1)∣y.lo.val)(d2:pw (j+1)∣y.hi.val)(b1:-pw (m+1)<=y.lo.val)(b2:y.hi.val<=pw (m+1))(hm:m<=32000) :
 (y.scl (-1)).Bt (-pw m) (pw m)/\pw j∣(y.scl (-1)).lo.val/\pw j∣(y.scl (-1)).hi.val:=by
 obtain⟨u,hu⟩:=d1;obtain⟨v,hv⟩:=d2;have le0:=qal wy k;have e1:pw 1=2:=rfl;have e0:pw 0=1:=rfl;have em:pw (m+1)=2*pw m:=qdn m;have ej:pw (j+1)=2*pw j:=qdn j;rw[ej,Int.mul_assoc]at hu hv;have cap:=qamq (m:=m) (by unfold capE;omega);obtain⟨s1,s2,s3⟩:=qamk (k:=-1) (a:=0) (b:=1) (U:=pw j*u) (V:=pw j*v) wy k (by omega) (by omega) (by omega) (by rw[e1,e0];omega) (by rw[e1,e0];omega) (by omega) (by omega);rw[s2,s3];exact⟨⟨s1,by omega,by omega⟩,⟨u,rfl⟩,⟨v,rfl⟩⟩
theorem qy4 (h1:32<=P)(h2:P<=512):∀(n:Nat) (y:Iv),y.W->y.Bt (-pw (16383+n)) (pw (16383+n))->pw n∣y.lo.val->pw n∣y.hi.val->n<=12 ->
 qma P (baseI n y) 1000 1 (nI 1 1)/\(qfa P n y).Bt (pw (16384-2*2^n)) (pw (16384+2*2^n))
 |0,y,wy,hy,_,_,_=>⟨qado h1 h2 wy hy,qaku h1 h2 wy hy⟩
 |n+1,y,wy,hy,d1,d2,hn=>by
  obtain⟨s1,s2,s3⟩:=qagg (m:=16383+n) wy hy.k d1 d2 hy.lo hy.hi (by omega);obtain⟨a,b⟩:=qy4 h1 h2 n (y.scl (-1)) qrl s1 s2 s3 (by omega);refine⟨a,?_⟩;have hb:2^n<=2^11:=Nat.pow_le_pow_right (by omega) (by omega);have e11:2^11=2048:=rfl;have es:2^(n+1)=2*2^n:=by rw[Nat.pow_succ];omega
  generalize 2^n=K at *
  have w:(qfa P n (y.scl (-1))).W:=by
   cases n with
   |zero=>exact qadp
   |succ n=>exact sq_W
  refine sq_Bt w (precP h1 h2) b (qax _) (qb1 (by omega)) (qb1 (by omega)) ?_ ?_
  ·rw[<-qa3,<-qa3];exact pw_le (by omega)
  ·rw[<-qa3,<-qa3];exact pw_le (by omega)
end
end Go.Abs.W
namespace Go.Abs.W
theorem qagt {d:Dy}(ok:d.Ok):modB d=true↔d.val.natAbs<=(1000*pw 16384).natAbs:=by
 have o2:=nD_ok (k:=1000) (by omega);have v:=qpp (k:=1000);have p:=qax 16384;unfold modB;rw[decide_eq_true_eq,qj1 (qgn ok) o2,cmpI_le,qwy ok,v];omega
theorem qakb {d:Dy}(ok:d.Ok)(hd:modB d=true)(hm:d.m≠[]):d.top<=10:=by
 have h:=(qagt ok).1 hd;obtain⟨b1,_⟩:=ok.absN_bounds hm;have ht:=ok.top_pos hm;rw[qo2]at h;have e:pw 16394=1024*pw 16384:=by rw[show 16394=16384+10 from rfl,qa3,Int.mul_comm];rfl
 have p:=qax 16384;have:pw (d.top+16383).toNat<pw 16394:=by
  have:pw (d.top+16383).toNat<=d.absN:=by unfold pw;exact Int.ofNat_le.2 b1
  omega
 have:=pw_lt_iff.1 this;omega
theorem q7f {d:Dy}(ok:d.Ok):(Iv.pt d).known=true:=qcl ok ok (Int.le_refl _)
theorem qamt {d:Dy}{P n:Nat}(ok:d.Ok)(hm:d.m≠[])(h1:32<=P)(h2:P<=512)(hn:n=(d.top+1).toNat)(hn2:n<=16383) :
 ((Iv.pt d).rnd P).Bt (-pw (16383+n)) (pw (16383+n))/\pw n∣((Iv.pt d).rnd P).lo.val/\pw n∣((Iv.pt d).rnd P).hi.val:=by
 have hp:=precP h1 h2;obtain⟨b1,b2⟩:=ok.absN_bounds hm;have ht:=ok.top_pos hm;have v:=qo2 d;have k:=q7f ok;have w:(Iv.pt d).W:=⟨ok.w,ok.w⟩
 have u:(d.absN:Int)<=pw (16383+n):=by
  have:2^(d.top+16384).toNat<=2^(16383+n):=Nat.pow_le_pow_right (by omega) (by omega);unfold pw;exact Int.ofNat_le.2 (by omega)
 have bt:(Iv.pt d).Bt (-pw (16383+n)) (pw (16383+n)):=⟨k,by show -pw (16383+n)<=d.val;omega,by show d.val<=pw (16383+n);omega⟩
 have r:=(q7b w hp bt (qhv (qb1 (by omega))) (qb1 (by omega)))
 refine⟨r.1,?_⟩;by_cases h0:n=0
 ·subst h0;have e0:pw 0=1:=rfl;rw[e0];exact⟨Int.one_dvd _,Int.one_dvd _⟩
 ·have l:pw (16382+n)<=d.absN:=by
   have:2^(16382+n)<=2^(d.top+16383).toNat:=Nat.pow_le_pow_right (by omega) (by omega);unfold pw;exact Int.ofNat_le.2 (by omega)
  have hle:pw (n+P)<=pw (16382+n):=pw_le (by omega);have hpos:=qax (16382+n);by_cases hs:0<=d.val
  ·have bt2:(Iv.pt d).Bt (pw (16382+n)) (pw (16383+n)):=⟨k,by show pw (16382+n)<=d.val;omega,by show d.val<=pw (16383+n);omega⟩
   have r2:=(q7b w hp bt2 (qb1 (by omega)) (qb1 (by omega))).1;have le0:=qal qni r2.k;have:=r2.lo;exact⟨qo4 r.2.1 (by rw[qqs];omega),qo4 r.2.2 (by rw[qqs];omega)⟩
  ·have bt2:(Iv.pt d).Bt (-pw (16383+n)) (-pw (16382+n)):=⟨k,by show -pw (16383+n)<=d.val;omega,by show d.val<=-pw (16382+n);omega⟩
   have r2:=(q7b w hp bt2 (qhv (qb1 (by omega))) (qhv (qb1 (by omega)))).1;have le0:=qal qni r2.k;have:=r2.hi;exact⟨Int.dvd_neg.1 (qo4 (qhv r.2.1) (by rw[qqs];omega)),Int.dvd_neg.1 (qo4 (qhv r.2.2) (by rw[qqs];omega))⟩
theorem q2n {d:Dy}{p:Int}(ok:d.Ok)(hp:precB p=true)(hd:modB d=true)(hm:d.m≠[]) :
 ∃n P:Nat,n=(d.top+1).toNat/\n<=11/\gP p (n+24)=(P:Int)/\32<=P/\P<=512/\qma P (baseI n ((Iv.pt d).rnd P)) 1000 1 (nI 1 1)/\(qfa P n ((Iv.pt d).rnd P)).Bt (pw 12288) (pw 20480):=by
 have hpp:=precB_iff.1 hp;have ht:=qakb ok hd hm;have⟨n,hn⟩:∃n:Nat,n=(d.top+1).toNat:=⟨_,rfl⟩
 have⟨P,hP⟩:∃P:Nat,P=(gP p (n+24)).toNat:=⟨_,rfl⟩
 have hP2:gP p (n+24)=(P:Int):=by unfold gP at hP ⊢;omega
 have h1:32<=P:=by unfold gP at hP;omega
 have h2:P<=512:=by unfold gP at hP;omega
 obtain⟨r1,r2,r3⟩:=qamt (P:=P) ok hm h1 h2 hn (by omega);obtain⟨a,b⟩:=qy4 h1 h2 n ((Iv.pt d).rnd P) qni r1 r2 r3 (by omega);refine⟨n,P,hn,by omega,hP2,h1,h2,a,b.mono (pw_le ?_) (pw_le ?_)⟩
 ·have hb:2^n<=2^11:=Nat.pow_le_pow_right (by omega) (by omega);have e11:2^11=2048:=rfl;omega
 ·have hb:2^n<=2^11:=Nat.pow_le_pow_right (by omega) (by omega);have e11:2^11=2048:=rfl;omega
theorem qu6 {P:Int}:∀(n:Nat) (y:Iv),(qfa P n y).W
 |0,_=>qadp
 |_+1,_=>sq_W
theorem q2o {d:Dy}{p:Int}(ok:d.Ok)(hp:precB p=true)(hd:modB d=true):(qfw d p).Bt (pw 12288) (pw 20480)/\pw 11776∣(qfw d p).lo.val/\pw 11776∣(qfw d p).hi.val:=by
 have hpp:=precB_iff.1 hp;unfold qfw;by_cases hm:d.m=[]
 ·rw[if_pos (sgn0.2 hm)];have b:=nI_Bt (k:=1) (by decide);rw[Int.one_mul]at b;have e:pw 16384=pw 11776*pw 4608:=by rw[<-qa3]
  have v1:(nI 1 1).lo.val=pw 16384:=by show(nD 1).val=_;rw[qpp,Int.one_mul]
  have v2:(nI 1 1).hi.val=pw 16384:=by show(nD 1).val=_;rw[qpp,Int.one_mul]
  exact⟨b.mono (pw_le (by omega)) (pw_le (by omega)),⟨pw 4608,by rw[v1,e]⟩,⟨pw 4608,by rw[v2,e]⟩⟩
 ·rw[if_neg (fun h=>hm (sgn0.1 h))];obtain⟨n,P,hn,hn2,hP,h1,h2,_,b⟩:=q2n ok hp hd hm;simp only;rw[<-hn,hP];obtain⟨r1,r2,r3⟩:=q7b (p:=p) (qu6 n _) hp b (qb1 (by omega)) (qb1 (by omega));have le0:=qal qni r1.k;have:=r1.lo;have hle:pw (11776+p.toNat)<=pw 12288:=pw_le (by omega);exact⟨r1,qo4 r2 (by omega),qo4 r3 (by omega)⟩
theorem qty {d:Dy}{p:Int}(ok:d.Ok):(qfw d p).W:=(qrr p ok).1
theorem q0h (p more:Int)(h1:-1000000<=p)(h2:p<=1000000)(h3:-1000000<=more)(h4:more<=1000000):CQ prog qtk [.int .i64 p,.int .i64 more] (wk (gP p more)):=by
 refine qaf rfl fun H=>?_
 have e:IntKind.i64.wrap (p+more)=p+more:=by rw[wrap_i64]<;>omega
 simp[wk,gP,e];omega
theorem qu2 (d:Dy)(w:d.W):CQ prog qp3 [d.v] (.bool (modB d)):=by
 refine qaf rfl fun H=>?_
 have c:=qng 1000 (by omega) (by omega);rw[<-show nD 1000=Dy.of (decide ((1000:Int)<0)) (1000:Int).natAbs 0 from rfl]at c;have wa:d.abs.W:=by
  unfold Dy.abs;split
  ·exact⟨w.li,w.len⟩
  ·exact Dy.zero_W
 simp;refine qaa rfl rfl rfl (qw9 d w) ?_;simp;refine zq c ?_;simp;refine qaa rfl rfl rfl (qei d.abs (nD 1000) wa (nD_ok (by omega)).w) ?_;simp[modB]
theorem qadi (x:Iv)(p:Int)(w:x.W):CQ prog qv1 [x.v,.int .i64 p] (.bool (x.known&&precB p)):=by
 refine qaf rfl fun H=>?_
 have c:=qgo x w;rcases x with ⟨lo,hi,all⟩;cases all
 ·simp;refine zq c ?_;cases hv:(Iv.mk lo hi false).valid
  ·simp[Iv.known,hv]
  ·by_cases h8:8<=p
   ·simp[Iv.known,hv,precB,h8]
   ·simp[Iv.known,hv,precB,h8]
 ·simp[Iv.known]
theorem q8e (a b:Iv):CQ prog qv2 [a.v,b.v] (endsI a b).v:=by
 refine qaf rfl fun H=>?_
 cases ha:a.all
 ·cases hb:b.all
  ·simp[ha,hb,endsI,lim]
  ·simp[ha,hb];refine zq qak ?_;simp[endsI,ha,hb,lim]
 ·simp[ha];refine zq qak ?_;simp[endsI,ha,lim]
theorem qac7 (P:Int)(hP:0<=P)(hP2:P<=1000000)(n:Nat):∀(y:Iv),y.W->n<=1000->qma P (baseI n y) 1000 1 (nI 1 1)->CQ prog qlm [wk P,y.v,.int .i64 n] (qfa P n y).v:=by
 induction n with
 |zero=>
  intro y wy _ hs;refine qaf rfl fun H=>?_
  have c:=qak1 P y wy hP hP2 hs;simp only[wk]at c ⊢;simp;refine zq c ?_;simp[qfa,lim]
 |succ n ih=>
  intro y wy hn hs;have c:=ih (y.scl (-1)) qrl (by omega) hs;refine qaf rfl fun H=>?_
  have e1:IntKind.i64.wrap (n:Int)=(n:Int):=by rw[wrap_i64]<;>omega
  have h0:¬((n:Int)+1=0):=by omega
  simp only[wk]at c ⊢;simp[h0];refine qaa rfl rfl rfl (qw7 y (-1) wy) ?_;simp[e1];refine zq c ?_;simp;refine qaa rfl rfl rfl (qzq (qfa P n (y.scl (-1))) P (qu6 n _)) ?_;simp[qfa,lim]
theorem q31 (d:Dy)(p:Int)(ok:d.Ok)(hp:precB p=true)(hd:modB d=true):CQ prog qtj [d.v,.int .i64 p] (qfw d p).v:=by
 refine qaf rfl fun H=>?_
 have s:=qjm d ok.w;have t:=qj5 d ok.w;have pt:=qlu d ok.w;have hpp:=precB_iff.1 hp;rw[ok.valid]at s t pt;rw[if_pos rfl]at s t pt;by_cases hm:d.m=[]
 ·have h0:=sgn0.2 hm;simp;refine zq s ?_;simp[h0];refine qaa rfl rfl rfl (qfg 1 (by omega) (by omega)) ?_;simp[qfw,h0,lim]
 ·have h0:¬d.sgn=0:=fun h=>hm (sgn0.1 h)
  obtain⟨n,P,hn,hn2,hP,h1,h2,hs,_⟩:=q2n ok hp hd hm;have e0:qfw d p=(qfa P n ((Iv.pt d).rnd P)).rnd p:=by
   unfold qfw;rw[if_neg h0];simp only;rw[<-hn,hP]
  have ht:=ok.top_pos hm;have e1:IntKind.i64.wrap (d.top+1)=d.top+1:=by rw[wrap_i64]<;>omega
  have e2:(if d.top+1<0 then 0 else d.top+1)=(n:Int):=by split<;>omega
  have e3:IntKind.i64.wrap ((n:Int)+24)=(n:Int)+24:=by rw[wrap_i64]<;>omega
  have g:=q0h p (n+24) (by omega) (by omega) (by omega) (by omega);rw[hP]at g;have hc:=qac7 P (by omega) (by omega) n ((Iv.pt d).rnd P) qni (by omega) hs;have rc:=qow (Iv.pt d) P (pt_W ok.w);have fc:=qow (qfa P n ((Iv.pt d).rnd P)) p (qu6 n _);simp only[wk]at g hc;simp;refine zq s ?_;simp[h0];refine zq t ?_;simp[e1,e2,e3];refine zq g ?_;simp;refine zq pt ?_;simp;refine zq rc ?_;simp;refine zq hc ?_;simp;refine zq fc ?_;simp[e0,lim]
theorem qao4 (x:Iv)(p:Int)(w:x.W):CQ prog qx0 [x.v,.int .i64 p] (x.exp p).v:=by
 refine qaf rfl fun H=>?_
 have f:=qadi x p w;simp;refine zq f ?_;cases hk:x.known
 ·simp;refine zq qak ?_;simp[Iv.exp,hk,lim]
 ·obtain⟨o1,o2⟩:=qai w hk;cases hp:precB p
  ·simp;refine zq qak ?_;simp[Iv.exp,hp,lim]
  ·simp;refine qaa rfl rfl rfl (qu2 x.lo o1.w) ?_;cases h1:modB x.lo
   ·simp;refine zq qak ?_;simp[Iv.exp,h1,lim]
   ·simp;refine qaa rfl rfl rfl (qu2 x.hi o2.w) ?_;cases h2:modB x.hi
    ·simp;refine zq qak ?_;simp[Iv.exp,h2,lim]
    ·simp;refine qaa rfl rfl rfl (q31 x.lo p o1 hp h1) ?_;simp;refine qaa rfl rfl rfl (q31 x.hi p o2 hp h2) ?_;simp;refine qaa rfl rfl rfl (q8e (qfw x.lo p) (qfw x.hi p)) ?_;simp[Iv.exp,hk,hp,h1,h2,lim]
end Go.Abs.W
