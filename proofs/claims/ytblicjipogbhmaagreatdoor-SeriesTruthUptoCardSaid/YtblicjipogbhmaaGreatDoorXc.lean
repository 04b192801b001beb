import Derived.Test.YtblicjipogbhmaaGreatDoorXb
import Derived.Test.YtblicjipogbhmaaGreatDoorHz
import Derived.Test.YtblicjipogbhmaaGreatDoorFe
namespace Go.Abs.W
structure Iv.Bt (x:Iv)(A B:Int):Prop where
 k:x.known=true
 lo:A<=x.lo.val
 hi:x.hi.val<=B
theorem Iv.Bt.mono {x:Iv}{A B C D:Int}(h:x.Bt A B)(a:C<=A)(b:B<=D):x.Bt C D:=⟨h.k,aaw a h.lo,aaw h.hi b⟩
theorem jz {p:Nat}{g:Int}(h:aE p g):aE p (-g):=by unfold aE at *;rwa[abu]
theorem q54 (a:Nat):(pw a).natAbs=2^a:=rfl
theorem nh {p a b:Nat}{k:Int}(f:k.natAbs<=2^p)(e:k.natAbs<2^b)(d:a+b<=ci):aE p (k*pw a):=by
 unfold aE;rw[Bb];refine⟨⟨k.natAbs,a,rfl,f⟩,?_⟩;unfold dE;have c:k.natAbs*2^a<2^b*2^a:=V7 e (Vl a);rw[<-Vs]at c;exact Vx c (Vg (by omega) (by omega))
theorem eK {p a:Nat}(c:a<=32767):aE p (pw a):=by
 have:=nh (p:=p) (a:=a) (b:=1) (k:=1) (aaB) (by decide) (by unfold ci;omega);rwa[WN]at this
theorem bd {a b:Nat}(h:a<=b):pw a<=pw b:=by
 unfold pw;exact Int.ofNat_le.2 (Vg (by omega) h)
theorem eE (a:Nat):pw (a+1)=2*pw a:=by rw[bK,XH];rfl
section
variable {p : Nat} {r s : Dy × Int} {le ge : Int → Prop} {A B v : Int}
theorem IsDn.atl (h:IsDn p r le)(g:aE p A)(b:le A):r.2=0/\A<=r.1.val:=by
 rcases h with ⟨a,_,c⟩|⟨_,c⟩
 ·exact⟨a,(c A g).2 b⟩
 ·exact absurd b (c A g)
theorem IsUp.atu (h:IsUp p r ge)(g:aE p A)(b:ge A):r.2=0/\r.1.val<=A:=by
 rcases h with ⟨a,_,c⟩|⟨_,c⟩
 ·exact⟨a,(c A g).2 b⟩
 ·exact absurd b (c A g)
theorem IsDn.grid (h:IsDn p r le)(c:r.2=0):aE p r.1.val:=by
 rcases h with ⟨_,b,_⟩|⟨a,_⟩
 ·exact b
 ·exact absurd c a
theorem IsUp.grid (h:IsUp p r ge)(c:r.2=0):aE p r.1.val:=by
 rcases h with ⟨_,b,_⟩|⟨a,_⟩
 ·exact b
 ·exact absurd c a
theorem tc (or:r.1.Ok)(os:s.1.Ok)(d:IsDn p r le)(u:IsUp p s ge)(l:∀g c,le g->ge c->g<=c)(h:aE p A)(i:aE p B)(j:le A)(k:ge B) :
 (Iv.made r s).Bt A B/\aE p (Iv.made r s).lo.val/\aE p (Iv.made r s).hi.val:=by
 obtain⟨a,f⟩:=d.atl h j;obtain⟨b,m⟩:=u.atu i k;have e:Iv.made r s=⟨r.1,s.1,false⟩:=by unfold Iv.made;rw[Vh ⟨a,b⟩]
 rw[e];exact⟨⟨fv or os (d.le_up u l a b),f,m⟩,d.grid a,u.grid b⟩
theorem IsDn.ok2 (h:IsDn p r le)(c:r.2=0):aE p r.1.val/\∀g,aE p g->(g<=r.1.val↔le g):=by
 rcases h with ⟨_,b⟩|⟨a,_⟩
 ·exact b
 ·exact absurd c a
theorem IsUp.ok2 (h:IsUp p r ge)(c:r.2=0):aE p r.1.val/\∀g,aE p g->(r.1.val<=g↔ge g):=by
 rcases h with ⟨_,b⟩|⟨a,_⟩
 ·exact b
 ·exact absurd c a
theorem IsDn.err {m:Nat}(h:IsDn p r (fun g=>g<=v))(o:p<=m)(n:m<=32767)(k:-pw m<=v)(l:v<=pw m):r.2=0/\v-pw (m-p)<=r.1.val:=by
 have c:=bf (m-p);have⟨q,f⟩:∃q,q=v/pw (m-p):=⟨_,rfl⟩
 have i:q*pw (m-p)<=v:=by rw[f];exact XU v (by omega)
 have j:v<(q+1)*pw (m-p):=by rw[f];exact W0 v c
 have e:pw m=pw p*pw (m-p):=by rw[<-bK];congr 1;omega
 have t:-pw p<=q:=by
  rw[e]at k;have:(-pw p)*pw (m-p)<(q+1)*pw (m-p):=by rw[V9];omega
  have:=X6 this (Vu c);omega
 have u:q<=pw p:=by
  rw[e]at l;exact(ed c).1 (by omega)
 have d:q.natAbs<=2^p:=by
  have:pw p=((2^p:Nat):Int):=rfl;omega
 have g:aE p (q*pw (m-p)):=nh (b:=p+1) d (by rw[VH];have:=Vl p;omega) (by unfold ci;omega);obtain⟨a,b⟩:=h.atl g i;rw[X5,WN]at j;exact⟨a,by omega⟩
theorem IsUp.err {m:Nat}(h:IsUp p r (fun g=>v<=g))(o:p<=m)(n:m<=32767)(j:-pw m<=v)(k:v<=pw m):r.2=0/\r.1.val<=v+pw (m-p):=by
 have c:=bf (m-p);have⟨q,f⟩:∃q,q=(-v)/pw (m-p):=⟨_,rfl⟩
 have l:q*pw (m-p)<=-v:=by rw[f];exact XU _ (by omega)
 have i:-v<(q+1)*pw (m-p):=by rw[f];exact W0 _ c
 have e:pw m=pw p*pw (m-p):=by rw[<-bK];congr 1;omega
 have t:-pw p<=q:=by
  rw[e]at k;have:(-pw p)*pw (m-p)<(q+1)*pw (m-p):=by rw[V9];omega
  have:=X6 this (Vu c);omega
 have u:q<=pw p:=by
  rw[e]at j;exact(ed c).1 (by omega)
 have d:q.natAbs<=2^p:=by
  have:pw p=((2^p:Nat):Int):=rfl;omega
 have g:aE p (-(q*pw (m-p))):=jz (nh (b:=p+1) d (by rw[VH];have:=Vl p;omega) (by unfold ci;omega));obtain⟨a,b⟩:=h.atu g (by omega);rw[X5,WN]at i;exact⟨a,by omega⟩
theorem RG {g:Int}(h:aE p g)(c:Nat):pw c∣g\/(0<c/\g.natAbs<=2^(p+(c-1))):=by
 obtain⟨⟨q,k,e,a⟩,_⟩:=h;by_cases b:c<=k
 ·left;have:2^c∣g.natAbs:=⟨q*2^(k-c),by rw[e,WM,<-Vs];congr 2;omega⟩
  exact Int.natAbs_dvd_natAbs.1 this
 ·right;refine⟨by omega,?_⟩;rw[e,Vs];exact Wi a (Vg (by omega) (by omega))
theorem pS {g:Int}{c:Nat}(h:aE p g)(b:pw (c+p)<=g):pw c∣g:=by
 rcases RG h c with a|⟨a,d⟩
 ·exact a
 ·exfalso;have:2^(p+(c-1))<2^(c+p):=WA (by omega) (by omega);unfold pw at b;omega
end
section
variable {p : Int} {x y : Iv} {A B C D E F : Int}
theorem pi (d:x.W)(e:y.W)(c:af p=true)(a:x.Bt A B)(b:y.Bt C D)(l:aE p.toNat E)(gF:aE p.toNat F)(o:E<=A+C)(hF:B+D<=F) :
 (x.add y p).Bt E F:=by
 obtain⟨f,i⟩:=bg d a.k;obtain⟨j,k⟩:=bg e b.k;have q:=bP d a.k;have t:=bP e b.k;have:=a.lo;have:=a.hi;have:=b.lo;have:=b.hi;unfold Iv.add;rw[a.k,b.k,c,Vh (by rfl)];exact(tc rAdd_ok rAdd_ok (pH f j c) (mJ i k c) (fun g m h n=>by omega) l gF (by omega) (by omega)).1
theorem sH {m:Nat}(n:x.W)(o:y.W)(b:af p=true)(c:x.known=true)(f:y.known=true)(k:p.toNat<=m)(a:m<=32767)(H:-pw m<=x.lo.val+y.lo.val)(j:x.hi.val+y.hi.val<=pw m) :
 (x.add y p).Bt (x.lo.val+y.lo.val-pw (m-p.toNat)) (x.hi.val+y.hi.val+pw (m-p.toNat)):=by
 obtain⟨q,t⟩:=bg n c;obtain⟨w,z⟩:=bg o f;have K:=bP n c;have L:=bP o f;have d:=pH q w b;have u:=mJ t z b;obtain⟨i,G⟩:=d.err k a H (by omega);obtain⟨l,I⟩:=u.err k a (by omega) j;unfold Iv.add;rw[c,f,b,Vh (by rfl)];have e:Iv.made (aV x.lo y.lo p false) (aV x.hi y.hi p true)=⟨(aV x.lo y.lo p false).1,(aV x.hi y.hi p true).1,false⟩:=by unfold Iv.made;rw[Vh ⟨i,l⟩]
 rw[e];exact⟨fv rAdd_ok rAdd_ok (d.le_up u (fun g J h j=>by omega) i l),G,I⟩
theorem lT (c:x.W)(b:af p=true)(a:x.Bt A B)(f:aE p.toNat A)(i:aE p.toNat B):(x.rnd p).Bt A B/\aE p.toNat (x.rnd p).lo.val/\aE p.toNat (x.rnd p).hi.val:=by
 obtain⟨d,e⟩:=bg c a.k;have l:=bP c a.k;have:=a.lo;have:=a.hi;unfold Iv.rnd;rw[a.k,b,Vh (by rfl)];exact tc rRound_ok rRound_ok (qT d b) (qU e b) (fun g j h k=>by omega) f i (by omega) (by omega)
theorem xz {P:Nat}{f g:Dy->Dy->Dy × Int}{le ge:Dy->Dy->Int->Prop}(c:∀a b,(f a b).1.Ok)(d:∀a b,(g a b).1.Ok)
 (e:∀i,i<4->IsDn P (f (au x y i).1 (au x y i).2) (le (au x y i).1 (au x y i).2)) (j:∀i,i<4->IsUp P (g (au x y i).1 (au x y i).2) (ge (au x y i).1 (au x y i).2))
 (w:∀h n,le (au x y 0).1 (au x y 0).2 h->ge (au x y 0).1 (au x y 0).2 n->h<=n) (l:aE P A) (m:aE P B)
 (cd:∀i,i<4->le (au x y i).1 (au x y i).2 A) (k:∀i,i<4->ge (au x y i).1 (au x y i).2 B):(Iv.four f g x y).Bt A B:=by
 have o:c9 f g x y 4:=fun i hi=>⟨((e i hi).atl l (cd i hi)).1,((j i hi).atu m (k i hi)).1⟩
 obtain⟨z,q⟩:=uW (e 0 (by omega)) (j 0 (by omega)) w c d;have t:=Uy c (x:=x) (y:=y) (fun i hi=>((e i hi).atl l (cd i hi)).2);have u:=Uj d (x:=x) (y:=y) (fun i hi=>((j i hi).atu m (k i hi)).2);rw[kI o];exact⟨fv (iD c 4) (iC d 4) (q o),t,u⟩
theorem Pz {a b u v:Int}(f:-a<=u)(g:u<=a)(h:-b<=v)(i:v<=b):-(a*b)<=u*v/\u*v<=a*b:=by
 have c:0<=a:=by omega
 have d:0<=b:=by omega
 have e:(u*v).natAbs<=(a*b).natAbs:=by
  rw[X8,X8];exact Wi (by omega) (by omega)
 have:=Xm c d;omega
theorem j8 {a b c:Int}(m:x.W)(n:y.W)(f:af p=true)(d:x.Bt (-a) a)(e:y.Bt (-b) b)(g:aE p.toNat c)(M:a*b<=c*pw 16384):(x.mul y p).Bt (-c) c:=by
 have k:=bg m d.k;have l:=bg n e.k;have z:=bP m d.k;have G:=bP n e.k;have J:=d.lo;have w:=d.hi;have K:=e.lo;have L:=e.hi;have j:∀i,i<4->-(a*b)<=(au x y i).1.val*(au x y i).2.val/\(au x y i).1.val*(au x y i).2.val<=a*b:=by
  intro i hi;obtain⟨q,t,H,I⟩:=jU hi z G;exact Pz (by omega) (by omega) (by omega) (by omega)
 unfold Iv.mul;rw[d.k,e.k,f,Vh (by rfl)];refine xz (P:=p.toNat) (le:=fun u v g=>g*pw 16384<=u.val*v.val) (ge:=fun u v g=>u.val*v.val<=g*pw 16384) (fun _ _=>rMul_ok) (fun _ _=>rMul_ok) ?_ ?_
  (fun h w q t=>(ed (bf 16384)).1 (by omega)) (jz g) g ?_ ?_
 ·intro i hi;have o:=fO hi k l;exact m0 o.1 o.2 f
 ·intro i hi;have o:=fO hi k l;exact nc o.1 o.2 f
 ·intro i hi;have:=j i hi;rw[V9];omega
 ·intro i hi;have:=j i hi;omega
theorem Pc {a c m u v:Int}(d:-a<=u)(e:u<=a)(k:0<m)(hv:m<=v)(g:0<=c)(h:a*pw 16384<=c*m):bD u v (-c)/\bE u v c:=by
 have b:=bf 16384;have i:c*m<=c*v:=V1 hv g;have j:u*pw 16384<=a*pw 16384:=(ed b).2 e;have f:(-a)*pw 16384<=u*pw 16384:=(ed b).2 d;rw[V9]at f;rw[nl (by omega),pV (by omega),V9];constructor<;>omega
theorem lg {a c m M:Int}(t:x.W)(f:y.W)(e:af p=true)(b:x.Bt (-a) a)(d:y.Bt m M)(K:0<m)(g:aE p.toNat c)(I:0<=c)(J:a*pw 16384<=c*m):(x.div y p).Bt (-c) c:=by
 have k:=bg t b.k;have l:=bg f d.k;have n:=bP t b.k;have q:=bP f d.k;have L:=b.lo;have N:=b.hi;have O:=d.lo;have sg:y.sgn≠0:=(qV f d.k).2 (.inl (by omega));have pos:∀i,i<4->m<=(au x y i).2.val:=by
  intro i hi;obtain⟨w,z,G,H⟩:=jU hi n q;omega
 have h:∀i,i<4->bD (au x y i).1.val (au x y i).2.val (-c)/\bE (au x y i).1.val (au x y i).2.val c:=by
  intro i hi;obtain⟨w,z,G,H⟩:=jU hi n q;exact Pc (a:=a) (m:=m) (by omega) (by omega) K (pos i hi) I J
 unfold Iv.div;rw[b.k,d.k,e,aaE sg,Vh (by rfl)];have j:∀i,i<4->(au x y i).2.m≠[]:=fun i hi=>mB (by have:=pos i hi;omega)
 refine xz (P:=p.toNat) (le:=fun u v g=>bD u.val v.val g) (ge:=fun u v g=>bE u.val v.val g) (fun _ _=>iS) (fun _ _=>iS) ?_ ?_
  (nW (by have:=pos 0 (by omega);omega)) (jz g) g (fun i hi=>(h i hi).1) (fun i hi=>(h i hi).2)
 ·intro i hi;have o:=fO hi k l;exact qD o.1 o.2 e (j i hi)
 ·intro i hi;have o:=fO hi k l;exact qE o.1 o.2 e (j i hi)
theorem uz (c:x.W)(b:af p=true)(a:x.Bt A B)(w:0<A)(l:aE p.toNat E)(gF:aE p.toNat F)(G:E*pw 16384<=A*A)(hF:B*B<=F*pw 16384):(x.sq p).Bt E F:=by
 obtain⟨k,i,j,q,f⟩:=Cn c a.k;obtain⟨K,t⟩:=uJ c a.k;have z:=a.lo;have m:=a.hi;have o:=bP c a.k;have n:x.abs.all=false:=(gO k).2;rw[Vh (.inl (by omega))]at t;have d:A<=x.abs.lo.val:=by omega
 have e:x.abs.hi.val<=B:=by omega
 have H:A*A<=x.abs.lo.val*x.abs.lo.val:=XM d d (by omega) (by omega);have I:x.abs.hi.val*x.abs.hi.val<=B*B:=XM e e (by omega) (by omega);have J:x.abs.lo.val*x.abs.lo.val<=x.abs.hi.val*x.abs.hi.val:=XM f f q (by omega);unfold Iv.sq;rw[n,b,Vh (by rfl)];exact(tc rMul_ok rMul_ok (m0 i i b) (nc j j b) (fun g u h m=>(ed (bf 16384)).1 (by omega)) l gF (by omega) (by omega)).1
theorem kS {a c:Int}(b:x.W)(h:af p=true)(d:x.Bt (-a) a)(g:aE p.toNat c)(f:a*a<=c*pw 16384):(x.sq p).Bt (-c) c:=by
 obtain⟨k,o,q,m,n⟩:=Cn b d.k;obtain⟨t,u⟩:=uJ b d.k;have j:=d.lo;have l:=d.hi;have i:=bP b d.k;rw[oy b];have e:x.abs.Bt (-a) a:=⟨k,by omega,by omega⟩
 exact j8 (fC b) (fC b) h e e g f
theorem bo {k:Int}(a:k.natAbs<=1048576):(nI k k).Bt (k*pw 16384) (k*pw 16384):=by
 refine⟨Uz a,?_,?_⟩
 ·show _<=(nD k).val;rw[iP];exact VL _
 ·show(nD k).val<=_;rw[iP];exact VL _
theorem ay {k:Int}(a:k.natAbs<=1048576):(nI k k).W:=cD (by omega) (by omega)
theorem ma (b:x.W)(a:x.Bt A B):x.neg.Bt (-B) (-A):=by
 obtain⟨c,d⟩:=bg b a.k;have g:=bP b a.k;have e:=a.lo;have f:=a.hi;unfold Iv.neg;rw[Vh a.k];refine⟨fv (gh d) (gh c) ?_,?_,?_⟩<;>simp only[ie]<;>omega
theorem pD (b:x.W)(a:x.known=true):x.mag.val=max (x.lo.val.natAbs:Int) x.hi.val.natAbs:=by
 have:=(uJ b a).1;have e:x.abs.hi=x.mag:=by unfold Iv.abs;rw[Vh a]
 rwa[e]at this
theorem OJ {a:Int}(c:x.W)(b:x.known=true)(h:x.mag.val<=a):(iZ x).Bt (-a) a:=by
 have ok:=jM c b;have d:=pD c b;unfold iZ;rw[Vh b];have v:x.mag.opp.val=-x.mag.val:=zw ok;have ok2:x.mag.opp.Ok:=by rw[B3 ok];exact gh ok
 refine⟨fv ok2 ok (by omega),?_,?_⟩<;>simp only[]<;>omega
theorem Ae {d:Dy}{k V:Int}{a b:Nat}(ok:d.Ok)(q:k=(a:Int)-b)(w:a<=32768)(z:b<=32768)(i:V*pw b=d.val*pw a)(n:V.natAbs<dE):d.sclE k=0/\(d.scl k).val=V:=by
 have g:d.sclE k=0:=by
  unfold Dy.sclE;rw[Vh ⟨ok.valid,by omega,by omega⟩];unfold Dy.chkE;rw[Vh];by_cases f:d.m=[]
  ·rw[f];rfl
  ·have t:=gf ok.tr f;have I:=ok.odd f;have G:=ok.elo;have H:=ok.ehi;have e:V.natAbs*2^b=aa d.m*2^((d.e+16384).toNat+a):=by
    have:=W2 Int.natAbs i;rw[X8,X8,q54,q54]at this;have u:d.val.natAbs=aa d.m*2^(d.e+16384).toNat:=by
     unfold Dy.val;split
     ·rw[abu];rfl
     ·rfl
    rw[this,u,Vt,<-Vs]
   have o:b<=(d.e+16384).toNat+a:=by
    rcases Vm ((d.e+16384).toNat+a) b with h|h
    ·exfalso;have⟨j,c⟩:∃j,b=(d.e+16384).toNat+a+(j+1):=⟨b-((d.e+16384).toNat+a)-1,by omega⟩
     rw[c,Vs _ _ (j+1),<-Vt,Ym]at e;have:=Xe (Vl _) e;rw[VH,<-Vt]at this;omega
    ·exact h
   have⟨j,c⟩:∃j,(d.e+16384).toNat+a=j+b:=⟨(d.e+16384).toNat+a-b,by omega⟩
   rw[c,Vs,<-Vt]at e;have l:=Xe (Vl _) e;have m:ac (aa d.m)+j<=32768:=by
    rcases Vm 32768 (ac (aa d.m)+j)with h|h
    ·exfalso;rw[<-tV t,<-l]at h;have:=bitL_gt.1 h;unfold dE ci at n;omega
    ·exact h
   exact Dy.of_inR ok.bits (by omega) (by omega)
 refine⟨g,?_⟩;have:=By ok q g;rw[<-i]at this;exact Int.eq_of_mul_eq_mul_right (by have:=bf b;omega) this
theorem rU {k U V:Int}{a b:Nat}(l:x.W)(c:x.known=true)(i:k=(a:Int)-b)(g:a<=32768)(h:b<=32768)(d:U*pw b=x.lo.val*pw a)(f:V*pw b=x.hi.val*pw a)(o:U.natAbs<dE)(cV:V.natAbs<dE) :
 (x.scl k).known=true/\(x.scl k).lo.val=U/\(x.scl k).hi.val=V:=by
 obtain⟨m,n⟩:=bg l c;have q:=bP l c;obtain⟨t,j⟩:=Ae m i g h d o;obtain⟨u,s4⟩:=Ae n i g h f cV;unfold Iv.scl;rw[Vh c];have e:Iv.made (x.lo.scl k,x.lo.sclE k) (x.hi.scl k,x.hi.sclE k)=⟨x.lo.scl k,x.hi.scl k,false⟩:=by unfold Iv.made;rw[Vh ⟨t,u⟩]
 rw[e];refine⟨fv scl_ok scl_ok ?_,j,s4⟩;rw[j,s4];refine(ed (bf b)).1 ?_;rw[d,f];exact(ed (bf a)).2 q
end
end Go.Abs.W
namespace Go.Abs.W
def wk (P:Int):V:=.agg [.int .i64 P]
theorem nm (k:Int)(a:-4611686018427387904<=k)(b:k<=4611686018427387904):CQ prog qzj [.int .i64 k] (nI k k).v:=by
 refine ap rfl fun H=>?_
 have c:=qr k a b;rw[<-show nD k=Dy.of (decide (k<0)) k.natAbs 0 from rfl]at c;have o:(nD k).Ok:=bR (by omega);have d:=qN (nD k) o.w;rw[o.valid]at d;rw[Vh rfl,show Iv.pt (nD k)=nI k k from rfl]at d;simp;refine zq c ?_;simp;refine zq d ?_;simp[lim]
theorem qH (P:Int)(x y:Iv)(a:x.W)(b:y.W):CQ prog qsu [wk P,x.v,y.v] (x.add y P).v:=by
 refine ap rfl fun H=>?_
 simp[wk];refine ak rfl rfl rfl (Do x y P a b) ?_;simp[lim]
theorem sv (P:Int)(x y:Iv)(a:x.W)(b:y.W):CQ prog qsq [wk P,x.v,y.v] (x.mul y P).v:=by
 refine ap rfl fun H=>?_
 simp[wk];refine ak rfl rfl rfl (qw x y P a b) ?_;simp[lim]
theorem Dz (P:Int)(x y:Iv)(a:x.W)(b:y.W):CQ prog qst [wk P,x.v,y.v] (x.div y P).v:=by
 refine ap rfl fun H=>?_
 simp[wk];refine ak rfl rfl rfl (qv x y P a b) ?_;simp[lim]
theorem AS (P:Int)(x:Iv)(c:x.W)(e:0<=P)(d:P<=1000000):CQ prog qpz [wk P,x.v] (.bool (ft P x)):=by
 refine ap rfl fun H=>?_
 have m:=sf x c;have wr:IntKind.i64.wrap (-P)=-P:=by rw[wrap_i64]<;>omega
 simp[wk];refine zq m ?_;cases b:x.known
 ·simp[Dy.zero,lim];simp[ft,b]
 ·have ok:=jM c b;have s:=mX x.mag ok.w;have t:=lf x.mag ok.w;rw[ok.valid]at s t;simp;refine zq s ?_;by_cases a:x.mag.sgn=0
  ·simp[a,ft]
  ·simp[a];refine zq t ?_;simp[ft,b,a,wr]
theorem ZY (x:Iv)(b:x.W):CQ prog qxw [x.v] (iZ x).v:=by
 refine ap rfl fun H=>?_
 have m:=sf x b;simp;refine zq m ?_;cases a:x.known
 ·simp[Dy.zero,lim];refine zq dA ?_;simp[iZ,a,lim]
 ·have ok:=jM b a;simp;refine ak rfl rfl rfl (Bq x.mag ok.w) ?_;simp[iZ,a,lim]
def ne (P:Int)(y:Iv):Nat->Nat->Iv->Prop
 |0,_,_=>False
 |f+1,n,t=>ft P ((t.mul y P).div (nI n n) P)=true\/ne P y f (n+1) ((t.mul y P).div (nI n n) P)
theorem Z2 {P:Int}{y:Iv}{f n:Nat}{t s:Iv}(h:ft P ((t.mul y P).div (nI n n) P)=true):dp P y (f+1) n t s=((t.mul y P).div (nI n n) P,s.add ((t.mul y P).div (nI n n) P) P):=by
 unfold dp;simp only[h,Wm]
theorem AT {P:Int}{y:Iv}{f n:Nat}{t s:Iv}(h:ft P ((t.mul y P).div (nI n n) P)=false):dp P y (f+1) n t s=dp P y f (n+1) ((t.mul y P).div (nI n n) P) (s.add ((t.mul y P).div (nI n n) P) P):=by
 conv=>lhs;unfold dp
 simp only[h,Vv,V8]
theorem Ky (P:Int)(y:Iv)(L:y.W)(G:0<=P)(i:P<=1000000)(I:ne P y 1000 1 (nI 1 1)):CQ prog qss [wk P,y.v] (gA P y).v:=by
 refine ap rfl fun H=>?_
 have u:(nI 1 1).W:=cD (by omega) (by omega);have l:=nm 1 (by omega) (by omega);simp[wk];refine zq l ?_;simp;refine zq l ?_;simp;refine e9 (fun k E j=>∃(n:Nat) (t s:Iv),j=H++[some ⟨1,[.agg [.int .i64 P]],false,true⟩,some ⟨7,[y.v],false,true⟩,some ⟨7,[b7],false,true⟩,some ⟨7,[t.v],false,true⟩,some ⟨7,[s.v],false,true⟩] /\
  E 2=.ptr H.length 0 0/\E 3=.ptr (H.length+1) 0 0/\E 4=.ptr (H.length+2) 0 0/\E 5=.ptr (H.length+3) 0 0/\E 6=.ptr (H.length+4) 0 0/\E 7=.int .i64 n/\t.W/\s.W/\n+k<=2000/\ne P y k n t/\dp P y k n t s=dp P y 1000 1 (nI 1 1) (nI 1 1)) 1000 ?_ ?_
 ·exact⟨1,nI 1 1,nI 1 1,by simp[b7],by simp,by simp,by simp,by simp,by simp,by simp,u,u,by omega,I,rfl⟩
 ·rintro k E j ⟨n,t,s,rfl,b,o,p,c,h,q,wt,ws,N,d,r⟩;cases k with
  |zero=>exact d.elim
  |succ k=>
   have z:=sv P t y wt L;have J:(t.mul y P).W:=aD;have K:(nI (n:Int) (n:Int)).W:=cD (by omega) (by omega);have A:=nm n (by omega) (by omega);have cd:=Dz P (t.mul y P) (nI n n) J K;have g:((t.mul y P).div (nI n n) P).W:=aI;have w:=qH P s _ ws g;have v:(s.add ((t.mul y P).div (nI n n) P) P).W:=aH;have cs:=AS P _ g G i;have C:IntKind.i64.wrap ((n:Int)+1)=((n+1:Nat):Int):=by rw[wrap_i64]<;>omega
   have e:ft P ((t.mul y P).div (nI n n) P)=true\/ne P y k (n+1) ((t.mul y P).div (nI n n) P):=d;have D:=@Z2 P y k n t s;have F:=@AT P y k n t s;generalize hT:(t.mul y P).div (nI n n) P=T at *
   generalize M:s.add T P=S at *
   simp only[wk]at *
   refine b9 ?_;simp[ZE,b,o,c];refine zq z ?_;simp[q];refine zq A ?_;simp;refine zq cd ?_;simp[b,c,h];refine zq w ?_;simp[b,c,h];refine zq cs ?_;cases a:ft P T
   ·have f:=e.resolve_left (by simp[a]);simp[b,o,p,c,h,q];exact⟨k,by omega,n+1,T,S,by simp,by simpa using C,g,v,by omega,f,by rw[<-F a,r]⟩
   ·have m:=D a;rw[r]at m;have B:=ZY T g;have wr:(iZ T).W:=tQ g;have x:=qH P S (iZ T) v wr;simp[b,c,h];refine zq B ?_;simp;refine zq x ?_;simp[p,gA,m,lim,b7]
theorem pX (d:Dy):d.val.natAbs=d.absN:=by
 unfold Dy.val;split
 ·rw[abu];rfl
 ·rfl
theorem sgn0 {d:Dy}:d.sgn=0↔d.m=[]:=by
 unfold Dy.sgn;split
 ·rename_i h;simp[h]
 ·rename_i h;constructor
  ·intro a;split at a<;>omega
  ·intro a;exact absurd a h
theorem pw_lt_iff {a b:Nat}:pw a<pw b↔a<b:=by
 constructor
 ·intro h;rcases Vm a b with c|c
  ·exact c
  ·have:=bd c;omega
 ·intro h;have:=bd (show a+1<=b from h);rw[eE]at this;have:=bf a;omega
theorem U8 {P:Nat}{x:Iv}(d:x.W)(b:x.known=true)(j:P<=16000):ft P x=true↔x.mag.val<pw (16384-P):=by
 have ok:=jM d b;have k:=pD d b;have g:(x.mag.absN:Int)=x.mag.val:=by rw[<-pX];omega
 have c:=bf (16384-P);unfold ft;simp only[b,abx,aaN,WF,VT];by_cases a:x.mag.m=[]
 ·have:=Dy.absN_nil a;constructor
  ·intro _;omega
  ·intro _;exact .inl (sgn0.2 a)
 ·obtain⟨e,i⟩:=ok.absN_bounds a;have l:=ok.top_pos a;constructor
  ·rintro(h|h)
   ·exact absurd (sgn0.1 h) a
   ·have:2^(x.mag.top+16384).toNat<=2^(16384-P):=Vg (by omega) (by omega);rw[<-g];unfold pw;exact Int.ofNat_lt.2 (by omega)
  ·intro h;right;have f:pw (x.mag.top+16383).toNat<pw (16384-P):=by
    have:pw (x.mag.top+16383).toNat<=x.mag.absN:=by unfold pw;exact Int.ofNat_le.2 e
    omega
   have:=pw_lt_iff.1 f;omega
def Tb (n:Nat):Int:=if n=0 then pw 16384 else pw (16385-2*n)
theorem sG : Tb 0=pw 16384:=rfl
theorem sF (n:Nat):Tb (n+1)=pw (16385-2*(n+1)):=by unfold Tb;rw[Vk (by omega)]
structure ExpInv (P n:Nat)(t s:Iv):Prop where
 wt:t.W
 ws:s.W
 t:t.Bt (-(Tb n)) (Tb n)
 k:s.known=true
 lo:pw 16384+pw (16385-2*n)-3*((n:Int)*pw (16385-P))<=3*s.lo.val
 hi:3*s.hi.val<=5*pw 16384-pw (16385-2*n)+3*((n:Int)*pw (16385-P))
section
variable {P n : Nat} {y t s : Iv}
theorem i7 (a:32<=P)(b:P<=512):af (P:Int)=true:=precB_iff.2 (by omega)
theorem lh : (P:Int).toNat=P:=rfl
theorem yW (o:32<=P)(p:P<=512)(q:n<=300)(j:y.W)(g:y.Bt (-pw 16383) (pw 16383))(wt:t.W)(f:t.Bt (-(Tb n)) (Tb n)) :
 ((t.mul y P).div (nI ((n+1:Nat):Int) ((n+1:Nat):Int)) P).Bt (-(Tb (n+1))) (Tb (n+1)):=by
 have b:=i7 o p;have a:=bo (k:=((n+1:Nat):Int)) (by omega);have i:(nI ((n+1:Nat):Int) ((n+1:Nat):Int)).W:=cD (by omega) (by omega);have h:=bf 16384;rw[sF];by_cases d:n=0
 ·subst d;have m:=j8 (c:=pw 16383) wt j b f g (eK (by omega)) (by rw[sG,XH];exact VL _);exact lg (m:=((0+1:Nat):Int)*pw 16384) aD i b m a (by omega) (eK (by omega)) (Vu (bf _)) (by simp)
 ·have e:Tb n=pw (16385-2*n):=by unfold Tb;rw[Vk d]
  have m:=j8 (c:=pw (16384-2*n)) wt j b f g (eK (by omega)) (by
   rw[e,<-bK,<-bK];exact bd (by omega))
  refine lg (m:=((n+1:Nat):Int)*pw 16384) aD i b m a (Xl (by omega) h) (eK (by omega)) (Vu (bf _)) ?_;have l:pw (16384-2*n)=2*pw (16385-2*(n+1)):=by rw[<-eE];congr 1;omega
  rw[l,<-WD];refine(ed h).2 ?_;rw[XH];exact V1 (by omega) (Vu (bf _))
theorem ExpInv.step (f:32<=P)(g:P<=512)(o:n<=300)(z:y.W)(r:y.Bt (-pw 16383) (pw 16383))(h:ExpInv P n t s) :
 ExpInv P (n+1) ((t.mul y P).div (nI ((n+1:Nat):Int) ((n+1:Nat):Int)) P) (s.add ((t.mul y P).div (nI ((n+1:Nat):Int) ((n+1:Nat):Int)) P) P):=by
 have q:=i7 f g;have c:=yW f g o z r h.wt h.t;have a:((t.mul y P).div (nI ((n+1:Nat):Int) ((n+1:Nat):Int)) P).W:=aI;generalize (t.mul y P).div (nI ((n+1:Nat):Int) ((n+1:Nat):Int)) P=H at c a ⊢;have l:pw (16385-2*n)=4*pw (16385-2*(n+1)):=by
  rw[show 16385-2*n=(16385-2*(n+1))+1+1 by omega,eE,eE];omega
 have j:pw 16384=pw (16385-P)*pw (P-1):=by rw[<-bK];congr 1;omega
 have F:pw 31<=pw (P-1):=bd (by omega);have i:pw 31=2147483648:=rfl;have e:=bf (16385-P);have D:2147483648*pw (16385-P)<=pw 16384:=by
  rw[j,XH];exact V1 (by omega) (Vu e)
 have G:=bf (16385-2*(n+1));have E:(n:Int)*pw (16385-P)<=300*pw (16385-P):=VB (by omega) (Vu e);have k:0<=(n:Int)*pw (16385-P):=Xm (by omega) (Vu e);have d:((n+1:Nat):Int)*pw (16385-P)=(n:Int)*pw (16385-P)+pw (16385-P):=by
  rw[show((n+1:Nat):Int)=(n:Int)+1 by omega,X5,WN]
 have C:pw 16385=2*pw 16384:=eE 16384;have u:=h.lo;have v:=h.hi;have w:=c.lo;have x:=c.hi;have I:=bP a c.k;have sl:=bP h.ws h.k;rw[sF]at w x;rw[l]at u v;have b:=sH (m:=16385) (p:=(P:Int)) h.ws a q h.k c.k (by rw[lh];omega) (by omega) (by omega) (by omega);rw[lh]at b;have A:=b.lo;have B:=b.hi;refine⟨a,aH,c,b.k,?_,?_⟩
 ·rw[d];omega
 ·rw[d];omega
theorem Be {x:Iv}(b:x.W)(j:P<=512)(a:x.Bt (-(Tb (n+1))) (Tb (n+1)))(h:¬ft P x=true):2*(n+1)<P+2:=by
 rw[U8 b a.k (by omega)]at h;have k:=pD b a.k;have d:=a.lo;have e:=a.hi;have g:=bP b a.k;rw[sF]at d e;rcases Vm (2*(n+1)) (P+2)with c|c
 ·exact c
 ·exfalso;have i:pw (16385-2*(n+1))<pw (16384-P):=by
   rcases Vm (2*(n+1)) 16385 with f|f
   ·exact pw_lt_iff.2 (by omega)
   ·exact pw_lt_iff.2 (by omega)
  have:=bf (16385-2*(n+1));omega
theorem yV (d:32<=P)(c:P<=512)(i:y.W)(h:y.Bt (-pw 16383) (pw 16383)):∀(f n:Nat) (t:Iv),t.W->t.Bt (-(Tb n)) (Tb n)->n<=300->P+2<=2*(n+f)->0<f->ne P y f (n+1) t
 |0,n,t,wt,g,e,k,j=>absurd j (by decide)
 |f+1,n,t,wt,g,e,k,_=>by
  have b:=yW d c e i h wt g;by_cases a:ft P ((t.mul y P).div (nI ((n+1:Nat):Int) ((n+1:Nat):Int)) P)=true
  ·exact .inl a
  ·have:=Be aI c b a;exact .inr (yV d c i h f (n+1) _ aI b (by omega) (by omega) (by omega))
theorem xw (d:32<=P)(c:P<=512)(i:y.W)(g:y.Bt (-pw 16383) (pw 16383)):∀(f n:Nat) (t s:Iv),ExpInv P n t s->n<300->P+2<=2*(n+f)->0<f ->
 ∃m,m<=300/\ExpInv P m (dp P y f (n+1) t s).1 (dp P y f (n+1) t s).2/\ft P (dp P y f (n+1) t s).1=true
 |0,n,t,s,h,e,k,j=>absurd j (by decide)
 |f+1,n,t,s,h,e,k,_=>by
  have b:=h.step d c (by omega) i g;cases a:ft P ((t.mul y P).div (nI ((n+1:Nat):Int) ((n+1:Nat):Int)) P)
  ·have:=Be b.wt c b.t (by rw[a];decide);rw[AT a];exact xw d c i g f (n+1) _ _ b (by omega) (by omega) (by omega)
  ·rw[Z2 a];exact⟨n+1,e,b,a⟩
theorem Up : ExpInv P 0 (nI 1 1) (nI 1 1):=by
 have b:=bo (k:=1) (by decide);have w:(nI 1 1).W:=cD (by omega) (by omega);have c:=b.lo;have d:=b.hi;have a:pw (16385-2*0)=2*pw 16384:=eE 16384;have e:=bf 16384;rw[WN]at c d;exact⟨w,w,⟨b.k,by rw[sG];omega,by rw[sG];omega⟩,b.k,by rw[a];simp;omega,by rw[a];simp;omega⟩
theorem O3 (a:32<=P)(b:P<=512)(d:y.W)(c:y.Bt (-pw 16383) (pw 16383)):ne P y 1000 1 (nI 1 1):=
 yV a b d c 1000 0 (nI 1 1) (Up (P:=P)).wt (Up (P:=P)).t (by omega) (by omega) (by omega)
theorem KB (e:32<=P)(f:P<=512)(o:y.W)(k:y.Bt (-pw 16383) (pw 16383)):(gA P y).Bt (pw (16384-2*2^0)) (pw (16384+2*2^0)):=by
 obtain⟨m,B,inv,c⟩:=xw e f o k 1000 0 (nI 1 1) (nI 1 1) Up (by omega) (by omega) (by omega);have j:=i7 e f;unfold gA;rw[show(dp P y 1000 1 (nI 1 1) (nI 1 1))=dp P y 1000 (0+1) (nI 1 1) (nI 1 1) from rfl];have⟨T,hT⟩:∃T,T=(dp P y 1000 (0+1) (nI 1 1) (nI 1 1)).1:=⟨_,rfl⟩
 have⟨S,g⟩:∃S,S=(dp P y 1000 (0+1) (nI 1 1) (nI 1 1)).2:=⟨_,rfl⟩
 simp only[<-hT,<-g]at inv c ⊢;clear hT g;have a:=(U8 inv.wt inv.t.k (by omega)).1 c;have d:=OJ inv.wt inv.t.k (Vu a);have i:pw 16384=pw (16384-P)*pw P:=by rw[<-bK];congr 1;omega
 have A:pw 32<=pw P:=bd e;have h:pw 32=4294967296:=rfl;have l:=bf (16384-P);have x:4294967296*pw (16384-P)<=pw 16384:=by
  rw[i,XH];exact V1 (by omega) (Vu l)
 have q:pw (16385-P)=2*pw (16384-P):=by rw[<-eE];congr 1;omega
 have z:(m:Int)*pw (16385-P)<=300*pw (16385-P):=VB (by omega) (by omega);have v:pw 16385=2*pw 16384:=eE 16384;have w:pw 16386=2*pw 16385:=eE 16385;have u:pw 16384=2*pw 16383:=eE 16383;have r:pw 16383=2*pw 16382:=eE 16382;have E:=bf (16385-2*m);have C:=inv.lo;have D:=inv.hi;have F:=d.lo;have G:=d.hi;have sl:=bP inv.ws inv.k;have H:=bP (tQ inv.wt) d.k;have b:=sH (m:=16385) (p:=(P:Int)) inv.ws (tQ inv.wt) j inv.k d.k (by rw[lh];omega) (by omega) (by omega) (by omega);rw[lh]at b;refine b.mono ?_ ?_
 ·show pw 16382<=_;omega
 ·show _<=pw 16386;omega
theorem TK {m:Nat}(h:m<ci):pw m<((dE:Nat):Int):=by
 unfold pw dE;exact Int.ofNat_lt.2 (WA (by omega) h)
def j5 : Nat->Iv->Iv
 |0,y=>y
 |n+1,y=>j5 n (y.scl (-1))
theorem NM (e:y.W)(k:y.known=true){j m:Nat}(f:pw (j+1)∣y.lo.val)(g:pw (j+1)∣y.hi.val)(r:-pw (m+1)<=y.lo.val)(w:y.hi.val<=pw (m+1))(z:m<=32000) :
 (y.scl (-1)).Bt (-pw m) (pw m)/\pw j∣(y.scl (-1)).lo.val/\pw j∣(y.scl (-1)).hi.val:=by
 obtain⟨u,i⟩:=f;obtain⟨v,hv⟩:=g;have l:=bP e k;have d:pw 1=2:=rfl;have c:pw 0=1:=rfl;have x:pw (m+1)=2*pw m:=eE m;have h:pw (j+1)=2*pw j:=eE j;rw[h,WD]at i hv;have cap:=TK (m:=m) (by unfold ci;omega);obtain⟨o,p,q⟩:=rU (k:=-1) (a:=0) (b:=1) (U:=pw j*u) (V:=pw j*v) e k (by omega) (by omega) (by omega) (by rw[d,c];omega) (by rw[d,c];omega) (by omega) (by omega);rw[p,q];exact⟨⟨o,by omega,by omega⟩,⟨u,rfl⟩,⟨v,rfl⟩⟩
theorem Z4 (d:32<=P)(e:P<=512):∀(n:Nat) (y:Iv),y.W->y.Bt (-pw (16383+n)) (pw (16383+n))->pw n∣y.lo.val->pw n∣y.hi.val->n<=12 ->
 ne P (j5 n y) 1000 1 (nI 1 1)/\(jQ P n y).Bt (pw (16384-2*2^n)) (pw (16384+2*2^n))
 |0,y,f,c,_,_,_=>⟨O3 d e f c,KB d e f c⟩
 |n+1,y,f,c,g,h,p=>by
  obtain⟨j,k,l⟩:=NM (m:=16383+n) f c.k g h c.lo c.hi (by omega);obtain⟨a,b⟩:=Z4 d e n (y.scl (-1)) iN j k l (by omega);refine⟨a,?_⟩;have o:2^n<=2^11:=Vg (by omega) (by omega);have i:2^11=2048:=rfl;have es:2^(n+1)=2*2^n:=by rw[VH];omega
  generalize 2^n=K at *
  have w:(jQ P n (y.scl (-1))).W:=by
   cases n with
   |zero=>exact rn
   |succ n=>exact fe
  refine uz w (i7 d e) b (bf _) (eK (by omega)) (eK (by omega)) ?_ ?_
  ·rw[<-bK,<-bK];exact bd (by omega)
  ·rw[<-bK,<-bK];exact bd (by omega)
end
end Go.Abs.W
namespace Go.Abs.W
theorem zU {d:Dy}(ok:d.Ok):dD d=true↔d.val.natAbs<=(1000*pw 16384).natAbs:=by
 have a:=bR (k:=1000) (by omega);have v:=iP (k:=1000);have p:=bf 16384;unfold dD;rw[VT,gB (fG ok) a,jw,mY ok,v];omega
theorem sK {d:Dy}(ok:d.Ok)(c:dD d=true)(a:d.m≠[]):d.top<=10:=by
 have h:=(zU ok).1 c;obtain⟨b,_⟩:=ok.absN_bounds a;have f:=ok.top_pos a;rw[pX]at h;have e:pw 16394=1024*pw 16384:=by rw[show 16394=16384+10 from rfl,bK,XH];rfl
 have p:=bf 16384;have:pw (d.top+16383).toNat<pw 16394:=by
  have:pw (d.top+16383).toNat<=d.absN:=by unfold pw;exact Int.ofNat_le.2 b
  omega
 have:=pw_lt_iff.1 this;omega
theorem lB {d:Dy}(ok:d.Ok):(Iv.pt d).known=true:=fv ok ok (VL _)
theorem TI {d:Dy}{P n:Nat}(ok:d.Ok)(f:d.m≠[])(m:32<=P)(o:P<=512)(x:n=(d.top+1).toNat)(q:n<=16383) :
 ((Iv.pt d).rnd P).Bt (-pw (16383+n)) (pw (16383+n))/\pw n∣((Iv.pt d).rnd P).lo.val/\pw n∣((Iv.pt d).rnd P).hi.val:=by
 have c:=i7 m o;obtain⟨s,t⟩:=ok.absN_bounds f;have z:=ok.top_pos f;have v:=pX d;have k:=lB ok;have w:(Iv.pt d).W:=⟨ok.w,ok.w⟩
 have u:(d.absN:Int)<=pw (16383+n):=by
  have:2^(d.top+16384).toNat<=2^(16383+n):=Vg (by omega) (by omega);unfold pw;exact Int.ofNat_le.2 (by omega)
 have h:(Iv.pt d).Bt (-pw (16383+n)) (pw (16383+n)):=⟨k,by show -pw (16383+n)<=d.val;omega,by show d.val<=pw (16383+n);omega⟩
 have r:=(lT w c h (jz (eK (by omega))) (eK (by omega)))
 refine⟨r.1,?_⟩;by_cases j:n=0
 ·subst j;have i:pw 0=1:=rfl;rw[i];exact⟨Int.one_dvd _,Int.one_dvd _⟩
 ·have l:pw (16382+n)<=d.absN:=by
   have:2^(16382+n)<=2^(d.top+16383).toNat:=Vg (by omega) (by omega);unfold pw;exact Int.ofNat_le.2 (by omega)
  have p:pw (n+P)<=pw (16382+n):=bd (by omega);have g:=bf (16382+n);by_cases y:0<=d.val
  ·have a:(Iv.pt d).Bt (pw (16382+n)) (pw (16383+n)):=⟨k,by show pw (16382+n)<=d.val;omega,by show d.val<=pw (16383+n);omega⟩
   have b:=(lT w c a (eK (by omega)) (eK (by omega))).1;have e:=bP kz b.k;have:=b.lo;exact⟨pS r.2.1 (by rw[lh];omega),pS r.2.2 (by rw[lh];omega)⟩
  ·have a:(Iv.pt d).Bt (-pw (16383+n)) (-pw (16382+n)):=⟨k,by show -pw (16383+n)<=d.val;omega,by show d.val<=-pw (16382+n);omega⟩
   have b:=(lT w c a (jz (eK (by omega))) (jz (eK (by omega)))).1;have e:=bP kz b.k;have:=b.hi;exact⟨Int.dvd_neg.1 (pS (jz r.2.1) (by rw[lh];omega)),Int.dvd_neg.1 (pS (jz r.2.2) (by rw[lh];omega))⟩
theorem A1 {d:Dy}{p:Int}(ok:d.Ok)(m:af p=true)(l:dD d=true)(i:d.m≠[]) :
 ∃n P:Nat,n=(d.top+1).toNat/\n<=11/\gP p (n+24)=(P:Int)/\32<=P/\P<=512/\ne P (j5 n ((Iv.pt d).rnd P)) 1000 1 (nI 1 1)/\(jQ P n ((Iv.pt d).rnd P)).Bt (pw 12288) (pw 20480):=by
 have o:=precB_iff.1 m;have t:=sK ok l i;have⟨n,j⟩:∃n:Nat,n=(d.top+1).toNat:=⟨_,rfl⟩
 have⟨P,g⟩:∃P:Nat,P=(gP p (n+24)).toNat:=⟨_,rfl⟩
 have h:gP p (n+24)=(P:Int):=by unfold gP at g ⊢;omega
 have e:32<=P:=by unfold gP at g;omega
 have f:P<=512:=by unfold gP at g;omega
 obtain⟨q,r,s⟩:=TI (P:=P) ok i e f j (by omega);obtain⟨a,b⟩:=Z4 e f n ((Iv.pt d).rnd P) kz q r s (by omega);refine⟨n,P,j,by omega,h,e,f,a,b.mono (bd ?_) (bd ?_)⟩
 ·have k:2^n<=2^11:=Vg (by omega) (by omega);have c:2^11=2048:=rfl;omega
 ·have k:2^n<=2^11:=Vg (by omega) (by omega);have c:2^11=2048:=rfl;omega
theorem UZ {P:Int}:∀(n:Nat) (y:Iv),(jQ P n y).W
 |0,_=>rn
 |_+1,_=>fe
theorem A0 {d:Dy}{p:Int}(ok:d.Ok)(c:af p=true)(i:dD d=true):(iQ d p).Bt (pw 12288) (pw 20480)/\pw 11776∣(iQ d p).lo.val/\pw 11776∣(iQ d p).hi.val:=by
 have o:=precB_iff.1 c;unfold iQ;by_cases a:d.m=[]
 ·rw[Vh (sgn0.2 a)];have b:=bo (k:=1) (by decide);rw[WN]at b;have e:pw 16384=pw 11776*pw 4608:=by rw[<-bK]
  have t:(nI 1 1).lo.val=pw 16384:=by show(nD 1).val=_;rw[iP,WN]
  have u:(nI 1 1).hi.val=pw 16384:=by show(nD 1).val=_;rw[iP,WN]
  exact⟨b.mono (bd (by omega)) (bd (by omega)),⟨pw 4608,by rw[t,e]⟩,⟨pw 4608,by rw[u,e]⟩⟩
 ·rw[Vk (fun h=>a (sgn0.1 h))];obtain⟨n,P,l,m,g,v,w,_,b⟩:=A1 ok c i a;simp only;rw[<-l,g];obtain⟨f,r,s⟩:=lT (p:=p) (UZ n _) c b (eK (by omega)) (eK (by omega));have q:=bP kz f.k;have:=f.lo;have j:pw (11776+p.toNat)<=pw 12288:=bd (by omega);exact⟨f,pS r (by omega),pS s (by omega)⟩
theorem B4 {d:Dy}{p:Int}(ok:d.Ok):(iQ d p).W:=(DT p ok).1
theorem Uv (p more:Int)(a:-1000000<=p)(b:p<=1000000)(c:-1000000<=more)(d:more<=1000000):CQ prog qzl [.int .i64 p,.int .i64 more] (wk (gP p more)):=by
 refine ap rfl fun H=>?_
 have e:IntKind.i64.wrap (p+more)=p+more:=by rw[wrap_i64]<;>omega
 simp[wk,gP,e];omega
theorem q06 (d:Dy)(w:d.W):CQ prog qu1 [d.v] (.bool (dD d)):=by
 refine ap rfl fun H=>?_
 have c:=qr 1000 (by omega) (by omega);rw[<-show nD 1000=Dy.of (decide ((1000:Int)<0)) (1000:Int).natAbs 0 from rfl]at c;have a:d.abs.W:=by
  unfold Dy.abs;split
  ·exact⟨w.li,w.len⟩
  ·exact Dy.zero_W
 simp;refine ak rfl rfl rfl (Bp d w) ?_;simp;refine zq c ?_;simp;refine ak rfl rfl rfl (lj d.abs (nD 1000) a (bR (by omega)).w) ?_;simp[dD]
theorem xy (x:Iv)(p:Int)(w:x.W):CQ prog q2s [x.v,.int .i64 p] (.bool (x.known&&af p)):=by
 refine ap rfl fun H=>?_
 have c:=uS x w;rcases x with ⟨lo,hi,all⟩;cases all
 ·simp;refine zq c ?_;cases hv:(Iv.mk lo hi false).valid
  ·simp[Iv.known,hv]
  ·by_cases a:8<=p
   ·simp[Iv.known,hv,af,a]
   ·simp[Iv.known,hv,af,a]
 ·simp[Iv.known]
theorem yT (a b:Iv):CQ prog q2t [a.v,b.v] (bM a b).v:=by
 refine ap rfl fun H=>?_
 cases c:a.all
 ·cases d:b.all
  ·simp[c,d,bM,lim]
  ·simp[c,d];refine zq dA ?_;simp[bM,c,d,lim]
 ·simp[c];refine zq dA ?_;simp[bM,c,lim]
theorem Pe (P:Int)(g:0<=P)(a:P<=1000000)(n:Nat):∀(y:Iv),y.W->n<=1000->ne P (j5 n y) 1000 1 (nI 1 1)->CQ prog qpd [wk P,y.v,.int .i64 n] (jQ P n y).v:=by
 induction n with
 |zero=>
  intro y d _ b;refine ap rfl fun H=>?_
  have c:=Ky P y d g a b;simp only[wk]at c ⊢;simp;refine zq c ?_;simp[jQ,lim]
 |succ n h=>
  intro y d i b;have c:=h (y.scl (-1)) iN (by omega) b;refine ap rfl fun H=>?_
  have e:IntKind.i64.wrap (n:Int)=(n:Int):=by rw[wrap_i64]<;>omega
  have f:¬((n:Int)+1=0):=by omega
  simp only[wk]at c ⊢;simp[f];refine ak rfl rfl rfl (tR y (-1) d) ?_;simp[e];refine zq c ?_;simp;refine ak rfl rfl rfl (ZM (jQ P n (y.scl (-1))) P (UZ n _)) ?_;simp[jQ,lim]
theorem Ay (d:Dy)(p:Int)(ok:d.Ok)(f:af p=true)(m:dD d=true):CQ prog qzk [d.v,.int .i64 p] (iQ d p).v:=by
 refine ap rfl fun H=>?_
 have s:=mX d ok.w;have t:=lf d ok.w;have pt:=qN d ok.w;have r:=precB_iff.1 f;rw[ok.valid]at s t pt;rw[Vh rfl]at s t pt;by_cases b:d.m=[]
 ·have a:=sgn0.2 b;simp;refine zq s ?_;simp[a];refine ak rfl rfl rfl (nm 1 (by omega) (by omega)) ?_;simp[iQ,a,lim]
 ·have a:¬d.sgn=0:=fun h=>b (sgn0.1 h)
  obtain⟨n,P,o,q,c,v,w,u,_⟩:=A1 ok f m b;have i:iQ d p=(jQ P n ((Iv.pt d).rnd P)).rnd p:=by
   unfold iQ;rw[Vk a];simp only;rw[<-o,c]
  have x:=ok.top_pos b;have j:IntKind.i64.wrap (d.top+1)=d.top+1:=by rw[wrap_i64]<;>omega
  have k:(if d.top+1<0 then 0 else d.top+1)=(n:Int):=by split<;>omega
  have l:IntKind.i64.wrap ((n:Int)+24)=(n:Int)+24:=by rw[wrap_i64]<;>omega
  have g:=Uv p (n+24) (by omega) (by omega) (by omega) (by omega);rw[c]at g;have e:=Pe P (by omega) (by omega) n ((Iv.pt d).rnd P) kz (by omega) u;have rc:=uR (Iv.pt d) P (dX ok.w);have fc:=uR (jQ P n ((Iv.pt d).rnd P)) p (UZ n _);simp only[wk]at g e;simp;refine zq s ?_;simp[a];refine zq t ?_;simp[j,k,l];refine zq g ?_;simp;refine zq pt ?_;simp;refine zq rc ?_;simp;refine zq e ?_;simp;refine zq fc ?_;simp[i,lim]
theorem Sr (x:Iv)(p:Int)(w:x.W):CQ prog q4z [x.v,.int .i64 p] (x.exp p).v:=by
 refine ap rfl fun H=>?_
 have f:=xy x p w;simp;refine zq f ?_;cases d:x.known
 ·simp;refine zq dA ?_;simp[Iv.exp,d,lim]
 ·obtain⟨e,g⟩:=bg w d;cases a:af p
  ·simp;refine zq dA ?_;simp[Iv.exp,a,lim]
  ·simp;refine ak rfl rfl rfl (q06 x.lo e.w) ?_;cases b:dD x.lo
   ·simp;refine zq dA ?_;simp[Iv.exp,b,lim]
   ·simp;refine ak rfl rfl rfl (q06 x.hi g.w) ?_;cases c:dD x.hi
    ·simp;refine zq dA ?_;simp[Iv.exp,c,lim]
    ·simp;refine ak rfl rfl rfl (Ay x.lo p e a b) ?_;simp;refine ak rfl rfl rfl (Ay x.hi p g a c) ?_;simp;refine ak rfl rfl rfl (yT (iQ x.lo p) (iQ x.hi p)) ?_;simp[Iv.exp,d,a,b,c,lim]
