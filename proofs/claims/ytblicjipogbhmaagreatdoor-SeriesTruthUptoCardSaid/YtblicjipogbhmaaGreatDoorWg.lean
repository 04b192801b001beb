import Derived.Test.YtblicjipogbhmaaGreatDoorWa
namespace Go.Abs.W
structure Nr (x:Iv)(q δ:Rat):Prop where
 k:x.known=true
 lo:q-δ<=x.lo.rat
 hi:x.hi.rat<=q+δ
theorem Nr.mono {x:Iv}{q δ ε:Rat}(h:Nr x q δ)(k:δ<=ε):Nr x q ε:=⟨h.k,by have:=h.lo;grind,by have:=h.hi;grind⟩
theorem Nr.ends {x:Iv}{q δ:Rat}(w:x.W)(h:Nr x q δ):Bd (x.lo.rat-q) δ/\Bd (x.hi.rat-q) δ:=by
 have a:=h.lo;have b:=h.hi;have c:=rat_le.2 (bP w h.k);exact⟨⟨by grind,by grind⟩,by grind,by grind⟩
theorem Nr.nn {x:Iv}{q δ:Rat}(w:x.W)(h:Nr x q δ):0<=δ:=(h.ends w).1.nn
def fa (t p:Nat):Rat:=p2 t*(p2 p)⁻¹
theorem Mb (t p:Nat):0<fa t p:=Wr (fh t) (Rat.inv_pos.2 (fh p))
theorem hX : sc=p2 16384:=mc 16384
theorem us {t p:Nat}(a:p<=16384+t):((pw (16384+t-p):Int):Rat)=fa t p*sc:=by
 rw[mc,hX];unfold fa;have h:p2 (16384+t-p)*p2 p=p2 16384*p2 t:=by
  rw[<-ju,<-ju];exact W2 p2 (by omega)
 have m:=cW (fh p);have e:p2 (16384+t-p)*p2 p*(p2 p)⁻¹=p2 (16384+t-p):=by rw[VR,m,VP]
 rw[<-e,h];grind
theorem jW (t:Nat):((pw (16384+t):Int):Rat)=p2 t*sc:=by
 rw[mc,hX,ju];grind
theorem oq {d:Dy}{A:Int}{q:Rat}(h:A<=d.val)(a:q*sc<=(A:Rat)):q<=d.rat:=by
 have c:=dt h;rw[<-cL d]at c;exact Vw (Wp a c) dK
theorem DI {d:Dy}{A:Int}{q:Rat}(h:d.val<=A)(a:(A:Rat)<=q*sc):d.rat<=q:=by
 have c:=dt h;rw[<-cL d]at c;exact Vw (Wp c a) dK
theorem rz {v:Int}{q:Rat}{t:Nat}(hv:(v:Rat)=q*sc)(h:Bd q (p2 t)):-pw (16384+t)<=v/\v<=pw (16384+t):=by
 have c:=Vj dK;obtain⟨a,b⟩:=h;have d:=mul_nn (show 0<=p2 t-q by grind) c;have f:=mul_nn (show 0<=p2 t+q by grind) c;have e:=jW t;constructor
 ·refine Rat.intCast_le_intCast.1 ?_;rw[VQ,e,hv];grind
 ·refine Rat.intCast_le_intCast.1 ?_;rw[e,hv];grind
section
variable {p t : Nat} {x y : Iv} {q r δ ε : Rat}
theorem rG (b:x.W)(a:Nr x q δ):Nr x.neg (-q) δ:=by
 obtain⟨c,d⟩:=bg b a.k;have e:x.neg=⟨x.hi.neg',x.lo.neg',false⟩:=by unfold Iv.neg;rw[Vh a.k]
 have k:=(ma b ⟨a.k,VL _,VL _⟩).k;refine⟨k,?_,?_⟩
 ·rw[e];show _<=x.hi.neg'.rat;rw[UA];have:=a.hi;grind
 ·rw[e];show x.lo.neg'.rat<=_;rw[UA];have:=a.lo;grind
theorem lG (f:x.W)(g:y.W)(d:af (p:Int)=true)(a:Nr x q δ)(c:Nr y r ε)(C:t<=1000)(h:Bd (q+r) (p2 t-δ-ε)):Nr (x.add y p) (q+r) (δ+ε+fa t p):=by
 have i:=precB_iff.1 d;have e:=Vj dK;have F:=a.lo;have G:=c.lo;have H:=a.hi;have I:=c.hi;obtain⟨u,w⟩:=h;obtain⟨⟨l,n⟩,o,s⟩:=a.ends f;obtain⟨⟨z,A⟩,B,c4⟩:=c.ends g;obtain⟨j,D⟩:=rz (t:=t) (v:=x.lo.val+y.lo.val) (q:=x.lo.rat+y.lo.rat) (by rw[Wg,<-cL x.lo,<-cL y.lo];grind) ⟨by grind,by grind⟩;obtain⟨E,k⟩:=rz (t:=t) (v:=x.hi.val+y.hi.val) (q:=x.hi.rat+y.hi.rat) (by rw[Wg,<-cL x.hi,<-cL y.hi];grind) ⟨by grind,by grind⟩;have b:=sH (m:=16384+t) (p:=(p:Int)) f g d a.k c.k (by rw[lh];omega) (by omega) j k;rw[lh]at b;refine⟨b.k,oq b.lo ?_,DI b.hi ?_⟩
 ·rw[Yk,Wg,us (by omega),<-cL x.lo,<-cL y.lo];have m:=mul_nn (show 0<=(x.lo.rat+y.lo.rat)-(q+r-δ-ε) by grind) e;grind
 ·rw[Wg,Wg,us (by omega),<-cL x.hi,<-cL y.hi];have m:=mul_nn (show 0<=(q+r+δ+ε)-(x.hi.rat+y.hi.rat) by grind) e;grind
theorem we {u:Dy × Int}{le:Int->Prop}{v:Int}{s:Rat}(h:IsDn p u le)(b:∀g,le g↔g<=v)(hv:(v:Rat)<=s*sc)(l:s*sc<=(v:Rat)+1)(o:8<=p/\p<=512)(w:t<=1000)(k:Bd s (p2 t-1)):u.2=0/\s-2*fa t p<=u.1.rat:=by
 have e:le=fun g=>g<=v:=funext fun g=>propext (b g)
 rw[e]at h;have a:=dK;have n:1<=sc:=by rw[hX];have:=i8 16384;have:=bL 16384;grind
 obtain⟨B,C⟩:=k;have z:=mul_nn (show 0<=p2 t-1-s by grind) (Vj a);have A:=mul_nn (show 0<=p2 t-1+s by grind) (Vj a);have c:=jW t;have d:-pw (16384+t)<=v:=by
  refine Rat.intCast_le_intCast.1 ?_;rw[VQ,c];grind
 have f:v<=pw (16384+t):=by
  refine Rat.intCast_le_intCast.1 ?_;rw[c];grind
 obtain⟨i,j⟩:=h.err (m:=16384+t) (by omega) (by omega) d f;refine⟨i,oq j ?_⟩;rw[Yk,us (by omega)];have one:1<=fa t p*sc:=by
  rw[<-us (by omega)];have:(1:Int)<=pw (16384+t-p):=by have:=bf (16384+t-p);omega
  exact dt this
 grind
theorem wE {u:Dy × Int}{ge:Int->Prop}{v:Int}{s:Rat}(h:IsUp p u ge)(b:∀g,ge g↔v<=g)(hv:s*sc<=(v:Rat))(l:(v:Rat)<=s*sc+1)(o:8<=p/\p<=512)(w:t<=1000)(k:Bd s (p2 t-1)):u.2=0/\u.1.rat<=s+2*fa t p:=by
 have e:ge=fun g=>v<=g:=funext fun g=>propext (b g)
 rw[e]at h;have a:=dK;have n:1<=sc:=by rw[hX];have:=i8 16384;have:=bL 16384;grind
 obtain⟨B,C⟩:=k;have z:=mul_nn (show 0<=p2 t-1-s by grind) (Vj a);have A:=mul_nn (show 0<=p2 t-1+s by grind) (Vj a);have c:=jW t;have d:-pw (16384+t)<=v:=by
  refine Rat.intCast_le_intCast.1 ?_;rw[VQ,c];grind
 have f:v<=pw (16384+t):=by
  refine Rat.intCast_le_intCast.1 ?_;rw[c];grind
 obtain⟨i,j⟩:=h.err (m:=16384+t) (by omega) (by omega) d f;refine⟨i,DI j ?_⟩;rw[Wg,us (by omega)];have one:1<=fa t p*sc:=by
  rw[<-us (by omega)];have:(1:Int)<=pw (16384+t-p):=by have:=bf (16384+t-p);omega
  exact dt this
 grind
theorem xA {f g:Dy->Dy->Dy × Int}{le ge:Dy->Dy->Int->Prop}(c:∀a b,(f a b).1.Ok)(d:∀a b,(g a b).1.Ok)
 (o:IsDn p (f (au x y 0).1 (au x y 0).2) (le (au x y 0).1 (au x y 0).2)) (z:IsUp p (g (au x y 0).1 (au x y 0).2) (ge (au x y 0).1 (au x y 0).2))
 (w:∀h l,le (au x y 0).1 (au x y 0).2 h->ge (au x y 0).1 (au x y 0).2 l->h<=l)
 (cd:∀i,i<4->(f (au x y i).1 (au x y i).2).2=0/\q-δ<=(f (au x y i).1 (au x y i).2).1.rat)
 (k:∀i,i<4->(g (au x y i).1 (au x y i).2).2=0/\(g (au x y i).1 (au x y i).2).1.rat<=q+δ):Nr (Iv.four f g x y) q δ:=by
 have n:c9 f g x y 4:=fun i hi=>⟨(cd i hi).1,(k i hi).1⟩
 obtain⟨A,s⟩:=uW o z w c d;have j:=dK;have lo:∀i,i<4->-(-((q-δ)*sc)).floor<=(f (au x y i).1 (au x y i).2).1.val:=fun i hi=>by
  have h:=(cd i hi).2;have m:=mul_nn (show 0<=(f (au x y i).1 (au x y i).2).1.rat-(q-δ) by grind) (Vj j);have e:=cL (f (au x y i).1 (au x y i).2).1;have:-(f (au x y i).1 (au x y i).2).1.val<=(-((q-δ)*sc)).floor:=Rat.le_floor_iff.2 (by rw[VQ,<-e];grind);omega
 have hi:∀i,i<4->(g (au x y i).1 (au x y i).2).1.val<=((q+δ)*sc).floor:=fun i hi=>by
  have h:=(k i hi).2;have m:=mul_nn (show 0<=(q+δ)-(g (au x y i).1 (au x y i).2).1.rat by grind) (Vj j);have e:=cL (g (au x y i).1 (au x y i).2).1;exact Rat.le_floor_iff.2 (by rw[<-e];grind)
 have u:=Uy c (x:=x) (y:=y) lo;have v:=Uj d (x:=x) (y:=y) hi;rw[kI n];refine⟨fv (iD c 4) (iC d 4) (s n),oq u ?_,DI v (Rat.floor_le _)⟩;have:=Rat.floor_le (-((q-δ)*sc));rw[VQ];grind
theorem xW (c:x.W)(d:y.W)(a:Nr x q δ)(b:Nr y r ε){i:Nat}(hi:i<4):Bd ((au x y i).1.rat-q) δ/\Bd ((au x y i).2.rat-r) ε:=by
 have j:=bP c a.k;have k:=bP d b.k;obtain⟨e,f,g,h⟩:=jU hi j k;have l:=rat_le.2 e;have m:=rat_le.2 f;have n:=rat_le.2 g;have o:=rat_le.2 h;obtain⟨⟨s,u⟩,v,w⟩:=a.ends c;obtain⟨⟨z,A⟩,B,c4⟩:=b.ends d;exact⟨⟨by grind,by grind⟩,by grind,by grind⟩
theorem L3 {u v Q R:Rat}(a:Bd (u-q) δ)(hv:Bd (v-r) ε)(b:Bd q Q)(c:Bd r R):Bd (u*v-q*r) (Q*ε+R*δ+δ*ε):=by
 obtain⟨d,e⟩:=b.mul hv;obtain⟨f,g⟩:=c.mul a;obtain⟨h,i⟩:=a.mul hv;constructor<;>grind
theorem wF {P e g:Int}(f:0<P):e<=g*P↔-(-e/P)<=g:=by
 have d:=XS (a:=-g) (b:=-e) (c:=P) f;rw[V9]at d;constructor
 ·intro h;have:=d.2 (Int.neg_le_neg h);omega
 ·intro h;exact Int.le_of_neg_le_neg (d.1 (by omega))
theorem l5 {Q R:Rat}(F:x.W)(G:y.W)(e:af (p:Int)=true)(w:Nr x q δ)(z:Nr y r ε)(C:Bd q Q)(D:Bd r R)(E:t<=1000)(N:Q*R+(Q*ε+R*δ+δ*ε)<=p2 t-1):Nr (x.mul y p) (q*r) (Q*ε+R*δ+δ*ε+2*fa t p):=by
 have K:=precB_iff.1 e;have A:=bg F w.k;have B:=bg G z.k;have j:=bf 16384;have d:=dK;obtain⟨S,T⟩:=C.mul D;have k:((pw 16384:Int):Rat)=sc:=rfl;unfold Iv.mul;rw[w.k,z.k,e,Vh (by rfl)];have c:∀i,i<4->Bd ((au x y i).1.rat*(au x y i).2.rat-q*r) (Q*ε+R*δ+δ*ε):=fun i hi=>by
  obtain⟨a,b⟩:=xW F G w z hi;exact L3 a b C D
 have m:=fO (x:=x) (y:=y) (i:=0) (by omega) A B;refine xA (le:=fun u v g=>g*pw 16384<=u.val*v.val) (ge:=fun u v g=>u.val*v.val<=g*pw 16384) (fun _ _=>rMul_ok) (fun _ _=>rMul_ok) (m0 m.1 m.2 e) (nc m.1 m.2 e) (fun h f L M=>(ed j).1 (by omega)) ?_ ?_
 ·intro i hi;have o:=fO hi A B;obtain⟨H,I⟩:=c i hi;generalize (au x y i).1=u at *
  generalize (au x y i).2=v at *
  have ev:((u.val*v.val:Int):Rat)=u.rat*v.rat*sc*sc:=by rw[VG,<-cL u,<-cL v];grind
  have l:=dt (XU (u.val*v.val) (show pw 16384≠0 by omega));have f:=dt (Vu (W0 (u.val*v.val) j));rw[ev,VG,k]at l;rw[ev,VG,Wg,k,show((1:Int):Rat)=1 from rfl]at f;obtain⟨n,J⟩:=we (t:=t) (s:=u.rat*v.rat) (m0 o.1 o.2 e) (fun g=>(XS j).symm) (Vw l d) (Vw f d) ⟨by omega,by omega⟩ E ⟨by grind,by grind⟩;exact⟨n,by grind⟩
 ·intro i hi;have o:=fO hi A B;obtain⟨H,I⟩:=c i hi;generalize (au x y i).1=u at *
  generalize (au x y i).2=v at *
  have ev:((-(u.val*v.val):Int):Rat)=-(u.rat*v.rat*sc*sc):=by rw[VQ,VG,<-cL u,<-cL v];grind
  have l:=dt (XU (-(u.val*v.val)) (show pw 16384≠0 by omega));have f:=dt (Vu (W0 (-(u.val*v.val)) j));rw[ev,VG,k]at l;rw[ev,VG,Wg,k,show((1:Int):Rat)=1 from rfl]at f;have O:((-(u.val*v.val)/pw 16384:Int):Rat)<=-(u.rat*v.rat*sc):=Vw (by grind) d;have P:-(u.rat*v.rat*sc)<=((-(u.val*v.val)/pw 16384:Int):Rat)+1:=Vw (by grind) d;obtain⟨n,J⟩:=wE (t:=t) (v:=-(-(u.val*v.val)/pw 16384)) (s:=u.rat*v.rat) (nc o.1 o.2 e) (fun g=>wF j) (by rw[VQ];grind) (by rw[VQ];grind) ⟨by omega,by omega⟩ E ⟨by grind,by grind⟩;exact⟨n,by grind⟩
end
end Go.Abs.W
namespace Go.Abs.W
theorem xV {a b:Nat}(h:a<=b):(p2 b)⁻¹<=(p2 a)⁻¹:=tJ (fh a) (gm (Vg (by omega) h))
section
variable {p t : Nat} {x y : Iv} {q r δ ε : Rat}
theorem rx {s S:Rat}(K:x.W)(E:y.W)(f:af (p:Int)=true)(B:Nr x q δ)(j:Nr y r ε)(hr:1<=r-ε)(Y:s*r=q)(N:Bd s S)(O:t<=1000)(hb:S+(δ+S*ε)<=p2 t-1):Nr (x.div y p) s (δ+S*ε+2*fa t p):=by
 have W:=precB_iff.1 f;have I:=bg K B.k;have J:=bg E j.k;have p0:=bf 16384;have G:=dK;have F:((pw 16384:Int):Rat)=sc:=rfl;have H:pw 16384<=y.lo.val:=by
  have h:=j.lo;refine Rat.intCast_le_intCast.1 ?_;rw[<-cL y.lo,F];have:=mul_nn (show 0<=y.lo.rat-1 by grind) (Vj G);grind
 have q2:=bP E j.k;have q1:=bP K B.k;have sg:y.sgn≠0:=(qV E j.k).2 (.inl (by omega));have pos:∀i,i<4->pw 16384<=(au x y i).2.val:=fun i hi=>by
  obtain⟨g1,g2,U,g4⟩:=jU hi q1 q2;exact aaw H U
 unfold Iv.div;rw[B.k,j.k,f,aaE sg,Vh (by rfl)];have C:∀i,i<4->(au x y i).2.m≠[]:=fun i hi=>mB (by have:=pos i hi;omega)
 have c:∀i,i<4->∃w:Rat,w*(au x y i).2.rat=(au x y i).1.rat/\Bd (w-s) (δ+S*ε)/\1<=(au x y i).2.rat:=fun i hi=>by
  obtain⟨a,b⟩:=xW K E B j hi;generalize (au x y i).1.rat=u at *
  generalize (au x y i).2.rat=v at *
  obtain⟨P,Q⟩:=b;have v1:1<=v:=by grind
  have vi:=Rat.inv_pos.2 (show 0<v by grind);have vm:=cW (show 0<v by grind);have k:u*v⁻¹*v=u:=by rw[VR,Wx v⁻¹,vm,VP]
  refine⟨u*v⁻¹,k,?_,v1⟩;have A:(u*v⁻¹-s)*v=(u-q)-s*(v-r):=by rw[<-Y];grind
  obtain⟨L,M⟩:=N.mul (show Bd (v-r) ε from⟨P,Q⟩);obtain⟨a1,a2⟩:=a;have E0:0<=δ+S*ε:=by grind
  generalize u*v⁻¹-s=z at *
  constructor
  ·rcases(inferInstance:Decidable (-(δ+S*ε)<=z))with h|h
   ·exfalso;have m:=mul_nn (show 0<=-(δ+S*ε)-z by grind) (show 0<=v-1 by grind);have Z:=mul_nn E0 (show 0<=v-1 by grind);grind
   ·exact h
  ·rcases(inferInstance:Decidable (z<=δ+S*ε))with h|h
   ·exfalso;have m:=mul_nn (show 0<=z-(δ+S*ε) by grind) (show 0<=v-1 by grind);have Z:=mul_nn E0 (show 0<=v-1 by grind);grind
   ·exact h
 have D:=fO (x:=x) (y:=y) (i:=0) (by omega) I J;have v00:=pos 0 (by omega);obtain⟨s1,s2⟩:=N;refine xA (le:=fun u v g=>bD u.val v.val g) (ge:=fun u v g=>bE u.val v.val g) (fun _ _=>iS) (fun _ _=>iS) (qD D.1 D.2 f (C 0 (by omega))) (qE D.1 D.2 f (C 0 (by omega)))
  (nW (by omega)) ?_ ?_
 ·intro i hi;have o:=fO hi I J;have vp:=pos i hi;have e:=C i hi;obtain⟨w,k,⟨L,M⟩,_⟩:=c i hi;generalize (au x y i).1=u at *
  generalize (au x y i).2=v at *
  have d:0<v.val:=by omega
  have vr:0<(v.val:Rat):=kb d;have ev:((u.val*pw 16384:Int):Rat)=w*sc*(v.val:Rat):=by rw[VG,F,<-cL u,<-cL v,<-k];grind
  have l:=dt (XU (u.val*pw 16384) (show v.val≠0 by omega));have n:=dt (Vu (W0 (u.val*pw 16384) d));rw[ev,VG]at l;rw[ev,VG,Wg,show((1:Int):Rat)=1 from rfl]at n;obtain⟨A,T⟩:=we (t:=t) (s:=w) (qD o.1 o.2 f e) (fun g=>by rw[nl d];exact(XS d).symm) (Vw l vr) (Vw n vr) ⟨by omega,by omega⟩ O ⟨by grind,by grind⟩;exact⟨A,by grind⟩
 ·intro i hi;have o:=fO hi I J;have vp:=pos i hi;have e:=C i hi;obtain⟨w,k,⟨L,M⟩,_⟩:=c i hi;generalize (au x y i).1=u at *
  generalize (au x y i).2=v at *
  have d:0<v.val:=by omega
  have vr:0<(v.val:Rat):=kb d;have ev:((-(u.val*pw 16384):Int):Rat)=-(w*sc)*(v.val:Rat):=by rw[VQ,VG,F,<-cL u,<-cL v,<-k];grind
  have l:=dt (XU (-(u.val*pw 16384)) (show v.val≠0 by omega));have n:=dt (Vu (W0 (-(u.val*pw 16384)) d));rw[ev,VG]at l;rw[ev,VG,Wg,show((1:Int):Rat)=1 from rfl]at n;have k1:=Vw l vr;have k2:=Vw n vr;obtain⟨A,T⟩:=wE (t:=t) (v:=-(-(u.val*pw 16384)/v.val)) (s:=w) (qE o.1 o.2 f e) (fun g=>by rw[pV d];exact wF d) (by rw[VQ];grind) (by rw[VQ];grind) ⟨by omega,by omega⟩ O ⟨by grind,by grind⟩;exact⟨A,by grind⟩
end
theorem pZ {d:Dy}(ok:d.Ok):Nr (Iv.pt d) d.rat 0:=⟨lB ok,by show _<=d.rat;grind,by show d.rat<=_;grind⟩
theorem im {k:Int}(a:k.natAbs<=4611686018427387904):Nr (nI k k) (k:Rat) 0:=by
 have o:(nD k).Ok:=bR (by omega);have e:=ob k;exact⟨fv o o (VL _),by show _<=(nD k).rat;rw[e];grind,by show(nD k).rat<=_;rw[e];grind⟩
structure Half (x:Iv)(h:Rat):Prop where
 n:Nr x h (fa 0 100)
 lo:3/2<=h
 hi:h<=2
def qHalf : Iv:=⟨bA (-1),bA (-1),false⟩
def rq (d:Dy)(half:Iv)(w:Nat):Iv:=((Iv.pt d).div half w).add qHalf w
def rr (d:Dy)(half:Iv)(k:Int)(w:Nat):Iv:=(Iv.pt d).add ((nI k k).mul half w).neg w
theorem Oe : Nr qHalf (1/2) 0:=by
 have o:=jJ (n:=-1) (by omega) (by omega);have h:=sM (p:=1) (by omega);have e:(bA (-1)).rat=1/2:=by
  rw[show p2 1=2 from rfl]at h;have a:(bA (-((1:Nat):Int))).rat=(bA (-1)).rat:=rfl;rw[a]at h;grind
 exact⟨fv o o (VL _),by show _<=(bA (-1)).rat;rw[e];grind,by show(bA (-1)).rat<=_;rw[e];grind⟩
theorem xZ : qHalf.W:=⟨(jJ (n:=-1) (by omega) (by omega)).w,(jJ (n:=-1) (by omega) (by omega)).w⟩
theorem pJ {t p k:Nat}(h:p=t+k):fa t p=(p2 k)⁻¹:=by
 unfold fa;rw[h,ju];have a:=cW (fh t);have b:=cW (fh k);have c:=cW (Wr (fh t) (fh k));have d:(p2 t*p2 k)*((p2 t)⁻¹*(p2 k)⁻¹)=1:=by
  have:(p2 t*p2 k)*((p2 t)⁻¹*(p2 k)⁻¹)=(p2 t*(p2 t)⁻¹)*(p2 k*(p2 k)⁻¹):=by grind
  rw[this,a,b];grind
 have e:(p2 t*p2 k)⁻¹*((p2 t*p2 k)*((p2 t)⁻¹*(p2 k)⁻¹))=(p2 t*p2 k)⁻¹:=by rw[d,VP]
 rw[<-VR,Wx (p2 t*p2 k)⁻¹,c,WB]at e;rw[<-e,<-VR,a,WB]
theorem pg {d:Dy}{f:Iv}{h:Rat}(ok:d.Ok)(I:d.top<=20)(F:f.W)(j:Half f h):∃s,s*h=d.rat/\Bd s 1048576/\Nr (rq d f 380) (s+1/2) (fa 0 70):=by
 have v:af ((380:Nat):Int)=true:=by decide
 have D:=yw ok (t:=20) (by omega);rw[show p2 20=1048576 from rfl]at D;have u:0<h:=by have:=j.lo;grind
 have hi:=Rat.inv_pos.2 u;have A:=cW u;obtain⟨G,H⟩:=D;have c:fa 0 100=(p2 100)⁻¹:=pJ (by omega);have k:fa 0 70=(p2 70)⁻¹:=pJ (by omega);have g:fa 21 380=(p2 359)⁻¹:=pJ (by omega);have e:(p2 100)⁻¹=1/1267650600228229401496703205376:=by rw[show p2 100=1267650600228229401496703205376 from rfl];grind
 have o:(p2 70)⁻¹=1/1180591620717411303424:=by rw[show p2 70=1180591620717411303424 from rfl];grind
 have w:(p2 359)⁻¹<=(p2 100)⁻¹:=xV (by decide);have z:=Vj (Rat.inv_pos.2 (fh 359));have⟨s,B⟩:∃s,s=d.rat*h⁻¹:=⟨_,rfl⟩
 have es:s*h=d.rat:=by rw[B,VR,Wx h⁻¹,A,VP]
 have n:Bd s 1048576:=by
  have l:=j.lo;constructor
  ·rcases(inferInstance:Decidable (-1048576<=s))with i|i
   ·exfalso;have m:=mul_nn (show 0<=-1048576-s by grind) (show 0<=h-1 by grind);grind
   ·exact i
  ·rcases(inferInstance:Decidable (s<=1048576))with i|i
   ·exfalso;have m:=mul_nn (show 0<=s-1048576 by grind) (show 0<=h-1 by grind);grind
   ·exact i
 have l:=j.lo;have wp:(Iv.pt d).W:=dX ok.w;have C:=rx (t:=21) wp F v (pZ ok) j.n (by rw[c,e];grind) es n (by omega) (by rw[c,e,show p2 21=2097152 from rfl];grind);have E:=lG (t:=21) aI xZ v C Oe (by omega) (by
  obtain⟨a,b⟩:=n;rw[g,c,e]at *
  rw[show p2 21=2097152 from rfl];constructor<;>grind)
 refine⟨s,es,n,E.mono ?_⟩;rw[g,c,k,e,o]at *
 grind
theorem uB {d:Dy}{c:Iv}{h:Rat}{k:Int}(ok:d.Ok)(L:d.top<=20)(G:c.W)(w:Half c h)(J:(k:Rat)<=(rq d c 380).lo.rat)(K:(rq d c 380).lo.rat<=(k:Rat)+1):(rr d c k 380).Bt (-pw 16385) (pw 16385)/\k.natAbs<=1048580:=by
 have C:af ((380:Nat):Int)=true:=by decide
 obtain⟨s,es,P,O⟩:=pg ok L G w;have U:=w.lo;have N:=w.hi;have wp:(Iv.pt d).W:=dX ok.w;have Q:(rq d c 380).W:=aH;obtain⟨⟨H,I⟩,_⟩:=O.ends Q;have f:fa 0 100=(p2 100)⁻¹:=pJ (by omega);have z:fa 0 70=(p2 70)⁻¹:=pJ (by omega);have g:fa 23 380=(p2 357)⁻¹:=pJ (by omega);have e:(p2 100)⁻¹=1/1267650600228229401496703205376:=by rw[show p2 100=1267650600228229401496703205376 from rfl];grind
 have A:(p2 70)⁻¹=1/1180591620717411303424:=by rw[show p2 70=1180591620717411303424 from rfl];grind
 have l:(p2 357)⁻¹<=(p2 100)⁻¹:=xV (by decide);have F:=Vj (Rat.inv_pos.2 (fh 357));rw[z,A]at H I;obtain⟨Z,s2⟩:=P;have E:Bd (k:Rat) 1048578:=⟨by grind,by grind⟩
 have M:k.natAbs<=1048580:=by
  obtain⟨a,b⟩:=E;have S:(-1048578:Int)<=k:=Rat.intCast_le_intCast.1 a;have T:k<=(1048578:Int):=Rat.intCast_le_intCast.1 b;omega
 refine⟨?_,M⟩;have wk:(nI k k).W:=cD (by omega) (by omega);have m:=l5 (t:=23) wk G C (im (k:=k) (by omega)) w.n E (show Bd h 2 from⟨by grind,N⟩) (by omega) (by rw[f,e,show p2 23=8388608 from rfl];grind);have n:=rG aD m;have o:Bd (d.rat+-((k:Rat)*h)) (11/10):=by
  have W:=mul_nn (show 0<=(k:Rat)+1-(s+1/2-1/1180591620717411303424) by grind) (show 0<=h by grind);have Y:=mul_nn (show 0<=s+1/2+1/1180591620717411303424-(k:Rat) by grind) (show 0<=h by grind);constructor<;>grind
 have a:=lG (t:=23) wp (bZ aD) C (pZ ok) n (by omega) (by
  obtain⟨u,v⟩:=o;rw[g,f,e]at *
  rw[show p2 23=8388608 from rfl];constructor<;>grind)
 have B:=a.lo;have D:=a.hi;have j:=dK;obtain⟨u,v⟩:=o;have i:((pw 16385:Int):Rat)=2*sc:=by
  rw[mc,hX,show p2 16385=p2 (16384+1) from rfl,ju,Wx];rfl
 rw[g,f,e]at B D;rw[e]at l;refine⟨a.k,?_,?_⟩
 ·refine Rat.intCast_le_intCast.1 ?_;show _<=((((Iv.pt d).add ((nI k k).mul c 380).neg 380).lo.val:Int):Rat);rw[VQ,i,<-cL];have:=mul_nn (show 0<=((Iv.pt d).add ((nI k k).mul c 380).neg 380).lo.rat+2 by
   have:-2<=((Iv.pt d).add ((nI k k).mul c 380).neg 380).lo.rat:=Wp (by grind) B;grind) (Vj j)
  grind
 ·refine Rat.intCast_le_intCast.1 ?_;show((((Iv.pt d).add ((nI k k).mul c 380).neg 380).hi.val:Int):Rat)<=_;rw[i,<-cL];have:=mul_nn (show 0<=2-((Iv.pt d).add ((nI k k).mul c 380).neg 380).hi.rat by
   have:((Iv.pt d).add ((nI k k).mul c 380).neg 380).hi.rat<=2:=Wp D (by grind);grind) (Vj j)
  grind
end Go.Abs.W
namespace Go.Abs.W
def d3 (d:Dy):Nat:=(-d.e).toNat
def iI (d:Dy)(j:Nat):Nat:=aa d.m/2^(max j (d3 d))
def jB (d:Dy)(j:Nat):Bool:=decide (aa d.m%2^d3 d/2^j≠0)
def dG (d:Dy):Nat:=aa d.m/2^d3 d*2^d.e.toNat
def mT (d:Dy):Int:=if d.neg=true then(if aa d.m%2^d3 d≠0 then -(dG d:Int)-1 else -(dG d:Int))else dG d
theorem yS (n j:Nat):n/2^j=2*(n/2^(j+1))+n/2^j%2:=by
 have:n/2^(j+1)=n/2^j/2:=by rw[VH,Ww]
 omega
theorem K7 (n F j:Nat)(h:j<F):n%2^F/2^j%2=n/2^j%2:=by
 obtain⟨k,rfl⟩:∃k,F=j+(k+1):=⟨F-j-1,by omega⟩
 rw[Vs,Nat.mod_mul_right_div_self,VH,VE (2^k) 2,abm]
theorem BR {d:Dy}{j:Nat}(h:j<d3 d):iI d j=iI d (j+1)/\jB d j=(jB d (j+1) ||decide (aa d.m/2^j%2=1)):=by
 constructor
 ·unfold iI;rw[show max j (d3 d)=max (j+1) (d3 d) by omega]
 ·unfold jB;have s:=yS (aa d.m%2^d3 d) j;rw[K7 _ _ _ h]at s;have b:=Nat.mod_two_eq_zero_or_one (aa d.m/2^j);generalize aa d.m%2^d3 d/2^(j+1)=X at *
  rw[s];rcases b with b|b<;>rw[b]<;>by_cases a:X=0<;>simp[a]<;>omega
theorem BS {d:Dy}{j:Nat}(h:¬j<d3 d):iI d j=2*iI d (j+1)+aa d.m/2^j%2/\jB d j=jB d (j+1):=by
 constructor
 ·unfold iI;rw[show max j (d3 d)=j by omega,show max (j+1) (d3 d)=j+1 by omega];exact yS _ _
 ·unfold jB;have b:aa d.m%2^d3 d<2^d3 d:=WG _ (Vl _);have a:∀i,d3 d<=i->aa d.m%2^d3 d/2^i=0:=fun i hi=>We (Vx b (Vg (by omega) hi))
  rw[a j (by omega),a (j+1) (by omega)]
theorem SZ {d:Dy}(li:Li d.m):iI d (32*d.m.length)=0/\jB d (32*d.m.length)=false:=by
 have h:=bz li;rw[bB]at h;constructor
 ·unfold iI;exact We (Vx h (Vg (by omega) (by omega)))
 ·unfold jB;have:aa d.m%2^d3 d/2^(32*d.m.length)=0:=We (V4 (abX _ _) h);rw[this];rfl
theorem SY {d:Dy}(j:Nat):iI d j<=dG d:=by
 unfold iI dG;have a:aa d.m/2^max j (d3 d)<=aa d.m/2^d3 d:=Nat.div_le_div_left (Vg (by omega) (by omega)) (Vl _);exact Vp a (Xn _ (Vl _))
set_option maxHeartbeats 1000000 in
theorem Ms (d:Dy)(ok:d.Ok)(hN:dG d<1125899906842624)(he:d.e<=60):CQ prog Zh [d.v] (.int .i64 (mT d)):=by
 refine ap rfl fun H=>?_
 have li:=ok.li;have len:=ok.len;have elo:=ok.elo;obtain⟨t1,t2⟩:=SZ li;have eL:IntKind.i64.wrap ((d.m.length:Int)-1)=(d.m.length:Int)-1:=by rw[wrap_i64]<;>omega
 simp[Dy.v,lim];refine e9 (fun f E n=>f<=d.m.length/\n=H++[some ⟨3,[d.v],false,true⟩]/\E 1=.ptr H.length 0 0/\E 3=.int .i64 (iI d (32*f))/\E 4=.bool (jB d (32*f))/\E 5=.int .i64 ((f:Int)-1)) d.m.length ?_ ?_
 ·exact⟨Vo _,by simp[Dy.v,lim],by simp,by simp[t1],by simp[t2],by simp[eL]⟩
 ·rintro f E n ⟨hf,rfl,e,a,h,m⟩;refine b9 ?_;rcases f with _|f
  · -- all bits are read
    have L:¬(0:Int)<=((0:Nat):Int)-1:=by omega
    have Z:iI d (32*0)=aa d.m/2^d3 d:=by unfold iI;rw[show max (32*0) (d3 d)=d3 d by omega]
    have r0:jB d (32*0)=decide (aa d.m%2^d3 d≠0):=by unfold jB;rw[WS,Yc,aaj]
    rw[Z]at a;rw[r0]at h;have⟨A,F⟩:∃A,A=aa d.m/2^d3 d:=⟨_,rfl⟩
    have Y:dG d=A*2^d.e.toNat:=by unfold dG;rw[F]
    have⟨R,G⟩:∃R,R=aa d.m%2^d3 d:=⟨_,rfl⟩
    have W:mT d=if d.neg=true then(if R≠0 then -(dG d:Int)-1 else -(dG d:Int))else dG d:=by unfold mT;rw[G]
    rw[<-F]at a;rw[<-G]at h;rw[W];clear W F G Z r0 t1 t2;simp[I4,m];refine e9 (fun g E n=>g<=d.e.toNat/\n=H++[some ⟨3,[d.v],false,true⟩]/\E 1=.ptr H.length 0 0/\E 3=.int .i64 ((A*2^(d.e.toNat-g):Nat):Int)/\E 4=.bool (decide (R≠0))/\E 8=.int .i64 ((d.e.toNat-g:Nat):Int)) d.e.toNat ?_ ?_
    ·exact⟨Vo _,by simp[Dy.v,lim],by simp[e],by simp[a],by simp[h],by simp⟩
    ·rintro g E n ⟨hg,rfl,e,a,h,e8⟩;refine b9 ?_;rcases g with _|g
     ·have s:¬((d.e.toNat-0:Nat):Int)<d.e:=by omega
      rw[aba,<-Y]at a;have l:IntKind.i64.wrap (-(dG d:Int))=-(dG d:Int):=by rw[wrap_i64]<;>omega
      have t:IntKind.i64.wrap (-(dG d:Int)-1)=-(dG d:Int)-1:=by rw[wrap_i64]<;>omega
      have N:¬max d.e 0<d.e:=by omega
      generalize dG d=M at *
      cases I:d.neg
      ·simp[vj,e,a,e8,N,I,Dy.v,lim]
      ·by_cases hr:R=0
       ·simp[vj,e,a,h,e8,N,I,hr,Dy.v,lim,l]
       ·simp[vj,e,a,h,e8,N,I,hr,Dy.v,lim,l,t]
     ·have s:((d.e.toNat-(g+1):Nat):Int)<d.e:=by omega
      have⟨i,hi⟩:∃i,i=d.e.toNat-(g+1):=⟨_,rfl⟩
      have hi2:d.e.toNat-g=i+1:=by omega
      rw[<-hi]at a e8 s;have le:A*2^(i+1)<=dG d:=by rw[Y];exact VN _ (Vg (by omega) (by omega))
      have e2:A*2^(i+1)=2*(A*2^i):=by rw[VH,<-Vt,VE]
      have l:IntKind.i64.wrap (2*((A*2^i:Nat):Int))=((A*2^(i+1):Nat):Int):=by rw[e2,wrap_i64]<;>omega
      have t:IntKind.i64.wrap ((i:Int)+1)=((i+1:Nat):Int):=by rw[wrap_i64]<;>omega
      have⟨B,hB⟩:∃B,B=A*2^i:=⟨_,rfl⟩
      have⟨C,hC⟩:∃C,C=A*2^(i+1):=⟨_,rfl⟩
      rw[<-hB]at a l;rw[<-hC]at l;simp[vj,e,a,e8,s,l,t,Dy.v,lim];refine⟨g,by omega,by omega,?_,by simpa using h,?_⟩
      ·rw[hi2,hC];simp
      ·rw[hi2];simp
  ·have L:(0:Int)<=((f+1:Nat):Int)-1:=by omega
   have fi:((f+1:Nat):Int)-1=(f:Int):=by omega
   rw[fi]at m L;have j:f<d.m.length:=by omega
   simp[I4,m,L];refine e9 (fun g E n=>g<=32/\n=H++[some ⟨3,[d.v],false,true⟩]/\E 1=.ptr H.length 0 0/\E 3=.int .i64 (iI d (32*f+g))/\E 4=.bool (jB d (32*f+g))/\E 5=.int .i64 f/\E 6=.int .i64 ((g:Int)-1)) 32 ?_ ?_
   ·exact⟨Vo _,by simp[Dy.v,lim],by simp[e],by simp[a,aaY],by simp[h,aaY],by simp[m],by simp⟩
   ·rintro g E n ⟨hg,rfl,e,a,h,m,p⟩;refine b9 ?_;rcases g with _|k
    ·have s:¬(0:Int)<=((0:Nat):Int)-1:=by omega
     have l:IntKind.i64.wrap ((f:Int)-1)=(f:Int)-1:=by rw[wrap_i64]<;>omega
     simp[vg,m,p];exact⟨f,by omega,by omega,by simpa using e,by simpa using a,by simpa using h,l⟩
    ·have s:(0:Int)<=(k:Int):=by omega
     have ki:((k+1:Nat):Int)-1=(k:Int):=by omega
     rw[ki]at p;have lq:d.m[f]<4294967296:=li _ (Vy j);have O:IntKind.u64.wrap (k:Int)=k:=cJ _ (by omega);have u:cH .shr .u32 (d.m[f]:Int) (k:Int)=some (.int .u32 ((d.m[f]/2^k:Nat):Int)):=fm _ _ (by omega);have r:=ri li (32*f+k);rw[show(32*f+k)/32=f by omega,show(32*f+k)%32=k by omega,ce j]at r;have⟨y,hy⟩:∃y,y=d.m[f]/2^k:=⟨_,rfl⟩
     have J:y<2^32:=by rw[hy];exact V4 (VY _ _) lq
     rw[<-hy]at u r;have v:=CE y J;have⟨z,hz⟩:∃z,z=y%2:=⟨_,rfl⟩
     have z2:z<2:=by omega
     rw[<-hz]at v r;have P:IntKind.i64.wrap (z:Int)=z:=by rw[wrap_i64]<;>omega
     have Q:IntKind.i64.wrap (32*(f:Int))=32*(f:Int):=by rw[wrap_i64]<;>omega
     have S:IntKind.i64.wrap (d.e+32*(f:Int))=d.e+32*(f:Int):=by rw[wrap_i64]<;>omega
     have T:IntKind.i64.wrap (d.e+32*(f:Int)+k)=d.e+32*(f:Int)+k:=by rw[wrap_i64]<;>omega
     have U:IntKind.i64.wrap ((k:Int)-1)=(k:Int)-1:=by rw[wrap_i64]<;>omega
     by_cases w:32*f+k<d3 d
     ·have c:d.e+32*(f:Int)+k<0:=by unfold d3 at w;omega
      obtain⟨x,o⟩:=BR w;rw[r]at o;rw[show 32*f+(k+1)=32*f+k+1 by omega,<-x]at a;have b:E 4=.bool (jB d (32*f+k+1)):=h;have K:(decide (z=1))=decide ((z:Int)=1):=by congr 1;simp;omega
      cases q:jB d (32*f+k+1)
      ·rw[q]at o b;simp[vg,e,a,b,m,p,j,u32,O,u,v,P,Q,S,T,U,c,Dy.v,lim];refine⟨k,by omega,by omega,rfl,?_,rfl⟩;rw[o,<-K];simp
      ·rw[q]at o b;simp[vg,e,a,b,m,p,j,u32,O,u,v,P,Q,S,T,U,c,Dy.v,lim];refine⟨k,by omega,by omega,rfl,?_,rfl⟩;rw[o];simp
     ·have c:¬d.e+32*(f:Int)+k<0:=by unfold d3 at w;omega
      obtain⟨x,o⟩:=BS w;rw[r]at x;have le:=SY (d:=d) (32*f+k);have D:E 3=.int .i64 (iI d (32*f+k+1)):=a;have b:E 4=.bool (jB d (32*f+k+1)):=h;rw[<-o]at b;have l:IntKind.i64.wrap (2*((iI d (32*f+k+1):Nat):Int))=2*((iI d (32*f+k+1):Nat):Int):=by rw[wrap_i64]<;>omega
      have t:IntKind.i64.wrap (2*((iI d (32*f+k+1):Nat):Int)+z)=((iI d (32*f+k):Nat):Int):=by rw[x,wrap_i64]<;>omega
      simp[vg,e,D,b,m,p,j,u32,O,u,v,P,Q,S,T,U,c,l,t,Dy.v,lim];exact⟨k,by omega,by omega,rfl,rfl,rfl⟩
def dQ (r:Iv)(p:Int)(n:Nat)(t:Iv):Iv:=(t.mul r p).div (nI n n) p
def dY (n:Nat)(T:Iv):Iv:=if 2<=n%4 then T.neg else T
def mt (p:Int)(n:Nat)(T s:Iv):Iv:=if n%2=1 then s.add (dY n T) p else s
def mu (p:Int)(n:Nat)(T c:Iv):Iv:=if n%2=1 then c else c.add (dY n T) p
def iV (r:Iv)(p:Int):Nat->Nat->Iv->Iv->Iv->Iv × Iv
 |0,_,_,s,c=>(s,c)
 |f+1,n,t,s,c=>if fY t (-p)=true/\8<=n then(s,c)else iV r p f (n+1) (dQ r p n t) (mt p n (dQ r p n t) s) (mu p n (dQ r p n t) c)
def ka (r:Iv)(p:Int):Nat->Nat->Iv->Prop
 |0,n,t=>fY t (-p)=true/\8<=n
 |f+1,n,t=>(fY t (-p)=true/\8<=n)\/ka r p f (n+1) (dQ r p n t)
def Yu (r:Iv)(p:Int):Iv × Iv:=iV r p 1000 1 (nI 1 1) (nI 0 0) (nI 1 1)
def dU (r:Iv)(p:Int):Iv:=(Yu r p).1.add (eV (bA (1-p))) p
def dV (r:Iv)(p:Int):Iv:=(Yu r p).2.add (eV (bA (1-p))) p
theorem rJ {n:Nat}{T:Iv}(w:T.W):(dY n T).W:=by unfold dY;split;exact bZ w;exact w
theorem jF {p:Int}{n:Nat}{T s:Iv}(w:s.W):(mt p n T s).W:=by unfold mt;split;exact aH;exact w
theorem jG {p:Int}{n:Nat}{T c:Iv}(w:c.W):(mu p n T c).W:=by unfold mu;split;exact w;exact aH
theorem fU {r:Iv}{p:Int}{n:Nat}{t:Iv}:(dQ r p n t).W:=aI
theorem pd {r:Iv}{p:Int}:∀(f n:Nat) (t s c:Iv),s.W->c.W->(iV r p f n t s c).1.W/\(iV r p f n t s c).2.W
 |0,_,_,_,_,h,k=>⟨h,k⟩
 |f+1,n,t,s,c,h,k=>by
  unfold iV;split
  ·exact⟨h,k⟩
  ·exact pd f (n+1) _ _ _ (jF h) (jG k)
set_option maxHeartbeats 2000000 in
theorem QW (r:Iv)(p:Int)(wr:r.W)(h1:8<=p)(K:p<=10000)(hs:ka r p 1000 1 (nI 1 1)):CQ prog qzb [r.v,.int .i64 p] (.tup [(dU r p).v,(dV r p).v]):=by
 refine ap rfl fun H=>?_
 have i0:=kG 0 (by omega) (by omega);have i1:=kG 1 (by omega) (by omega);have w0:(nI 0 0).W:=ay (by decide);have w1:(nI 1 1).W:=ay (by decide);have g1:(nI 1 1).Gd:=.inr (bo (k:=1) (by decide)).k;have eS:dU r p=(iV r p 1000 1 (nI 1 1) (nI 0 0) (nI 1 1)).1.add (eV (bA (1-p))) p:=rfl;have eC:dV r p=(iV r p 1000 1 (nI 1 1) (nI 0 0) (nI 1 1)).2.add (eV (bA (1-p))) p:=rfl;rw[eS,eC];have U:IntKind.i64.wrap (-p)=-p:=by rw[wrap_i64]<;>omega
 have ew1:IntKind.i64.wrap (1-p)=1-p:=by rw[wrap_i64]<;>omega
 have⟨L,hL⟩:∃L,L=iV r p 1000 1 (nI 1 1) (nI 0 0) (nI 1 1):=⟨_,rfl⟩
 rw[<-hL];generalize nI 0 0=I0 at *
 generalize nI 1 1=I1 at *
 simp;refine zq i1 ?_;simp;refine zq i0 ?_;simp;refine zq i1 ?_;simp;refine e9 (fun f E H'=>∃(n:Nat) (t s c:Iv),(∃G,H'=H++some ⟨7,[r.v],false,true⟩ :: some ⟨7,[b7],false,true⟩ :: some ⟨7,[b7],false,true⟩ :: some ⟨7,[t.v],false,true⟩ :: some ⟨7,[s.v],false,true⟩ :: some ⟨7,[c.v],false,true⟩ :: G) /\
  E 1=.int .i64 p/\E 2=.ptr H.length 0 0/\E 4=.ptr (H.length+1) 0 0/\E 5=.ptr (H.length+2) 0 0/\E 6=.ptr (H.length+3) 0 0/\E 7=.ptr (H.length+4) 0 0/\E 8=.ptr (H.length+5) 0 0/\E 9=.int .i64 n/\t.W/\t.Gd/\s.W/\c.W/\n+f=1001/\ka r p f n t/\iV r p f n t s c=L) 1000 ?_ ?_
 ·exact⟨1,I1,I0,I1,⟨[],by simp[b7,lim]⟩,by simp,by simp,by simp,by simp,by simp,by simp,by simp,by simp,w1,g1,w0,w1,by omega,hs,hL.symm⟩
 ·rintro f E H' ⟨n,t,s,c,⟨G,rfl⟩,a,x,O,Q,g,z,e8,b,wt,gt,ws,wc,hf,w,hg⟩;have J:=zh t (-p) wt gt (by omega) (by omega);by_cases W:fY t (-p)=true/\8<=n
  ·obtain⟨m,hn⟩:=W;rw[m]at J;have u:(s,c)=L:=by
    rw[<-hg];cases f with
    |zero=>rfl
    |succ f=>show _=if fY t (-p)=true/\8<=n then _ else _;rw[Vh ⟨m,hn⟩]
   have o:=jJ (n:=1-p) (by omega) (by omega);have D:=DN (1-p) (by omega) (by omega);have F:=AA (bA (1-p));have y:=jS s (eV (bA (1-p))) p ws (nv o);have c4:=jS c (eV (bA (1-p))) p wc (nv o);rw[<-u];have n8:¬(n:Int)<8:=by omega
   generalize s.add (eV (bA (1-p))) p=S at *
   generalize c.add (eV (bA (1-p))) p=C at *
   generalize eV (bA (1-p))=A at *
   generalize bA (1-p)=d at *
   refine b9 ?_;simp[ui,a,g,U];refine zq J ?_;simp[a,b,n8,ew1];refine zq D ?_;simp;refine zq F ?_;simp[a,z];refine zq y ?_;simp[a,e8];refine zq c4 ?_;simp[O,Q,b7,lim]
  ·have e:fY t (-p)=false\/(fY t (-p)=true/\(n:Int)<8):=by
    cases m:fY t (-p)
    ·exact .inl rfl
    ·have:¬8<=n:=fun h=>W ⟨m,h⟩
     exact .inr ⟨rfl,by omega⟩
   obtain⟨f,rfl⟩:∃j,f=j+1:=by
    cases f with
    |zero=>unfold ka at w;exact absurd w W
    |succ j=>exact⟨j,rfl⟩
   have q:ka r p f (n+1) (dQ r p n t):=by
    unfold ka at w;rcases w with h|h
    ·exact absurd h W
    ·exact h
   have u:iV r p f (n+1) (dQ r p n t) (mt p n (dQ r p n t) s) (mu p n (dQ r p n t) c)=L:=by
    rw[<-hg];show _=if fY t (-p)=true/\8<=n then _ else _;rw[Vk W]
   have wm:(t.mul r p).W:=aD;have D:=nf t r p wt wr;have F:=kG (n:Int) (by omega) (by omega);have wI:(nI (n:Int) (n:Int)).W:=ay (by omega);have y:=lD (t.mul r p) (nI n n) p wm wI;rw[show(t.mul r p).div (nI n n) p=dQ r p n t from rfl]at y;have N:(dQ r p n t).W:=fU;have gT:(dQ r p n t).Gd:=lL wm wI;have c4:=tP (dQ r p n t) N;have wP:(dY n (dQ r p n t)).W:=rJ N;have c5:=jS s (dY n (dQ r p n t)) p ws wP;have c6:=jS c (dY n (dQ r p n t)) p wc wP;have wS:(mt p n (dQ r p n t) s).W:=jF ws;have wC:(mu p n (dQ r p n t) c).W:=jG wc;have v:IntKind.i64.wrap ((n:Int)+1)=((n+1:Nat):Int):=by rw[wrap_i64]<;>omega
   have eP:dY n (dQ r p n t)=if 2<=n%4 then(dQ r p n t).neg else dQ r p n t:=rfl;have l:mt p n (dQ r p n t) s=if n%2=1 then s.add (dY n (dQ r p n t)) p else s:=rfl;have i:mu p n (dQ r p n t) c=if n%2=1 then c else c.add (dY n (dQ r p n t)) p:=rfl;have m4:(n:Int).tmod 4=(n:Int)%4:=VZ (by omega);have m2:(n:Int).tmod 2=(n:Int)%2:=VZ (by omega);generalize mt p n (dQ r p n t) s=SS at *
   generalize mu p n (dQ r p n t) c=Z at *
   generalize s.add (dY n (dQ r p n t)) p=S1 at *
   generalize c.add (dY n (dQ r p n t)) p=C1 at *
   generalize dY n (dQ r p n t)=P at *
   generalize dQ r p n t=T at *
   generalize t.mul r p=M at *
   generalize nI (n:Int) (n:Int)=I at *
   by_cases h4:2<=n%4
   ·rw[Vh h4]at eP;subst eP;have Y:(2:Int)<=(n:Int)%4:=by omega
    by_cases K:n%2=1
    ·rw[Vh K]at l i;subst l i;have B:(n:Int)%2=1:=by omega
     refine b9 ?_;simp[ui,a,g,U];refine zq J ?_;rcases e with m|m;all_goals
      simp[a,x,g,b,m];refine zq D ?_;simp[b];refine zq F ?_;simp[a];refine zq y ?_;simp[g,b,m4,Y];refine zq c4 ?_;simp[a,b,m2,B,z];refine zq c5 ?_;simp[a,x,O,Q,g,z,e8,b];exact⟨f,by omega,n+1,T,SS,Z,by simp,v,N,gT,wS,wC,by omega,q,u⟩
    ·rw[Vk K]at l i;subst l i;have B:¬(n:Int)%2=1:=by omega
     refine b9 ?_;simp[ui,a,g,U];refine zq J ?_;rcases e with m|m;all_goals
      simp[a,x,g,b,m];refine zq D ?_;simp[b];refine zq F ?_;simp[a];refine zq y ?_;simp[g,b,m4,Y];refine zq c4 ?_;simp[a,b,m2,B,e8];refine zq c6 ?_;simp[a,x,O,Q,g,z,e8,b];exact⟨f,by omega,n+1,T,SS,Z,by simp,v,N,gT,wS,wC,by omega,q,u⟩
   ·rw[Vk h4]at eP;subst eP;have Y:¬(2:Int)<=(n:Int)%4:=by omega
    by_cases K:n%2=1
    ·rw[Vh K]at l i;subst l i;have B:(n:Int)%2=1:=by omega
     refine b9 ?_;simp[ui,a,g,U];refine zq J ?_;rcases e with m|m;all_goals
      simp[a,x,g,b,m];refine zq D ?_;simp[b];refine zq F ?_;simp[a];refine zq y ?_;simp[a,g,z,b,m2,m4,B,Y];refine zq c5 ?_;simp[a,x,O,Q,g,z,e8,b];exact⟨f,by omega,n+1,P,SS,Z,by simp,v,N,gT,wS,wC,by omega,q,u⟩
    ·rw[Vk K]at l i;subst l i;have B:¬(n:Int)%2=1:=by omega
     refine b9 ?_;simp[ui,a,g,U];refine zq J ?_;rcases e with m|m;all_goals
      simp[a,x,g,b,m];refine zq D ?_;simp[b];refine zq F ?_;simp[a];refine zq y ?_;simp[a,g,e8,b,m2,m4,B,Y];refine zq c6 ?_;simp[a,x,O,Q,g,z,e8,b];exact⟨f,by omega,n+1,P,SS,Z,by simp,v,N,gT,wS,wC,by omega,q,u⟩
def hT (T:Rat):Nat->Rat
 |0=>T
 |i+1=>hT T i/2
theorem T3 {x h:Rat}{n:Nat}(b:Bd x 3)(f:7<=n)(a:Bd (tm x n) h):Bd (tm x (n+1)) (h/2):=by
 have e:=mL x n;have d:=a.nn;obtain⟨g,p2⟩:=b.mul a;have N:=gm (show 8<=n+1 by omega);rw[show((8:Nat):Rat)=8 from rfl]at N;generalize ((n+1:Nat):Rat)=c at *
 generalize tm x (n+1)=B at *
 generalize tm x n=A at *
 constructor
 ·rcases(inferInstance:Decidable (-(h/2)<=B))with k|k
  ·exfalso;have m:=mul_nn (show 0<=c-8 by grind) (show 0<=-B by grind);grind
  ·exact k
 ·rcases(inferInstance:Decidable (B<=h/2))with k|k
  ·exfalso;have m:=mul_nn (show 0<=c-8 by grind) (show 0<=B by grind);grind
  ·exact k
theorem yy {x T:Rat}{j:Nat}(d:Bd x 3)(g:7<=j)(h:Bd (tm x j) T):∀i,Bd (tm x (j+i)) (hT T i)/\Bd (cs x (j+i)-cs x j) (T-hT T i)/\Bd (ss x (j+i)-ss x j) (T-hT T i)
 |0=>⟨h,by show Bd _ (T-T);constructor<;>grind,by show Bd _ (T-T);constructor<;>grind⟩
 |i+1=>by
  obtain⟨a,b,c⟩:=yy d g h i;have t:=T3 d (show 7<=j+i by omega) a;have e:cs x (j+(i+1))=cs x (j+i)+c4 (j+i+1)*tm x (j+i+1):=rfl;have f:ss x (j+(i+1))=ss x (j+i)+s4 (j+i+1)*tm x (j+i+1):=rfl;obtain⟨o,p⟩:=(mo (j+i+1)).1.mul t;obtain⟨q,r⟩:=(mo (j+i+1)).2.mul t;obtain⟨k,l⟩:=b;obtain⟨m,n⟩:=c;refine⟨t,?_,?_⟩
  ·rw[e];show Bd _ (T-hT T i/2);constructor<;>grind
  ·rw[f];show Bd _ (T-hT T i/2);constructor<;>grind
theorem qc {T:Rat}(h:0<=T):∀i,0<=hT T i
 |0=>h
 |i+1=>by have:=qc h i;show 0<=hT T i/2;grind
theorem NW {x T:Rat}{j n:Nat}(c:Bd x 3)(a:7<=j)(b:j<=n)(h:Bd (tm x j) T):Bd (cs x n-cs x j) T/\Bd (ss x n-ss x j) T:=by
 obtain⟨i,rfl⟩:=Wb b;obtain⟨_,⟨d,e⟩,⟨f,g⟩⟩:=yy c a h i;have:=qc h.nn i;exact⟨⟨by grind,by grind⟩,⟨by grind,by grind⟩⟩
def sE (j:Nat):Nat:=if j=0 then 16384 else if j<=3 then 16385 else 16388-j
theorem LP (j:Nat)(d:j<=10000):∃k:Nat,sE j+1=sE (j+1)+k/\pw k<=((j+1:Nat):Int):=by
 have e:pw 0=1:=rfl;have f:pw 1=2:=rfl;have p2:pw 2=4:=rfl;unfold sE;by_cases a:j=0
 ·refine⟨0,?_,by omega⟩;subst a;rfl
 ·by_cases c:j<=2
  ·refine⟨1,?_,by omega⟩;rw[Vk a,Vh (by omega),Vk (by omega),Vh (by omega)]
  ·by_cases b:j<=3
   ·refine⟨2,?_,by omega⟩;rw[Vk a,Vh b,Vk (by omega),Vk (by omega)];omega
   ·refine⟨2,?_,by omega⟩;rw[Vk a,Vk b,Vk (by omega),Vk (by omega)];omega
theorem kY (j:Nat):sE j<=16385:=by unfold sE;split;omega;split<;>omega
theorem r8 {r t:Iv}{p j:Nat}(wt:t.W)(wr:r.W)(b:af (p:Int)=true)(i:t.Bt (-pw (sE j)) (pw (sE j)))(h:r.Bt (-pw 16385) (pw 16385))(f:j<=10000):(dQ r p (j+1) t).Bt (-pw (sE (j+1))) (pw (sE (j+1))):=by
 have l:=kY j;have o:=kY (j+1);have m:=j8 (c:=pw (sE j+1)) wt wr b i h (eK (by omega)) (by rw[<-bK,<-bK];exact bd (by omega));have n:=bo (k:=((j+1:Nat):Int)) (by omega);have d:=bf 16384;have e:=bf (sE (j+1));obtain⟨k,g,a⟩:=LP j f;refine lg aD (ay (by omega)) b m n (Xl (by omega) d) (eK (by omega)) (Vu e) ?_;rw[<-WD];refine VB ?_ (Vu d);rw[g,bK];exact V1 a (Vu e)
theorem yz {r:Iv}{p:Nat}(wr:r.W)(e:af (p:Int)=true)(g:r.Bt (-pw 16385) (pw 16385)):∀(f j:Nat) (t:Iv),t.W->t.Bt (-pw (sE j)) (pw (sE j))->p+5<=j+f->j+f<=2000->ka r p f (j+1) t
 |0,j,t,wt,d,h,i=>by
  unfold ka;have k:=precB_iff.1 e;rw[Cp wt d.k (by omega),pD wt d.k];have a:=d.lo;have b:=d.hi;have le:=bP wt d.k;have c:pw (sE j)<pw (16384-p):=by
   refine pw_lt_iff.2 ?_;unfold sE;rw[Vk (by omega),Vk (by omega)];omega
  exact⟨by omega,by omega⟩
 |f+1,j,t,wt,d,h,i=>by
  unfold ka;right;exact yz wr e g f (j+1) _ fU (r8 wt wr e d g (by omega)) (by omega) (by omega)
theorem rI : (nI 1 1).Bt (-pw (sE 0)) (pw (sE 0)):=by
 have n:=bo (k:=1) (by decide);rw[WN]at n;have a:=bf 16384;exact n.mono (by show -pw 16384<=_;omega) (by show _<=pw 16384;omega)
theorem zW {r:Iv}{p:Nat}(wr:r.W)(a:af (p:Int)=true)(c:r.Bt (-pw 16385) (pw 16385)):ka r p 1000 1 (nI 1 1):=by
 have b:=precB_iff.1 a;exact yz wr a c 1000 0 _ (ay (by decide)) rI (by omega) (by omega)
theorem wB : ((pw 16385:Int):Rat)=2*sc:=by
 rw[mc,hX,show p2 16385=p2 (16384+1) from rfl,ju,Wx];rfl
theorem MS {r:Iv}{v:Nat->Rat}(c:r.Bt (-pw 16385) (pw 16385))(hv:r.Has v):∃N,∀n,N<=n->Bd (v n) 3:=by
 obtain⟨a,b⟩:=qu c.k hv;have u:r.hi.rat<=2:=DI c.hi (by rw[wB];exact V2);have l:-2<=r.lo.rat:=oq c.lo (by rw[VQ,wB];grind);obtain⟨N,d⟩:=a 1 (by grind);obtain⟨M,hM⟩:=b 1 (by grind);refine⟨max N M,fun n e=>?_⟩;have p:=d n (by omega);have q:=hM n (by omega);constructor<;>grind
theorem L5 {p:Nat}(h:1<=p)(d:p<=16384):(bA (1-(p:Int))).rat=2*(bA (-(p:Int))).rat:=by
 have a:=pF (n:=1-(p:Int)) (by omega);have b:=pF (n:=-(p:Int)) (by omega);rw[show(1-(p:Int)+16384).toNat=(16384-p)+1 by omega,eE]at a;rw[show(-(p:Int)+16384).toNat=16384-p by omega]at b;refine Ec (c:=sc) (by have:=dK;grind) ?_;have e:2*(bA (-(p:Int))).rat*sc=2*((bA (-(p:Int))).rat*sc):=by grind
 rw[e,cL,cL,a,b,VG];rfl
theorem AL {x:Iv}{s:Nat->Rat}(b:x.W)(k:x.known=true)(h:x.Has s):Bnd s:=by
 obtain⟨N,a⟩:=sJ b k h 1 (by grind);exact⟨x.mag.rat+1,N,a⟩
theorem sp : ∀n:Nat,(n%4=0/\c4 n=1/\s4 n=0)\/(n%4=1/\c4 n=0/\s4 n=1)\/(n%4=2/\c4 n=-1/\s4 n=0)\/(n%4=3/\c4 n=0/\s4 n=-1)
 |0=>.inl ⟨rfl,kC,ke⟩
 |n+1=>by
  rw[iz,gN];rcases sp n with ⟨h,a,b⟩|⟨h,a,b⟩|⟨h,a,b⟩|⟨h,a,b⟩<;>rw[a,b]
  ·exact .inr (.inl ⟨by omega,by grind,rfl⟩)
  ·exact .inr (.inr (.inl ⟨by omega,rfl,rfl⟩))
  ·exact .inr (.inr (.inr ⟨by omega,by grind,rfl⟩))
  ·exact .inl ⟨by omega,by grind,rfl⟩
theorem LU {v:Nat->Rat}{p:Int}{j:Nat}{T s:Iv}(d:T.W)(ws:s.W)(hT:T.Has (fun n=>tm (v n) (j+1)))(c:s.Has (fun n=>ss (v n) j)):(mt p (j+1) T s).Has (fun n=>ss (v n) (j+1)):=by
 have e:∀n,ss (v n) (j+1)=ss (v n) j+s4 (j+1)*tm (v n) (j+1):=fun _=>rfl
 unfold mt dY;rcases sp (j+1)with ⟨h,a,b⟩|⟨h,a,b⟩|⟨h,a,b⟩|⟨h,a,b⟩
 ·rw[Vk (by omega)];exact c.near (Near.of_eq fun n=>by rw[e,b];grind)
 ·rw[Vh (by omega),Vk (by omega)];exact(mF ws d c hT).near (Near.of_eq fun n=>by rw[e,b];grind)
 ·rw[Vk (by omega)];exact c.near (Near.of_eq fun n=>by rw[e,b];grind)
 ·rw[Vh (by omega),Vh (by omega)];exact(mF ws (bZ d) c (tC d hT)).near (Near.of_eq fun n=>by rw[e,b];grind)
theorem LT {v:Nat->Rat}{p:Int}{j:Nat}{T c:Iv}(f:T.W)(g:c.W)(hT:T.Has (fun n=>tm (v n) (j+1)))(d:c.Has (fun n=>cs (v n) j)):(mu p (j+1) T c).Has (fun n=>cs (v n) (j+1)):=by
 have e:∀n,cs (v n) (j+1)=cs (v n) j+c4 (j+1)*tm (v n) (j+1):=fun _=>rfl
 unfold mu dY;rcases sp (j+1)with ⟨h,a,b⟩|⟨h,a,b⟩|⟨h,a,b⟩|⟨h,a,b⟩
 ·rw[Vk (by omega),Vk (by omega)];exact(mF g f d hT).near (Near.of_eq fun n=>by rw[e,a];grind)
 ·rw[Vh (by omega)];exact d.near (Near.of_eq fun n=>by rw[e,a];grind)
 ·rw[Vk (by omega),Vh (by omega)];exact(mF g (bZ f) d (tC f hT)).near (Near.of_eq fun n=>by rw[e,a];grind)
 ·rw[Vh (by omega)];exact d.near (Near.of_eq fun n=>by rw[e,a];grind)
theorem yj {r:Iv}{p:Nat}{v:Nat->Rat}(wr:r.W)(q:af (p:Int)=true)(u:r.Bt (-pw 16385) (pw 16385))(hv:r.Has v):∀(f j:Nat) (t s c:Iv),f+j<=2000->t.W->t.Bt (-pw (sE j)) (pw (sE j))->s.W->c.W ->
 t.Has (fun n=>tm (v n) j)->s.Has (fun n=>ss (v n) j)->c.Has (fun n=>cs (v n) j)->ka r p f (j+1) t ->
 ((iV r p f (j+1) t s c).1.add (eV (bA (1-(p:Int)))) p).Has (Si v)/\((iV r p f (j+1) t s c).2.add (eV (bA (1-(p:Int)))) p).Has (Co v)
 |f,j,t,s,c,N,wt,i,ws,y,w,B,A,d=>by
  have G:=precB_iff.1 q;have o:=jJ (n:=1-(p:Int)) (by omega) (by omega);obtain⟨K,z⟩:=MS u hv;have fin:fY t (-(p:Int))=true/\8<=j+1->(s.add (eV (bA (1-(p:Int)))) p).Has (Si v)/\(c.add (eV (bA (1-(p:Int)))) p).Has (Co v):=by
   rintro⟨F,L⟩;have J:=zG (p:=p) (by omega);have D:=L5 (p:=p) (by omega) (by omega);have O:t.mag.rat<=(bA (-(p:Int))).rat:=by
    refine rat_le.2 ?_;rw[pF (by omega),show(-(p:Int)+16384).toNat=16384-p by omega];exact Vu ((Cp wt i.k (by omega)).1 F)
   obtain⟨M,hM⟩:=sJ wt i.k w (bA (-(p:Int))).rat J;have g:∀n,max (max K M) j<=n->Bd (cs (v n) n-cs (v n) j) (bA (1-(p:Int))).rat/\Bd (ss (v n) n-ss (v n) j) (bA (1-(p:Int))).rat:=fun n l=>by
    refine NW (z n (by omega)) (by omega) (by omega) ?_;obtain⟨a,b⟩:=hM n (by omega);rw[D];constructor<;>grind
   have H:(eV (bA (1-(p:Int)))).Has (fun n=>ss (v n) n-ss (v n) j):=Iv.Has.of_ev _ fun n l=>DZ (g n l).2
   have I:(eV (bA (1-(p:Int)))).Has (fun n=>cs (v n) n-cs (v n) j):=Iv.Has.of_ev _ fun n l=>DZ (g n l).1
   exact⟨(mF ws (nv o) B H).near (Near.of_eq fun n=>by show ss (v n) n=_;grind),(mF y (nv o) A I).near (Near.of_eq fun n=>by show cs (v n) n=_;grind)⟩
  cases f with
  |zero=>exact fin d
  |succ f=>
   by_cases k:fY t (-(p:Int))=true/\8<=j+1
   ·unfold iV;rw[Vh k];exact fin k
   ·unfold iV;rw[Vk k];have e:ka r p f (j+1+1) (dQ r p (j+1) t):=by
     unfold ka at d;rcases d with h|h
     ·exact absurd h k
     ·exact h
    have C:Bnd v:=⟨3,K,z⟩
    have m:Bnd (fun n=>tm (v n) j):=AL wt i.k w;have E:=ZX (p:=p) (n:=j+1) aD (by omega) (tB (p:=p) wt wr w hv m C);have hT:(dQ r p (j+1) t).Has (fun n=>tm (v n) (j+1)):=E.near (Near.of_eq fun n=>rfl);have x:(dQ r p (j+1) t).W:=fU;refine yj wr q u hv f (j+1) _ _ _ (by omega) x (r8 wt wr q i u (by omega)) (jF ws) (jG y) hT (LU x ws hT B) (LT x y hT A) e
theorem tp {r:Iv}{p:Int}:(dU r p).W:=aH
theorem tn {r:Iv}{p:Int}:(dV r p).W:=aH
theorem NL {r:Iv}{p:Nat}{v:Nat->Rat}(wr:r.W)(a:af (p:Int)=true)(b:r.Bt (-pw 16385) (pw 16385))(hv:r.Has v):(dU r p).Has (Si v)/\(dV r p).Has (Co v):=by
 have d:(nI 0 0).W:=ay (by decide);have c:(nI 1 1).W:=ay (by decide);exact yj wr a b hv 1000 0 _ _ _ (by omega) c rI d c (j9 1).has ((j9 0).has.near (Near.of_eq fun n=>by show s4 0*tm (v n) 0=_;rw[ke];show 0*1=((0:Int):Rat);grind)) ((j9 1).has.near (Near.of_eq fun n=>by show c4 0*tm (v n) 0=_;rw[kC];show 1*1=((1:Int):Rat);grind)) (zW wr a b)
theorem S7 {x:Iv}{q δ:Rat}(w:x.W)(h:Nr x q δ)(j:δ<q):Nr x.abs q δ:=by
 have l:=h.lo;have f:0<x.lo.val:=by
  have:0<x.lo.rat:=by grind
  have:=Wr this dK;rw[cL]at this;exact Rat.intCast_lt_intCast.1 (show((0:Int):Rat)<(x.lo.val:Rat) from this)
 have e:=bP w h.k;obtain⟨a,b⟩:=uJ w h.k;rw[Vh (.inl f)]at b;have c:x.abs.hi.val=x.hi.val:=by omega
 have d:x.abs.lo.val=x.lo.val:=by omega
 have k:x.abs.known=true:=(Cn w h.k).1;have g:x.abs.hi.rat=x.hi.rat:=by unfold Dy.rat;rw[c]
 have i:x.abs.lo.rat=x.lo.rat:=by unfold Dy.rat;rw[d]
 exact⟨k,by rw[i];exact l,by rw[g];exact h.hi⟩
theorem vR {q:Iv}{p:Nat}{l U:Rat}(G:q.W)(o:af (p:Int)=true)(m:fa 1 p=U)(z:0<=U)(S:1000000*U<=1)(A:Nr q l (8*U))(u:Bd l (1/16)) :
 ∀(f n:Nat) (w s:Iv) (v j b e:Rat),1<=n->n+2*f<=10000->w.W->s.W->Nr w v (32*U)->Nr s j e->0<=e->0<=b->4*b<=1->Bd v b->Bd j (1/2-b)->e+(f:Rat)*(40*U)<=1/4 ->
  ∃c,Nr (js q p f n w s) c (e+(f:Rat)*(40*U))/\Bd c (1/2)
 |0,n,w,s,v,j,b,e,_,_,_,_,_,r,_,b0,_,_,g,_=>by
  obtain⟨x,y⟩:=g;exact⟨j,r.mono (by rw[show((0:Nat):Rat)=0 from rfl];grind),by grind,by grind⟩
 |f+1,n,w,s,v,j,b,e,P,n2,Y,ws,O,r,e0,b0,Z,hv,g,M=>by
  have fc:((f+1:Nat):Rat)=(f:Rat)+1:=by push_cast;rfl
  have J:(0:Rat)<=(f:Rat):=by exact_mod_cast Xa f
  have fu:=mul_nn J z;rw[fc]at M ⊢;obtain⟨x,y⟩:=g;unfold js;split
  ·exact⟨j,r.mono (by grind),by grind,by grind⟩
  ·have uu:=mul_nn z (show 0<=1-1000000*U by grind);have i:p2 1=2:=rfl;obtain⟨T,W⟩:=hv;have B:=l5 (t:=1) Y G o O A (show Bd v (1/4) from⟨by grind,by grind⟩) u (by omega) (by rw[i];grind);rw[m]at B;have C:=rG aD (B.mono (ε:=32*U) (by grind));have F:Bd (-(v*l)) (b/16):=by
    obtain⟨H,I⟩:=Bd.mul ⟨T,W⟩ u;exact⟨by grind,by grind⟩
   have nn:(1:Rat)<=(n:Rat):=by exact_mod_cast P
   have⟨t,N⟩:∃t,t=-(v*l)/(n:Rat):=⟨_,rfl⟩
   have Q:t*(n:Rat)=-(v*l):=by rw[N];exact aaD (by grind)
   have E:Bd t (b/16):=by
    obtain⟨H,I⟩:=F;constructor
    ·rcases(inferInstance:Decidable (-(b/16)<=t))with h|h
     ·exfalso;have:=mul_nn (show 0<=-(b/16)-t by grind) (show 0<=(n:Rat)-1 by grind);have:=mul_nn (show 0<=b/16 by grind) (show 0<=(n:Rat)-1 by grind);grind
     ·exact h
    ·rcases(inferInstance:Decidable (t<=b/16))with h|h
     ·exfalso;have:=mul_nn (show 0<=t-b/16 by grind) (show 0<=(n:Rat)-1 by grind);have:=mul_nn (show 0<=b/16 by grind) (show 0<=(n:Rat)-1 by grind);grind
     ·exact h
   have D:=im (k:=(n:Int)) (by omega);rw[show(((n:Nat):Int):Rat)=(n:Rat) from rfl]at D;have d:=rx (t:=1) (bZ aD) (ay (by omega)) o C D (by grind) Q E (by omega) (by rw[i];grind);rw[m]at d;obtain⟨t1,t2⟩:=E;have a:=lG (t:=1) ws aI o r d (by omega) (by rw[i];exact⟨by grind,by grind⟩);rw[m]at a;obtain⟨c,K,L⟩:=vR G o m z S A u f (n+2) _ _ _ _ (b/16) (e+40*U) (by omega) (by omega) (bZ aD) aH C (a.mono (by grind)) (by grind) (by grind) (by grind) F ⟨by grind,by grind⟩ (by grind);exact⟨c,K.mono (by grind),L⟩
theorem OL {p:Nat}(a:p<=16000):Nr (eV (bA (-(p:Int)))) 0 (p2 p)⁻¹:=by
 have o:=jJ (n:=-(p:Int)) (by omega) (by omega);have r:=sM (p:=p) (by omega);have e:(bA (-(p:Int))).rat=(p2 p)⁻¹:=by
  have m:=cW (fh p);have:=W2 (fun x=>x*(p2 p)⁻¹) r;simp only[VR,m,VP,WB]at this;exact this
 have v:=pF (n:=-(p:Int)) (by omega);have b:=bf (-(p:Int)+16384).toNat;refine⟨fv (gh o) o (by rw[ie];omega),?_,?_⟩
 ·show 0-(p2 p)⁻¹<=(bA (-(p:Int))).neg'.rat;have:(bA (-(p:Int))).neg'.rat=-(bA (-(p:Int))).rat:=by unfold Dy.rat;rw[ie,VQ,aam]
  rw[this,e];grind
 ·show(bA (-(p:Int))).rat<=0+(p2 p)⁻¹;rw[e];grind
theorem x3 {m p:Nat}{U:Rat}(x:4<=m)(g:m<=1000)(e:af (p:Int)=true)(d:fa 1 p=U)(l:0<=U)(D:1000000*U<=1) :
 ∃c,Nr (dm (dZ m p) p) c (41000*U)/\Bd c (1/2):=by
 have A:=precB_iff.1 e;have b:p2 1=2:=rfl;have J:(4:Rat)<=(m:Rat):=by exact_mod_cast x
 have B:(m:Rat)<=1000:=by exact_mod_cast g
 have I:(0:Rat)<(m:Rat):=by grind
 have⟨z,hz⟩:∃z,z=1/(m:Rat):=⟨_,rfl⟩
 have E:z*(m:Rat)=1:=by rw[hz];exact aaD (by grind)
 have L:1/2000<=z:=by
  rcases(inferInstance:Decidable (1/2000<=z))with h|h
  ·exfalso;have:=mul_nn (show 0<=1/2000-z by grind) (show 0<=(m:Rat) by grind);grind
  ·exact h
 have r:z<=1/4:=by
  rcases(inferInstance:Decidable (z<=1/4))with h|h
  ·exfalso;have:=mul_nn (show 0<=z-1/4 by grind) (show 0<=(m:Rat)-4 by grind);grind
  ·exact h
 have K:=mul_nn l (show 0<=1-1000000*U by grind);have C:=im (k:=1) (by decide);have j:=im (k:=(m:Int)) (by omega);rw[show(((m:Nat):Int):Rat)=(m:Rat) from rfl]at j;have wf:(dZ m p).W:=aI;have y:=rx (t:=1) (ay (k:=1) (by decide)) (ay (k:=(m:Int)) (by omega)) e C j (by grind) (show z*(m:Rat)=((1:Int):Rat) from E) (show Bd z (1/4) from⟨by grind,r⟩) (by omega) (by rw[b];grind);rw[d]at y;have y:Nr (dZ m p) z (2*U):=y.mono (by grind);have o:=S7 wf y (by grind);have f:Bd z (1/4):=⟨by grind,r⟩
 have q:=l5 (t:=1) (fC wf) (fC wf) e o o f f (by omega) (by rw[b];grind);rw[d,<-oy wf]at q;have F:Bd (z*z) (1/16):=by
  obtain⟨G,H⟩:=Bd.mul f f;exact⟨by grind,by grind⟩
 obtain⟨c,i,w⟩:=vR fe e d l D (q.mono (ε:=8*U) (by grind)) F 1000 3 (dZ m p) (dZ m p) z z (1/4) (2*U) (by omega) (by omega) wf wf (y.mono (by grind)) y (by grind) (by grind) (by grind) f ⟨by grind,by grind⟩
  (by rw[show((1000:Nat):Rat)=1000 from rfl];grind)
 rw[show((1000:Nat):Rat)=1000 from rfl]at i;have s:=OL (p:=p) (by omega);have hi:2*(p2 p)⁻¹=U:=by rw[<-d];rfl
 obtain⟨u,v⟩:=w;have a:=lG (t:=1) (ph 1000 3 (dZ m p) (dZ m p) wf) (nv (jJ (n:=-(p:Int)) (by omega) (by omega))) e i s (by omega) (by rw[b];exact⟨by grind,by grind⟩);rw[d,show c+0=c by grind]at a;exact⟨c,a.mono (by grind),u,v⟩
def half380 : Iv:=(fq 380).scl (-1)
theorem MO {x y:Iv}{p:Int}(l:x.W)(m:y.W)(h:(x.add y p).known=true):aE p.toNat (x.add y p).lo.val/\aE p.toNat (x.add y p).hi.val:=by
 obtain⟨g,i⟩:=vz h;unfold Iv.add at h ⊢;split at h
 ·rename_i a;rw[Vh a];simp only[VA]at a;obtain⟨b,c⟩:=bg l g;obtain⟨d,f⟩:=bg m i;obtain⟨j,k,e⟩:=zS h;rw[e];exact⟨(pH b d a.2).grid j,(mJ c f a.2).grid k⟩
 ·cases h
theorem Cu : ∃h,Half half380 h:=by
 have i:af ((400:Nat):Int)=true:=by decide
 have⟨U,o⟩:∃U,fa 1 400=U:=⟨_,rfl⟩
 have G:0<=U:=by rw[<-o];exact Vj (Mb 1 400)
 have hi:2*(p2 400)⁻¹=U:=by rw[<-o];rfl
 have i1:(p2 400)⁻¹*p2 300=(p2 100)⁻¹:=by
  have q:=cW (fh 400);have F:=cW (fh 100);have e:p2 400=p2 100*p2 300:=ju 100 300;have:p2 100*((p2 400)⁻¹*p2 300)=p2 100*(p2 100)⁻¹:=by rw[F,<-q,e];grind
  have n:=fh 100;have c:=W2 (fun x=>(p2 100)⁻¹*x) this;simp only[<-VR,Wx (p2 100)⁻¹ (p2 100),F,WB,VP]at c;exact c
 have g:∀K,22<=K->(4000000:Rat)<=p2 K:=fun K S=>Wp (show(4000000:Rat)<=p2 22 by rw[show p2 22=4194304 from rfl];grind) (gm (Vg (by omega) S))
 have N:=g 300 (by omega);have Z:=Vj (Rat.inv_pos.2 (fh 400));have i2:4000000*(p2 400)⁻¹<=(p2 100)⁻¹:=by
  have:=mul_nn Z (show 0<=p2 300-4000000 by grind);grind
 have l:(p2 100)⁻¹=1/1267650600228229401496703205376:=by rw[show p2 100=1267650600228229401496703205376 from rfl];grind
 have u2:2000000*U<=1/1000:=by rw[l]at i2;grind
 have H:1000000*U<=1:=by grind
 obtain⟨a,T,I,J⟩:=x3 (m:=5) (by omega) (by omega) i o G H;obtain⟨b,W,L,M⟩:=x3 (m:=239) (by omega) (by omega) i o G H;have f:p2 4=16:=rfl;have u:fa 4 400=8*U:=by rw[<-hi];unfold fa;rw[f];grind
 have m1:=l5 (t:=4) (Q:=16) (R:=1/2) (ay (k:=16) (by decide)) uo i (im (k:=16) (by decide)) T ⟨by show(-16:Rat)<=16;grind,by show(16:Rat)<=16;grind⟩ ⟨I,J⟩ (by omega) (by rw[f];grind);have m2:=rG aD (l5 (t:=4) (Q:=4) (R:=1/2) (ay (k:=4) (by decide)) uo i (im (k:=4) (by decide)) W ⟨by show(-4:Rat)<=4;grind,by show(4:Rat)<=4;grind⟩ ⟨L,M⟩ (by omega) (by rw[f];grind));have q:=lG (t:=4) aD (bZ aD) i m1 m2 (by omega) (by
  rw[f,u,show((16:Int):Rat)=16 from rfl,show((4:Int):Rat)=4 from rfl];exact⟨by grind,by grind⟩)
 rw[u,show((16:Int):Rat)=16 from rfl,show((4:Int):Rat)=4 from rfl]at q;have s:Nr (fq 380) (16*a+-(4*b)) (830000*U):=Nr.mono q (by grind);have k:=s.k;obtain⟨s1,s2⟩:=qu k (yl (p:=380) (by omega) (by omega));have l17:(fq 380).lo.rat<=34/10:=SLe.const (s1.trans (SLe.of_le 0 fun n _=>by show 2*cz n<=34/10;have:=(n6 n).2;grind));have P:3<=(fq 380).hi.rat:=SLe.const ((SLe.of_le 0 fun n _=>by show 3<=2*cz n;have:=(n6 n).1;grind).trans s2);have n1:=s.lo;have n2:=s.hi;obtain⟨y,z⟩:=MO (p:=((380+20:Nat):Int)) aD (bZ aD) k;rw[show((nI 16 16).mul (dm (dZ 5 (380+20)) (380+20:Nat)) (380+20:Nat)).add ((nI 4 4).mul (dm (dZ 239 (380+20)) (380+20:Nat)) (380+20:Nat)).neg (380+20:Nat)=fq 380 from rfl]at y z;have v:pw (1+((380+20:Nat):Int).toNat)<=pw 16384:=bd (by omega);have j:=dK;have vl:pw 16384<=(fq 380).lo.val:=by
  have:=mul_nn (show 0<=(fq 380).lo.rat-1 by grind) (Vj j);have e:=cL (fq 380).lo;have:((pw 16384:Int):Rat)<=((fq 380).lo.val:Rat):=by rw[<-e];show sc<=_;grind
  exact Rat.intCast_le_intCast.1 this
 have Y:=bP jI k;have vh:(fq 380).hi.val<=pw 16386:=by
  have h4:(fq 380).hi.rat<=4:=by grind
  have:=mul_nn (show 0<=4-(fq 380).hi.rat by grind) (Vj j);have e:=cL (fq 380).hi;have O:((pw 16386:Int):Rat)=4*sc:=by rw[show 16386=16384+2 from rfl,jW];rfl
  have:((fq 380).hi.val:Rat)<=((pw 16386:Int):Rat):=by rw[<-e,O];grind
  exact Rat.intCast_le_intCast.1 this
 obtain⟨A,C⟩:=pS y (c:=1) (by omega);obtain⟨B,D⟩:=pS z (c:=1) (by omega);have r:pw 1=2:=rfl;have w:pw 0=1:=rfl;rw[r]at C D;have cap:pw 16386<(dE:Int):=by
  exact pw_lt_iff (b:=ci).2 (by decide)
 have pp:=bf 16384;obtain⟨E,x1,x2⟩:=rU (k:=-1) (a:=0) (b:=1) (U:=A) (V:=B) jI k (by omega) (by omega) (by omega) (by rw[r,w];omega) (by rw[r,w];omega) (by omega) (by omega);have r1:half380.lo.rat*2=(fq 380).lo.rat:=by
  unfold Dy.rat;show(((fq 380).scl (-1)).lo.val:Rat)*_*2=_;rw[x1,C,VG,show((2:Int):Rat)=2 from rfl];grind
 have r2:half380.hi.rat*2=(fq 380).hi.rat:=by
  unfold Dy.rat;show(((fq 380).scl (-1)).hi.val:Rat)*_*2=_;rw[x2,D,VG,show((2:Int):Rat)=2 from rfl];grind
 have d:fa 0 100=(p2 100)⁻¹:=pJ (by omega);rcases(inferInstance:Decidable (3/2<=half380.lo.rat))with h|h
 ·exact⟨3/2,⟨E,by rw[d];grind,by rw[d];grind⟩,by grind,by grind⟩
 ·exact⟨half380.lo.rat,⟨E,by rw[d];grind,by rw[d];grind⟩,h,by grind⟩
theorem AV {d:Dy}(ok:d.Ok):mT d*pw 16384<=d.val/\d.val<(mT d+1)*pw 16384/\(dG d:Int)*pw 16384<=d.val.natAbs:=by
 have elo:=ok.elo;have n:=pX d;have⟨K,B⟩:∃K:Nat,K=16384:=⟨_,rfl⟩
 have⟨P,a⟩:∃P:Nat,P=2^K:=⟨_,rfl⟩
 have t:0<P:=by rw[a];exact Vl _
 have l:∃r:Nat,d.absN=dG d*P+r/\r<P/\(aa d.m%2^d3 d=0↔r=0):=by
  rcases V5 d.e 0 with h|h
  ·have⟨F,hF⟩:∃F,F=d3 d:=⟨_,rfl⟩
   have C:F=(-d.e).toNat:=hF;have⟨c,G⟩:∃c,c=16384-F:=⟨_,rfl⟩
   have g:d.absN=aa d.m*2^c:=by unfold Dy.absN;rw[show(d.e+16384).toNat=c by omega]
   have v:P=2^F*2^c:=by rw[a,<-Vs];exact W2 (2^·) (by omega)
   have j:dG d=aa d.m/2^F:=by unfold dG;rw[<-hF,show d.e.toNat=0 by omega,Yc,XN]
   have u:=Wy (aa d.m) (2^F);have lt:aa d.m%2^F<2^F:=WG _ (Vl _);rw[<-hF,g,v,j];refine⟨aa d.m%2^F*2^c,?_,?_,⟨fun k=>by rw[k,WR],fun k=>(Nat.mul_eq_zero.1 k).resolve_right (abK (Vl c))⟩⟩
   ·rw[<-Vt,<-VI,VE (_/_),u]
   ·exact V7 lt (Vl _)
  ·have⟨E,z⟩:∃E,E=d.e.toNat:=⟨_,rfl⟩
   have p:d3 d=0:=by unfold d3;omega
   have g:d.absN=aa d.m*2^E*P:=by
    unfold Dy.absN;rw[a,Vt,<-Vs];exact W2 (fun i=>aa d.m*2^i) (by omega)
   have j:dG d=aa d.m*2^E:=by unfold dG;rw[p,Yc,aaj,z]
   exact⟨0,by rw[g,j,VF],t,⟨fun _=>rfl,fun _=>by rw[p,Yc];exact XO _⟩⟩
 obtain⟨r,q,D,s⟩:=l;have o:pw 16384=(P:Int):=by rw[a,<-B];rfl
 have y:(d.absN:Int)=dG d*(P:Int)+r:=by rw[q];simp
 rw[n,o];clear a o n q;have m:=X5 (dG d:Int) 1 (P:Int);have b:(-(dG d:Int))*P=-((dG d:Int)*P):=V9 _ _;have e:=X5 (-(dG d:Int)) 1 (P:Int);have f:=Int.sub_mul (-(dG d:Int)) 1 (P:Int);rw[b]at e f;rw[WN]at m e f;have w:mT d=if d.neg=true then(if aa d.m%2^d3 d≠0 then -(dG d:Int)-1 else -(dG d:Int))else dG d:=rfl;have x:d.val=if d.neg=true then -(d.absN:Int)else d.absN:=rfl;rw[w,x];generalize (dG d:Int)=N at *
 generalize (d.absN:Int)=A at *
 cases H:d.neg
 ·simp only[Vv,V8];rw[m];exact⟨by omega,by omega,by omega⟩
 ·simp only[Wm];split
  ·rename_i hz;have:r≠0:=fun h=>hz (s.2 h)
   rw[Int.sub_add_cancel,b,f];exact⟨by omega,by omega,by omega⟩
  ·rename_i hz;have:=s.1 (by omega);rw[b,e];exact⟨by omega,by omega,by omega⟩
theorem O7 {d:Dy}(ok:d.Ok):((mT d:Int):Rat)<=d.rat/\d.rat<((mT d:Int):Rat)+1:=by
 obtain⟨a,b,_⟩:=AV ok;have c:=dK;have g:((pw 16384:Int):Rat)=sc:=rfl;have f:=dt a;have e:=kb b;rw[VG,g,<-cL]at f e;rw[Wg]at e;exact⟨Vw f c,Rat.lt_of_mul_lt_mul_right e (Vj c)⟩
theorem MY {d:Dy}{t:Nat}(ok:d.Ok)(k:t<=40)(h:Bd d.rat (p2 t)):dG d<1125899906842624/\d.e<=60:=by
 obtain⟨_,_,c⟩:=AV ok;obtain⟨a,b⟩:=rz (cL d).symm h;have l:=bf 16384;have j:(dG d:Int)*pw 16384<=pw t*pw 16384:=by
  rw[<-bK,XP];omega
 have q:=Int.le_of_mul_le_mul_right j l;have r:pw t<=pw 40:=bd k;have g:pw 40=1099511627776:=rfl;refine⟨by omega,?_⟩;by_cases f:d.m=[]
 ·rw[(ok.zero f).2];omega
 ·rcases V5 60 d.e with e|e
  ·exfalso;have od:=ok.odd f;have i:d3 d=0:=by unfold d3;omega
   have m:dG d=aa d.m*2^d.e.toNat:=by unfold dG;rw[i,Yc,aaj]
   have n:2^60<=2^d.e.toNat:=Vg (by omega) (by omega);have o:1*2^d.e.toNat<=aa d.m*2^d.e.toNat:=Vn _ (by omega);have p:(2:Nat)^60=1152921504606846976:=rfl;omega
  ·exact e
def rK (d:Dy):Int:=mT (rq d half380 380).lo
def rR (d:Dy):Iv:=rr d half380 (rK d) 380
def gG (d:Dy):Iv:=if rK d%4=0 then dU (rR d) 380 else if rK d%4=1 then dV (rR d) 380 else if rK d%4=2 then(dU (rR d) 380).neg else(dV (rR d) 380).neg
def gH (d:Dy):Iv:=if rK d%4=0 then dV (rR d) 380 else if rK d%4=1 then(dU (rR d) 380).neg else if rK d%4=2 then(dV (rR d) 380).neg else dU (rR d) 380
theorem uU : half380.W:=iN
theorem RI : half380.Has cz:=(Lp jI (yl (p:=380) (by omega) (by omega))).near (Near.of_eq fun n=>by show cz n=2*cz n/2;grind)
theorem om {d:Dy}(ok:d.Ok)(j:d.top<=20):(rq d half380 380).lo.Ok/\dG (rq d half380 380).lo<1125899906842624/\(rq d half380 380).lo.e<=60/\(rR d).Bt (-pw 16385) (pw 16385)/\(rK d).natAbs<=1048580:=by
 have l:(rq d half380 380).W:=aH;obtain⟨h,Cu⟩:=Cu;obtain⟨s,_,r,k⟩:=pg ok j uU Cu;have o:=(bg l k.k).1;obtain⟨i,_⟩:=k.ends l;have f:fa 0 70=(p2 70)⁻¹:=pJ (by omega);have g:(p2 70)⁻¹=1/1180591620717411303424:=by rw[show p2 70=1180591620717411303424 from rfl];grind
 rw[f,g]at i;obtain⟨m,n⟩:=MY (t:=21) o (by omega) (by
  obtain⟨a,b⟩:=i;obtain⟨c,e⟩:=r;rw[show p2 21=2097152 from rfl];constructor<;>grind)
 obtain⟨p,q⟩:=O7 o;exact⟨o,m,n,uB ok j uU Cu p (Vj q)⟩
theorem ld {d:Dy}:(rR d).W:=aH
theorem vP {d:Dy}(ok:d.Ok)(a:d.top<=20):(rR d).Has (fun n=>d.rat-(rK d:Rat)*cz n):=by
 obtain⟨_,_,_,_,b⟩:=om ok a;exact yq (dX ok.w) aD (show(Iv.pt d).Has (fun _=>d.rat) from(ej d).has) (tB (cD (by omega) (by omega)) uU (j9 (rK d)).has RI (Bnd.const _) Bs)
theorem L7 {d:Dy}(ok:d.Ok)(j:d.top<=20):(gG d).Has (Si (cK d.rat))/\(gH d).Has (Co (cK d.rat)):=by
 obtain⟨_,_,_,k,_⟩:=om ok j;obtain⟨i,g⟩:=NL (p:=380) ld (by decide) k (vP ok j);have o:Bnd (fun n=>d.rat-(rK d:Rat)*cz n):=AL ld k.k (vP ok j);obtain⟨c,f⟩:=z6 o (rK d);have e:(fun n=>d.rat-(rK d:Rat)*cz n+(rK d:Rat)*cz n)=cK d.rat:=funext fun n=>by show _=d.rat;grind
 rw[e]at c f;have r:(dU (rR d) 380).W:=tp;have q:(dV (rR d) 380).W:=tn;have m:=tC r i;have l:=tC q g;unfold gG gH;rcases Dw (rK d)with ⟨h,a,b⟩|⟨h,a,b⟩|⟨h,a,b⟩|⟨h,a,b⟩<;>rw[a,b]at c f
 ·rw[Vh h,Vh h];exact⟨i.near (f.trans (Near.of_eq fun n=>by grind)),g.near (c.trans (Near.of_eq fun n=>by grind))⟩
 ·rw[Vk (by omega),Vh h,Vk (by omega),Vh h];exact⟨g.near (f.trans (Near.of_eq fun n=>by grind)),m.near (c.trans (Near.of_eq fun n=>by grind))⟩
 ·rw[Vk (by omega),Vk (by omega),Vh h,Vk (by omega),Vk (by omega),Vh h];exact⟨m.near (f.trans (Near.of_eq fun n=>by grind)),l.near (c.trans (Near.of_eq fun n=>by grind))⟩
 ·rw[Vk (by omega),Vk (by omega),Vk (by omega),Vk (by omega),Vk (by omega),Vk (by omega)];exact⟨l.near (f.trans (Near.of_eq fun n=>by grind)),i.near (c.trans (Near.of_eq fun n=>by grind))⟩
theorem TN {d:Dy}:(gG d).W:=by
 unfold gG;split;exact tp;split;exact tn;split;exact bZ tp;exact bZ tn
theorem TM {d:Dy}:(gH d).W:=by
 unfold gH;split;exact tn;split;exact bZ tp;split;exact bZ tn;exact tp
theorem Oj (k:Int):(k.tmod 4+4).tmod 4=k%4/\-4<=k.tmod 4/\k.tmod 4<=4:=by
 have h:=Int.tmod_eq_emod (a:=k) (b:=4);have c:k.tmod 4=k%4\/k.tmod 4=k%4-4:=by
  rw[h];split
  ·left;omega
  ·right;rfl
 generalize k.tmod 4=t at *
 refine⟨?_,by omega,by omega⟩;rw[VZ (by omega)];omega
set_option maxHeartbeats 2000000 in
theorem q5o (d:Dy)(ok:d.Ok)(z:d.top<=20):CQ prog qzc [d.v,.int .i64 320] (.tup [(gG d).v,(gH d).v]):=by
 refine ap rfl fun H=>?_
 obtain⟨o,r,s,i,F⟩:=om ok z;have wp:(Iv.pt d).W:=dX ok.w;have t:CQ prog Zp [.int .i64 380] (fq 380).v:=QA 380 (by omega) (by omega);have u:CQ prog Zg [(fq 380).v,.int .i64 (-1)] half380.v:=DX (fq 380) (-1) jI;have v:=tT d;have c4:CQ prog YS [(Iv.pt d).v,half380.v,.int .i64 380] ((Iv.pt d).div half380 (380:Nat)).v:=lD (Iv.pt d) half380 380 wp uU;have j:=DN (-1) (by omega) (by omega);have l:CQ prog YR [((Iv.pt d).div half380 (380:Nat)).v,qHalf.v,.int .i64 380] (rq d half380 380).v:=jS ((Iv.pt d).div half380 (380:Nat)) qHalf 380 aI xZ;have w:CQ prog Zh [(rq d half380 380).lo.v] (.int .i64 (rK d)):=Ms (rq d half380 380).lo o r s;have x:=kG (rK d) (by omega) (by omega);have y:CQ prog YU [(nI (rK d) (rK d)).v,half380.v,.int .i64 380] ((nI (rK d) (rK d)).mul half380 (380:Nat)).v:=nf (nI (rK d) (rK d)) half380 380 (cD (by omega) (by omega)) uU;have f:CQ prog YV [(Iv.pt d).v,((nI (rK d) (rK d)).mul half380 (380:Nat)).v,.int .i64 380] (rR d).v:=Ui (Iv.pt d) ((nI (rK d) (rK d)).mul half380 (380:Nat)) 380 wp aD
 have g:=QW (rR d) 380 ld (by omega) (by omega) (zW (p:=380) ld (by decide) i);have a:=tP (dU (rR d) 380) tp;have b:=tP (dV (rR d) 380) tn;obtain⟨e,G,J⟩:=Oj (rK d);have c:IntKind.i64.wrap ((rK d).tmod 4+4)=(rK d).tmod 4+4:=by rw[wrap_i64]<;>omega
 have eq:qHalf=⟨bA (-1),bA (-1),false⟩:=rfl;have n:gG d=if rK d%4=0 then dU (rR d) 380 else if rK d%4=1 then dV (rR d) 380 else if rK d%4=2 then(dU (rR d) 380).neg else(dV (rR d) 380).neg:=rfl;have m:gH d=if rK d%4=0 then dV (rR d) 380 else if rK d%4=1 then(dU (rR d) 380).neg else if rK d%4=2 then(dV (rR d) 380).neg else dU (rR d) 380:=rfl;rw[n,m];rw[eq]at l;clear n m eq o r s i;generalize (dU (rR d) 380).neg=B at *
 generalize (dV (rR d) 380).neg=A at *
 generalize dU (rR d) 380=S at *
 generalize dV (rR d) 380=C at *
 generalize rR d=R at *
 generalize (nI (rK d) (rK d)).mul half380 (380:Nat)=M at *
 generalize nI (rK d) (rK d)=I at *
 generalize rK d=k at *
 generalize rq d half380 380=Q at *
 generalize (Iv.pt d).div half380 (380:Nat)=D at *
 generalize Iv.pt d=P at *
 generalize half380=E at *
 generalize fq 380=K at *
 generalize bA (-1)=q at *
 simp;refine zq t ?_;simp;refine zq u ?_;simp;refine zq v ?_;simp;refine zq c4 ?_;simp;refine zq j ?_;simp;refine zq j ?_;simp;refine zq l ?_;simp;refine zq w ?_;simp;refine zq x ?_;simp;refine zq y ?_;simp;refine zq f ?_;simp;refine zq g ?_;rcases(by omega:k%4=0\/k%4=1\/k%4=2\/k%4=3)with h|h|h|h
 ·simp[c,e,h,lQ,Bx,lP,dx]
 ·simp[c,e,h];refine zq a ?_;simp
 ·simp[c,e,h];refine zq a ?_;simp;refine zq b ?_;simp
 ·simp[c,e,h];refine zq b ?_;simp[lQ,Bx,lP,dx]
