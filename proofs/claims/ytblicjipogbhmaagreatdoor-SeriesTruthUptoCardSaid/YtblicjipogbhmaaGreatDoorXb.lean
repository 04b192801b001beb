import Derived.Test.YtblicjipogbhmaaGreatDoorHk
import Derived.Test.YtblicjipogbhmaaGreatDoorXa
import Derived.Test.YtblicjipogbhmaaGreatDoorHp
import Derived.Test.YtblicjipogbhmaaGreatDoorFe
import Derived.Test.YtblicjipogbhmaaGreatDoorHy
namespace Go.Abs.W
theorem uq {x:Iv}{p:Int}{q:Rat}(j:x.W)(f:x.In q):(x.rnd p).In q:=by
 unfold Iv.rnd;split
 ·rename_i h;simp only[VA]at h;obtain⟨c,b⟩:=h;obtain⟨d,e⟩:=bg j c;obtain⟨g,i⟩:=f c;unfold Iv.made;split
  ·rename_i a;intro _;have u:=dt ((qT d b).at a.1);have v:=dt ((qU e b).at a.2);exact⟨Wp u g,Wp i v⟩
  ·exact .whole
 ·exact .whole
def cg (q:Rat):Rat:=if 0<=q then q else -q
theorem ND (q:Rat):cg q*cg q=q*q:=by unfold cg;split<;>grind
theorem rl {x:Iv}{q:Rat}(j:x.W)(l:x.In q):x.abs.In (cg q):=by
 cases b:x.known
 ·have:x.abs=Iv.whole:=by unfold Iv.abs;rw[b];rfl
  rw[this];exact .whole
 ·obtain⟨i,d⟩:=uJ j b;obtain⟨o,p⟩:=l b;intro _;have g:=dK;have e:cg q*sc=cg (q*sc):=by
   unfold cg;by_cases h:0<=q
   ·rw[Vh h,Vh (mul_nn h (Vj g))]
   ·have a:¬0<=q*sc:=by
     have:=Wr (show 0 < -q by grind) g;grind
    rw[Vk h,Vk a];grind
  rw[e];have n:0<=cg (q*sc):=by unfold cg;split<;>grind
  have m:=bP j b;generalize q*sc=u at *
  refine⟨?_,?_⟩
  ·by_cases f:0<x.lo.val
   ·have c:=dt (show x.abs.lo.val<=x.lo.val by rw[d,Vh (.inl f)];omega);have k:=dt (Vu f);unfold cg;rw[Vh (by grind)];grind
   ·by_cases a:x.hi.val<0
    ·have c:=dt (show x.abs.lo.val<=-x.hi.val by rw[d,Vh (.inr a)];omega);have k:=kb a;rw[VQ]at c;unfold cg;rw[Vk (by grind)];grind
    ·rw[d,Vk (by omega)];exact n
  ·unfold cg;split
   ·have c:=dt (show x.hi.val<=x.abs.hi.val by rw[i];omega);grind
   ·have c:=dt (show -x.lo.val<=x.abs.hi.val by rw[i];omega);rw[VQ]at c;grind
theorem kT {x:Iv}{p:Int}{q:Rat}(a:x.W)(b:x.In q):(x.sq p).In (q*q):=by
 rw[oy a,<-ND];exact jO (fC a) (fC a) (rl a b) (rl a b)
def Iv.Has (x:Iv)(s:Nat->Rat):Prop:=∃c:Nat->Rat,(∀n,x.In (c n))/\Near s c
theorem Iv.Has.near {x:Iv}{s t:Nat->Rat}(h:x.Has s)(k:Near t s):x.Has t:=by
 obtain⟨c,a,b⟩:=h;exact⟨c,a,k.trans b⟩
theorem Iv.In.has {x:Iv}{q:Rat}(h:x.In q):x.Has (fun _=>q):=⟨_,fun _=>h,Near.refl _⟩
theorem Near.of_ev {s t:Nat->Rat}(N:Nat)(h:∀n,N<=n->s n=t n):Near s t:=fun c b=>⟨N,fun n a=>by have:=h n a;constructor<;>grind⟩
theorem Iv.Has.of_ev {x:Iv}{s:Nat->Rat}(N:Nat)(h:∀n,N<=n->x.In (s n)):x.Has s:=
 ⟨fun n=>s (max n N),fun n=>h _ (by omega),Near.of_ev N fun n a=>by rw[Nat.max_eq_left a]⟩
theorem Iv.Has.whole {s:Nat->Rat}:Iv.whole.Has s:=⟨s,fun _=>.whole,Near.refl s⟩
theorem mF {x y:Iv}{p:Int}{s t:Nat->Rat}(i:x.W)(j:y.W)(e:x.Has s)(f:y.Has t):(x.add y p).Has (fun n=>s n+t n):=by
 obtain⟨c,a,b⟩:=e;obtain⟨d,g,h⟩:=f;exact⟨fun n=>c n+d n,fun n=>iO i j (a n) (g n),b.add h⟩
theorem tC {x:Iv}{s:Nat->Rat}(e:x.W)(d:x.Has s):x.neg.Has (fun n=>-s n):=by
 obtain⟨c,a,b⟩:=d;exact⟨fun n=>-c n,fun n=>rE e (a n),b.neg⟩
theorem tB {x y:Iv}{p:Int}{s t:Nat->Rat}(k:x.W)(l:y.W)(g:x.Has s)(h:y.Has t)(a:Bnd s)(b:Bnd t):(x.mul y p).Has (fun n=>s n*t n):=by
 obtain⟨c,e,f⟩:=g;obtain⟨d,i,j⟩:=h;exact⟨fun n=>c n*d n,fun n=>jO k l (e n) (i n),f.mul j a b⟩
theorem v3 {x:Iv}{p:Int}{s:Nat->Rat}(f:x.W)(e:x.Has s)(a:Bnd s):(x.sq p).Has (fun n=>s n*s n):=by
 obtain⟨c,d,b⟩:=e;exact⟨fun n=>c n*c n,fun n=>kT f (d n),b.mul b a a⟩
theorem LG {x:Iv}{p:Int}{s:Nat->Rat}(e:x.W)(d:x.Has s):(x.rnd p).Has s:=by
 obtain⟨c,a,b⟩:=d;exact⟨c,fun n=>uq e (a n),b⟩
theorem Uh {x y:Iv}{s:Nat->Rat}(h:x.known=true)(i:y.known=true)(p:x.Has s)(q:y.Has s):x.lo.val<=y.hi.val/\y.lo.val<=x.hi.val:=by
 obtain⟨c,f,k⟩:=p;obtain⟨d,g,r⟩:=q;have w:=dK;have j:=k.symm.trans r;have e:∀{u v:Nat->Rat} {a b:Int},Near u v->(∀n,(a:Rat)<=u n*sc)->(∀n,v n*sc<=(b:Rat))->a<=b:=by
  intro u v a b o l m;refine Rat.intCast_le_intCast.1 (Near.le (s:=fun n=>u n*sc) (t:=fun n=>v n*sc) ?_ l m);exact Null.congr (Null.mul o (Bnd.const sc)) fun n=>by grind
 exact⟨e j (fun n=>(f n h).1) (fun n=>(g n i).2),e j.symm (fun n=>(g n i).1) (fun n=>(f n h).2)⟩
theorem Ss {x:Iv}{s:Nat->Rat}(h:x.known=true->SLe (fun _=>(x.lo.val:Rat)) (fun n=>s n*sc)/\SLe (fun n=>s n*sc) (fun _=>(x.hi.val:Rat)))(y:x.W):x.Has s:=by
 cases g:x.known
 ·exact⟨s,(fun n (h:x.known=true)=>absurd h (by rw[g];decide)),Near.refl s⟩
 obtain⟨r,t⟩:=h g;have d:=dK;have hi:=Rat.inv_pos.2 d;have e:∀a:Rat,a*sc⁻¹*sc=a:=fun a=>by
  rw[VR,XR sc (by grind),VP]
 have i:=dt (bP y g);unfold Iv.Has Iv.In;generalize ((x.lo.val:Int):Rat)=a at *
 generalize ((x.hi.val:Int):Rat)=b at *
 have l:=e a;have o:=e b;have k:a*sc⁻¹<=b*sc⁻¹:=Vq i (Vj hi);generalize a*sc⁻¹=u at *
 generalize b*sc⁻¹=v at *
 subst l o;have c:∀{p q:Rat},p*sc<=q*sc->p<=q:=fun h=>Vw h d
 refine⟨fun n=>if s n<u then u else if v<s n then v else s n,fun n _=>?_,?_⟩
 ·have m:∀{p q:Rat},p<=q->p*sc<=q*sc:=fun h=>Vq h (Vj d)
  refine⟨m ?_,m ?_⟩
  ·show u<=if s n<u then u else if v<s n then v else s n;split
   ·exact V2
   ·split<;>grind
  ·show(if s n<u then u else if v<s n then v else s n)<=v;split
   ·exact k
   ·split<;>grind
 ·intro f j;obtain⟨N,w⟩:=r (f*sc) (Wr j d);obtain⟨M,hM⟩:=t (f*sc) (Wr j d);refine⟨max N M,fun n B=>?_⟩;have z:u<=s n+f:=c (by have:=w n (by omega);rw[aaJ];exact this);have A:s n<=v+f:=c (by have:=hM n (by omega);rw[aaJ];exact this);show Bd (s n-if s n<u then u else if v<s n then v else s n) f;split
  ·constructor<;>grind
  ·split<;>(constructor<;>grind)
theorem By {d:Dy}{k:Int}{a b:Nat}(ok:d.Ok)(s:k=(a:Int)-b)(h:d.sclE k=0):(d.scl k).val*pw b=d.val*pw a:=by
 unfold Dy.sclE at h;unfold Dy.scl;split at h
 ·rename_i m;rw[Vh m];unfold Dy.chkE at h;split at h
  ·rename_i c;unfold Dy.chk;rw[Vh c];by_cases e:d.m=[]
   ·have i:(Dy.of d.neg (aa d.m) (d.e+k)).val=0:=by
     have:Dy.of d.neg (aa d.m) (d.e+k)=Dy.zero:=by rw[e];rfl
     rw[this,ni]
    have j:d.val=0:=by
     have:=Dy.absN_nil e;unfold Dy.val;rw[this];simp
    rw[i,j,WV,WV]
   ·have f:=gf ok.tr e;have o:=ok.odd e;have p:tz (aa d.m)=0:=r7 o;have n:-16384<=d.e+k:=by
     have r:=(eF f).2.2;unfold Dy.of at c;rw[Vk f,p]at c;unfold Dy.inR at c;simp only[aP,Yc,aaj]at c;simp only[WF,VA,VT,abC]at c;have q:ac (aa d.m)≠0:=by unfold ac;rw[Vk f];omega
     omega
    rw[pm n];have elo:=ok.elo;have l:(2:Nat)^(d.e+k+16384).toNat*2^b=2^(d.e+16384).toNat*2^a:=by
     rw[<-Vs,<-Vs];congr 1;omega
    have g:aa d.m*2^(d.e+k+16384).toNat*2^b=aa d.m*2^(d.e+16384).toNat*2^a:=by
     rw[Vt,l,Vt]
    unfold Dy.val Dy.absN pw;split
    ·rw[V9,V9,<-XC,<-XC,g]
    ·rw[<-XC,<-XC,g]
  ·cases h
 ·cases h
theorem mI (a:Nat):(0:Rat)<(pw a:Rat):=by
 have:=kb (bf a);simpa using this
theorem lV {x:Iv}{k:Int}{a b:Nat}{q r:Rat}(v:x.W)(f:k=(a:Int)-b)(w:r*(pw b:Rat)=q*(pw a:Rat))(m:x.In q):(x.scl k).In r:=by
 unfold Iv.scl;split
 ·rename_i g;obtain⟨n,o⟩:=bg v g;obtain⟨p,s⟩:=m g;unfold Iv.made;split
  ·rename_i d;intro _;have t:=By n f d.1;have u:=By o f d.2;have j:(((x.lo.scl k).val:Int):Rat)*(pw b:Rat)=(x.lo.val:Rat)*(pw a:Rat):=by rw[<-VG,<-VG,t]
   have l:(((x.hi.scl k).val:Int):Rat)*(pw b:Rat)=(x.hi.val:Rat)*(pw a:Rat):=by rw[<-VG,<-VG,u]
   have h:=mI a;have i:=mI b;refine⟨Vw (c:=(pw b:Rat)) ?_ i,Vw (c:=(pw b:Rat)) ?_ i⟩
   ·show(((x.lo.scl k).val:Int):Rat)*_<=_;rw[j];have:=Vq p (Vj h);have e:r*sc*(pw b:Rat)=q*sc*(pw a:Rat):=by grind
    rw[e];exact this
   ·show _<=(((x.hi.scl k).val:Int):Rat)*_;rw[l];have:=Vq s (Vj h);have e:r*sc*(pw b:Rat)=q*sc*(pw a:Rat):=by grind
    rw[e];exact this
  ·exact .whole
 ·exact .whole
theorem zw {d:Dy}(ok:d.Ok):d.opp.val=-d.val:=by
 unfold Dy.opp;by_cases a:d.m=[]
 ·rw[Vk (fun h=>h.2 a),ni];have:=Dy.absN_nil a;unfold Dy.val;rw[this];simp
 ·rw[Vh ⟨ok.valid,a⟩];unfold Dy.val;have:Dy.absN ⟨!d.neg,d.m,d.e⟩=d.absN:=rfl;rw[this];cases d.neg<;>simp
theorem vJ {x:Iv}{q δ:Rat}(g:x.W)(d:x.known=true)(l:x.In q)(k:Bd δ (cg q)):-(x.mag.val:Rat)<=δ*sc/\δ*sc<=(x.mag.val:Rat):=by
 have h:=(rl g l) (by
  have:=(Cn g d).1;exact this)
 have e:x.abs.hi=x.mag:=by unfold Iv.abs;rw[Vh d]
 rw[e]at h;have f:=dK;obtain⟨i,j⟩:=k;have a:=Vq i (Vj f);have b:=Vq j (Vj f);have c:=h.2;constructor<;>grind
def ft (P:Int)(x:Iv):Bool:=!x.known ||decide (x.mag.sgn=0) ||decide (x.mag.top<=-P)
def iZ (x:Iv):Iv:=if x.known=true then⟨x.mag.opp,x.mag,false⟩else Iv.whole
def dp (P:Int)(y:Iv):Nat->Nat->Iv->Iv->Iv × Iv
 |0,_,t,s=>(t,s)
 |f+1,n,t,s=>
  let t':=(t.mul y P).div (nI n n) P
  let s':=s.add t' P
  if ft P t'=true then(t',s')else dp P y f (n+1) t' s'
def gA (P:Int)(y:Iv):Iv:=
 let r:=dp P y 1000 1 (nI 1 1) (nI 1 1)
 r.2.add (iZ r.1) P
def jQ (P:Int):Nat->Iv->Iv
 |0,y=>gA P y
 |n+1,y=>(jQ P n (y.scl (-1))).sq P
def gP (p more:Int):Int:=min (p+more) 512
def iQ (d:Dy)(p:Int):Iv:=
 if d.sgn=0 then nI 1 1 else
 let n:=(d.top+1).toNat
 let P:=gP p (n+24)
 (jQ P n ((Iv.pt d).rnd P)).rnd p
def bM (a b:Iv):Iv:=if(a.all ||b.all)=true then Iv.whole else⟨a.lo,b.hi,false⟩
def dD (d:Dy):Bool:=decide (d.abs.cmp (nD 1000)<=0)
def Iv.exp (x:Iv)(p:Int):Iv:=if(x.known&&af p&&dD x.lo&&dD x.hi)=true then bM (iQ x.lo p) (iQ x.hi p)else Iv.whole
def ef (P:Int)(sq:Iv):Nat->Nat->Iv->Iv->Iv × Iv
 |0,_,w,s=>(w,s)
 |f+1,n,w,s=>if ft P w=true then(w,s)else
  let w':=w.mul sq P
  ef P sq f (n+2) w' (s.add (w'.div (nI n n) P) P)
def fl (P:Int)(z:Iv):Iv:=
 let r:=ef P (z.sq P) 1000 3 z z
 (r.2.add (iZ r.1) P).scl 1
def dj (p:Int):Iv:=if af p=true then(fl (gP p 16) ((nI 1 1).div (nI 3 3) (gP p 16))).rnd p else Iv.whole
def jc (d:Dy)(p:Int):Iv:=
 if d.cmp (nD 1)=0 then⟨Dy.zero,Dy.zero,false⟩else
 let P:=gP p 40
 let t:=d.top
 let m:=((Iv.pt d).rnd P).scl (-t)
 let z:=(m.add (nI (-1) (-1)) P).div (m.add (nI 1 1) P) P
 ((fl P z).add ((nI t t).mul (dj P) P) P).rnd p
def Iv.log (x:Iv)(p:Int):Iv:=if(x.known&&af p&&decide (0<x.lo.sgn))=true then bM (jc x.lo p) (jc x.hi p)else Iv.whole
def jm (x:Iv):Iv:=if x.all=true then x else⟨x.mag.neg',x.mag,false⟩
def bq (y:Iv):Nat->Nat->Iv->Iv->Iv × Iv
 |0,_,t,s=>(t,s)
 |f+1,i,t,s=>
  let t':=(t.mul y 320).div (nI i i) 320
  bq y f (i+1) t' (s.add t' 320)
def kU : Nat->Iv->Iv
 |0,s=>s
 |n+1,s=>kU n (s.mul s 320)
def eA (d:Dy):Iv:=
 if d.m=[]then nI 1 1 else
 let k:=(d.top+16).toNat
 let y:=(Iv.pt d).scl (-k)
 let r:=bq y 20 1 (nI 1 1) (nI 1 1)
 kU k (r.2.add (jm (((r.1.mul y 320).div (nI 21 21) 320).mul (nI 2 2) 320)) 320)
def bY (sq:Iv):Nat->Nat->Iv->Iv->Iv × Iv
 |0,_,w,s=>(w,s)
 |f+1,k,w,s=>bY sq f (k+1) (w.mul sq 320) (s.add (w.div (nI (2*k+1) (2*k+1)) 320) 320)
def gJ (z:Iv):Iv:=
 let r:=bY (z.sq 320) 101 0 z (nI 0 0)
 (nI 2 2).mul (r.2.add (jm ((r.1.mul (nI 9 9) 320).div (nI 1624 1624) 320)) 320) 320
def rLog2 : Iv:=gJ ((nI 1 1).div (nI 3 3) 320)
def gI (d:Dy):Iv:=
 let e:=d.top
 let m:=(Iv.pt d).scl (-e)
 let z:=(m.add (nI (-1) (-1)) 320).div (m.add (nI 1 1) 320) 320
 (gJ z).add ((nI e e).mul rLog2 320) 320
theorem Aj {x:Iv}{q δ:Rat}(d:x.W)(f:x.In q)(e:Bd δ (cg q)):(iZ x).In δ:=by
 unfold iZ;split
 ·rename_i c;intro _;obtain⟨a,b⟩:=vJ d c f e;refine⟨?_,b⟩;show((x.mag.opp.val:Int):Rat)<=_;rw[zw (jM d c),VQ];exact a
 ·exact .whole
theorem Lk {d:Dy}(ok:d.Ok):d.opp.W:=by
 unfold Dy.opp;split
 ·exact⟨ok.li,ok.w.len⟩
 ·exact Dy.zero_W
theorem tQ {x:Iv}(b:x.W):(iZ x).W:=by
 unfold iZ;split
 ·rename_i a;exact⟨Lk (jM b a),(jM b a).w⟩
 ·exact Iv.whole_W
theorem j9 (k:Int):(nI k k).In (k:Rat):=by
 intro _;show(((nD k).val:Int):Rat)<=_/\_<=(((nD k).val:Int):Rat);rw[iP,VG];exact⟨V2,V2⟩
theorem du {n:Nat}(_h:n<=4611686018427387904):(nI n n).In (n:Rat):=by
 have:=j9 (n:Int);rwa[Wh]at this
theorem DH (q:Rat):Bd q (cg q):=by unfold cg;split<;>(constructor<;>grind)
theorem xt {P:Int}{y:Iv}{x:Rat}(i:y.W)(g:y.In x):∀(f n:Nat) (t s:Iv),n+1+f<=1000000->t.W->s.W->t.In (tm x n)->s.In (es x n) ->
 ∃m,n<=m/\(0<f->n<m)/\(dp P y f (n+1) t s).1.W/\(dp P y f (n+1) t s).2.W/\(dp P y f (n+1) t s).1.In (tm x m)/\(dp P y f (n+1) t s).2.In (es x m)
 |0,n,t,s,_,wt,ws,c,b=>⟨n,Vo _,fun h=>absurd h (by decide),wt,ws,c,b⟩
 |f+1,n,t,s,q,wt,ws,c,b=>by
  have l:(t.mul y P).W:=aD;have o:(nI ((n+1:Nat):Int) ((n+1:Nat):Int)).W:=cD (by omega) (by omega);have d:((t.mul y P).div (nI ((n+1:Nat):Int) ((n+1:Nat):Int)) P).W:=aI;have j:=jL (p:=P) l o (jO (p:=P) wt i c g) (du (n:=n+1) (by omega));have a:((t.mul y P).div (nI ((n+1:Nat):Int) ((n+1:Nat):Int)) P).In (tm x (n+1)):=j;have k:=iO (p:=P) ws d b a;have e:(s.add ((t.mul y P).div (nI ((n+1:Nat):Int) ((n+1:Nat):Int)) P) P).In (es x (n+1)):=k;unfold dp;simp only;split
  ·exact⟨n+1,by omega,fun _=>by omega,d,aH,a,e⟩
  ·obtain⟨m,u,_,r⟩:=xt i g f (n+1) _ _ (by omega) d aH a e;exact⟨m,by omega,fun _=>by omega,r⟩
theorem mC : (nI 1 1).In (1:Rat):=du (n:=1) (by decide)
theorem MW {P:Int}{y:Iv}{x:Rat}(i:y.W)(h:y.In x)(c:-1<=2*x)(d:2*x<=1):(gA P y).Has (es x):=by
 unfold gA;have b:(nI 1 1).W:=cD (by omega) (by omega);obtain⟨m,l,a,wt,ws,g,f⟩:=xt (P:=P) i h 1000 0 (nI 1 1) (nI 1 1) (by omega) b b mC mC;refine Iv.Has.of_ev m fun k e=>?_
 obtain⟨j,rfl⟩:=Wb e;have r:=xq c d (n:=m) (a (by decide)) (DH (tm x m)) j;have:=iO (p:=P) ws (tQ wt) f (Aj wt g r);rwa[show es x m+(es x (m+j)-es x m)=es x (m+j) by grind]at this
theorem iN {x:Iv}{k:Int}:(x.scl k).W:=by
 unfold Iv.scl;split
 ·exact tt kX kX
 ·exact Iv.whole_W
theorem rn {P:Int}{y:Iv}:(gA P y).W:=by unfold gA;exact aH
theorem Z5 {P:Int}:∀(n:Nat) (y:Iv) (x:Rat),y.W->y.In x->-(pw n:Rat)<=2*x->2*x<=(pw n:Rat)->(jQ P n y).W/\(jQ P n y).Has (es x)
 |0,y,x,g,f,c,d=>by
  have e:(pw 0:Rat)=1:=rfl;rw[e]at c d;show(gA P y).W/\(gA P y).Has (es x);exact⟨rn,MW g f c d⟩
 |n+1,y,x,g,f,c,d=>by
  have e:(pw (n+1):Rat)=(pw n:Rat)*2:=by rw[bK,VG];rfl
  rw[e]at c d;have k:(pw 1:Rat)=2:=rfl;have j:(pw 0:Rat)=1:=rfl;have i:(y.scl (-1)).In (x/2):=lV (a:=0) (b:=1) g (by omega) (by rw[k,j];grind) f;obtain⟨w,h⟩:=Z5 n (y.scl (-1)) (x/2) iN i (by grind) (by grind);refine⟨fe,?_⟩;have:=v3 (p:=P) w h (th _);exact this.near (pG x).symm
def Dy.rat (d:Dy):Rat:=(d.val:Rat)*sc⁻¹
theorem cL (d:Dy):d.rat*sc=(d.val:Rat):=by
 unfold Dy.rat;have a:=dK;rw[VR,XR sc (by grind),VP]
theorem ej (d:Dy):(Iv.pt d).In d.rat:=by
 intro _;rw[cL];exact⟨V2,V2⟩
theorem q8 {d:Dy}(h:d.m=[]):d.rat=0:=by
 have:=Dy.absN_nil h;unfold Dy.rat Dy.val;rw[this];have e:((if d.neg=true then -((0:Nat):Int)else((0:Nat):Int):Int):Rat)=0:=by split<;>rfl
 rw[e,Xr]
theorem U4 {d:Dy}(ok:d.Ok)(i:d.m≠[]){n:Nat}(p:d.top+1<=n):-(pw n:Rat)<=2*d.rat/\2*d.rat<=(pw n:Rat):=by
 obtain⟨k,l⟩:=ok.absN_bounds i;have o:=ok.top_pos i;have h:2*d.absN<=2^(n+16384):=by
  have e:2^(d.top+16384).toNat*2=2^((d.top+16384).toNat+1):=(VH ..).symm;have:2^((d.top+16384).toNat+1)<=2^(n+16384):=Vg (by omega) (by omega);omega
 have m:((2*d.absN:Nat):Int)<=pw n*pw 16384:=by
  rw[<-bK];unfold pw;exact Int.ofNat_le.2 h
 have b:2*d.val<=pw n*pw 16384/\-(pw n*pw 16384)<=2*d.val:=by
  unfold Dy.val;split<;>omega
 have g:=dt b.1;have a:=dt b.2;rw[VQ]at a;rw[VG,VG,show((pw 16384:Int):Rat)=sc from rfl,<-cL d]at g a;clear h m b k l o;have f:((2:Int):Rat)=2:=rfl;rw[f]at g a;have j:=dK;refine⟨Vw (c:=sc) ?_ j,Vw (c:=sc) ?_ j⟩<;>grind
theorem kz {x:Iv}{p:Int}:(x.rnd p).W:=by
 unfold Iv.rnd;split
 ·exact tt rRound_ok.w rRound_ok.w
 ·exact Iv.whole_W
theorem DT {d:Dy}(p:Int)(ok:d.Ok):(iQ d p).W/\(iQ d p).Has (es d.rat):=by
 unfold iQ;by_cases a:d.m=[]
 ·have b:d.sgn=0:=by unfold Dy.sgn;rw[Vh a]
  rw[Vh b,q8 a,show es 0=fun _=>1 from funext Br];exact⟨cD (by omega) (by omega),Iv.In.has mC⟩
 ·have b:¬d.sgn=0:=by unfold Dy.sgn;rw[Vk a];split<;>omega
  rw[Vk b];simp only;obtain⟨c,e⟩:=U4 ok a (n:=(d.top+1).toNat) (by omega);have wp:(Iv.pt d).W:=⟨ok.w,ok.w⟩
  obtain⟨w,h⟩:=Z5 (P:=gP p ((d.top+1).toNat+24)) (d.top+1).toNat ((Iv.pt d).rnd (gP p ((d.top+1).toNat+24))) d.rat kz (uq wp (ej d)) c e;exact⟨kz,LG w h⟩
def Iv.HasLog (x:Iv)(d:Rat):Prop:=x.known=true->ELo x.lo.rat d/\EHi d x.hi.rat
theorem HasLog.meet {x y:Iv}{d:Rat}(j:x.known=true)(k:y.known=true)(g:x.HasLog d)(i:y.HasLog d):x.lo.val<=y.hi.val/\y.lo.val<=x.hi.val:=by
 obtain⟨a,b⟩:=g j;obtain⟨c,e⟩:=i k;have f:∀{u v:Dy},u.rat<=v.rat->u.val<=v.val:=by
  intro u v h;have:=Vq h (Vj dK);rw[cL,cL]at this;exact Rat.intCast_le_intCast.1 this
 exact⟨f (a.le e),f (c.le b)⟩
theorem kA {x:Iv}{q:Rat}(h:x.In q)(k:x.known=true):x.lo.rat<=q/\q<=x.hi.rat:=by
 obtain⟨a,b⟩:=h k;rw[<-cL]at a b;exact⟨Vw a dK,Vw b dK⟩
theorem xN {P:Int}{sq:Iv}{ζ:Rat}(k:sq.W)(h:sq.In (ζ*ζ)):∀(f i:Nat) (w s:Iv),i+f<=1000000->w.W->s.W->w.In (od ζ i)->s.In (ps (lt ζ) i) ->
 ∃m,(ef P sq f (2*i+3) w s).1.W/\(ef P sq f (2*i+3) w s).2.W/\(ef P sq f (2*i+3) w s).1.In (od ζ m)/\(ef P sq f (2*i+3) w s).2.In (ps (lt ζ) m)
 |0,i,w,s,_,c,ws,b,a=>⟨i,c,ws,b,a⟩
 |f+1,i,w,s,q,c,ws,b,a=>by
  have j:(w.mul sq P).W:=aD;have d:(w.mul sq P).In (od ζ (i+1)):=jO c k b h;have o:(nI ((2*i+3:Nat):Int) ((2*i+3:Nat):Int)).W:=cD (by omega) (by omega);have l:=jL (p:=P) j o d (du (n:=2*i+3) (by omega));have g:=iO (p:=P) ws aI a l;have e:ps (lt ζ) i+od ζ (i+1)/((2*i+3:Nat):Rat)=ps (lt ζ) (i+1):=rfl;rw[e]at g;unfold ef;split
  ·exact⟨i,c,ws,b,a⟩
  ·simp only;exact xN k h f (i+1) _ _ (by omega) j aH d g
theorem zO {P:Int}{z:Iv}{ζ:Rat}(d:z.W)(hz:z.In ζ)(f:-1<ζ)(g:ζ<1)(h:2*(ζ*ζ)<=1):(fl P z).W/\(fl P z).HasLog (gg ζ):=by
 unfold fl;refine⟨iN,fun i=>?_⟩;have o:lt ζ 0=ζ:=by
  unfold lt;have:((2*0+1:Nat):Rat)=1:=rfl;rw[this];simp only[od];grind
 obtain⟨m,e,ws,n,l⟩:=xN (P:=P) (sq:=z.sq P) fe (kT d hz) 1000 0 z z (by omega) d d hz (by show z.In (lt ζ 0);rw[o];exact hz);refine q56 f g m fun k c=>?_
 obtain⟨j,rfl⟩:=Wb c;have r:=KW h m (DH (od ζ m)) j;have t:Bd (ps (lt ζ) (m+j)-ps (lt ζ) m) (cg (od ζ m)):=by
  obtain⟨u,v⟩:=r;unfold ll at u v;constructor<;>grind
 have a:=iO (p:=P) ws (tQ e) l (Aj e n t);have s:(pw 1:Rat)=2:=rfl;have q:(pw 0:Rat)=1:=rfl;have b:=lV (k:=1) (a:=1) (b:=0) (r:=ll ζ (m+j)) aH (by omega) (by rw[s,q];unfold ll;grind) a;exact kA b i
