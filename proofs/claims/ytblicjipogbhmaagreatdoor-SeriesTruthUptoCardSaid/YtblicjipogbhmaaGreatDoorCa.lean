import Derived.Test.YtblicjipogbhmaaGreatDoorHx
import Derived.Test.YtblicjipogbhmaaGreatDoorHp
import Derived.Test.YtblicjipogbhmaaGreatDoorFe
import Derived.Test.YtblicjipogbhmaaGreatDoorFf
import Derived.Test.YtblicjipogbhmaaGreatDoorHr
namespace Go.Abs.W
structure Fx where
 neg:Bool
 n:Nat
@[simp] def Fx.v (a:Fx):V:=.agg [.bool a.neg,lim (aB a.n)]
def Sm (n:Nat):Prop:=ac n<=8100
theorem Sm.len {n:Nat}(h:Sm n):(aB n).length<=256:=by have:=uQ (b:=8100) h;omega
theorem Sm.cl {n:Nat}(h:Sm n):cl n=aB n:=cR h.len
theorem Sm.mono {a b:Nat}(h:Sm b)(c:a<=b):Sm a:=Vp (dW c) h
theorem Sm.small {n:Nat}(h:n<2^64):Sm n:=Vp (gD h) (by omega)
theorem uE {a b k:Nat}(c:ac a<=k)(d:ac b<=k):ac (a+b)<=k+1:=by
 have e:=eM a;have f:=eM b;have g:2^ac a<=2^k:=Vg (by omega) c;have h:2^ac b<=2^k:=Vg (by omega) d;refine gD ?_;rw[VH];omega
theorem Uk {n s:Nat}:ac (n*2^s)<=ac n+s:=by
 by_cases h:n=0
 ·subst h;rw[WR];simp[iG]
 ·rw[tV h];exact Vo _
theorem qY {a b:Nat}:ac (a*b)<=ac a+ac b:=by
 by_cases c:a=0
 ·subst c;rw[WR];simp[iG]
 ·by_cases d:b=0
  ·subst d;rw[WS];simp[iG]
  ·exact Al c d
def Fx.minus (a:Fx):Fx:=⟨!a.neg,a.n⟩
def Fx.add (a b:Fx):Fx:=if a.neg=b.neg then⟨a.neg,a.n+b.n⟩else if a.n<b.n then⟨b.neg,b.n-a.n⟩else⟨a.neg,a.n-b.n⟩
def Fx.times (a c:Fx)(b:Nat):Fx:=⟨a.neg != c.neg,a.n*c.n/2^b⟩
def Fx.by' (a:Fx)(k:Nat):Fx:=⟨a.neg,a.n/k⟩
def Fx.of (d:Dy)(b:Int):Fx:=if d.e+b<0 then⟨d.neg,aa d.m/2^(-(d.e+b)).toNat⟩else⟨d.neg,aa d.m*2^(d.e+b).toNat⟩
theorem qM (n k:Nat)(b:Sm n)(h:Sm (n*2^k))(a:k<=65536):CQ prog q86 [lim (aB n),.int .i64 k] (lim (aB (n*2^k))):=by
 refine ap rfl fun H=>?_
 have c:=rf (aB n) k b.len (aY n) a;have d:=h.len;have e:kV (aB n) k=aB (n*2^k):=by
  unfold kV;rw[aP,Vk (by omega)]
 rw[e]at c;simp;refine zq c ?_;simp
theorem Cl (n k:Nat)(b:Sm n)(a:k<=65536):CQ prog q42 [lim (aB n),.int .i64 k] (lim (aB (n/2^k))):=by
 refine ap rfl fun H=>?_
 have c:=sj (aB n) k b.len (aY n) a;rw[aP]at c;simp;refine zq c ?_;simp
theorem y9 (a:Fx)(h:Sm a.n):CQ prog qu2 [a.v] (.bool (decide (a.n=0))):=by
 refine ap rfl fun H=>?_
 have e:=h.len;have c:=po (aB a.n) (by omega) (aY a.n);rw[aP]at c;simp only[i64]at c;simp;refine zq c ?_;by_cases b:a.n=0
 ·simp[b,iG]
 ·have:ac a.n≠0:=fun h=>b (bitL_eq0.1 h)
  have d:¬(ac a.n:Int)=0:=by omega
  simp[b];omega
theorem uT (a:Fx):CQ prog qua [a.v] a.minus.v:=by
 refine ap rfl fun H=>?_
 simp[Fx.minus,lim]
theorem mG (a b:Fx)(k:Sm a.n)(l:Sm b.n)(m:Sm (a.n+b.n)):CQ prog qwo [a.v,b.v] (a.add b).v:=by
 refine ap rfl fun H=>?_
 have h:=k.len;have i:=l.len;have j:=Dq (aB a.n) (aB b.n) h i (aY _) (aY _);rw[aP,aP,m.cl]at j;have f:=my (aB a.n) (aB b.n) (by omega) (by omega) (aY _) (aY _);rw[aP,aP]at f;simp only[i64]at f;by_cases e:a.neg=b.neg
 ·simp[e];refine zq j ?_;simp[Fx.add,e,lim]
 ·simp[e];refine zq f ?_;by_cases c:a.n<b.n
  ·have g:aL a.n b.n<0:=by unfold aL;rw[Vh c];omega
   have d:=Bk (aB b.n) (aB a.n) i h (aY _) (aY _) (by rw[aP,aP];omega);rw[aP,aP]at d;simp[g];refine zq d ?_;simp[Fx.add,e,c,lim]
  ·have g:¬aL a.n b.n<0:=by unfold aL;split<;>(try split)<;>omega
   have d:=Bk (aB a.n) (aB b.n) h i (aY _) (aY _) (by rw[aP,aP];omega);rw[aP,aP]at d;simp[g];refine zq d ?_;simp[Fx.add,e,c,lim]
theorem Po (a c:Fx)(b:Nat)(f:Sm a.n)(h:Sm c.n)(e:Sm (a.n*c.n))(g:b<=65536):CQ prog qt9 [a.v,c.v,.int .i64 b] (a.times c b).v:=by
 refine ap rfl fun H=>?_
 have d:=Dr (aB a.n) (aB c.n) f.len h.len (aY _) (aY _);rw[aP,aP,e.cl]at d;simp;refine zq d ?_;simp;refine ak rfl rfl rfl (Cl (a.n*c.n) b e g) ?_;simp[Fx.times,lim];cases a.neg<;>cases c.neg<;>rfl
theorem Pn (k:Nat)(m:k<2^62)(i:0<k):CQ prog q41 [.int .i64 k] (Fx.v ⟨false,k⟩):=by
 refine ap rfl fun H=>?_
 have h:(2:Nat)^62=4611686018427387904:=rfl;have c:=qr k (by omega) (by omega);have e:(Dy.of (decide ((k:Int)<0)) (k:Int).natAbs 0)=⟨false,aB (k/2^tz k),(tz k:Int)⟩:=by
  unfold Dy.of;rw[Vk (by omega),abd (by omega)];simp
 rw[e]at c;have t:=mE (n:=k) (by omega);have d:Sm k:=Sm.small (by omega);have b:k/2^tz k*2^tz k=k:=by have f:=t.2.2;have:=WY k (2^tz k);omega
 have g:tz k<=65536:=by
  have j:=gZ (n:=k) (by omega);rcases Vm (tz k) 63 with a|a
  ·omega
  ·have f:2^63<=2^tz k:=Vg (by omega) a;have l:(2:Nat)^63=9223372036854775808:=rfl;omega
 have cl:=qM (k/2^tz k) (tz k) (d.mono (VY _ _)) (by rw[b];exact d) g;rw[b]at cl;simp;refine zq c ?_;simp[lim];refine zq cl ?_;simp[lim]
theorem n4 (a:Fx)(k:Nat)(e:Sm a.n)(f:k<2^62)(c:0<k):CQ prog qxy [a.v,.int .i64 k] (a.by' k).v:=by
 refine ap rfl fun H=>?_
 have g:(2:Nat)^62=4611686018427387904:=rfl;have h:Sm k:=Sm.small (by omega);have d:=Pn k f c;have b:=DR (aB a.n) (aB k) e.len h.len (aY _) (aY _) (by rw[aP];exact c);rw[aP,aP]at b;simp;refine zq d ?_;simp;refine zq b ?_;simp[Fx.by',lim]
theorem S3 (d:Dy)(b:Int)(ok:d.Ok)(q:0<=b)(m:b<=40000)(n:0<=d.e+b->Sm (aa d.m*2^(d.e+b).toNat)):CQ prog Rc [d.v,.int .i64 b] (Fx.of d b).v:=by
 refine ap rfl fun H=>?_
 have o:=ok.elo;have p:=ok.ehi;have j:IntKind.i64.wrap (d.e+b)=d.e+b:=by rw[wrap_i64]<;>omega
 have h:Sm (aa d.m):=Vp ok.bits (by omega);have g:aB (aa d.m)=d.m:=CL ok.li ok.tr;by_cases i:d.e+b<0
 ·have⟨k,f⟩:∃k:Nat,k=(-(d.e+b)).toNat:=⟨_,rfl⟩
  have e:IntKind.i64.wrap (-(d.e+b))=(k:Int):=by rw[wrap_i64]<;>omega
  have c:=Cl (aa d.m) k h (by omega);rw[g]at c;simp[j,i,e];refine zq c ?_;simp[Fx.of,i,<-f,lim]
 ·have⟨k,f⟩:∃k:Nat,k=(d.e+b).toNat:=⟨_,rfl⟩
  have e:d.e+b=(k:Int):=by omega
  have c:=qM (aa d.m) k h (by rw[f];exact n (by omega)) (by omega);rw[g]at c;have a:¬(k:Int)<0:=by omega
  have l:IntKind.i64.wrap (k:Int)=(k:Int):=by rw[wrap_i64]<;>omega
  simp[e,l,a];refine zq c ?_;simp[Fx.of,e,a,lim]
def eg (next:Fx->Fx):Nat->Nat->Fx->Fx->Fx
 |0,_,_,s=>s
 |f+1,k,p,s=>if(next p).n=0 then s else eg next f (k+1) (next p) (s.add (if k%2=1 then((next p).by' (2*k+1)).minus else(next p).by' (2*k+1)))
def kw (next:Fx->Fx)(p:Fx):Fx:=eg next (p.n+1) 1 p p
theorem jP (a b:Fx):(a.add b).n<=a.n+b.n:=by unfold Fx.add;split<;>(try split)<;>simp only[]<;>omega
theorem qh (a:Fx)(k:Nat):(a.by' k).n<=a.n:=VY _ _
theorem CB {a b:Nat}(h:2*a<=b)(c:a≠0):ac a+1<=ac b:=by
 have e:=(eF c).1;have f:=(eF c).2.2;have d:2^ac a<=b:=by
  have:2^ac a=2*2^(ac a-1):=by rw[<-aaK];congr 1;omega
  omega
 exact bitL_gt.2 d
set_option maxHeartbeats 1000000 in
theorem S9 {H:ab}{g:Nat}{caps:List V}(c:Fx)(next:Fx->Fx)(z:∀a:Fx,a.n<=c.n->Cb H g caps [a.v] (next a).v)(S:∀a:Fx,a.n<=c.n->2*(next a).n<=a.n)(hs:ac c.n<=8000) :
 Ev prog (.call ZB [c.v,.fn g caps] H) (.ret (kw next c).v H):=by
 refine iM rfl ?_;have i:Sm (2*c.n):=by
  have:=qY (a:=2) (b:=c.n);have e:ac 2=2:=rfl;unfold Sm;omega
 simp;refine e9 (fun f E D=>∃(k:Nat) (p s:Fx),(∃G,D=H++some ⟨2,[p.v],false,true⟩ :: some ⟨2,[.agg [.bool false,.nil]],false,true⟩ :: some ⟨2,[s.v],false,true⟩ :: G) /\
  E 1=.fn g caps/\E 2=.ptr H.length 0 0/\E 4=.ptr (H.length+1) 0 0/\E 5=.ptr (H.length+2) 0 0/\E 6=.int .i64 k/\0<f/\p.n<f/\s.n+p.n<=2*c.n/\p.n<=c.n/\ac p.n+k<=8001/\eg next f k p s=kw next c) (c.n+1) ?_ ?_
 ·exact⟨1,c,c,⟨[],by simp⟩,by simp,by simp,by simp,by simp,by simp,by omega,by omega,by omega,by omega,by omega,rfl⟩
 ·rintro f E D ⟨k,p,s,⟨G,rfl⟩,x,n,y,o,r,hf,T,K,u,hk,m⟩;obtain⟨f,rfl⟩:∃j,f=j+1:=⟨f-1,by omega⟩
  have M:=z p u;have A:=S p u;have h:eg next (f+1) k p s=if(next p).n=0 then s else eg next f (k+1) (next p) (s.add (if k%2=1 then((next p).by' (2*k+1)).minus else(next p).by' (2*k+1))):=rfl;generalize next p=q at *
  have sq:Sm q.n:=i.mono (by omega);have N:=y9 q sq;have Q:IntKind.i64.wrap (2*(k:Int))=2*(k:Int):=by rw[wrap_i64]<;>omega
  have F:IntKind.i64.wrap (2*(k:Int)+1)=((2*k+1:Nat):Int):=by rw[wrap_i64]<;>omega
  have I:(k:Int).tmod 2=((k%2:Nat):Int):=by rw[VZ (by omega)];omega
  have J:IntKind.i64.wrap ((k:Int)+1)=((k+1:Nat):Int):=by rw[wrap_i64]<;>omega
  have Z:IntKind.i64.wrap ((k%2:Nat):Int)=((k%2:Nat):Int):=by rw[wrap_i64]<;>omega
  have Y:(2:Nat)^62=4611686018427387904:=rfl;have v:=n4 q (2*k+1) sq (by omega) (by omega);have⟨t,L⟩:∃t,t=q.by' (2*k+1):=⟨_,rfl⟩
  have C:t.n<=q.n:=by rw[L];exact qh _ _
  rw[<-L]at v h;have st:Sm t.n:=sq.mono C;have ss:Sm s.n:=i.mono (by omega);have c4:=uT t;have O:=mG s t ss st (i.mono (by omega));have P:=mG s t.minus ss st (i.mono (show s.n+t.n<=_ by omega));have⟨w,U⟩:∃w:Int,w=((2*k+1:Nat):Int):=⟨_,rfl⟩
  rw[<-U]at F v;refine b9 ?_;simp[ZD,x,n];refine fD M (by simp) rfl (by simp) ?_;simp[n];refine zq N ?_;by_cases hz:q.n=0
  ·rw[h,Vh hz]at m;simp[hz,y,o,<-m]
  ·have hb:=CB A hz;simp[hz,n,r,Q,F];refine zq v ?_;by_cases d:k%2=1
   ·simp[r,I,d];refine zq c4 ?_;simp[o];refine zq P ?_;have B:=jP s t.minus;have W:t.minus.n=t.n:=rfl;rw[h,Vk hz,Vh d]at m;simp[x,n,y,o,r];exact⟨f,by omega,k+1,q,s.add t.minus,by simp,by simpa using J,by omega,by omega,by omega,by omega,by omega,m⟩
   ·have l:k%2=0:=by omega
    simp[o,r,I,l];refine zq O ?_;have B:=jP s t;rw[h,Vk hz,Vk d]at m;simp[x,n,y,o,r];exact⟨f,by omega,k+1,q,s.add t,by simp,by simpa using J,by omega,by omega,by omega,by omega,by omega,m⟩
theorem xk (next:Fx->Fx)(b:∀a:Fx,2*(next a).n<=a.n):∀(f k:Nat) (p s:Fx),(eg next f k p s).n<=s.n+p.n
 |0,k,p,s=>by show s.n<=_;omega
 |f+1,k,p,s=>by
  have c:=b p;unfold eg;split
  ·omega
  ·have d:=qh (next p) (2*k+1);refine Vp (xk next b f (k+1) _ _) ?_;split
   ·have:=jP s ((next p).by' (2*k+1)).minus;have e:((next p).by' (2*k+1)).minus.n=((next p).by' (2*k+1)).n:=rfl;omega
   ·have:=jP s ((next p).by' (2*k+1));omega
def cZ (n b:Nat):Fx:=kw (fun a=>a.by' (n*n)) ⟨false,2^b/n⟩
theorem so {a:Fx}{n:Nat}(b:2<=n):2*(a.by' (n*n)).n<=a.n:=by
 show 2*(a.n/(n*n))<=a.n;have c:4<=n*n:=Wi b b;have d:=WT a.n (n*n);have e:a.n/(n*n)*4<=a.n/(n*n)*(n*n):=VN _ c;omega
theorem Lt {H:ab}{b:Nat}{n:Nat}(i:H[b]?=some (some ⟨1,[.int .i64 n],false,true⟩))(q:2<=n)(f:n<=1000)(a:Fx)(m:Sm a.n):Cb H Jc [.ptr b 0 0] [a.v] (a.by' (n*n)).v:=by
 intro g l;have d:g[b]?=some (some ⟨1,[.int .i64 n],false,true⟩):=by
  obtain⟨G,rfl⟩:=l;rw[Vr (Vi.1 i).1];exact i
 have e:b<g.length:=(Vi.1 d).1;have h:g[b]'e=some ⟨1,[.int .i64 n],false,true⟩:=(Vi.1 d).2;refine⟨rfl,iM rfl ?_⟩;have p:(2:Nat)^62=4611686018427387904:=rfl;have o:n*n<=1000000:=Wi f f;have k:0<n*n:=Xj (by omega) (by omega);have j:IntKind.i64.wrap ((n:Int)*n)=((n*n:Nat):Int):=by
  have:((n*n:Nat):Int)=(n:Int)*n:=by simp
  rw[<-this,wrap_i64]<;>omega
 have c:=n4 a (n*n) m (by omega) k;simp[h,e,Vr,j];refine zq c ?_;simp[lim]
theorem YF (n b:Nat)(i:2<=n)(e:n<=1000)(r:b<=7000):CQ prog qzt [.int .i64 n,.int .i64 b] (cZ n b).v:=by
 refine ap rfl fun H=>?_
 have o:(2:Nat)^62=4611686018427387904:=rfl;have p:Sm 1:=Sm.small (by omega);have l:=Uk (n:=1) (s:=b);have q:ac 1=1:=rfl;rw[WH]at l;have f:Sm (2^b):=by unfold Sm;omega
 have c:=qM 1 b p (by rw[WH];exact f) (by omega);rw[WH]at c;have j:aB 1=[1]:=by decide
 rw[j]at c;have h:=n4 ⟨false,2^b⟩ n f (by omega) (by omega);have k:(Fx.mk false (2^b)).by' n=⟨false,2^b/n⟩:=rfl;rw[k]at h;have d:ac (2^b/n)<=8000:=Vp (dW (VY _ _)) (by omega);simp;refine bt rfl rfl (H1:=H++[some ⟨1,[.int .i64 n],false,true⟩,some ⟨2,[.agg [.bool false,.nil]],false,true⟩,some ⟨1,[.int .u32 1],true,false⟩]) (vs:=[lim [1],.int .i64 b]) (by simp[prep,ah,aF,lim];rfl) c ?_;simp;refine zq h ?_;simp[V.isCell];refine bW (g:=ZB) (caps:=[]) (args:=[Fx.v ⟨false,2^b/n⟩,.fn Jc [.ptr H.length 0 0]]) (vs:=[Fx.v ⟨false,2^b/n⟩,.fn Jc [.ptr H.length 0 0]]) (v:=(cZ n b).v) ?_ ?_ ?_ ?_ ?_
 ·rfl
 ·rfl
 ·rfl
 ·exact S9 _ _ (fun a m=>Lt (by simp) i e a (f.mono (Vp m (VY _ _)))) (fun a _=>so i) d
 simp[lim]
theorem xG {n b:Nat}(c:2<=n):(cZ n b).n<=2*(2^b/n):=by
 have:=xk (fun a=>a.by' (n*n)) (fun a=>so c) ((2^b/n)+1) 1 ⟨false,2^b/n⟩ ⟨false,2^b/n⟩;unfold cZ kw;simp only[]at this ⊢;omega
def ii (b:Nat):Fx:=Fx.add ⟨false,(cZ 5 b).n*2^4⟩ ⟨true,(cZ 239 b).n*2^2⟩
theorem BC (b:Nat)(c:b<=7000):CQ prog Re [.int .i64 b] (ii b).v:=by
 refine ap rfl fun H=>?_
 have d:=YF 5 b (by omega) (by omega) c;have e:=YF 239 b (by omega) (by omega) c;have q:=xG (n:=5) (b:=b) (by omega);have r:=xG (n:=239) (b:=b) (by omega);have k:=VY (2^b) 5;have l:=VY (2^b) 239;have j:=Uk (n:=1) (s:=b+7);have m:ac 1=1:=rfl;rw[WH]at j;have i:2^(b+7)=128*2^b:=by rw[Vs,VE]
 have a:Sm (128*2^b):=by rw[<-i];unfold Sm;omega
 have p:(2:Nat)^4=16:=rfl;have o:(2:Nat)^2=4:=rfl;have h:ii b=Fx.add ⟨false,(cZ 5 b).n*2^4⟩ ⟨true,(cZ 239 b).n*2^2⟩:=rfl;generalize cZ 5 b=X at *
 generalize cZ 239 b=Y at *
 generalize 2^b=B at *
 have f:=qM X.n 4 (a.mono (by omega)) (a.mono (by omega)) (by omega);have c4:=qM Y.n 2 (a.mono (by omega)) (a.mono (by omega)) (by omega);have g:=mG ⟨false,X.n*2^4⟩ ⟨true,Y.n*2^2⟩ (a.mono (by simp only[];omega)) (a.mono (by simp only[];omega)) (a.mono (by simp only[];omega));rw[h];simp;refine zq d ?_;simp;refine zq e ?_;simp;refine zq f ?_;simp;refine zq c4 ?_;simp;refine zq g ?_;simp[lim]
def eps24 : Fx:=⟨false,2^24⟩
def cM (a:Fx)(b:Nat):Dy:=Dy.of (a.add eps24.minus).neg (a.add eps24.minus).n (-(b:Int))
def cN (a:Fx)(b:Nat):Dy:=Dy.of (a.add eps24).neg (a.add eps24).n (-(b:Int))
def Iv.near (a:Fx)(b:Nat)(p:Int):Iv:=
 if((cM a b).inR&&(cN a b).inR)=true then Iv.made (fj (cM a b) p false) (fj (cN a b) p true)else Iv.whole
set_option maxHeartbeats 1000000 in
theorem Lc (a:Fx)(b:Nat)(p:Int)(z:ac a.n<=8000)(N:b<=8000):CQ prog q85 [a.v,.int .i64 b,.int .i64 p] (Iv.near a b p).v:=by
 refine ap rfl fun H=>?_
 have K:Sm 1:=Sm.small (by omega);have I:(2:Nat)^24=16777216:=rfl;have d:Sm (2^24):=Sm.small (by omega)
 have l:ac (2^24)<=8000:=by
  have:ac (2^24)=25:=by decide
  omega
 have C:Sm a.n:=Vp z (by omega);have ss:Sm (a.n+2^24):=Vp (uE z l) (by omega);have q:=qM 1 24 K (by rw[WH];exact d) (by omega);have G:aB 1=[1]:=by decide
 rw[G,WH]at q;have D:=uT eps24;have t:=mG a eps24.minus C d ss;have c4:=mG a eps24 C d ss;have A:=jP a eps24.minus;have B:=jP a eps24;have⟨lo,g⟩:∃x,x=a.add eps24.minus:=⟨_,rfl⟩
 have⟨hi,f⟩:∃x,x=a.add eps24:=⟨_,rfl⟩
 rw[<-g]at t A;rw[<-f]at c4 B;have j:Sm lo.n:=ss.mono A;have i:Sm hi.n:=ss.mono B;have m:=Dp lo.neg (aB lo.n) (-(b:Int)) j.len (aY _) (by omega) (by omega);have n:=Dp hi.neg (aB hi.n) (-(b:Int)) i.len (aY _) (by omega) (by omega);rw[aP]at m n;have u:cM a b=Dy.of lo.neg lo.n (-(b:Int)):=by rw[g];rfl
 have v:cN a b=Dy.of hi.neg hi.n (-(b:Int)):=by rw[f];rfl
 have L:(cM a b).W:=by rw[u];exact Dy.of_W (by have:=j.len;omega)
 have M:(cN a b).W:=by rw[v];exact Dy.of_W (by have:=i.len;omega)
 rw[<-u]at m;rw[<-v]at n;have w:IntKind.i64.wrap (-(b:Int))=-(b:Int):=by rw[wrap_i64]<;>omega
 have ev:Fx.v eps24=.agg [.bool false,lim (aB (2^24))]:=rfl;unfold Iv.near;generalize cM a b=x at *
 generalize cN a b=y at *
 simp;refine bt rfl rfl (H1:=_) (vs:=[lim [1],.int .i64 (24:Nat)]) (by simp[prep,ah,aF,lim];rfl) q ?_;simp[<-ev];refine zq D ?_;simp;refine zq t ?_;simp;refine zq c4 ?_;simp[w];refine zq m ?_;simp[w];refine zq n ?_;by_cases e:x.inR=true
 ·by_cases h:y.inR=true
  ·have ex:x.chk=x:=by unfold Dy.chk;rw[Vh e]
   have J:y.chk=y:=by unfold Dy.chk;rw[Vh h]
   have gE:x.chkE=0:=by unfold Dy.chkE;rw[Vh e]
   have c:y.chkE=0:=by unfold Dy.chkE;rw[Vh h]
   have E:=wO x p L;have F:=ql y p M;generalize fj x p false=r at *
   generalize fj y p true=s at *
   simp[e,h,ex,J,gE,c];refine zq E ?_;simp;refine zq F ?_;by_cases k:r.2=0
   ·by_cases o:s.2=0
    ·simp[k,o,Iv.made,lim]
    ·simp[k,o];refine zq dA ?_;simp[Iv.made,o,lim]
   ·simp[k];refine zq dA ?_;simp[Iv.made,k,lim]
  ·have gE:x.chkE=0:=by unfold Dy.chkE;rw[Vh e]
   have c:y.chkE=9:=by unfold Dy.chkE;rw[Vk h]
   simp[h,gE,c];refine zq dA ?_;simp[lim]
 ·have gE:x.chkE=9:=by unfold Dy.chkE;rw[Vk e]
  simp[e,gE];refine zq dA ?_;simp[lim]
def d7 (x:Fx)(b:Nat):Nat->Nat->Fx->Fx->Fx->Fx × Fx
 |0,_,_,s,c=>(s,c)
 |f+1,k,t,s,c=>
  if((t.times x b).by' k).n=0 then(s,c)else
  if k%2=1 then d7 x b f (k+1) ((t.times x b).by' k) (s.add (if 2<=k%4 then((t.times x b).by' k).minus else(t.times x b).by' k)) c
  else d7 x b f (k+1) ((t.times x b).by' k) s (c.add (if 2<=k%4 then((t.times x b).by' k).minus else(t.times x b).by' k))
def dk (x:Fx)(b:Nat):Fx × Fx:=d7 x b (b+8) 1 ⟨false,2^b⟩ ⟨false,0⟩ ⟨false,2^b⟩
theorem UH {t x k b:Nat}(_hk:0<k)(a:x<=2^(b+1)):t*x/2^b/k*k<=2*t:=by
 refine Vp (WT _ _) ?_;have p:0<2^b:=Xs (by omega);refine(aag p).2 ?_;have c:t*x<=t*2^(b+1):=VN _ a;have d:t*2^(b+1)=2^b*(2*t):=by rw[VH,VE t,Vt]
 omega
theorem pU (k:Nat):ac (2^k)=k+1:=by
 have h:=tV (n:=1) (s:=k) (by omega);have a:ac 1=1:=rfl;rw[WH]at h;omega
theorem sZ (a c:Fx)(b k:Nat):((a.times c b).by' k).n=a.n*c.n/2^b/k:=rfl
set_option maxHeartbeats 1000000 in
theorem PJ (x:Fx)(b:Nat)(Z:x.n<=2^(b+1))(hb:b<=3000):CQ prog q2v [x.v,.int .i64 b] (.tup [(dk x b).1.v,(dk x b).2.v]):=by
 refine ap rfl fun H=>?_
 have p62:(2:Nat)^62=4611686018427387904:=rfl;have s1:Sm 1:=Sm.small (by omega);have eb:=pU b;have eb1:=pU (b+1);have eB:2^(b+1)=2*2^b:=by rw[VH,VE]
 have sb:Sm (2^b):=by unfold Sm;omega
 have L:=qM 1 b s1 (by rw[WH];exact sb) (by omega);rw[WH]at L;have e2:aB 1=[1]:=by decide
 rw[e2]at L;have sx:ac x.n<=b+2:=Vp (dW Z) (by omega);have se:dk x b=d7 x b (b+8) 1 ⟨false,2^b⟩ ⟨false,0⟩ ⟨false,2^b⟩:=rfl;have r:∀t k:Nat,0<k->t*x.n/2^b/k*k<=2*t:=fun t k hk=>UH hk Z
 have sO:ac (2*2^b)<=b+2:=by rw[<-eB];omega
 have g:∀n,n<=8000*(2*2^b)->ac n<=6000:=by
  intro n hn;have v:=qY (a:=8000) (b:=2*2^b);have w:ac 8000=13:=by decide
  have C:=dW hn;omega
 simp;refine bt rfl rfl (H1:=_) (vs:=[lim [1],.int .i64 b]) (by simp[prep,ah,aF,lim];rfl) L ?_;simp;refine e9 (fun f E O=>∃(k:Nat) (t s c:Fx) (K:V),(∃G,O=H++some ⟨2,[x.v],false,true⟩ :: some ⟨2,[K],false,true⟩ :: some ⟨2,[c.v],false,true⟩ :: some ⟨1,[.int .u32 1],true,false⟩ :: some ⟨2,[Fx.v ⟨false,2^b⟩],false,true⟩ :: some ⟨2,[t.v],false,true⟩ :: G) /\
  (K=s.v\/K=.agg [.bool false,.nil]/\s=⟨false,0⟩) /\
  E 1=.int .i64 b/\E 2=.ptr H.length 0 0/\E 4=.ptr (H.length+1) 0 0/\E 5=.ptr (H.length+2) 0 0/\E 7=.ptr (H.length+5) 0 0/\E 8=.int .i64 k/\0<k/\f+k=b+9/\t.n<=2*2^b/\(k=1->t.n<=2^b)/\(4<=k->ac t.n+k<=b+6)/\s.n<=k*(2*2^b)/\c.n<=k*(2*2^b)/\d7 x b f k t s c=dk x b) (b+8) ?_ ?_
 ·exact⟨1,⟨false,2^b⟩,⟨false,0⟩,⟨false,2^b⟩,.agg [.bool false,.nil],⟨[],by simp[lim]⟩,.inr ⟨rfl,rfl⟩,by simp,by simp,by simp,by simp,by simp,by simp,by omega,by omega,by simp only[];omega,by simp only[];omega,by omega,by simp only[];omega,by simp only[];omega,rfl⟩
 ·rintro f E O ⟨k,t,s,c,K,⟨G,rfl⟩,u,v,w,o,l,p,m,B,hf,Y,M,I,hs,hc,i⟩;have hkb:k<=b+6:=by
   by_cases h:4<=k
   ·have:=I h;omega
   ·omega
  obtain⟨f,rfl⟩:∃j,f=j+1:=⟨f-1,by omega⟩
  have hq:=r t.n k B;rw[<-sZ t x b k]at hq;have c2:=Po t x b (Vp (dW Y) (by omega)) (Vp sx (by omega)) (Vp qY (by have:=dW Y;omega)) (by omega);have sT:Sm (t.times x b).n:=by
   have C:=r t.n 1 (by omega);rw[aaj,XN]at C;exact Vp (dW (show(t.times x b).n<=8000*(2*2^b) from Vp C (by omega))) (Vp (g _ (Vo _)) (by omega))
  have c3:=n4 (t.times x b) k sT (by omega) B;have F:d7 x b (f+1) k t s c=if((t.times x b).by' k).n=0 then(s,c)else
   if k%2=1 then d7 x b f (k+1) ((t.times x b).by' k) (s.add (if 2<=k%4 then((t.times x b).by' k).minus else(t.times x b).by' k)) c
   else d7 x b f (k+1) ((t.times x b).by' k) s (c.add (if 2<=k%4 then((t.times x b).by' k).minus else(t.times x b).by' k)):=rfl
  generalize t.times x b=T at *
  generalize T.by' k=q at *
  have hq1:q.n<=2*t.n:=by
   have:=Xn q.n B;omega
  have J:q.n<=2*2^b:=by
   rcases Vm k 2 with h|h
   ·have C:=M (by omega);omega
   ·have C:q.n*2<=q.n*k:=VN _ h;omega
  have sq:Sm q.n:=Vp (dW J) (by omega);have c4:=y9 q sq;have c5:=uT q;have hnk:(k+1)*(2*2^b)=k*(2*2^b)+2*2^b:=by rw[VI,WH]
  have hkB:(k+1)*(2*2^b)<=8000*(2*2^b):=Vn _ (by omega);have ss:Sm s.n:=Vp (g _ (by omega)) (by omega);have sc:Sm c.n:=Vp (g _ (by omega)) (by omega);have P:=mG s q ss sq (Vp (g _ (by omega)) (by omega));have Q:=mG s q.minus ss sq (Vp (g _ (show s.n+q.n<=_ by omega)) (by omega));have S:=mG c q sc sq (Vp (g _ (by omega)) (by omega));have U:=mG c q.minus sc sq (Vp (g _ (show c.n+q.n<=_ by omega)) (by omega));have l6:=jP s q;have l7:(s.add q.minus).n<=s.n+q.n:=jP s q.minus;have l8:=jP c q;have l9:(c.add q.minus).n<=c.n+q.n:=jP c q.minus;have W:(k:Int).tmod 4=((k%4:Nat):Int):=by rw[VZ (by omega)];omega
  have y:(k:Int).tmod 2=((k%2:Nat):Int):=by rw[VZ (by omega)];omega
  have e5:IntKind.i64.wrap ((k%4:Nat):Int)=((k%4:Nat):Int):=by rw[wrap_i64]<;>omega
  have e6:IntKind.i64.wrap ((k%2:Nat):Int)=((k%2:Nat):Int):=by rw[wrap_i64]<;>omega
  have z:IntKind.i64.wrap ((k:Int)+1)=((k+1:Nat):Int):=by rw[wrap_i64]<;>omega
  have N:∀h:q.n≠0,(4<=k+1->ac q.n+(k+1)<=b+6):=by
   intro h o;rcases Vm k 4 with l|l
   ·have:=dW J;omega
   ·have C:q.n*4<=q.n*k:=VN _ l;have h6:=CB (a:=q.n) (b:=t.n) (by omega) h;have:=I l;omega
  refine b9 ?_;simp[Zt,v,w,p];refine zq c2 ?_;simp[m];refine zq c3 ?_;simp[p];refine zq c4 ?_;by_cases hz:q.n=0
  ·rw[F,Vh hz]at i;rcases u with rfl|⟨rfl,rfl⟩
   ·simp[hz,o,l,<-i,V.lowB,dx,lim]
   ·simp[hz,o,l,<-i,V.lowB,dx,kr,lim]
  ·rw[F,Vk hz]at i;have hn2:=N hz;by_cases D:2<=k%4
   ·have A:(2:Int)<=(k:Int)%4:=by omega
    simp[hz,p,m,W,A];refine zq c5 ?_;rw[Vh D]at i;by_cases d:k%2=1
    ·rw[Vh d]at i;rcases u with rfl|⟨rfl,rfl⟩
     ·simp[o,m,y,d];refine zq Q ?_;simp[v,w,o,l,p,m];exact⟨f,by omega,k+1,q,(s.add q.minus),c,(s.add q.minus).v,by simp,.inl rfl,by simpa using z,by omega,by omega,by omega,by omega,by omega,by omega,by omega,i⟩
     ·simp[o,m,y,d];refine zq Q ?_;simp[v,w,o,l,p,m];exact⟨f,by omega,k+1,q,(Fx.add ⟨false,0⟩ q.minus),c,(Fx.add ⟨false,0⟩ q.minus).v,by simp,.inl rfl,by simpa using z,by omega,by omega,by omega,by omega,by omega,by omega,by omega,i⟩
    ·have e:k%2=0:=by omega
     rw[Vk d]at i;rcases u with rfl|⟨rfl,rfl⟩
     ·simp[l,m,y,e];refine zq U ?_;simp[v,w,o,l,p,m];exact⟨f,by omega,k+1,q,s,c.add q.minus,s.v,by simp,.inl rfl,by simpa using z,by omega,by omega,by omega,by omega,by omega,by omega,by omega,i⟩
     ·simp[l,m,y,e];refine zq U ?_;simp[v,w,o,l,p,m];exact⟨f,by omega,k+1,q,⟨false,0⟩,c.add q.minus,.agg [.bool false,.nil],by simp,.inr ⟨rfl,rfl⟩,by simpa using z,by omega,by omega,by omega,by omega,by omega,by omega,by omega,i⟩
   ·have A:¬(2:Int)<=(k:Int)%4:=by omega
    simp[hz,o,l,p,m,W,A];rw[Vk D]at i;by_cases d:k%2=1
    ·rw[Vh d]at i;rcases u with rfl|⟨rfl,rfl⟩
     ·simp[y,d];refine zq P ?_;simp[v,w,o,l,p,m];exact⟨f,by omega,k+1,q,(s.add q),c,(s.add q).v,by simp,.inl rfl,by simpa using z,by omega,by omega,by omega,by omega,by omega,by omega,by omega,i⟩
     ·simp[y,d];refine zq P ?_;simp[v,w,o,l,p,m];exact⟨f,by omega,k+1,q,(Fx.add ⟨false,0⟩ q),c,(Fx.add ⟨false,0⟩ q).v,by simp,.inl rfl,by simpa using z,by omega,by omega,by omega,by omega,by omega,by omega,by omega,i⟩
    ·have e:k%2=0:=by omega
     rw[Vk d]at i;rcases u with rfl|⟨rfl,rfl⟩
     ·simp[y,e];refine zq S ?_;simp[v,w,o,l,p,m];exact⟨f,by omega,k+1,q,s,c.add q,s.v,by simp,.inl rfl,by simpa using z,by omega,by omega,by omega,by omega,by omega,by omega,by omega,i⟩
     ·simp[y,e];refine zq S ?_;simp[v,w,o,l,p,m];exact⟨f,by omega,k+1,q,⟨false,0⟩,c.add q,.agg [.bool false,.nil],by simp,.inr ⟨rfl,rfl⟩,by simpa using z,by omega,by omega,by omega,by omega,by omega,by omega,by omega,i⟩
