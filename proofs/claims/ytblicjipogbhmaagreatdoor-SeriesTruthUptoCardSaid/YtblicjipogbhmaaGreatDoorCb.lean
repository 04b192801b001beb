import Derived.Test.YtblicjipogbhmaaGreatDoorCa
import Derived.Test.YtblicjipogbhmaaGreatDoorFi
import Derived.Test.YtblicjipogbhmaaGreatDoorFi
import Derived.Test.YtblicjipogbhmaaGreatDoorHm
namespace Go.Abs.W
theorem Ai (next:Fx->Fx)(m:Nat)(o:4<=m)(n:∀a:Fx,(next a).n*m<=a.n)(r:∀a:Fx,a.neg=false->(next a).neg=false):∀(f k:Nat) (p s:Fx),1<=k->p.neg=false->s.neg=false->p.n<=s.n ->
 (eg next f k p s).neg=false/\(3*(m-1))*s.n<=(3*(m-1))*(eg next f k p s).n+p.n/\(3*(m-1))*(eg next f k p s).n<=(3*(m-1))*s.n+p.n
 |0,k,p,s,_,_,h,_=>⟨h,X9 _ _,X9 _ _⟩
 |f+1,k,p,s,I,y,h,z=>by
  have D:=n p;have d:=r p y;unfold eg;split
  ·exact⟨h,X9 _ _,X9 _ _⟩
  ·generalize next p=q at *
   have B:3*(q.by' (2*k+1)).n<=q.n:=by
    show 3*(q.n/(2*k+1))<=q.n;have E:q.n/(2*k+1)*3<=q.n/(2*k+1)*(2*k+1):=VN _ (by omega);have F:=WT q.n (2*k+1);omega
   have g:(q.by' (2*k+1)).neg=false:=d;have A:q.n*4<=q.n*m:=VN _ o;generalize q.by' (2*k+1)=t at *
   have i:∀u:Fx,u.neg=false->q.n<=u.n->s.n<=u.n+t.n->u.n<=s.n+t.n ->
    (eg next f (k+1) q u).neg=false/\(3*(m-1))*s.n<=(3*(m-1))*(eg next f (k+1) q u).n+p.n/\(3*(m-1))*(eg next f (k+1) q u).n<=(3*(m-1))*s.n+p.n:=by
    intro u C v w x;obtain⟨a,b,c⟩:=Ai next m o n r f (k+1) q u (by omega) d C v;have G:(3*(m-1))*t.n<=(m-1)*q.n:=by
     have:(m-1)*(3*t.n)<=(m-1)*q.n:=VN _ B;rw[show 3*(m-1)*t.n=(m-1)*(3*t.n) by rw[VE 3,Vt]];exact this
    have H:(m-1)*q.n+q.n=q.n*m:=by rw[<-Nat.succ_mul,VE];congr 1;omega
    have j:(3*(m-1))*s.n<=(3*(m-1))*(u.n+t.n):=VN _ w;have l:(3*(m-1))*u.n<=(3*(m-1))*(s.n+t.n):=VN _ x;rw[VM]at j l;exact⟨a,by omega,by omega⟩
   split
   ·have e:s.add t.minus=⟨false,s.n-t.n⟩:=by
     unfold Fx.add Fx.minus;simp only[h,g];rw[Vk (by decide),Vk (by omega)]
    rw[e];exact i _ rfl (by simp only[];omega) (by simp only[];omega) (by simp only[];omega)
   ·have e:s.add t=⟨false,s.n+t.n⟩:=by
     unfold Fx.add;simp only[h,g];rfl
    rw[e];exact i _ rfl (by simp only[];omega) (by simp only[];omega) (by simp only[];omega)
theorem U0 {n b:Nat}(c:2<=n):(cZ n b).neg=false/\3*(n*n-1)*(2^b/n)<=3*(n*n-1)*(cZ n b).n+2^b/n/\3*(n*n-1)*(cZ n b).n<=3*(n*n-1)*(2^b/n)+2^b/n:=by
 unfold cZ kw;have d:4<=n*n:=Wi c c;exact Ai (fun a=>a.by' (n*n)) (n*n) d (fun a=>WT _ _) (fun a h=>h) _ 1 ⟨false,2^b/n⟩ ⟨false,2^b/n⟩ (by omega) rfl rfl (Vo _)
theorem DD {b:Nat}(c:10<=b):(ii b).neg=false/\31*2^b<=10*(ii b).n+1024/\10*(ii b).n<=33*2^b:=by
 obtain⟨d,g,i⟩:=U0 (n:=5) (b:=b) (by omega);obtain⟨f,h,j⟩:=U0 (n:=239) (b:=b) (by omega);have p:2^10<=2^b:=Vg (by omega) c;have a:(2:Nat)^10=1024:=rfl;have l:(2:Nat)^4=16:=rfl;have k:(2:Nat)^2=4:=rfl;unfold ii;generalize cZ 5 b=X at *
 generalize cZ 239 b=Y at *
 generalize 2^b=B at *
 have e:Fx.add ⟨false,X.n*2^4⟩ ⟨true,Y.n*2^2⟩=⟨false,X.n*2^4-Y.n*2^2⟩:=by
  unfold Fx.add;simp only[];rw[Vk (by decide),Vk (by omega)]
 rw[e];exact⟨rfl,by simp only[];omega,by simp only[];omega⟩
theorem Qj (x:Nat)(a:x<4294967296):aR .and .u32 (x:Int) 3=some ((x%4:Nat):Int):=by
 have h:=CD x 3 a (by omega);rw[show(3:Nat)=2^2-1 from rfl,XK]at h;exact h
theorem Q4 (k:Nat)(a:k<4):aR .and .i64 (4-(k:Int)) 3=some (((4-k)%4:Nat):Int):=by
 rcases(by omega:k=0\/k=1\/k=2\/k=3)with rfl|rfl|rfl|rfl<;>decide
def aZ (d:Dy):Nat:=(max d.top 0).toNat
def aX (d:Dy)(b:Nat):Nat:=b+aZ d+40
def cU (d:Dy)(b:Nat):Nat:=(ii (aX d b)).n/2
def bO (d:Dy)(b:Nat):Fx:=Fx.of d (aX d b)
def cC (d:Dy)(b:Nat):Nat:=(bO d b).n/cU d b
def b8 (d:Dy)(b:Nat):Fx:=(bO d b).add ⟨!(bO d b).neg,cC d b*cU d b⟩
def ez (d:Dy)(b:Nat):Nat:=if(bO d b).neg=true then(4-cC d b%4)%4 else cC d b%4
def dr (d:Dy)(b:Nat):Fx:=⟨(b8 d b).neg,(b8 d b).n/2^(aZ d+40)⟩
theorem Lh {d:Dy}{b:Nat}(ok:d.Ok)(k:Nat)(c:d.top+b<=k):ac (Fx.of d b).n<=max k 4096:=by
 unfold Fx.of;have e:=ok.bits;split
 ·have:=dW (VY (aa d.m) (2^(-(d.e+b)).toNat));simp only[];omega
 ·by_cases a:aa d.m=0
  ·simp only[a,WR,iG];omega
  ·simp only[];rw[tV a];have:d.m≠[]:=fun h=>a (by rw[h];rfl)
   unfold Dy.top at c;rw[Vk this]at c;omega
set_option maxHeartbeats 1000000 in
theorem QT (d:Dy)(b:Nat)(ok:d.Ok)(hb:b<=3000)(ht:d.top<=128):CQ prog qzr [d.v,.int .i64 b] (.tup [(dr d b).v,.int .i64 (ez d b)]):=by
 refine ap rfl fun H=>?_
 have t:=lf d ok.w;rw[Vh ok.valid]at t;have W:(aZ d:Int)=max d.top 0:=by unfold aZ;omega
 have hT:aZ d<=128:=by omega
 have Q:aX d b=b+aZ d+40:=rfl;have O:=BC (aX d b) (by omega);have U:ez d b=if(bO d b).neg=true then(4-cC d b%4)%4 else cC d b%4:=rfl;have S:dr d b=⟨(b8 d b).neg,(b8 d b).n/2^(aZ d+40)⟩:=rfl;have A:b8 d b=(bO d b).add ⟨!(bO d b).neg,cC d b*cU d b⟩:=rfl;have l:cC d b=(bO d b).n/cU d b:=rfl;have e:=Lh (d:=d) (b:=aX d b) ok 4200 (by omega);have c4:=S3 d (aX d b) ok (by omega) (by omega) (fun E=>by
  have m:=e;unfold Fx.of at m;rw[Vk (by omega)]at m;simp only[]at m;unfold Sm;omega)
 have Y:Fx.of d (aX d b)=bO d b:=rfl;rw[Y]at e c4;obtain⟨_,pl,pu⟩:=DD (b:=aX d b) (by omega);have pp:2^12<=2^aX d b:=Vg (by omega) (by omega);have P:(2:Nat)^12=4096:=rfl;have z:cU d b=(ii (aX d b)).n/2:=rfl;have J:Sm (ii (aX d b)).n:=by
  have q:=dW (show(ii (aX d b)).n<=4*2^aX d b by omega);have m:=qY (a:=4) (b:=2^aX d b);have h3:=pU (aX d b);have h4:ac 4=3:=by decide
  unfold Sm;omega
 have u:=Cl (ii (aX d b)).n 1 J (by omega);rw[Nat.pow_one,<-z]at u;have E:0<cU d b:=by omega
 have F:Sm (cU d b):=J.mono (by omega);have sX:Sm (bO d b).n:=Vp e (by omega);have v:=DR (aB (bO d b).n) (aB (cU d b)) sX.len F.len (aY _) (aY _) (by rw[aP];exact E);rw[aP,aP,<-l]at v;have c:cC d b*cU d b<=(bO d b).n:=by rw[l];exact WT _ _
 have g:cC d b<=(bO d b).n:=by rw[l];exact VY _ _
 have I:=sX.mono g;have G:=sX.mono c;have x:=Dr (aB (cC d b)) (aB (cU d b)) I.len F.len (aY _) (aY _);rw[aP,aP,G.cl]at x;have n:=uE (k:=4200) (Vp e (by omega)) (Vp (dW c) (Vp e (by omega)));have y:=mG (bO d b) ⟨!(bO d b).neg,cC d b*cU d b⟩ sX G (Vp n (by omega));rw[<-A]at y;have sR:Sm (b8 d b).n:=by
  have q:=jP (bO d b) ⟨!(bO d b).neg,cC d b*cU d b⟩;rw[<-A]at q;exact Vp (dW q) (Vp n (by omega))
 have f:=Cl (b8 d b).n (aZ d+40) sR (by omega);have Z:IntKind.i64.wrap ((b:Int)+aZ d)=(b:Int)+aZ d:=by rw[wrap_i64]<;>omega
 have f2:IntKind.i64.wrap ((b:Int)+aZ d+40)=(aX d b:Int):=by rw[wrap_i64]<;>omega
 rw[U,S];have⟨w,hw⟩:∃w,w=aZ d+40:=⟨_,rfl⟩
 have f3:IntKind.i64.wrap ((aZ d:Int)+40)=(w:Int):=by rw[wrap_i64]<;>omega
 rw[<-hw]at f ⊢;have f4:(cC d b=0/\aB (cC d b)=[])\/(cC d b≠0/\aB (cC d b)=(cC d b%4294967296) :: aB (cC d b/4294967296)):=by
  by_cases h:cC d b=0
  ·exact .inl ⟨h,by rw[h];rfl⟩
  ·exact .inr ⟨h,ue h⟩
 have o:(if d.top<0 then 0 else d.top)=(aZ d:Int):=by split<;>omega
 clear Q W z l pl pu pp e n g c;generalize aZ d=T at *
 generalize aX d b=C at *
 generalize cU d b=Hf at *
 generalize cC d b=N at *
 generalize b8 d b=R at *
 generalize bO d b=X at *
 have hl:(aB N).length<=256:=I.len;simp[Dy.v];refine zq t ?_;simp[o,Z,f2];refine zq O ?_;simp;refine zq u ?_;simp;refine zq c4 ?_;simp;refine zq v ?_;simp;refine zq x ?_;simp;refine zq y ?_;have⟨L,hL⟩:∃L,L=N%4294967296:=⟨_,rfl⟩
 have⟨K,r⟩:∃K,K=N%4:=⟨_,rfl⟩
 have⟨M,hM⟩:∃M,M=(4-K)%4:=⟨_,rfl⟩
 have p:=Qj L (by omega);have B:=Q4 K (by omega);rw[show L%4=K by omega]at p;rw[<-hM]at B;have g3:IntKind.i64.wrap (4-(K:Int))=4-(K:Int):=by rw[wrap_i64]<;>omega
 have D:IntKind.i64.wrap (K:Int)=(K:Int):=by rw[wrap_i64]<;>omega
 rw[<-hL]at f4;rw[<-r,<-hM];rcases f4 with ⟨s,j⟩|⟨s,j⟩
 ·have g5:aR .and .i64 4 3=some 0:=by decide
  have g6:IntKind.i64.wrap 4=4:=by rw[wrap_i64]<;>omega
  by_cases i:X.neg=true
  ·simp[j,i,g5,g6,f3,lim];refine zq f ?_;simp[r,hM,s,lim]
  ·simp[j,i,f3,lim];refine zq f ?_;simp[r,s,lim]
 ·by_cases i:X.neg=true
  ·simp[j,i,f3,p,B,g3,D,u32,lim];refine zq f ?_;simp[lim]
  ·simp[j,i,f3,p,D,u32,lim];refine zq f ?_;simp[lim]
theorem sU {x:Fx}{b:Nat}(d:x.n<=2^(b+1)):∀(f k:Nat) (t s c:Fx),0<k->t.n<=2*2^b->(k=1->t.n<=2^b) ->
 (d7 x b f k t s c).1.n<=s.n+f*(2*2^b)/\(d7 x b f k t s c).2.n<=c.n+f*(2*2^b)
 |0,k,t,s,c,_,_,_=>by unfold d7;simp only[];omega
 |f+1,k,t,s,c,g,p,i=>by
  have n:=UH (t:=t.n) g d;rw[<-sZ t x b k]at n;unfold d7;generalize (t.times x b).by' k=q at *
  have o:q.n<=2*t.n:=by
   have:=Xn q.n g;omega
  have a:q.n<=2*2^b:=by
   rcases Vm k 2 with h|h
   ·have j:=i (by omega);omega
   ·have j:q.n*2<=q.n*k:=VN _ h;omega
  have e:(f+1)*(2*2^b)=f*(2*2^b)+2*2^b:=by rw[VI,WH]
  have r:(if 2<=k%4 then q.minus else q).n=q.n:=by split<;>rfl
  generalize (if 2<=k%4 then q.minus else q)=u at *
  split
  ·simp only[];omega
  ·split
   ·have l:=sU d f (k+1) q (s.add u) c (by omega) a (by omega);have m:=jP s u;omega
   ·have l:=sU d f (k+1) q s (c.add u) (by omega) a (by omega);have m:=jP c u;omega
theorem LQ {x:Fx}{b:Nat}(c:x.n<=2^(b+1))(l:b<=3000):ac (dk x b).1.n<=8000/\ac (dk x b).2.n<=8000:=by
 have h:=sU c (b+8) 1 ⟨false,2^b⟩ ⟨false,0⟩ ⟨false,2^b⟩ (by omega) (by simp only[];omega) (by simp only[];omega);have e:dk x b=d7 x b (b+8) 1 ⟨false,2^b⟩ ⟨false,0⟩ ⟨false,2^b⟩:=rfl;rw[<-e]at h;have d:(b+8)*(2*2^b)<=4000*(2*2^b):=Vn _ (by omega);have f:=qY (a:=8001) (b:=2^b);have g:=pU b;have i:ac 8001=13:=by decide
 simp only[]at h;have j:=dW (show(dk x b).1.n<=8001*2^b by omega);have k:=dW (show(dk x b).2.n<=8001*2^b by omega);omega
theorem sQ (d:Dy)(b:Nat):(dr d b).n<=2^(b+1):=by
 obtain⟨_,n,q⟩:=DD (b:=aX d b) (by unfold aX;omega);have o:2^12<=2^aX d b:=Vg (by omega) (by unfold aX;omega);have a:(2:Nat)^12=4096:=rfl;have g:b8 d b=(bO d b).add ⟨!(bO d b).neg,cC d b*cU d b⟩:=rfl;have f:cC d b=(bO d b).n/cU d b:=rfl;have k:cU d b=(ii (aX d b)).n/2:=rfl;have h:0<cU d b:=by omega
 have l:=WG (bO d b).n h;have i:=WY (bO d b).n (cU d b);rw[<-f]at i;have m:(b8 d b).n<cU d b:=by
  rw[g];unfold Fx.add;simp only[];rw[Vk (by cases(bO d b).neg<;>decide),Vk (by omega)];simp only[];omega
 show(b8 d b).n/2^(aZ d+40)<=_;have e:2^aX d b=2^b*2^(aZ d+40):=by unfold aX;rw[Yg,Vs]
 have p:0<2^(aZ d+40):=Xs (by omega);refine(aag p).2 ?_;have c:2^(b+1)=2*2^b:=by rw[VH,VE]
 have j:2^(aZ d+40)*2^(b+1)=2*2^aX d b:=by rw[e,c,WM,VE (2^b)]
 omega
def dL (d:Dy)(cosine:Bool)(b:Nat):Fx:=
 let n:=(ez d b+if cosine then 1 else 0)%4
 if n=1 then(dk (dr d b) b).2 else if n=2 then(dk (dr d b) b).1.minus else if n=3 then(dk (dr d b) b).2.minus else(dk (dr d b) b).1
def jv (d:Dy)(cosine:Bool)(p:Nat):Iv:=
 if d.m=[]then(if cosine then Iv.pt (nD 1)else Iv.pt d)else Iv.near (dL d cosine (p+64)) (p+64) p
theorem LZ {d:Dy}{c:Bool}{b:Nat}(a:b<=3000):ac (dL d c b).n<=8000:=by
 have h:=LQ (sQ d b) a;unfold dL;simp only[];generalize (ez d b+if c=true then 1 else 0)%4=n;split
 ·exact h.2
 ·split
  ·exact h.1
  ·split
   ·exact h.2
   ·exact h.1
set_option maxHeartbeats 1000000 in
theorem Ob (d:Dy)(a:Bool)(p:Nat)(ok:d.Ok)(L:p<=2900)(C:d.top<=128):CQ prog q43 [d.v,.bool a,.int .i64 p] (jv d a p).v:=by
 refine ap rfl fun H=>?_
 have i:=mX d ok.w;rw[Vh ok.valid]at i;have m:=qN d ok.w;rw[Vh ok.valid]at m;have s:(nD 1).Ok:=bR (by omega);have n:=qN (nD 1) s.w;rw[Vh s.valid]at n;have c4:=qr 1 (by omega) (by omega);have w:Dy.of (decide ((1:Int)<0)) (1:Int).natAbs 0=nD 1:=rfl;rw[w]at c4;by_cases j:d.m=[]
 ·have es:d.sgn=0:=by unfold Dy.sgn;rw[Vh j]
  have k:jv d a p=if a then Iv.pt (nD 1)else Iv.pt d:=by unfold jv;rw[Vh j]
  rw[es]at i;rw[k];generalize Iv.pt (nD 1)=y at *
  generalize nD 1=z at *
  simp[Dy.v];refine zq i ?_;cases a
  ·simp;refine zq m ?_;simp[lim]
  ·simp;refine zq c4 ?_;simp;refine zq n ?_;simp[lim]
 ·have es:d.sgn≠0:=by unfold Dy.sgn;rw[Vk j];split<;>omega
  have k:jv d a p=Iv.near (dL d a (p+64)) (p+64) p:=by unfold jv;rw[Vk j]
  have e:dL d a (p+64)=if(ez d (p+64)+if a then 1 else 0)%4=1 then(dk (dr d (p+64)) (p+64)).2 else if(ez d (p+64)+if a then 1 else 0)%4=2 then(dk (dr d (p+64)) (p+64)).1.minus else if(ez d (p+64)+if a then 1 else 0)%4=3 then(dk (dr d (p+64)) (p+64)).2.minus else(dk (dr d (p+64)) (p+64)).1:=rfl;rw[k];have o:=QT d (p+64) ok (by omega) C;have q:=PJ (dr d (p+64)) (p+64) (sQ _ _) (by omega);have r:=LZ (d:=d) (c:=a) (b:=p+64) (by omega);have f:=Lc (dL d a (p+64)) (p+64) p r (by omega);have A:ez d (p+64)<4:=by unfold ez;split<;>omega
  generalize B:p+64=b at o q r f A e ⊢;have x:IntKind.i64.wrap ((p:Int)+64)=(b:Int):=by rw[wrap_i64]<;>omega
  generalize dk (dr d b) b=S at *
  generalize dr d b=R at *
  generalize ez d b=K at *
  have J:IntKind.i64.wrap ((K:Int)+1)=((K+1:Nat):Int):=by rw[wrap_i64]<;>omega
  have g:=uT S.1;have h:=uT S.2;generalize Iv.near (dL d a b) b p=Y at *
  generalize dL d a b=Z at *
  simp[Dy.v];refine zq i ?_;simp[es,x];refine zq o ?_;simp;refine zq q ?_;have N:IntKind.i64.wrap 0=0:=by decide
  have E:IntKind.i64.wrap 1=1:=by decide
  have F:IntKind.i64.wrap 2=2:=by decide
  have G:IntKind.i64.wrap 3=3:=by decide
  have I:IntKind.i64.wrap 4=4:=by decide
  have D:Int.tmod 0 4=0:=by decide
  have t:Int.tmod 1 4=1:=by decide
  have u:Int.tmod 2 4=2:=by decide
  have v:Int.tmod 3 4=3:=by decide
  have M:Int.tmod 4 4=0:=by decide
  have l:K=0\/K=1\/K=2\/K=3:=by omega
  cases a<;>(rcases l with rfl|rfl|rfl|rfl)<;>simp at e
  ·subst e;simp[D];refine zq f ?_;simp[lim]
  ·subst e;simp[t];refine zq f ?_;simp[lim]
  ·subst e;simp[u];refine zq g ?_;simp;refine zq f ?_;simp[lim]
  ·subst e;simp[v];refine zq h ?_;simp;refine zq f ?_;simp[lim]
  ·subst e;simp[E,t];refine zq f ?_;simp[lim]
  ·subst e;simp[F,u];refine zq g ?_;simp;refine zq f ?_;simp[lim]
  ·subst e;simp[G,v];refine zq h ?_;simp;refine zq f ?_;simp[lim]
  ·subst e;simp[I];refine zq f ?_;simp[lim]
theorem AU {a b:Fx}{k:Nat}(c:ac a.n<=k)(d:ac b.n<=k):ac (a.n+b.n)<=k+1/\ac (a.add b).n<=k+1:=⟨uE c d,Vp (dW (jP a b)) (uE c d)⟩
def unitI : Iv:=⟨nD (-1),nD 1,false⟩
theorem nD1 : (nD 1).Ok:=bR (by omega)
theorem nDm1 : (nD (-1)).Ok:=bR (by omega)
theorem nD7 : (nD 7).Ok:=bR (by omega)
theorem tq : unitI.W:=⟨nDm1.w,nD1.w⟩
theorem rQ (k:Int)(a:-4611686018427387904<=k)(b:k<=4611686018427387904):CQ prog YD [.int .i64 k] (nD k).v:=qr k a b
theorem Mc : CQ prog q84 [] unitI.v:=by
 refine ap rfl fun H=>?_
 have c:=rQ (-1) (by omega) (by omega);have d:=rQ 1 (by omega) (by omega);have e:unitI=⟨nD (-1),nD 1,false⟩:=rfl;rw[e];generalize nD (-1)=a at *
 generalize nD 1=b at *
 simp;refine zq c ?_;simp;refine zq d ?_;simp[lim]
theorem R7 (p:Int):CQ prog qzs [.int .i64 p] (.bool (af p)):=by
 refine ap rfl fun H=>?_
 by_cases a:8<=p
 ·by_cases b:p<=512
  ·simp[af,a,b]
  ·simp[af,a,b]
 ·simp[af,a]
theorem xX {p:Int}(h:af p=true):8<=p/\p<=512:=by simpa[af]using h
theorem Tz {a:Fx}{b:Nat}{p:Int}:(Iv.near a b p).W:=by
 unfold Iv.near;split
 ·exact tt rRound_ok.w rRound_ok.w
 ·exact Iv.whole_W
theorem zE {d:Dy}{c:Bool}{p:Nat}(w:d.W):(jv d c p).W:=by
 unfold jv;split
 ·split
  ·exact dX nD1.w
  ·exact dX w
 ·exact Tz
