import Derived.Test.YtblicjipogbhmaaGreatDoorXd
import Derived.Test.YtblicjipogbhmaaGreatDoorHm
import Derived.Test.YtblicjipogbhmaaGreatDoorHx
namespace Go.Abs.W
def Iv.Gd (x:Iv):Prop:=x=Iv.whole\/x.known=true
theorem Cf {r s:Iv}(h:r.ins s=true):r.valid=true:=by
 simp only[Iv.ins,VA]at h;exact h.1.1
theorem Gd.of_valid {r:Iv}(h:r.valid=true)(b:r.all=true->r=Iv.whole):r.Gd:=by
 cases a:r.all
 ·right;simp[Iv.known,a,h]
 ·exact .inl (b a)
theorem zQ {r s:Dy × Int}(h:(Iv.made r s).all=true):Iv.made r s=Iv.whole:=by
 unfold Iv.made at h ⊢;split at h
 ·cases h
 ·rename_i a;rw[Vk a]
theorem y0 {f g:Dy->Dy->Dy × Int}{x y:Iv}(h:(Iv.four f g x y).all=true):Iv.four f g x y=Iv.whole:=by
 by_cases a:c9 f g x y 4
 ·rw[kI a]at h;cases h
 ·exact Ur a
theorem ov {x y:Iv}{p:Int}(b:x.W)(c:y.W):(x.mul y p).Gd:=by
 unfold Iv.mul;split
 ·rename_i h;have a:=h;simp only[VA]at a;have v:=Cf (K8 (p:=p) b c b c (.inr ⟨a.1.1,a.1.1,VL _,VL _⟩) (.inr ⟨a.1.2,a.1.2,VL _,VL _⟩));unfold Iv.mul at v;rw[Vh h]at v;exact Gd.of_valid v y0
 ·exact .inl rfl
theorem lL {x y:Iv}{p:Int}(b:x.W)(c:y.W):(x.div y p).Gd:=by
 unfold Iv.div;split
 ·rename_i h;have a:=h;simp only[VA]at a;have v:=Cf (Kv (p:=p) b c b c (.inr ⟨a.1.1.1,a.1.1.1,VL _,VL _⟩) (.inr ⟨a.1.1.2,a.1.1.2,VL _,VL _⟩));unfold Iv.div at v;rw[Vh h]at v;exact Gd.of_valid v y0
 ·exact .inl rfl
theorem jR (k:Int)(a:-4611686018427387904<=k)(b:k<=4611686018427387904):CQ prog q8i [.int .i64 k] (nI k k).v:=by
 refine ap rfl fun H=>?_
 have c:=Bl k a b;rw[<-show nD k=Dy.of (decide (k<0)) k.natAbs 0 from rfl]at c;have d:=tT (nD k);rw[show Iv.pt (nD k)=nI k k from rfl]at d;simp;refine zq c ?_;simp;refine zq d ?_;simp[lim]
theorem qK (x y:Iv)(a:x.W)(b:y.W):CQ prog q8h [x.v,y.v] (x.add y 320).v:=by
 refine ap rfl fun H=>?_
 simp;refine ak rfl rfl rfl (jS x y 320 a b) ?_;simp[lim]
theorem pO (x y:Iv)(a:x.W)(b:y.W):CQ prog q8f [x.v,y.v] (x.mul y 320).v:=by
 refine ap rfl fun H=>?_
 simp;refine ak rfl rfl rfl (nf x y 320 a b) ?_;simp[lim]
theorem tL (x y:Iv)(a:x.W)(b:y.W):CQ prog q8g [x.v,y.v] (x.div y 320).v:=by
 refine ap rfl fun H=>?_
 simp;refine ak rfl rfl rfl (lD x y 320 a b) ?_;simp[lim]
theorem q5n (x:Iv)(d:x.W)(g:x.Gd):CQ prog qzf [x.v] (jm x).v:=by
 refine ap rfl fun H=>?_
 rcases g with rfl|b
 ·simp[jm,Iv.whole,lim]
 ·have a:=(gO b).2;have c:=sk x d b;have e:jm x=⟨x.mag.neg',x.mag,false⟩:=by unfold jm;rw[a];rfl
  rw[e];rcases x with ⟨h,f,i⟩;simp only at a;subst a;simp;refine zq c ?_;simp;refine ak rfl rfl rfl (mA (Iv.mk h f false).mag) ?_;simp[lim]
theorem t8 {x:Iv}(a:x.W)(g:x.Gd):(jm x).W:=by
 unfold jm;split
 ·exact a
 ·rcases g with rfl|b
  ·rename_i h;exact absurd rfl h
  ·have ok:=jM a b;exact⟨(gh ok).w,ok.w⟩
theorem pe : ∀(n:Nat) (s:Iv),s.W->(kU n s).W
 |0,_,w=>w
 |n+1,_,_=>pe n _ aD
def dF (y:Iv):Iv:=(bq y 20 1 (nI 1 1) (nI 1 1)).2.add (jm ((((bq y 20 1 (nI 1 1) (nI 1 1)).1.mul y 320).div (nI 21 21) 320).mul (nI 2 2) 320)) 320
theorem DG {d:Dy}(h:d.m≠[]):eA d=kU (d.top+16).toNat (dF ((Iv.pt d).scl (-((d.top+16).toNat:Nat)))):=by
 unfold eA;rw[Vk h];rfl
theorem LE (d:Dy)(ok:d.Ok):CQ prog q8k [d.v] (eA d).v:=by
 refine ap rfl fun H=>?_
 have G:(nI 1 1).W:=ay (by decide);have u:=jR 1 (by omega) (by omega);by_cases h:d.m=[]
 ·simp[h,lim];refine zq u ?_;simp[eA,h,lim]
 ·rw[DG h];have ht:=ok.top_pos h;have F:d.top<=16384:=by have:=ok.top;unfold Dy.top;rw[Vk h];exact this
  have t:=Ds d ok;have⟨k,Z⟩:∃k:Nat,k=(d.top+16).toNat:=⟨_,rfl⟩
  rw[<-Z];have P:IntKind.i64.wrap (d.top+16)=d.top+16:=by rw[wrap_i64]<;>omega
  have Q:(if(0:Int)<d.top+16 then d.top+16 else 0)=(k:Int):=by split<;>omega
  have U:IntKind.i64.wrap (-(k:Int))=-(k:Int):=by rw[wrap_i64]<;>omega
  have cs:=DX (Iv.pt d) (-(k:Int)) (dX ok.w);have K:((Iv.pt d).scl (-(k:Int))).W:=iN;generalize hy:(Iv.pt d).scl (-(k:Int))=y at *
  simp[h,lim];refine zq t ?_;simp[P,Q];refine ak rfl rfl rfl (tT d) ?_;simp[U];refine zq cs ?_;simp;refine zq u ?_;simp;refine zq u ?_;simp;refine aJ (fun i E l=>∃(t s:Iv),l=H++[some ⟨3,[d.v],false,true⟩,some ⟨7,[b7],false,true⟩,some ⟨7,[y.v],false,true⟩,some ⟨7,[s.v],false,true⟩,some ⟨7,[t.v],false,true⟩] /\
   E 2=.ptr (H.length+1) 0 0/\E 3=.int .i64 k/\E 4=.ptr (H.length+2) 0 0/\E 5=.ptr (H.length+3) 0 0/\E 6=.ptr (H.length+4) 0 0/\E 7=.int .i64 ((i+1:Nat):Int)/\t.W/\s.W/\bq y (20-i) (i+1) t s=bq y 20 1 (nI 1 1) (nI 1 1)) 20 ?_ ?_
  ·exact⟨nI 1 1,nI 1 1,by simp[b7,lim],by simp,by simp,by simp,by simp,by simp,by simp,G,G,rfl⟩
  ·rintro i E l hi ⟨t,s,rfl,n,f,x,a,q,r,wt,ws,g⟩;by_cases e:i<20
   ·have A:((i+1:Nat):Int)<=20:=by omega
    have m:=pO t y wt K;have C:(t.mul y 320).W:=aD;have N:=jR ((i+1:Nat):Int) (by omega) (by omega);have wn:(nI ((i+1:Nat):Int) ((i+1:Nat):Int)).W:=ay (by omega);have cd:=tL (t.mul y 320) (nI ((i+1:Nat):Int) ((i+1:Nat):Int)) C wn;have J:((t.mul y 320).div (nI ((i+1:Nat):Int) ((i+1:Nat):Int)) 320).W:=aI;have p:=qK s _ ws J;have wa:(s.add ((t.mul y 320).div (nI ((i+1:Nat):Int) ((i+1:Nat):Int)) 320) 320).W:=aH;have w:IntKind.i64.wrap (((i+1:Nat):Int)+1)=((i+1+1:Nat):Int):=by rw[wrap_i64]<;>omega
    have c:bq y (20-(i+1)) (i+1+1) ((t.mul y 320).div (nI ((i+1:Nat):Int) ((i+1:Nat):Int)) 320) (s.add ((t.mul y 320).div (nI ((i+1:Nat):Int) ((i+1:Nat):Int)) 320) 320)=bq y 20 1 (nI 1 1) (nI 1 1):=by
     rw[<-g,show 20-i=(20-(i+1))+1 by omega];rfl
    generalize hS:s.add ((t.mul y 320).div (nI ((i+1:Nat):Int) ((i+1:Nat):Int)) 320) 320=S at *
    generalize hT:(t.mul y 320).div (nI ((i+1:Nat):Int) ((i+1:Nat):Int)) 320=T at *
    have⟨j,Y⟩:∃j:Nat,j=i+1:=⟨_,rfl⟩
    simp only[<-Y]at *
    simp[H6,x,q,r,A];refine zq m ?_;simp[r];refine zq N ?_;simp;refine zq cd ?_;simp[a,q];refine zq p ?_;simp[n,f,x,a,q,r];exact⟨e,T,S,by simp,by simpa using w,J,wa,c⟩
   ·obtain rfl:i=20:=by omega
    have b:(t,s)=bq y 20 1 (nI 1 1) (nI 1 1):=g;have W:(bq y 20 1 (nI 1 1) (nI 1 1)).1=t:=by rw[<-b]
    have es:(bq y 20 1 (nI 1 1) (nI 1 1)).2=s:=by rw[<-b]
    have m:=pO t y wt K;have v:=jR 21 (by omega) (by omega);have L:=jR 2 (by omega) (by omega);have B:(nI 21 21).W:=ay (by decide);have I:(nI 2 2).W:=ay (by decide);have cd:=tL (t.mul y 320) (nI 21 21) aD B;have M:=pO ((t.mul y 320).div (nI 21 21) 320) (nI 2 2) aI I;have gd:(((t.mul y 320).div (nI 21 21) 320).mul (nI 2 2) 320).Gd:=ov aI I;have o:(((t.mul y 320).div (nI 21 21) 320).mul (nI 2 2) 320).W:=aD;have O:=q5n _ o gd;have wr:=t8 o gd;have p:=qK s _ ws wr;have D:dF y=s.add (jm (((t.mul y 320).div (nI 21 21) 320).mul (nI 2 2) 320)) 320:=by unfold dF;rw[W,es]
    rw[<-D]at p;have wS:(dF y).W:=by rw[D];exact aH
    generalize dF y=S at *
    simp[H6,x,a,q,r];refine zq m ?_;simp;refine zq v ?_;simp;refine zq cd ?_;simp;refine zq L ?_;simp;refine zq M ?_;simp;refine zq O ?_;simp;refine zq p ?_;simp[a];refine aJ (fun i E l=>∃(s:Iv),l=H++[some ⟨3,[d.v],false,true⟩,some ⟨7,[b7],false,true⟩,some ⟨7,[y.v],false,true⟩,some ⟨7,[s.v],false,true⟩,some ⟨7,[t.v],false,true⟩] /\
     E 2=.ptr (H.length+1) 0 0/\E 3=.int .i64 k/\E 5=.ptr (H.length+3) 0 0/\E 8=.int .i64 i/\s.W/\kU (k-i) s=kU k S) k ?_ ?_
    ·exact⟨S,by simp[b7,lim],by simp[n],by simp[f],by simp[a],by simp,wS,rfl⟩
    ·rintro i E l hi ⟨s,rfl,n,f,a,z,ws,g⟩;by_cases e:i<k
     ·have A:(i:Int)<k:=by omega
      have m:=pO s s ws ws;have C:(s.mul s 320).W:=aD;have w:IntKind.i64.wrap ((i:Int)+1)=((i+1:Nat):Int):=by rw[wrap_i64]<;>omega
      have c:kU (k-(i+1)) (s.mul s 320)=kU k S:=by
       rw[<-g,show k-i=(k-(i+1))+1 by omega];rfl
      simp[H7,f,a,z,A];refine zq m ?_;simp[n,f,a,z];exact⟨e,s.mul s 320,by simp,by simpa using w,C,c⟩
     ·obtain rfl:i=k:=by omega
      rw[aau]at g;have b:s=kU i S:=g;simp[H7,n,f,a,z];simp[b7,b,lim]
def kZ (w:Iv):Iv:=jm ((w.mul (nI 9 9) 320).div (nI 1624 1624) 320)
theorem sN {z:Iv}:gJ z=(nI 2 2).mul ((bY (z.sq 320) 101 0 z (nI 0 0)).2.add (kZ (bY (z.sq 320) 101 0 z (nI 0 0)).1) 320) 320:=rfl
theorem rP {z:Iv}:(gJ z).W:=by rw[sN];exact aD
theorem vV {z:Iv}{p:Int}(w:z.W):z.abs.mul z.abs p=z.sq p:=(oy w).symm
theorem q5m (z:Iv)(n:z.W):CQ prog qze [z.v] (gJ z).v:=by
 refine ap rfl fun H=>?_
 have p:=q3w z 320 n;rw[vV n]at p;have U:(z.sq 320).W:=fe;have x:=jR 0 (by omega) (by omega);have K:(nI 0 0).W:=ay (by decide);rw[sN];generalize Y:z.sq 320=q at *
 simp;refine zq p ?_;simp;refine zq x ?_;simp[lQ,Bx,lP,dx];refine aJ (fun i E o=>∃(w s:Iv),o=H++[some ⟨7,[z.v],false,true⟩,some ⟨7,[b7],false,true⟩,some ⟨7,[q.v],false,true⟩,some ⟨7,[s.v],false,true⟩,some ⟨7,[w.v],false,true⟩] /\
  E 2=.ptr (H.length+1) 0 0/\E 3=.ptr (H.length+2) 0 0/\E 4=.ptr (H.length+3) 0 0/\E 5=.ptr (H.length+4) 0 0/\E 6=.int .i64 i/\w.W/\s.W/\bY q (101-i) i w s=bY q 101 0 z (nI 0 0)) 101 ?_ ?_
 ·exact⟨z,nI 0 0,by simp[b7,lim],by simp,by simp,by simp,by simp,by simp,n,K,rfl⟩
 ·rintro i E o hi ⟨w,s,rfl,t,u,d,e,j,m,ws,v⟩;by_cases l:i<101
  ·have J:(i:Int)<=100:=by omega
   have D:IntKind.i64.wrap (2*(i:Int))=2*(i:Int):=by rw[wrap_i64]<;>omega
   have F:IntKind.i64.wrap (2*(i:Int)+1)=2*(i:Int)+1:=by rw[wrap_i64]<;>omega
   have G:IntKind.i64.wrap ((i:Int)+1)=((i+1:Nat):Int):=by rw[wrap_i64]<;>omega
   have C:=jR (2*(i:Int)+1) (by omega) (by omega);have T:(nI (2*(i:Int)+1) (2*(i:Int)+1)).W:=ay (by omega);have cd:=tL w (nI (2*(i:Int)+1) (2*(i:Int)+1)) m T;have P:(w.div (nI (2*(i:Int)+1) (2*(i:Int)+1)) 320).W:=aI;have g:=qK s _ ws P;have O:(s.add (w.div (nI (2*(i:Int)+1) (2*(i:Int)+1)) 320) 320).W:=aH;have h:=pO w q m U;have Q:(w.mul q 320).W:=aD;have k:bY q (101-(i+1)) (i+1) (w.mul q 320) (s.add (w.div (nI (2*(i:Int)+1) (2*(i:Int)+1)) 320) 320)=bY q 101 0 z (nI 0 0):=by
    rw[<-v,show 101-i=(101-(i+1))+1 by omega];rfl
   generalize W:s.add (w.div (nI (2*(i:Int)+1) (2*(i:Int)+1)) 320) 320=S at *
   generalize hM:w.mul q 320=M at *
   simp[Jl,d,e,j,J,D,F];refine zq C ?_;simp;refine zq cd ?_;simp;refine zq g ?_;simp[u,d,e];refine zq h ?_;simp[t,u,d,e,j];exact⟨l,M,S,by simp,by simpa using G,Q,O,by rw[show 100-i=101-(i+1) by omega];exact k⟩
  ·obtain rfl:i=101:=by omega
   have a:(w,s)=bY q 101 0 z (nI 0 0):=v;have I:(bY q 101 0 z (nI 0 0)).1=w:=by rw[<-a]
   have es:(bY q 101 0 z (nI 0 0)).2=s:=by rw[<-a]
   rw[I,es];have A:=jR 9 (by omega) (by omega);have f:=jR 1624 (by omega) (by omega);have y:=jR 2 (by omega) (by omega);have N:(nI 9 9).W:=ay (by decide);have b:(nI 1624 1624).W:=ay (by decide);have L:(nI 2 2).W:=ay (by decide);have h:=pO w (nI 9 9) m N;have cd:=tL (w.mul (nI 9 9) 320) (nI 1624 1624) aD b;have gd:((w.mul (nI 9 9) 320).div (nI 1624 1624) 320).Gd:=lL aD b;have c:((w.mul (nI 9 9) 320).div (nI 1624 1624) 320).W:=aI;have r:=q5n _ c gd;have wr:=t8 c gd;rw[show jm ((w.mul (nI 9 9) 320).div (nI 1624 1624) 320)=kZ w from rfl]at r wr;have g:=qK s _ ws wr;have B:=pO (nI 2 2) (s.add (kZ w) 320) L aH;simp[Jl,e,j];refine zq A ?_;simp;refine zq h ?_;simp;refine zq f ?_;simp;refine zq cd ?_;simp;refine zq r ?_;simp;refine zq y ?_;simp[d]
   refine zq g ?_;simp;refine zq B ?_;simp[t,b7,lim]
theorem NI : CQ prog q4k [] rLog2.v:=by
 refine ap rfl fun H=>?_
 have a:(nI 1 1).W:=ay (by decide);have b:(nI 3 3).W:=ay (by decide);simp;refine ak rfl rfl rfl (jR 1 (by omega) (by omega)) ?_;simp;refine ak rfl rfl rfl (jR 3 (by omega) (by omega)) ?_;simp;refine ak rfl rfl rfl (tL (nI 1 1) (nI 3 3) a b) ?_;simp;refine ak rfl rfl rfl (q5m ((nI 1 1).div (nI 3 3) 320) aI) ?_;simp[rLog2,lim]
theorem yk : rLog2.W:=rP
def kx (d:Dy):Iv:=(Iv.pt d).scl (-d.top)
def qp (d:Dy):Iv:=((kx d).add (nI (-1) (-1)) 320).div ((kx d).add (nI 1 1) 320) 320
theorem sP {d:Dy}:gI d=(gJ (qp d)).add ((nI d.top d.top).mul rLog2 320) 320:=rfl
theorem LF (d:Dy)(ok:d.Ok)(b:d.m≠[]):CQ prog q8j [d.v] (gI d).v:=by
 refine ap rfl fun H=>?_
 have o:=ok.top_pos b;have c:d.top<=16384:=by have:=ok.top;unfold Dy.top;rw[Vk b];exact this
 have t:=Ds d ok;have j:IntKind.i64.wrap (-d.top)=-d.top:=by rw[wrap_i64]<;>omega
 have sc:=DX (Iv.pt d) (-d.top) (dX ok.w);rw[show(Iv.pt d).scl (-d.top)=kx d from rfl]at sc;have e:(kx d).W:=iN;have l:(nI 1 1).W:=ay (by decide);have m:(nI (-1) (-1)).W:=ay (by decide);have wt:(nI d.top d.top).W:=ay (by omega);have f:=qK (kx d) (nI (-1) (-1)) e m;have g:=qK (kx d) (nI 1 1) e l;have a:=tL ((kx d).add (nI (-1) (-1)) 320) ((kx d).add (nI 1 1) 320) aH aH;rw[show((kx d).add (nI (-1) (-1)) 320).div ((kx d).add (nI 1 1) 320) 320=qp d from rfl]at a;have n:(qp d).W:=aI;have i:=q5m (qp d) n;have k:=pO (nI d.top d.top) rLog2 wt yk;have h:=qK (gJ (qp d)) ((nI d.top d.top).mul rLog2 320) rP aD;have cl:=NI;rw[sP];generalize rLog2=L at *
 generalize qp d=Z at *
 generalize kx d=M at *
 simp;refine zq t ?_;simp;refine ak rfl rfl rfl (tT d) ?_;simp[j];refine zq sc ?_;simp;refine ak rfl rfl rfl (jR (-1) (by omega) (by omega)) ?_;simp;refine zq f ?_;simp;refine ak rfl rfl rfl (jR 1 (by omega) (by omega)) ?_;simp;refine zq g ?_;simp;refine zq a ?_;simp;refine zq i ?_;simp;refine ak rfl rfl rfl (jR d.top (by omega) (by omega)) ?_;simp;refine zq cl ?_;simp;refine zq k ?_;simp;refine zq h ?_;simp[lim]
theorem og {d:Dy}:(eA d).W:=by
 by_cases a:d.m=[]
 ·unfold eA;rw[Vh a];exact ay (by decide)
 ·rw[DG a];exact pe _ _ (by unfold dF;exact aH)
def ep (x y:Iv):Bool:=(x.meet y).isSome
def dg (x:Iv)(a b:Int):Bool:=x.known&&decide (0<=x.lo.cmp (nD a))&&decide (x.hi.cmp (nD b)<=0)
theorem QX (x:Iv)(a b:Int)(i:x.W)(r:a.natAbs<=1048576)(s:b.natAbs<=1048576):CQ prog qzg [x.v,.int .i64 a,.int .i64 b] (.bool (dg x a b)):=by
 refine ap rfl fun H=>?_
 have g:=Bl a (by omega) (by omega);rw[<-show nD a=Dy.of (decide (a<0)) a.natAbs 0 from rfl]at g;have h:=Bl b (by omega) (by omega);rw[<-show nD b=Dy.of (decide (b<0)) b.natAbs 0 from rfl]at h;have o:(nD a).Ok:=bR (by omega);have p:(nD b).Ok:=bR (by omega);have v:=Cz x i;cases d:x.known
 ·rcases x with ⟨f,j,e⟩;simp;refine zq v ?_;cases hv:(Iv.mk f j e).valid
  ·simp[dg,d]
  ·cases e
   ·simp[Iv.known,hv]at d
   ·simp[dg,d]
 ·obtain⟨m,n⟩:=bg i d;obtain⟨hv,c⟩:=gO d;rw[hv]at v;have k:=px x.lo (nD a) m o;have l:=px x.hi (nD b) n p;rcases x with ⟨f,j,e⟩;simp only at c;subst c;simp;refine zq v ?_;simp;refine zq g ?_;simp;refine zq k ?_;by_cases q:0<=f.cmp (nD a)
  ·simp[q];refine zq h ?_;simp;refine zq l ?_;simp[dg,d,q]
  ·simp[q];simp[dg,d,q]
theorem Near.le_right {s t:Nat->Rat}(h:Near s t):SLe t s:=h.symm.le_left
theorem rat_le {u v:Dy}:u.rat<=v.rat↔u.val<=v.val:=by
 constructor
 ·intro h;have:=Vq h (Vj dK);rw[cL,cL]at this;exact Rat.intCast_le_intCast.1 this
 ·intro h;have:=dt h;rw[<-cL u,<-cL v]at this;exact Vw this dK
theorem qu {x:Iv}{s:Nat->Rat}(k:x.known=true)(h:x.Has s):SLe (fun _=>x.lo.rat) s/\SLe s (fun _=>x.hi.rat):=by
 obtain⟨c,a,b⟩:=h;exact⟨(SLe.of_le 0 fun n _=>(kA (a n) k).1).trans b.le_right,b.le_left.trans (SLe.of_le 0 fun n _=>(kA (a n) k).2)⟩
theorem sW {x:Iv}{s:Nat->Rat}(j:x.W)(h:x.known=true->SLe (fun _=>x.lo.rat) s/\SLe s (fun _=>x.hi.rat)):x.Has s:=by
 refine Ss (fun k=>?_) j;obtain⟨a,b⟩:=h k;have d:=Vj dK;have e:=a.mul_left (c:=fun _=>sc) (fun _=>d) (Bnd.const sc);have f:=b.mul_left (c:=fun _=>sc) (fun _=>d) (Bnd.const sc);have g:=cL x.lo;have i:=cL x.hi;exact⟨((SLe.of_le 0 fun n _=>by show _<=sc*x.lo.rat;rw[Wx,g];exact V2).trans e).trans (SLe.of_le 0 fun n _=>by show sc*s n<=s n*sc;rw[Wx];exact V2),
  ((SLe.of_le 0 fun n _=>by show s n*sc<=sc*s n;rw[Wx];exact V2).trans f).trans (SLe.of_le 0 fun n _=>by show sc*x.hi.rat<=_;rw[Wx,i];exact V2)⟩
theorem q28 {a b:Iv}(f:a.W)(g:b.W)(c:a.known=true)(d:b.known=true)(h:a.lo.val<=b.hi.val):bM a b=⟨a.lo,b.hi,false⟩/\(bM a b).known=true:=by
 have e:bM a b=⟨a.lo,b.hi,false⟩:=by
  unfold bM;rw[(gO c).2,(gO d).2];rfl
 exact⟨e,by rw[e];exact fv (bg f c).1 (bg g d).2 h⟩
theorem O1 {a b:Iv}{h i s:Nat->Rat}(j:a.W)(l:b.W)(c:a.known=true)(d:b.known=true)(o:a.Has h)(p:b.Has i)(m:SLe h s)(n:SLe s i) :
 (bM a b).known=true/\(bM a b).Has s:=by
 have f:=(qu c o).1.trans m;have g:=n.trans (qu d p).2;have hv:a.lo.val<=b.hi.val:=rat_le.1 (f.trans g).const;obtain⟨e,k⟩:=q28 j l c d hv;refine⟨k,sW (sw j l) fun _=>?_⟩;rw[e];exact⟨f,g⟩
theorem xv {x:Iv}{p:Int}{q:Rat}(w:x.W)(k:x.known=true)(a:af p=true)(d:dD x.lo=true)(f:dD x.hi=true)(g:x.lo.rat<=q)(h:q<=x.hi.rat) :
 (x.exp p).known=true/\(x.exp p).Has (es q):=by
 obtain⟨b,c⟩:=bg w k;have e:x.exp p=bM (iQ x.lo p) (iQ x.hi p):=by unfold Iv.exp;rw[k,a,d,f];rfl
 rw[e];exact O1 (B4 b) (B4 c) (A0 b a d).1.k (A0 c a f).1.k (DT p b).2 (DT p c).2 (CJ g) (CJ h)
theorem j2 {x:Iv}{p:Int}(w:x.W):(x.exp p).W:=by
 unfold Iv.exp;split
 ·rename_i h;simp only[VA]at h;obtain⟨a,b⟩:=bg w h.1.1.1;exact sw (B4 a) (B4 b)
 ·exact Iv.whole_W
theorem zM {y:Iv}{x:Rat}(g:y.W)(d:y.In x):∀(f n:Nat) (t s:Iv),n+1+f<=1000000->t.W->s.W->t.In (tm x n)->s.In (es x n) ->
 (bq y f (n+1) t s).1.W/\(bq y f (n+1) t s).2.W/\(bq y f (n+1) t s).1.In (tm x (n+f))/\(bq y f (n+1) t s).2.In (es x (n+f))
 |0,n,t,s,_,wt,ws,b,a=>⟨wt,ws,b,a⟩
 |f+1,n,t,s,k,wt,ws,b,a=>by
  have i:(t.mul y 320).W:=aD;have j:(nI ((n+1:Nat):Int) ((n+1:Nat):Int)).W:=cD (by omega) (by omega);have e:((t.mul y 320).div (nI ((n+1:Nat):Int) ((n+1:Nat):Int)) 320).W:=aI;have c:((t.mul y 320).div (nI ((n+1:Nat):Int) ((n+1:Nat):Int)) 320).In (tm x (n+1)):=jL (p:=320) i j (jO (p:=320) wt g b d) (du (n:=n+1) (by omega));have h:(s.add ((t.mul y 320).div (nI ((n+1:Nat):Int) ((n+1:Nat):Int)) 320) 320).In (es x (n+1)):=iO (p:=320) ws e a c;have r:=zM g d f (n+1) _ _ (by omega) e aH c h;rw[show n+(f+1)=n+1+f by omega];exact r
theorem q5r {x:Iv}{q δ:Rat}(f:x.W)(g:x.Gd)(e:x.In q)(d:Bd δ (cg q)):(jm x).In δ:=by
 unfold jm;split
 ·rcases g with rfl|c
  ·exact .whole
  ·rename_i h;rw[(gO c).2]at h;cases h
 ·rename_i h;rcases g with rfl|c
  ·exact absurd rfl h
  ·intro _;obtain⟨a,b⟩:=vJ f c e d;refine⟨?_,b⟩;show((x.mag.neg'.val:Int):Rat)<=_;rw[ie,VQ];exact a
theorem Ly {q:Rat}:q<=cg q/\-q<=cg q:=by unfold cg;split<;>(constructor<;>grind)
theorem PO {y:Iv}{x:Rat}(m:y.W)(g:y.In x)(t:-1<=2*x)(w:2*x<=1):(dF y).Has (es x):=by
 have i:(nI 1 1).W:=ay (by decide);have d:(nI 21 21).W:=ay (by decide);have l:(nI 2 2).W:=ay (by decide);obtain⟨wt,ws,f,e⟩:=zM m g 20 0 (nI 1 1) (nI 1 1) (by omega) i i mC mC;unfold dF;rw[show bq y 20 1 (nI 1 1) (nI 1 1)=bq y 20 (0+1) (nI 1 1) (nI 1 1) from rfl];generalize bq y 20 (0+1) (nI 1 1) (nI 1 1)=r at *
 rw[W1]at f e;have c:(nI 21 21).In ((21:Nat):Rat):=du (by decide);have A:(nI 2 2).In ((2:Nat):Rat):=du (by decide);have B:=jO (p:=320) wt m f g;have C:((r.1.mul y 320).div (nI 21 21) 320).In (tm x 21):=jL (p:=320) aD d B c;have h:=jO (p:=320) aI l C A;have gd:(((r.1.mul y 320).div (nI 21 21) 320).mul (nI 2 2) 320).Gd:=ov aI l;have s:((2:Nat):Rat)=2:=rfl;rw[s]at h;refine Iv.Has.of_ev 21 fun k z=>?_
 obtain⟨j,rfl⟩:=Wb z;have D:=xq t w (n:=21) (by decide) (DH (tm x 21)) j;have E:es x 21=es x 20+tm x 21:=rfl;have o:Bd (es x (21+j)-es x 20) (cg (tm x 21*2)):=by
  obtain⟨u,v⟩:=D;have a:=Ly (q:=tm x 21);have b:cg (tm x 21*2)=2*cg (tm x 21):=by unfold cg;split<;>split<;>grind
  rw[b];constructor<;>grind
 have:=iO (p:=320) ws (t8 aD gd) e (q5r aD gd h o);rwa[show es x 20+(es x (21+j)-es x 20)=es x (21+j) by grind]at this
theorem yg : ∀(k:Nat) (s:Iv) (x:Rat),s.W->s.Has (es x)->(kU k s).Has (es (x*(pw k:Rat)))
 |0,s,x,ws,a=>by
  have e:x*(pw 0:Rat)=x:=by rw[show((pw 0:Int):Rat)=1 from rfl];grind
  rw[e];exact a
 |k+1,s,x,ws,a=>by
  have m:=tB (p:=320) ws ws a a (th x) (th x);have b:=m.near (n3 x x).symm;have r:=yg k (s.mul s 320) (x+x) aD b;have e:x*(pw (k+1):Rat)=(x+x)*(pw k:Rat):=by rw[eE,VG];rw[show((2:Int):Rat)=2 from rfl];grind
  rw[e];exact r
theorem Nz {d:Dy}(ok:d.Ok):(eA d).Has (es d.rat):=by
 by_cases f:d.m=[]
 ·unfold eA;rw[Vh f,q8 f,show es 0=fun _=>1 from funext Br];exact Iv.In.has mC
 ·rw[DG f];have⟨k,m⟩:∃k:Nat,k=(d.top+16).toNat:=⟨_,rfl⟩
  rw[<-m];have i:=mI k;have g:(pw k:Rat)≠0:=by grind
  have⟨x,o⟩:∃x:Rat,x=d.rat/(pw k:Rat):=⟨_,rfl⟩
  have e:x*(pw k:Rat)=d.rat:=by rw[o,V0,VR,XR _ g,VP]
  have p:((Iv.pt d).scl (-(k:Int))).In x:=lV (a:=0) (b:=k) ⟨ok.w,ok.w⟩ (by omega) (by rw[e,show((pw 0:Int):Rat)=1 from rfl];grind) (ej d);obtain⟨q,r⟩:=U4 ok f (n:=k) (by omega);have j:-1<=2*x:=by
   refine Vw (c:=(pw k:Rat)) ?_ i;grind
  have l:2*x<=1:=by
   refine Vw (c:=(pw k:Rat)) ?_ i;grind
  have h:=PO iN p j l;have:=yg k _ x (by unfold dF;exact aH) h;rwa[e]at this
def sh (q:Rat)(n:Nat):Rat:=(es q n-es (-q) n)/2
def ch (q:Rat)(n:Nat):Rat:=(es q n+es (-q) n)/2
theorem Lp {x:Iv}{s:Nat->Rat}(f:x.W)(h:x.Has s):(x.scl (-1)).Has (fun n=>s n/2):=by
 obtain⟨c,d,e⟩:=h;refine⟨fun n=>c n/2,fun n=>lV (a:=0) (b:=1) f (by omega) ?_ (d n),?_⟩
 ·rw[show((pw 0:Int):Rat)=1 from rfl,show((pw 1:Int):Rat)=2 from rfl];grind
 ·exact Null.congr (Null.mul e (Bnd.const (1/2))) fun n=>by grind
theorem UA {d:Dy}:d.neg'.rat=-d.rat:=by
 unfold Dy.rat;rw[ie,VQ,aam]
theorem yq {x y:Iv}{p:Int}{s t:Nat->Rat}(d:x.W)(a:y.W)(b:x.Has s)(c:y.Has t):(x.add y.neg p).Has (fun n=>s n-t n):=by
 have:=mF (p:=p) d (bZ a) b (tC a c);rwa[show(fun n=>s n+-t n)=fun n=>s n-t n from funext fun n=>by grind]at this
theorem QS : (Iv.mk Dy.zero Dy.zero false).known=true:=fv Dy.zero_ok Dy.zero_ok (VL _)
theorem Ot : Dy.zero.rat=0:=q8 rfl
theorem ob (k:Int):(nD k).rat=(k:Rat):=by
 have c:=dK;have:(nD k).rat*sc=(k:Rat)*sc:=by rw[cL,iP,VG];rfl
 have a:=Vw (show(nD k).rat*sc<=(k:Rat)*sc by rw[this];exact V2) c;have b:=Vw (show(k:Rat)*sc<=(nD k).rat*sc by rw[this];exact V2) c;exact Rat.le_antisymm a b
theorem j6 {x:Iv}(w:x.W)(k:x.known=true):x.In x.lo.rat:=fun _=>by
 rw[cL];exact⟨V2,dt (bP w k)⟩
theorem j7 {x:Iv}(w:x.W)(k:x.known=true):x.In x.hi.rat:=fun _=>by
 rw[cL];exact⟨dt (bP w k),V2⟩
theorem tN : ¬Iv.whole.known=true:=by decide
theorem vz {x y:Iv}{p:Int}(h:(x.add y p).known=true):x.known=true/\y.known=true:=by
 unfold Iv.add at h;split at h
 ·rename_i a;simp only[VA]at a;exact a.1
 ·exact absurd h tN
theorem Tx {x y:Iv}{p:Int}(h:(x.mul y p).known=true):x.known=true/\y.known=true:=by
 unfold Iv.mul at h;split at h
 ·rename_i a;simp only[VA]at a;exact a.1
 ·exact absurd h tN
theorem TR {x:Iv}{p:Int}(h:(x.rnd p).known=true):x.known=true:=by
 unfold Iv.rnd at h;split at h
 ·rename_i a;simp only[VA]at a;exact a.1
 ·exact absurd h tN
theorem ZO {x y:Iv}{p:Int}{a b:Rat}(c:x.W)(d:y.W)(g:0<=a)(h:0<=b)(i:x.HasLog a)(j:y.HasLog b):(x.add y p).HasLog (a*b):=by
 intro k;obtain⟨e,f⟩:=vz k;obtain⟨m,n⟩:=i e;obtain⟨o,q⟩:=j f;have l:=kA (iO (p:=p) c d (j6 c e) (j6 d f)) k;have u:=kA (iO (p:=p) c d (j7 c e) (j7 d f)) k;exact⟨(m.add o g).mono l.1,(n.add q h).mono u.2⟩
theorem q5i {x:Iv}{p:Int}{a:Rat}(b:x.W)(d:x.HasLog a):(x.rnd p).HasLog a:=by
 intro k;have c:=TR k;obtain⟨e,f⟩:=d c;have l:=kA (uq (p:=p) b (j6 b c)) k;have u:=kA (uq (p:=p) b (j7 b c)) k;exact⟨e.mono l.1,f.mono u.2⟩
def zp (t:Int):Rat:=if 0<=t then(pw t.toNat:Rat)else((pw (-t).toNat:Int):Rat)⁻¹
theorem wJ (t:Int):0<zp t:=by
 unfold zp;split
 ·exact mI _
 ·exact Rat.inv_pos.2 (mI _)
theorem rN (n:Nat):(pw (n+1):Rat)=(pw n:Rat)*2:=by rw[eE,VG,Wx];rfl
theorem sd {u:Rat}(h:ELo u 2):∀n:Nat,ELo ((n:Rat)*u) (pw n:Rat)
 |0=>by
  have e:((0:Nat):Rat)*u=0:=by rw[show((0:Nat):Rat)=0 from rfl];grind
  rw[e];exact ELo.zero
 |n+1=>by
  have:=(sd h n).add h (Vj (mI n));rw[rN,fk,show((n:Rat)+1)*u=(n:Rat)*u+u by grind];exact this
theorem sa {u:Rat}(h:EHi 2 u):∀n:Nat,EHi (pw n:Rat) ((n:Rat)*u)
 |0=>by
  have e:((0:Nat):Rat)*u=0:=by rw[show((0:Nat):Rat)=0 from rfl];grind
  rw[e];exact EHi.zero
 |n+1=>by
  have:=(sa h n).add h (show(0:Rat)<=2 by decide);rw[rN,fk,show((n:Rat)+1)*u=(n:Rat)*u+u by grind];exact this
theorem YZ {y:Iv}{p t:Int}(c:y.W)(g:t.natAbs<=1048576)(i:y.HasLog 2):((nI t t).mul y p).HasLog (zp t):=by
 intro k;obtain⟨_,d⟩:=Tx k;obtain⟨e,f⟩:=i d;have wt:(nI t t).W:=ay g;have l:=kA (jO (p:=p) wt c (j9 t) (j6 c d)) k;have u:=kA (jO (p:=p) wt c (j9 t) (j7 c d)) k;unfold zp;split
 ·rename_i h;obtain⟨n,rfl⟩:∃n:Nat,t=n:=⟨t.toNat,by omega⟩
  rw[W3];rw[Wh]at l u;exact⟨(sd e n).mono l.1,(sa f n).mono u.2⟩
 ·rename_i h;obtain⟨n,rfl⟩:∃n:Nat,t=-(n:Int):=⟨(-t).toNat,by omega⟩
  rw[show(-(-(n:Int))).toNat=n by omega];rw[VQ,Wh]at l u;have a:=(sa f n).inv (mI n);have b:=(sd e n).inv (mI n);exact⟨a.mono (by grind),b.mono (by grind)⟩
theorem BM {m s B d A q:Rat}(e:m*B=d*A)(c:s=q*2)(f:q*B<=d*s*A):1*(s*B)<=2*m*(s*B):=by
 have a:2*m*(s*B)=2*(d*s*A):=by grind
 have b:1*(s*B)=2*(q*B):=by grind
 rw[a,b];generalize d*s*A=X at *
 generalize q*B=Y at *
 grind
theorem BL {m s B d A:Rat}(e:m*B=d*A)(b:d*s*A<=s*B):m*(s*B)<=1*(s*B):=by
 have a:m*(s*B)=d*s*A:=by grind
 rw[a,WB];exact b
theorem BN {d:Dy}(ok:d.Ok)(h:0<d.sgn):∃m:Rat,(∀{x:Iv},x.W->x.In d.rat->(x.scl (-d.top)).In m)/\1<=2*m/\m<=1/\m*zp d.top=d.rat:=by
 obtain⟨i,hv⟩:=pE ok h;obtain⟨p,r⟩:=ok.absN_bounds i;have E:=ok.top_pos i;have⟨a,v⟩:∃a:Nat,a=(-d.top).toNat:=⟨_,rfl⟩
 have⟨b,w⟩:∃b:Nat,b=d.top.toNat:=⟨_,rfl⟩
 have F:=mI a;have k:=mI b;have n:=dK;have⟨m,f⟩:∃m:Rat,m=d.rat*(pw a:Rat)/(pw b:Rat):=⟨_,rfl⟩
 have e:m*(pw b:Rat)=d.rat*(pw a:Rat):=by
  rw[f,V0,VR,XR _ (by grind),VP]
 have l:pw (d.top+16383).toNat<=d.val:=by rw[hv];unfold pw;exact Int.ofNat_le.2 p
 have u:d.val<=pw (d.top+16384).toNat:=by rw[hv];unfold pw;exact Int.ofNat_le.2 (W6 r)
 have z:pw 16383*pw b<=d.val*pw a:=by
  rw[<-bK,show 16383+b=(d.top+16383).toNat+a by omega,bK];exact(ed (bf a)).2 l
 have C:d.val*pw a<=pw 16384*pw b:=by
  rw[<-bK,show 16384+b=(d.top+16384).toNat+a by omega,bK];exact(ed (bf a)).2 u
 have j:=dt z;have g:=dt C;have s:((pw 16384:Int):Rat)=sc:=rfl;have t:sc=((pw 16383:Int):Rat)*2:=rN 16383;rw[VG,VG,<-cL d]at j g;rw[s]at g;refine⟨m,fun D y=>lV (a:=a) (b:=b) D (by omega) e y,?_,?_,?_⟩
 ·refine Vw (c:=sc*(pw b:Rat)) ?_ (Wr n k);generalize ((pw 16383:Int):Rat)=q at *
  generalize ((pw a:Int):Rat)=A at *
  generalize ((pw b:Int):Rat)=B at *
  exact BM e t j
 ·refine Vw (c:=sc*(pw b:Rat)) ?_ (Wr n k);generalize ((pw a:Int):Rat)=A at *
  generalize ((pw b:Int):Rat)=B at *
  exact BL e g
 ·unfold zp;split
  ·have o:a=0:=by omega
   rw[<-w,e,o,show((pw 0:Int):Rat)=1 from rfl,VP]
  ·have b0:b=0:=by omega
   rw[b0,show((pw 0:Int):Rat)=1 from rfl,VP]at e;rw[<-v,e,VR,Wv _ (by grind),VP]
theorem uw {m:Rat}(i:1<=2*m)(j:m<=1):∃f:Rat,f=(m+-1)/(m+1)/\-1<f/\f<1/\-1<=3*f/\3*f<=1/\2*(f*f)<=1/\gg f=m:=by
 have p:0<m+1:=by grind
 have q:=Rat.inv_pos.2 p;have e:=Wv (m+1) (by grind);refine⟨_,rfl,?_⟩;rw[V0];generalize (m+1)⁻¹=c at *
 have k:=mul_nn (show 0<=m by grind) (Vj q);have l:=mul_nn (show 0<=2*m-1 by grind) (Vj q);have n:=mul_nn (show 0<=1-m by grind) (Vj q);have o:=Wr (show 0<m by grind) q;have⟨f,hz⟩:∃f,f=(m+-1)*c:=⟨_,rfl⟩
 rw[<-hz];have r:f<=0:=by grind
 have g:-1<=3*f:=by grind
 have s:1-f=2*c:=by grind
 have h:1+f=m*(1-f):=by grind
 refine⟨by grind,by grind,g,by grind,?_,?_⟩
 ·have:=eD (a:=-f) (b:=1/3) (c:=-f) (d:=1/3) (by grind) (by grind) (by grind) (by grind);grind
 ·unfold gg;rw[h,VR,Wv _ (by grind),VP]
theorem x6 : (nI (-1) (-1)).In (-1:Rat):=j9 (-1)
theorem z3 : gg (1/3)=2:=by unfold gg;grind
theorem zZ {p:Int}:((nI 1 1).div (nI 3 3) p).In (1/3:Rat):=by
 have a:(nI 3 3).In ((3:Nat):Rat):=du (by decide);have:=jL (p:=p) (ay (k:=1) (by decide)) (ay (k:=3) (by decide)) mC a;exact this
theorem Pj {p:Int}:(dj p).HasLog 2:=by
 unfold dj;split
 ·have:=(zO (P:=gP p 16) (z:=(nI 1 1).div (nI 3 3) (gP p 16)) (ζ:=1/3) aI zZ (by grind) (by grind) (by grind)).2;rw[z3]at this;exact q5i ot this
 ·exact fun h=>absurd h tN
theorem xI {d:Dy}{p:Int}(ok:d.Ok)(h:0<d.sgn):(jc d p).HasLog d.rat:=by
 by_cases a:d.cmp (nD 1)=0
 ·have on:(nD 1).Ok:=bR (k:=1) (by omega);have e:=(zn ok on).1 a;have n:d.rat=1:=by rw[e];exact ob 1
  unfold jc;rw[Vh a,n];intro _;show ELo Dy.zero.rat 1/\EHi 1 Dy.zero.rat;rw[Ot];exact⟨ELo.zero,EHi.zero⟩
 ·obtain⟨m,o,q,r,u⟩:=BN ok h;obtain⟨c,_⟩:=pE ok h;have C:=ok.top_pos c;have f:d.top<=16384:=by have:=ok.top;unfold Dy.top;rw[Vk c];exact this
  obtain⟨D,v,y,z,_,_,A,B⟩:=uw q r;have w:(Iv.pt d).W:=⟨ok.w,ok.w⟩
  have g:=o (kz (x:=Iv.pt d) (p:=gP p 40)) (uq w (ej d));have i:=iO (p:=gP p 40) iN (ay (k:=-1) (by decide)) g x6;have j:=iO (p:=gP p 40) iN (ay (k:=1) (by decide)) g mC;have b:=jL (p:=gP p 40) aH aH i j;rw[<-v]at b;have l:=(zO (P:=gP p 40) aI b y z A).2;rw[B]at l;have t:=YZ (p:=gP p 40) (t:=d.top) (xM (p:=gP p 40)) (by omega) Pj;have s:=ZO (p:=gP p 40) ot aD (by grind) (Vj (wJ _)) l t;rw[u]at s;unfold jc;rw[Vk a];exact q5i aH s
theorem q3z {a b:Iv}{c d q:Rat}(o:a.W)(p:b.W)(f:a.known=true)(g:b.known=true)(m:a.HasLog c)(n:b.HasLog d)(j:c<=q)(l:q<=d) :
 (bM a b).known=true/\(bM a b).HasLog q:=by
 have h:=(m f).1.up j;have i:=(n g).2.down l;have hv:a.lo.val<=b.hi.val:=rat_le.1 (h.le i);obtain⟨e,k⟩:=q28 o p f g hv;refine⟨k,fun _=>?_⟩;rw[e];exact⟨h,i⟩
theorem j0 {x:Iv}{p:Int}:(x.log p).W:=by
 unfold Iv.log;split
 ·exact sw io io
 ·exact Iv.whole_W
def pz (f:Nat->Rat):Nat->Rat
 |0=>0
 |k+1=>ps f k
theorem L6 (f:Nat->Rat)(k:Nat):pz f (k+1)=pz f k+f k:=by
 cases k with
 |zero=>show f 0=0+f 0;grind
 |succ k=>rfl
theorem zJ {q:Iv}{ζ:Rat}(e:q.W)(d:q.In (ζ*ζ)):∀(f k:Nat) (w s:Iv),k+f<=100000->w.W->s.W->w.In (od ζ k)->s.In (pz (lt ζ) k) ->
 (bY q f k w s).1.W/\(bY q f k w s).2.W/\(bY q f k w s).1.In (od ζ (k+f))/\(bY q f k w s).2.In (pz (lt ζ) (k+f))
 |0,k,w,s,_,b,ws,a,c=>⟨b,ws,a,c⟩
 |f+1,k,w,s,o,b,ws,a,c=>by
  have m:(nI (2*k+1) (2*k+1)).W:=ay (by omega);have l:(nI (2*(k:Int)+1) (2*(k:Int)+1)).In ((2*k+1:Nat):Rat):=by
   have:=du (n:=2*k+1) (by omega);rwa[show((2*k+1:Nat):Int)=2*(k:Int)+1 by omega]at this
  have g:=jL (p:=320) b m a l;have h:=iO (p:=320) ws aI c g;have i:(s.add (w.div (nI (2*k+1) (2*k+1)) 320) 320).In (pz (lt ζ) (k+1)):=by rw[L6];exact h
  have j:(w.mul q 320).In (od ζ (k+1)):=jO (p:=320) b e a d;have r:=zJ e d f (k+1) _ _ (by omega) aD aH j i;rw[show k+(f+1)=k+1+f by omega];exact r
theorem Nk {z c:Rat}{k:Nat}(hz:9*(z*z)<=1)(h:Bd (lt z k) c):Bd (lt z (k+1)) (c/9):=by
 have l:=br z;have f:Bd (z*z) (1/9):=by constructor<;>grind
 have b:=ky (2*k);have p2:=ky (2*(k+1));have j:=Rat.inv_pos.2 b;have a:=Rat.inv_pos.2 p2;have le:((2*k+1:Nat):Rat)<=((2*(k+1)+1:Nat):Rat):=gm (by omega);have g:=Wv ((2*k+1:Nat):Rat) (by grind);have i:=Wv ((2*(k+1)+1:Nat):Rat) (by grind);unfold lt at *
 rw[V0]at *
 generalize ((2*k+1:Nat):Rat)=A at *
 generalize ((2*(k+1)+1:Nat):Rat)=B at *
 have d:Bd (A*B⁻¹) 1:=by
  constructor
  ·have:=mul_nn (Vj b) (Vj a);grind
  ·have:=Vq le (Vj a);grind
 have:=(h.mul f).mul d;have e:od z k*A⁻¹*(z*z)*(A*B⁻¹)=od z (k+1)*B⁻¹:=by
  show _=od z k*(z*z)*B⁻¹;generalize z*z=y at *
  generalize od z k=o at *
  grind
 rw[e]at this;rwa[show c*(1*9⁻¹)*1=c/9 by grind]at this
theorem K0 {z c:Rat}(hz:9*(z*z)<=1)(n:Nat)(e:Bd (lt z (n+1)) c)(j:Nat):Bd (ps (lt z) (n+j)-ps (lt z) n) (9/8*c):=by
 have f:=e.nn;have a:∀j,∃d:Rat,0<=d/\Bd (lt z (n+1+j)) d/\Bd (ps (lt z) (n+j)-ps (lt z) n) (9/8*c-9/8*d):=by
  intro j;induction j with
  |zero=>exact⟨c,f,e,by constructor<;>(simp only[VF];grind)⟩
  |succ j k=>
   obtain⟨d,g,b,h⟩:=k;refine⟨d/9,by grind,Nk hz b,?_⟩;have i:ps (lt z) (n+(j+1))=ps (lt z) (n+j)+lt z (n+1+j):=by
    rw[show n+(j+1)=(n+j)+1 by omega,show n+1+j=n+j+1 by omega];rfl
   rw[i];obtain⟨u,v⟩:=h.add b;constructor<;>grind
 obtain⟨d,g,_,u,v⟩:=a j;constructor<;>grind
theorem zK {z:Iv}{ζ:Rat}(i:z.W)(hz:z.In ζ)(o:-1<ζ)(s:ζ<1)(t:9*(ζ*ζ)<=1):(gJ z).HasLog (gg ζ):=by
 rw[sN];intro u;have y:(nI 0 0).W:=ay (by decide);have v:(nI 0 0).In (0:Rat):=j9 0;obtain⟨C,ws,h,g⟩:=zJ (q:=z.sq 320) fe (kT i hz) 101 0 z (nI 0 0) (by omega) i y hz v;rw[W1]at h g;generalize bY (z.sq 320) 101 0 z (nI 0 0)=r at *
 have B:(nI 9 9).W:=ay (by decide);have c:(nI 1624 1624).W:=ay (by decide);have A:(nI 2 2).W:=ay (by decide);have x:(nI 9 9).In ((9:Nat):Rat):=du (by decide);have f:(nI 1624 1624).In ((1624:Nat):Rat):=du (by decide);have w:(nI 2 2).In ((2:Nat):Rat):=du (by decide);have m:=jL (p:=320) aD c (jO (p:=320) C B h x) f;have gd:((r.1.mul (nI 9 9) 320).div (nI 1624 1624) 320).Gd:=lL aD c;refine q56 o s 100 fun k d=>?_
 obtain⟨j,rfl⟩:=Wb d;have n:od ζ 101*((9:Nat):Rat)/((1624:Nat):Rat)=9/8*lt ζ 101:=by
  unfold lt;have:((2*101+1:Nat):Rat)=203:=rfl;rw[this,show((9:Nat):Rat)=9 from rfl,show((1624:Nat):Rat)=1624 from rfl];grind
 rw[n]at m;have rs:=K0 t 100 (DH (lt ζ 101)) j;have l:Bd (ps (lt ζ) (100+j)-ps (lt ζ) 100) (cg (9/8*lt ζ 101)):=by
  have:cg (9/8*lt ζ 101)=9/8*cg (lt ζ 101):=by unfold cg;split<;>split<;>grind
  rw[this];exact rs
 have a:=iO (p:=320) ws (t8 aI gd) g (q5r aI gd m l);have b:=jO (p:=320) A aH w a;have e:((2:Nat):Rat)*(pz (lt ζ) 101+(ps (lt ζ) (100+j)-ps (lt ζ) 100))=ll ζ (100+j):=by
  show 2*(ps (lt ζ) 100+(ps (lt ζ) (100+j)-ps (lt ζ) 100))=_;unfold ll;grind
 rw[e]at b;exact kA b u
theorem Ld {ζ:Rat}(e:-1<=3*ζ)(f:3*ζ<=1):9*(ζ*ζ)<=1:=by
 rcases(inferInstance:Decidable (0<=ζ))with h|h
 ·have:=eD (a:=-(3*ζ)) (b:=1) (c:=-(3*ζ)) (d:=1) (by grind) (by grind) (by grind) (by grind);grind
 ·have:=eD (a:=3*ζ) (b:=1) (c:=3*ζ) (d:=1) (by grind) (by grind) (by grind) (by grind);grind
theorem PP : rLog2.HasLog 2:=by
 have:=zK (z:=(nI 1 1).div (nI 3 3) 320) (ζ:=1/3) aI zZ (by grind) (by grind) (by grind);rwa[z3]at this
theorem NA {d:Dy}(ok:d.Ok)(h:0<d.sgn):(gI d).HasLog d.rat:=by
 obtain⟨m,i,j,n,o⟩:=BN ok h;obtain⟨b,_⟩:=pE ok h;have A:=ok.top_pos b;have c:d.top<=16384:=by have:=ok.top;unfold Dy.top;rw[Vk b];exact this
 obtain⟨C,q,r,u,x,y,B,v⟩:=uw j n;have w:(Iv.pt d).W:=⟨ok.w,ok.w⟩
 have e:(kx d).In m:=i w (ej d);have f:=iO (p:=320) iN (ay (k:=-1) (by decide)) e x6;have g:=iO (p:=320) iN (ay (k:=1) (by decide)) e mC;have a:=jL (p:=320) aH aH f g;rw[<-q]at a;have l:=zK (z:=qp d) aI a r u (Ld x y);rw[v]at l;have t:=YZ (p:=320) (t:=d.top) yk (by omega) PP;have s:=ZO (p:=320) rP aD (by grind) (Vj (wJ _)) l t;rw[o]at s;rw[sP];exact s
theorem S8 {x y:Iv}{p:Int}(b:x.W)(c:y.W):(x.add y p).Gd:=by
 unfold Iv.add;split
 ·rename_i h;have a:=h;simp only[VA]at a;have v:=Cf (KQ (p:=p) b c b c (.inr ⟨a.1.1,a.1.1,VL _,VL _⟩) (.inr ⟨a.1.2,a.1.2,VL _,VL _⟩));unfold Iv.add at v;rw[Vh h]at v;exact Gd.of_valid v zQ
 ·exact .inl rfl
theorem TQ {x:Iv}{p:Int}(b:x.W):(x.rnd p).Gd:=by
 unfold Iv.rnd;split
 ·rename_i h;have a:=h;simp only[VA]at a;have v:=Cf (LH (p:=p) b b (.inr ⟨a.1,a.1,VL _,VL _⟩));unfold Iv.rnd at v;rw[Vh h]at v;exact Gd.of_valid v zQ
 ·exact .inl rfl
theorem oi {d:Dy}:(gI d).W:=by rw[sP];exact aH
theorem Mt {x:Iv}(g:x.Gd):x.valid=true:=by
 rcases g with rfl|h
 ·rfl
 ·exact(gO h).1
theorem Rq {x y:Iv}(i:x.W)(j:y.W)(a:x.known=true)(b:y.known=true)(h:x.lo.val<=y.hi.val/\y.lo.val<=x.hi.val):ep x y=true:=by
 obtain⟨d,e⟩:=bg i a;obtain⟨f,g⟩:=bg j b;obtain⟨o,k⟩:=gO a;obtain⟨p,l⟩:=gO b;have m:=bP i a;have n:=bP j b;have c:¬0<(x.lo.hi2 y.lo).cmp (x.hi.lo2 y.hi):=by
  rw[gB (tl d f) (lR e g),sr,kD d f,mH e g];omega
 unfold ep Iv.meet;rw[o,p,k,l];simp[c]
theorem q07 {x y:Iv}(a:x.valid=true)(b:y.valid=true)(h:x.all=true\/y.all=true):ep x y=true:=by
 unfold ep Iv.meet;rw[a,b];rcases h with h|h
 ·simp[h]
 ·cases c:x.all<;>simp[h]
theorem Nm {x y:Iv}(e:x.W)(f:y.W)(d:x.Gd)(b:y.Gd)(h:x.known=true->y.known=true->x.lo.val<=y.hi.val/\y.lo.val<=x.hi.val):ep x y=true:=by
 rcases d with rfl|a
 ·exact q07 rfl (Mt b) (.inl rfl)
 ·rcases b with rfl|c
  ·exact q07 (gO a).1 rfl (.inr rfl)
  ·exact Rq e f a c (h a c)
