import Derived.Test.YtblicjipogbhmaaGreatDoorSj
import Derived.Test.YtblicjipogbhmaaGreatDoorSg
namespace Go.Abs.W
theorem qO (k:Int)(x y:Iv)(p:Int)(f:0<=k)(g:k<=1000)(d:x.W)(e:y.W):CQ prog q1z [.int .i64 k,x.v,y.v,.int .i64 p] (((nI k k).mul x p).mul y p).v:=by
 refine ap rfl fun H=>?_
 have wk:(nI k k).W:=ay (by omega);have a:=qx k (by omega) (by omega);have b:=nf (nI k k) x p wk d;have c:=nf ((nI k k).mul x p) y p aD e;generalize nI k k=N at *
 simp;refine zq a ?_;simp;refine zq b ?_;simp;refine zq c ?_;simp[lim]
theorem Out.read {d H:ab}{v:V}{l:List Iv}{n:Nat}(h:Out d H v 7 (l.map Iv.v))(e:l.length=n){t:Nat}(g:t<n):∃b blk,v=.ref b 7 0 n/\(∀G:ab,(H++G)[b]?=some (some ⟨7,blk,true,true⟩))/\blk[t]?=some (aK l t).v:=by
 obtain⟨b,blk,a,f,c⟩:=h.get (i:=t) (by rw[Wn];omega);rw[Wn,e]at a;rw[XL]at c;exact⟨b,blk,a,(cy (VJ H) f).2,by rw[c,eJ (by omega)]⟩
def bV (z:Iv)(a:List Iv)(p:Int)(o:List Iv):Nat->Iv
 |0=>z
 |m+1=>fJ a o p m
def dd (z:Iv)(a:List Iv)(p:Int):List Iv:=aQ (bV z a p) a.length
theorem ro {z:Iv}{a o:List Iv}{p:Int}(b:z.W):∀{k:Nat},(bV z a p o k).W
 |0=>b
 |_+1=>fx
def bT (z:Iv)(a:List Iv)(p:Int)(o:List Iv):Nat->Iv
 |0=>z
 |m+1=>((aK a (m+1)).add ((cj (nI 0 0) p (bF o a p m) m).div (nI ((m+1:Nat):Int) ((m+1:Nat):Int)) p).neg p).div (aK a 0) p
def cO (z:Iv)(a:List Iv)(p:Int):List Iv:=aQ (bT z a p) a.length
theorem rB {z:Iv}{a o:List Iv}{p:Int}(b:z.W):∀{k:Nat},(bT z a p o k).W
 |0=>b
 |_+1=>aI
def bN (s c:Iv)(a:List Iv)(p:Int):Nat->List Iv × List Iv
 |0=>([],[])
 |1=>([s],[c])
 |m+2=>((bN s c a p (m+1)).1++[fJ a (bN s c a p (m+1)).2 p m],(bN s c a p (m+1)).2++[(fJ a (bN s c a p (m+1)).1 p m).neg])
theorem fo {s c:Iv}{a:List Iv}{p:Int}(ws:s.W)(d:c.W):∀n,(∀x ∈ (bN s c a p n).1,x.W)/\∀x ∈ (bN s c a p n).2,x.W
 |0=>by simp[bN]
 |1=>by simp[bN];exact⟨ws,d⟩
 |m+2=>by
  obtain⟨e,f⟩:=fo (a:=a) (p:=p) ws d (m+1);constructor<;>intro x b<;>simp only[bN,V6,Wt]at b<;>rcases b with b|rfl
  ·exact e x b
  ·exact fx
  ·exact f x b
  ·exact bZ fx
theorem pI {s c:Iv}{a:List Iv}{p:Int}:∀n,(bN s c a p n).1.length=n/\(bN s c a p n).2.length=n
 |0=>⟨rfl,rfl⟩
 |1=>⟨rfl,rfl⟩
 |m+2=>by simp[bN,(pI (s:=s) (c:=c) (a:=a) (p:=p) (m+1)).1,(pI (s:=s) (c:=c) (a:=a) (p:=p) (m+1)).2]
set_option maxRecDepth 20000 in
theorem MC (z:Iv)(wz:z.W)(a:List Iv)(p:Int)(q:SW a)(h1:1<=a.length)(h17:a.length<=1000):CQ prog q8a [aC a,z.v,.int .i64 p] (aC (cO z a p)):=by
 refine ap rfl fun H=>?_
 have la:=q.1;have d:0<a.length:=h1;have U:aQ (bT z a p) 1=[z]:=rfl;simp[aC];have⟨n,hn⟩:∃n,n+1=a.length:=⟨a.length-1,by omega⟩
 refine aJ (fun i E k=>E 0=aC a/\E 2=.int .i64 p/\E 8=.int .i64 ((i:Int)+1)/\Out H k (E 7) 7 ((aQ (bT z a p) (i+1)).map Iv.v)) n ?_ ?_
 ·simp[aC];exact⟨by simp,.inr ⟨H.length+1,[z.v],by simp,by simp,by simp,by simp[U],by simp⟩⟩
 ·rintro i E k hi ⟨l,e2,e8,v⟩;simp only[aC]at l;rcases Vm i n with u|hge
  ·have g1:IntKind.i64.wrap ((i:Int)+1+1)=(i:Int)+1+1:=by rw[wrap_i64]<;>omega
   have f5:(i:Int)+1<a.length:=by omega
   have f6:i+1<a.length:=by omega
   have f7:(0:Int)<=(i:Int)+1:=by omega
   have f8:((i:Int)+1).toNat=i+1:=by omega
   have y:=jy (f:=bT z a p) (i+1);have hW:∀x ∈ aQ (bT z a p) (i+1),x.W:=dI fun _ _ _=>rB wz
   have W:=qx 0 (by omega) (by omega);have w0:(nI 0 0).W:=ay (by decide);simp[IA,l,e8,f5];refine zq W ?_;simp;refine aJ (fun j c I=>c 0=aC a/\c 2=.int .i64 p/\c 8=.int .i64 ((i:Int)+1)/\c 7=E 7/\c 9=.ptr k.length 0 0/\c 10=.int .i64 ((j:Int)+1) /\
    I=k++[some ⟨7,[(cj (nI 0 0) p (bF (aQ (bT z a p) (i+1)) a p i) j).v],false,true⟩]) i ?_ ?_
   ·simp[l,e2,e8,cj,aC]
   ·rintro j c I hj ⟨h,g,m,A,B,e,rfl⟩;simp only[aC]at h;have O:=nN (p:=p) (f:=bF (aQ (bT z a p) (i+1)) a p i) w0 j;rcases Vm j i with C|jge
    ·have L:j+1<i+1:=by omega
     have D:i-j<a.length:=by omega
     have M:(j:Int)+1<(i:Int)+1:=by omega
     have q4:IntKind.i64.wrap ((i:Int)+1-((j:Int)+1))=((i-j:Nat):Int):=by rw[wrap_i64]<;>omega
     have q5:(0:Int)<=(j:Int)+1:=by omega
     have q6:((j:Int)+1).toNat=j+1:=by omega
     have q7:IntKind.i64.wrap ((j:Int)+1+1)=(j:Int)+1+1:=by rw[wrap_i64]<;>omega
     obtain⟨rb,blk,N,r2,r3⟩:=v.read y L;have ct:=qO ((j+1:Nat):Int) (aK (aQ (bT z a p) (i+1)) (j+1)) a[i-j] p (by omega) (by omega) (bh hW) (q.2 _ (Vy D));have s1:cj (nI 0 0) p (bF (aQ (bT z a p) (i+1)) a p i) (j+1)=(cj (nI 0 0) p (bF (aQ (bT z a p) (i+1)) a p i) j).add (((nI ((j+1:Nat):Int) ((j+1:Nat):Int)).mul (aK (aQ (bT z a p) (i+1)) (j+1)) p).mul a[i-j] p) p:=by
      simp only[cj,bF];rw[eJ D]
     generalize aK (aQ (bT z a p) (i+1)) (j+1)=o at *
     generalize cj (nI 0 0) p (bF (aQ (bT z a p) (i+1)) a p i) j=S at *
     have wT:(((nI ((j+1:Nat):Int) ((j+1:Nat):Int)).mul o p).mul a[i-j] p).W:=aD;generalize ((nI ((j+1:Nat):Int) ((j+1:Nat):Int)).mul o p).mul a[i-j] p=T at *
     have ca:=jS S T p O wT;have b:((j+1:Nat):Int)=(j:Int)+1:=by omega
     rw[b]at ct;simp[Iz,h,g,A,m,B,e,N,r2,r3,L,D,M,q4,q5,q6];refine zq ct ?_;simp[g];refine zq ca ?_;simp[h,g,m,A,N,B,e,q7,s1,aC];exact C
    ·have t:j=i:=by omega
     subst t;have M:¬(j:Int)+1<(j:Int)+1:=by omega
     have K:=qx ((j+1:Nat):Int) (by omega) (by omega);have b:((j+1:Nat):Int)=(j:Int)+1:=by omega
     have wj:(nI ((j+1:Nat):Int) ((j+1:Nat):Int)).W:=cD (by omega) (by omega);have G:=q.2 _ (Vy f6);have F:=q.2 _ (Vy d);have Y:=lD (cj (nI 0 0) p (bF (aQ (bT z a p) (j+1)) a p j) j) (nI ((j+1:Nat):Int) ((j+1:Nat):Int)) p O wj;have Z:=Ui a[j+1] ((cj (nI 0 0) p (bF (aQ (bT z a p) (j+1)) a p j) j).div (nI ((j+1:Nat):Int) ((j+1:Nat):Int)) p) p G aI;have hd:(a[j+1].add ((cj (nI 0 0) p (bF (aQ (bT z a p) (j+1)) a p j) j).div (nI ((j+1:Nat):Int) ((j+1:Nat):Int)) p).neg p).div a[0] p=bT z a p (aQ (bT z a p) (j+1)) (j+1):=by
      simp only[bT];rw[eJ f6,eJ d]
     have J:=lD (a[j+1].add ((cj (nI 0 0) p (bF (aQ (bT z a p) (j+1)) a p j) j).div (nI ((j+1:Nat):Int) ((j+1:Nat):Int)) p).neg p) a[0] p aH F;rw[hd]at J;generalize cj (nI 0 0) p (bF (aQ (bT z a p) (j+1)) a p j) j=S at *
     generalize nI ((j+1:Nat):Int) ((j+1:Nat):Int)=Q at *
     generalize a[j+1].add (S.div Q p).neg p=T at *
     rw[b]at K;simp[Iz,m,B,e,h,f6,f7,f8];refine zq K ?_;simp[g];refine zq Y ?_;simp[g];refine zq Z ?_;simp[h,g,A,d];refine zq J ?_;obtain⟨v',P,r,w⟩:=(v.grow [some ⟨7,[S.v],false,true⟩]).oneIv (bT z a p (aQ (bT z a p) (j+1)) (j+1)) (by simp;omega);simp only[Iv.v]at r;simp at r;simp[h,g,m,r,g1,aC];refine⟨u,?_⟩;simpa[aQ]using w
  ·have s:i=n:=by omega
   subst s;have f5:¬(i:Int)+1<a.length:=by omega
   simp[IA,l,e8,f5];have:=v.fin (H1:=H) (VJ _);rw[this,hn];simp[cO]
set_option maxRecDepth 20000 in
theorem My (z:Iv)(wz:z.W)(a:List Iv)(p:Int)(F:SW a)(h1:1<=a.length)(h17:a.length<=1000):CQ prog q8b [aC a,z.v,.int .i64 p] (aC (dd z a p)):=by
 refine ap rfl fun H=>?_
 have la:=F.1;have ha0:0<a.length:=h1;have Y:aQ (bV z a p) 1=[z]:=rfl;simp[aC];have⟨n,hn⟩:∃n,n+1=a.length:=⟨a.length-1,by omega⟩
 refine aJ (fun i E k=>E 0=aC a/\E 2=.int .i64 p/\E 8=.int .i64 ((i:Int)+1)/\Out H k (E 7) 7 ((aQ (bV z a p) (i+1)).map Iv.v)) n ?_ ?_
 ·simp[aC];exact⟨by simp,.inr ⟨H.length+1,[z.v],by simp,by simp,by simp,by simp[Y],by simp⟩⟩
 ·rintro i E k hi ⟨l,L,e8,m⟩;simp only[aC]at l;rcases Vm i n with w|hge
  ·have g1:IntKind.i64.wrap ((i:Int)+1+1)=(i:Int)+1+1:=by rw[wrap_i64]<;>omega
   have f5:(i:Int)+1<a.length:=by omega
   have f6:1<a.length:=by omega
   have f9:IntKind.i64.wrap (i:Int)=(i:Int):=by rw[wrap_i64]<;>omega
   have g:=jy (f:=bV z a p) (i+1);have M:∀x ∈ aQ (bV z a p) (i+1),x.W:=dI fun _ _ _=>ro wz
   obtain⟨rb,blk,P,r2,r3⟩:=m.read g (show i<i+1 by omega);have rr:=r2 [];rw[XB]at rr;have ct:=qO 1 a[1] (aK (aQ (bV z a p) (i+1)) i) p (by omega) (by omega) (F.2 _ (Vy f6)) (bh M);have s0:((nI 1 1).mul a[1] p).mul (aK (aQ (bV z a p) (i+1)) i) p=bj p (bF a (aQ (bV z a p) (i+1)) p i) 0:=by
    simp only[bj,bF];rw[eJ f6,aba];rfl
   rw[s0]at ct;generalize aK (aQ (bV z a p) (i+1)) i=o at *
   simp[Iy,l,L,e8,f5,f6,f9,P,rr,r3];refine zq ct ?_;simp;refine aJ (fun j c G=>c 0=aC a/\c 2=.int .i64 p/\c 8=.int .i64 ((i:Int)+1)/\c 7=E 7/\c 9=.ptr k.length 0 0/\c 10=.int .i64 ((j:Int)+2) /\
    G=k++[some ⟨7,[(bj p (bF a (aQ (bV z a p) (i+1)) p i) j).v],false,true⟩]) i ?_ ?_
   ·simp[l,L,e8,P,aC]
   ·rintro j c G hj ⟨q,h,s,r,A,d,rfl⟩;simp only[aC]at q;have U:=mU (p:=p) (f:=bF a (aQ (bV z a p) (i+1)) p i) dR j;rcases Vm j i with B|jge
    ·have C:j+2<a.length:=by omega
     have O:i-(j+1)<i+1:=by omega
     have D:(j:Int)+2<=(i:Int)+1:=by omega
     have q4:IntKind.i64.wrap ((i:Int)+1-((j:Int)+2))=((i-(j+1):Nat):Int):=by rw[wrap_i64]<;>omega
     have q5:(0:Int)<=(j:Int)+2:=by omega
     have q6:((j:Int)+2).toNat=j+2:=by omega
     have q7:IntKind.i64.wrap ((j:Int)+2+1)=(j:Int)+1+2:=by rw[wrap_i64]<;>omega
     obtain⟨rb',I,Q,t2,t3⟩:=m.read g O;have ct:=qO ((j+2:Nat):Int) a[j+2] (aK (aQ (bV z a p) (i+1)) (i-(j+1))) p (by omega) (by omega) (F.2 _ (Vy C)) (bh M);have s1:bj p (bF a (aQ (bV z a p) (i+1)) p i) (j+1)=(bj p (bF a (aQ (bV z a p) (i+1)) p i) j).add (((nI ((j+2:Nat):Int) ((j+2:Nat):Int)).mul a[j+2] p).mul (aK (aQ (bV z a p) (i+1)) (i-(j+1))) p) p:=by
      have e:aK a (j+1+1)=a[j+2]:=eJ C;simp only[bj,bF];rw[e]
     generalize aK (aQ (bV z a p) (i+1)) (i-(j+1))=N at *
     generalize bj p (bF a (aQ (bV z a p) (i+1)) p i) j=S at *
     have wT:(((nI ((j+2:Nat):Int) ((j+2:Nat):Int)).mul a[j+2] p).mul N p).W:=aD;generalize ((nI ((j+2:Nat):Int) ((j+2:Nat):Int)).mul a[j+2] p).mul N p=T at *
     have Z:=jS S T p U wT;have b:((j+2:Nat):Int)=(j:Int)+2:=by omega
     rw[b]at ct;rw[Q]at r;simp[Ix,q,h,r,s,A,d,t2,t3,C,O,D,q4,q5,q6];refine zq ct ?_;simp[h];refine zq Z ?_;simp[q,h,s,r,Q,A,d,q7,s1,aC];exact B
    ·have v:j=i:=by omega
     subst v;have D:¬(j:Int)+2<=(j:Int)+1:=by omega
     have K:=qx ((j+1:Nat):Int) (by omega) (by omega);have b:((j+1:Nat):Int)=(j:Int)+1:=by omega
     have wj:(nI ((j+1:Nat):Int) ((j+1:Nat):Int)).W:=cD (by omega) (by omega);have J:=lD (bj p (bF a (aQ (bV z a p) (j+1)) p j) j) (nI ((j+1:Nat):Int) ((j+1:Nat):Int)) p U wj;rw[show(bj p (bF a (aQ (bV z a p) (j+1)) p j) j).div (nI ((j+1:Nat):Int) ((j+1:Nat):Int)) p=bV z a p (aQ (bV z a p) (j+1)) (j+1) from rfl]at J;generalize bj p (bF a (aQ (bV z a p) (j+1)) p j) j=S at *
     generalize nI ((j+1:Nat):Int) ((j+1:Nat):Int)=NJ at *
     rw[b]at K;simp[Ix,s,A,d,D];refine zq K ?_;simp[h];refine zq J ?_;obtain⟨v',W,t,y⟩:=(m.grow [some ⟨7,[S.v],false,true⟩]).oneIv (bV z a p (aQ (bV z a p) (j+1)) (j+1)) (by simp;omega);simp only[Iv.v]at t;simp at t;simp[q,h,r,s,t,g1,aC];refine⟨w,?_⟩;simpa[aQ]using y
  ·have u:i=n:=by omega
   subst u;have f5:¬(i:Int)+1<a.length:=by omega
   simp[Iy,l,e8,f5];have:=m.fin (H1:=H) (VJ _);rw[this,hn];simp[dd]
set_option maxRecDepth 20000 in
set_option maxHeartbeats 2000000 in
theorem Rk (S C:Iv)(W:S.W)(U:C.W)(a:List Iv)(p:Int)(K:SW a)(h1:1<=a.length)(h17:a.length<=1000) :
 CQ prog qy8 [aC a,S.v,C.v,.int .i64 p] (.tup [aC (bN S C a p a.length).1,aC (bN S C a p a.length).2]):=by
 refine ap rfl fun H=>?_
 have la:=K.1;have b1:(bN S C a p 1).1=[S]:=rfl;have b2:(bN S C a p 1).2=[C]:=rfl;simp[aC];have⟨n,hn⟩:∃n,n+1=a.length:=⟨a.length-1,by omega⟩
 refine aJ (fun i E l=>E 0=aC a/\E 3=.int .i64 p/\E 12=.int .i64 ((i:Int)+1)/\∃rs rc,E 10=.ref rs 7 0 (i+1)/\E 11=.ref rc 7 0 (i+1)/\rs≠rc /\
  Out H l (.ref rs 7 0 (i+1)) 7 ((bN S C a p (i+1)).1.map Iv.v)/\Out H l (.ref rc 7 0 (i+1)) 7 ((bN S C a p (i+1)).2.map Iv.v)) n ?_ ?_
 ·simp[aC];refine⟨⟨by simp,.inr ⟨H.length+2,[S.v],by simp,by simp[b1],by simp,by simp[b1],by simp[b1]⟩⟩,⟨by simp,.inr ⟨H.length+3,[C.v],by simp,by simp[b2],by simp,by simp[b2],by simp[b2]⟩⟩⟩
 ·rintro i E l hi ⟨F,e3,q,rs,rc,v,w,G,ho,hq⟩;simp only[aC]at F;obtain⟨l1,l2⟩:=pI (s:=S) (c:=C) (a:=a) (p:=p) (i+1);rcases Vm i n with hlt|hge
  ·have g1:IntKind.i64.wrap ((i:Int)+1+1)=(i:Int)+1+1:=by rw[wrap_i64]<;>omega
   have f5:(i:Int)+1<a.length:=by omega
   have f6:1<a.length:=by omega
   have f9:IntKind.i64.wrap (i:Int)=(i:Int):=by rw[wrap_i64]<;>omega
   obtain⟨w1,w2⟩:=fo (p:=p) (a:=a) W U (i+1);obtain⟨bc,gc,hc⟩:=nQ hq l2;obtain⟨bs,gs,hs⟩:=nQ ho l1;have s1:(bN S C a p (i+1+1)).1=(bN S C a p (i+1)).1++[fJ a (bN S C a p (i+1)).2 p i]:=rfl;have s2:(bN S C a p (i+1+1)).2=(bN S C a p (i+1)).2++[(fJ a (bN S C a p (i+1)).1 p i).neg]:=rfl;generalize hSL:(bN S C a p (i+1)).1=d at *
   generalize hCL:(bN S C a p (i+1)).2=g at *
   have pc:=(cy (VJ l) gc).2;have ps:=(cy (VJ l) gs).2;have t1:=qO 1 a[1] (aK g i) p (by omega) (by omega) (K.2 _ (Vy f6)) (bh w2);have t2:=qO 1 a[1] (aK d i) p (by omega) (by omega) (K.2 _ (Vy f6)) (bh w1);have z:∀o:List Iv,((nI 1 1).mul a[1] p).mul (aK o i) p=bj p (bF a o p i) 0:=fun o=>by
    simp only[bj,bF];rw[eJ f6,aba];rfl
   rw[z]at t1 t2;have rc0:=hc i (by omega);have rs0:=hs i (by omega);generalize hoc:aK g i=oc at *
   generalize hos:aK d i=os at *
   simp[Jn,F,e3,w,q,f5,f6,f9,gc,rc0];refine zq t1 ?_;simp[F,e3,v,q,f6,f9,gs,rs0];refine zq t2 ?_;simp;refine aJ (fun j m H2=>m 0=aC a/\m 3=.int .i64 p/\m 12=.int .i64 ((i:Int)+1)/\m 10=.ref rs 7 0 (i+1)/\m 11=.ref rc 7 0 (i+1)/\m 13=.ptr l.length 0 0/\m 14=.ptr (l.length+1) 0 0/\m 15=.int .i64 ((j:Int)+2) /\
    H2=l++[some ⟨7,[(bj p (bF a g p i) j).v],false,true⟩,some ⟨7,[(bj p (bF a d p i) j).v],false,true⟩]) i ?_ ?_
   ·simp[F,e3,q,v,w,aC]
   ·rintro j m H2 hj ⟨I,u,h,x,A,r,B,t,rfl⟩;simp only[aC]at I;have U:=mU (p:=p) (f:=bF a g p i) dR j;have W:=mU (p:=p) (f:=bF a d p i) dR j;rcases Vm j i with jlt|jge
    ·have J:j+2<a.length:=by omega
     have T:i-(j+1)<i+1:=by omega
     have q3:(j:Int)+2<=(i:Int)+1:=by omega
     have q4:IntKind.i64.wrap ((i:Int)+1-((j:Int)+2))=((i-(j+1):Nat):Int):=by rw[wrap_i64]<;>omega
     have q5:(0:Int)<=(j:Int)+2:=by omega
     have q6:((j:Int)+2).toNat=j+2:=by omega
     have q7:IntKind.i64.wrap ((j:Int)+2+1)=(j:Int)+1+2:=by rw[wrap_i64]<;>omega
     have rc1:=hc (i-(j+1)) T;have rs1:=hs (i-(j+1)) T;have ct:=qO ((j+2:Nat):Int) a[j+2] (aK g (i-(j+1))) p (by omega) (by omega) (K.2 _ (Vy J)) (bh w2);have cu:=qO ((j+2:Nat):Int) a[j+2] (aK d (i-(j+1))) p (by omega) (by omega) (K.2 _ (Vy J)) (bh w1);have st:∀o:List Iv,bj p (bF a o p i) (j+1)=(bj p (bF a o p i) j).add (((nI ((j+2:Nat):Int) ((j+2:Nat):Int)).mul a[j+2] p).mul (aK o (i-(j+1))) p) p:=fun o=>by
      have e:aK a (j+1+1)=a[j+2]:=eJ J;simp only[bj,bF];rw[e]
     have st1:=st g;have st2:=st d;generalize aK g (i-(j+1))=M at *
     generalize aK d (i-(j+1))=O at *
     generalize bj p (bF a g p i) j=L at *
     generalize bj p (bF a d p i) j=D at *
     have v1:(((nI ((j+2:Nat):Int) ((j+2:Nat):Int)).mul a[j+2] p).mul M p).W:=aD;have v2:(((nI ((j+2:Nat):Int) ((j+2:Nat):Int)).mul a[j+2] p).mul O p).W:=aD;generalize ((nI ((j+2:Nat):Int) ((j+2:Nat):Int)).mul a[j+2] p).mul M p=T1 at *
     generalize ((nI ((j+2:Nat):Int) ((j+2:Nat):Int)).mul a[j+2] p).mul O p=T2 at *
     have ca:=jS L T1 p U v1;have cb:=jS D T2 p W v2;have b:((j+2:Nat):Int)=(j:Int)+2:=by omega
     rw[b]at ct cu;clear st;simp[Jm,I,u,A,h,r,t,pc,rc1,J,T,q3,q4,q5,q6];refine zq ct ?_;simp[u];refine zq ca ?_;simp[I,u,x,h,r,B,t,ps,rs1,J,T,q4,q5,q6];refine zq cu ?_;simp[u];refine zq cb ?_;simp[I,u,x,A,h,r,B,t,q7,st1,st2,aC];exact jlt
    ·have hji:j=i:=by omega
     subst hji;have q3:¬(j:Int)+2<=(j:Int)+1:=by omega
     have cw:=qx ((j+1:Nat):Int) (by omega) (by omega);have b:((j+1:Nat):Int)=(j:Int)+1:=by omega
     have wj:(nI ((j+1:Nat):Int) ((j+1:Nat):Int)).W:=cD (by omega) (by omega);have c1:=lD (bj p (bF a g p j) j) (nI ((j+1:Nat):Int) ((j+1:Nat):Int)) p U wj;have c2:=lD (bj p (bF a d p j) j) (nI ((j+1:Nat):Int) ((j+1:Nat):Int)) p W wj;rw[show(bj p (bF a g p j) j).div (nI ((j+1:Nat):Int) ((j+1:Nat):Int)) p=fJ a g p j from rfl]at c1;rw[show(bj p (bF a d p j) j).div (nI ((j+1:Nat):Int) ((j+1:Nat):Int)) p=fJ a d p j from rfl]at c2;have wP:(fJ a d p j).W:=fx;generalize bj p (bF a g p j) j=L at *
     generalize bj p (bF a d p j) j=D at *
     generalize nI ((j+1:Nat):Int) ((j+1:Nat):Int)=NJ at *
     generalize fJ a g p j=P at *
     generalize fJ a d p j=Q at *
     have cn:=tP Q wP;generalize Q.neg=N at *
     rw[b]at cw;obtain⟨X1,Y,M,O,u1,u2,k1⟩:=DM (ho.grow [some ⟨7,[L.v],false,true⟩,some ⟨7,[D.v],false,true⟩,some ⟨7,[P.v],true,true⟩]) (hq.grow [some ⟨7,[L.v],false,true⟩,some ⟨7,[D.v],false,true⟩,some ⟨7,[P.v],true,true⟩]) G P (by omega) (y:=.ref (l.length+2) 7 0 1) (by simp[elems]);have n14:=k1 (l.length+1) ⟨7,[D.v],false,true⟩ (by simp) rfl;have k:=(cy (VJ X1) n14).1;obtain⟨X2,Z,o3,o4,u3,u4,k2⟩:=DM (O.grow [some ⟨7,[N.v],true,true⟩]) (M.grow [some ⟨7,[N.v],true,true⟩]) (by omega) N (by omega) (y:=.ref X1.length 7 0 1) (by simp[elems]);simp only[Iv.v]at Y Z k;simp at Y Z k u1 u2 u3 u4;simp[Jm,x,h,r,t,q3];refine zq cw ?_;simp[u];refine zq c1 ?_;simp[Y,A,h,B,k];refine zq cw ?_;simp[u];refine zq c2 ?_;simp;refine zq cn ?_;simp[Z,I,u,h,g1,aC];refine⟨hlt,by omega,?_,?_⟩
     ·rw[s1];simpa using o4
     ·rw[s2];simpa using o3
  ·have hin:i=n:=by omega
   subst hin;have f5:¬(i:Int)+1<a.length:=by omega
   have:=yu (H1:=H) ho hq G (VJ _);simp[Jn,F,v,w,q,f5];simp at this;rw[<-hn];exact this
