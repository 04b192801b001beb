import Derived.Test.YtblicjipogbhmaaGreatDoorSc
import Derived.Test.YtblicjipogbhmaaGreatDoorXf
import Derived.Test.YtblicjipogbhmaaGreatDoorCe
namespace Go.Abs.W
def bF (a o:List Iv)(p:Int)(m i:Nat):Iv:=((nI ((i+1:Nat):Int) ((i+1:Nat):Int)).mul (aK a (i+1)) p).mul (aK o (m-i)) p
def fJ (a o:List Iv)(p:Int)(m:Nat):Iv:=(bj p (bF a o p m) m).div (nI ((m+1:Nat):Int) ((m+1:Nat):Int)) p
theorem dR {a o:List Iv}{p:Int}{m i:Nat}:(bF a o p m i).W:=aD
theorem fx {a o:List Iv}{p:Int}{m:Nat}:(fJ a o p m).W:=aI
def dw (a:List Iv)(p:Int)(o:List Iv):Nat->Iv
 |0=>(aK a 0).exp p
 |m+1=>fJ a o p m
def iJ (a:List Iv)(p:Int):List Iv:=aQ (dw a p) a.length
theorem wi {a o:List Iv}{p:Int}(b:SW a):∀{k:Nat},(dw a p o k).W
 |0=>j2 (bh b.2)
 |_+1=>fx
set_option maxRecDepth 20000 in
theorem Ys : prog.fn CX=some ug:=rfl
theorem yL {H:ab}{g:Nat}(f:prog.fn g=some ug){h n l k q:Nat}{a o:List Iv}{p:Int}{m:Nat}{blk:List V}(u:H[h]?=some (some ⟨1,[aC a],false,true⟩))(z:H[n]?=some (some ⟨1,[.int .i64 p],false,true⟩))
 (y:H[l]?=some (some ⟨1,[.ref q 7 0 (m+1)],false,true⟩)) (A:H[q]?=some (some ⟨7,blk,true,true⟩)) (w:H[k]?=some (some ⟨1,[.int .i64 ((m+1:Nat):Int)],false,true⟩))
 (E:∀x ∈ a,x.W) (G:∀x ∈ o,x.W) (K:m<=1000000) (L:m+1<a.length) (d:∀i,i<m+1->blk[i]?=some (aK o i).v)
 (i:Nat) (hi:i<=m):Cb H g [.ptr h 0 0,.ptr n 0 0,.ptr l 0 0,.ptr k 0 0] [.int .i64 ((1+i:Nat):Int)] (bF a o p m i).v:=by
 intro I b;have⟨j,v⟩:∃j,j=1+i:=⟨_,rfl⟩
 have e:bF a o p m i=((nI (j:Int) (j:Int)).mul (aK a j) p).mul (aK o (m+1-j)) p:=by unfold bF;rw[show i+1=j by omega,show m-i=m+1-j by omega]
 rw[e,<-v];obtain⟨J,r⟩:=cy b u;obtain⟨N,C⟩:=cy b y;obtain⟨P,D⟩:=cy b A;obtain⟨M,B⟩:=cy b w;obtain⟨O,p2⟩:=cy b z;refine⟨by unfold prep;rw[f];rfl,iM f ?_⟩;have s:IntKind.i64.wrap ((m:Int)+1-j)=((m+1-j:Nat):Int):=by rw[wrap_i64]<;>omega
 have f:=d (m+1-j) (by omega);have c:j<a.length:=by omega
 have t:m+1-j<m+1:=by omega
 have F:(nI (j:Int) (j:Int)).W:=cD (by omega) (by omega);simp;refine ak rfl rfl rfl (qL (j:Int) (by omega) (by omega)) ?_;simp[r,p2,aC,c];refine ak rfl rfl rfl (qw (nI (j:Int) (j:Int)) a[j] p F (E _ (Vy c))) ?_;simp[C,D,B,s,t,f,p2];refine ak rfl rfl rfl (qw ((nI (j:Int) (j:Int)).mul a[j] p) (aK o (m+1-j)) p aD (bh G)) ?_;simp[lim,eJ c]
theorem Ka (a:List Iv)(p:Int)(U:SW a):CQ prog R1 [aC a,.int .i64 p] (aC (if dq [a]=true then iJ a p else [])):=by
 have c:=lH [a] (by simp);simp[cY]at c;refine ap rfl fun H=>?_
 simp[aC];refine bt rfl rfl (H1:=H++[some ⟨1,[aC a],false,true⟩,some ⟨1,[.int .i64 p],false,true⟩,some ⟨1,[aC a],true,false⟩]) (vs:=[.sl [aC a]]) (by simp[prep,ah,aF,aC];rfl) c ?_;cases hs:dq [a]
 ·simp
 ·obtain⟨h1,h2⟩:=are1.1 hs;have f1:a.length*88<=281474976710656:=by omega
  have f2:a.length<=9223372036854775807:=by omega
  have q:0<a.length:=by omega
  simp[f1,f2,aC,q];refine ak rfl rfl rfl (Sr a[0] p (U.2 _ (Vy q))) ?_;have hS:a[0].exp p=dw a p [] 0:=by simp[dw,eJ q]
  have bS:aQ (dw a p) 1=[dw a p [] 0]:=rfl;rw[hS];generalize hT:dw a p [] 0=S at *
  simp[fP];have⟨n,hn⟩:∃n,n+1=a.length:=⟨a.length-1,by omega⟩
  refine aJ (fun i E k=>E 2=.ptr H.length 0 0/\E 3=.ptr (H.length+1) 0 0/\E 5=.ptr (H.length+4) 0 0/\∃l,E 6=.ptr l 0 0/\H.length+5<=l/\k[l]?=some (some ⟨1,[.int .i64 ((i+1:Nat):Int)],false,true⟩) /\
   ∃C,k[H.length+4]?=some (some ⟨1,[.ref C 7 0 (i+1)],false,true⟩)/\Out (H++[some ⟨1,[aC a],false,true⟩,some ⟨1,[.int .i64 p],false,true⟩]) k (.ref C 7 0 (i+1)) 7 ((aQ (dw a p) (i+1)).map Iv.v)) n ?_ ?_
  ·simp[aC];refine⟨by simp,.inr ⟨H.length+6,[S.v],by simp,by simp,by simp,by simp[bS],by simp⟩⟩
  ·rintro i E k hi ⟨v,G,A,l,B,hkb,K,C,hv,r⟩;have O:=cy (b:=H.length) (x:=some ⟨1,[aC a],false,true⟩) r.pre (by simp);have Q:=cy (b:=H.length+1) (x:=some ⟨1,[.int .i64 p],false,true⟩) r.pre (by simp);have Z:=cy (VJ k) hv;have P:=cy (VJ k) K;rcases Vm i n with N|hge
   ·have f3:IntKind.i64.wrap ((i:Int)+1+1)=(i:Int)+1+1:=by rw[wrap_i64]<;>omega
    have f5:(i:Int)+1<a.length:=by omega
    have z:=jy (f:=dw a p) (i+1);have hW:∀x ∈ aQ (dw a p) (i+1),x.W:=dI fun _ _ _=>wi U
    have h:=O.1;simp only[aC]at h;simp[HK,v,G,A,B,h,Q.1,P.1,f5,V.isCell,aC];have T:Ev prog (.call Ey [.int .i64 1,.int .i64 ((i:Int)+1),.int .i64 p,.fn CX [.ptr H.length 0 0,.ptr (H.length+1) 0 0,.ptr (H.length+4) 0 0,.ptr l 0 0]] k)
     (.ret (bj p (bF a (aQ (dw a p) (i+1)) p i) i).v k):=by
     have:=v5 (H:=k) (g:=CX) (caps:=[.ptr H.length 0 0,.ptr (H.length+1) 0 0,.ptr (H.length+4) 0 0,.ptr l 0 0]) (f:=bF a (aQ (dw a p) (i+1)) p i) 1 i p (by omega) (fun _ _=>dR) (fun j hj=>?_)
     ·have e:((1+i:Nat):Int)=(i:Int)+1:=by omega
      rw[e]at this;simpa using this
     ·obtain⟨rb1,blk,F,v,_⟩:=r.get (i:=0) (by rw[Wn,z];omega);injection F with F
      subst F;refine yL Ys O.1 Q.1 hv v K U.2 hW (by omega) (by omega) (fun t ht=>?_) j hj;obtain⟨u,W,m,d,I⟩:=r.get (i:=t) (by rw[Wn,z];omega);injection m with m
      subst m;rw[v]at d;injection d with d;injection d with d;injection d with _ d
      rw[d,I,XL,eJ (by omega)]
    refine bW (args:=[.int .i64 1,.int .i64 ((i:Int)+1),.int .i64 p,.fn CX [.ptr H.length 0 0,.ptr (H.length+1) 0 0,.ptr (H.length+4) 0 0,.ptr l 0 0]]) rfl rfl rfl T ?_;have lw:(bj p (bF a (aQ (dw a p) (i+1)) p i) i).W:=mU dR i;have wk:(nI ((i+1:Nat):Int) ((i+1:Nat):Int)).W:=cD (by omega) (by omega);have Y:=qL ((i+1:Nat):Int) (by omega) (by omega);have hd:(bj p (bF a (aQ (dw a p) (i+1)) p i) i).div (nI ((i+1:Nat):Int) ((i+1:Nat):Int)) p=dw a p (aQ (dw a p) (i+1)) (i+1):=rfl;generalize bj p (bF a (aQ (dw a p) (i+1)) p i) i=L at *
    have cd:=qv L (nI ((i+1:Nat):Int) ((i+1:Nat):Int)) p lw wk;rw[hd]at cd;generalize nI ((i+1:Nat):Int) ((i+1:Nat):Int)=NK at *
    have o:((i+1:Nat):Int)=(i:Int)+1:=by omega
    rw[o]at Y;simp[A,B,Z.2,P.2];refine zq Y ?_;simp[G,Q.2];refine zq cd ?_;obtain⟨v',H'',D,w,keep⟩:=(r.grow [some ⟨7,[L.v],false,true⟩]).oneIv2 (dw a p (aQ (dw a p) (i+1)) (i+1)) (by simp;omega);simp only[Iv.v]at D;simp at D;have s:=keep _ _ (Z.2 _) rfl;have M:=keep _ _ (P.2 _) rfl;obtain⟨u,rfl⟩:=w.isRef (n:=i+1) (by simp);have n1:¬H.length+4=l:=by omega
    have l1:=(Vi.1 s).1;simp[v,G,A,B,D,f3,s,M,n1];refine⟨N,by omega,u,?_,?_⟩
    ·rw[Vr (by simp;omega),Wk (by omega)]
    ·have:=(w.setB (y:=some ⟨1,[.ref u 7 0 (i+1+1)],false,true⟩) s rfl (by simp)).grow [some ⟨1,[.int .i64 ((i:Int)+1+1)],false,true⟩];simpa[aQ,aC]using this
   ·have J:i=n:=by omega
    subst J;have f5:¬(i:Int)+1<a.length:=by omega
    have cr:=r.cell;have h:=O.1;simp only[aC]at h;generalize V.ref C 7 0 (i+1)=rv at *
    simp[HK,v,A,B,K,f5,hv,cr.2.1,h];have:=r.fin (H1:=H) (Wl _ _);rw[this,hn];simp[iJ]
def cj (s:Iv)(p:Int)(f:Nat->Iv):Nat->Iv
 |0=>s
 |n+1=>(cj s p f n).add (f n) p
theorem nN {s:Iv}{p:Int}{f:Nat->Iv}(h:s.W):∀n,(cj s p f n).W
 |0=>h
 |_+1=>aH
def bU (a:List Iv)(p:Int)(o:List Iv):Nat->Iv
 |0=>(aK a 0).log p
 |m+1=>((aK a (m+1)).add ((cj (nI 0 0) p (bF o a p m) m).div (nI ((m+1:Nat):Int) ((m+1:Nat):Int)) p).neg p).div (aK a 0) p
def gQ (a:List Iv)(p:Int):List Iv:=aQ (bU a p) a.length
theorem vI {a o:List Iv}{p:Int}:∀{k:Nat},(bU a p o k).W
 |0=>j0
 |_+1=>aI
theorem Kb (a:List Iv)(p:Int)(v:SW a):CQ prog R2 [aC a,.int .i64 p] (aC (if dq [a]=true then gQ a p else [])):=by
 have c:=lH [a] (by simp);simp[cY]at c;refine ap rfl fun H=>?_
 simp[aC];refine bt rfl rfl (H1:=H++[some ⟨1,[aC a],true,false⟩]) (vs:=[.sl [aC a]]) (by simp[prep,ah,aF,aC];rfl) c ?_;cases hs:dq [a]
 ·simp
 ·obtain⟨h1,h2⟩:=are1.1 hs;have f1:a.length*88<=281474976710656:=by omega
  have f2:a.length<=9223372036854775807:=by omega
  have d:0<a.length:=by omega
  simp[f1,f2,aC,d];refine ak rfl rfl rfl (St a[0] p (v.2 _ (Vy d))) ?_;have hS:a[0].log p=bU a p [] 0:=by simp[bU,eJ d]
  have bS:aQ (bU a p) 1=[bU a p [] 0]:=rfl;rw[hS];generalize hT:bU a p [] 0=S at *
  simp[fP];have⟨n,hn⟩:∃n,n+1=a.length:=⟨a.length-1,by omega⟩
  refine aJ (fun i E k=>E 0=aC a/\E 1=.int .i64 p/\E 6=.int .i64 ((i:Int)+1)/\Out H k (E 5) 7 ((aQ (bU a p) (i+1)).map Iv.v)) n ?_ ?_
  ·simp[aC];exact⟨by simp,.inr ⟨H.length+3,[S.v],by simp,by simp,by simp,by simp[bS],by simp⟩⟩
  ·rintro i E k hi ⟨s,e1,B,t⟩;simp only[aC]at s;rcases Vm i n with F|hge
   ·have g1:IntKind.i64.wrap ((i:Int)+1+1)=(i:Int)+1+1:=by rw[wrap_i64]<;>omega
    have f5:(i:Int)+1<a.length:=by omega
    have f6:i+1<a.length:=by omega
    have f7:(0:Int)<=(i:Int)+1:=by omega
    have f8:((i:Int)+1).toNat=i+1:=by omega
    have m:=jy (f:=bU a p) (i+1);have hW:∀x ∈ aQ (bU a p) (i+1),x.W:=dI fun _ _ _=>vI
    have c0:=qL 0 (by omega) (by omega);have w0:(nI 0 0).W:=ay (by decide);simp[Hx,s,B,f5];refine zq c0 ?_;simp;refine aJ (fun j g Q=>g 0=aC a/\g 1=.int .i64 p/\g 6=.int .i64 ((i:Int)+1)/\g 5=E 5/\g 7=.ptr k.length 0 0/\g 8=.int .i64 ((j:Int)+1) /\
     Q=k++[some ⟨7,[(cj (nI 0 0) p (bF (aQ (bU a p) (i+1)) a p i) j).v],false,true⟩]) i ?_ ?_
    ·simp[s,e1,B,cj,aC]
    ·rintro j g Q hj ⟨h,e,q,I,u,r,rfl⟩;simp only[aC]at h;have Y:=nN (p:=p) (f:=bF (aQ (bU a p) (i+1)) a p i) w0 j;rcases Vm j i with J|jge
     ·have q1:j+1<i+1:=by omega
      have K:i-j<a.length:=by omega
      have W:(j:Int)+1<(i:Int)+1:=by omega
      have q4:IntKind.i64.wrap ((i:Int)+1-((j:Int)+1))=((i-j:Nat):Int):=by rw[wrap_i64]<;>omega
      have q5:(0:Int)<=(j:Int)+1:=by omega
      have q6:((j:Int)+1).toNat=j+1:=by omega
      have q7:IntKind.i64.wrap ((j:Int)+1+1)=(j:Int)+1+1:=by rw[wrap_i64]<;>omega
      have l:=qL ((j+1:Nat):Int) (by omega) (by omega);have b:((j+1:Nat):Int)=(j:Int)+1:=by omega
      have P:(nI ((j+1:Nat):Int) ((j+1:Nat):Int)).W:=cD (by omega) (by omega);have y:=qw (nI ((j+1:Nat):Int) ((j+1:Nat):Int)) (aK (aQ (bU a p) (i+1)) (j+1)) p P (bh hW);have z:=qw ((nI ((j+1:Nat):Int) ((j+1:Nat):Int)).mul (aK (aQ (bU a p) (i+1)) (j+1)) p) a[i-j] p aD (v.2 _ (Vy K));have s1:cj (nI 0 0) p (bF (aQ (bU a p) (i+1)) a p i) (j+1)=(cj (nI 0 0) p (bF (aQ (bU a p) (i+1)) a p i) j).add (((nI ((j+1:Nat):Int) ((j+1:Nat):Int)).mul (aK (aQ (bU a p) (i+1)) (j+1)) p).mul a[i-j] p) p:=by
       simp only[cj,bF];rw[eJ K]
      obtain⟨rb,blk,L,r2,M⟩:=t.get (i:=j+1) (by rw[Wn,m];omega);rw[Wn,m]at L;rw[XL]at M;have r4:=cy (VJ k) r2;have r5:(aQ (bU a p) (i+1))[j+1]'(by omega)=aK (aQ (bU a p) (i+1)) (j+1):=(eJ _).symm;rw[r5]at M;generalize aK (aQ (bU a p) (i+1)) (j+1)=o at *
      generalize cj (nI 0 0) p (bF (aQ (bU a p) (i+1)) a p i) j=S at *
      generalize nI ((j+1:Nat):Int) ((j+1:Nat):Int)=w at *
      rw[b]at l;have ca:=Do S ((w.mul o p).mul a[i-j] p) p Y aD;simp[HL,q,u,r,W];refine zq l ?_;simp[e,I,L,r4.2,M,r,q5,q6,q1];refine zq y ?_;simp[h,e,q,r,q4,K];refine zq z ?_;simp[e];refine zq ca ?_;simp[h,e,q,I,L,u,r,q7,s1,aC];exact J
     ·have D:j=i:=by omega
      subst D;have W:¬(j:Int)+1<(j:Int)+1:=by omega
      have l:=qL ((j+1:Nat):Int) (by omega) (by omega);have b:((j+1:Nat):Int)=(j:Int)+1:=by omega
      have P:(nI ((j+1:Nat):Int) ((j+1:Nat):Int)).W:=cD (by omega) (by omega);have O:=v.2 _ (Vy f6);have N:=v.2 _ (Vy d);have y:=qv (cj (nI 0 0) p (bF (aQ (bU a p) (j+1)) a p j) j) (nI ((j+1:Nat):Int) ((j+1:Nat):Int)) p Y P;have z:=wR a[j+1] ((cj (nI 0 0) p (bF (aQ (bU a p) (j+1)) a p j) j).div (nI ((j+1:Nat):Int) ((j+1:Nat):Int)) p) p O aI;have hd:(a[j+1].add ((cj (nI 0 0) p (bF (aQ (bU a p) (j+1)) a p j) j).div (nI ((j+1:Nat):Int) ((j+1:Nat):Int)) p).neg p).div a[0] p=bU a p (aQ (bU a p) (j+1)) (j+1):=by
       simp only[bU];rw[eJ f6,eJ d]
      have U:=qv (a[j+1].add ((cj (nI 0 0) p (bF (aQ (bU a p) (j+1)) a p j) j).div (nI ((j+1:Nat):Int) ((j+1:Nat):Int)) p).neg p) a[0] p aH N;rw[hd]at U;generalize cj (nI 0 0) p (bF (aQ (bU a p) (j+1)) a p j) j=S at *
      generalize nI ((j+1:Nat):Int) ((j+1:Nat):Int)=w at *
      generalize a[j+1].add (S.div w p).neg p=T at *
      rw[b]at l;simp[HL,q,u,r,h,f6,f7,f8];refine zq l ?_;simp[e];refine zq y ?_;simp[e];refine zq z ?_;simp[h,e,I,u,d];refine zq U ?_;obtain⟨v',Z,A,G⟩:=(t.grow [some ⟨7,[T.v],false,true⟩]).oneIv (bU a p (aQ (bU a p) (j+1)) (j+1)) (by simp;omega);simp only[Iv.v]at A;simp at A;simp[h,e,q,A,g1,aC];refine⟨F,?_⟩;simpa[aQ]using G
   ·have C:i=n:=by omega
    subst C;have f5:¬(i:Int)+1<a.length:=by omega
    have cr:=t.cell;simp[Hx,s,B,f5];have:=t.fin (H1:=H) (VJ _);rw[this,hn];simp[gQ]
theorem Ni {n:Nat}{l:List Nat}:V.lowB n (lim l)=true:=rfl
theorem Pl {n:Nat}{b:Bool}:V.lowB n (.bool b)=true:=rfl
theorem Nh {n:Nat}{k:IntKind}{i:Int}:V.lowB n (.int k i)=true:=rfl
theorem DM {j H:ab}{k g n m:Nat}{l A:List Iv}(h:Out j H (.ref k 7 0 n) 7 (l.map Iv.v))(B:Out j H (.ref g 7 0 m) 7 (A.map Iv.v))(q:k≠g)(x:Iv)(G:l.length+1<=1000000000){y:V}(el:elems H y=some [x.v]) :
 ∃d,fP 7 88 (.ref k 7 0 n) y H=some (.ref H.length 7 0 (n+1),d)/\Out j d (.ref H.length 7 0 (n+1)) 7 ((l++[x]).map Iv.v) /\
  Out j d (.ref g 7 0 m) 7 (A.map Iv.v)/\g<H.length/\d.length=H.length+1/\∀(c:Nat) (x:Blk),H[c]?=some (some x)->x.arr=false->d[c]?=some (some x):=by
 rcases h.val with ⟨_,e⟩|⟨b,blk,u,e,p,v,w⟩
 ·cases e
 injection e with o _ _ s
 subst o;rcases B.val with ⟨_,e⟩|⟨F,f,D,e,k3,k4,k5⟩
 ·cases e
 injection e with o _ _ t
 subst o;have E:=(Vi.1 p).1;have i:=(Vi.1 k3).1;have lim:jo (l.length+1) 88=true:=by simp[jo];omega
 rw[Wn]at s t w k5;subst s t;refine⟨(List.set H k none++[some (Blk.mk 7 (l.map Iv.v++[x.v]) true true)]:ab),?_,?_,?_,i,by simp,?_⟩
 ·have C:fF 7 [x.v]=true:=by simp
  rw[Wn]at v;unfold fP;rw[el];simp only[V3,C,Wm,p];simp[w,v,lim]
 ·refine⟨jx (qX h.pre u),.inr ⟨H.length,l.map Iv.v++[x.v],h.pre.length_le,by simp,?_,by rw[VC];simp;simp,by simp⟩⟩;rw[VD (by simp)];simp
 ·refine⟨jx (qX h.pre u),.inr ⟨g,f,D,by simp,?_,k4,by rw[Wn];exact k5⟩⟩;rw[Vr (by simpa using i),Wc q];exact k3
 ·intro c y a z;have r:=(Vi.1 a).1;rw[Vr (by simpa using r),Wc]
  ·exact a
  ·intro e;subst e;rw[p]at a;injection a with a;injection a with a
   rw[<-a]at z;cases z
theorem yu {g H1 H:ab}{c d n m:Nat}{l f:List V}(h:Out g H (.ref c 7 0 n) 7 l)(s:Out g H (.ref d 7 0 m) 7 f)(j:c≠d)(k:H1 <+: g) :
 Go.Abs.fin false H1.length H (.tup [.ref c 7 0 n,.ref d 7 0 m])=some (.tup [.sl l,.sl f],H1):=by
 rcases h.val with ⟨_,e⟩|⟨b,blk,r,e,u,v,w⟩
 ·cases e
 injection e with i _ _ p
 subst i;rcases s.val with ⟨_,e⟩|⟨A,a,y,e,k3,k4,k5⟩
 ·cases e
 injection e with i _ _ q
 subst i;subst p q;have z:d6 H (.ref c 7 0 l.length)=some (.sl l,H.set c (some ⟨7,blk,true,false⟩)):=by simp[d6,aF,bm,u,v,w,V.pure,V.cellPure]
 have o:(H.set c (some ⟨7,blk,true,false⟩))[d]?=some (some ⟨7,a,true,true⟩):=by rw[Wc j];exact k3
 have p2:d6 (H.set c (some ⟨7,blk,true,false⟩)) (.ref d 7 0 f.length)=some (.sl f,(H.set c (some ⟨7,blk,true,false⟩)).set d (some ⟨7,a,true,false⟩)):=by simp[d6,aF,bm,o,k4,k5,V.pure,V.cellPure]
 have t:=jn (qX (b:=d) (x:=some ⟨7,a,true,false⟩) (qX (b:=c) (x:=some ⟨7,blk,true,false⟩) (k.trans h.pre) (Vp k.length_le r)) (Vp k.length_le y));unfold Go.Abs.fin;simp only[Vv,V8,gM,z,p2,V3,t]
set_option maxRecDepth 20000 in
theorem Yr : prog.fn Dn=some ug:=rfl
theorem wV {H:ab}{c h d r:Nat}{a o:List Iv}{p:Int}{m:Nat}{blk:List V}(u:H[c]?=some (some ⟨1,[aC a],false,true⟩))(z:H[h]?=some (some ⟨1,[.int .i64 p],false,true⟩))
 (A:H[r]?=some (some ⟨7,blk,true,true⟩)) (w:H[d]?=some (some ⟨1,[.int .i64 ((m+1:Nat):Int)],false,true⟩))
 (E:∀x ∈ a,x.W) (F:∀x ∈ o,x.W) (J:m<=100000) (y:m+1<a.length) (k:∀i,i<m+1->blk[i]?=some (aK o i).v) :
 Ev prog (.call qxl [.ref r 7 0 (m+1),.ptr d 0 0,.ptr h 0 0,.ptr c 0 0] H) (.ret (fJ a o p m).v H):=by
 refine iM rfl ?_;have C:=cy (VJ H) u;have q:=cy (VJ H) z;have D:=cy (VJ H) A;have l:=cy (VJ H) w;have b:((m+1:Nat):Int)=(m:Int)+1:=by omega
 rw[b]at l;simp[l.2,q.2,V.isCell];have⟨G,n⟩:∃G,G=H++[some ⟨1,[.ref r 7 0 (m+1)],false,true⟩,some ⟨7,[.agg [.bool false,.nil,.int .i64 0,.bool false,.nil,.int .i64 0,.bool false]],false,true⟩]:=⟨_,rfl⟩
 have s:Ev prog (.call Ey [.int .i64 1,.int .i64 ((m:Int)+1),.int .i64 p,.fn Dn [.ptr c 0 0,.ptr h 0 0,.ptr H.length 0 0,.ptr d 0 0]] G)
  (.ret (bj p (bF a o p m) m).v G):=by
  have:=v5 (H:=G) (g:=Dn) (caps:=[.ptr c 0 0,.ptr h 0 0,.ptr H.length 0 0,.ptr d 0 0]) (f:=bF a o p m) 1 m p (by omega) (fun _ _=>dR) (fun j v=>by
   rw[n];exact yL Yr (C.2 _) (q.2 _) (by simp) (D.2 _) (by rw[b];exact l.2 _) E F (by omega) y k j v)
  have e:((1+m:Nat):Int)=(m:Int)+1:=by omega
  rw[e]at this;simpa using this
 rw[<-n];refine bW (args:=[.int .i64 1,.int .i64 ((m:Int)+1),.int .i64 p,.fn Dn [.ptr c 0 0,.ptr h 0 0,.ptr H.length 0 0,.ptr d 0 0]]) rfl rfl rfl s ?_;have B:(bj p (bF a o p m) m).W:=mU dR m;have wk:(nI ((m+1:Nat):Int) ((m+1:Nat):Int)).W:=cD (by omega) (by omega);have t:=qL ((m+1:Nat):Int) (by omega) (by omega);have cd:=qv (bj p (bF a o p m) m) (nI ((m+1:Nat):Int) ((m+1:Nat):Int)) p B wk;rw[show(bj p (bF a o p m) m).div (nI ((m+1:Nat):Int) ((m+1:Nat):Int)) p=fJ a o p m from rfl]at cd;generalize bj p (bF a o p m) m=L at *
 generalize nI ((m+1:Nat):Int) ((m+1:Nat):Int)=I at *
 rw[b]at t;subst n;simp[l.2];refine zq t ?_;simp[q.2];refine zq cd ?_;simp
theorem nQ {c H:ab}{b n:Nat}{l:List Iv}(h:Out c H (.ref b 7 0 n) 7 (l.map Iv.v))(m:l.length=n):∃blk,H[b]?=some (some ⟨7,blk,true,true⟩)/\∀t,t<n->blk[t]?=some (aK l t).v:=by
 rcases h.val with ⟨e,f⟩|⟨i,blk,j,e,g,a,k⟩
 ·cases f
 injection e with d _ _ _
 subst d;refine⟨blk,g,fun t o=>?_⟩;rw[Wn]at a;have e:(l.map Iv.v)[t]?=some (aK l t).v:=by rw[WE,k9 (show t<l.length by omega),eJ (show t<l.length by omega)];rfl
 have:(blk.take l.length)[t]?=(l.map Iv.v)[t]?:=by rw[a]
 rw[aaO (by omega),e]at this;exact this
theorem T7 : SW []:=⟨by simp,by simp⟩
theorem ST {a:List Iv}{p:Int}(w:SW a):SW (iJ a p):=⟨by unfold iJ;rw[jy];exact w.1,dI fun _ _ _=>wi w⟩
theorem Ts {a:List Iv}{p:Int}(w:a.length<=1000000):SW (gQ a p):=⟨by unfold gQ;rw[jy];exact w,dI fun _ _ _=>vI⟩
