import Derived.Test.YtblicjipogbhmaaGreatDoorHm
import Derived.Test.YtblicjipogbhmaaGreatDoorFi
import Derived.Test.YtblicjipogbhmaaGreatDoorFe
import Derived.Test.YtblicjipogbhmaaGreatDoorHy
import Derived.Test.YtblicjipogbhmaaGreatDoorHp
namespace Go.Abs.W
@[simp] theorem qiH {l:List Iv}:(aC l).cells=[aC l]:=rfl
def cY (l:List (List Iv)):V:=.sl (l.map aC)
def fV (n:Nat)(a:List Iv):Bool:=decide (1<=a.length)&&decide (a.length<=17)&&decide (a.length=n)
def dq : List (List Iv)->Bool
 | []=>true
 |a :: l=>(a :: l).all (fV a.length)
theorem lH (l:List (List Iv))(K:l.length<=1000000):CQ prog R3 [cY l] (.bool (dq l)):=by
 refine ap rfl fun H=>?_
 simp[cY];refine aJ (fun i E w=>w=H/\E 0=cY l/\E 5=cY l/\E 6=.int .i64 l.length/\E 7=.int .i64 i/\(∀j x,j<i->l[j]?=some x->fV (l.headD []).length x=true)) l.length ?_ ?_
 ·simp[cY]
 ·rintro i E w hi ⟨rfl,q,r,p,s,B⟩;simp only[cY]at q r ⊢;rcases Vm i l.length with d|G
  ·have D:IntKind.i64.wrap ((i:Int)+1)=((i+1:Nat):Int):=by rw[wrap_i64]<;>omega
   obtain⟨a,t,rfl⟩:∃a t,l=a :: t:=by
    cases l with
    |nil=>simp at d
    |cons a t=>exact⟨a,t,rfl⟩
   have g:∃x,(a :: t)[i]?=some x:=⟨_,k9 d⟩
   obtain⟨x,g⟩:=g;have m:(List.map aC (a :: t))[i]?=some (aC x):=by rw[WE,g];rfl
   have b:fV a.length x=false->dq (a :: t)=false:=by
    intro h;simp only[dq];rw[List.all_eq_false];exact⟨x,VX g,by rw[h];simp⟩
   have v:fV a.length x=true->∀(j:Nat) (y:List Iv),j<i+1->(a :: t)[j]?=some y->fV a.length y=true:=by
    intro h j y A o;rcases Vm j i with k|k
    ·exact B j y k o
    ·have:j=i:=by omega
     subst this;rw[g]at o;injection o with o;rw[<-o];exact h
   rw[aaM]at m;simp only[Xh]at p d;have F:(i:Int)<(t.length:Int)+1:=by omega
   simp[HA,r,p,s,F,m];by_cases I:x.length<1
   ·have n:=b (by simp[fV];omega);have c:(x.length:Int)<1:=by omega
    simp[aC,c,n]
   ·have c:¬(x.length:Int)<1:=by omega
    by_cases J:17<x.length
    ·have n:=b (by simp[fV];omega);have e:(17:Int)<x.length:=by omega
     simp[aC,c,e,n]
    ·have e:¬(17:Int)<x.length:=by omega
     by_cases z:x.length=a.length
     ·have y:=v (by simp[fV,z];omega);have f:(x.length:Int)=a.length:=by omega
      simp[aC,q,r,p,s,f,D];exact⟨fun h=>by omega,fun _=>⟨fun h=>by omega,fun _=>⟨d,y⟩⟩⟩
     ·have n:=b (by simp[fV,z]);have f:¬(x.length:Int)=a.length:=by omega
      simp[aC,q,c,e,f,n]
  ·have u:i=l.length:=by omega
   subst u;have C:dq l=true:=by
    cases l with
    |nil=>rfl
    |cons a t=>
     simp only[dq];rw[VU];intro x g;obtain⟨j,A,rfl⟩:=Xf g;exact B j _ A (k9 _)
   simp[HA,p,s,C]
theorem qL (k:Int)(a:-4611686018427387904<=k)(b:k<=4611686018427387904):CQ prog q33 [.int .i64 k] (nI k k).v:=by
 refine ap rfl fun H=>?_
 have c:=qr k a b;rw[<-show nD k=Dy.of (decide (k<0)) k.natAbs 0 from rfl]at c;have o:(nD k).Ok:=bR (by omega);have d:=qN (nD k) o.w;rw[o.valid]at d;rw[Vh rfl,show Iv.pt (nD k)=nI k k from rfl]at d;simp;refine zq c ?_;simp;refine zq d ?_;simp[lim]
def bj (p:Int)(f:Nat->Iv):Nat->Iv
 |0=>f 0
 |n+1=>(bj p f n).add (f (n+1)) p
theorem mU {p:Int}{f:Nat->Iv}(h:(f 0).W):∀n,(bj p f n).W
 |0=>h
 |_+1=>aH
theorem v5 {H:ab}{g:Nat}{caps:List V}{f:Nat->Iv}(a n:Nat)(p:Int)(u:a+n<=1000000)(s:∀i,i<=n->(f i).W)(h:∀i:Nat,i<=n->Cb H g caps [.int .i64 ((a+i:Nat):Int)] (f i).v) :
 Ev prog (.call Ey [.int .i64 a,.int .i64 ((a+n:Nat):Int),.int .i64 p,.fn g caps] H) (.ret (bj p f n).v H):=by
 refine iM rfl ?_;simp;refine fD (h 0 (by omega)) (jx (VJ H)) rfl (by simp) ?_;simp;refine aJ (fun i E m=>m=H++[some ⟨7,[.agg [.bool false,.nil,.int .i64 0,.bool false,.nil,.int .i64 0,.bool false]],false,true⟩,some ⟨7,[(bj p f i).v],false,true⟩]/\E 1=.int .i64 ((a+n:Nat):Int)/\E 2=.int .i64 p/\E 3=.fn g caps/\E 8=.ptr H.length 0 0/\E 9=.ptr (H.length+1) 0 0/\E 10=.int .i64 ((a+i+1:Nat):Int)) n ?_ ?_
 ·have c:IntKind.i64.wrap ((a:Int)+1)=(a:Int)+1:=by rw[wrap_i64]<;>omega
  simp[bj,c]
 ·rintro i E m hi ⟨rfl,e,o,q,r,j,b⟩;rcases Vm i n with l|t
  ·have c:IntKind.i64.wrap ((a:Int)+i+1+1)=(a:Int)+i+1+1:=by rw[wrap_i64]<;>omega
   have d:(a:Int)+i+1<=a+n:=by omega
   simp[HB,e,q,j,b,d];refine fD (h (i+1) (by omega)) (jx (VJ H)) rfl (by simp;omega) ?_;simp[o];refine ak rfl rfl rfl (Do (bj p f i) (f (i+1)) p (mU (s 0 (by omega)) i) (s (i+1) (by omega))) ?_;simp[e,o,q,r,j,b,c,bj];exact⟨l,by omega⟩
  ·have k:i=n:=by omega
   subst k;have d:¬(a:Int)+i+1<=a+i:=by omega
   simp[HB,e,r,j,b,d]
theorem Out.new {H X:ab}{blk:List V}{z:Nat}:Out H (H++X++[some ⟨z,blk,true,true⟩]) (.ref (H++X).length z 0 0) z []:=
 ⟨by rw[XG];exact Wl _ _,.inr ⟨_,blk,by simp,rfl,by rw[VD (by simp)];simp,rfl,by simp⟩⟩
def aQ (f:List Iv->Nat->Iv):Nat->List Iv
 |0=>[]
 |n+1=>aQ f n++[f (aQ f n) n]
@[simp] theorem jy {f:List Iv->Nat->Iv}:∀n,(aQ f n).length=n
 |0=>rfl
 |n+1=>by simp[aQ,jy n]
theorem sn {f:List Iv->Nat->Iv}:∀{n i:Nat} (h:i<(aQ f n).length),(aQ f n)[i]=f (aQ f i) i
 |0,i,h=>by simp[aQ]at h
 |n+1,i,h=>by
  simp only[aQ]at h ⊢;rcases Vm i n with a|a
  ·rw[List.getElem_append_left (by simpa using a)];exact sn _
  ·have:i=n:=by simp at h;omega
   subst this;rw[List.getElem_append_right (by simp)];simp
theorem dI {f:List Iv->Nat->Iv}{n:Nat}(h:∀l k,k<n->(f l k).W):∀x ∈ aQ f n,x.W:=by
 intro x a;obtain⟨i,hi,rfl⟩:=Xf a;rw[sn];exact h _ _ (by simpa using hi)
def aK (a:List Iv)(k:Nat):Iv:=a[k]?.getD Iv.whole
theorem eJ {a:List Iv}{k:Nat}(h:k<a.length):aK a k=a[k]:=by simp[aK,h]
theorem bh {a:List Iv}{k:Nat}(w:∀x ∈ a,x.W):(aK a k).W:=by
 unfold aK;cases h:a[k]? with
 |none=>exact Iv.whole_W
 |some x=>exact w _ (VX h)
theorem are2 {a b:List Iv}:dq [a,b]=true↔1<=a.length/\a.length<=17/\b.length=a.length:=by
 simp[dq,fV];omega
theorem are1 {a:List Iv}:dq [a]=true↔1<=a.length/\a.length<=17:=by
 simp[dq,fV]
def SW (a:List Iv):Prop:=a.length<=1000000/\∀x ∈ a,x.W
theorem cy {H a:ab}{b:Nat}{x:Option Blk}(d:H <+: a)(c:H[b]?=some x):a[b]?=some x/\∀G:ab,(a++G)[b]?=some x:=by
 obtain⟨G,rfl⟩:=d;have h:(H++G)[b]?=some x:=by rw[Vr (Vi.1 c).1];exact c
 exact⟨h,fun e=>by rw[Vr (Vi.1 h).1];exact h⟩
def cE (s:Iv)(p:Int)(f:Nat->Iv):Nat->Iv
 |0=>s
 |n+1=>(cE s p f n).add (f n).neg p
theorem s7 {s:Iv}{p:Int}{f:Nat->Iv}(h:s.W):∀n,(cE s p f n).W
 |0=>h
 |_+1=>aH
theorem zV {H:ab}{g:Nat}{caps:List V}{f:Nat->Iv}(s:Iv)(a n:Nat)(p:Int)(v:a+n<=1000000)(ws:s.W)(u:∀i,i<n->(f i).W)(h:∀i:Nat,i<n->Cb H g caps [.int .i64 ((a+i:Nat):Int)] (f i).v) :
 Ev prog (.call FH [s.v,.int .i64 a,.int .i64 ((a:Int)+n-1),.int .i64 p,.fn g caps] H) (.ret (cE s p f n).v H):=by
 refine iM rfl ?_;simp;refine aJ (fun i E m=>m=H++[some ⟨7,[(cE s p f i).v],false,true⟩,some ⟨7,[.agg [.bool false,.nil,.int .i64 0,.bool false,.nil,.int .i64 0,.bool false]],false,true⟩]/\E 2=.int .i64 ((a:Int)+n-1)/\E 3=.int .i64 p/\E 4=.fn g caps/\E 5=.ptr H.length 0 0/\E 10=.ptr (H.length+1) 0 0/\E 11=.int .i64 ((a+i:Nat):Int)) n ?_ ?_
 ·simp[cE]
 ·rintro i E m hi ⟨rfl,e,o,q,j,c,b⟩;rcases Vm i n with l|t
  ·have r:IntKind.i64.wrap ((a:Int)+i+1)=(a:Int)+i+1:=by rw[wrap_i64]<;>omega
   have d:(a:Int)+i<=a+n-1:=by omega
   simp[It,e,q,j,b,d];refine fD (h i (by omega)) (jx (VJ H)) rfl (by simp) ?_;simp[o];refine ak rfl rfl rfl (wR (cE s p f i) (f i) p (s7 ws i) (u i (by omega))) ?_;simp[e,o,q,j,c,b,r,cE];exact⟨l,by omega⟩
  ·have k:i=n:=by omega
   subst k;have d:¬(a:Int)+i<=a+i-1:=by omega
   simp[It,e,j,c,b,d]
theorem Out.get {a H:ab}{l:List V}{z:Nat}{v:V}(h:Out a H v z l){i:Nat}(hi:i<l.length):∃b blk,v=.ref b z 0 l.length/\H[b]?=some (some ⟨z,blk,true,true⟩)/\blk[i]?=some l[i]:=by
 rcases h.val with ⟨e,_⟩|⟨b,blk,g,c,d,f,j⟩
 ·rw[e]at hi;simp at hi
 ·refine⟨b,blk,c,d,?_⟩;have:(blk.take l.length)[i]?=l[i]?:=by rw[f]
  rw[aaO hi]at this;rw[this,k9 hi]
def eI (a b:List Iv)(p:Int)(o:List Iv)(k:Nat):Iv:=(cE (aK a k) p (fun i=>(aK o i).mul (aK b (k-i)) p) k).div (aK b 0) p
def mi (a b:List Iv)(p:Int):List Iv:=aQ (eI a b p) a.length
theorem SN {a b o:List Iv}{p:Int}{k:Nat}:(eI a b p o k).W:=aI
theorem MF {H:ab}{g e f h j:Nat}{o b:List Iv}{p:Int}{k:Nat}{blk:List V}(u:H[g]?=some (some ⟨1,[.ref j 7 0 k],false,true⟩))(w:H[j]?=some (some ⟨7,blk,true,true⟩))(n:H[e]?=some (some ⟨1,[aC b],false,true⟩))
 (r:H[f]?=some (some ⟨1,[.int .i64 k],false,true⟩)) (v:H[h]?=some (some ⟨1,[.int .i64 p],false,true⟩)) (C:∀x ∈ o,x.W) (B:∀x ∈ b,x.W) (t:o.length=k) (s:k<b.length) (F:k<=1000000)
 (d:∀i,i<k->blk[i]?=some (aK o i).v)
 (i:Nat) (hi:i<k):Cb H CW [.ptr g 0 0,.ptr e 0 0,.ptr f 0 0,.ptr h 0 0] [.int .i64 ((0+i:Nat):Int)] ((aK o i).mul (aK b (k-i)) p).v:=by
 intro D a;obtain⟨I,z⟩:=cy a u;obtain⟨K,A⟩:=cy a w;obtain⟨E,l⟩:=cy a n;obtain⟨G,y⟩:=cy a r;obtain⟨J,p2⟩:=cy a v;refine⟨rfl,iM rfl ?_⟩;have m:IntKind.i64.wrap ((k:Int)-i)=((k-i:Nat):Int):=by rw[wrap_i64]<;>omega
 have c:k-i<b.length:=by omega
 have q:=d i hi;simp[z,A,l,y,p2,aC,m,hi,c,q];refine ak rfl rfl rfl (qw (aK o i) b[k-i] p (bh C) (B _ (Vy c))) ?_;simp[lim,eJ c]
@[simp] theorem qgN {n k:Nat}:(n+k<n)=False:=by simp
theorem Out.app2 {m H:ab}{v y:V}{z bytes:Nat}{l ys:List V}(h:Out m H v z l)(p:elems H y=some ys)(hz:fF z ys=true)(k:ys≠[])(s:(l.length+ys.length)*bytes<=140737488355328) :
 ∃g d,fP z bytes v y H=some (g,d)/\Out m d g z (l++ys)/\∀(c:Nat) (x:Blk),H[c]?=some (some x)->x.arr=false->d[c]?=some (some x):=by
 obtain⟨g,d,e,t⟩:=h.app p hz k s;refine⟨g,d,e,t,fun c x a o=>?_⟩;unfold fP at e;rw[p]at e;simp only[V3,hz,Wm]at e;have f:=(Vi.1 a).1;rcases h.val with ⟨r,i⟩|⟨b,blk,r,i,n,u,w⟩
 ·subst i;simp only[k,V8]at e;split at e
  ·injection e with e;injection e with _ e;rw[<-e,Vr f];exact a
  ·cases e
 ·subst i;have j:b≠c:=by
   intro q;subst q;rw[n]at a;injection a with a;injection a with a
   rw[<-a]at o;cases o
  simp only[n,k,V8]at e;split at e
  ·injection e with e;injection e with _ e
   rw[<-e,Vr (by simpa using f),Wc j];exact a
  ·cases e
theorem Out.setB {d H:ab}{v:V}{z:Nat}{l:List V}(h:Out d H v z l){c:Nat}{x:Blk}{y:Option Blk}(a:H[c]?=some (some x))(i:x.arr=false)(j:d.length<=c):Out d (H.set c y) v z l:=by
 refine⟨qX h.pre j,?_⟩;rcases h.val with f|⟨b,blk,f,k,g,m⟩
 ·exact .inl f
 ·refine .inr ⟨b,blk,f,k,?_,m⟩;rw[Wc]
  ·exact g
  ·intro e;subst e;rw[g]at a;injection a with a;injection a with a
   rw[<-a]at i;cases i
theorem Out.oneIv2 {d H:ab}{v:V}{l:List Iv}(h:Out d H v 7 (l.map Iv.v))(x:Iv)(j:l.length+1<=1000000000) :
 ∃b a,fP 7 88 v (.ref H.length 7 0 1) (H++[some ⟨7,[x.v],true,true⟩])=some (b,a)/\Out d a b 7 ((l++[x]).map Iv.v)/\∀(c:Nat) (x:Blk),H[c]?=some (some x)->x.arr=false->a[c]?=some (some x):=by
 obtain⟨b,a,e,g,k⟩:=(h.grow [some ⟨7,[x.v],true,true⟩]).app2 (y:=.ref H.length 7 0 1) (ys:=[x.v]) (bytes:=88) (by simp) (by simp) (by simp) (by simp;omega);refine⟨b,a,e,by simpa using g,fun c x f i=>k c x ?_ i⟩;rw[Vr (Vi.1 f).1];exact f
theorem Out.isRef {c H:ab}{v:V}{l:List Iv}(h:Out c H v 7 (l.map Iv.v)){n:Nat}(a:l.length=n+1):∃b,v=.ref b 7 0 (n+1):=by
 rcases h.val with ⟨e,_⟩|⟨b,blk,_,e,_⟩
 ·have:=W2 List.length e;rw[Wn,a]at this;cases this
 ·rw[Wn,a]at e;exact⟨b,e⟩
theorem Out.cell {a H:ab}{v:V}{z:Nat}{l:List V}(h:Out a H v z l):v.isTup=false/\v.cells=[v]/\∀w,v.withCells [w]=w:=by
 rcases h.val with ⟨_,e⟩|⟨b,blk,_,e,_⟩<;>subst e<;>exact⟨rfl,rfl,fun _=>rfl⟩
theorem J9 (a b:List Iv)(p:Int)(S:SW a)(T:SW b):CQ prog R0 [aC a,aC b,.int .i64 p] (aC (if dq [a,b]=true then mi a b p else [])):=by
 have c:=lH [a,b] (by simp);simp[cY]at c;refine ap rfl fun H=>?_
 simp[aC];refine bt rfl rfl (H1:=H++[some ⟨1,[aC b],false,true⟩,some ⟨1,[.int .i64 p],false,true⟩,some ⟨1,[aC a,aC b],true,false⟩]) (vs:=[.sl [aC a,aC b]]) (by simp[prep,ah,aF,aC];rfl) c ?_;cases hs:dq [a,b]
 ·simp
 ·obtain⟨h1,h2,h3⟩:=are2.1 hs;have Y:a.length*88<=281474976710656:=by omega
  have Z:a.length<=9223372036854775807:=by omega
  simp[Y,Z,aC];refine aJ (fun i E e=>E 0=aC a/\E 4=.ptr H.length 0 0/\E 5=.ptr (H.length+1) 0 0/\E 7=.ptr (H.length+4) 0 0/\E 19=.int .i64 a.length/\E 20=.int .i64 i /\
   ∃w,e[H.length+4]?=some (some ⟨1,[.ref w 7 0 i],false,true⟩)/\Out (H++[some ⟨1,[aC b],false,true⟩,some ⟨1,[.int .i64 p],false,true⟩]) e (.ref w 7 0 i) 7 ((aQ (eI a b p) i).map Iv.v)) a.length ?_ ?_
  ·simp[aC,aQ];have:=Out.new (H:=H++[some ⟨1,[aC b],false,true⟩,some ⟨1,[.int .i64 p],false,true⟩]) (X:=[some ⟨1,[aC a,aC b],true,false⟩]) (z:=7) (blk:=List.replicate a.length (.agg [.bool false,.sl [],.int .i64 0,.bool false,.sl [],.int .i64 0,.bool false]));have:=this.grow [some ⟨1,[.ref (H.length+3) 7 0 0],false,true⟩];simpa[aC]using this
  ·rintro i E e hi ⟨C,G,I,A,l,m,w,hv,q⟩;simp only[aC]at C;have Q:=cy (b:=H.length) (x:=some ⟨1,[aC b],false,true⟩) q.pre (by simp);have M:=cy (b:=H.length+1) (x:=some ⟨1,[.int .i64 p],false,true⟩) q.pre (by simp);have N:=cy (b:=H.length+4) (VJ e) hv;rcases Vm i a.length with h|hge
   ·have f3:IntKind.i64.wrap ((i:Int)+1)=((i+1:Nat):Int):=by rw[wrap_i64]<;>omega
    have f4:IntKind.i64.wrap ((i:Int)-1)=(i:Int)-1:=by rw[wrap_i64]<;>omega
    have o:0<b.length:=by omega
    have r:=jy (f:=eI a b p) i;have hW:∀x ∈ aQ (eI a b p) i,x.W:=dI fun _ _ _=>SN
    simp[HJ,C,G,I,A,l,m,h,M.2,f4,V.isCell];have K:Ev prog (.call FH [a[i].v,.int .i64 0,.int .i64 ((i:Int)-1),.int .i64 p,.fn CW [.ptr (H.length+4) 0 0,.ptr H.length 0 0,.ptr e.length 0 0,.ptr (H.length+1) 0 0]] (e++[some ⟨1,[.int .i64 i],false,true⟩]))
     (.ret (cE a[i] p (fun j=>(aK (aQ (eI a b p) i) j).mul (aK b (i-j)) p) i).v (e++[some ⟨1,[.int .i64 i],false,true⟩])):=by
     have:=zV (H:=e++[some ⟨1,[.int .i64 i],false,true⟩]) (g:=CW) (caps:=[.ptr (H.length+4) 0 0,.ptr H.length 0 0,.ptr e.length 0 0,.ptr (H.length+1) 0 0]) (f:=fun j=>(aK (aQ (eI a b p) i) j).mul (aK b (i-j)) p) a[i] 0 i p (by omega) (S.2 _ (Vy h)) (fun _ _=>aD) (fun j hj=>?_)
     ·simpa using this
     ·obtain⟨w,blk,D,P,_⟩:=q.get (i:=j) (by rw[Wn,r];omega);have pr:=cy (VJ e) P;injection D with D
      subst D;refine MF (N.2 _) (pr.2 _) (Q.2 _) (by simp) (M.2 _) hW T.2 r (by omega) (by omega) (fun t ht=>?_) j hj;obtain⟨u,O,k,d,F⟩:=q.get (i:=t) (by rw[Wn,r];omega);injection k with k
      subst k;rw[P]at d;injection d with d;injection d with d;injection d with _ d
      rw[d,F,XL,eJ (by omega)]
    refine bW (args:=[a[i].v,.int .i64 0,.int .i64 ((i:Int)-1),.int .i64 p,.fn CW [.ptr (H.length+4) 0 0,.ptr H.length 0 0,.ptr e.length 0 0,.ptr (H.length+1) 0 0]]) rfl rfl rfl K ?_;have lw:(cE a[i] p (fun j=>(aK (aQ (eI a b p) i) j).mul (aK b (i-j)) p) i).W:=s7 (S.2 _ (Vy h)) i;have hd:(cE a[i] p (fun j=>(aK (aQ (eI a b p) i) j).mul (aK b (i-j)) p) i).div b[0] p=eI a b p (aQ (eI a b p) i) i:=by
     unfold eI;rw[eJ h,eJ o]
    generalize cE a[i] p (fun j=>(aK (aQ (eI a b p) i) j).mul (aK b (i-j)) p) i=L at *
    simp[G,I,A,Q.2,M.2,N.2,aC,o];refine ak rfl rfl rfl (qv L b[0] p lw (T.2 _ (Vy o))) ?_;rw[hd];obtain⟨v',U,B,v,keep⟩:=(q.grow [some ⟨1,[.int .i64 i],false,true⟩,some ⟨7,[L.v],false,true⟩]).oneIv2 (eI a b p (aQ (eI a b p) i) i) (by simp;omega);simp only[Iv.v]at B;simp at B;have s:=keep _ _ (N.2 _) rfl;obtain⟨u,rfl⟩:=v.isRef (n:=i) (by simp);simp[C,G,I,A,l,m,B,f3,s];refine⟨u,?_,?_⟩
    ·rw[Wk (Vi.1 s).1]
    ·have:=v.setB (y:=some ⟨1,[.ref u 7 0 (i+1)],false,true⟩) s rfl (by simp);simpa[aQ,aC]using this
   ·have J:i=a.length:=by omega
    subst J;have W:=q.cell;generalize V.ref w 7 0 a.length=rv at *
    simp[HJ,A,l,m,hv,W.2.1];have:=q.fin (H1:=H) (Wl _ _);rw[this];simp[mi]
theorem qA {f:List Iv->Nat->Iv}{n i:Nat}(h:i<n):aK (aQ f n) i=f (aQ f i) i:=by
 rw[eJ (by simpa using h),sn]
theorem Iv.scl_W' {x:Iv}{k:Int}:(x.scl k).W:=by
 unfold Iv.scl;split
 ·exact tt scl_ok.w scl_ok.w
 ·exact Iv.whole_W
theorem Iv.sqrt_W' {x:Iv}{p:Int}:(x.sqrt p).W:=by
 unfold Iv.sqrt;split
 ·exact tt rSqrt_ok.w rSqrt_ok.w
 ·exact Iv.whole_W
def a6 (a:List Iv)(p:Int)(o:List Iv):Nat->Iv
 |0=>(aK a 0).sqrt p
 |k+1=>(cE (aK a (k+1)) p (fun i=>(aK o (1+i)).mul (aK o (k+1-(1+i))) p) k).div ((aK o 0).scl 1) p
def hG (a:List Iv)(p:Int):List Iv:=aQ (a6 a p) a.length
theorem yh {a o:List Iv}{p:Int}{k:Nat}:(a6 a p o k).W:=by
 cases k
 ·exact Iv.sqrt_W'
 ·exact aI
theorem Ow {H:ab}{e d f g:Nat}{o:List Iv}{p:Int}{k:Nat}{blk:List V}(s:H[e]?=some (some ⟨1,[.ref g 7 0 k],false,true⟩))(u:H[g]?=some (some ⟨7,blk,true,true⟩))
 (r:H[d]?=some (some ⟨1,[.int .i64 k],false,true⟩)) (t:H[f]?=some (some ⟨1,[.int .i64 p],false,true⟩)) (h:∀x ∈ o,x.W) (A:k<=1000000)
 (b:∀i,i<k->blk[i]?=some (aK o i).v)
 (i:Nat) (hi:1+i<k):Cb H CZ [.ptr e 0 0,.ptr d 0 0,.ptr f 0 0] [.int .i64 ((1+i:Nat):Int)] ((aK o (1+i)).mul (aK o (k-(1+i))) p).v:=by
 intro z a;have⟨j,q⟩:∃j,j=1+i:=⟨_,rfl⟩
 rw[<-q]at hi ⊢;obtain⟨C,w⟩:=cy a s;obtain⟨E,y⟩:=cy a u;obtain⟨B,v⟩:=cy a r;obtain⟨D,p2⟩:=cy a t;refine⟨rfl,iM rfl ?_⟩;have l:IntKind.i64.wrap ((k:Int)-j)=((k-j:Nat):Int):=by rw[wrap_i64]<;>omega
 have n:=b j hi;have c:=b (k-j) (by omega);have m:k-j<k:=by omega
 simp[w,y,v,p2,l,hi,n,c,m];refine ak rfl rfl rfl (qw (aK o j) (aK o (k-j)) p (bh h) (bh h)) ?_;simp[lim]
theorem MG (a:List Iv)(p:Int)(T:SW a):CQ prog q7w [aC a,.int .i64 p] (aC (if dq [a]=true then hG a p else [])):=by
 have c:=lH [a] (by simp);simp[cY]at c;refine ap rfl fun H=>?_
 simp[aC];refine bt rfl rfl (H1:=H++[some ⟨1,[.int .i64 p],false,true⟩,some ⟨1,[aC a],true,false⟩]) (vs:=[.sl [aC a]]) (by simp[prep,ah,aF,aC];rfl) c ?_;cases hs:dq [a]
 ·simp
 ·obtain⟨h1,h2⟩:=are1.1 hs;have f1:a.length*88<=281474976710656:=by omega
  have f2:a.length<=9223372036854775807:=by omega
  have o:0<a.length:=by omega
  simp[f1,f2,aC,o];refine ak rfl rfl rfl (Mu a[0] p (T.2 _ (Vy o))) ?_;have hS:a[0].sqrt p=a6 a p [] 0:=by simp[a6,eJ o]
  have bS:aQ (a6 a p) 1=[a6 a p [] 0]:=rfl;rw[hS];have wS:(a6 a p [] 0).W:=yh;generalize hT:a6 a p [] 0=S at *
  simp[fP];refine ak rfl rfl rfl (tR S 1 wS) ?_;simp;have⟨n,hn⟩:∃n,n+1=a.length:=⟨a.length-1,by omega⟩
  refine aJ (fun i E h=>E 0=aC a/\E 3=.ptr H.length 0 0/\E 5=.ptr (H.length+3) 0 0/\E 6=.ptr (H.length+6) 0 0/\∃l,E 7=.ptr l 0 0/\H.length+7<=l/\h[l]?=some (some ⟨1,[.int .i64 ((i+1:Nat):Int)],false,true⟩)/\h[H.length+6]?=some (some ⟨7,[(S.scl 1).v],false,true⟩) /\
   ∃B,h[H.length+3]?=some (some ⟨1,[.ref B 7 0 (i+1)],false,true⟩)/\Out (H++[some ⟨1,[.int .i64 p],false,true⟩]) h (.ref B 7 0 (i+1)) 7 ((aQ (a6 a p) (i+1)).map Iv.v)) n ?_ ?_
  ·simp[aC];refine⟨by simp,.inr ⟨H.length+5,[S.v],by simp,by simp,by simp,by simp[bS],by simp⟩⟩
  ·rintro i E h hi ⟨z,F,A,Y,l,I,hkb,K,O,B,hv,r⟩;simp only[aC]at z;have Q:=cy (b:=H.length) (x:=some ⟨1,[.int .i64 p],false,true⟩) r.pre (by simp);have pv:=cy (VJ h) hv;have Z:=cy (VJ h) K;have pt:=cy (VJ h) O;simp only[Iv.v]at pt;have f0:((i:Int)+1<a.length)↔i<n:=by omega
   rcases Vm i n with N|hge
   ·have f3:IntKind.i64.wrap ((i:Int)+1+1)=(i:Int)+1+1:=by rw[wrap_i64]<;>omega
    have f4:IntKind.i64.wrap (i:Int)=(i:Int):=by rw[wrap_i64]<;>omega
    have f5:(i:Int)+1<a.length:=by omega
    have f6:i+1<a.length:=by omega
    have f7:(0:Int)<=(i:Int)+1:=by omega
    have u:=jy (f:=a6 a p) (i+1);have hW:∀x ∈ aQ (a6 a p) (i+1),x.W:=dI fun _ _ _=>yh
    simp[Is,z,F,A,I,Q.1,Z.1,f4,f5,f6,f7,V.isCell];have P:Ev prog (.call FH [a[i+1].v,.int .i64 1,.int .i64 i,.int .i64 p,.fn CZ [.ptr (H.length+3) 0 0,.ptr l 0 0,.ptr H.length 0 0]] h)
     (.ret (cE a[i+1] p (fun j=>(aK (aQ (a6 a p) (i+1)) (1+j)).mul (aK (aQ (a6 a p) (i+1)) (i+1-(1+j))) p) i).v h):=by
     have:=zV (H:=h) (g:=CZ) (caps:=[.ptr (H.length+3) 0 0,.ptr l 0 0,.ptr H.length 0 0]) (f:=fun j=>(aK (aQ (a6 a p) (i+1)) (1+j)).mul (aK (aQ (a6 a p) (i+1)) (i+1-(1+j))) p) a[i+1] 1 i p (by omega) (T.2 _ (Vy f6)) (fun _ _=>aD) (fun j hj=>?_)
     ·have e:((1:Nat):Int)+(i:Int)-1=i:=by omega
      rw[e]at this;simpa using this
     ·obtain⟨rb1,blk,D,W,_⟩:=r.get (i:=j) (by rw[Wn,u];omega);injection D with D
      subst D;refine Ow hv W K Q.1 hW (by omega) (fun t ht=>?_) j (by omega);obtain⟨q,U,m,d,G⟩:=r.get (i:=t) (by rw[Wn,u];omega);injection m with m
      subst m;rw[W]at d;injection d with d;injection d with d;injection d with _ d
      rw[d,G,XL,eJ (by omega)]
    refine bW (args:=[a[i+1].v,.int .i64 1,.int .i64 i,.int .i64 p,.fn CZ [.ptr (H.length+3) 0 0,.ptr l 0 0,.ptr H.length 0 0]]) rfl rfl rfl P ?_;have lw:(cE a[i+1] p (fun j=>(aK (aQ (a6 a p) (i+1)) (1+j)).mul (aK (aQ (a6 a p) (i+1)) (i+1-(1+j))) p) i).W:=s7 (T.2 _ (Vy f6)) i;have hd:(cE a[i+1] p (fun j=>(aK (aQ (a6 a p) (i+1)) (1+j)).mul (aK (aQ (a6 a p) (i+1)) (i+1-(1+j))) p) i).div (S.scl 1) p=a6 a p (aQ (a6 a p) (i+1)) (i+1):=by
     have:aK (aQ (a6 a p) (i+1)) 0=S:=by rw[qA (by omega)];exact hT
     simp only[a6];rw[this,eJ f6]
    generalize cE a[i+1] p (fun j=>(aK (aQ (a6 a p) (i+1)) (1+j)).mul (aK (aQ (a6 a p) (i+1)) (i+1-(1+j))) p) i=L at *
    simp[F,A,Y,Q.2,pv.2,pt.2];refine ak rfl rfl rfl (qv L (S.scl 1) p lw (Iv.scl_W' (x:=S) (k:=1))) ?_;rw[hd];obtain⟨v',H'',C,s,keep⟩:=(r.grow [some ⟨7,[L.v],false,true⟩]).oneIv2 (a6 a p (aQ (a6 a p) (i+1)) (i+1)) (by simp;omega);simp only[Iv.v]at C;simp at C;have w:=keep _ _ (pv.2 _) rfl;have M:=keep _ _ (Z.2 _) rfl;have v:=keep _ _ (pt.2 _) rfl;obtain⟨q,rfl⟩:=s.isRef (n:=i+1) (by simp);have n1:¬H.length+3=l:=by omega
    simp[z,F,A,Y,I,C,f3,w,M,n1];have l1:=(Vi.1 v).1;refine⟨N,rfl,by omega,?_,q,?_,?_⟩
    ·rw[Vr (by simp;omega),Wc (by omega)];exact v
    ·rw[Vr (by simp;omega),Wk (by omega)]
    ·have:=(s.setB (y:=some ⟨1,[.ref q 7 0 (i+1+1)],false,true⟩) w rfl (by simp)).grow [some ⟨1,[.int .i64 ((i:Int)+1+1)],false,true⟩];simpa[aQ]using this
   ·have J:i=n:=by omega
    subst J;have f5:¬(i:Int)+1<a.length:=by omega
    have cr:=r.cell;generalize V.ref B 7 0 (i+1)=rv at *
    simp[Is,z,A,I,K,f5,hv,cr.2.1];have:=r.fin (H1:=H) (Wl _ _);rw[this,hn];simp[hG]
theorem qx (k:Int)(a:-4611686018427387904<=k)(b:k<=4611686018427387904):CQ prog q79 [.int .i64 k] (nI k k).v:=by
 refine ap rfl fun H=>?_
 have c:=Bl k a b;rw[<-show nD k=Dy.of (decide (k<0)) k.natAbs 0 from rfl]at c;have d:=tT (nD k);rw[show Iv.pt (nD k)=nI k k from rfl]at d;simp;refine zq c ?_;simp;refine zq d ?_;simp[lim]
set_option maxHeartbeats 1000000 in
theorem QF {H:ab}{g:Nat}{caps:List V}{p:(List Iv)->Bool}(l:List (List Iv))(w:l.length<=9223372036854775807)(h:∀x ∈ l,Cb H g caps [aC x] (.bool (p x))) :
 Ev prog (.call qj9 [cY l,.fn g caps] H) (.ret (eH (l.findIdx? p)) H):=by
 refine iM rfl ?_;simp[cY];refine aJ (fun i E q=>q=H/\E 0=cY l/\E 1=.fn g caps/\E 7=.int .i64 l.length/\E 8=.int .i64 i/\(∀j x,j<i->l[j]?=some x->p x=false)) l.length ?_ ?_
 ·simp[cY]
 ·rintro i E q hi ⟨rfl,f,r,k,m,o⟩;simp only[cY]at f ⊢;rcases Vm i l.length with a|u
  ·have t:IntKind.i64.wrap ((i:Int)+1)=((i+1:Nat):Int):=by rw[wrap_i64]<;>omega
   simp[JZ,k,m,f,r,a];refine fD (h l[i] (Vy a)) (VJ _) rfl rfl ?_;simp[f,r,k,m,t];refine⟨fun b=>?_,fun b=>?_⟩
   ·rw[show l.findIdx? p=some i from ?_]
    ·simp[eH]
    ·rw[WI];refine⟨a,b,?_⟩
     ·intro j e;have:=o j l[j] e (k9 _);simp[this]
   ·intro j y e d;rcases Vm j i with c|c
    ·exact o j y c d
    ·have:j=i:=by omega
     subst this;rw[k9 a]at d;injection d with d;rw[<-d];exact b
  ·have n:i=l.length:=by omega
   subst n;have s:l.findIdx? p=none:=by
    simp only[W8];intro x v;obtain⟨j,e,rfl⟩:=Xf v;exact o j _ e (k9 _)
   simp[JZ,k,m,s,eH]
theorem YX {H:ab}{g:Nat}{caps:List V}{p:(List Iv)->Bool}(l:List (List Iv))(e:l.length<=9223372036854775807)(h:∀x ∈ l,Cb H g caps [aC x] (.bool (p x))) :
 Ev prog (.call qhk [cY l,.fn g caps] H) (.ret (.bool (l.any p)) H):=by
 refine iM rfl ?_;simp[cY];refine bW rfl rfl rfl (QF l e h) ?_;rcases b:l.findIdx? p with _|i
 ·have a:l.any p=false:=by simpa[W8]using b
  simp[eH,a]
 ·have a:l.any p=true:=by
   rw[WI]at b;obtain⟨c,d,_⟩:=b;exact List.any_eq_true.2 ⟨_,Vy c,d⟩
  simp[eH,a]
theorem q3b : ∀{a b:List Iv},(decide (a.length=b.length)&&allB (fun x y=>decide (x=y)) a b)=decide (a=b)
 | [],[]=>rfl
 | [],_ :: _=>by simp
 |_ :: _,[]=>by simp
 |x :: a,y :: b=>by
  have h:=q3b (a:=a) (b:=b);simp only[Xh,allB];by_cases e:x=y
  ·subst e;rw[show(decide (a.length+1=b.length+1)&&(decide (x=x)&&allB (fun x y=>decide (x=y)) a b))=(decide (a.length=b.length)&&allB (fun x y=>decide (x=y)) a b) by simp,h];simp
  ·simp[e]
theorem PI (a b:List Iv)(c:SW a)(f:SW b):CQ prog Y9 [aC a,aC b] (.bool (decide (a=b))):=by
 refine ap rfl fun H=>?_
 simp;refine bW rfl rfl rfl (QC (p:=fun x y=>decide (x=y)) a b (by have:=c.1;omega) fun x d y e=>iu (fun _=>rfl) (QH x y (c.2 x d) (f.2 y e))) ?_;simp only[q3b];simp
def Iv.g21 (x:Iv):Bool:=decide (20<x.lo.m.length) ||decide (20<x.hi.m.length)
def pB (a:List Iv):Bool:=decide (30<a.length) ||a.any Iv.g21
def gS (p:Int)(l:List (List Iv)):Bool:=(decide (64<p)&&decide (p<=512)) ||l.any pB
theorem KG (x:Iv):CQ prog qu0 [x.v] (.bool x.g21):=by
 refine ap rfl fun H=>?_
 have e:x.g21=(decide ((20:Int)<x.lo.m.length) ||decide ((20:Int)<x.hi.m.length)):=by
  unfold Iv.g21
  congr 1<;>(rw[aai];omega)
 rw[e];simp[lim];grind
theorem wq (a:List Iv)(d:a.length<=9223372036854775807):CQ prog qxv [aC a] (.bool (pB a)):=by
 refine ap rfl fun H=>?_
 by_cases h:30<a.length
 ·have b:(30:Int)<a.length:=by omega
  simp[aC,b,pB,h]
 ·have b:¬(30:Int)<a.length:=by omega
  simp[aC,b];refine bW rfl rfl rfl (YW (p:=Iv.g21) a (by omega) fun x c=>iu (fun _=>rfl) (KG x)) ?_;simp[pB,h]
theorem xT (p:Int)(l:List (List Iv))(g:l.length<=1000000)(h:∀a ∈ l,a.length<=9223372036854775807):CQ prog q2q [.int .i64 p,cY l] (.bool (gS p l)):=by
 refine ap rfl fun H=>?_
 by_cases d:64<p/\p<=512
 ·simp[d,gS]
 ·have b:(decide (64<p)&&decide (p<=512))=false:=by simpa using d
  simp[cY];refine⟨fun f=>?_,fun f=>?_⟩
  ·have c:¬p<=512:=fun c=>d ⟨f,c⟩
   simp[c];intro _;refine bW rfl rfl rfl (YX (p:=pB) l (by omega) fun a e=>iu (fun _=>rfl) (wq a (h a e))) ?_;simp[gS,b]
  ·have c:¬64<p:=by omega
   simp[c];refine bW rfl rfl rfl (YX (p:=pB) l (by omega) fun a e=>iu (fun _=>rfl) (wq a (h a e))) ?_;simp[gS,b]
def eZ (x:Iv)(k:Nat):List Iv:=x :: List.replicate k (nI 0 0)
def iy (x:Iv):Nat->List Iv
 |0=>[x]
 |k+1=>x :: nI 1 1 :: List.replicate k (nI 0 0)
theorem BH : (nI 0 0).v=.agg [.bool false,.sl [],.int .i64 0,.bool false,.sl [],.int .i64 0,.bool false]:=by
 have:nI 0 0=⟨⟨false,[],0⟩,⟨false,[],0⟩,false⟩:=by decide +kernel
 rw[this];rfl
theorem jZ : (nI 0 0).W:=cD (by omega) (by omega)
theorem me : (nI 1 1).W:=cD (by omega) (by omega)
theorem SI {x:Iv}{k:Nat}(w:x.W):∀y ∈ eZ x k,y.W:=by
 intro y a;rcases Wz.1 a with rfl|a
 ·exact w
 ·rw[Xi a];exact jZ
theorem T5 {x:Iv}{k:Nat}(w:x.W):∀y ∈ iy x k,y.W:=by
 cases k with
 |zero=>intro y a;simp[iy]at a;subst a;exact w
 |succ k=>
  intro y a;simp only[iy,Wz]at a;rcases a with rfl|rfl|a
  ·exact w
  ·exact me
  ·rw[Xi a];exact jZ
def eG (k:Int):Bool:=decide (0<=k)&&decide (k<=16)
theorem AE (x:Iv)(k:Int)(H:ab) :
 Ev prog (.call Zs [x.v,.int .i64 k] H) (.ret (if eG k=true then .ref H.length 7 0 (k.toNat+1)else .nil) (if eG k=true then H++[some ⟨7,(eZ x k.toNat).map Iv.v,true,true⟩]else H)):=by
 suffices CT prog Zs [x.v,.int .i64 k] H (fun v a=>v=(if eG k=true then .ref H.length 7 0 (k.toNat+1)else .nil)/\a=(if eG k=true then H++[some ⟨7,(eZ x k.toNat).map Iv.v,true,true⟩]else H)) by
  obtain⟨v,a,e,rfl,rfl⟩:=this;exact e
 refine ms (f:=C6) rfl (pK ?_);by_cases b:k<0
 ·have o:eG k=false:=by simp[eG];omega
  simp[b,o,fin,fK,zA]
 ·by_cases g:16<k
  ·have o:eG k=false:=by simp[eG];omega
   simp[b,g,o,fin,fK,zA]
  ·have o:eG k=true:=by simp[eG];omega
   obtain⟨n,rfl⟩:∃n:Nat,k=n:=⟨k.toNat,by omega⟩
   have c:IntKind.i64.wrap ((n:Int)+1)=(n:Int)+1:=by rw[wrap_i64]<;>omega
   have d:(0:Int)<=(n:Int)+1:=by omega
   have f3:((n:Int)+1).toNat=n+1:=by omega
   have f4:(n+1)*88<=281474976710656:=by omega
   have f5:n+1<=9223372036854775807:=by omega
   have f6:¬(16:Int)<n:=by omega
   simp[o,c,d,f3,f4,f5,f6,aat,fin,fK,zB];have e:List.map Iv.v (eZ x n)=x.v :: List.replicate n (nI 0 0).v:=by simp[eZ]
   rw[BH]at e;rw[e];exact⟨fun h=>by omega,rfl⟩
theorem Kc (x:Iv)(k:Int):CQ prog qxk [x.v,.int .i64 k] (aC (if eG k=true then iy x k.toNat else [])):=by
 refine ap rfl fun H=>?_
 simp;refine pL rfl rfl rfl ⟨_,_,AE x k _,?_⟩;have c:=qL 1 (by omega) (by omega);cases o:eG k
 ·simp[aC]
 ·simp[eG]at o;obtain⟨n,rfl⟩:∃n:Nat,k=n:=⟨k.toNat,by omega⟩
  rcases n with _|n
  ·simp[eZ,iy,aC]
  ·have b:(0:Int)<(n:Int)+1:=by omega
   simp[b];refine zq c ?_;have e:List.map Iv.v (eZ x (n+1))=x.v :: (nI 0 0).v :: List.replicate n (nI 0 0).v:=by simp[eZ,aat]
   have z:(nI 0 0).v.cells.length=7:=rfl;simp only[Iv.v]at e;have a:List.map Iv.v (iy x (n+1))=x.v :: (nI 1 1).v :: List.replicate n (nI 0 0).v:=by simp[iy]
   simp only[Iv.v]at a;generalize nI 0 0=y at *
   generalize nI 1 1=w at *
   simp[e,a,aC,fZ,V.withCells]
def iq : List Iv:=iy (nI 1 1) 2
theorem O2 : hG iq 24=[nI 1 1,(nI 1 1).scl (-1),(nI (-1) (-1)).scl (-3)]:=by
 have b:a6 iq 24 [] 0=nI 1 1:=by
  have e:aK iq 0=nI (1*1) (1*1):=by decide +kernel
  simp only[a6,e];exact Mv (by omega) (by decide) (by decide) (by omega)
 have e:∀a,a6 iq 24 [] 0=a->hG iq 24=[a,a6 iq 24 [a] 1,a6 iq 24 [a,a6 iq 24 [a] 1] 2]:=by
  rintro a rfl;rfl
 rw[e _ b];decide +kernel
theorem MV : mi (eZ (nI 1 1) 2) iq 24=[nI 1 1,nI (-1) (-1),nI 1 1]:=by decide +kernel
theorem wh : SW iq:=⟨by decide,T5 me⟩
theorem Ad {a b:List Iv}(c:SW a)(h:a=b):CQ prog Y9 [aC a,aC b] (.bool true):=by
 subst h;simpa using PI a a c c
theorem yN {n0:Nat}{Q:AX->aA->ab->Prop}{d:Bool}{dst:Option Nat}{l:List AOper}{K:List Fr}{E:aA}{H H1 a:ab}{x:X}{args caps vs:List V}{b:List X}{g:Nat}{v:V}
 (f:am E x=.fn g caps) (c:b.map (am E)++caps=args) (e:prep prog g H args=some (vs,H1)) (h:Ev prog (.call g vs H1) (.ret v a)) (k:WL prog n0 d l K (put E dst v) a Q):mw prog n0 d dst x b true l K E H Q:=
 qy f c e ⟨_,_,h,fun h=>by simp at h,k⟩
theorem Qg : CQ prog q2r [] (.bool true):=by
 refine ap rfl fun H=>?_
 have b:=qx 1 (by omega) (by omega);have j:=qx (-1) (by omega) (by omega);have d:=me;have m:(nI (-1) (-1)).W:=cD (by omega) (by omega);have l:=Kc (nI 1 1) 2;have e:=AE (nI 1 1) 2;have o:=tR (nI 1 1) (-1) d;have p:=tR (nI (-1) (-1)) (-3) m;have k:=MG iq 24 wh;have f:=J9 (eZ (nI 1 1) 2) iq 24 ⟨by decide,SI d⟩ wh;rw[show(if eG 2=true then iy (nI 1 1) (Int.toNat 2)else [])=iq from rfl]at l;rw[show(if dq [iq]=true then hG iq 24 else [])=hG iq 24 from rfl,O2]at k;rw[show(if dq [eZ (nI 1 1) 2,iq]=true then mi (eZ (nI 1 1) 2) iq 24 else [])=mi (eZ (nI 1 1) 2) iq 24 from rfl,MV]at f;have q:=Ad (a:=[nI 1 1,(nI 1 1).scl (-1),(nI (-1) (-1)).scl (-3)]) ⟨by simp,by simp[d,Iv.scl_W']⟩ rfl;have r:=Ad (a:=[nI 1 1,nI (-1) (-1),nI 1 1]) ⟨by simp,by simp[d,m]⟩ rfl;simp only[show eG 2=true from rfl,Wm,show(2:Int).toNat=2 from rfl]at e
 generalize iq=A at *
 generalize n:eZ (nI 1 1) 2=C at *
 have i:C.length=3:=by rw[<-n];rfl
 have s:List.take 3 (List.map Iv.v C)=List.map Iv.v C:=VC (by simp[i]);generalize (nI 1 1).scl (-1)=g at *
 generalize (nI (-1) (-1)).scl (-3)=h at *
 generalize nI 1 1=one at *
 generalize nI (-1) (-1)=c at *
 simp;refine zq b ?_;simp;refine zq l ?_;simp;refine zq b ?_;simp;refine zq o ?_;simp;refine zq k ?_;simp;refine zq b ?_;simp;refine pL rfl rfl rfl ⟨_,_,e _,?_⟩;simp;refine pL (vs:=[aC C,aC A,.int .i64 24]) rfl rfl (by simp[prep,ah,aF,aC,i,s];rfl) ⟨_,_,f _,?_⟩;simp;refine zq b ?_;simp;refine zq j ?_;simp;refine zq p ?_;simp;refine yN (vs:=[aC [one,g,h],aC [one,g,h]]) rfl rfl (by simp[prep,ah,aF,aC];rfl) (q _) ?_;simp;refine zq b ?_;simp;refine zq j ?_;simp;refine zq b ?_;simp;refine yN (vs:=[aC [one,c,one],aC [one,c,one]]) rfl rfl (by simp[prep,ah,aF,aC];rfl) (r _) ?_;simp
structure LL (a:List Iv):Prop where
 len:a.length<=9223372036854775807
 lm:∀x ∈ a,x.Lm
theorem Qu {p:Int}{l:List (List Iv)}(h:gS p l=false){a:List Iv}(d:a ∈ l)(w:LL a):a.length<=30/\SW a:=by
 simp only[gS,abt]at h;have b:=List.any_eq_false.1 h.2 a d;simp only[pB,WF,not_or,VT]at b;refine⟨by omega,by omega,fun x c=>?_⟩;have e:¬(20<x.lo.m.length\/20<x.hi.m.length):=fun h=>b.2 (List.any_eq_true.2 ⟨x,c,by simpa[Iv.g21]using h⟩)
 have l:=w.lm x c;exact⟨⟨l.1,by omega⟩,⟨l.2,by omega⟩⟩
