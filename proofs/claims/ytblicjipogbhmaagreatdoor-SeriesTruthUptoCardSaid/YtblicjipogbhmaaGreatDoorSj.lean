import Derived.Test.YtblicjipogbhmaaGreatDoorSg
import Derived.Test.YtblicjipogbhmaaGreatDoorSe
import Derived.Test.YtblicjipogbhmaaGreatDoorTp
import Derived.Test.YtblicjipogbhmaaGreatDoorSc
namespace Go.Abs.W
def jC (f g:Nat->Rat)(k:Nat):Rat:=jr (fun i=>f i*g (k-i)) k
theorem US {f a g g':Nat->Rat}{k:Nat}(h:∀i,i<=k->f i=a i)(b:∀i,i<=k->g i=g' i):jC f g k=jC a g' k:=
 q5b _ fun i hi=>by rw[h i hi,b (k-i) (by omega)]
def kq (k:Nat):Rat:=(((k:Int)+1:Int):Rat)
theorem DV {b:Type}(F:Nat->(Nat->b)->b)(z:b)(hF:∀k f g,(∀i,i<k->f i=g i)->F k f=F k g):∃d:Nat->b,∀k,d k=F k d:=by
 let a:Nat->Nat->b:=fun n=>n.rec (fun _=>z) (fun n g i=>if i=n then F n g else g i)
 have st:∀n i,i<n->a n i=a (i+1) i:=by
  intro n;induction n with
  |zero=>intro i h;omega
  |succ n e=>
   intro i h;rcases Vm i n with c|c
   ·show(if i=n then F n (a n)else a n i)=_;rw[Vk (by omega)];exact e i c
   ·have:i=n:=by omega
    subst this;rfl
 refine⟨fun i=>a (i+1) i,fun k=>?_⟩;show(if k=k then F k (a k)else a k k)=_;rw[Vh rfl];exact hF k _ _ fun i hi=>st k i hi
def pq (f:Nat->Rat):Nat->Rat
 |0=>0
 |n+1=>pq f n+f n
theorem zF {f g:Nat->Rat}:∀n,(∀i,i<n->f i=g i)->pq f n=pq g n
 |0,_=>rfl
 |n+1,h=>by rw[pq,pq,zF n fun i hi=>h i (by omega),h n (by omega)]
theorem BB {a:List Iv}(c:∀x ∈ a,x.W){k:Nat}{q:Rat}(h:(aK a k).In q):∃b:Nat->Rat,b k=q/\∀i,(aK a i).In (b i):=
 ⟨fun i=>if i=k then q else(aK a i).pick,Vh rfl,fun i=>by
  by_cases e:i=k
  ·subst e;show(aK a i).In (if i=i then q else _);rw[Vh rfl];exact h
  ·show(aK a i).In (if i=k then q else _);rw[Vk e];exact L1 (bh c)⟩
theorem vH {d:Dy}{p:Int}:(jc d p).Gd:=by
 unfold jc;split
 ·exact .inr QS
 ·exact TQ aH
theorem Tu {x:Iv}{p:Int}(w:x.W):(x.log p).Gd/\∀q,x.In q->(x.log p).HasLog q:=by
 by_cases h:(x.known&&af p&&decide (0<x.lo.sgn))=true
 ·have e:x.log p=bM (jc x.lo p) (jc x.hi p):=by unfold Iv.log;rw[Vh h]
  simp only[VA,VT]at h;obtain⟨⟨k,v⟩,i⟩:=h;obtain⟨m,n⟩:=bg w k;have f:=bP w k;have r:0<x.hi.sgn:=(mK n).1.2 (by have:=(mK m).1.1 i;omega);have j:=xI (p:=p) m i;have l:=xI (p:=p) n r;rw[e];have o:∀{a b:Iv},(a.all ||b.all)=true->(bM a b).Gd/\∀q,x.In q->(bM a b).HasLog q:=fun{a b} h=>by
   have e:bM a b=Iv.whole:=by unfold bM;rw[Vh h]
   rw[e];exact⟨.inl rfl,fun q _ h=>absurd h tN⟩
  rcases vH (d:=x.lo) (p:=p)with g|g
  ·exact o (by rw[g];rfl)
  ·rcases vH (d:=x.hi) (p:=p)with c|c
   ·exact o (by rw[c];simp[Iv.whole])
   ·refine⟨.inr (q3z io io g c j l V2 (rat_le.2 f)).1,fun q s=>?_⟩;obtain⟨t,u⟩:=kA s k;exact(q3z io io g c j l t u).2
 ·have e:x.log p=Iv.whole:=by unfold Iv.log;rw[Vk h]
  rw[e];exact⟨.inl rfl,fun q _ h=>absurd h tN⟩
theorem tS {x:Iv}{q:Rat}(b:x.lo.rat<=q)(c:q<=x.hi.rat):x.In q:=fun _=>by
 have a:=Vj dK;rw[<-cL,<-cL];exact⟨Vq b a,Vq c a⟩
theorem xj {s:Iv}{p:Int}{f:Nat->Iv}{q:Nat->Rat}{r:Rat}(ws:s.W)(wf:∀i,(f i).W)(a:s.In r):∀n,(∀i,i<n->(f i).In (q i))->(cj s p f n).In (r+pq q n)
 |0,_=>by
  have e:r+pq q 0=r:=by show r+0=r;grind
  rw[e];exact a
 |n+1,h=>by
  have e:r+pq q (n+1)=r+pq q n+q n:=by rw[pq];grind
  rw[e,cj];exact iO (nN ws n) (wf n) (xj ws wf a n fun i hi=>h i (by omega)) (h n (by omega))
theorem md (m:Nat):(nI ((m+1:Nat):Int) ((m+1:Nat):Int)).In (kq m):=vL
theorem o8 {m:Nat}(h:m<=100000):(nI ((m+1:Nat):Int) ((m+1:Nat):Int)).W:=cD (by omega) (by omega)
theorem v6 {a o:List Iv}{p:Int}{m i:Nat}{x y:Rat}(d:∀x ∈ a,x.W)(e:∀x ∈ o,x.W)(hi:i<=100000)(b:(aK a (i+1)).In x)(c:(aK o (m-i)).In y):(bF a o p m i).In (kq i*x*y):=
 jO aD (bh e) (jO (o8 hi) (bh d) (md i) b) c
theorem Dt {l:List Iv}{x:Iv}{i:Nat}(h:i<l.length):aK (l++[x]) i=aK l i:=by simp[aK,Vr h]
theorem Du {l:List Iv}{x:Iv}{i:Nat}(h:l.length=i):aK (l++[x]) i=x:=by subst h;simp[aK]
theorem rM {a o:List Iv}{p:Int}{m:Nat}{b y:Nat->Rat}(g:∀x ∈ a,x.W)(h:∀x ∈ o,x.W)(c:m<=100000)(d:∀i,(aK a i).In (b i))(e:∀i,i<=m->(aK o i).In (y i)) :
 (fJ a o p m).In (jC (fun i=>kq i*b (i+1)) y m/kq m):=by
 have s:=zX (p:=p) (f:=bF a o p m) (q:=fun j=>kq j*b (j+1)*y (m-j)) (fun _=>dR) m fun j k=>v6 g h (by omega) (d (j+1)) (e (m-j) (by omega))
 exact jL (mU dR m) (o8 c) s (md m)
