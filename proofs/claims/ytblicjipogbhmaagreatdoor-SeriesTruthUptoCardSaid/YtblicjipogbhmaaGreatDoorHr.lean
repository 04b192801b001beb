import Derived.Test.YtblicjipogbhmaaGreatDoorHm
import Derived.Test.YtblicjipogbhmaaGreatDoorFh
import Derived.Test.YtblicjipogbhmaaGreatDoorFi
namespace Go.Abs.W
def ci : Nat:=32768
def dE : Nat:=2^ci
theorem Lg {neg:Bool}{n:Nat}{e:Int}(c:-16384<=e):(Dy.of neg n e).absN=n*2^(e+16384).toNat:=by
 by_cases h:n=0
 ·subst h;rw[WR];exact Dy.absN_nil rfl
 ·have a:n/2^tz n*2^tz n=n:=by have b:=(mE h).2.2;have:=WY n (2^tz n);omega
  unfold Dy.of Dy.absN;rw[Vk h,aP];rw[show(e+(tz n:Int)+16384).toNat=tz n+(e+16384).toNat by omega,Vs,<-Vt,a]
theorem pm {neg:Bool}{n:Nat}{e:Int}(b:-16384<=e):(Dy.of neg n e).val=if neg then -((n*2^(e+16384).toNat:Nat):Int)else((n*2^(e+16384).toNat:Nat):Int):=by
 have a:=Lg (neg:=neg) (n:=n) b;unfold Dy.val;rw[a];by_cases h:n=0
 ·subst h;simp
 ·have:(Dy.of neg n e).neg=neg:=by unfold Dy.of;rw[Vk h]
  rw[this]
theorem bitL_gt {n B:Nat}:B<ac n↔2^B<=n:=by
 constructor
 ·intro h;rcases Vm n (2^B)with a|a
  ·have:=gD a;omega
  ·exact a
 ·intro h;rcases Vm B (ac n)with a|a
  ·exact a
  ·have b:=eM n;have c:2^ac n<=2^B:=Vg (by omega) a;omega
def Gr (p g:Nat):Prop:=∃q k,g=q*2^k/\q<=2^p
theorem xQ {m p a K q k:Nat}(i:1<=p)(e:m≠0)(g:K=ac m-p)(d:a<K)(f:q<=2^p)(h:k+a<K):q*2^(k+a)<=2^(ac m-1)/\2^(ac m-1)<=m/\ac m-1=K+(p-1):=by
 refine⟨?_,(eF e).1,by omega⟩;have c:2^(k+a)<=2^(K-1):=Vg (by omega) (by omega);have b:q*2^(k+a)<=2^p*2^(K-1):=Wi f c;rw[<-Vs]at b;rwa[show p+(K-1)=ac m-1 by omega]at b
theorem TB {m p a K g:Nat}(n:1<=p)(r:K=max (ac m-p) a)(l:Gr p g):g*2^a<=m↔g*2^a<=m/2^K*2^K:=by
 refine⟨?_,fun h=>Vp h (WT _ _)⟩;obtain⟨q,k,rfl,o⟩:=l;have e:q*2^k*2^a=q*2^(k+a):=by rw[Vt,<-Vs]
 rw[e];intro h;by_cases s:K<=k+a
 ·have⟨c,j⟩:∃c,k+a=c+K:=⟨k+a-K,by omega⟩
  rw[j,Vs,<-Vt]at h ⊢;exact Vn _ ((Wq (Vl K)).2 h)
 ·by_cases d:m=0
  ·subst d;simpa using h
  ·obtain⟨f,i,b⟩:=xQ (q:=q) (k:=k) (K:=K) (a:=a) n d (by omega) (by omega) o (by omega);refine Vp f ?_;rw[b,Vs,VE];refine Vn _ ((Wq (Vl K)).2 ?_);rw[VE,<-Vs,<-b];exact i
theorem TC {m p a K g:Nat}{more:Bool}(u:1<=p)(y:K=max (ac m-p) a)(s:Gr p g)(j:m=0->more=false) :
 m+(if more=true then 1 else 0)<=g*2^a↔(m/2^K+(if(more ||decide (m%2^K≠0))=true then 1 else 0))*2^K<=g*2^a:=by
 have r:=Wy m (2^K);have t:=WG m (Vl K);have f:=Vl K;constructor
 ·obtain⟨q,k,rfl,v⟩:=s;have e:q*2^k*2^a=q*2^(k+a):=by rw[Vt,<-Vs]
  rw[e];intro h;have b:∀c,q*2^(k+a)=c*2^K->(m/2^K+(if(more ||decide (m%2^K≠0))=true then 1 else 0))*2^K<=q*2^(k+a):=by
   intro c o;rw[o]at h ⊢;refine Vn _ ?_;by_cases d:(more ||decide (m%2^K≠0))=true
   ·rw[Vh d];have:m<c*2^K:=by
     cases more
     ·simp at d h;rcases Vm m (c*2^K)with i|i
      ·exact i
      ·have:m=c*2^K:=by omega
       rw[this,Yb]at d;omega
     ·simp at h;omega
    have:=(VW f).2 this;omega
   ·rw[Vk d];have i:m<=c*2^K:=by omega
    have:=Nat.div_le_div_right (c:=2^K) i;rw[Yn _ f]at this;omega
  by_cases z:K<=k+a
  ·exact b (q*2^(k+a-K)) (by rw[Vt,<-Vs];congr 2;omega)
  ·by_cases l:m=0
   ·subst l;rw[j rfl];simp
   ·obtain⟨i,x,n⟩:=xQ (q:=q) (k:=k) (K:=K) (a:=a) u l (by omega) (by omega) v (by omega);have w:2^(ac m-1)=2^(p-1)*2^K:=by rw[n,XP,Vs]
    exact b (2^(p-1)) (by omega)
 ·intro h;refine Vp ?_ h;by_cases d:(more ||decide (m%2^K≠0))=true
  ·rw[Vh d,VI,WH,VE];split<;>omega
  ·rw[Vk d];simp at d;rw[d.1,VE];simp;omega
def jh (p g:Nat):Prop:=Gr p g/\g<dE
theorem zl {p:Nat}(a:p<=512):dE=2^p*2^(ci-p):=by
 unfold dE;rw[<-Vs]
 congr 1
 unfold ci;omega
def mf (p:Nat):Nat:=(2^p-1)*2^(ci-p)
theorem K4 {p:Nat}(a:p<=512):mf p<dE:=by
 rw[zl a];exact V7 (by have:=Vl p;omega) (Vl _)
theorem Pm {p:Nat}(a:p<=512):jh p (mf p):=⟨⟨2^p-1,ci-p,rfl,Xq _ _⟩,K4 a⟩
theorem M6 {p g:Nat}(l:1<=p)(i:p<=512)(h:jh p g):g<=mf p:=by
 obtain⟨⟨q,k,rfl,j⟩,a⟩:=h;rw[zl i]at a;unfold mf;generalize m:ci-p=S at *
 have d:2^p=2*2^(p-1):=by
  rw[<-aaK];congr 1;omega
 by_cases n:S<=k
 ·obtain⟨c,rfl⟩:∃c,k=c+S:=⟨k-S,by omega⟩
  rw[Vs,<-Vt]at a ⊢;have:=Xv a;exact Vn _ (by omega)
 ·have b:2^S=2*2^(S-1):=by
   rw[<-aaK];congr 1;omega
  have e:q*2^k<=2^p*2^(S-1):=Wi j (Vg (by omega) (by omega));refine Vp e ?_;have f:2^p*2^(S-1)=2^(p-1)*2^S:=by
   rw[d,b,VE 2,Vt]
  rw[f];refine Vn _ ?_;have:=Vl (p-1);omega
theorem tV {n s:Nat}(h:n≠0):ac (n*2^s)=ac n+s:=by
 have:=kg (m:=n) (j:=s) (r:=0) h (Vl s);rwa[VF]at this
theorem qd {m p a:Nat}{e:Int}(b:e=-16384-a):a8 m e p=max (ac m-p) a:=by unfold a8;omega
theorem zx {Q s a K:Nat}{e:Int}(c:e=-16384-a)(d:K=s+a):(Q≠0/\(16384:Int)<ac Q+(e+K))↔dE<=Q*2^s:=by
 constructor
 ·rintro⟨b,h⟩;exact bitL_gt.1 (by rw[tV b];unfold ci;omega)
 ·intro h;have b:Q≠0:=by
   rintro rfl;rw[WR]at h;have:=Vl ci;unfold dE at h;omega
  have:=bitL_gt.2 h;rw[tV b]at this;unfold ci at this;exact⟨b,by omega⟩
theorem xx {m p a:Nat}{e:Int}{more neg up:Bool}(f:1<=p)(g:p<=512)(k:e=-16384-a)(u:(neg != up)=false) :
 ∃D,jh p D/\(aN neg m e more p up).2=0/\(aN neg m e more p up).1.val=(if neg then -(D:Int)else D)/\∀h,jh p h->(h<=D↔h*2^a<=m):=by
 have⟨K,i⟩:∃K,K=max (ac m-p) a:=⟨_,rfl⟩
 have c:a8 m e p=K:=by rw[i];exact qd k
 have⟨s,n⟩:∃s,K=s+a:=⟨K-a,by omega⟩
 have l:be m e more p false=m/2^K:=by simp[be,c]
 have d:=su (m:=m) (e:=e) (more:=more) (p:=p) (out:=false);rw[l]at d;have q:e+(K:Int)=-16384+s:=by omega
 have r:(-16384+(s:Int)+16384).toNat=s:=by omega
 have gd:∀h,Gr p h->(h*2^a<=m↔h<=m/2^K*2^s):=by
  intro h b;rw[TB f i b,n,Vs,<-Vt,<-Vs];exact⟨fun h=>Xw h (Vl a),fun h=>Vn _ h⟩
 have o:=zx (Q:=m/2^K) (s:=s) k n;unfold aN;rw[u,l,c];by_cases j:dE<=m/2^K*2^s
 ·rw[Vh (o.2 j)];refine⟨mf p,Pm g,rfl,?_,fun h b=>?_⟩
  ·have:(16384-(p:Int)+16384).toNat=ci-p:=by unfold ci;omega
   simp only[V8,Vv];rw[pm (by omega),this];rfl
  ·have t:=M6 f g b;have:=b.2;exact⟨fun _=>(gd h b.1).2 (by omega),fun _=>t⟩
 ·rw[Vk (fun h=>j (o.1 h))];refine⟨m/2^K*2^s,⟨⟨_,_,rfl,d⟩,by omega⟩,rfl,?_,fun h b=>(gd h b.1).symm⟩;rw[q,pm (by omega),r]
theorem yY {m p a:Nat}{e:Int}{more neg up:Bool}(t:1<=p)(_h2:p<=512)(k:e=-16384-a)(u:(neg != up)=true)(f:m=0->more=false) :
 (∃D,jh p D/\(aN neg m e more p up).2=0/\(aN neg m e more p up).1.val=(if neg then -(D:Int)else D)/\∀h,jh p h->(D<=h↔m+(if more=true then 1 else 0)<=h*2^a)) \/
 ((aN neg m e more p up).2≠0/\∀h,jh p h->¬m+(if more=true then 1 else 0)<=h*2^a):=by
 have⟨K,g⟩:∃K,K=max (ac m-p) a:=⟨_,rfl⟩
 have d:a8 m e p=K:=by rw[g];exact qd k
 have⟨s,n⟩:∃s,K=s+a:=⟨K-a,by omega⟩
 have⟨Q,i⟩:∃Q,Q=m/2^K+(if(more ||decide (m%2^K≠0))=true then 1 else 0):=⟨_,rfl⟩
 have l:be m e more p true=Q:=by simp only[be,d,i,Bool.and_true]
 have b:=su (m:=m) (e:=e) (more:=more) (p:=p) (out:=true);rw[l]at b;have q:e+(K:Int)=-16384+s:=by omega
 have r:(-16384+(s:Int)+16384).toNat=s:=by omega
 have gd:∀h,Gr p h->(m+(if more=true then 1 else 0)<=h*2^a↔Q*2^s<=h):=by
  intro h c;rw[TC t g c f,<-i,n,Vs,<-Vt];exact⟨fun h=>Xw h (Vl a),fun h=>Vn _ h⟩
 have o:=zx (Q:=Q) (s:=s) k n;unfold aN;rw[u,l,d];by_cases j:dE<=Q*2^s
 ·rw[Vh (o.2 j)];refine .inr ⟨by simp,fun h c b=>?_⟩;have:=(gd h c.1).1 b;have:=c.2;omega
 ·rw[Vk (fun h=>j (o.1 h))];refine .inl ⟨Q*2^s,⟨⟨_,_,rfl,b⟩,by omega⟩,rfl,?_,fun h c=>(gd h c.1).symm⟩;rw[q,pm (by omega),r]
def aE (p:Nat)(g:Int):Prop:=jh p g.natAbs
def IsDn (p:Nat)(r:Dy × Int)(le:Int->Prop):Prop:=(r.2=0/\aE p r.1.val/\∀g,aE p g->(g<=r.1.val↔le g))\/(r.2≠0/\∀g,aE p g->¬le g)
def IsUp (p:Nat)(r:Dy × Int)(ge:Int->Prop):Prop:=(r.2=0/\aE p r.1.val/\∀g,aE p g->(r.1.val<=g↔ge g))\/(r.2≠0/\∀g,aE p g->¬ge g)
theorem IsDn.congr {p:Nat}{r:Dy × Int}{le a:Int->Prop}(h:IsDn p r le)(e:∀g,le g↔a g):IsDn p r a:=by
 rcases h with ⟨b,c,f⟩|⟨b,c⟩
 ·exact .inl ⟨b,c,fun g d=>(f g d).trans (e g)⟩
 ·exact .inr ⟨b,fun g d h=>c g d ((e g).2 h)⟩
theorem IsUp.congr {p:Nat}{r:Dy × Int}{le a:Int->Prop}(h:IsUp p r le)(e:∀g,le g↔a g):IsUp p r a:=by
 rcases h with ⟨b,c,f⟩|⟨b,c⟩
 ·exact .inl ⟨b,c,fun g d=>(f g d).trans (e g)⟩
 ·exact .inr ⟨b,fun g d h=>c g d ((e g).2 h)⟩
theorem IsDn.mono {p:Nat}{r s:Dy × Int}{le d:Int->Prop}(h:IsDn p r le)(i:IsDn p s d)(e:∀g,le g->d g)(f:r.2=0):s.2=0/\r.1.val<=s.1.val:=by
 rcases h with ⟨_,b,c⟩|⟨a,_⟩
 ·have:=e _ ((c _ b).1 (VL _));rcases i with ⟨x,y,z⟩|⟨x,y⟩
  ·exact⟨x,(z _ b).2 this⟩
  ·exact absurd this (y _ b)
 ·exact absurd f a
theorem IsUp.mono {p:Nat}{r s:Dy × Int}{ge d:Int->Prop}(h:IsUp p r ge)(i:IsUp p s d)(e:∀g,d g->ge g)(f:s.2=0):r.2=0/\r.1.val<=s.1.val:=by
 rcases i with ⟨_,b,c⟩|⟨a,_⟩
 ·have:=e _ ((c _ b).1 (VL _));rcases h with ⟨x,y,z⟩|⟨x,y⟩
  ·exact⟨x,(z _ b).2 this⟩
  ·exact absurd this (y _ b)
 ·exact absurd f a
def pw (a:Nat):Int:=((2^a:Nat):Int)
theorem bf (a:Nat):0<pw a:=by unfold pw;have:=Vl a;omega
theorem bK (a b:Nat):pw (a+b)=pw a*pw b:=by unfold pw;rw[Vs];simp
theorem ec (n a:Nat):(n:Int)*pw a=((n*2^a:Nat):Int):=by unfold pw;simp
theorem qR {p:Nat}:aE p 0:=⟨⟨0,0,by simp,Xa _⟩,Vl _⟩
theorem rj {m p a:Nat}{e:Int}{more neg:Bool}(k:1<=p)(l:p<=512)(o:e=-16384-a)(j:m=0->more=false) :
 IsDn p (aN neg m e more p false) (fun g=>g*pw a<=if neg then -((m:Int)+(if more=true then 1 else 0:Nat))else m):=by
 cases neg
 ·obtain⟨D,i,z,hv,d⟩:=xx (m:=m) (more:=more) (neg:=false) (up:=false) k l o rfl;simp at hv;refine .inl ⟨z,by rw[hv];simpa[aE]using i,fun g f=>?_⟩;rw[hv];dsimp only;generalize (if more=true then 1 else 0:Nat)=c at *
  obtain⟨n,rfl|rfl⟩:=g.eq_nat_or_neg
  ·have:=d n (by simpa[aE]using f);rw[ec];simp only[V8,Vv];omega
  ·rw[V9,ec];simp only[V8,Vv];omega
 ·rcases yY (m:=m) (more:=more) (neg:=true) (up:=false) k l o rfl j with ⟨D,i,z,hv,d⟩|⟨z,d⟩
  ·simp at hv;refine .inl ⟨z,by rw[hv];simpa[aE]using i,fun g f=>?_⟩;rw[hv];dsimp only;generalize (if more=true then 1 else 0:Nat)=c at *
   obtain⟨n,rfl|rfl⟩:=g.eq_nat_or_neg
   ·have:=d n (by simpa[aE]using f);have h:=d 0 qR;rw[ec];have r:=Vl a;simp only[Wm];rcases Wu n with rfl|q
    ·rw[WR]at h ⊢;omega
    ·have:0<n*2^a:=Xj q r;omega
   ·have:=d n (by simpa[aE]using f);rw[V9,ec];simp only[Wm];omega
  ·refine .inr ⟨z,fun g f b=>?_⟩;dsimp only at b;generalize (if more=true then 1 else 0:Nat)=c at *
   obtain⟨n,rfl|rfl⟩:=g.eq_nat_or_neg
   ·have h:=d 0 qR;rw[ec]at b;simp only[Wm]at b;rw[WR]at h;omega
   ·have:=d n (by simpa[aE]using f);rw[V9,ec]at b;simp only[Wm]at b;omega
theorem ru {m p a:Nat}{e:Int}{more neg:Bool}(k:1<=p)(l:p<=512)(o:e=-16384-a)(j:m=0->more=false) :
 IsUp p (aN neg m e more p true) (fun g=>(if neg then -(m:Int)else(m:Int)+(if more=true then 1 else 0:Nat))<=g*pw a):=by
 cases neg
 ·rcases yY (m:=m) (more:=more) (neg:=false) (up:=true) k l o rfl j with ⟨D,i,z,hv,d⟩|⟨z,d⟩
  ·simp at hv;refine .inl ⟨z,by rw[hv];simpa[aE]using i,fun g f=>?_⟩;rw[hv];dsimp only;generalize (if more=true then 1 else 0:Nat)=c at *
   obtain⟨n,rfl|rfl⟩:=g.eq_nat_or_neg
   ·have:=d n (by simpa[aE]using f);rw[ec];simp only[V8,Vv];omega
   ·have h:=d 0 qR;rw[V9,ec];have r:=Vl a;simp only[V8,Vv];rcases Wu n with rfl|q
    ·rw[WR]at h ⊢;omega
    ·have:0<n*2^a:=Xj q r;omega
  ·refine .inr ⟨z,fun g f b=>?_⟩;dsimp only at b;generalize (if more=true then 1 else 0:Nat)=c at *
   obtain⟨n,rfl|rfl⟩:=g.eq_nat_or_neg
   ·have:=d n (by simpa[aE]using f);rw[ec]at b;simp only[V8,Vv]at b;omega
   ·have h:=d 0 qR;rw[V9,ec]at b;simp only[V8,Vv]at b;rw[WR]at h;omega
 ·obtain⟨D,i,z,hv,d⟩:=xx (m:=m) (more:=more) (neg:=true) (up:=true) k l o rfl;simp at hv;refine .inl ⟨z,by rw[hv];simpa[aE]using i,fun g f=>?_⟩;rw[hv];dsimp only;generalize (if more=true then 1 else 0:Nat)=c at *
  obtain⟨n,rfl|rfl⟩:=g.eq_nat_or_neg
  ·rw[ec];simp only[Wm];omega
  ·have:=d n (by simpa[aE]using f);rw[V9,ec];simp only[Wm];omega
theorem ed {x y c:Int}(h:0<c):x*c<=y*c↔x<=y:=Int.mul_le_mul_iff_of_pos_right h
theorem Ar {neg up:Bool}{m p j:Nat}{e:Int}:aN neg (m*2^j) (e-j) false p up=aN neg m e false p up:=by
 by_cases h:m=0
 ·subst h;rw[WR,nj,nj]
 ·have:=pY (neg:=neg) (m:=m) (e:=e) (more:=false) (more2:=false) (p:=p) (up:=up) (j:=j) (r:=0) h (Vl j) (by simp) (by simp);rwa[VF]at this
theorem xg {m p:Nat}{e:Int}{neg:Bool}(b:1<=p)(c:p<=512) :
 IsDn p (aN neg m e false p false) (fun g=>g*pw (-16384-e).toNat<=(if neg then -(m:Int)else m)*pw (e+16384).toNat):=by
 have⟨j,f⟩:∃j,j=(e+16384).toNat:=⟨_,rfl⟩
 have⟨a,d⟩:∃a,a=(-16384-e).toNat:=⟨_,rfl⟩
 have:=rj (m:=m*2^j) (a:=a) (e:=e-j) (more:=false) (neg:=neg) b c (by omega) (fun _=>rfl);rw[Ar]at this;rw[<-f,<-d];refine this.congr fun g=>?_
 cases neg
 ·simp only[V8,Vv];rw[ec m j]
 ·simp only[Wm,V8,Vv];rw[V9,ec m j];simp
theorem xB {m p:Nat}{e:Int}{neg:Bool}(b:1<=p)(c:p<=512) :
 IsUp p (aN neg m e false p true) (fun g=>(if neg then -(m:Int)else m)*pw (e+16384).toNat<=g*pw (-16384-e).toNat):=by
 have⟨j,f⟩:∃j,j=(e+16384).toNat:=⟨_,rfl⟩
 have⟨a,d⟩:∃a,a=(-16384-e).toNat:=⟨_,rfl⟩
 have:=ru (m:=m*2^j) (a:=a) (e:=e-j) (more:=false) (neg:=neg) b c (by omega) (fun _=>rfl);rw[Ar]at this;rw[<-f,<-d];refine this.congr fun g=>?_
 cases neg
 ·simp only[V8,Vv];rw[ec m j];simp
 ·simp only[Wm,V8,Vv];rw[V9,ec m j]
theorem oD {d:Dy}:d.val=(if d.neg then -(aa d.m:Int)else aa d.m)*pw (d.e+16384).toNat:=by
 unfold Dy.val Dy.absN;cases d.neg
 ·simp only[V8,Vv];rw[ec]
 ·simp only[Wm];rw[V9,ec]
theorem xY : pw 0=1:=rfl
theorem ZU {d:Dy}{p:Nat}(a:1<=p)(b:p<=512)(c:-16384<=d.e):IsDn p (aN d.neg (aa d.m) d.e false p false) (fun g=>g<=d.val):=by
 refine(xg a b).congr fun g=>?_
 rw[oD,show(-16384-d.e).toNat=0 by omega,xY,Int.mul_one]
theorem ZV {d:Dy}{p:Nat}(a:1<=p)(b:p<=512)(c:-16384<=d.e):IsUp p (aN d.neg (aa d.m) d.e false p true) (fun g=>d.val<=g):=by
 refine(xB a b).congr fun g=>?_
 rw[oD,show(-16384-d.e).toNat=0 by omega,xY,Int.mul_one]
theorem mN {l:List Dy}{p:Int}(h:∀d ∈ l,d.Ok)(b:af p=true):d5 l p=0:=by
 have:l.all Dy.valid=true:=VU.2 fun d a=>(h d a).valid
 simp[d5,this,b]
theorem precB_iff {p:Int}:af p=true↔8<=p/\p<=512:=by simp[af]
theorem qT {d:Dy}{p:Int}(ok:d.Ok)(a:af p=true):IsDn p.toNat (fj d p false) (fun g=>g<=d.val):=by
 have h:=precB_iff.1 a;unfold fj;rw[Vh (mN (by simpa using ok) a)];exact ZU (by omega) (by omega) ok.elo
theorem qU {d:Dy}{p:Int}(ok:d.Ok)(a:af p=true):IsUp p.toNat (fj d p true) (fun g=>d.val<=g):=by
 have h:=precB_iff.1 a;unfold fj;rw[Vh (mN (by simpa using ok) a)];exact ZV (by omega) (by omega) ok.elo
theorem zY {d:Dy}{e:Int}(a:-16384<=e)(b:e<=d.e):d.absN=a7 d e*2^(e+16384).toNat:=ub a b
theorem yr {a b:Dy}(s:a.Ok)(t:b.Ok):(a.sum b).val=a.val+b.val/\-16384<=(a.sum b).e:=by
 have v:a.m=[]->a.val=0:=fun h=>by
  have:=Dy.absN_nil h;unfold Dy.val;rw[this];simp
 have w:b.m=[]->b.val=0:=fun h=>by
  have:=Dy.absN_nil h;unfold Dy.val;rw[this];simp
 unfold Dy.sum;by_cases j:a.m=[]
 ·rw[Vh j,v j];exact⟨by omega,t.elo⟩
 ·rw[Vk j];by_cases l:b.m=[]
  ·rw[Vh l,w l];exact⟨by omega,s.elo⟩
  ·rw[Vk l];have⟨e,u⟩:∃e,e=min a.e b.e:=⟨_,rfl⟩
   have x:=s.elo;have y:=t.elo;have m:=zY (d:=a) (e:=e) (by omega) (by omega);have o:=zY (d:=b) (e:=e) (by omega) (by omega);simp only[<-u];have elo:∀(neg:Bool) (n:Nat),-16384<=(Dy.of neg n e).e:=by
    intro neg n;unfold Dy.of;split
    ·simp
    ·simp only;omega
   have r:=fun(neg:Bool) (n:Nat)=>pm (neg:=neg) (n:=n) (e:=e) (by omega)
   generalize a7 a e=X at *
   generalize a7 b e=Y at *
   generalize (e+16384).toNat=k at *
   have p:a.val=if a.neg then -((X*2^k:Nat):Int)else((X*2^k:Nat):Int):=by unfold Dy.val;rw[m]
   have q:b.val=if b.neg then -((Y*2^k:Nat):Int)else((Y*2^k:Nat):Int):=by unfold Dy.val;rw[o]
   by_cases c:a.neg=b.neg
   ·rw[Vh c];refine⟨?_,elo _ _⟩;rw[r,p,q,<-c,VI];cases a.neg
    ·simp only[V8,Vv];omega
    ·simp only[Wm];omega
   ·rw[Vk c];by_cases f:Y<=X
    ·rw[Vh f];refine⟨?_,elo _ _⟩;have:=Vn (2^k) f;rw[r,p,q,X4];cases g:a.neg<;>cases i:b.neg
     ·rw[g,i]at c;exact absurd rfl c
     ·simp only[Wm,V8,Vv];omega
     ·simp only[Wm,V8,Vv];omega
     ·rw[g,i]at c;exact absurd rfl c
    ·rw[Vk f];refine⟨?_,elo _ _⟩;have:=Vn (2^k) (Nat.le_of_not_le f);rw[r,p,q,X4];cases g:a.neg<;>cases i:b.neg
     ·rw[g,i]at c;exact absurd rfl c
     ·simp only[Wm,V8,Vv];omega
     ·simp only[Wm,V8,Vv];omega
     ·rw[g,i]at c;exact absurd rfl c
theorem pH {a b:Dy}{p:Int}(d:a.Ok)(e:b.Ok)(c:af p=true):IsDn p.toNat (aV a b p false) (fun g=>g<=a.val+b.val):=by
 have h:=precB_iff.1 c;obtain⟨f,i⟩:=yr d e;unfold aV;rw[Vh (mN (by simp[d,e]) c),<-f];exact ZU (by omega) (by omega) i
theorem mJ {a b:Dy}{p:Int}(d:a.Ok)(e:b.Ok)(c:af p=true):IsUp p.toNat (aV a b p true) (fun g=>a.val+b.val<=g):=by
 have h:=precB_iff.1 c;obtain⟨f,i⟩:=yr d e;unfold aV;rw[Vh (mN (by simp[d,e]) c),<-f];exact ZV (by omega) (by omega) i
theorem x7 {a b:Dy}(f:a.Ok)(g:b.Ok):∃c,(-16384-(a.e+b.e)).toNat+c=16384/\a.val*b.val=((if(a.neg != b.neg)=true then -((aa a.m*aa b.m:Nat):Int)else((aa a.m*aa b.m:Nat):Int))*pw (a.e+b.e+16384).toNat)*pw c:=by
 have h:=f.elo;have i:=g.elo;refine⟨16384-(-16384-(a.e+b.e)).toNat,by omega,?_⟩;rw[WD,<-bK,oD,oD];have d:(a.e+b.e+16384).toNat+(16384-(-16384-(a.e+b.e)).toNat)=(a.e+16384).toNat+(b.e+16384).toNat:=by omega
 rw[d,bK];generalize pw (a.e+16384).toNat=P;generalize pw (b.e+16384).toNat=Q;have e:((aa a.m*aa b.m:Nat):Int)=(aa a.m:Int)*(aa b.m:Int):=by simp
 rw[e];generalize (aa a.m:Int)=A;generalize (aa b.m:Int)=B;cases a.neg<;>cases b.neg<;>simp only[Wm,V8,Vv,aad,abz,abr,aac]<;>grind
theorem m0 {a b:Dy}{p:Int}(e:a.Ok)(f:b.Ok)(d:af p=true):IsDn p.toNat (aM a b p false) (fun g=>g*pw 16384<=a.val*b.val):=by
 have h:=precB_iff.1 d;obtain⟨c,i,hv⟩:=x7 e f;unfold aM;rw[Vh (mN (by simp[e,f]) d)];refine(xg (by omega) (by omega)).congr fun g=>?_
 rw[hv,<-i,bK,<-WD,ed (bf c)]
theorem nc {a b:Dy}{p:Int}(e:a.Ok)(f:b.Ok)(d:af p=true):IsUp p.toNat (aM a b p true) (fun g=>a.val*b.val<=g*pw 16384):=by
 have h:=precB_iff.1 d;obtain⟨c,i,hv⟩:=x7 e f;unfold aM;rw[Vh (mN (by simp[e,f]) d)];refine(xB (by omega) (by omega)).congr fun g=>?_
 rw[hv,<-i,bK,<-WD,ed (bf c)]
theorem IsDn.ok0 {p:Nat}{r:Dy × Int}{le:Int->Prop}(h:IsDn p r le){g:Int}(c:aE p g)(d:le g):r.2=0:=by
 rcases h with ⟨a,_⟩|⟨_,b⟩
 ·exact a
 ·exact absurd d (b g c)
theorem tZ {a b c d:Int}(h:0<=a)(e:a<=b)(f:0<=c)(g:c<=d):a*c<=b*d:=XM e g f (by omega)
theorem AF {x:Iv}(w:x.W)(c:x.known=true):0<=x.abs.lo.val/\x.abs.lo.val<=x.abs.hi.val:=by
 obtain⟨a,b⟩:=bg w c;have f:=mY a;have g:=mY b;have e:=kD (fG a) (fG b);have d:=mH (fG a) (fG b);unfold Iv.abs;rw[Vh c];show 0<=x.mig.val/\x.mig.val<=x.mag.val;unfold Iv.mag Iv.mig;rw[e];split
 ·rw[ni];omega
 ·rw[d];omega
theorem Ra {y:Iv}{p:Int}(f:y.lo.Ok)(m:y.hi.Ok)(t:af p=true)(k:0<=y.lo.val)(c:y.lo.val<=y.hi.val) :
 Iv.four (fun a b=>aM a b p false) (fun a b=>aM a b p true) y y=Iv.made (aM y.lo y.lo p false) (aM y.hi y.hi p true):=by
 have n:=fun{a b:Dy} (r:a.Ok) (s:b.Ok)=>m0 r s t
 have o:=fun{a b:Dy} (r:a.Ok) (s:b.Ok)=>nc r s t
 have E:=tZ k (VL _) k c;have p2:=tZ k c k (VL _);have F:=tZ k c k c;have G:=tZ k c (aaw k c) (VL y.hi.val);have H:=tZ (aaw k c) (VL y.hi.val) k c;have D:=tZ (VL 0) k (VL 0) k;have z:(aM y.lo y.lo p false).2=0:=(n f f).ok0 qR (by omega);have u:=(n f f).mono (n f m) (fun g q=>by omega) z;have v:=(n f f).mono (n m f) (fun g q=>by omega) z;have w:=(n f f).mono (n m m) (fun g q=>by omega) z;have d:=fun{a b:Dy} {up:Bool}=>rMul_ok (a:=a) (b:=b) (p:=p) (up:=up)
 by_cases e:(aM y.hi y.hi p true).2=0
 ·have x:=(o f m).mono (o m m) (fun g q=>by omega) e;have A:=(o m f).mono (o m m) (fun g q=>by omega) e;have B:=(o f f).mono (o m m) (fun g q=>by omega) e;rw[kI]
  ·unfold Iv.made;rw[Vh ⟨z,e⟩];have l:cS (fun a b=>aM a b p false) (aO y y) 4=(aM y.lo y.lo p false).1:=by
    refine qF (iD (fun _ _=>d) 4) d ?_;rw[kL,Vk (by omega),mH (iD (fun _ _=>d) 3) d,kL,Vk (by omega),mH (iD (fun _ _=>d) 2) d,kL,Vk (by omega),mH (iD (fun _ _=>d) 1) d,kL,Vh rfl];show min (min (min (aM y.lo y.lo p false).1.val (aM y.lo y.hi p false).1.val) (aM y.hi y.lo p false).1.val) (aM y.hi y.hi p false).1.val=_;omega
   have h:cT (fun a b=>aM a b p true) (aO y y) 4=(aM y.hi y.hi p true).1:=by
    refine qF (iC (fun _ _=>d) 4) d ?_;rw[kK,Vk (by omega),kD (iC (fun _ _=>d) 3) d,kK,Vk (by omega),kD (iC (fun _ _=>d) 2) d,kK,Vk (by omega),kD (iC (fun _ _=>d) 1) d,kK,Vh rfl];show max (max (max (aM y.lo y.lo p true).1.val (aM y.lo y.hi p true).1.val) (aM y.hi y.lo p true).1.val) (aM y.hi y.hi p true).1.val=_;omega
   rw[l,h]
  ·intro j C;obtain rfl|rfl|rfl|rfl:j=0\/j=1\/j=2\/j=3:=by omega
   ·exact⟨z,B.1⟩
   ·exact⟨u.1,x.1⟩
   ·exact⟨v.1,A.1⟩
   ·exact⟨w.1,e⟩
 ·rw[Cd (i:=3) (by omega) (.inr e)];unfold Iv.made;rw[Vk (fun h=>e h.2)]
theorem oy {x:Iv}{p:Int}(w:x.W):x.sq p=x.abs.mul x.abs p:=by
 cases a:x.known
 ·have:x.abs=Iv.whole:=by unfold Iv.abs;rw[a];rfl
  unfold Iv.sq Iv.mul;rw[this];rw[show Iv.whole.known=false from rfl,show Iv.whole.all=true from rfl];simp
 ·have⟨b,c⟩:x.abs.lo.Ok/\x.abs.hi.Ok:=by unfold Iv.abs;rw[Vh a];exact⟨rC w a,jM w a⟩
  obtain⟨g,e⟩:=AF w a;have d:x.abs.all=false:=by unfold Iv.abs;rw[Vh a]
  have hv:x.abs.known=true:=by
   have:x.abs.lo.cmp x.abs.hi<=0:=by rw[gB b c,jw];exact e
   simp[Iv.known,Iv.valid,d,b.valid,c.valid,this]
  unfold Iv.sq Iv.mul;rw[d,hv];cases f:af p
  ·rfl
  ·rw[Vh (by rfl),Vh (by rfl),Ra b c f g e]
