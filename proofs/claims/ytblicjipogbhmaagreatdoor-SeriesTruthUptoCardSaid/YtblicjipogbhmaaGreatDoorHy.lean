import Derived.Test.YtblicjipogbhmaaGreatDoorHr
import Derived.Test.YtblicjipogbhmaaGreatDoorHp
namespace Go.Abs.W
theorem Aw {neg:Bool}{A B k p:Nat}{E:Int}{up:Bool}(a:A≠0)(b:B≠0)(c:1<=p)(h:p+ac B<=ac A+k) :
 ∀j:Nat,aN neg (A*2^(k+j)/B) (E-(k+j:Nat)) (decide (A*2^(k+j)%B≠0)) p up=aN neg (A*2^k/B) (E-k) (decide (A*2^k%B≠0)) p up
 |0=>rfl
 |j+1=>by
  rw[<-Aw a b c h j];exact Un (k:=k+j) a b c (by omega)
theorem xb {X B:Nat}{G:Int}(d:0<B):((X/B:Nat):Int)+((if decide (X%B≠0)=true then 1 else 0:Nat):Int)<=G↔(X:Int)<=G*(B:Int):=by
 have e:=Wy X B;have l:=WG X d;generalize X/B=M at *
 generalize X%B=r at *
 have f:(X:Int)=(M:Int)*(B:Int)+r:=by rw[<-e];simp[XH]
 have a:(0:Int)<B:=by omega
 constructor
 ·intro h;by_cases b:r=0
  ·subst b;have:(M:Int)<=G:=by simpa using h
   have:=VB this (Vu a);omega
  ·have:(M:Int)+1<=G:=by simpa[b]using h
   have:=VB this (Vu a);rw[X5,WN]at this;omega
 ·intro h;by_cases b:r=0
  ·subst b;have:(M:Int)*B<=G*B:=by omega
   have:=(ed a).1 this;simpa using this
  ·have c:(M:Int)*B<G*B:=by omega
   have:=X6 c (Vu a);simp[b];omega
theorem yZ {X B:Nat}{G:Int}(a:0<B):G<=((X/B:Nat):Int)↔G*(B:Int)<=(X:Int):=by
 have e:((X/B:Nat):Int)=(X:Int)/(B:Int):=by simp
 rw[e];exact XS (by omega)
def bD (a b g:Int):Prop:=if 0<b then g*b<=a*pw 16384 else a*pw 16384<=g*b
def bE (a b g:Int):Prop:=if 0<b then a*pw 16384<=g*b else g*b<=a*pw 16384
theorem nl {a b g:Int}(h:0<b):bD a b g↔g*b<=a*pw 16384:=by unfold bD;rw[Vh h]
theorem tY {a b g:Int}(h:¬0<b):bD a b g↔a*pw 16384<=g*b:=by unfold bD;rw[Vk h]
theorem pV {a b g:Int}(h:0<b):bE a b g↔a*pw 16384<=g*b:=by unfold bE;rw[Vh h]
theorem tX {a b g:Int}(h:¬0<b):bE a b g↔g*b<=a*pw 16384:=by unfold bE;rw[Vk h]
theorem Au {A B:Int}{g:Int}{a' c b a:Nat}(h:c+a=b+16384+a'):g*pw a'*B<=A*pw c↔g*(B*pw a)<=A*pw b*pw 16384:=by
 have f:(g*pw a'*B)*pw a<=(A*pw c)*pw a↔g*pw a'*B<=A*pw c:=ed (bf a);have i:(g*(B*pw a))*pw a'<=(A*pw b*pw 16384)*pw a'↔g*(B*pw a)<=A*pw b*pw 16384:=ed (bf a');rw[<-f,<-i];have d:(A*pw c)*pw a=(A*pw b*pw 16384)*pw a':=by
  rw[WD,<-bK,h,bK,bK];simp only[WD]
 have e:(g*pw a'*B)*pw a=(g*(B*pw a))*pw a':=by
  generalize pw a'=P;generalize pw a=Q;grind
 rw[d,e]
theorem ZW {A B:Int}{g:Int}{a' c b a:Nat}(h:c+a=b+16384+a'):A*pw c<=g*pw a'*B↔A*pw b*pw 16384<=g*(B*pw a):=by
 have f:(A*pw c)*pw a<=(g*pw a'*B)*pw a↔A*pw c<=g*pw a'*B:=ed (bf a);have i:(A*pw b*pw 16384)*pw a'<=(g*(B*pw a))*pw a'↔A*pw b*pw 16384<=g*(B*pw a):=ed (bf a');rw[<-f,<-i];have d:(A*pw c)*pw a=(A*pw b*pw 16384)*pw a':=by
  rw[WD,<-bK,h,bK,bK];simp only[WD]
 have e:(g*pw a'*B)*pw a=(g*(B*pw a))*pw a':=by
  generalize pw a'=P;generalize pw a=Q;grind
 rw[d,e]
theorem B1 {d:Dy}(ok:d.Ok)(h:d.m≠[]):aa d.m≠0:=gf ok.tr h
theorem uN {d:Dy}(ok:d.Ok)(h:d.m≠[]):(0<d.val↔d.neg=false):=by
 have:=ok.absN_ne h;unfold Dy.val;cases d.neg
 ·simp only[V8,Vv,iff_true];omega
 ·simp only[Wm,reduceCtorEq,iff_false];omega
theorem DJ {d:Dy}:d.val=if d.neg then -((aa d.m:Int)*pw (d.e+16384).toNat)else(aa d.m:Int)*pw (d.e+16384).toNat:=by
 unfold Dy.val Dy.absN;rw[ec]
theorem Av {a b:Dy}{p:Int}{up:Bool}(f:a.Ok)(g:b.Ok)(q:af p=true)(m:a.m≠[])(n:b.m≠[]) :
 ∃e a':Nat,e+(b.e+16384).toNat=(a.e+16384).toNat+16384+a'/\aa a.m*2^e/aa b.m≠0 /\
  aT a b p up=aN (a.neg != b.neg) (aa a.m*2^e/aa b.m) (-16384-(a':Int)) (decide (aa a.m*2^e%aa b.m≠0)) p.toNat up:=by
 have h:=precB_iff.1 q;have i:=B1 f m;have l:=B1 g n;have t:=f.elo;have u:=g.elo;have o:p.toNat+ac (aa b.m)<=ac (aa a.m)+bI a b p 2:=by unfold bI;omega
 have⟨k,d⟩:∃k,k=bI a b p 2:=⟨_,rfl⟩
 rw[<-d]at o;have⟨j,v⟩:∃j,j=(a.e-b.e-k+16384).toNat:=⟨_,rfl⟩
 refine⟨k+j,(-16384-(a.e-b.e-k)).toNat,by omega,?_,?_⟩
 ·have:=U3 (k:=k+j) (c:=p.toNat) i l (by omega) (by omega);intro s;rw[s]at this;have:ac 0=0:=rfl;omega
 ·have r:=Aw (neg:=a.neg != b.neg) (up:=up) (E:=a.e-b.e) i l (show 1<=p.toNat by omega) o j;unfold aT;rw[Vh (mN (by simp[f,g]) q),Vk n,Vk m,<-d,<-r]
  congr 1
  omega
theorem qD {a b:Dy}{p:Int}(z:a.Ok)(i:b.Ok)(t:af p=true)(f:b.m≠[]):IsDn p.toNat (aT a b p false) (bD a.val b.val):=by
 have h:=precB_iff.1 t;by_cases q:a.m=[]
 ·have hz:aT a b p false=(Dy.zero,0):=by
   unfold aT;rw[Vh (mN (by simp[z,i]) t),Vk f,Vh q]
  have e:a.val=0:=by unfold Dy.val;rw[Dy.absN_nil q];simp
  rw[hz];have H:=uN i f;have m:b.val≠0:=by
   have:=i.absN_ne f;unfold Dy.val;split<;>omega
  refine .inl ⟨rfl,by rw[ni];exact qR,fun g _=>?_⟩;rw[ni,e];unfold bD;rw[WV];split
  ·rename_i n;have:=ed (x:=g) (y:=0) n;rw[WV]at this;exact this.symm
  ·have:=ed (x:=g) (y:=0) (c:=-b.val) (by omega);rw[WV,X7]at this;rw[<-this];omega
 ·obtain⟨o,u,l,s,D⟩:=Av (up:=false) z i t q f;have F:=B1 i f;rw[D];refine(rj (by omega) (by omega) rfl (fun C=>absurd C s)).congr fun g=>?_
  have j:=uN i f;have cl:=xb (X:=aa a.m*2^o) (B:=aa b.m) (G:=(-g)*pw u) (by omega);have A:=yZ (X:=aa a.m*2^o) (B:=aa b.m) (G:=g*pw u) (by omega);rw[<-ec,ZW l,V9]at cl;rw[<-ec,Au l]at A;have e:=DJ (d:=a);have k:=DJ (d:=b);generalize (if decide (aa a.m*2^o%aa b.m≠0)=true then 1 else 0:Nat)=c at *
  generalize aa a.m*2^o/aa b.m=M at *
  generalize (aa a.m:Int)*pw (a.e+16384).toNat=U at *
  generalize (aa b.m:Int)*pw (b.e+16384).toNat=V at *
  have E:(-g)*V=-(g*V):=V9 _ _;have v:g*(-V)=-(g*V):=X7 _ _;have w:(-U)*pw 16384=-(U*pw 16384):=V9 _ _;cases r:a.neg<;>cases m:b.neg<;>rw[r]at e<;>rw[m]at k j<;>simp only[Wm,V8,Vv,aad,abr,abz,aac,reduceCtorEq]at e k j ⊢
  ·rw[nl (j.2 trivial),e,k];omega
  ·rw[tY j.1,e,k,v];omega
  ·rw[nl (j.2 trivial),e,k,w];omega
  ·rw[tY j.1,e,k,v,w];omega
theorem qE {a b:Dy}{p:Int}(z:a.Ok)(i:b.Ok)(t:af p=true)(f:b.m≠[]):IsUp p.toNat (aT a b p true) (bE a.val b.val):=by
 have h:=precB_iff.1 t;by_cases q:a.m=[]
 ·have hz:aT a b p true=(Dy.zero,0):=by
   unfold aT;rw[Vh (mN (by simp[z,i]) t),Vk f,Vh q]
  have e:a.val=0:=by unfold Dy.val;rw[Dy.absN_nil q];simp
  rw[hz];have H:=uN i f;have m:b.val≠0:=by
   have:=i.absN_ne f;unfold Dy.val;split<;>omega
  refine .inl ⟨rfl,by rw[ni];exact qR,fun g _=>?_⟩;rw[ni,e];unfold bE;rw[WV];split
  ·rename_i n;have:=ed (x:=0) (y:=g) n;rw[WV]at this;exact this.symm
  ·have:=ed (x:=0) (y:=g) (c:=-b.val) (by omega);rw[WV,X7]at this;rw[<-this];omega
 ·obtain⟨o,u,l,s,D⟩:=Av (up:=true) z i t q f;have F:=B1 i f;rw[D];refine(ru (by omega) (by omega) rfl (fun C=>absurd C s)).congr fun g=>?_
  have j:=uN i f;have cl:=xb (X:=aa a.m*2^o) (B:=aa b.m) (G:=g*pw u) (by omega);have A:=yZ (X:=aa a.m*2^o) (B:=aa b.m) (G:=(-g)*pw u) (by omega);rw[<-ec,ZW l]at cl;rw[<-ec,Au l,V9]at A;have e:=DJ (d:=a);have k:=DJ (d:=b);generalize (if decide (aa a.m*2^o%aa b.m≠0)=true then 1 else 0:Nat)=c at *
  generalize aa a.m*2^o/aa b.m=M at *
  generalize (aa a.m:Int)*pw (a.e+16384).toNat=U at *
  generalize (aa b.m:Int)*pw (b.e+16384).toNat=V at *
  have E:(-g)*V=-(g*V):=V9 _ _;have v:g*(-V)=-(g*V):=X7 _ _;have w:(-U)*pw 16384=-(U*pw 16384):=V9 _ _;cases r:a.neg<;>cases m:b.neg<;>rw[r]at e<;>rw[m]at k j<;>simp only[Wm,V8,Vv,aad,abr,abz,aac,reduceCtorEq]at e k j ⊢
  ·rw[pV (j.2 trivial),e,k];omega
  ·rw[tX j.1,e,k,v];omega
  ·rw[pV (j.2 trivial),e,k,w];omega
  ·rw[tX j.1,e,k,v,w];omega
def qn (v g:Int):Prop:=g<=0\/g*g<=v*pw 16384
def qo (v g:Int):Prop:=0<=g/\v*pw 16384<=g*g
theorem n9 {N G:Nat}:G<=a5 N↔G*G<=N:=by
 obtain⟨b,c⟩:=kF N;constructor
 ·intro h;exact Vp (Wi h h) b
 ·intro h;rcases Vm (a5 N) G with a|a
  ·have:=Wi (show a5 N+1<=G from a) (show a5 N+1<=G from a);omega
  ·exact a
theorem Tj {N G:Nat}:a5 N+(if decide (a5 N*a5 N≠N)=true then 1 else 0)<=G↔N<=G*G:=by
 obtain⟨d,e⟩:=kF N;by_cases h:a5 N*a5 N=N
 ·rw[Vk (by simpa using h),VF];constructor
  ·intro a;have:=Wi a a;omega
  ·intro a;rcases Vm G (a5 N)with b|b
   ·have:G*G<a5 N*a5 N:=aaC b (W6 b) (by omega);omega
   ·exact b
 ·rw[Vh (by simpa using h)];constructor
  ·intro a;have:=Wi a a;omega
  ·intro a;rcases Vm G (a5 N+1)with b|b
   ·have c:G<=a5 N:=by omega
    have:=Wi c c;omega
   ·exact b
theorem M1 (j:Nat):2^j*2^j=2^(2*j):=by rw[<-Vs];congr 1;omega
theorem NV {N p j:Nat}{e:Int}{up:Bool}(t:N≠0)(i:p<=ac (a5 N)) :
 aN false (a5 (N*2^(2*j))) (e-j) (decide (a5 (N*2^(2*j))*a5 (N*2^(2*j))≠N*2^(2*j))) p up=aN false (a5 N) e (decide (a5 N*a5 N≠N)) p up:=by
 obtain⟨m,n⟩:=kF N;have g:a5 N≠0:=by
  intro h;rw[h]at n;omega
 have f4:=M1 j;have⟨T,hT⟩:∃T,T=2^j:=⟨_,rfl⟩
 have a:0<T:=by rw[hT];exact Vl j
 rw[<-f4,<-hT];have lo:a5 N*T<=a5 (N*(T*T)):=by
  rw[n9];have:=Vn (T*T) m
  calc a5 N*T*(a5 N*T)=a5 N*a5 N*(T*T):=by grind
   _<=_:=this
 have hi:a5 (N*(T*T))<a5 N*T+T:=by
  rcases Vm (a5 (N*(T*T))) (a5 N*T+T)with h|h
  ·exact h
  ·rw[ge_iff_le,n9]at h;have f:(a5 N*T+T)*(a5 N*T+T)=(a5 N+1)*(a5 N+1)*(T*T):=by grind
   rw[f]at h;have:=Xw h (Xj a a);omega
 have⟨r,k⟩:∃r,a5 (N*(T*T))=a5 N*T+r:=⟨a5 (N*(T*T))-a5 N*T,by omega⟩
 rw[k,hT];refine pY g (by rw[<-hT];omega) ?_ (fun _=>i);rw[<-hT];rw[aaq];simp only[VT,WF];constructor
 ·intro h;by_cases c:r=0
  ·left;subst c;intro b;have:(a5 N*T+0)*(a5 N*T+0)=a5 N*a5 N*(T*T):=by grind
   rw[this]at b;exact h (Xe (Xj a a) b)
  ·exact .inr c
 ·rintro h b;have s:a5 (N*(T*T))=a5 N*T:=by
   have:∀M:Nat,a5 (M*M)=M:=fun M=>by
    have o:=(n9 (N:=M*M) (G:=M)).2 (Vo _);have q:=(kF (M*M)).1;rcases Vm M (a5 (M*M))with h|h
    ·have:=aaC h (W6 h) (by omega);omega
    ·omega
   have d:N*(T*T)=(a5 N*T)*(a5 N*T):=by
    calc N*(T*T)=a5 N*a5 N*(T*T):=by rw[b]
     _=_:=by grind
   rw[d,this]
  have l:r=0:=by omega
  subst l;rcases h with h|h
  ·apply h;have:(a5 N*T+0)*(a5 N*T+0)=a5 N*a5 N*(T*T):=by grind
   rw[this,b]
  ·exact h rfl
theorem q5c {d:Dy}{p:Int}{up:Bool}(od:d.Ok)(n:af p=true)(l:d.m≠[])(u:d.neg=false) :
 ∃k a':Nat,(k:Int)=d.e+32768+2*a'/\a5 (aa d.m*2^k)≠0 /\
  bv d p up=aN false (a5 (aa d.m*2^k)) (-16384-(a':Int)) (decide (a5 (aa d.m*2^k)*a5 (aa d.m*2^k)≠aa d.m*2^k)) p.toNat up:=by
 have h:=precB_iff.1 n;have f:=gf od.tr l;have w:=od.elo;have⟨K,g⟩:∃K,K=hI d p:=⟨_,rfl⟩
 have t:2*p+4<=ac (aa d.m)+K/\(d.e-(K:Int))%2=0:=by
  rw[g];unfold hI;split
  ·omega
  ·omega
 have a:=kg (m:=aa d.m) (j:=K) (r:=0) f (Vl K);rw[VF]at a;have v:=(ze (m:=aa d.m*2^K) (c:=p.toNat) (by omega) (by omega)).1;have i:aa d.m*2^K≠0:=XD f (abK (Vl K));have⟨E,q⟩:∃E,E=(d.e-(K:Int))/2:=⟨_,rfl⟩
 have s:d.e-(K:Int)=2*E:=by omega
 have⟨j,x⟩:∃j,j=(E+16384).toNat:=⟨_,rfl⟩
 have b:aa d.m*2^(K+2*j)=aa d.m*2^K*2^(2*j):=by rw[Vs,Vt]
 refine⟨K+2*j,(-16384-E).toNat,by omega,?_,?_⟩
 ·rw[b];intro o;have:=(kF (aa d.m*2^K*2^(2*j))).2;rw[o]at this;have:=Xj (abD i) (Vl (2*j));omega
 ·have sh:=NV (N:=aa d.m*2^K) (p:=p.toNat) (j:=j) (e:=E) (up:=up) i v;unfold bv;rw[Vh (mN (by simpa using od) n),u,<-g,<-q,b];simp only[Vv,V8];rw[Vk l,<-sh]
  congr 1
  omega
theorem NU {A a' e k:Nat}(h:k=e+16384+2*a')(g:Int):g*pw a'*(g*pw a')<=(A:Int)*pw k↔g*g<=(A:Int)*pw e*pw 16384:=by
 have c:g*g*(pw a'*pw a')<=((A:Int)*pw e*pw 16384)*(pw a'*pw a')↔g*g<=(A:Int)*pw e*pw 16384:=ed (Xl (bf a') (bf a'));rw[<-c];have a:(A:Int)*pw k=((A:Int)*pw e*pw 16384)*(pw a'*pw a'):=by
  rw[h,bK,bK,<-bK a' a',show 2*a'=a'+a' by omega];simp only[WD]
 have b:g*pw a'*(g*pw a')=g*g*(pw a'*pw a'):=by grind
 rw[a,b]
theorem PN {A a' e k:Nat}(h:k=e+16384+2*a')(g:Int):(A:Int)*pw k<=g*pw a'*(g*pw a')↔(A:Int)*pw e*pw 16384<=g*g:=by
 have c:((A:Int)*pw e*pw 16384)*(pw a'*pw a')<=g*g*(pw a'*pw a')↔(A:Int)*pw e*pw 16384<=g*g:=ed (Xl (bf a') (bf a'));rw[<-c];have a:(A:Int)*pw k=((A:Int)*pw e*pw 16384)*(pw a'*pw a'):=by
  rw[h,bK,bK,<-bK a' a',show 2*a'=a'+a' by omega];simp only[WD]
 have b:g*pw a'*(g*pw a')=g*g*(pw a'*pw a'):=by grind
 rw[a,b]
theorem ZJ {d:Dy}(a:d.neg=false):d.val=(aa d.m:Int)*pw (d.e+16384).toNat:=by
 unfold Dy.val Dy.absN;rw[a,ec];simp
theorem NB {d:Dy}{p:Int}(od:d.Ok)(j:af p=true)(o:d.m≠[])(i:d.neg=false):IsDn p.toNat (bv d p false) (qn d.val):=by
 have h:=precB_iff.1 j;have q:=od.elo;obtain⟨k,a,r,c,m⟩:=q5c (up:=false) od j o i;rw[m];refine(rj (by omega) (by omega) rfl (fun b=>absurd b c)).congr fun g=>?_
 simp only[Vv,V8];unfold qn;rw[ZJ i,<-NU (A:=aa d.m) (a':=a) (e:=(d.e+16384).toNat) (k:=k) (by omega) g];obtain⟨n,rfl|rfl⟩:=g.eq_nat_or_neg
 ·rw[ec,ec];have:=n9 (N:=aa d.m*2^k) (G:=n*2^a);have l:(((n*2^a:Nat):Int)*((n*2^a:Nat):Int))=((n*2^a*(n*2^a):Nat):Int):=by simp
  rw[l];by_cases b:n=0
  ·subst b;simp
  ·constructor
   ·intro f;right;omega
   ·rintro(f|f)
    ·omega
    ·omega
 ·rw[V9,ec];constructor
  ·intro _;left;omega
  ·intro _;omega
theorem NC {d:Dy}{p:Int}(od:d.Ok)(j:af p=true)(r:d.m≠[])(i:d.neg=false):IsUp p.toNat (bv d p true) (qo d.val):=by
 have h:=precB_iff.1 j;have t:=od.elo;obtain⟨k,a,v,b,q⟩:=q5c (up:=true) od j r i;rw[q];refine(ru (by omega) (by omega) rfl (fun o=>absurd o b)).congr fun g=>?_
 simp only[Vv,V8];unfold qo;rw[ZJ i,<-PN (A:=aa d.m) (a':=a) (e:=(d.e+16384).toNat) (k:=k) (by omega) g];have l:=fun G=>Tj (N:=aa d.m*2^k) (G:=G)
 generalize (if decide (a5 (aa d.m*2^k)*a5 (aa d.m*2^k)≠aa d.m*2^k)=true then 1 else 0:Nat)=c at *
 obtain⟨n,rfl|rfl⟩:=g.eq_nat_or_neg
 ·rw[ec,ec];have:=l (n*2^a);have m:(((n*2^a:Nat):Int)*((n*2^a:Nat):Int))=((n*2^a*(n*2^a):Nat):Int):=by simp
  rw[m];omega
 ·rw[V9,ec];have w:=abD b;constructor
  ·intro _;omega
  ·rintro⟨u,f⟩;have s:n=0:=by omega
   subst s;rw[WR]at f ⊢;have:=l 0;rw[ec]at f;simp only[Int.natCast_zero,WV,Int.neg_zero]at f;omega
theorem IsDn.exact {p:Nat}{r:Dy × Int}{le:Int->Prop}(h:IsDn p r le){V:Int}(e:aE p V)(d:∀g,le g↔g<=V):r.2=0/\r.1.val=V:=by
 rcases h with ⟨a,b,c⟩|⟨_,c⟩
 ·have f:=(c V e).2 ((d V).2 (VL _));have i:=(d _).1 ((c _ b).1 (VL _));exact⟨a,by omega⟩
 ·exact absurd ((d V).2 (VL _)) (c V e)
theorem IsUp.exact {p:Nat}{r:Dy × Int}{ge:Int->Prop}(h:IsUp p r ge){V:Int}(e:aE p V)(d:∀g,ge g↔V<=g):r.2=0/\r.1.val=V:=by
 rcases h with ⟨a,b,c⟩|⟨_,c⟩
 ·have f:=(c V e).2 ((d V).2 (VL _));have i:=(d _).1 ((c _ b).1 (VL _));exact⟨a,by omega⟩
 ·exact absurd ((d V).2 (VL _)) (c V e)
theorem iP {k:Int}:(nD k).val=k*pw 16384:=by
 unfold nD;have a:((0:Int)+16384).toNat=16384:=rfl;rw[pm (by omega),<-ec,a];obtain⟨n,rfl|rfl⟩:=k.eq_nat_or_neg
 ·rw[Vk (by simp)];simp
 ·by_cases h:n=0
  ·subst h;simp
  ·rw[Vh (by simp;omega),V9];simp
theorem Bb {k:Int}{a:Nat}:(k*pw a).natAbs=k.natAbs*2^a:=by
 rw[X8];rfl
theorem Ln {p A:Nat}{k:Int}(b:A+A=ci)(a:21<=A)(c:20<=p)(h:k.natAbs<=1048576):aE p (k*pw A):=by
 unfold aE;rw[Bb];have e:2^20<=2^p:=Vg (by omega) c;have d:(2:Nat)^20=1048576:=rfl;refine⟨⟨k.natAbs,A,rfl,by omega⟩,?_⟩;unfold dE;rw[<-b,Vs];refine V7 ?_ (Vl A);have f:2^21<=2^A:=Vg (by omega) a;have g:(2:Nat)^21=2097152:=rfl;omega
theorem M5 {p:Nat}{k:Int}(b:20<=p)(a:k.natAbs<=1048576):aE p (k*pw 16384):=Ln rfl (by omega) b a
theorem BJ {r:Dy × Int}{k:Int}(ok:r.1.Ok)(c:k.natAbs<=1048576)(h:r.2=0/\r.1.val=k*pw 16384):r=(nD k,0):=by
 have e:r.1=nD k:=qF ok (bR (by omega)) (by rw[h.2,iP]);obtain⟨a,b⟩:=r;simp at e h;rw[e,h.1]
theorem Uz {k:Int}(a:k.natAbs<=1048576):(nI k k).known=true:=by
 have ok:=bR (k:=k) (by omega);simp[Iv.known,Iv.valid,nI,ok.valid,(zn ok ok).2 rfl]
theorem Cq {x y:Int}(a:x.natAbs<=1023)(b:y.natAbs<=1023):(x*y).natAbs<=1048576:=by
 rw[X8];have:=Wi a b;omega
theorem BI {k:Int}(h:k≠0)(_hk:k.natAbs<=1048576):(nD k).m≠[]:=by
 intro c;have a:(nD k).val=0:=by unfold Dy.val;rw[Dy.absN_nil c];simp
 rw[iP]at a;have:=bf 16384;rcases Int.mul_eq_zero.1 a with b|b
 ·exact h b
 ·omega
theorem vK {k:Int}(_hk:k.natAbs<=1048576):(0<(nD k).val↔0<k)/\((nD k).val<0↔k<0):=by
 rw[iP];have b:=bf 16384;generalize pw 16384=P at *
 constructor
 ·constructor
  ·intro h;exact Int.pos_of_mul_pos_left h (by omega) |> fun h=>h
  ·intro h;exact Xl h b
 ·constructor
  ·intro h;rcases V5 k 0 with a|a
   ·exact a
   ·have:=Xm a (Vu b);omega
  ·intro h;exact aaG h b
theorem U9 {G V:Int}(c:0<=G)(b:0<=V):G*G<=V*V↔G<=V:=by
 constructor
 ·intro h;rcases V5 V G with a|a
  ·have:=XM (Vu a) (Vu a) b c;have f:V*V<G*G:=by
    have d:V*V<=V*G:=V1 (Vu a) b;have e:V*G<G*G:=aax a (by omega);omega
   omega
  ·exact a
 ·intro h;exact XM h h c b
theorem yi {q x:Int}(t:20<=q)(m:af q=true)(n:x.natAbs<=1023)(b:0<x)(up:Bool):bv (nD (x*x)) q up=(nD x,0):=by
 have j:=Cq n n;refine BJ rSqrt_ok (by omega) ?_;have f:=bR (k:=x*x) (by omega);have g:=M5 (p:=q.toNat) (k:=x) (by omega) (by omega);have d:0<x*x:=Xl b b;have e:=BI (k:=x*x) (by omega) j;have s:=vK (k:=x*x) j;have o:=bf 16384;have l:(nD (x*x)).neg=false:=(uN f e).1 (s.1.2 d);have i:(nD (x*x)).val*pw 16384=(x*pw 16384)*(x*pw 16384):=by
  rw[iP];generalize pw 16384=P;grind
 have c:0<=x*pw 16384:=Vu (Xl b o);cases up
 ·refine(NB f m e l).exact g fun g=>?_
  unfold qn;rw[i];rcases V5 g 0 with h|h
  ·exact⟨fun _=>by omega,fun _=>.inl (by omega)⟩
  ·rw[U9 h c];exact⟨fun h=>by omega,fun h=>.inr h⟩
 ·refine(NC f m e l).exact g fun g=>?_
  unfold qo;rw[i];constructor
  ·rintro⟨a,r⟩;exact(U9 c a).1 r
  ·intro h;have a:0<=g:=by omega
   exact⟨a,(U9 c a).2 h⟩
theorem Mv {q x:Int}(d:20<=q)(c:af q=true)(a:x.natAbs<=1023)(b:0<x):(nI (x*x) (x*x)).sqrt q=nI x x:=by
 have f:=Uz (k:=x*x) (Cq a a);have s:=mK (bR (k:=x*x) (by have:=Cq a a;omega));have v:=vK (Cq a a);have e:0<(nI (x*x) (x*x)).lo.sgn:=s.1.2 (v.1.2 (Xl b b));unfold Iv.sqrt;rw[f,c,Vh (by simpa using e)];show Iv.made (bv (nD (x*x)) q false) (bv (nD (x*x)) q true)=_;rw[yi d c a b,yi d c a b];rfl
