import Derived.Test.YtblicjipogbhmaaGreatDoorF0
namespace Go.Abs.W
def tm (x:Rat):Nat->Rat
 |0=>1
 |n+1=>tm x n*x/(n+1:Nat)
def ps (f:Nat->Rat):Nat->Rat
 |0=>f 0
 |n+1=>ps f n+f (n+1)
def cv (f g:Nat->Rat):Nat->Rat
 |0=>f 0*g 0
 |k+1=>f 0*g (k+1)+cv (fun i=>f (i+1)) g k
theorem fk (n:Nat):((n+1:Nat):Rat)=(n:Rat)+1:=by
 simp
theorem bL : ∀n:Nat,(0:Rat)<=(n:Rat)
 |0=>V2
 |n+1=>by rw[fk];have:=bL n;grind
theorem ky (n:Nat):(0:Rat)<((n+1:Nat):Rat):=by
 rw[fk];have:=bL n;grind
theorem mL (x:Rat)(n:Nat):((n+1:Nat):Rat)*tm x (n+1)=x*tm x n:=by
 have h:=ky n;show _*(tm x n*x/_)=_;generalize ((n+1:Nat):Rat)=c at *
 have a:c≠0:=by grind
 grind
theorem Q6 (f h g:Nat->Rat)(k:Nat):cv (fun i=>f i+h i) g k=cv f g k+cv h g k:=by
 induction k generalizing f h with
 |zero=>simp only[cv];grind
 |succ k a=>simp only[cv];rw[a];grind
theorem RL (c:Rat)(f g:Nat->Rat)(k:Nat):cv (fun i=>c*f i) g k=c*cv f g k:=by
 induction k generalizing f with
 |zero=>simp only[cv];grind
 |succ k a=>simp only[cv];rw[a];grind
theorem O8 (f g:Nat->Rat)(k:Nat):cv (fun i=>(i:Rat)*f i) g k+cv f (fun i=>(i:Rat)*g i) k=(k:Rat)*cv f g k:=by
 induction k generalizing f with
 |zero=>
  simp only[cv];have a:((0:Nat):Rat)=0:=rfl
  rw[a];grind
 |succ k d=>
  have b:(fun i:Nat=>((i+1:Nat):Rat)*f (i+1))=(fun i=>f (i+1)+(i:Rat)*f (i+1)):=by
   funext i;rw[fk];grind
  have e:=d (fun i=>f (i+1));simp only[cv];rw[b,Q6];have c:=fk k;simp only[c];have a:((0:Nat):Rat)=0:=rfl;rw[a];grind
theorem Nu (y:Rat)(f g g':Nat->Rat)(b:g' 0=0)(a:∀j,g' (j+1)=y*g j)(k:Nat):cv f g' (k+1)=y*cv f g k:=by
 induction k generalizing f with
 |zero=>simp only[cv];rw[b,a];grind
 |succ k c=>
  have:=c (fun i=>f (i+1));rw[cv,this,a];simp only[cv];grind
theorem mj (x y:Rat)(k:Nat):cv (tm x) (tm y) k=tm (x+y) k:=by
 induction k with
 |zero=>simp[cv,tm]
 |succ k g=>
  have b:=O8 (tm x) (tm y) (k+1);have d:cv (fun i=>(i:Rat)*tm x i) (tm y) (k+1)=x*cv (tm x) (tm y) k:=by
   rw[cv];have e:(fun i:Nat=>((i+1:Nat):Rat)*tm x (i+1))=fun i=>x*tm x i:=by funext i;exact mL x i
   rw[e,RL];have a:((0:Nat):Rat)=0:=rfl;rw[a];grind
  have f:=Nu y (tm x) (tm y) (fun i=>(i:Rat)*tm y i) (by simp) (fun j=>mL y j) k;rw[d,f,g]at b;have h:=mL (x+y) k;have m:=ky k;generalize ((k+1:Nat):Rat)=c at *
  have l:c≠0:=by grind
  have:c*cv (tm x) (tm y) (k+1)=c*tm (x+y) (k+1):=by grind
  grind
theorem ig (f g:Nat->Rat)(m:Nat):ps (cv f g) m=cv f (ps g) m:=by
 have b:∀(m:Nat) (f:Nat->Rat),ps (cv f g) (m+1)=f 0*ps g (m+1)+ps (cv (fun i=>f (i+1)) g) m:=by
  intro m f;induction m with
  |zero=>simp only[ps,cv];grind
  |succ m a=>rw[ps,a];simp only[ps,cv];grind
 induction m generalizing f with
 |zero=>rfl
 |succ m a=>rw[b,a];rfl
def Bd (x a:Rat):Prop:=-a<=x/\x<=a
theorem Bd.nn {x a:Rat}(h:Bd x a):0<=a:=by obtain⟨b,c⟩:=h;grind
theorem Bd.add {x a y b:Rat}(h:Bd x a)(k:Bd y b):Bd (x+y) (a+b):=by
 obtain⟨c,d⟩:=h;obtain⟨e,f⟩:=k;constructor<;>grind
theorem mul_nn {a b:Rat}(c:0<=a)(d:0<=b):0<=a*b:=Rat.mul_nonneg c d
theorem eD {a b c d:Rat}(i:a<=b)(j:c<=d)(e:0<=b)(f:0<=c):a*c<=b*d:=by
 have g:=mul_nn (a:=b-a) (b:=c) (by grind) f;have h:=mul_nn (a:=b) (b:=d-c) e (by grind);grind
theorem Bd.mul {x a y b:Rat}(h:Bd x a)(k:Bd y b):Bd (x*y) (a*b):=by
 obtain⟨g,i⟩:=h;obtain⟨j,l⟩:=k;have c:=mul_nn (a:=a+x) (b:=b+y) (by grind) (by grind);have d:=mul_nn (a:=a-x) (b:=b-y) (by grind) (by grind);have e:=mul_nn (a:=a-x) (b:=b+y) (by grind) (by grind);have f:=mul_nn (a:=a+x) (b:=b-y) (by grind) (by grind);constructor<;>grind
theorem Bd.div {x a c:Rat}(h:Bd x a)(d:0<c):Bd (x/c) (a/c):=by
 obtain⟨g,i⟩:=h;have hi:0<c⁻¹:=Rat.inv_pos.2 d;have e:=mul_nn (a:=a+x) (b:=c⁻¹) (by grind) (by grind);have f:=mul_nn (a:=a-x) (b:=c⁻¹) (by grind) (by grind);rw[V0,V0];constructor<;>grind
theorem fS {x a:Rat}(h:Bd x a):∀n,Bd (tm x n) (tm a n)
 |0=>by simp only[tm,Bd];grind
 |n+1=>((fS h n).mul h).div (ky n)
theorem di {a:Rat}(h:0<=a)(n:Nat):0<=tm a n:=(fS (x:=a) (a:=a) ⟨by grind,by grind⟩ n).nn
theorem jd {f F:Nat->Rat}(b:∀i,Bd (f i) (F i)):∀{d D:Nat->Rat} {m:Nat},(∀j,j<=m->Bd (d j) (D j))->Bd (cv f d m) (cv F D m):=by
 intro d D m a;induction m generalizing f F with
 |zero=>exact(b 0).mul (a 0 (Vo _))
 |succ m c=>exact((b 0).mul (a _ (Vo _))).add (c (fun i=>b (i+1)) (fun j e=>a j (by omega)))
theorem dH {f F:Nat->Rat}(d:∀i,Bd (f i) (F i)){n m:Nat}(h:n<=m):Bd (ps f m-ps f n) (ps F m-ps F n):=by
 induction m with
 |zero=>
  obtain rfl:n=0:=by omega
  constructor<;>grind
 |succ m e=>
  rcases Vm n (m+1)with c|c
  ·have:=(e (by omega)).add (d (m+1));simp only[ps];obtain⟨a,b⟩:=this;constructor<;>grind
  ·obtain rfl:n=m+1:=by omega
   constructor<;>grind
theorem lJ (f g:Nat->Rat)(c:Rat)(m:Nat):cv f (fun j=>c-g j) m=ps f m*c-cv f g m:=by
 have b:∀(m:Nat) (f:Nat->Rat),ps f (m+1)=f 0+ps (fun i=>f (i+1)) m:=by
  intro m f;induction m with
  |zero=>simp only[ps]
  |succ m a=>rw[ps,a];simp only[ps];grind
 induction m generalizing f with
 |zero=>simp only[cv,ps];grind
 |succ m a=>rw[cv,a,b];simp only[cv];grind
def es (x:Rat)(n:Nat):Rat:=ps (tm x) n
theorem sz (x y:Rat)(m:Nat):es x m*es y m-es (x+y) m=cv (tm x) (fun j=>es y m-es y j) m:=by
 have h:es (x+y) m=cv (tm x) (fun j=>es y j) m:=by
  have:=ig (tm x) (tm y) m;rw[show cv (tm x) (tm y)=tm (x+y) from funext (mj x y)]at this;exact this
 rw[lJ,h];rfl
theorem Z1 {x y a b:Rat}(d:Bd x a)(e:Bd y b)(m:Nat):Bd (es x m*es y m-es (x+y) m) (es a m*es b m-es (a+b) m):=by
 rw[sz,sz];exact jd (fS d) fun j c=>dH (fS e) c
theorem DF {f:Nat->Rat}(a:∀i,0<=f i){n m:Nat}(h:n<=m):ps f n<=ps f m:=by
 have:=(dH (f:=f) (F:=f) (fun i=>⟨by have:=a i;grind,by grind⟩) h).nn;grind
theorem jX {f:Nat->Rat}(a:∀i,0<=f i)(n:Nat):0<=ps f n:=by
 have h:=DF a (Xa n);have b:=a 0;simp only[ps]at h;grind
theorem BU {f G:Nat->Rat}(a:∀i,0<=f i)(b:∀i,0<=G i)(m:Nat):0<=cv f G m:=by
 induction m generalizing f with
 |zero=>exact mul_nn (a 0) (b 0)
 |succ m c=>
  have d:=mul_nn (a 0) (b (m+1));have e:=c (f:=fun i=>f (i+1)) (fun i=>a _);simp only[cv];grind
theorem UF (f:Nat->Rat)(m:Nat):ps f (m+1)=f 0+ps (fun i=>f (i+1)) m:=by
 induction m with
 |zero=>simp only[ps]
 |succ m a=>rw[ps,a];simp only[ps];grind
theorem Py {f g:Nat->Rat}(c:∀i,0<=f i)(j:∀i,0<=g i)(h k:Nat):ps f h*ps g k<=cv f (ps g) (h+k):=by
 have d:=jX j;induction h generalizing f with
 |zero=>
  rw[W1];cases k with
  |zero=>exact V2
  |succ k=>
   have e:=BU (f:=fun i=>f (i+1)) (fun i=>c _) d k;simp only[cv];show f 0*_<=_;grind
 |succ h l=>
  have m:=l (f:=fun i=>f (i+1)) (fun i=>c _);have e:=eD (a:=f 0) (b:=f 0) V2 (DF j (show k<=h+1+k by omega)) (c 0) (d k);rw[UF,show h+1+k=h+k+1 by omega,cv];rw[show h+1+k=h+k+1 by omega]at e;grind
theorem xp {a:Rat}(h:0<=a){n m:Nat}(b:n<=m):es a n<=es a m:=DF (di h) b
theorem AR {a b:Rat}(c:0<=a)(d:0<=b)(m:Nat):es a m*es b m<=es (a+b) (m+m):=by
 have h:=ig (tm a) (tm b) (m+m);rw[show cv (tm a) (tm b)=tm (a+b) from funext (mj a b)]at h;show _<=ps _ _;rw[h];exact Py (di c) (di d) m m
theorem yt {c:Rat}(h:0<=c){n:Nat}(o:2*c<=(n:Rat)):2*tm c (n+1)<=tm c n:=by
 have f:=mL c n;have l:=di h n;have g:=di h (n+1);rw[fk]at f;have m:=mul_nn (a:=(n:Rat)+1-2*c) (b:=tm c (n+1)) (by grind) g;by_cases e:c=0
 ·subst e;show 2*(tm 0 n*0/_)<=_;rw[abc,V0,Xr];grind
 ·have d:0<c:=by grind
  have i:0<=c*(tm c n-2*tm c (n+1)):=by grind
  have hi:0<c⁻¹:=Rat.inv_pos.2 d;have j:=mul_nn (a:=c⁻¹) (by grind) i;have k:c⁻¹*c=1:=by grind
  rw[<-VR,k,WB]at j;grind
theorem BA {c:Rat}(h:0<=c){n:Nat}(b:2*c<=(n:Rat))(j:Nat):es c (n+j)-es c n+tm c (n+j)<=tm c n:=by
 induction j with
 |zero=>simp only[VF];grind
 |succ j d=>
  have a:=yt h (n:=n+j) (by rw[XF];have:=bL j;grind);rw[show n+(j+1)=n+j+1 by omega];show ps _ _+tm c (n+j+1)-_+_<=_;have:es c (n+j)=ps (tm c) (n+j):=rfl;grind
theorem T0 {c:Rat}(h:0<=c){n:Nat}(l:2*c<=(n:Rat))(j:Nat):((j:Rat)+1)*tm c (n+j)<=tm c n:=by
 induction j with
 |zero=>
  simp only[VF];have d:((0:Nat):Rat)=0:=rfl
  rw[d];grind
 |succ j m=>
  have g:=yt h (n:=n+j) (by rw[XF];have:=bL j;grind);have e:=di h (n+j+1);have f:=bL j;rw[fk,show n+(j+1)=n+j+1 by omega];have i:=mul_nn f e;have k:=mul_nn (a:=(j:Rat)+1) (b:=tm c (n+j)-2*tm c (n+j+1)) (by grind) (by grind);grind
theorem kv (q:Rat):∃n:Nat,q<=(n:Rat):=by
 refine⟨q.ceil.toNat,?_⟩;have c:=@Rat.le_ceil q;have a:q.ceil<=(q.ceil.toNat:Int):=by omega
 have b:=Rat.intCast_le_intCast.2 a;rw[Wh]at b;grind
theorem gm {a b:Nat}(h:a<=b):(a:Rat)<=(b:Rat):=by
 obtain⟨k,rfl⟩:=Wb h;rw[XF];have:=bL k;grind
theorem sA {c:Rat}(h:0<=c){ε:Rat}(p:0<ε):∃N,∀n m,N<=n->n<=m->es c m-es c n<=ε:=by
 obtain⟨K,o⟩:=kv (2*c);obtain⟨j,x⟩:=kv (tm c K*ε⁻¹);have hi:0<ε⁻¹:=Rat.inv_pos.2 p;refine⟨K+j,fun n m y q=>?_⟩;obtain⟨i,rfl⟩:=Wb (show K<=n by omega);obtain⟨k,rfl⟩:=Wb q;have r:=BA h (n:=K+i) (by rw[XF];have:=bL i;grind) k;have s:=T0 h o i;have t:=gm (show j<=i by omega);have u:=di h (K+i);have v:=di h (K+i+k);have f:ε⁻¹*ε=1:=by grind
 have w:tm c K<=(i:Rat)*ε:=by
  have:=mul_nn (a:=(i:Rat)-tm c K*ε⁻¹) (b:=ε) (by grind) (by grind);have e:tm c K*ε⁻¹*ε=tm c K:=by rw[VR,f,VP]
  rw[Yo,aaJ,aam,e]at this;grind
 have g:0<(i:Rat)+1:=by have:=bL i;grind
 have l:((i:Rat)+1)*(ε-tm c (K+i)) ≥ 0:=by grind
 have d:0<=ε-tm c (K+i):=by
  have hi2:0<((i:Rat)+1)⁻¹:=Rat.inv_pos.2 g;have:=mul_nn (a:=((i:Rat)+1)⁻¹) (by grind) l;have e:((i:Rat)+1)⁻¹*((i:Rat)+1)=1:=by grind
  rw[<-VR,e,WB]at this;exact this
 grind
def Null (s:Nat->Rat):Prop:=∀ε:Rat,0<ε->∃N,∀n,N<=n->Bd (s n) ε
def Bnd (s:Nat->Rat):Prop:=∃B:Rat,∃N,∀n,N<=n->Bd (s n) B
theorem jA {ε:Rat}(h:0<ε):0<ε/2:=by grind
theorem Null.add {s t:Nat->Rat}(d:Null s)(e:Null t):Null (fun n=>s n+t n):=by
 intro a b;obtain⟨N,c⟩:=d (a/2) (jA b);obtain⟨M,hM⟩:=e (a/2) (jA b);refine⟨max N M,fun n f=>?_⟩;have:=(c n (by omega)).add (hM n (by omega));rwa[show a/2+a/2=a by grind]at this
theorem Null.neg {s:Nat->Rat}(f:Null s):Null (fun n=>- s n):=by
 intro g d;obtain⟨N,c⟩:=f g d;refine⟨N,fun n e=>?_⟩;obtain⟨a,b⟩:=c n e;constructor<;>grind
theorem Null.sub {s t:Nat->Rat}(a:Null s)(b:Null t):Null (fun n=>s n-t n):=by
 have:=a.add b.neg;simpa only[<-Yo]using this
theorem Null.mul {s t:Nat->Rat}(i:Null s)(j:Bnd t):Null (fun n=>s n*t n):=by
 intro c h;obtain⟨B,M,hM⟩:=j;have o:0<B*B+1:=by
  have:0<=B*B:=by
   have d:=(hM M (Vo _)).nn;exact mul_nn d d
  grind
 have d:=(hM M (Vo _)).nn;have hi:0<(B+1)⁻¹:=Rat.inv_pos.2 (by grind);obtain⟨N,g⟩:=i (c*(B+1)⁻¹) (Wr h hi);refine⟨max N M,fun n p=>?_⟩;have f:=(g n (by omega)).mul (hM n (by omega));have e:c*(B+1)⁻¹*(B+1)=c:=by
  have:(B+1)⁻¹*(B+1)=1:=by grind
  rw[VR,this,VP]
 have k:c*(B+1)⁻¹*B<=c:=by
  have l:=mul_nn (a:=c) (b:=(B+1)⁻¹) (by grind) (by grind);have m:c*(B+1)⁻¹*(B+1)=c*(B+1)⁻¹*B+c*(B+1)⁻¹:=by grind
  grind
 obtain⟨a,b⟩:=f;constructor<;>grind
theorem Null.zero : Null (fun _=>0):=fun b a=>⟨0,fun n _=>⟨by grind,by grind⟩⟩
theorem Null.mono {s t:Nat->Rat}(i:Null t)(h:∀n,Bd (s n) (t n)):Null s:=by
 intro j f;obtain⟨N,e⟩:=i j f;refine⟨N,fun n g=>?_⟩;obtain⟨a,b⟩:=e n g;obtain⟨c,d⟩:=h n;constructor<;>grind
theorem Null.congr {s t:Nat->Rat}(a:Null s)(h:∀n,s n=t n):Null t:=by
 rwa[show s=t from funext h]at a
theorem Bnd.add {s t:Nat->Rat}(b:Bnd s)(c:Bnd t):Bnd (fun n=>s n+t n):=by
 obtain⟨A,N,a⟩:=b;obtain⟨B,M,hM⟩:=c;exact⟨A+B,max N M,fun n d=>(a n (by omega)).add (hM n (by omega))⟩
theorem Bnd.mul {s t:Nat->Rat}(b:Bnd s)(c:Bnd t):Bnd (fun n=>s n*t n):=by
 obtain⟨A,N,a⟩:=b;obtain⟨B,M,hM⟩:=c;exact⟨A*B,max N M,fun n d=>(a n (by omega)).mul (hM n (by omega))⟩
theorem Null.bnd {s:Nat->Rat}(b:Null s):Bnd s:=by
 obtain⟨N,a⟩:=b 1 (by decide);exact⟨1,N,a⟩
theorem Bnd.neg {s:Nat->Rat}(e:Bnd s):Bnd (fun n=>- s n):=by
 obtain⟨A,N,c⟩:=e;refine⟨A,N,fun n d=>?_⟩;obtain⟨a,b⟩:=c n d;constructor<;>grind
theorem Bnd.sub {s t:Nat->Rat}(a:Bnd s)(b:Bnd t):Bnd (fun n=>s n-t n):=by
 have:=a.add b.neg;simpa only[<-Yo]using this
theorem Bnd.const (c:Rat):Bnd (fun _=>c):=by
 rcases(inferInstance:Decidable (0<=c))with h|h
 ·exact⟨-c,0,fun n _=>⟨by grind,by grind⟩⟩
 ·exact⟨c,0,fun n _=>⟨by grind,by grind⟩⟩
def Near (s t:Nat->Rat):Prop:=Null fun n=>s n-t n
theorem Near.refl (s:Nat->Rat):Near s s:=Null.zero.congr fun n=>by grind
theorem Near.symm {s t:Nat->Rat}(h:Near s t):Near t s:=h.neg.congr fun n=>by grind
theorem Near.trans {s t u:Nat->Rat}(h:Near s t)(k:Near t u):Near s u:=(h.add k).congr fun n=>by grind
theorem Near.add {s t u v:Nat->Rat}(h:Near s t)(k:Near u v):Near (fun n=>s n+u n) (fun n=>t n+v n):=(Null.add h k).congr fun n=>by grind
theorem Near.neg {s t:Nat->Rat}(h:Near s t):Near (fun n=>- s n) (fun n=>- t n):=(Null.neg h).congr fun n=>by grind
theorem Near.sub {s t u v:Nat->Rat}(h:Near s t)(k:Near u v):Near (fun n=>s n-u n) (fun n=>t n-v n):=(Null.sub h k).congr fun n=>by grind
theorem Near.bnd {s t:Nat->Rat}(h:Near s t)(a:Bnd s):Bnd t:=by
 have:=a.sub (Null.bnd h);have e:(fun n=>s n-(s n-t n))=t:=by funext n;grind
 rwa[e]at this
theorem Near.mul {s t u v:Nat->Rat}(h:Near s t)(k:Near u v)(a:Bnd s)(b:Bnd u):Near (fun n=>s n*u n) (fun n=>t n*v n):=
 ((Null.mul h b).add (Null.mul k (h.bnd a))).congr fun n=>by grind
theorem Near.le {a b:Rat}{s t:Nat->Rat}(h:Near s t)(e:∀n,a<=s n)(f:∀n,t n<=b):a<=b:=by
 rcases(inferInstance:Decidable (a<=b))with c|c
 ·have:0<(a-b)/2:=by grind
  obtain⟨N,d⟩:=h _ this;obtain⟨g,i⟩:=d N (Vo _);have j:=e N;have k:=f N;grind
 ·exact c
theorem UY (x:Rat):∃a:Rat,0<=a/\Bd x a:=by
 rcases(inferInstance:Decidable (0<=x))with h|h
 ·exact⟨-x,by grind,⟨by grind,by grind⟩⟩
 ·exact⟨x,h,⟨by grind,by grind⟩⟩
theorem BT {x a:Rat}(h:Bd x a)(n:Nat):Bd (es x n) (es a n):=by
 have b:=fS h;induction n with
 |zero=>exact b 0
 |succ n c=>exact c.add (b (n+1))
theorem th (x:Rat):Bnd (es x):=by
 obtain⟨a,e,g⟩:=UY x;obtain⟨N,d⟩:=sA e (ε:=1) (by decide);refine⟨es a N+1,N,fun n f=>?_⟩;have h:=d N n (Vo _) f;obtain⟨b,c⟩:=BT g n;constructor<;>grind
theorem n3 (x y:Rat):Near (fun n=>es x n*es y n) (es (x+y)):=by
 obtain⟨a,g,k⟩:=UY x;obtain⟨b,h,l⟩:=UY y;have e:0<=a+b:=by grind
 intro p i;obtain⟨N,f⟩:=sA e i;refine⟨N,fun n j=>?_⟩;have m:=AR g h n;have o:=f n (n+n) j (by omega);obtain⟨c,d⟩:=Z1 k l n;constructor<;>grind
theorem Br (n:Nat):es 0 n=1:=by
 induction n with
 |zero=>rfl
 |succ n a=>
  have:tm 0 (n+1)=0:=by
   show tm 0 n*0/_=0;rw[abc,V0,Xr]
  show es 0 n+tm 0 (n+1)=1;rw[a,this];grind
def SLe (s t:Nat->Rat):Prop:=∀ε:Rat,0<ε->∃N,∀n,N<=n->s n<=t n+ε
theorem Near.le_left {s t:Nat->Rat}(h:Near s t):SLe s t:=by
 intro f d;obtain⟨N,c⟩:=h f d;exact⟨N,fun n e=>by obtain⟨a,b⟩:=c n e;grind⟩
theorem SLe.trans {s t u:Nat->Rat}(h:SLe s t)(k:SLe t u):SLe s u:=by
 intro b a;obtain⟨N,c⟩:=h (b/2) (jA a);obtain⟨M,hM⟩:=k (b/2) (jA a);refine⟨max N M,fun n f=>?_⟩;have d:=c n (by omega);have e:=hM n (by omega);grind
theorem SLe.of_le {s t:Nat->Rat}(N:Nat)(h:∀n,N<=n->s n<=t n):SLe s t:=fun c b=>⟨N,fun n a=>by have:=h n a;grind⟩
theorem SLe.add {s t u v:Nat->Rat}(h:SLe s t)(k:SLe u v):SLe (fun n=>s n+u n) (fun n=>t n+v n):=by
 intro a b;obtain⟨N,c⟩:=h (a/2) (jA b);obtain⟨M,hM⟩:=k (a/2) (jA b);refine⟨max N M,fun n f=>?_⟩;have d:=c n (by omega);have e:=hM n (by omega);show s n+u n<=t n+v n+a;grind
theorem SLe.const {a b:Rat}(h:SLe (fun _=>a) (fun _=>b)):a<=b:=by
 rcases(inferInstance:Decidable (a<=b))with c|c
 ·obtain⟨N,d⟩:=h ((a-b)/2) (by grind);have:=d N (Vo _);grind
 ·exact c
theorem SLe.mul_left {s t c:Nat->Rat}(h:SLe s t)(j:∀n,0<=c n)(g:Bnd c):SLe (fun n=>c n*s n) (fun n=>c n*t n):=by
 intro d f;obtain⟨B,M,hM⟩:=g;have u:=(hM M (Vo _)).nn;have hi:0<(B+1)⁻¹:=Rat.inv_pos.2 (by grind);obtain⟨N,i⟩:=h (d*(B+1)⁻¹) (Wr f hi);refine⟨max N M,fun n v=>?_⟩;have k:=i n (by omega);obtain⟨l,m⟩:=hM n (by omega);have o:=mul_nn (a:=c n) (b:=t n+d*(B+1)⁻¹-s n) (j n) (by grind);have e:d*(B+1)⁻¹*(B+1)=d:=by
  have:(B+1)⁻¹*(B+1)=1:=by grind
  rw[VR,this,VP]
 have p:=mul_nn (a:=d*(B+1)⁻¹) (b:=B-c n) (Vj (Wr f hi)) (by grind);have r:=Vj (Wr f hi);show c n*s n<=c n*t n+d;generalize d*(B+1)⁻¹=q at *
 grind
theorem SR (x:Rat):SLe (fun _=>0) (es x):=by
 have h:=(n3 (x/2) (x/2)).le_left;rw[show x/2+x/2=x by grind]at h;refine SLe.trans (SLe.of_le 0 fun n _=>?_) h;show 0<=es (x/2) n*es (x/2) n;rcases(inferInstance:Decidable (0<=es (x/2) n))with c|c
 ·have:=mul_nn (a:=- es (x/2) n) (b:=- es (x/2) n) (by grind) (by grind);grind
 ·exact mul_nn c c
theorem Z0 {h:Rat}(a:0<=h){n:Nat}(b:1<=n):1+h<=es h n:=by
 have c:=xp a b;have d:es h 1=1+h:=by
  show(1:Rat)+1*h/((0+1:Nat):Rat)=_;have:((0+1:Nat):Rat)=1:=rfl;rw[this];grind
 grind
def qs (x:Rat)(n:Nat):Rat:=es (x/2) n*es (x/2) n
theorem br (a:Rat):0<=a*a:=by
 rcases(inferInstance:Decidable (0<=a))with c|c
 ·have:=mul_nn (a:=-a) (b:=-a) (by grind) (by grind);grind
 ·exact mul_nn c c
theorem fX (x:Rat)(n:Nat):0<=qs x n:=br _
theorem pG (x:Rat):Near (qs x) (es x):=by
 have h:=n3 (x/2) (x/2);rwa[show x/2+x/2=x by grind]at h
theorem mD (x:Rat):Bnd (qs x):=(th _).mul (th _)
theorem oe (x y:Rat):Near (fun n=>qs x n*es y n) (es (x+y)):=
 ((pG x).mul (Near.refl (es y)) (mD x) (th y)).trans (n3 x y)
theorem rO (x:Rat):Near (fun n=>qs (-x) n*es x n) (fun _=>1):=by
 have h:=oe (-x) x;rwa[show -x+x=0 by grind,show es 0=fun _=>1 from funext Br]at h
theorem xo {x h:Rat}(b:0<=h):SLe (fun n=>qs x n*(1+h)) (es (x+h)):=by
 refine SLe.trans (SLe.of_le 1 fun n c=>?_) (oe x h).le_left;show _<=qs x n*es h n;have a:=Z0 b c;exact eD V2 a (fX x n) (by grind)
theorem CJ {x y:Rat}(h:x<=y):SLe (es x) (es y):=by
 have a:=xo (x:=x) (h:=y-x) (by grind);rw[show x+(y-x)=y by grind]at a;refine(pG x).symm.le_left.trans (SLe.trans (SLe.of_le 0 fun n _=>?_) a);have:=mul_nn (fX x n) (b:=y-x) (by grind);show qs x n<=_;grind
theorem SQ {a b:Rat}(h:SLe (es a) (es b)):a<=b:=by
 rcases(inferInstance:Decidable (a<=b))with e|e
 ·have k:0<a-b:=by grind
  have g:=xo (x:=b) (h:=a-b) (Vj k);rw[show b+(a-b)=a by grind]at g;have i:=(g.trans h).mul_left (c:=qs (-b)) (fun n=>fX _ n) (mD _);have d:=rO b;have f:Near (fun n=>qs (-b) n*(qs b n*(1+(a-b)))) (fun _=>1*(1+(a-b))):=by
   have l:Near (fun n=>qs (-b) n*qs b n) (fun _=>1):=((Near.refl (qs (-b))).mul (pG b) (mD _) (mD _)).trans d;have m:=l.mul (Near.refl fun _=>1+(a-b)) ((mD _).mul (mD _)) (Bnd.const _);exact Null.congr m fun n=>by grind
  have j:=(f.symm.le_left.trans i).trans d.le_left;have:=j.const;grind
 ·exact e
def ELo (a d:Rat):Prop:=SLe (es a) (fun _=>d)
def EHi (d b:Rat):Prop:=SLe (fun _=>d) (es b)
theorem ELo.le {a b d:Rat}(h:ELo a d)(k:EHi d b):a<=b:=SQ (SLe.trans h k)
theorem ELo.zero : ELo 0 1:=SLe.of_le 0 fun n _=>by show es 0 n<=1;rw[Br];exact V2
theorem EHi.zero : EHi 1 0:=SLe.of_le 0 fun n _=>by show 1<=es 0 n;rw[Br];exact V2
theorem ELo.add {a b d e:Rat}(h:ELo a d)(k:ELo b e)(_hd:0<=d):ELo (a+b) (d*e):=by
 have g:=SLe.mul_left k (c:=qs a) (fun n=>fX a n) (mD a);have f:SLe (fun n=>qs a n*e) (fun _=>d*e)->ELo (a+b) (d*e):=fun f=>((oe a b).symm.le_left.trans g).trans f
 have i:SLe (qs a) (fun _=>d):=(pG a).le_left.trans h;have l:0<=e:=SLe.const ((SR b).trans k);refine f ?_;have j:=i.mul_left (c:=fun _=>e) (fun _=>l) (Bnd.const e);exact(SLe.of_le 0 fun n _=>by show qs a n*e<=e*qs a n;grind).trans (j.trans (SLe.of_le 0 fun n _=>by show e*d<=d*e;grind))
theorem EHi.add {a b d e:Rat}(h:EHi d a)(k:EHi e b)(j:0<=e):EHi (d*e) (a+b):=by
 have f:=SLe.mul_left k (c:=qs a) (fun n=>fX a n) (mD a);have g:SLe (fun _=>d) (qs a):=SLe.trans h (pG a).symm.le_left;have i:=g.mul_left (c:=fun _=>e) (fun _=>j) (Bnd.const e);refine SLe.trans (SLe.of_le 0 fun n _=>?_) (i.trans (SLe.trans (SLe.of_le 0 fun n _=>?_) (f.trans (oe a b).le_left)))
 ·show d*e<=e*d;grind
 ·show e*qs a n<=qs a n*e;grind
theorem ELo.mono {a b d:Rat}(h:ELo a d)(k:b<=a):ELo b d:=(CJ k).trans h
theorem EHi.mono {a b d:Rat}(h:EHi d a)(k:a<=b):EHi d b:=SLe.trans h (CJ k)
def od (z:Rat):Nat->Rat
 |0=>z
 |k+1=>od z k*(z*z)
def ev (z:Rat):Nat->Rat
 |0=>1
 |k+1=>ev z k*(z*z)
def lt (z:Rat)(k:Nat):Rat:=od z k/((2*k+1:Nat):Rat)
def ll (z:Rat)(n:Nat):Rat:=2*ps (lt z) n
theorem gv (z:Rat)(k:Nat):od z k=z*ev z k:=by
 induction k with
 |zero=>simp only[od,ev];grind
 |succ k a=>simp only[od,ev];rw[a];grind
theorem bH (z:Rat)(k:Nat):0<=ev z k:=by
 induction k with
 |zero=>simp only[ev];decide
 |succ k a=>exact mul_nn a (br z)
theorem gp {z:Rat}(h:0<=z)(k:Nat):0<=od z k:=by rw[gv];exact mul_nn h (bH z k)
theorem iW {z w:Rat}(a:0<=z)(h:z<=w):z*z<=w*w:=eD h h (by grind) a
theorem ir {z w:Rat}(a:0<=z)(h:z<=w)(k:Nat):ev z k<=ev w k:=by
 induction k with
 |zero=>exact V2
 |succ k b=>exact eD b (iW a h) (bH w k) (br z)
theorem UB (k:Nat):((2*k+1:Nat):Rat)=2*(k:Rat)+1:=by
 rw[fk,W5];rfl
theorem BD {z w:Rat}(d:0<=z)(h:z<=w)(k:Nat):od w k-od z k<=((2*k+1:Nat):Rat)*((w-z)*ev w k):=by
 rw[UB];induction k with
 |zero=>
  simp only[od,ev];have d:((0:Nat):Rat)=0:=rfl
  rw[d];grind
 |succ k j=>
  have f:0<=w:=by grind
  have n:=bL k;have l:=eD j (V2 (a:=w*w)) (mul_nn (by grind) (mul_nn (by grind) (bH w k))) (br w);have g:od z k<=w*ev w k:=by rw[gv];exact eD h (ir d h k) f (bH z k)
  have i:w*w-z*z<=2*w*(w-z):=by
   have:=mul_nn (a:=w-z) (b:=w-z) (by grind) (by grind);grind
  have m:=eD g i (mul_nn f (bH w k)) (by have:=iW d h;grind);have c:((k+1:Nat):Rat)=(k:Rat)+1:=fk k;simp only[od,ev];rw[c];generalize od w k=a at *
  generalize od z k=b at *
  generalize ev w k=e at *
  generalize (k:Rat)=q at *
  grind
theorem BE {z w:Rat}(d:0<=z)(h:z<=w)(k:Nat):((2*k+1:Nat):Rat)*((w-z)*ev z k)<=od w k-od z k:=by
 rw[UB];induction k with
 |zero=>
  simp only[od,ev];have d:((0:Nat):Rat)=0:=rfl
  rw[d];grind
 |succ k j=>
  have f:0<=w:=by grind
  have n:=bL k;have l:=eD j (V2 (a:=z*z)) (by
   have:=eD h (ir d h k) f (bH z k);rw[gv,gv];grind) (br z)
  have g:z*ev z k<=od w k:=by rw[gv];exact eD h (ir d h k) f (bH z k)
  have i:2*z*(w-z)<=w*w-z*z:=by
   have:=mul_nn (a:=w-z) (b:=w-z) (by grind) (by grind);grind
  have m:=eD g i (gp f k) (mul_nn (by grind) (by grind));have c:((k+1:Nat):Rat)=(k:Rat)+1:=fk k;simp only[od,ev];rw[c];generalize od w k=a at *
  generalize od z k=b at *
  generalize ev z k=e at *
  generalize (k:Rat)=q at *
  grind
theorem mg {z w:Rat}(a:0<=z)(h:z<=w)(k:Nat):lt w k-lt z k<=(w-z)*ev w k:=by
 have b:=BD a h k;have f:=ky (2*k);have hi:=Rat.inv_pos.2 f;unfold lt;rw[V0,V0];generalize ((2*k+1:Nat):Rat)=c at *
 have d:=Vq b (Vj hi);have e:c*((w-z)*ev w k)*c⁻¹=(w-z)*ev w k:=by
  rw[Wx c,VR,Wv c (by grind),VP]
 rw[e]at d;grind
theorem i9 {z w:Rat}(a:0<=z)(h:z<=w)(k:Nat):(w-z)*ev z k<=lt w k-lt z k:=by
 have b:=BE a h k;have f:=ky (2*k);have hi:=Rat.inv_pos.2 f;unfold lt;rw[V0,V0];generalize ((2*k+1:Nat):Rat)=c at *
 have d:=Vq b (Vj hi);have e:c*((w-z)*ev z k)*c⁻¹=(w-z)*ev z k:=by
  rw[Wx c,VR,Wv c (by grind),VP]
 rw[e]at d;grind
theorem rm (z:Rat)(n:Nat):(1-z*z)*ps (ev z) n=1-ev z (n+1):=by
 induction n with
 |zero=>simp only[ps,ev];grind
 |succ n a=>rw[ps,Rat.mul_add,a];simp only[ev];grind
theorem BO {z w:Rat}(d:0<=z)(h:z<=w)(n:Nat):(1-w*w)*(ll w n-ll z n)<=2*(w-z)\/1<w*w:=by
 have f:ll w n-ll z n<=2*(w-z)*ps (ev w) n:=by
  unfold ll;induction n with
  |zero=>
   have:=mg d h 0
   simp only[ps];grind
  |succ n m=>
   have:=mg d h (n+1)
   simp only[ps];grind
 rcases(inferInstance:Decidable (w*w<=1))with g|g
 ·right;grind
 ·left;have i:=Wf f (c:=1-w*w) (by grind);have j:=rm w n;have k:=bH w (n+1);have l:=mul_nn (a:=2*(w-z)) (b:=ev w (n+1)) (by grind) k;have e:(1-w*w)*(2*(w-z)*ps (ev w) n)=2*(w-z)*(1-ev w (n+1)):=by rw[<-j];grind
  rw[e]at i;grind
theorem qa {z w:Rat}(a:0<=z)(h:z<=w)(n:Nat):2*(w-z)*(1-ev z (n+1))<=(1-z*z)*(ll w n-ll z n)\/1<z*z:=by
 have d:2*(w-z)*ps (ev z) n<=ll w n-ll z n:=by
  unfold ll;induction n with
  |zero=>
   have:=i9 a h 0
   simp only[ps];grind
  |succ n i=>
   have:=i9 a h (n+1)
   simp only[ps];grind
 rcases(inferInstance:Decidable (z*z<=1))with f|f
 ·right;grind
 ·left;have b:=Wf d (c:=1-z*z) (by grind);have g:=rm z n;have e:(1-z*z)*(2*(w-z)*ps (ev z) n)=2*(w-z)*(1-ev z (n+1)):=by rw[<-g];grind
  rw[e]at b;exact b
theorem Uo {h:Rat}(c:0<=h)(k:h<=1)(n:Nat):es h n<=1+h+h*h:=by
 have i:=xp c (show n<=2+n by omega)
 have e:=BA c (n:=2) (by
  have:((2:Nat):Rat)=2:=rfl
  rw[this];grind) n
 have j:=di c (2+n);have d:tm h 2=h*h/2:=by
  show 1*h/((0+1:Nat):Rat)*h/((1+1:Nat):Rat)=_;have a:((0+1:Nat):Rat)=1:=rfl;have b:((1+1:Nat):Rat)=2:=rfl;rw[a,b];grind
 have f:tm h 1=h:=by
  show 1*h/((0+1:Nat):Rat)=_;have a:((0+1:Nat):Rat)=1:=rfl;rw[a];grind
 have g:es h 2=1+h+h*h/2:=by
  show 1+tm h 1+tm h 2=_;rw[d,f]
 rw[g,d]at e;grind
theorem ELo.small {h:Rat}(a:0<=h)(b:h<=1):ELo h (1+h+h*h):=SLe.of_le 0 fun n _=>Uo a b n
theorem EHi.small {h:Rat}(a:0<=h):EHi (1+h) h:=SLe.of_le 1 fun _n b=>Z0 a b
theorem ELo.up {a d e:Rat}(h:ELo a d)(k:d<=e):ELo a e:=SLe.trans h (SLe.of_le 0 fun _ _=>k)
def gg (z:Rat):Rat:=(1+z)*(1-z)⁻¹
theorem cW {a:Rat}(h:0<a):a*a⁻¹=1:=Wv a (by grind)
theorem ip {z:Rat}(a:0<=z)(b:z<1):0<=gg z:=mul_nn (by grind) (Vj (Rat.inv_pos.2 (by grind)))
theorem Ll {z w:Rat}(r:0<=z)(h:z<=w)(s:w<1):gg z*(1+2*(w-z)*(1-w*w)⁻¹)<=gg w:=by
 unfold gg;have f:0<1-z:=by grind
 have b:0<1-w:=by grind
 have c:0<1+w:=by grind
 have p:0<1-w*w:=by
  have:=Wr b c;grind
 have q:=cW f;have g:=cW b;have k:=cW c;have i:=cW p;have j:(1-w*w)⁻¹=(1-w)⁻¹*(1+w)⁻¹:=by
  have e:(1-w*w)*((1-w)⁻¹*(1+w)⁻¹)=1:=by
   have:(1-w*w)*((1-w)⁻¹*(1+w)⁻¹)=((1-w)*(1-w)⁻¹)*((1+w)*(1+w)⁻¹):=by grind
   rw[this,g,k];grind
  have d:(1-w*w)⁻¹*((1-w*w)*((1-w)⁻¹*(1+w)⁻¹))=(1-w*w)⁻¹:=by rw[e,VP]
  have l:(1-w*w)⁻¹*((1-w*w)*((1-w)⁻¹*(1+w)⁻¹))=((1-w*w)*(1-w*w)⁻¹)*((1-w)⁻¹*(1+w)⁻¹):=by grind
  rw[l,i,WB]at d;exact d.symm
 rw[j];have m:=Vj (Rat.inv_pos.2 f);have n:=Vj (Rat.inv_pos.2 b);have a:=Vj (Rat.inv_pos.2 c);have o:=mul_nn (mul_nn (mul_nn (br (w-z)) m) n) a;generalize (1-z)⁻¹=A at *
 generalize (1-w)⁻¹=B at *
 generalize (1+w)⁻¹=D at *
 have e:(1+w)*B-(1+z)*A*(1+2*(w-z)*(B*D))=2*((w-z)*(w-z)*A*B*D):=by grind
 grind
theorem Lf (k:Nat):od 0 k=0:=by
 induction k with
 |zero=>rfl
 |succ k a=>simp only[od];rw[a];grind
theorem xL (n:Nat):ll 0 n=0:=by
 have h:∀k,lt 0 k=0:=fun k=>by unfold lt;rw[Lf,V0,Xr]
 unfold ll;have:ps (lt 0) n=0:=by
  induction n with
  |zero=>exact h 0
  |succ n a=>rw[ps,a,h];grind
 rw[this];grind
theorem KX {z w K H:Rat}{n:Nat}(c:0<=z)(h:z<=w)(p:w<1)(j:0<=K)(A:2*(w-z)*(1-w*w)⁻¹<=H)(B:H<=1)(e:ELo (ll z n) (gg z*K)) :
 ELo (ll w n) (gg w*(K*(1+H*H))):=by
 have r:0<1-w*w:=by
  have:=Wr (show 0<1-w by grind) (show 0<1+w by grind);grind
 have v:=cW r;have q:=Vj (Rat.inv_pos.2 r);have⟨m,o⟩:∃m,m=2*(w-z)*(1-w*w)⁻¹:=⟨_,rfl⟩
 have D:0<=m:=by rw[o];exact mul_nn (by grind) q
 have g:=Ll c h p;have u:=BO c h n;have l:=qa c h n;rw[<-o]at A g;have C:ll w n-ll z n<=m:=by
  rcases u with u|u
  ·have:=Vq u q;rw[<-o]at this;have e:(1-w*w)*(ll w n-ll z n)*(1-w*w)⁻¹=ll w n-ll z n:=by
    rw[Wx (1-w*w),VR,v,VP]
   rwa[e]at this
  ·exfalso;grind
 have f:0<=ll w n-ll z n:=by
  have y:∀n,ps (lt z) n<=ps (lt w) n:=by
   intro n;have k:∀i,lt z i<=lt w i:=fun i=>by
    have:=i9 c h i;have:=mul_nn (a:=w-z) (b:=ev z i) (by grind) (bH z i);grind
   induction n with
   |zero=>exact k 0
   |succ n F=>have:=k (n+1);simp only[ps];grind
  have:=y n;unfold ll;grind
 have s:=ELo.small f (by grind);have t:=e.add s (mul_nn (ip c (by grind)) j);rw[show ll z n+(ll w n-ll z n)=ll w n by grind]at t;refine t.up ?_;generalize ll w n-ll z n=d at *
 have E:1+d+d*d<=(1+m)*(1+H*H):=by
  have a:=iW f (show d<=H by grind);have b:=mul_nn D (br H);grind
 have x:=ip c (show z<1 by grind);have G:=eD (V2 (a:=gg z*K)) E (mul_nn x j) (by have:=br d;grind);have I:=eD g (V2 (a:=K*(1+H*H))) (ip (by grind) p) (mul_nn j (by have:=br H;grind));grind
theorem xK {Z d H:Rat}{n:Nat}(h:0<=d)(r:Z<1)(i:2*d*(1-Z*Z)⁻¹<=H)(b:H<=1):∀j:Nat,(j:Rat)*d<=Z ->
 ∃K:Rat,0<=K/\K*(1-(j:Rat)*(H*H))<=1/\ELo (ll ((j:Rat)*d) n) (gg ((j:Rat)*d)*K)
 |0,_=>by
  have g:((0:Nat):Rat)=0:=rfl;refine⟨1,by decide,by rw[g];grind,?_⟩;rw[g,Xr,xL];have:gg 0*1=1:=by
   unfold gg;have:(1-0:Rat)⁻¹=1:=by grind
   rw[this];grind
  rw[this];exact ELo.zero
 |j+1,l=>by
  rw[fk]at l ⊢;have v:=bL j;have u:=mul_nn v h;obtain⟨K,f,B,e⟩:=xK (n:=n) h r i b j (by grind);have A:0<=(j:Rat)*d:=u;have c:(j:Rat)*d<=((j:Rat)+1)*d:=by grind
  have z:((j:Rat)+1)*d<1:=by grind
  have st:=KX A c z f (H:=H) (by
   have q:((j:Rat)+1)*d-(j:Rat)*d=d:=by grind
   rw[q];refine Wp ?_ i;have y:0<=((j:Rat)+1)*d:=by grind
   have D:=iW y l;have pz:0<1-Z*Z:=by
    have:=Wr (show 0<1-Z by grind) (show 0<1+Z by grind);grind
   have pw:0<1-((j:Rat)+1)*d*(((j:Rat)+1)*d):=by grind
   have o:=cW pz;have p:=cW pw;have s:=Rat.inv_pos.2 pz;have m:=Rat.inv_pos.2 pw;generalize ((j:Rat)+1)*d*(((j:Rat)+1)*d)=W at *
   have:(1-W)⁻¹<=(1-Z*Z)⁻¹:=by
    have t:=eD (show 1-Z*Z<=1-W by grind) (V2 (a:=(1-W)⁻¹*(1-Z*Z)⁻¹)) (Vj pw) (mul_nn (Vj m) (Vj s));have w:(1-Z*Z)*((1-W)⁻¹*(1-Z*Z)⁻¹)=(1-W)⁻¹:=by
     have:(1-Z*Z)*((1-W)⁻¹*(1-Z*Z)⁻¹)=(1-W)⁻¹*((1-Z*Z)*(1-Z*Z)⁻¹):=by grind
     rw[this,o,VP]
    have x:(1-W)*((1-W)⁻¹*(1-Z*Z)⁻¹)=(1-Z*Z)⁻¹:=by
     rw[<-VR,p,WB]
    rw[w,x]at t;exact t
   exact eD V2 this (by grind) (Vj m)) b e
  have k:=br H;refine⟨K*(1+H*H),mul_nn f (by grind),?_,st⟩;have C:=mul_nn f (mul_nn (mul_nn (show 0<=(j:Rat)+1 by grind) k) k);grind
theorem Sq {Z:Rat}(s:0<=Z)(t:Z<1)(n:Nat):ELo (ll Z n) (gg Z):=by
 have r:=ip s t;have pz:0<1-Z*Z:=by
  have:=Wr (show 0<1-Z by grind) (show 0<1+Z by grind);grind
 have A:=Rat.inv_pos.2 pz;have⟨c,u⟩:∃c,c=2*Z*(1-Z*Z)⁻¹:=⟨_,rfl⟩
 have p:0<=c:=by rw[u];exact mul_nn (by grind) (Vj A)
 intro f k;have z:=Rat.inv_pos.2 k;obtain⟨N,E⟩:=kv (c+2*(c*c)+4*(c*c)*gg Z*f⁻¹+1);have x:=mul_nn p p;have I:0<=4*(c*c)*gg Z*f⁻¹:=mul_nn (mul_nn (by grind) r) (Vj z);have o:(0:Rat)<N:=by grind
 have j:=cW o;have h:=Rat.inv_pos.2 o;have w:c*(N:Rat)⁻¹<=1:=by
  have:=Vq (show c<=(N:Rat) by grind) (Vj h);rwa[j]at this
 have q:(N:Rat)*(Z*(N:Rat)⁻¹)=Z:=by
  have:(N:Rat)*(Z*(N:Rat)⁻¹)=Z*((N:Rat)*(N:Rat)⁻¹):=by grind
  rw[this,j,VP]
 obtain⟨K,B,v,e⟩:=xK (n:=n) (Z:=Z) (d:=Z*(N:Rat)⁻¹) (H:=c*(N:Rat)⁻¹) (mul_nn s (Vj h)) t (by rw[u];grind) w N (by rw[q];exact V2);rw[q]at e;have hM:(N:Rat)*(c*(N:Rat)⁻¹*(c*(N:Rat)⁻¹))=c*c*(N:Rat)⁻¹:=by
  have:(N:Rat)*(c*(N:Rat)⁻¹*(c*(N:Rat)⁻¹))=c*c*(N:Rat)⁻¹*((N:Rat)*(N:Rat)⁻¹):=by grind
  rw[this,j,VP]
 rw[hM]at v;have⟨m,l⟩:∃m,m=c*c*(N:Rat)⁻¹:=⟨_,rfl⟩
 rw[<-l]at v;have C:0<=m:=by rw[l];exact mul_nn x (Vj h)
 have F:2*m<=1:=by
  have:=Vq (show 2*(c*c)<=(N:Rat) by grind) (Vj h);rw[j]at this;rw[l];grind
 have G:4*(m*gg Z)<=f:=by
  have a:=Vq (show 4*(c*c)*gg Z*f⁻¹<=(N:Rat) by grind) (Vj h);rw[j]at a;have b:=Vq a (Vj k);have y:=cW k;have:4*(c*c)*gg Z*f⁻¹*(N:Rat)⁻¹*f=4*(m*gg Z)*(f*f⁻¹):=by rw[l];grind
  rw[this,y]at b;grind
 have D:K<=2:=by
  have:=mul_nn B (show 0<=1-2*m by grind);grind
 have K3:K<=1+2*m:=by
  have:=mul_nn C (show 0<=2-K by grind);grind
 have g:gg Z*K<=gg Z+f/2:=by
  have:=mul_nn r (show 0<=1+2*m-K by grind);grind
 obtain⟨M,hM⟩:=e (f/2) (jA k);exact⟨M,fun i hi=>by have:=hM i hi;grind⟩
theorem EHi.down {a d e:Rat}(h:EHi d a)(k:e<=d):EHi e a:=SLe.trans (SLe.of_le 0 fun _ _=>k) h
theorem ur {Z:Rat}(a:0<=Z)(b:Z<1):0<1-Z*Z:=by
 have:=Wr (show 0<1-Z by grind) (show 0<1+Z by grind);grind
theorem tJ {a b:Rat}(c:0<a)(h:a<=b):b⁻¹<=a⁻¹:=by
 have d:0<b:=by grind
 have e:=cW c;have f:=cW d;have g:=Rat.inv_pos.2 c;have i:=Rat.inv_pos.2 d;have t:=Vq h (Vj (Wr g i));have j:a*(a⁻¹*b⁻¹)=b⁻¹:=by rw[<-VR,e,WB]
 have k:b*(a⁻¹*b⁻¹)=a⁻¹:=by
  have:b*(a⁻¹*b⁻¹)=a⁻¹*(b*b⁻¹):=by grind
  rw[this,f,VP]
 rw[j,k]at t;exact t
theorem KI {z w:Rat}(i:0<=z)(h:z<=w)(o:w<1):gg w=gg z*(1+2*(w-z)*(1-z*z)⁻¹*(1+(w-z)*(1-w)⁻¹)):=by
 unfold gg;have j:0<1-z:=by grind
 have k:0<1-w:=by grind
 have m:0<1+z:=by grind
 have l:=ur i (show z<1 by grind);have b:=cW j;have n:=cW k;have f:=cW m;have c:=cW l;have d:(1-z*z)⁻¹=(1-z)⁻¹*(1+z)⁻¹:=by
  have e:(1-z*z)*((1-z)⁻¹*(1+z)⁻¹)=1:=by
   have:(1-z*z)*((1-z)⁻¹*(1+z)⁻¹)=((1-z)*(1-z)⁻¹)*((1+z)*(1+z)⁻¹):=by grind
   rw[this,b,f];grind
  have a:(1-z*z)⁻¹*((1-z*z)*((1-z)⁻¹*(1+z)⁻¹))=(1-z*z)⁻¹:=by rw[e,VP]
  have g:(1-z*z)⁻¹*((1-z*z)*((1-z)⁻¹*(1+z)⁻¹))=((1-z*z)*(1-z*z)⁻¹)*((1-z)⁻¹*(1+z)⁻¹):=by grind
  rw[g,c,WB]at a;exact a.symm
 rw[d];generalize (1-z)⁻¹=A at *
 generalize (1-w)⁻¹=B at *
 generalize (1+z)⁻¹=D at *
 grind
theorem Lq {z w K R:Rat}{m:Nat}(c:0<=z)(h:z<=w)(y:w<1)(B:0<=K)(C:2*(w-z)*(1-z*z)⁻¹*(ev z (m+1)+(w-z)*(1-w)⁻¹)<=R)(D:R<=1)(e:EHi (gg z*K) (ll z m)) :
 EHi (gg w*(K*(1-R))) (ll w m):=by
 have p:=ur c (show z<1 by grind);have r:=cW p;have o:=Vj (Rat.inv_pos.2 p);have E:=Vj (Rat.inv_pos.2 (show 0<1-w by grind));have⟨a,j⟩:∃a,a=2*(w-z)*(1-z*z)⁻¹:=⟨_,rfl⟩
 have q:0<=a:=by rw[j];exact mul_nn (by grind) o
 have g:=KI c h y;have l:=qa c h m;rw[<-j]at C g;have I:a*(1-ev z (m+1))<=ll w m-ll z m:=by
  rcases l with l|l
  ·have:=Vq l o;have s:(1-z*z)*(ll w m-ll z m)*(1-z*z)⁻¹=ll w m-ll z m:=by
    rw[Wx (1-z*z),VR,r,VP]
   have u:2*(w-z)*(1-ev z (m+1))*(1-z*z)⁻¹=a*(1-ev z (m+1)):=by rw[j];grind
   rwa[s,u]at this
  ·exfalso;grind
 have f:0<=ll w m-ll z m:=by
  have A:∀n,ps (lt z) n<=ps (lt w) n:=by
   intro n;have k:∀i,lt z i<=lt w i:=fun i=>by
    have:=i9 c h i;have:=mul_nn (a:=w-z) (b:=ev z i) (by grind) (bH z i);grind
   induction n with
   |zero=>exact k 0
   |succ n J=>have:=k (n+1);simp only[ps];grind
  have:=A m;unfold ll;grind
 have t:=e.add (EHi.small f) (by grind);rw[show ll z m+(ll w m-ll z m)=ll w m by grind]at t;refine t.down ?_;have x:=ip c (show z<1 by grind);have H:=bH z (m+1);have b0:=mul_nn (show 0<=w-z by grind) E;have N:=mul_nn q (show 0<=ev z (m+1)+(w-z)*(1-w)⁻¹ by grind);generalize ll w m-ll z m=d at *
 generalize (w-z)*(1-w)⁻¹=b at *
 generalize ev z (m+1)=v at *
 have F:1+a*(1+b)<=(1+d)*(1+R):=by
  have:=mul_nn f (show 0<=R by grind);grind
 have G:(1+a*(1+b))*(1-R)<=1+d:=by
  have L:=Vq F (show 0<=1-R by grind);have p2:=mul_nn (show 0<=1+d by grind) (br R);grind
 have M:=Wf G (mul_nn x B);rw[g];grind
theorem xD {Z d R:Rat}{m:Nat}(i:0<=Z)(a:0<=d)(l:Z<1)(k:2*d*(1-Z*Z)⁻¹*(ev Z (m+1)+d*(1-Z)⁻¹)<=R)(b:R<=1):∀j:Nat,(j:Rat)*d<=Z ->
 ∃K:Rat,0<=K/\1-(j:Rat)*R<=K/\EHi (gg ((j:Rat)*d)*K) (ll ((j:Rat)*d) m)
 |0,_=>by
  have h:((0:Nat):Rat)=0:=rfl;refine⟨1,by decide,by rw[h];grind,?_⟩;rw[h,Xr,xL];have:gg 0*1=1:=by
   unfold gg;have:(1-0:Rat)⁻¹=1:=by grind
   rw[this];grind
  rw[this];exact EHi.zero
 |j+1,s=>by
  rw[fk]at s ⊢;have n:=bL j;have g:=mul_nn n a;obtain⟨K,o,B,e⟩:=xD (m:=m) i a l k b j (by grind);have f:(j:Rat)*d<=((j:Rat)+1)*d:=by grind
  have y:((j:Rat)+1)*d<1:=by grind
  have p:=ur i l;have w:=Rat.inv_pos.2 (show 0<1-Z by grind);have c:=Rat.inv_pos.2 p;have q:0<=R:=by
   have:=mul_nn (mul_nn (show 0<=2*d by grind) (Vj c)) (show 0<=ev Z (m+1)+d*(1-Z)⁻¹ by
    have:=mul_nn a (Vj w);have:=bH Z (m+1);grind)
   grind
  have st:=Lq g f y o (R:=R) (by
   have r:((j:Rat)+1)*d-(j:Rat)*d=d:=by grind
   rw[r];refine Wp ?_ k;have F:=iW g (show(j:Rat)*d<=Z by grind);have t:=tJ p (show 1-Z*Z<=1-(j:Rat)*d*((j:Rat)*d) by grind);have u:=tJ (show 0<1-Z by grind) (show 1-Z<=1-((j:Rat)+1)*d by grind);have z:=ir g (show(j:Rat)*d<=Z by grind) (m+1);have A:=bH ((j:Rat)*d) (m+1);have v:=Rat.inv_pos.2 (show 0<1-((j:Rat)+1)*d by grind);have x:=Wf t (show 0<=2*d by grind);have D:=Wf u a;have E:=mul_nn a (Vj v);exact eD x (by grind) (mul_nn (by grind) (Vj c)) (by grind)) b e
  refine⟨K*(1-R),mul_nn o (by grind),?_,st⟩;have C:=mul_nn (show 0<=K-(1-(j:Rat)*R) by grind) (show 0<=1-R by grind);have k3:=mul_nn n (mul_nn q q);grind
theorem Kz {Z:Rat}(a:0<=Z)(b:Z<1)(m:Nat):ev Z m*(1+(m:Rat)*(1-Z*Z))<=1:=by
 have p:=ur a b;have e:=br Z;induction m with
 |zero=>
  have a:((0:Nat):Rat)=0:=rfl
  simp only[ev];rw[a];grind
 |succ m c=>
  have d:=bL m;have en:=bH Z m;rw[fk];simp only[ev];have k:=mul_nn en (mul_nn (show 0<=(m:Rat)+1 by grind) (br (1-Z*Z)));generalize hz:Z*Z=z at *
  grind
theorem xr {Z δ:Rat}(c:0<=Z)(d:Z<1)(a:0<δ):∃m,ev Z (m+1)<=δ:=by
 have p:=ur c d;have o:=Rat.inv_pos.2 p;have l:=Rat.inv_pos.2 a;have n:=cW p;have f:=cW a;obtain⟨m,k⟩:=kv (δ⁻¹*(1-Z*Z)⁻¹);refine⟨m,?_⟩;have b:=Kz c d (m+1);rw[fk]at b;have g:=bH Z (m+1);have h:δ⁻¹<=1+((m:Rat)+1)*(1-Z*Z):=by
  have:=Vq k (Vj p);have e:δ⁻¹*(1-Z*Z)⁻¹*(1-Z*Z)=δ⁻¹:=by
   rw[VR,Wx (1-Z*Z)⁻¹,n,VP]
  rw[e]at this;grind
 have i:=Wf h g;have j:=Vq (Wp i b) (Vj a);have e:ev Z (m+1)*δ⁻¹*δ=ev Z (m+1):=by
  rw[VR,Wx δ⁻¹,f,VP]
 rw[e]at j;grind
theorem Sp {Z b:Rat}(j:0<=Z)(n:Z<1)(I:∀m,ll Z m<=b):EHi (gg Z) b:=by
 have u:=ip j n;have pz:=ur j n;have O:=Rat.inv_pos.2 pz;have iB:=Rat.inv_pos.2 (show 0<1-Z by grind);have⟨C,w⟩:∃C,C=2*Z*(1-Z*Z)⁻¹:=⟨_,rfl⟩
 have q:0<=C:=by rw[w];exact mul_nn (by grind) (Vj O)
 have⟨B,v⟩:∃B,B=Z*(1-Z)⁻¹:=⟨_,rfl⟩
 have z:0<=B:=by rw[v];exact mul_nn j (Vj iB)
 intro h J;have T:=mul_nn u q;have y:0<gg Z*C+1:=by grind
 have L:=Rat.inv_pos.2 y;have H:=cW y;have⟨f,l⟩:∃f,f=h/4*(gg Z*C+1)⁻¹:=⟨_,rfl⟩
 have k:0<f:=by rw[l];exact Wr (by grind) L
 have S:gg Z*C*f<=h/4:=by
  have e:(gg Z*C+1)*f=h/4:=by
   rw[l];have:(gg Z*C+1)*(h/4*(gg Z*C+1)⁻¹)=h/4*((gg Z*C+1)*(gg Z*C+1)⁻¹):=by grind
   rw[this,H,VP]
  grind
 have A:=Rat.inv_pos.2 k;have r:=cW k;obtain⟨m,W⟩:=xr j n k;obtain⟨N,U⟩:=kv (B*f⁻¹+2*(C*f)+1);have t0:=mul_nn z (Vj A);have t1:=mul_nn q (Vj k);have s:(0:Rat)<N:=by grind
 have p:=cW s;have o:=Rat.inv_pos.2 s;have P:B*(N:Rat)⁻¹<=f:=by
  have a:=Vq (show B*f⁻¹<=(N:Rat) by grind) (Vj o);rw[p]at a;have c:=Vq a (Vj k);have e:B*f⁻¹*(N:Rat)⁻¹*f=B*(N:Rat)⁻¹*(f*f⁻¹):=by grind
  rw[e,r]at c;grind
 have Q:2*(C*f)*(N:Rat)⁻¹<=1:=by
  have a:=Vq (show 2*(C*f)<=(N:Rat) by grind) (Vj o);rwa[p]at a
 have t:(N:Rat)*(Z*(N:Rat)⁻¹)=Z:=by
  have:(N:Rat)*(Z*(N:Rat)⁻¹)=Z*((N:Rat)*(N:Rat)⁻¹):=by grind
  rw[this,p,VP]
 obtain⟨K,Y,x,e⟩:=xD (m:=m) (Z:=Z) (d:=Z*(N:Rat)⁻¹) (R:=C*(N:Rat)⁻¹*(2*f)) j (mul_nn j (Vj o)) n (by
  have D:2*(Z*(N:Rat)⁻¹)*(1-Z*Z)⁻¹=C*(N:Rat)⁻¹:=by rw[w];grind
  have E:Z*(N:Rat)⁻¹*(1-Z)⁻¹=B*(N:Rat)⁻¹:=by rw[v];grind
  rw[D,E];exact Wf (by grind) (mul_nn q (Vj o))) (by grind) N (by rw[t];exact V2)
 rw[t]at e;have F:(N:Rat)*(C*(N:Rat)⁻¹*(2*f))=2*(C*f):=by
  have:(N:Rat)*(C*(N:Rat)⁻¹*(2*f))=2*(C*f)*((N:Rat)*(N:Rat)⁻¹):=by grind
  rw[this,p,VP]
 rw[F]at x;have g:gg Z<=gg Z*K+h/2:=by
  have:=Wf x u;grind
 have G:=e.mono (I m);obtain⟨M,hM⟩:=G (h/2) (jA J);exact⟨M,fun i hi=>by have:=hM i hi;grind⟩
theorem ELo.inv {a d:Rat}(h:ELo a d)(b:0<d):EHi d⁻¹ (-a):=by
 have i:=Rat.inv_pos.2 b;have m:=cW b;have e:=SLe.mul_left h (c:=qs (-a)) (fun n=>fX _ n) (mD _);have f:=(rO a).symm.le_left.trans e;have g:=f.mul_left (c:=fun _=>d⁻¹) (fun _=>Vj i) (Bnd.const _);refine SLe.trans (SLe.of_le 0 fun n _=>?_) (g.trans (SLe.trans (SLe.of_le 0 fun n _=>?_) (pG (-a)).le_left))
 ·show d⁻¹<=d⁻¹*1;grind
 ·show d⁻¹*(qs (-a) n*d)<=qs (-a) n;have:d⁻¹*(qs (-a) n*d)=qs (-a) n*(d*d⁻¹):=by grind
  rw[this,m];grind
theorem EHi.inv {a d:Rat}(h:EHi d a)(b:0<d):ELo (-a) d⁻¹:=by
 have i:=Rat.inv_pos.2 b;have m:=cW b;have e:=SLe.mul_left h (c:=qs (-a)) (fun n=>fX _ n) (mD _);have f:=e.trans (rO a).le_left;have g:=f.mul_left (c:=fun _=>d⁻¹) (fun _=>Vj i) (Bnd.const _);refine(pG (-a)).symm.le_left.trans (SLe.trans (SLe.of_le 0 fun n _=>?_) (g.trans (SLe.of_le 0 fun n _=>?_)))
 ·show qs (-a) n<=d⁻¹*(qs (-a) n*d);have:d⁻¹*(qs (-a) n*d)=qs (-a) n*(d*d⁻¹):=by grind
  rw[this,m];grind
 ·show d⁻¹*1<=d⁻¹;grind
theorem Nc {a:Rat}(h:0<a):(a⁻¹)⁻¹=a:=by
 have m:=cW h;have b:=cW (Rat.inv_pos.2 h);have:(a*a⁻¹)*(a⁻¹)⁻¹=a*(a⁻¹*(a⁻¹)⁻¹):=by grind
 rw[m,b]at this;grind
theorem Ua (z:Rat)(k:Nat):od (-z) k=- od z k:=by
 induction k with
 |zero=>rfl
 |succ k a=>simp only[od];rw[a];grind
theorem ou (z:Rat)(k:Nat):lt (-z) k=- lt z k:=by
 unfold lt;rw[Ua,V0,V0,aam]
theorem Tq (z:Rat)(n:Nat):ll (-z) n=- ll z n:=by
 have:ps (lt (-z)) n=- ps (lt z) n:=by
  induction n with
  |zero=>exact ou z 0
  |succ n a=>rw[ps,ps,a,ou];grind
 unfold ll;rw[this];grind
theorem wu {z:Rat}(a:-1<z)(b:z<1):0<gg z:=Wr (by grind) (Rat.inv_pos.2 (by grind))
theorem TE {z:Rat}(c:-1<z)(d:z<1):gg (-z)=(gg z)⁻¹:=by
 have p:=wu c d;have m:=cW p;have e:gg z*gg (-z)=1:=by
  unfold gg;have a:=cW (show 0<1-z by grind);have b:=cW (show 0<1 - -z by grind);have:(1+z)*(1-z)⁻¹*((1+-z)*(1 - -z)⁻¹)=((1-z)*(1-z)⁻¹)*((1 - -z)*(1 - -z)⁻¹):=by grind
  rw[this,a,b];grind
 have:(gg z)⁻¹*(gg z*gg (-z))=gg z*(gg z)⁻¹*gg (-z):=by grind
 rw[e,m]at this;grind
theorem KV {z:Rat}(a:0<=z){n m:Nat}(h:n<=m):ll z n<=ll z m:=by
 have:=DF (f:=lt z) (fun i=>by
  unfold lt;rw[V0];exact mul_nn (gp a i) (Vj (Rat.inv_pos.2 (ky (2*i))))) h
 unfold ll;grind
theorem q56 {z a b:Rat}(c:-1<z)(d:z<1)(n:Nat)(h:∀k,n<=k->a<=ll z k/\ll z k<=b):ELo a (gg z)/\EHi (gg z) b:=by
 have pos:∀{z a b:Rat},0<=z->z<1->(∀k,n<=k->a<=ll z k/\ll z k<=b)->ELo a (gg z)/\EHi (gg z) b:=by
  intro z a b c d h;refine⟨(Sq c d n).mono (h n (Vo _)).1,Sp c d fun m=>?_⟩;have:=(h (max n m) (by omega)).2;exact Wp (KV c (by omega)) this
 rcases(inferInstance:Decidable (0<=z))with hz|hz
 ·have p:=wu c d;obtain⟨g,i⟩:=pos (z:=-z) (a:=-b) (b:=-a) (by grind) (by grind) fun k j=>by
   obtain⟨u,v⟩:=h k j;rw[Tq];constructor<;>grind
  rw[TE c d]at g i;have e:=g.inv (Rat.inv_pos.2 p);have f:=i.inv (Rat.inv_pos.2 p);rw[Nc p]at e f;rw[show - -b=b by grind]at e;rw[show - -a=a by grind]at f;exact⟨f,e⟩
 ·exact pos hz d h
theorem KW {z c:Rat}(hz:2*(z*z)<=1)(n:Nat)(e:Bd (od z n) c)(j:Nat):Bd (ll z (n+j)-ll z n) (2*c):=by
 have t:=br z;have a:∀j,∃d:Rat,0<=d/\Bd (od z (n+j)) d/\Bd (ps (lt z) (n+j)-ps (lt z) n) (c-d):=by
  intro j;induction j with
  |zero=>exact⟨c,e.nn,e,by constructor<;>grind⟩
  |succ j q=>
   obtain⟨d,g,h,i⟩:=q;have r:Bd (z*z) (1/2):=by constructor<;>grind
   have b:=h.mul r;refine⟨d*(1/2),by grind,b,?_⟩;have o:=ky (2*(n+j+1));have k:Bd (lt z (n+j+1)) (d*(1/2)):=by
    have m:(1:Rat)<=((2*(n+j+1)+1:Nat):Rat):=by
     have:=gm (show 1<=2*(n+j+1)+1 by omega);exact this
    have l:=b.div o;have s:d*(1/2)/((2*(n+j+1)+1:Nat):Rat)<=d*(1/2):=by
     have f:=tJ (show(0:Rat)<1 by decide) m;have p:(1:Rat)⁻¹=1:=by grind
     rw[p]at f;rw[V0];have:=Wf f (show 0<=d*(1/2) by grind);grind
    obtain⟨u,v⟩:=l;exact⟨by unfold lt;simp only[od];grind,by unfold lt;simp only[od];grind⟩
   rw[show n+(j+1)=n+j+1 by omega];simp only[ps];have:=i.add k;obtain⟨u,v⟩:=this;constructor<;>grind
 obtain⟨d,g,_,u,v⟩:=a j;unfold ll;constructor<;>grind
theorem v7 (x:Rat)(n:Nat):tm (-x) n=tm x n\/tm (-x) n=- tm x n:=by
 induction n with
 |zero=>left;rfl
 |succ n a=>
  simp only[tm];rw[V0,V0];rcases a with h|h<;>rw[h]
  ·right;grind
  ·left;grind
theorem xq {x c:Rat}(r:-1<=2*x)(i:2*x<=1){n:Nat}(l:1<=n)(k:Bd (tm x n) c)(j:Nat):Bd (es x (n+j)-es x n) c:=by
 have pos:∀{y:Rat},0<=y->2*y<=1->Bd x y->(tm y n<=c)->Bd (es x (n+j)-es x n) c:=by
  intro y e t o s;have p:=gm l;have g:((1:Nat):Rat)=1:=rfl;rw[g]at p;have a:=BA e (n:=n) (by grind) j;have b:=di e (n+j);obtain⟨u,v⟩:=dH (fS o) (show n<=n+j by omega);have d:∀z m,es z m=ps (tm z) m:=fun _ _=>rfl
  rw[d,d]at a;rw[d,d];constructor<;>grind
 obtain⟨q,f⟩:=k;rcases(inferInstance:Decidable (0<=x))with hz|hz
 ·refine pos (y:=-x) (by grind) (by grind) ⟨by grind,by grind⟩ ?_;rcases v7 x n with h|h<;>rw[h]<;>grind
 ·exact pos hz i ⟨by grind,by grind⟩ f
