/- Parts of the proof: FpEx, FpEx2, FpEx3, FpEx4, FpEx5, FpEx6, FpEx7, FpEx8, FpEx9, FpExA, FpExB. -/
namespace Go.Abs.W
def tm (x:Rat):Nat->Rat
 |0=>1
 |n+1=>tm x n*x/(n+1:Nat)
def ps (f:Nat->Rat):Nat->Rat
 |0=>f 0
 |n+1=>ps f n+f (n+1)
def cv (f g:Nat->Rat):Nat->Rat
 |0=>f 0*g 0
 |k+1=>f 0*g (k+1)+cv (fun i=>f (i+1)) g k
theorem qa1 (n:Nat):((n+1:Nat):Rat)=(n:Rat)+1:=by
 simp
theorem natnn : ∀n:Nat,(0:Rat)<=(n:Rat)
 |0=>Rat.le_refl
 |n+1=>by rw[qa1];have:=natnn n;grind
theorem qu0 (n:Nat):(0:Rat)<((n+1:Nat):Rat):=by
 rw[qa1];have:=natnn n;grind
theorem qpx (x:Rat)(n:Nat):((n+1:Nat):Rat)*tm x (n+1)=x*tm x n:=by
 have h:=qu0 n;show _*(tm x n*x/_)=_;generalize ((n+1:Nat):Rat)=c at *
 have hc:c≠0:=by grind
 grind
theorem q58 (f h g:Nat->Rat)(k:Nat):cv (fun i=>f i+h i) g k=cv f g k+cv h g k:=by
 induction k generalizing f h with
 |zero=>simp only[cv];grind
 |succ k ih=>simp only[cv];rw[ih];grind
theorem q37 (c:Rat)(f g:Nat->Rat)(k:Nat):cv (fun i=>c*f i) g k=c*cv f g k:=by
 induction k generalizing f with
 |zero=>simp only[cv];grind
 |succ k ih=>simp only[cv];rw[ih];grind
theorem qad6 (f g:Nat->Rat)(k:Nat):cv (fun i=>(i:Rat)*f i) g k+cv f (fun i=>(i:Rat)*g i) k=(k:Rat)*cv f g k:=by
 induction k generalizing f with
 |zero=>simp only[cv];have h0:((0:Nat):Rat)=0:=rfl
        rw[h0];grind
 |succ k ih=>
  have h1:(fun i:Nat=>((i+1:Nat):Rat)*f (i+1))=(fun i=>f (i+1)+(i:Rat)*f (i+1)):=by
   funext i;rw[qa1];grind
  have h2:=ih (fun i=>f (i+1));simp only[cv];rw[h1,q58];have h3:=qa1 k;simp only[h3];have h0:((0:Nat):Rat)=0:=rfl;rw[h0];grind
theorem qahi (y:Rat)(f g g':Nat->Rat)(h0:g' 0=0)(h1:∀j,g' (j+1)=y*g j)(k:Nat):cv f g' (k+1)=y*cv f g k:=by
 induction k generalizing f with
 |zero=>simp only[cv];rw[h0,h1];grind
 |succ k ih=>
  have:=ih (fun i=>f (i+1));rw[cv,this,h1];simp only[cv];grind
theorem cv_tm (x y:Rat)(k:Nat):cv (tm x) (tm y) k=tm (x+y) k:=by
 induction k with
 |zero=>simp[cv,tm]
 |succ k ih=>
  have h1:=qad6 (tm x) (tm y) (k+1);have h2:cv (fun i=>(i:Rat)*tm x i) (tm y) (k+1)=x*cv (tm x) (tm y) k:=by
   rw[cv];have e:(fun i:Nat=>((i+1:Nat):Rat)*tm x (i+1))=fun i=>x*tm x i:=by funext i;exact qpx x i
   rw[e,q37];have h0:((0:Nat):Rat)=0:=rfl;rw[h0];grind
  have h3:=qahi y (tm x) (tm y) (fun i=>(i:Rat)*tm y i) (by simp) (fun j=>qpx y j) k;rw[h2,h3,ih]at h1;have h4:=qpx (x+y) k;have hp:=qu0 k;generalize ((k+1:Nat):Rat)=c at *
  have hc:c≠0:=by grind
  have:c*cv (tm x) (tm y) (k+1)=c*tm (x+y) (k+1):=by grind
  grind
theorem ps_cv (f g:Nat->Rat)(m:Nat):ps (cv f g) m=cv f (ps g) m:=by
 have key:∀(m:Nat) (f:Nat->Rat),ps (cv f g) (m+1)=f 0*ps g (m+1)+ps (cv (fun i=>f (i+1)) g) m:=by
  intro m f;induction m with
  |zero=>simp only[ps,cv];grind
  |succ m ih=>rw[ps,ih];simp only[ps,cv];grind
 induction m generalizing f with
 |zero=>rfl
 |succ m ih=>rw[key,ih];rfl
def Bd (x a:Rat):Prop:=-a<=x/\x<=a
theorem Bd.nn {x a:Rat}(h:Bd x a):0<=a:=by obtain⟨h1,h2⟩:=h;grind
theorem Bd.add {x a y b:Rat}(h:Bd x a)(k:Bd y b):Bd (x+y) (a+b):=by
 obtain⟨h1,h2⟩:=h;obtain⟨k1,k2⟩:=k;constructor<;>grind
theorem mul_nn {a b:Rat}(ha:0<=a)(hb:0<=b):0<=a*b:=Rat.mul_nonneg ha hb
theorem qfx {a b c d:Rat}(h1:a<=b)(h2:c<=d)(hb:0<=b)(hc:0<=c):a*c<=b*d:=by
 have e1:=mul_nn (a:=b-a) (b:=c) (by grind) hc;have e2:=mul_nn (a:=b) (b:=d-c) hb (by grind);grind
theorem Bd.mul {x a y b:Rat}(h:Bd x a)(k:Bd y b):Bd (x*y) (a*b):=by
 obtain⟨h1,h2⟩:=h;obtain⟨k1,k2⟩:=k;have e1:=mul_nn (a:=a+x) (b:=b+y) (by grind) (by grind);have e2:=mul_nn (a:=a-x) (b:=b-y) (by grind) (by grind);have e3:=mul_nn (a:=a-x) (b:=b+y) (by grind) (by grind);have e4:=mul_nn (a:=a+x) (b:=b-y) (by grind) (by grind);constructor<;>grind
theorem Bd.div {x a c:Rat}(h:Bd x a)(hc:0<c):Bd (x/c) (a/c):=by
 obtain⟨h1,h2⟩:=h;have hi:0<c⁻¹:=Rat.inv_pos.2 hc;have e1:=mul_nn (a:=a+x) (b:=c⁻¹) (by grind) (by grind);have e2:=mul_nn (a:=a-x) (b:=c⁻¹) (by grind) (by grind);rw[Rat.div_def,Rat.div_def];constructor<;>grind
theorem tm_Bd {x a:Rat}(h:Bd x a):∀n,Bd (tm x n) (tm a n)
 |0=>by simp only[tm,Bd];grind
 |n+1=>((tm_Bd h n).mul h).div (qu0 n)
theorem tm_nn {a:Rat}(h:0<=a)(n:Nat):0<=tm a n:=(tm_Bd (x:=a) (a:=a) ⟨by grind,by grind⟩ n).nn
theorem cv_Bd {f F:Nat->Rat}(hf:∀i,Bd (f i) (F i)):∀{d D:Nat->Rat} {m:Nat},(∀j,j<=m->Bd (d j) (D j))->Bd (cv f d m) (cv F D m):=by
 intro d D m hd;induction m generalizing f F with
 |zero=>exact(hf 0).mul (hd 0 (Nat.le_refl _))
 |succ m ih=>exact((hf 0).mul (hd _ (Nat.le_refl _))).add (ih (fun i=>hf (i+1)) (fun j hj=>hd j (by omega)))
theorem ps_Bd {f F:Nat->Rat}(hf:∀i,Bd (f i) (F i)){n m:Nat}(h:n<=m):Bd (ps f m-ps f n) (ps F m-ps F n):=by
 induction m with
 |zero=>obtain rfl:n=0:=by omega
        constructor<;>grind
 |succ m ih=>
  rcases Nat.lt_or_ge n (m+1)with h1|h1
  ·have:=(ih (by omega)).add (hf (m+1));simp only[ps];obtain⟨a,b⟩:=this;constructor<;>grind
  ·obtain rfl:n=m+1:=by omega
   constructor<;>grind
theorem q36 (f g:Nat->Rat)(c:Rat)(m:Nat):cv f (fun j=>c-g j) m=ps f m*c-cv f g m:=by
 have key:∀(m:Nat) (f:Nat->Rat),ps f (m+1)=f 0+ps (fun i=>f (i+1)) m:=by
  intro m f;induction m with
  |zero=>simp only[ps]
  |succ m ih=>rw[ps,ih];simp only[ps];grind
 induction m generalizing f with
 |zero=>simp only[cv,ps];grind
 |succ m ih=>rw[cv,ih,key];simp only[cv];grind
def es (x:Rat)(n:Nat):Rat:=ps (tm x) n
theorem q54 (x y:Rat)(m:Nat):es x m*es y m-es (x+y) m=cv (tm x) (fun j=>es y m-es y j) m:=by
 have h:es (x+y) m=cv (tm x) (fun j=>es y j) m:=by
  have:=ps_cv (tm x) (tm y) m;rw[show cv (tm x) (tm y)=tm (x+y) from funext (cv_tm x y)]at this;exact this
 rw[q36,h];rfl
theorem qy8 {x y a b:Rat}(hx:Bd x a)(hy:Bd y b)(m:Nat):Bd (es x m*es y m-es (x+y) m) (es a m*es b m-es (a+b) m):=by
 rw[q54,q54];exact cv_Bd (tm_Bd hx) fun j hj=>ps_Bd (tm_Bd hy) hj
theorem qz4 {f:Nat->Rat}(hf:∀i,0<=f i){n m:Nat}(h:n<=m):ps f n<=ps f m:=by
 have:=(ps_Bd (f:=f) (F:=f) (fun i=>⟨by have:=hf i;grind,by grind⟩) h).nn;grind
theorem ps_nn {f:Nat->Rat}(hf:∀i,0<=f i)(n:Nat):0<=ps f n:=by
 have h:=qz4 hf (Nat.zero_le n);have h0:=hf 0;simp only[ps]at h;grind
theorem cv_nn {f G:Nat->Rat}(hf:∀i,0<=f i)(hg:∀i,0<=G i)(m:Nat):0<=cv f G m:=by
 induction m generalizing f with
 |zero=>exact mul_nn (hf 0) (hg 0)
 |succ m ih=>
  have h1:=mul_nn (hf 0) (hg (m+1));have h2:=ih (f:=fun i=>f (i+1)) (fun i=>hf _);simp only[cv];grind
theorem qagl (f:Nat->Rat)(m:Nat):ps f (m+1)=f 0+ps (fun i=>f (i+1)) m:=by
 induction m with
 |zero=>simp only[ps]
 |succ m ih=>rw[ps,ih];simp only[ps];grind
theorem qab2 {f g:Nat->Rat}(hf:∀i,0<=f i)(hg:∀i,0<=g i)(h k:Nat):ps f h*ps g k<=cv f (ps g) (h+k):=by
 have gn:=ps_nn hg;induction h generalizing f with
 |zero=>
  rw[Nat.zero_add];cases k with
  |zero=>exact Rat.le_refl
  |succ k=>
   have h2:=cv_nn (f:=fun i=>f (i+1)) (fun i=>hf _) gn k;simp only[cv];show f 0*_<=_;grind
 |succ h ih=>
  have h1:=ih (f:=fun i=>f (i+1)) (fun i=>hf _);have h2:=qfx (a:=f 0) (b:=f 0) Rat.le_refl (qz4 hg (show k<=h+1+k by omega)) (hf 0) (gn k);rw[qagl,show h+1+k=h+k+1 by omega,cv];rw[show h+1+k=h+k+1 by omega]at h2;grind
theorem qadr {a:Rat}(h:0<=a){n m:Nat}(hn:n<=m):es a n<=es a m:=qz4 (tm_nn h) hn
theorem q3x {a b:Rat}(ha:0<=a)(hb:0<=b)(m:Nat):es a m*es b m<=es (a+b) (m+m):=by
 have h:=ps_cv (tm a) (tm b) (m+m);rw[show cv (tm a) (tm b)=tm (a+b) from funext (cv_tm a b)]at h;show _<=ps _ _;rw[h];exact qab2 (tm_nn ha) (tm_nn hb) m m
theorem qaax {c:Rat}(h:0<=c){n:Nat}(hn:2*c<=(n:Rat)):2*tm c (n+1)<=tm c n:=by
 have h1:=qpx c n;have h2:=tm_nn h n;have h3:=tm_nn h (n+1);rw[qa1]at h1;have h4:=mul_nn (a:=(n:Rat)+1-2*c) (b:=tm c (n+1)) (by grind) h3;by_cases h0:c=0
 ·subst h0;show 2*(tm 0 n*0/_)<=_;rw[Rat.mul_zero,Rat.div_def,Rat.zero_mul];grind
 ·have hc0:0<c:=by grind
  have h5:0<=c*(tm c n-2*tm c (n+1)):=by grind
  have hi:0<c⁻¹:=Rat.inv_pos.2 hc0;have h6:=mul_nn (a:=c⁻¹) (by grind) h5;have h7:c⁻¹*c=1:=by grind
  rw[<-Rat.mul_assoc,h7,Rat.one_mul]at h6;grind
theorem qzv {c:Rat}(h:0<=c){n:Nat}(hn:2*c<=(n:Rat))(j:Nat):es c (n+j)-es c n+tm c (n+j)<=tm c n:=by
 induction j with
 |zero=>simp only[Nat.add_zero];grind
 |succ j ih=>
  have h1:=qaax h (n:=n+j) (by rw[Rat.natCast_add];have:=natnn j;grind);rw[show n+(j+1)=n+j+1 by omega];show ps _ _+tm c (n+j+1)-_+_<=_;have:es c (n+j)=ps (tm c) (n+j):=rfl;grind
theorem qame {c:Rat}(h:0<=c){n:Nat}(hn:2*c<=(n:Rat))(j:Nat):((j:Rat)+1)*tm c (n+j)<=tm c n:=by
 induction j with
 |zero=>simp only[Nat.add_zero];have h0:((0:Nat):Rat)=0:=rfl
        rw[h0];grind
 |succ j ih=>
  have h1:=qaax h (n:=n+j) (by rw[Rat.natCast_add];have:=natnn j;grind);have h2:=tm_nn h (n+j+1);have h3:=natnn j;rw[qa1,show n+(j+1)=n+j+1 by omega];have h4:=mul_nn h3 h2;have h5:=mul_nn (a:=(j:Rat)+1) (b:=tm c (n+j)-2*tm c (n+j+1)) (by grind) (by grind);grind
theorem arch (q:Rat):∃n:Nat,q<=(n:Rat):=by
 refine⟨q.ceil.toNat,?_⟩;have h1:=@Rat.le_ceil q;have h2:q.ceil<=(q.ceil.toNat:Int):=by omega
 have h3:=Rat.intCast_le_intCast.2 h2;rw[Rat.intCast_natCast]at h3;grind
theorem qrt {a b:Nat}(h:a<=b):(a:Rat)<=(b:Rat):=by
 obtain⟨k,rfl⟩:=Nat.exists_eq_add_of_le h;rw[Rat.natCast_add];have:=natnn k;grind
theorem q53 {c:Rat}(h:0<=c){ε:Rat}(he:0<ε):∃N,∀n m,N<=n->n<=m->es c m-es c n<=ε:=by
 obtain⟨K,hK⟩:=arch (2*c);obtain⟨j,hj⟩:=arch (tm c K*ε⁻¹);have hi:0<ε⁻¹:=Rat.inv_pos.2 he;refine⟨K+j,fun n m hn hm=>?_⟩;obtain⟨i,rfl⟩:=Nat.exists_eq_add_of_le (show K<=n by omega);obtain⟨k,rfl⟩:=Nat.exists_eq_add_of_le hm;have h1:=qzv h (n:=K+i) (by rw[Rat.natCast_add];have:=natnn i;grind) k;have h2:=qame h hK i;have h3:=qrt (show j<=i by omega);have h4:=tm_nn h (K+i);have h5:=tm_nn h (K+i+k);have h6:ε⁻¹*ε=1:=by grind
 have h7:tm c K<=(i:Rat)*ε:=by
  have:=mul_nn (a:=(i:Rat)-tm c K*ε⁻¹) (b:=ε) (by grind) (by grind);have e:tm c K*ε⁻¹*ε=tm c K:=by rw[Rat.mul_assoc,h6,Rat.mul_one]
  rw[Rat.sub_eq_add_neg,Rat.add_mul,Rat.neg_mul,e]at this;grind
 have h8:0<(i:Rat)+1:=by have:=natnn i;grind
 have h9:((i:Rat)+1)*(ε-tm c (K+i)) ≥ 0:=by grind
 have h10:0<=ε-tm c (K+i):=by
  have hi2:0<((i:Rat)+1)⁻¹:=Rat.inv_pos.2 h8;have:=mul_nn (a:=((i:Rat)+1)⁻¹) (by grind) h9;have e:((i:Rat)+1)⁻¹*((i:Rat)+1)=1:=by grind
  rw[<-Rat.mul_assoc,e,Rat.one_mul]at this;exact this
 grind
def Null (s:Nat->Rat):Prop:=∀ε:Rat,0<ε->∃N,∀n,N<=n->Bd (s n) ε
def Bnd (s:Nat->Rat):Prop:=∃B:Rat,∃N,∀n,N<=n->Bd (s n) B
theorem qd1 {ε:Rat}(h:0<ε):0<ε/2:=by grind
theorem Null.add {s t:Nat->Rat}(hs:Null s)(ht:Null t):Null (fun n=>s n+t n):=by
 intro ε he;obtain⟨N,hN⟩:=hs (ε/2) (qd1 he);obtain⟨M,hM⟩:=ht (ε/2) (qd1 he);refine⟨max N M,fun n hn=>?_⟩;have:=(hN n (by omega)).add (hM n (by omega));rwa[show ε/2+ε/2=ε by grind]at this
theorem Null.neg {s:Nat->Rat}(hs:Null s):Null (fun n=>- s n):=by
 intro ε he;obtain⟨N,hN⟩:=hs ε he;refine⟨N,fun n hn=>?_⟩;obtain⟨a,b⟩:=hN n hn;constructor<;>grind
theorem Null.sub {s t:Nat->Rat}(hs:Null s)(ht:Null t):Null (fun n=>s n-t n):=by
 have:=hs.add ht.neg;simpa only[<-Rat.sub_eq_add_neg]using this
theorem Null.mul {s t:Nat->Rat}(hs:Null s)(ht:Bnd t):Null (fun n=>s n*t n):=by
 intro ε he;obtain⟨B,M,hM⟩:=ht;have hB:0<B*B+1:=by
  have:0<=B*B:=by
   have hb:=(hM M (Nat.le_refl _)).nn;exact mul_nn hb hb
  grind
 have hb:=(hM M (Nat.le_refl _)).nn;have hi:0<(B+1)⁻¹:=Rat.inv_pos.2 (by grind);obtain⟨N,hN⟩:=hs (ε*(B+1)⁻¹) (Rat.mul_pos he hi);refine⟨max N M,fun n hn=>?_⟩;have h1:=(hN n (by omega)).mul (hM n (by omega));have e:ε*(B+1)⁻¹*(B+1)=ε:=by
  have:(B+1)⁻¹*(B+1)=1:=by grind
  rw[Rat.mul_assoc,this,Rat.mul_one]
 have h2:ε*(B+1)⁻¹*B<=ε:=by
  have h3:=mul_nn (a:=ε) (b:=(B+1)⁻¹) (by grind) (by grind);have h4:ε*(B+1)⁻¹*(B+1)=ε*(B+1)⁻¹*B+ε*(B+1)⁻¹:=by grind
  grind
 obtain⟨a,b⟩:=h1;constructor<;>grind
theorem Null.zero : Null (fun _=>0):=fun ε he=>⟨0,fun n _=>⟨by grind,by grind⟩⟩
theorem Null.mono {s t:Nat->Rat}(ht:Null t)(h:∀n,Bd (s n) (t n)):Null s:=by
 intro ε he;obtain⟨N,hN⟩:=ht ε he;refine⟨N,fun n hn=>?_⟩;obtain⟨a,b⟩:=hN n hn;obtain⟨c,d⟩:=h n;constructor<;>grind
theorem Null.congr {s t:Nat->Rat}(hs:Null s)(h:∀n,s n=t n):Null t:=by
 rwa[show s=t from funext h]at hs
theorem Bnd.add {s t:Nat->Rat}(hs:Bnd s)(ht:Bnd t):Bnd (fun n=>s n+t n):=by
 obtain⟨A,N,hN⟩:=hs;obtain⟨B,M,hM⟩:=ht;exact⟨A+B,max N M,fun n hn=>(hN n (by omega)).add (hM n (by omega))⟩
theorem Bnd.mul {s t:Nat->Rat}(hs:Bnd s)(ht:Bnd t):Bnd (fun n=>s n*t n):=by
 obtain⟨A,N,hN⟩:=hs;obtain⟨B,M,hM⟩:=ht;exact⟨A*B,max N M,fun n hn=>(hN n (by omega)).mul (hM n (by omega))⟩
theorem Null.bnd {s:Nat->Rat}(hs:Null s):Bnd s:=by
 obtain⟨N,hN⟩:=hs 1 (by decide);exact⟨1,N,hN⟩
theorem Bnd.neg {s:Nat->Rat}(hs:Bnd s):Bnd (fun n=>- s n):=by
 obtain⟨A,N,hN⟩:=hs;refine⟨A,N,fun n hn=>?_⟩;obtain⟨a,b⟩:=hN n hn;constructor<;>grind
theorem Bnd.sub {s t:Nat->Rat}(hs:Bnd s)(ht:Bnd t):Bnd (fun n=>s n-t n):=by
 have:=hs.add ht.neg;simpa only[<-Rat.sub_eq_add_neg]using this
theorem Bnd.const (c:Rat):Bnd (fun _=>c):=by
 rcases(inferInstance:Decidable (0<=c))with h|h
 ·exact⟨-c,0,fun n _=>⟨by grind,by grind⟩⟩
 ·exact⟨c,0,fun n _=>⟨by grind,by grind⟩⟩
def Near (s t:Nat->Rat):Prop:=Null fun n=>s n-t n
theorem Near.refl (s:Nat->Rat):Near s s:=Null.zero.congr fun n=>by grind
theorem Near.symm {s t:Nat->Rat}(h:Near s t):Near t s:=h.neg.congr fun n=>by grind
theorem Near.trans {s t u:Nat->Rat}(h:Near s t)(k:Near t u):Near s u:=(h.add k).congr fun n=>by grind
theorem Near.add {s t u v:Nat->Rat}(h:Near s t)(k:Near u v):Near (fun n=>s n+u n) (fun n=>t n+v n):=(Null.add h k).congr fun n=>by grind
theorem Near.neg {s t:Nat->Rat}(h:Near s t):Near (fun n=>- s n) (fun n=>- t n):=(Null.neg h).congr fun n=>by grind
theorem Near.sub {s t u v:Nat->Rat}(h:Near s t)(k:Near u v):Near (fun n=>s n-u n) (fun n=>t n-v n):=(Null.sub h k).congr fun n=>by grind
theorem Near.bnd {s t:Nat->Rat}(h:Near s t)(hs:Bnd s):Bnd t:=by
 have:=hs.sub (Null.bnd h);have e:(fun n=>s n-(s n-t n))=t:=by funext n;grind
 rwa[e]at this
theorem Near.mul {s t u v:Nat->Rat}(h:Near s t)(k:Near u v)(hs:Bnd s)(hu:Bnd u):Near (fun n=>s n*u n) (fun n=>t n*v n):=
 ((Null.mul h hu).add (Null.mul k (h.bnd hs))).congr fun n=>by grind
theorem Near.le {a b:Rat}{s t:Nat->Rat}(h:Near s t)(ha:∀n,a<=s n)(hb:∀n,t n<=b):a<=b:=by
 rcases(inferInstance:Decidable (a<=b))with h1|h1
 ·have:0<(a-b)/2:=by grind
  obtain⟨N,hN⟩:=h _ this;obtain⟨h2,h3⟩:=hN N (Nat.le_refl _);have h4:=ha N;have h5:=hb N;grind
 ·exact h1
theorem qwf (x:Rat):∃a:Rat,0<=a/\Bd x a:=by
 rcases(inferInstance:Decidable (0<=x))with h|h
 ·exact⟨-x,by grind,⟨by grind,by grind⟩⟩
 ·exact⟨x,h,⟨by grind,by grind⟩⟩
theorem es_Bd {x a:Rat}(h:Bd x a)(n:Nat):Bd (es x n) (es a n):=by
 have ht:=tm_Bd h;induction n with
 |zero=>exact ht 0
 |succ n ih=>exact ih.add (ht (n+1))
theorem q3y (x:Rat):Bnd (es x):=by
 obtain⟨a,ha,hx⟩:=qwf x;obtain⟨N,hN⟩:=q53 ha (ε:=1) (by decide);refine⟨es a N+1,N,fun n hn=>?_⟩;have h1:=hN N n (Nat.le_refl _) hn;obtain⟨b,c⟩:=es_Bd hx n;constructor<;>grind
theorem qadt (x y:Rat):Near (fun n=>es x n*es y n) (es (x+y)):=by
 obtain⟨a,ha,hx⟩:=qwf x;obtain⟨b,hb,hy⟩:=qwf y;have hab:0<=a+b:=by grind
 intro ε he;obtain⟨N,hN⟩:=q53 hab he;refine⟨N,fun n hn=>?_⟩;have h1:=q3x ha hb n;have h2:=hN n (n+n) hn (by omega);obtain⟨c,d⟩:=qy8 hx hy n;constructor<;>grind
theorem q1i (n:Nat):es 0 n=1:=by
 induction n with
 |zero=>rfl
 |succ n ih=>
  have:tm 0 (n+1)=0:=by
   show tm 0 n*0/_=0;rw[Rat.mul_zero,Rat.div_def,Rat.zero_mul]
  show es 0 n+tm 0 (n+1)=1;rw[ih,this];grind
def SLe (s t:Nat->Rat):Prop:=∀ε:Rat,0<ε->∃N,∀n,N<=n->s n<=t n+ε
theorem Near.le_left {s t:Nat->Rat}(h:Near s t):SLe s t:=by
 intro ε he;obtain⟨N,hN⟩:=h ε he;exact⟨N,fun n hn=>by obtain⟨a,b⟩:=hN n hn;grind⟩
theorem SLe.trans {s t u:Nat->Rat}(h:SLe s t)(k:SLe t u):SLe s u:=by
 intro ε he;obtain⟨N,hN⟩:=h (ε/2) (qd1 he);obtain⟨M,hM⟩:=k (ε/2) (qd1 he);refine⟨max N M,fun n hn=>?_⟩;have h1:=hN n (by omega);have h2:=hM n (by omega);grind
theorem SLe.of_le {s t:Nat->Rat}(N:Nat)(h:∀n,N<=n->s n<=t n):SLe s t:=fun ε he=>⟨N,fun n hn=>by have:=h n hn;grind⟩
theorem SLe.add {s t u v:Nat->Rat}(h:SLe s t)(k:SLe u v):SLe (fun n=>s n+u n) (fun n=>t n+v n):=by
 intro ε he;obtain⟨N,hN⟩:=h (ε/2) (qd1 he);obtain⟨M,hM⟩:=k (ε/2) (qd1 he);refine⟨max N M,fun n hn=>?_⟩;have h1:=hN n (by omega);have h2:=hM n (by omega);show s n+u n<=t n+v n+ε;grind
theorem SLe.const {a b:Rat}(h:SLe (fun _=>a) (fun _=>b)):a<=b:=by
 rcases(inferInstance:Decidable (a<=b))with h1|h1
 ·obtain⟨N,hN⟩:=h ((a-b)/2) (by grind);have:=hN N (Nat.le_refl _);grind
 ·exact h1
theorem SLe.mul_left {s t c:Nat->Rat}(h:SLe s t)(hc:∀n,0<=c n)(bc:Bnd c):SLe (fun n=>c n*s n) (fun n=>c n*t n):=by
 intro ε he;obtain⟨B,M,hM⟩:=bc;have hb:=(hM M (Nat.le_refl _)).nn;have hi:0<(B+1)⁻¹:=Rat.inv_pos.2 (by grind);obtain⟨N,hN⟩:=h (ε*(B+1)⁻¹) (Rat.mul_pos he hi);refine⟨max N M,fun n hn=>?_⟩;have h1:=hN n (by omega);obtain⟨h2,h3⟩:=hM n (by omega);have h4:=mul_nn (a:=c n) (b:=t n+ε*(B+1)⁻¹-s n) (hc n) (by grind);have e:ε*(B+1)⁻¹*(B+1)=ε:=by
  have:(B+1)⁻¹*(B+1)=1:=by grind
  rw[Rat.mul_assoc,this,Rat.mul_one]
 have h5:=mul_nn (a:=ε*(B+1)⁻¹) (b:=B-c n) (Rat.le_of_lt (Rat.mul_pos he hi)) (by grind);have h6:=Rat.le_of_lt (Rat.mul_pos he hi);show c n*s n<=c n*t n+ε;generalize ε*(B+1)⁻¹=q at *
 grind
theorem qanv (x:Rat):SLe (fun _=>0) (es x):=by
 have h:=(qadt (x/2) (x/2)).le_left;rw[show x/2+x/2=x by grind]at h;refine SLe.trans (SLe.of_le 0 fun n _=>?_) h;show 0<=es (x/2) n*es (x/2) n;rcases(inferInstance:Decidable (0<=es (x/2) n))with h1|h1
 ·have:=mul_nn (a:=- es (x/2) n) (b:=- es (x/2) n) (by grind) (by grind);grind
 ·exact mul_nn h1 h1
theorem qy9 {h:Rat}(hh:0<=h){n:Nat}(hn:1<=n):1+h<=es h n:=by
 have h1:=qadr hh hn;have h2:es h 1=1+h:=by
  show(1:Rat)+1*h/((0+1:Nat):Rat)=_;have:((0+1:Nat):Rat)=1:=rfl;rw[this];grind
 grind
def qs (x:Rat)(n:Nat):Rat:=es (x/2) n*es (x/2) n
theorem sq_nn (a:Rat):0<=a*a:=by
 rcases(inferInstance:Decidable (0<=a))with h1|h1
 ·have:=mul_nn (a:=-a) (b:=-a) (by grind) (by grind);grind
 ·exact mul_nn h1 h1
theorem qs_nn (x:Rat)(n:Nat):0<=qs x n:=sq_nn _
theorem qnr (x:Rat):Near (qs x) (es x):=by
 have h:=qadt (x/2) (x/2);rwa[show x/2+x/2=x by grind]at h
theorem qpn (x:Rat):Bnd (qs x):=(q3y _).mul (q3y _)
theorem q7e (x y:Rat):Near (fun n=>qs x n*es y n) (es (x+y)):=
 ((qnr x).mul (Near.refl (es y)) (qpn x) (q3y y)).trans (qadt x y)
theorem qabz (x:Rat):Near (fun n=>qs (-x) n*es x n) (fun _=>1):=by
 have h:=q7e (-x) x;rwa[show -x+x=0 by grind,show es 0=fun _=>1 from funext q1i]at h
theorem qads {x h:Rat}(hh:0<=h):SLe (fun n=>qs x n*(1+h)) (es (x+h)):=by
 refine SLe.trans (SLe.of_le 1 fun n hn=>?_) (q7e x h).le_left;show _<=qs x n*es h n;have h1:=qy9 hh hn;exact qfx Rat.le_refl h1 (qs_nn x n) (by grind)
theorem qmb {x y:Rat}(h:x<=y):SLe (es x) (es y):=by
 have h1:=qads (x:=x) (h:=y-x) (by grind);rw[show x+(y-x)=y by grind]at h1;refine(qnr x).symm.le_left.trans (SLe.trans (SLe.of_le 0 fun n _=>?_) h1);have:=mul_nn (qs_nn x n) (b:=y-x) (by grind);show qs x n<=_;grind
theorem qanw {a b:Rat}(h:SLe (es a) (es b)):a<=b:=by
 rcases(inferInstance:Decidable (a<=b))with h1|h1
 ·have hp:0<a-b:=by grind
  have g:=qads (x:=b) (h:=a-b) (Rat.le_of_lt hp);rw[show b+(a-b)=a by grind]at g;have g2:=(g.trans h).mul_left (c:=qs (-b)) (fun n=>qs_nn _ n) (qpn _);have e1:=qabz b;have e2:Near (fun n=>qs (-b) n*(qs b n*(1+(a-b)))) (fun _=>1*(1+(a-b))):=by
   have k1:Near (fun n=>qs (-b) n*qs b n) (fun _=>1):=((Near.refl (qs (-b))).mul (qnr b) (qpn _) (qpn _)).trans e1;have k2:=k1.mul (Near.refl fun _=>1+(a-b)) ((qpn _).mul (qpn _)) (Bnd.const _);exact Null.congr k2 fun n=>by grind
  have g3:=(e2.symm.le_left.trans g2).trans e1.le_left;have:=g3.const;grind
 ·exact h1
def ELo (a d:Rat):Prop:=SLe (es a) (fun _=>d)
def EHi (d b:Rat):Prop:=SLe (fun _=>d) (es b)
theorem ELo.le {a b d:Rat}(h:ELo a d)(k:EHi d b):a<=b:=qanw (SLe.trans h k)
theorem ELo.zero : ELo 0 1:=SLe.of_le 0 fun n _=>by show es 0 n<=1;rw[q1i];exact Rat.le_refl
theorem EHi.zero : EHi 1 0:=SLe.of_le 0 fun n _=>by show 1<=es 0 n;rw[q1i];exact Rat.le_refl
theorem ELo.add {a b d e:Rat}(h:ELo a d)(k:ELo b e)(_hd:0<=d):ELo (a+b) (d*e):=by
 have h1:=SLe.mul_left k (c:=qs a) (fun n=>qs_nn a n) (qpn a);have h2:SLe (fun n=>qs a n*e) (fun _=>d*e)->ELo (a+b) (d*e):=fun h2=>((q7e a b).symm.le_left.trans h1).trans h2
 have h3:SLe (qs a) (fun _=>d):=(qnr a).le_left.trans h;have he:0<=e:=SLe.const ((qanv b).trans k);refine h2 ?_;have h4:=h3.mul_left (c:=fun _=>e) (fun _=>he) (Bnd.const e);exact(SLe.of_le 0 fun n _=>by show qs a n*e<=e*qs a n;grind).trans (h4.trans (SLe.of_le 0 fun n _=>by show e*d<=d*e;grind))
theorem EHi.add {a b d e:Rat}(h:EHi d a)(k:EHi e b)(he:0<=e):EHi (d*e) (a+b):=by
 have h1:=SLe.mul_left k (c:=qs a) (fun n=>qs_nn a n) (qpn a);have h3:SLe (fun _=>d) (qs a):=SLe.trans h (qnr a).symm.le_left;have h4:=h3.mul_left (c:=fun _=>e) (fun _=>he) (Bnd.const e);refine SLe.trans (SLe.of_le 0 fun n _=>?_) (h4.trans (SLe.trans (SLe.of_le 0 fun n _=>?_) (h1.trans (q7e a b).le_left)))
 ·show d*e<=e*d;grind
 ·show e*qs a n<=qs a n*e;grind
theorem ELo.mono {a b d:Rat}(h:ELo a d)(k:b<=a):ELo b d:=(qmb k).trans h
theorem EHi.mono {a b d:Rat}(h:EHi d a)(k:a<=b):EHi d b:=SLe.trans h (qmb k)
def od (z:Rat):Nat->Rat
 |0=>z
 |k+1=>od z k*(z*z)
def ev (z:Rat):Nat->Rat
 |0=>1
 |k+1=>ev z k*(z*z)
def lt (z:Rat)(k:Nat):Rat:=od z k/((2*k+1:Nat):Rat)
def ll (z:Rat)(n:Nat):Rat:=2*ps (lt z) n
theorem od_ev (z:Rat)(k:Nat):od z k=z*ev z k:=by
 induction k with
 |zero=>simp only[od,ev];grind
 |succ k ih=>simp only[od,ev];rw[ih];grind
theorem ev_nn (z:Rat)(k:Nat):0<=ev z k:=by
 induction k with
 |zero=>simp only[ev];decide
 |succ k ih=>exact mul_nn ih (sq_nn z)
theorem od_nn {z:Rat}(h:0<=z)(k:Nat):0<=od z k:=by rw[od_ev];exact mul_nn h (ev_nn z k)
theorem sq_le {z w:Rat}(h0:0<=z)(h:z<=w):z*z<=w*w:=qfx h h (by grind) h0
theorem ev_le {z w:Rat}(h0:0<=z)(h:z<=w)(k:Nat):ev z k<=ev w k:=by
 induction k with
 |zero=>exact Rat.le_refl
 |succ k ih=>exact qfx ih (sq_le h0 h) (ev_nn w k) (sq_nn z)
theorem q7m (k:Nat):((2*k+1:Nat):Rat)=2*(k:Rat)+1:=by
 rw[qa1,Rat.natCast_mul];rfl
theorem od_up {z w:Rat}(h0:0<=z)(h:z<=w)(k:Nat):od w k-od z k<=((2*k+1:Nat):Rat)*((w-z)*ev w k):=by
 rw[q7m];induction k with
 |zero=>simp only[od,ev];have h0:((0:Nat):Rat)=0:=rfl
        rw[h0];grind
 |succ k ih=>
  have hw:0<=w:=by grind
  have kn:=natnn k;have e1:=qfx ih (Rat.le_refl (a:=w*w)) (mul_nn (by grind) (mul_nn (by grind) (ev_nn w k))) (sq_nn w);have e2:od z k<=w*ev w k:=by rw[od_ev];exact qfx h (ev_le h0 h k) hw (ev_nn z k)
  have e3:w*w-z*z<=2*w*(w-z):=by
   have:=mul_nn (a:=w-z) (b:=w-z) (by grind) (by grind);grind
  have e4:=qfx e2 e3 (mul_nn hw (ev_nn w k)) (by have:=sq_le h0 h;grind);have c:((k+1:Nat):Rat)=(k:Rat)+1:=qa1 k;simp only[od,ev];rw[c];generalize od w k=a at *
  generalize od z k=b at *
  generalize ev w k=e at *
  generalize (k:Rat)=q at *
  grind
theorem od_lo {z w:Rat}(h0:0<=z)(h:z<=w)(k:Nat):((2*k+1:Nat):Rat)*((w-z)*ev z k)<=od w k-od z k:=by
 rw[q7m];induction k with
 |zero=>simp only[od,ev];have h0:((0:Nat):Rat)=0:=rfl
        rw[h0];grind
 |succ k ih=>
  have hw:0<=w:=by grind
  have kn:=natnn k;have e1:=qfx ih (Rat.le_refl (a:=z*z)) (by
   have:=qfx h (ev_le h0 h k) hw (ev_nn z k);rw[od_ev,od_ev];grind) (sq_nn z)
  have e2:z*ev z k<=od w k:=by rw[od_ev];exact qfx h (ev_le h0 h k) hw (ev_nn z k)
  have e3:2*z*(w-z)<=w*w-z*z:=by
   have:=mul_nn (a:=w-z) (b:=w-z) (by grind) (by grind);grind
  have e4:=qfx e2 e3 (od_nn hw k) (mul_nn (by grind) (by grind));have c:((k+1:Nat):Rat)=(k:Rat)+1:=qa1 k;simp only[od,ev];rw[c];generalize od w k=a at *
  generalize od z k=b at *
  generalize ev z k=e at *
  generalize (k:Rat)=q at *
  grind
theorem lt_up {z w:Rat}(h0:0<=z)(h:z<=w)(k:Nat):lt w k-lt z k<=(w-z)*ev w k:=by
 have h1:=od_up h0 h k;have hc:=qu0 (2*k);have hi:=Rat.inv_pos.2 hc;unfold lt;rw[Rat.div_def,Rat.div_def];generalize ((2*k+1:Nat):Rat)=c at *
 have h2:=Rat.mul_le_mul_of_nonneg_right h1 (Rat.le_of_lt hi);have e:c*((w-z)*ev w k)*c⁻¹=(w-z)*ev w k:=by
  rw[Rat.mul_comm c,Rat.mul_assoc,Rat.mul_inv_cancel c (by grind),Rat.mul_one]
 rw[e]at h2;grind
theorem lt_lo {z w:Rat}(h0:0<=z)(h:z<=w)(k:Nat):(w-z)*ev z k<=lt w k-lt z k:=by
 have h1:=od_lo h0 h k;have hc:=qu0 (2*k);have hi:=Rat.inv_pos.2 hc;unfold lt;rw[Rat.div_def,Rat.div_def];generalize ((2*k+1:Nat):Rat)=c at *
 have h2:=Rat.mul_le_mul_of_nonneg_right h1 (Rat.le_of_lt hi);have e:c*((w-z)*ev z k)*c⁻¹=(w-z)*ev z k:=by
  rw[Rat.mul_comm c,Rat.mul_assoc,Rat.mul_inv_cancel c (by grind),Rat.mul_one]
 rw[e]at h2;grind
theorem qaim (z:Rat)(n:Nat):(1-z*z)*ps (ev z) n=1-ev z (n+1):=by
 induction n with
 |zero=>simp only[ps,ev];grind
 |succ n ih=>rw[ps,Rat.mul_add,ih];simp only[ev];grind
theorem ll_up {z w:Rat}(h0:0<=z)(h:z<=w)(n:Nat):(1-w*w)*(ll w n-ll z n)<=2*(w-z)\/1<w*w:=by
 have h1:ll w n-ll z n<=2*(w-z)*ps (ev w) n:=by
  unfold ll;induction n with
  |zero=>have:=lt_up h0 h 0
         simp only[ps];grind
  |succ n ih=>have:=lt_up h0 h (n+1)
              simp only[ps];grind
 rcases(inferInstance:Decidable (w*w<=1))with h2|h2
 ·right;grind
 ·left;have h3:=Rat.mul_le_mul_of_nonneg_left h1 (c:=1-w*w) (by grind);have h4:=qaim w n;have h5:=ev_nn w (n+1);have h6:=mul_nn (a:=2*(w-z)) (b:=ev w (n+1)) (by grind) h5;have e:(1-w*w)*(2*(w-z)*ps (ev w) n)=2*(w-z)*(1-ev w (n+1)):=by rw[<-h4];grind
  rw[e]at h3;grind
theorem ll_lo {z w:Rat}(h0:0<=z)(h:z<=w)(n:Nat):2*(w-z)*(1-ev z (n+1))<=(1-z*z)*(ll w n-ll z n)\/1<z*z:=by
 have h1:2*(w-z)*ps (ev z) n<=ll w n-ll z n:=by
  unfold ll;induction n with
  |zero=>have:=lt_lo h0 h 0
         simp only[ps];grind
  |succ n ih=>have:=lt_lo h0 h (n+1)
              simp only[ps];grind
 rcases(inferInstance:Decidable (z*z<=1))with h2|h2
 ·right;grind
 ·left;have h3:=Rat.mul_le_mul_of_nonneg_left h1 (c:=1-z*z) (by grind);have h4:=qaim z n;have e:(1-z*z)*(2*(w-z)*ps (ev z) n)=2*(w-z)*(1-ev z (n+1)):=by rw[<-h4];grind
  rw[e]at h3;exact h3
theorem qahf {h:Rat}(h0:0<=h)(h1:h<=1)(n:Nat):es h n<=1+h+h*h:=by
 have e1:=qadr h0 (show n<=2+n by omega)
 have e2:=qzv h0 (n:=2) (by have:((2:Nat):Rat)=2:=rfl
                            rw[this];grind) n
 have e3:=tm_nn h0 (2+n);have e4:tm h 2=h*h/2:=by
  show 1*h/((0+1:Nat):Rat)*h/((1+1:Nat):Rat)=_;have a:((0+1:Nat):Rat)=1:=rfl;have b:((1+1:Nat):Rat)=2:=rfl;rw[a,b];grind
 have e5:tm h 1=h:=by
  show 1*h/((0+1:Nat):Rat)=_;have a:((0+1:Nat):Rat)=1:=rfl;rw[a];grind
 have e6:es h 2=1+h+h*h/2:=by
  show 1+tm h 1+tm h 2=_;rw[e4,e5]
 rw[e6,e4]at e2;grind
theorem ELo.small {h:Rat}(h0:0<=h)(h1:h<=1):ELo h (1+h+h*h):=SLe.of_le 0 fun n _=>qahf h0 h1 n
theorem EHi.small {h:Rat}(h0:0<=h):EHi (1+h) h:=SLe.of_le 1 fun _n hn=>qy9 h0 hn
theorem ELo.up {a d e:Rat}(h:ELo a d)(k:d<=e):ELo a e:=SLe.trans h (SLe.of_le 0 fun _ _=>k)
def gg (z:Rat):Rat:=(1+z)*(1-z)⁻¹
theorem qa7 {a:Rat}(h:0<a):a*a⁻¹=1:=Rat.mul_inv_cancel a (by grind)
theorem gg_nn {z:Rat}(h0:0<=z)(h1:z<1):0<=gg z:=mul_nn (by grind) (Rat.le_of_lt (Rat.inv_pos.2 (by grind)))
theorem qakp {z w:Rat}(h0:0<=z)(h:z<=w)(h1:w<1):gg z*(1+2*(w-z)*(1-w*w)⁻¹)<=gg w:=by
 unfold gg;have pa:0<1-z:=by grind
 have pb:0<1-w:=by grind
 have pd:0<1+w:=by grind
 have pc:0<1-w*w:=by
  have:=Rat.mul_pos pb pd;grind
 have a1:=qa7 pa;have b1:=qa7 pb;have d1:=qa7 pd;have c1:=qa7 pc;have c2:(1-w*w)⁻¹=(1-w)⁻¹*(1+w)⁻¹:=by
  have e:(1-w*w)*((1-w)⁻¹*(1+w)⁻¹)=1:=by
   have:(1-w*w)*((1-w)⁻¹*(1+w)⁻¹)=((1-w)*(1-w)⁻¹)*((1+w)*(1+w)⁻¹):=by grind
   rw[this,b1,d1];grind
  have e2:(1-w*w)⁻¹*((1-w*w)*((1-w)⁻¹*(1+w)⁻¹))=(1-w*w)⁻¹:=by rw[e,Rat.mul_one]
  have e3:(1-w*w)⁻¹*((1-w*w)*((1-w)⁻¹*(1+w)⁻¹))=((1-w*w)*(1-w*w)⁻¹)*((1-w)⁻¹*(1+w)⁻¹):=by grind
  rw[e3,c1,Rat.one_mul]at e2;exact e2.symm
 rw[c2];have ia:=Rat.le_of_lt (Rat.inv_pos.2 pa);have ib:=Rat.le_of_lt (Rat.inv_pos.2 pb);have id':=Rat.le_of_lt (Rat.inv_pos.2 pd);have key:=mul_nn (mul_nn (mul_nn (sq_nn (w-z)) ia) ib) id';generalize (1-z)⁻¹=A at *
 generalize (1-w)⁻¹=B at *
 generalize (1+w)⁻¹=D at *
 have e:(1+w)*B-(1+z)*A*(1+2*(w-z)*(B*D))=2*((w-z)*(w-z)*A*B*D):=by grind
 grind
theorem qaj3 (k:Nat):od 0 k=0:=by
 induction k with
 |zero=>rfl
 |succ k ih=>simp only[od];rw[ih];grind
theorem qacs (n:Nat):ll 0 n=0:=by
 have h:∀k,lt 0 k=0:=fun k=>by unfold lt;rw[qaj3,Rat.div_def,Rat.zero_mul]
 unfold ll;have:ps (lt 0) n=0:=by
  induction n with
  |zero=>exact h 0
  |succ n ih=>rw[ps,ih,h];grind
 rw[this];grind
theorem qake {z w K H:Rat}{n:Nat}(h0:0<=z)(h:z<=w)(h1:w<1)(hK:0<=K)(hH:2*(w-z)*(1-w*w)⁻¹<=H)(hH1:H<=1)(e:ELo (ll z n) (gg z*K)) :
 ELo (ll w n) (gg w*(K*(1+H*H))):=by
 have pc:0<1-w*w:=by
  have:=Rat.mul_pos (show 0<1-w by grind) (show 0<1+w by grind);grind
 have c1:=qa7 pc;have ic:=Rat.le_of_lt (Rat.inv_pos.2 pc);have⟨m,hm⟩:∃m,m=2*(w-z)*(1-w*w)⁻¹:=⟨_,rfl⟩
 have m0:0<=m:=by rw[hm];exact mul_nn (by grind) ic
 have g:=qakp h0 h h1;have u:=ll_up h0 h n;have l:=ll_lo h0 h n;rw[<-hm]at hH g;have hd1:ll w n-ll z n<=m:=by
  rcases u with u|u
  ·have:=Rat.mul_le_mul_of_nonneg_right u ic;rw[<-hm]at this;have e:(1-w*w)*(ll w n-ll z n)*(1-w*w)⁻¹=ll w n-ll z n:=by
    rw[Rat.mul_comm (1-w*w),Rat.mul_assoc,c1,Rat.mul_one]
   rwa[e]at this
  ·exfalso;grind
 have hd0:0<=ll w n-ll z n:=by
  have h2:∀n,ps (lt z) n<=ps (lt w) n:=by
   intro n;have k:∀i,lt z i<=lt w i:=fun i=>by
    have:=lt_lo h0 h i;have:=mul_nn (a:=w-z) (b:=ev z i) (by grind) (ev_nn z i);grind
   induction n with
   |zero=>exact k 0
   |succ n ih=>have:=k (n+1);simp only[ps];grind
  have:=h2 n;unfold ll;grind
 have s:=ELo.small hd0 (by grind);have t:=e.add s (mul_nn (gg_nn h0 (by grind)) hK);rw[show ll z n+(ll w n-ll z n)=ll w n by grind]at t;refine t.up ?_;generalize ll w n-ll z n=d at *
 have q1:1+d+d*d<=(1+m)*(1+H*H):=by
  have a:=sq_le hd0 (show d<=H by grind);have b:=mul_nn m0 (sq_nn H);grind
 have gz:=gg_nn h0 (show z<1 by grind);have q2:=qfx (Rat.le_refl (a:=gg z*K)) q1 (mul_nn gz hK) (by have:=sq_nn d;grind);have q3:=qfx g (Rat.le_refl (a:=K*(1+H*H))) (gg_nn (by grind) h1) (mul_nn hK (by have:=sq_nn H;grind));grind
theorem qact {Z d H:Rat}{n:Nat}(d0:0<=d)(hZ:Z<1)(hH:2*d*(1-Z*Z)⁻¹<=H)(hH1:H<=1):∀j:Nat,(j:Rat)*d<=Z ->
 ∃K:Rat,0<=K/\K*(1-(j:Rat)*(H*H))<=1/\ELo (ll ((j:Rat)*d) n) (gg ((j:Rat)*d)*K)
 |0,_=>by
  have c0:((0:Nat):Rat)=0:=rfl;refine⟨1,by decide,by rw[c0];grind,?_⟩;rw[c0,Rat.zero_mul,qacs];have:gg 0*1=1:=by
   unfold gg;have:(1-0:Rat)⁻¹=1:=by grind
   rw[this];grind
  rw[this];exact ELo.zero
 |j+1,hj=>by
  rw[qa1]at hj ⊢;have jn:=natnn j;have jd:=mul_nn jn d0;obtain⟨K,k0,k1,e⟩:=qact (n:=n) d0 hZ hH hH1 j (by grind);have z0:0<=(j:Rat)*d:=jd;have hle:(j:Rat)*d<=((j:Rat)+1)*d:=by grind
  have w1:((j:Rat)+1)*d<1:=by grind
  have st:=qake z0 hle w1 k0 (H:=H) (by
   have e1:((j:Rat)+1)*d-(j:Rat)*d=d:=by grind
   rw[e1];refine Rat.le_trans ?_ hH;have w0:0<=((j:Rat)+1)*d:=by grind
   have zz:=sq_le w0 hj;have pz:0<1-Z*Z:=by
    have:=Rat.mul_pos (show 0<1-Z by grind) (show 0<1+Z by grind);grind
   have pw:0<1-((j:Rat)+1)*d*(((j:Rat)+1)*d):=by grind
   have a1:=qa7 pz;have a2:=qa7 pw;have i1:=Rat.inv_pos.2 pz;have i2:=Rat.inv_pos.2 pw;generalize ((j:Rat)+1)*d*(((j:Rat)+1)*d)=W at *
   have:(1-W)⁻¹<=(1-Z*Z)⁻¹:=by
    have t:=qfx (show 1-Z*Z<=1-W by grind) (Rat.le_refl (a:=(1-W)⁻¹*(1-Z*Z)⁻¹)) (Rat.le_of_lt pw) (mul_nn (Rat.le_of_lt i2) (Rat.le_of_lt i1));have t1:(1-Z*Z)*((1-W)⁻¹*(1-Z*Z)⁻¹)=(1-W)⁻¹:=by
     have:(1-Z*Z)*((1-W)⁻¹*(1-Z*Z)⁻¹)=(1-W)⁻¹*((1-Z*Z)*(1-Z*Z)⁻¹):=by grind
     rw[this,a1,Rat.mul_one]
    have t2:(1-W)*((1-W)⁻¹*(1-Z*Z)⁻¹)=(1-Z*Z)⁻¹:=by
     rw[<-Rat.mul_assoc,a2,Rat.one_mul]
    rw[t1,t2]at t;exact t
   exact qfx Rat.le_refl this (by grind) (Rat.le_of_lt i2)) hH1 e
  have hh:=sq_nn H;refine⟨K*(1+H*H),mul_nn k0 (by grind),?_,st⟩;have k2:=mul_nn k0 (mul_nn (mul_nn (show 0<=(j:Rat)+1 by grind) hh) hh);grind
theorem qao5 {Z:Rat}(h0:0<=Z)(h1:Z<1)(n:Nat):ELo (ll Z n) (gg Z):=by
 have gz:=gg_nn h0 h1;have pz:0<1-Z*Z:=by
  have:=Rat.mul_pos (show 0<1-Z by grind) (show 0<1+Z by grind);grind
 have iz:=Rat.inv_pos.2 pz;have⟨c,hc⟩:∃c,c=2*Z*(1-Z*Z)⁻¹:=⟨_,rfl⟩
 have c0:0<=c:=by rw[hc];exact mul_nn (by grind) (Rat.le_of_lt iz)
 intro ε he;have ie:=Rat.inv_pos.2 he;obtain⟨N,hN⟩:=arch (c+2*(c*c)+4*(c*c)*gg Z*ε⁻¹+1);have cc:=mul_nn c0 c0;have t0:0<=4*(c*c)*gg Z*ε⁻¹:=mul_nn (mul_nn (by grind) gz) (Rat.le_of_lt ie);have N0:(0:Rat)<N:=by grind
 have nN:=qa7 N0;have iN:=Rat.inv_pos.2 N0;have cN:c*(N:Rat)⁻¹<=1:=by
  have:=Rat.mul_le_mul_of_nonneg_right (show c<=(N:Rat) by grind) (Rat.le_of_lt iN);rwa[nN]at this
 have dN:(N:Rat)*(Z*(N:Rat)⁻¹)=Z:=by
  have:(N:Rat)*(Z*(N:Rat)⁻¹)=Z*((N:Rat)*(N:Rat)⁻¹):=by grind
  rw[this,nN,Rat.mul_one]
 obtain⟨K,k0,k1,e⟩:=qact (n:=n) (Z:=Z) (d:=Z*(N:Rat)⁻¹) (H:=c*(N:Rat)⁻¹) (mul_nn h0 (Rat.le_of_lt iN)) h1 (by rw[hc];grind) cN N (by rw[dN];exact Rat.le_refl);rw[dN]at e;have hM:(N:Rat)*(c*(N:Rat)⁻¹*(c*(N:Rat)⁻¹))=c*c*(N:Rat)⁻¹:=by
  have:(N:Rat)*(c*(N:Rat)⁻¹*(c*(N:Rat)⁻¹))=c*c*(N:Rat)⁻¹*((N:Rat)*(N:Rat)⁻¹):=by grind
  rw[this,nN,Rat.mul_one]
 rw[hM]at k1;have⟨m,hm⟩:∃m,m=c*c*(N:Rat)⁻¹:=⟨_,rfl⟩
 rw[<-hm]at k1;have m0:0<=m:=by rw[hm];exact mul_nn cc (Rat.le_of_lt iN)
 have m1:2*m<=1:=by
  have:=Rat.mul_le_mul_of_nonneg_right (show 2*(c*c)<=(N:Rat) by grind) (Rat.le_of_lt iN);rw[nN]at this;rw[hm];grind
 have m2:4*(m*gg Z)<=ε:=by
  have a:=Rat.mul_le_mul_of_nonneg_right (show 4*(c*c)*gg Z*ε⁻¹<=(N:Rat) by grind) (Rat.le_of_lt iN);rw[nN]at a;have b:=Rat.mul_le_mul_of_nonneg_right a (Rat.le_of_lt he);have ee:=qa7 he;have:4*(c*c)*gg Z*ε⁻¹*(N:Rat)⁻¹*ε=4*(m*gg Z)*(ε*ε⁻¹):=by rw[hm];grind
  rw[this,ee]at b;grind
 have K2:K<=2:=by
  have:=mul_nn k0 (show 0<=1-2*m by grind);grind
 have K3:K<=1+2*m:=by
  have:=mul_nn m0 (show 0<=2-K by grind);grind
 have g:gg Z*K<=gg Z+ε/2:=by
  have:=mul_nn gz (show 0<=1+2*m-K by grind);grind
 obtain⟨M,hM⟩:=e (ε/2) (qd1 he);exact⟨M,fun i hi=>by have:=hM i hi;grind⟩
theorem EHi.down {a d e:Rat}(h:EHi d a)(k:e<=d):EHi e a:=SLe.trans (SLe.of_le 0 fun _ _=>k) h
theorem qyt {Z:Rat}(h0:0<=Z)(h1:Z<1):0<1-Z*Z:=by
 have:=Rat.mul_pos (show 0<1-Z by grind) (show 0<1+Z by grind);grind
theorem q0e {a b:Rat}(ha:0<a)(h:a<=b):b⁻¹<=a⁻¹:=by
 have hb:0<b:=by grind
 have a1:=qa7 ha;have b1:=qa7 hb;have ia:=Rat.inv_pos.2 ha;have ib:=Rat.inv_pos.2 hb;have t:=Rat.mul_le_mul_of_nonneg_right h (Rat.le_of_lt (Rat.mul_pos ia ib));have t1:a*(a⁻¹*b⁻¹)=b⁻¹:=by rw[<-Rat.mul_assoc,a1,Rat.one_mul]
 have t2:b*(a⁻¹*b⁻¹)=a⁻¹:=by
  have:b*(a⁻¹*b⁻¹)=a⁻¹*(b*b⁻¹):=by grind
  rw[this,b1,Rat.mul_one]
 rw[t1,t2]at t;exact t
theorem qakq {z w:Rat}(h0:0<=z)(h:z<=w)(h1:w<1):gg w=gg z*(1+2*(w-z)*(1-z*z)⁻¹*(1+(w-z)*(1-w)⁻¹)):=by
 unfold gg;have pa:0<1-z:=by grind
 have pb:0<1-w:=by grind
 have pd:0<1+z:=by grind
 have pc:=qyt h0 (show z<1 by grind);have a1:=qa7 pa;have b1:=qa7 pb;have d1:=qa7 pd;have c1:=qa7 pc;have c2:(1-z*z)⁻¹=(1-z)⁻¹*(1+z)⁻¹:=by
  have e:(1-z*z)*((1-z)⁻¹*(1+z)⁻¹)=1:=by
   have:(1-z*z)*((1-z)⁻¹*(1+z)⁻¹)=((1-z)*(1-z)⁻¹)*((1+z)*(1+z)⁻¹):=by grind
   rw[this,a1,d1];grind
  have e2:(1-z*z)⁻¹*((1-z*z)*((1-z)⁻¹*(1+z)⁻¹))=(1-z*z)⁻¹:=by rw[e,Rat.mul_one]
  have e3:(1-z*z)⁻¹*((1-z*z)*((1-z)⁻¹*(1+z)⁻¹))=((1-z*z)*(1-z*z)⁻¹)*((1-z)⁻¹*(1+z)⁻¹):=by grind
  rw[e3,c1,Rat.one_mul]at e2;exact e2.symm
 rw[c2];generalize (1-z)⁻¹=A at *
 generalize (1-w)⁻¹=B at *
 generalize (1+z)⁻¹=D at *
 grind
theorem qako {z w K R:Rat}{m:Nat}(h0:0<=z)(h:z<=w)(h1:w<1)(hK:0<=K)(hR:2*(w-z)*(1-z*z)⁻¹*(ev z (m+1)+(w-z)*(1-w)⁻¹)<=R)(hR1:R<=1)(e:EHi (gg z*K) (ll z m)) :
 EHi (gg w*(K*(1-R))) (ll w m):=by
 have pc:=qyt h0 (show z<1 by grind);have c1:=qa7 pc;have ic:=Rat.le_of_lt (Rat.inv_pos.2 pc);have ib:=Rat.le_of_lt (Rat.inv_pos.2 (show 0<1-w by grind));have⟨a,ha⟩:∃a,a=2*(w-z)*(1-z*z)⁻¹:=⟨_,rfl⟩
 have a0:0<=a:=by rw[ha];exact mul_nn (by grind) ic
 have g:=qakq h0 h h1;have l:=ll_lo h0 h m;rw[<-ha]at hR g;have hd:a*(1-ev z (m+1))<=ll w m-ll z m:=by
  rcases l with l|l
  ·have:=Rat.mul_le_mul_of_nonneg_right l ic;have e1:(1-z*z)*(ll w m-ll z m)*(1-z*z)⁻¹=ll w m-ll z m:=by
    rw[Rat.mul_comm (1-z*z),Rat.mul_assoc,c1,Rat.mul_one]
   have e2:2*(w-z)*(1-ev z (m+1))*(1-z*z)⁻¹=a*(1-ev z (m+1)):=by rw[ha];grind
   rwa[e1,e2]at this
  ·exfalso;grind
 have hd0:0<=ll w m-ll z m:=by
  have h2:∀n,ps (lt z) n<=ps (lt w) n:=by
   intro n;have k:∀i,lt z i<=lt w i:=fun i=>by
    have:=lt_lo h0 h i;have:=mul_nn (a:=w-z) (b:=ev z i) (by grind) (ev_nn z i);grind
   induction n with
   |zero=>exact k 0
   |succ n ih=>have:=k (n+1);simp only[ps];grind
  have:=h2 m;unfold ll;grind
 have t:=e.add (EHi.small hd0) (by grind);rw[show ll z m+(ll w m-ll z m)=ll w m by grind]at t;refine t.down ?_;have gz:=gg_nn h0 (show z<1 by grind);have ez:=ev_nn z (m+1);have b0:=mul_nn (show 0<=w-z by grind) ib;have r0:=mul_nn a0 (show 0<=ev z (m+1)+(w-z)*(1-w)⁻¹ by grind);generalize ll w m-ll z m=d at *
 generalize (w-z)*(1-w)⁻¹=b at *
 generalize ev z (m+1)=v at *
 have q1:1+a*(1+b)<=(1+d)*(1+R):=by
  have:=mul_nn hd0 (show 0<=R by grind);grind
 have q2:(1+a*(1+b))*(1-R)<=1+d:=by
  have p1:=Rat.mul_le_mul_of_nonneg_right q1 (show 0<=1-R by grind);have p2:=mul_nn (show 0<=1+d by grind) (sq_nn R);grind
 have q3:=Rat.mul_le_mul_of_nonneg_left q2 (mul_nn gz hK);rw[g];grind
theorem qac5 {Z d R:Rat}{m:Nat}(h0:0<=Z)(d0:0<=d)(hZ:Z<1)(hR:2*d*(1-Z*Z)⁻¹*(ev Z (m+1)+d*(1-Z)⁻¹)<=R)(hR1:R<=1):∀j:Nat,(j:Rat)*d<=Z ->
 ∃K:Rat,0<=K/\1-(j:Rat)*R<=K/\EHi (gg ((j:Rat)*d)*K) (ll ((j:Rat)*d) m)
 |0,_=>by
  have c0:((0:Nat):Rat)=0:=rfl;refine⟨1,by decide,by rw[c0];grind,?_⟩;rw[c0,Rat.zero_mul,qacs];have:gg 0*1=1:=by
   unfold gg;have:(1-0:Rat)⁻¹=1:=by grind
   rw[this];grind
  rw[this];exact EHi.zero
 |j+1,hj=>by
  rw[qa1]at hj ⊢;have jn:=natnn j;have z0:=mul_nn jn d0;obtain⟨K,k0,k1,e⟩:=qac5 (m:=m) h0 d0 hZ hR hR1 j (by grind);have hle:(j:Rat)*d<=((j:Rat)+1)*d:=by grind
  have w1:((j:Rat)+1)*d<1:=by grind
  have pZ:=qyt h0 hZ;have iZ:=Rat.inv_pos.2 (show 0<1-Z by grind);have iZ2:=Rat.inv_pos.2 pZ;have r0:0<=R:=by
   have:=mul_nn (mul_nn (show 0<=2*d by grind) (Rat.le_of_lt iZ2)) (show 0<=ev Z (m+1)+d*(1-Z)⁻¹ by
    have:=mul_nn d0 (Rat.le_of_lt iZ);have:=ev_nn Z (m+1);grind)
   grind
  have st:=qako z0 hle w1 k0 (R:=R) (by
   have e1:((j:Rat)+1)*d-(j:Rat)*d=d:=by grind
   rw[e1];refine Rat.le_trans ?_ hR;have zz:=sq_le z0 (show(j:Rat)*d<=Z by grind);have i1:=q0e pZ (show 1-Z*Z<=1-(j:Rat)*d*((j:Rat)*d) by grind);have i2:=q0e (show 0<1-Z by grind) (show 1-Z<=1-((j:Rat)+1)*d by grind);have e2:=ev_le z0 (show(j:Rat)*d<=Z by grind) (m+1);have e3:=ev_nn ((j:Rat)*d) (m+1);have i3:=Rat.inv_pos.2 (show 0<1-((j:Rat)+1)*d by grind);have s1:=Rat.mul_le_mul_of_nonneg_left i1 (show 0<=2*d by grind);have s2:=Rat.mul_le_mul_of_nonneg_left i2 d0;have s3:=mul_nn d0 (Rat.le_of_lt i3);exact qfx s1 (by grind) (mul_nn (by grind) (Rat.le_of_lt iZ2)) (by grind)) hR1 e
  refine⟨K*(1-R),mul_nn k0 (by grind),?_,st⟩;have k2:=mul_nn (show 0<=K-(1-(j:Rat)*R) by grind) (show 0<=1-R by grind);have k3:=mul_nn jn (mul_nn r0 r0);grind
theorem qakw {Z:Rat}(h0:0<=Z)(h1:Z<1)(m:Nat):ev Z m*(1+(m:Rat)*(1-Z*Z))<=1:=by
 have p:=qyt h0 h1;have z2:=sq_nn Z;induction m with
 |zero=>have h0:((0:Nat):Rat)=0:=rfl
        simp only[ev];rw[h0];grind
 |succ m ih=>
  have mn:=natnn m;have en:=ev_nn Z m;rw[qa1];simp only[ev];have k:=mul_nn en (mul_nn (show 0<=(m:Rat)+1 by grind) (sq_nn (1-Z*Z)));generalize hz:Z*Z=z at *
  grind
theorem qakv {Z δ:Rat}(h0:0<=Z)(h1:Z<1)(hd:0<δ):∃m,ev Z (m+1)<=δ:=by
 have p:=qyt h0 h1;have ip:=Rat.inv_pos.2 p;have id':=Rat.inv_pos.2 hd;have pm:=qa7 p;have dm:=qa7 hd;obtain⟨m,hm⟩:=arch (δ⁻¹*(1-Z*Z)⁻¹);refine⟨m,?_⟩;have b:=qakw h0 h1 (m+1);rw[qa1]at b;have e0:=ev_nn Z (m+1);have h2:δ⁻¹<=1+((m:Rat)+1)*(1-Z*Z):=by
  have:=Rat.mul_le_mul_of_nonneg_right hm (Rat.le_of_lt p);have e:δ⁻¹*(1-Z*Z)⁻¹*(1-Z*Z)=δ⁻¹:=by
   rw[Rat.mul_assoc,Rat.mul_comm (1-Z*Z)⁻¹,pm,Rat.mul_one]
  rw[e]at this;grind
 have h3:=Rat.mul_le_mul_of_nonneg_left h2 e0;have h4:=Rat.mul_le_mul_of_nonneg_right (Rat.le_trans h3 b) (Rat.le_of_lt hd);have e:ev Z (m+1)*δ⁻¹*δ=ev Z (m+1):=by
  rw[Rat.mul_assoc,Rat.mul_comm δ⁻¹,dm,Rat.mul_one]
 rw[e]at h4;grind
theorem qao6 {Z b:Rat}(h0:0<=Z)(h1:Z<1)(hb:∀m,ll Z m<=b):EHi (gg Z) b:=by
 have gz:=gg_nn h0 h1;have pz:=qyt h0 h1;have iz:=Rat.inv_pos.2 pz;have iB:=Rat.inv_pos.2 (show 0<1-Z by grind);have⟨C,hC⟩:∃C,C=2*Z*(1-Z*Z)⁻¹:=⟨_,rfl⟩
 have C0:0<=C:=by rw[hC];exact mul_nn (by grind) (Rat.le_of_lt iz)
 have⟨B,hB⟩:∃B,B=Z*(1-Z)⁻¹:=⟨_,rfl⟩
 have B0:0<=B:=by rw[hB];exact mul_nn h0 (Rat.le_of_lt iB)
 intro ε he;have gC:=mul_nn gz C0;have pg:0<gg Z*C+1:=by grind
 have ig:=Rat.inv_pos.2 pg;have gm:=qa7 pg;have⟨δ,hδ⟩:∃δ,δ=ε/4*(gg Z*C+1)⁻¹:=⟨_,rfl⟩
 have d0:0<δ:=by rw[hδ];exact Rat.mul_pos (by grind) ig
 have d1:gg Z*C*δ<=ε/4:=by
  have e:(gg Z*C+1)*δ=ε/4:=by
   rw[hδ];have:(gg Z*C+1)*(ε/4*(gg Z*C+1)⁻¹)=ε/4*((gg Z*C+1)*(gg Z*C+1)⁻¹):=by grind
   rw[this,gm,Rat.mul_one]
  grind
 have dd:=Rat.inv_pos.2 d0;have ddm:=qa7 d0;obtain⟨m,hm⟩:=qakv h0 h1 d0;obtain⟨N,hN⟩:=arch (B*δ⁻¹+2*(C*δ)+1);have t0:=mul_nn B0 (Rat.le_of_lt dd);have t1:=mul_nn C0 (Rat.le_of_lt d0);have N0:(0:Rat)<N:=by grind
 have nN:=qa7 N0;have iN:=Rat.inv_pos.2 N0;have bN:B*(N:Rat)⁻¹<=δ:=by
  have a:=Rat.mul_le_mul_of_nonneg_right (show B*δ⁻¹<=(N:Rat) by grind) (Rat.le_of_lt iN);rw[nN]at a;have c:=Rat.mul_le_mul_of_nonneg_right a (Rat.le_of_lt d0);have e:B*δ⁻¹*(N:Rat)⁻¹*δ=B*(N:Rat)⁻¹*(δ*δ⁻¹):=by grind
  rw[e,ddm]at c;grind
 have cN:2*(C*δ)*(N:Rat)⁻¹<=1:=by
  have a:=Rat.mul_le_mul_of_nonneg_right (show 2*(C*δ)<=(N:Rat) by grind) (Rat.le_of_lt iN);rwa[nN]at a
 have dN:(N:Rat)*(Z*(N:Rat)⁻¹)=Z:=by
  have:(N:Rat)*(Z*(N:Rat)⁻¹)=Z*((N:Rat)*(N:Rat)⁻¹):=by grind
  rw[this,nN,Rat.mul_one]
 obtain⟨K,k0,k1,e⟩:=qac5 (m:=m) (Z:=Z) (d:=Z*(N:Rat)⁻¹) (R:=C*(N:Rat)⁻¹*(2*δ)) h0 (mul_nn h0 (Rat.le_of_lt iN)) h1 (by
  have e1:2*(Z*(N:Rat)⁻¹)*(1-Z*Z)⁻¹=C*(N:Rat)⁻¹:=by rw[hC];grind
  have e2:Z*(N:Rat)⁻¹*(1-Z)⁻¹=B*(N:Rat)⁻¹:=by rw[hB];grind
  rw[e1,e2];exact Rat.mul_le_mul_of_nonneg_left (by grind) (mul_nn C0 (Rat.le_of_lt iN))) (by grind) N (by rw[dN];exact Rat.le_refl)
 rw[dN]at e;have e3:(N:Rat)*(C*(N:Rat)⁻¹*(2*δ))=2*(C*δ):=by
  have:(N:Rat)*(C*(N:Rat)⁻¹*(2*δ))=2*(C*δ)*((N:Rat)*(N:Rat)⁻¹):=by grind
  rw[this,nN,Rat.mul_one]
 rw[e3]at k1;have g:gg Z<=gg Z*K+ε/2:=by
  have:=Rat.mul_le_mul_of_nonneg_left k1 gz;grind
 have e4:=e.mono (hb m);obtain⟨M,hM⟩:=e4 (ε/2) (qd1 he);exact⟨M,fun i hi=>by have:=hM i hi;grind⟩
theorem ELo.inv {a d:Rat}(h:ELo a d)(hd:0<d):EHi d⁻¹ (-a):=by
 have i:=Rat.inv_pos.2 hd;have m:=qa7 hd;have h1:=SLe.mul_left h (c:=qs (-a)) (fun n=>qs_nn _ n) (qpn _);have h2:=(qabz a).symm.le_left.trans h1;have h3:=h2.mul_left (c:=fun _=>d⁻¹) (fun _=>Rat.le_of_lt i) (Bnd.const _);refine SLe.trans (SLe.of_le 0 fun n _=>?_) (h3.trans (SLe.trans (SLe.of_le 0 fun n _=>?_) (qnr (-a)).le_left))
 ·show d⁻¹<=d⁻¹*1;grind
 ·show d⁻¹*(qs (-a) n*d)<=qs (-a) n;have:d⁻¹*(qs (-a) n*d)=qs (-a) n*(d*d⁻¹):=by grind
  rw[this,m];grind
theorem EHi.inv {a d:Rat}(h:EHi d a)(hd:0<d):ELo (-a) d⁻¹:=by
 have i:=Rat.inv_pos.2 hd;have m:=qa7 hd;have h1:=SLe.mul_left h (c:=qs (-a)) (fun n=>qs_nn _ n) (qpn _);have h2:=h1.trans (qabz a).le_left;have h3:=h2.mul_left (c:=fun _=>d⁻¹) (fun _=>Rat.le_of_lt i) (Bnd.const _);refine(qnr (-a)).symm.le_left.trans (SLe.trans (SLe.of_le 0 fun n _=>?_) (h3.trans (SLe.of_le 0 fun n _=>?_)))
 ·show qs (-a) n<=d⁻¹*(qs (-a) n*d);have:d⁻¹*(qs (-a) n*d)=qs (-a) n*(d*d⁻¹):=by grind
  rw[this,m];grind
 ·show d⁻¹*1<=d⁻¹;grind
theorem qag5 {a:Rat}(h:0<a):(a⁻¹)⁻¹=a:=by
 have m:=qa7 h;have m2:=qa7 (Rat.inv_pos.2 h);have:(a*a⁻¹)*(a⁻¹)⁻¹=a*(a⁻¹*(a⁻¹)⁻¹):=by grind
 rw[m,m2]at this;grind
theorem qamx (z:Rat)(k:Nat):od (-z) k=- od z k:=by
 induction k with
 |zero=>rfl
 |succ k ih=>simp only[od];rw[ih];grind
theorem qaif (z:Rat)(k:Nat):lt (-z) k=- lt z k:=by
 unfold lt;rw[qamx,Rat.div_def,Rat.div_def,Rat.neg_mul]
theorem qam6 (z:Rat)(n:Nat):ll (-z) n=- ll z n:=by
 have:ps (lt (-z)) n=- ps (lt z) n:=by
  induction n with
  |zero=>exact qaif z 0
  |succ n ih=>rw[ps,ps,ih,qaif];grind
 unfold ll;rw[this];grind
theorem qaij {z:Rat}(h0:-1<z)(h1:z<1):0<gg z:=Rat.mul_pos (by grind) (Rat.inv_pos.2 (by grind))
theorem qann {z:Rat}(h0:-1<z)(h1:z<1):gg (-z)=(gg z)⁻¹:=by
 have p:=qaij h0 h1;have m:=qa7 p;have e:gg z*gg (-z)=1:=by
  unfold gg;have a:=qa7 (show 0<1-z by grind);have b:=qa7 (show 0<1 - -z by grind);have:(1+z)*(1-z)⁻¹*((1+-z)*(1 - -z)⁻¹)=((1-z)*(1-z)⁻¹)*((1 - -z)*(1 - -z)⁻¹):=by grind
  rw[this,a,b];grind
 have:(gg z)⁻¹*(gg z*gg (-z))=gg z*(gg z)⁻¹*gg (-z):=by grind
 rw[e,m]at this;grind
theorem qakg {z:Rat}(h0:0<=z){n m:Nat}(h:n<=m):ll z n<=ll z m:=by
 have:=qz4 (f:=lt z) (fun i=>by
  unfold lt;rw[Rat.div_def];exact mul_nn (od_nn h0 i) (Rat.le_of_lt (Rat.inv_pos.2 (qu0 (2*i))))) h
 unfold ll;grind
theorem q9p {z a b:Rat}(h0:-1<z)(h1:z<1)(n:Nat)(h:∀k,n<=k->a<=ll z k/\ll z k<=b):ELo a (gg z)/\EHi (gg z) b:=by
 have pos:∀{z a b:Rat},0<=z->z<1->(∀k,n<=k->a<=ll z k/\ll z k<=b)->ELo a (gg z)/\EHi (gg z) b:=by
  intro z a b h0 h1 h;refine⟨(qao5 h0 h1 n).mono (h n (Nat.le_refl _)).1,qao6 h0 h1 fun m=>?_⟩;have:=(h (max n m) (by omega)).2;exact Rat.le_trans (qakg h0 (by omega)) this
 rcases(inferInstance:Decidable (0<=z))with hz|hz
 ·have p:=qaij h0 h1;obtain⟨q1,q2⟩:=pos (z:=-z) (a:=-b) (b:=-a) (by grind) (by grind) fun k hk=>by
   obtain⟨u,v⟩:=h k hk;rw[qam6];constructor<;>grind
  rw[qann h0 h1]at q1 q2;have r1:=q1.inv (Rat.inv_pos.2 p);have r2:=q2.inv (Rat.inv_pos.2 p);rw[qag5 p]at r1 r2;rw[show - -b=b by grind]at r1;rw[show - -a=a by grind]at r2;exact⟨r2,r1⟩
 ·exact pos hz h1 h
theorem qakf {z c:Rat}(hz:2*(z*z)<=1)(n:Nat)(hc:Bd (od z n) c)(j:Nat):Bd (ll z (n+j)-ll z n) (2*c):=by
 have hs:=sq_nn z;have key:∀j,∃d:Rat,0<=d/\Bd (od z (n+j)) d/\Bd (ps (lt z) (n+j)-ps (lt z) n) (c-d):=by
  intro j;induction j with
  |zero=>exact⟨c,hc.nn,hc,by constructor<;>grind⟩
  |succ j ih=>
   obtain⟨d,d0,e1,e2⟩:=ih;have zz:Bd (z*z) (1/2):=by constructor<;>grind
   have e3:=e1.mul zz;refine⟨d*(1/2),by grind,e3,?_⟩;have hp:=qu0 (2*(n+j+1));have e4:Bd (lt z (n+j+1)) (d*(1/2)):=by
    have h1:(1:Rat)<=((2*(n+j+1)+1:Nat):Rat):=by
     have:=qrt (show 1<=2*(n+j+1)+1 by omega);exact this
    have e5:=e3.div hp;have e6:d*(1/2)/((2*(n+j+1)+1:Nat):Rat)<=d*(1/2):=by
     have i1:=q0e (show(0:Rat)<1 by decide) h1;have i2:(1:Rat)⁻¹=1:=by grind
     rw[i2]at i1;rw[Rat.div_def];have:=Rat.mul_le_mul_of_nonneg_left i1 (show 0<=d*(1/2) by grind);grind
    obtain⟨u,v⟩:=e5;exact⟨by unfold lt;simp only[od];grind,by unfold lt;simp only[od];grind⟩
   rw[show n+(j+1)=n+j+1 by omega];simp only[ps];have:=e2.add e4;obtain⟨u,v⟩:=this;constructor<;>grind
 obtain⟨d,d0,_,u,v⟩:=key j;unfold ll;constructor<;>grind
theorem qamd (x:Rat)(n:Nat):tm (-x) n=tm x n\/tm (-x) n=- tm x n:=by
 induction n with
 |zero=>left;rfl
 |succ n ih=>
  simp only[tm];rw[Rat.div_def,Rat.div_def];rcases ih with h|h<;>rw[h]
  ·right;grind
  ·left;grind
theorem qakx {x c:Rat}(h1:-1<=2*x)(h2:2*x<=1){n:Nat}(hn:1<=n)(hc:Bd (tm x n) c)(j:Nat):Bd (es x (n+j)-es x n) c:=by
 have pos:∀{y:Rat},0<=y->2*y<=1->Bd x y->(tm y n<=c)->Bd (es x (n+j)-es x n) c:=by
  intro y y0 y1 hx ht;have n1:=qrt hn;have e1:((1:Nat):Rat)=1:=rfl;rw[e1]at n1;have a:=qzv y0 (n:=n) (by grind) j;have b:=tm_nn y0 (n+j);obtain⟨u,v⟩:=ps_Bd (tm_Bd hx) (show n<=n+j by omega);have e2:∀z m,es z m=ps (tm z) m:=fun _ _=>rfl
  rw[e2,e2]at a;rw[e2,e2];constructor<;>grind
 obtain⟨c1,c2⟩:=hc;rcases(inferInstance:Decidable (0<=x))with hz|hz
 ·refine pos (y:=-x) (by grind) (by grind) ⟨by grind,by grind⟩ ?_;rcases qamd x n with h|h<;>rw[h]<;>grind
 ·exact pos hz h2 ⟨by grind,by grind⟩ c2
end Go.Abs.W
