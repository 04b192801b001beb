/- Parts of the proof: FpEx, FpEx2, FpEx3, FpEx4, FpEx5, FpEx6, FpEx7, FpEx8, FpEx9, FpExA, FpExB. -/
namespace Go.Abs.W
def tm (x:Rat):Nat->Rat
 |0=>1
 |n+1=>tm x n*x/(n+1:Nat)
def ps (f:Nat->Rat):Nat->Rat
 |0=>f 0
 |n+1=>ps f n+f (n+1)
def cv (f g:Nat->Rat):Nat->Rat
 |0=>f 0*g 0
 |k+1=>f 0*g (k+1)+cv (fun i=>f (i+1)) g k
theorem qav (n:Nat):((n+1:Nat):Rat)=(n:Rat)+1:=by
 simp
theorem natnn : ∀n:Nat,(0:Rat)<=(n:Rat)
 |0=>Rat.le_refl
 |n+1=>by rw[qav];have:=natnn n;grind
theorem qh8 (n:Nat):(0:Rat)<((n+1:Nat):Rat):=by
 rw[qav];have:=natnn n;grind
theorem qjp (x:Rat)(n:Nat):((n+1:Nat):Rat)*tm x (n+1)=x*tm x n:=by
 have h:=qh8 n;show _*(tm x n*x/_)=_;generalize ((n+1:Nat):Rat)=c at *
 have hc:c≠0:=by grind
 grind
theorem q2c (f h g:Nat->Rat)(k:Nat):cv (fun i=>f i+h i) g k=cv f g k+cv h g k:=by
 induction k generalizing f h with
 |zero=>simp only[cv];grind
 |succ k ih=>simp only[cv];rw[ih];grind
theorem qzz (c:Rat)(f g:Nat->Rat)(k:Nat):cv (fun i=>c*f i) g k=c*cv f g k:=by
 induction k generalizing f with
 |zero=>simp only[cv];grind
 |succ k ih=>simp only[cv];rw[ih];grind
theorem q94 (f g:Nat->Rat)(k:Nat):cv (fun i=>(i:Rat)*f i) g k+cv f (fun i=>(i:Rat)*g i) k=(k:Rat)*cv f g k:=by
 induction k generalizing f with
 |zero=>simp only[cv];have h0:((0:Nat):Rat)=0:=rfl
        rw[h0];grind
 |succ k ih=>
  have h1:(fun i:Nat=>((i+1:Nat):Rat)*f (i+1))=(fun i=>f (i+1)+(i:Rat)*f (i+1)):=by
   funext i;rw[qav];grind
  have h2:=ih (fun i=>f (i+1));simp only[cv];rw[h1,q2c];have h3:=qav k;simp only[h3];have h0:((0:Nat):Rat)=0:=rfl;rw[h0];grind
theorem qadf (y:Rat)(f g g':Nat->Rat)(h0:g' 0=0)(h1:∀j,g' (j+1)=y*g j)(k:Nat):cv f g' (k+1)=y*cv f g k:=by
 induction k generalizing f with
 |zero=>simp only[cv];rw[h0,h1];grind
 |succ k ih=>
  have:=ih (fun i=>f (i+1));rw[cv,this,h1];simp only[cv];grind
theorem cv_tm (x y:Rat)(k:Nat):cv (tm x) (tm y) k=tm (x+y) k:=by
 induction k with
 |zero=>simp[cv,tm]
 |succ k ih=>
  have h1:=q94 (tm x) (tm y) (k+1);have h2:cv (fun i=>(i:Rat)*tm x i) (tm y) (k+1)=x*cv (tm x) (tm y) k:=by
   rw[cv];have e:(fun i:Nat=>((i+1:Nat):Rat)*tm x (i+1))=fun i=>x*tm x i:=by funext i;exact qjp x i
   rw[e,qzz];have h0:((0:Nat):Rat)=0:=rfl;rw[h0];grind
  have h3:=qadf y (tm x) (tm y) (fun i=>(i:Rat)*tm y i) (by simp) (fun j=>qjp y j) k;rw[h2,h3,ih]at h1;have h4:=qjp (x+y) k;have hp:=qh8 k;generalize ((k+1:Nat):Rat)=c at *
  have hc:c≠0:=by grind
  have:c*cv (tm x) (tm y) (k+1)=c*tm (x+y) (k+1):=by grind
  grind
theorem ps_cv (f g:Nat->Rat)(m:Nat):ps (cv f g) m=cv f (ps g) m:=by
 have key:∀(m:Nat) (f:Nat->Rat),ps (cv f g) (m+1)=f 0*ps g (m+1)+ps (cv (fun i=>f (i+1)) g) m:=by
  intro m f;induction m with
  |zero=>simp only[ps,cv];grind
  |succ m ih=>rw[ps,ih];simp only[ps,cv];grind
 induction m generalizing f with
 |zero=>rfl
 |succ m ih=>rw[key,ih];rfl
def Bd (x a:Rat):Prop:=-a<=x/\x<=a
theorem Bd.nn {x a:Rat}(h:Bd x a):0<=a:=by obtain⟨h1,h2⟩:=h;grind
theorem Bd.add {x a y b:Rat}(h:Bd x a)(k:Bd y b):Bd (x+y) (a+b):=by
 obtain⟨h1,h2⟩:=h;obtain⟨k1,k2⟩:=k;constructor<;>grind
theorem mul_nn {a b:Rat}(ha:0<=a)(hb:0<=b):0<=a*b:=Rat.mul_nonneg ha hb
theorem qcj {a b c d:Rat}(h1:a<=b)(h2:c<=d)(hb:0<=b)(hc:0<=c):a*c<=b*d:=by
 have e1:=mul_nn (a:=b-a) (b:=c) (by grind) hc;have e2:=mul_nn (a:=b) (b:=d-c) hb (by grind);grind
theorem Bd.mul {x a y b:Rat}(h:Bd x a)(k:Bd y b):Bd (x*y) (a*b):=by
 obtain⟨h1,h2⟩:=h;obtain⟨k1,k2⟩:=k;have e1:=mul_nn (a:=a+x) (b:=b+y) (by grind) (by grind);have e2:=mul_nn (a:=a-x) (b:=b-y) (by grind) (by grind);have e3:=mul_nn (a:=a-x) (b:=b+y) (by grind) (by grind);have e4:=mul_nn (a:=a+x) (b:=b-y) (by grind) (by grind);constructor<;>grind
theorem Bd.div {x a c:Rat}(h:Bd x a)(hc:0<c):Bd (x/c) (a/c):=by
 obtain⟨h1,h2⟩:=h;have hi:0<c⁻¹:=Rat.inv_pos.2 hc;have e1:=mul_nn (a:=a+x) (b:=c⁻¹) (by grind) (by grind);have e2:=mul_nn (a:=a-x) (b:=c⁻¹) (by grind) (by grind);rw[Rat.div_def,Rat.div_def];constructor<;>grind
theorem tm_Bd {x a:Rat}(h:Bd x a):∀n,Bd (tm x n) (tm a n)
 |0=>by simp only[tm,Bd];grind
 |n+1=>((tm_Bd h n).mul h).div (qh8 n)
theorem tm_nn {a:Rat}(h:0<=a)(n:Nat):0<=tm a n:=(tm_Bd (x:=a) (a:=a) ⟨by grind,by grind⟩ n).nn
theorem cv_Bd {f F:Nat->Rat}(hf:∀i,Bd (f i) (F i)):∀{d D:Nat->Rat} {m:Nat},(∀j,j<=m->Bd (d j) (D j))->Bd (cv f d m) (cv F D m):=by
 intro d D m hd;induction m generalizing f F with
 |zero=>exact(hf 0).mul (hd 0 (Nat.le_refl _))
 |succ m ih=>exact((hf 0).mul (hd _ (Nat.le_refl _))).add (ih (fun i=>hf (i+1)) (fun j hj=>hd j (by omega)))
theorem ps_Bd {f F:Nat->Rat}(hf:∀i,Bd (f i) (F i)){n m:Nat}(h:n<=m):Bd (ps f m-ps f n) (ps F m-ps F n):=by
 induction m with
 |zero=>obtain rfl:n=0:=by omega
        constructor<;>grind
 |succ m ih=>
  rcases Nat.lt_or_ge n (m+1)with h1|h1
  ·have:=(ih (by omega)).add (hf (m+1));simp only[ps];obtain⟨a,b⟩:=this;constructor<;>grind
  ·obtain rfl:n=m+1:=by omega
   constructor<;>grind
theorem qzy (f g:Nat->Rat)(c:Rat)(m:Nat):cv f (fun j=>c-g j) m=ps f m*c-cv f g m:=by
 have key:∀(m:Nat) (f:Nat->Rat),ps f (m+1)=f 0+ps (fun i=>f (i+1)) m:=by
  intro m f;induction m with
  |zero=>simp only[ps]
  |succ m ih=>rw[ps,ih];simp only[ps];grind
 induction m generalizing f with
 |zero=>simp only[cv,ps];grind
 |succ m ih=>rw[cv,ih,key];simp only[cv];grind
def es (x:Rat)(n:Nat):Rat:=ps (tm x) n
theorem q18 (x y:Rat)(m:Nat):es x m*es y m-es (x+y) m=cv (tm x) (fun j=>es y m-es y j) m:=by
 have h:es (x+y) m=cv (tm x) (fun j=>es y j) m:=by
  have:=ps_cv (tm x) (tm y) m;rw[show cv (tm x) (tm y)=tm (x+y) from funext (cv_tm x y)]at this;exact this
 rw[qzy,h];rfl
theorem qu8 {x y a b:Rat}(hx:Bd x a)(hy:Bd y b)(m:Nat):Bd (es x m*es y m-es (x+y) m) (es a m*es b m-es (a+b) m):=by
 rw[q18,q18];exact cv_Bd (tm_Bd hx) fun j hj=>ps_Bd (tm_Bd hy) hj
theorem q1e {f:Nat->Rat}(hf:∀i,0<=f i){n m:Nat}(h:n<=m):ps f n<=ps f m:=by
 have:=(ps_Bd (f:=f) (F:=f) (fun i=>⟨by have:=hf i;grind,by grind⟩) h).nn;grind
theorem ps_nn {f:Nat->Rat}(hf:∀i,0<=f i)(n:Nat):0<=ps f n:=by
 have h:=q1e hf (Nat.zero_le n);have h0:=hf 0;simp only[ps]at h;grind
theorem cv_nn {f G:Nat->Rat}(hf:∀i,0<=f i)(hg:∀i,0<=G i)(m:Nat):0<=cv f G m:=by
 induction m generalizing f with
 |zero=>exact mul_nn (hf 0) (hg 0)
 |succ m ih=>
  have h1:=mul_nn (hf 0) (hg (m+1));have h2:=ih (f:=fun i=>f (i+1)) (fun i=>hf _);simp only[cv];grind
theorem qv3 (f:Nat->Rat)(m:Nat):ps f (m+1)=f 0+ps (fun i=>f (i+1)) m:=by
 induction m with
 |zero=>simp only[ps]
 |succ m ih=>rw[ps,ih];simp only[ps];grind
theorem q8g {f g:Nat->Rat}(hf:∀i,0<=f i)(hg:∀i,0<=g i)(h k:Nat):ps f h*ps g k<=cv f (ps g) (h+k):=by
 have gn:=ps_nn hg;induction h generalizing f with
 |zero=>
  rw[Nat.zero_add];cases k with
  |zero=>exact Rat.le_refl
  |succ k=>
   have h2:=cv_nn (f:=fun i=>f (i+1)) (fun i=>hf _) gn k;simp only[cv];show f 0*_<=_;grind
 |succ h ih=>
  have h1:=ih (f:=fun i=>f (i+1)) (fun i=>hf _);have h2:=qcj (a:=f 0) (b:=f 0) Rat.le_refl (q1e hg (show k<=h+1+k by omega)) (hf 0) (gn k);rw[qv3,show h+1+k=h+k+1 by omega,cv];rw[show h+1+k=h+k+1 by omega]at h2;grind
theorem q9u {a:Rat}(h:0<=a){n m:Nat}(hn:n<=m):es a n<=es a m:=q1e (tm_nn h) hn
theorem qzs {a b:Rat}(ha:0<=a)(hb:0<=b)(m:Nat):es a m*es b m<=es (a+b) (m+m):=by
 have h:=ps_cv (tm a) (tm b) (m+m);rw[show cv (tm a) (tm b)=tm (a+b) from funext (cv_tm a b)]at h;show _<=ps _ _;rw[h];exact q8g (tm_nn ha) (tm_nn hb) m m
theorem q7a {c:Rat}(h:0<=c){n:Nat}(hn:2*c<=(n:Rat)):2*tm c (n+1)<=tm c n:=by
 have h1:=qjp c n;have h2:=tm_nn h n;have h3:=tm_nn h (n+1);rw[qav]at h1;have h4:=mul_nn (a:=(n:Rat)+1-2*c) (b:=tm c (n+1)) (by grind) h3;by_cases h0:c=0
 ·subst h0;show 2*(tm 0 n*0/_)<=_;rw[Rat.mul_zero,Rat.div_def,Rat.zero_mul];grind
 ·have hc0:0<c:=by grind
  have h5:0<=c*(tm c n-2*tm c (n+1)):=by grind
  have hi:0<c⁻¹:=Rat.inv_pos.2 hc0;have h6:=mul_nn (a:=c⁻¹) (by grind) h5;have h7:c⁻¹*c=1:=by grind
  rw[<-Rat.mul_assoc,h7,Rat.one_mul]at h6;grind
theorem q00 {c:Rat}(h:0<=c){n:Nat}(hn:2*c<=(n:Rat))(j:Nat):es c (n+j)-es c n+tm c (n+j)<=tm c n:=by
 induction j with
 |zero=>simp only[Nat.add_zero];grind
 |succ j ih=>
  have h1:=q7a h (n:=n+j) (by rw[Rat.natCast_add];have:=natnn j;grind);rw[show n+(j+1)=n+j+1 by omega];show ps _ _+tm c (n+j+1)-_+_<=_;have:es c (n+j)=ps (tm c) (n+j):=rfl;grind
theorem qai9 {c:Rat}(h:0<=c){n:Nat}(hn:2*c<=(n:Rat))(j:Nat):((j:Rat)+1)*tm c (n+j)<=tm c n:=by
 induction j with
 |zero=>simp only[Nat.add_zero];have h0:((0:Nat):Rat)=0:=rfl
        rw[h0];grind
 |succ j ih=>
  have h1:=q7a h (n:=n+j) (by rw[Rat.natCast_add];have:=natnn j;grind);have h2:=tm_nn h (n+j+1);have h3:=natnn j;rw[qav,show n+(j+1)=n+j+1 by omega];have h4:=mul_nn h3 h2;have h5:=mul_nn (a:=(j:Rat)+1) (b:=tm c (n+j)-2*tm c (n+j+1)) (by grind) (by grind);grind
theorem arch (q:Rat):∃n:Nat,q<=(n:Rat):=by
 refine⟨q.ceil.toNat,?_⟩;have h1:=@Rat.le_ceil q;have h2:q.ceil<=(q.ceil.toNat:Int):=by omega
 have h3:=Rat.intCast_le_intCast.2 h2;rw[Rat.intCast_natCast]at h3;grind
theorem qa2 {a b:Nat}(h:a<=b):(a:Rat)<=(b:Rat):=by
 obtain⟨k,rfl⟩:=Nat.exists_eq_add_of_le h;rw[Rat.natCast_add];have:=natnn k;grind
theorem q17 {c:Rat}(h:0<=c){ε:Rat}(he:0<ε):∃N,∀n m,N<=n->n<=m->es c m-es c n<=ε:=by
 obtain⟨K,hK⟩:=arch (2*c);obtain⟨j,hj⟩:=arch (tm c K*ε⁻¹);have hi:0<ε⁻¹:=Rat.inv_pos.2 he;refine⟨K+j,fun n m hn hm=>?_⟩;obtain⟨i,rfl⟩:=Nat.exists_eq_add_of_le (show K<=n by omega);obtain⟨k,rfl⟩:=Nat.exists_eq_add_of_le hm;have h1:=q00 h (n:=K+i) (by rw[Rat.natCast_add];have:=natnn i;grind) k;have h2:=qai9 h hK i;have h3:=qa2 (show j<=i by omega);have h4:=tm_nn h (K+i);have h5:=tm_nn h (K+i+k);have h6:ε⁻¹*ε=1:=by grind
 have h7:tm c K<=(i:Rat)*ε:=by
  have:=mul_nn (a:=(i:Rat)-tm c K*ε⁻¹) (b:=ε) (by grind) (by grind);have e:tm c K*ε⁻¹*ε=tm c K:=by rw[Rat.mul_assoc,h6,Rat.mul_one]
  rw[Rat.sub_eq_add_neg,Rat.add_mul,Rat.neg_mul,e]at this;grind
 have h8:0<(i:Rat)+1:=by have:=natnn i;grind
 have h9:((i:Rat)+1)*(ε-tm c (K+i)) ≥ 0:=by grind
 have h10:0<=ε-tm c (K+i):=by
  have hi2:0<((i:Rat)+1)⁻¹:=Rat.inv_pos.2 h8;have:=mul_nn (a:=((i:Rat)+1)⁻¹) (by grind) h9;have e:((i:Rat)+1)⁻¹*((i:Rat)+1)=1:=by grind
  rw[<-Rat.mul_assoc,e,Rat.one_mul]at this;exact this
 grind
def Null (s:Nat->Rat):Prop:=∀ε:Rat,0<ε->∃N,∀n,N<=n->Bd (s n) ε
def Bnd (s:Nat->Rat):Prop:=∃B:Rat,∃N,∀n,N<=n->Bd (s n) B
theorem qep {ε:Rat}(h:0<ε):0<ε/2:=by grind
theorem Null.add {s t:Nat->Rat}(hs:Null s)(ht:Null t):Null (fun n=>s n+t n):=by
 intro ε he;obtain⟨N,hN⟩:=hs (ε/2) (qep he);obtain⟨M,hM⟩:=ht (ε/2) (qep he);refine⟨max N M,fun n hn=>?_⟩;have:=(hN n (by omega)).add (hM n (by omega));rwa[show ε/2+ε/2=ε by grind]at this
theorem Null.neg {s:Nat->Rat}(hs:Null s):Null (fun n=>- s n):=by
 intro ε he;obtain⟨N,hN⟩:=hs ε he;refine⟨N,fun n hn=>?_⟩;obtain⟨a,b⟩:=hN n hn;constructor<;>grind
theorem Null.sub {s t:Nat->Rat}(hs:Null s)(ht:Null t):Null (fun n=>s n-t n):=by
 have:=hs.add ht.neg;simpa only[<-Rat.sub_eq_add_neg]using this
theorem Null.mul {s t:Nat->Rat}(hs:Null s)(ht:Bnd t):Null (fun n=>s n*t n):=by
 intro ε he;obtain⟨B,M,hM⟩:=ht;have hB:0<B*B+1:=by
  have:0<=B*B:=by
   have hb:=(hM M (Nat.le_refl _)).nn;exact mul_nn hb hb
  grind
 have hb:=(hM M (Nat.le_refl _)).nn;have hi:0<(B+1)⁻¹:=Rat.inv_pos.2 (by grind);obtain⟨N,hN⟩:=hs (ε*(B+1)⁻¹) (Rat.mul_pos he hi);refine⟨max N M,fun n hn=>?_⟩;have h1:=(hN n (by omega)).mul (hM n (by omega));have e:ε*(B+1)⁻¹*(B+1)=ε:=by
  have:(B+1)⁻¹*(B+1)=1:=by grind
  rw[Rat.mul_assoc,this,Rat.mul_one]
 have h2:ε*(B+1)⁻¹*B<=ε:=by
  have h3:=mul_nn (a:=ε) (b:=(B+1)⁻¹) (by grind) (by grind);have h4:ε*(B+1)⁻¹*(B+1)=ε*(B+1)⁻¹*B+ε*(B+1)⁻¹:=by grind
  grind
 obtain⟨a,b⟩:=h1;constructor<;>grind
theorem Null.zero : Null (fun _=>0):=fun ε he=>⟨0,fun n _=>⟨by grind,by grind⟩⟩
theorem Null.mono {s t:Nat->Rat}(ht:Null t)(h:∀n,Bd (s n) (t n)):Null s:=by
 intro ε he;obtain⟨N,hN⟩:=ht ε he;refine⟨N,fun n hn=>?_⟩;obtain⟨a,b⟩:=hN n hn;obtain⟨c,d⟩:=h n;constructor<;>grind
theorem Null.congr {s t:Nat->Rat}(hs:Null s)(h:∀n,s n=t n):Null t:=by
 rwa[show s=t from funext h]at hs
theorem Bnd.add {s t:Nat->Rat}(hs:Bnd s)(ht:Bnd t):Bnd (fun n=>s n+t n):=by
 obtain⟨A,N,hN⟩:=hs;obtain⟨B,M,hM⟩:=ht;exact⟨A+B,max N M,fun n hn=>(hN n (by omega)).add (hM n (by omega))⟩
theorem Bnd.mul {s t:Nat->Rat}(hs:Bnd s)(ht:Bnd t):Bnd (fun n=>s n*t n):=by
 obtain⟨A,N,hN⟩:=hs;obtain⟨B,M,hM⟩:=ht;exact⟨A*B,max N M,fun n hn=>(hN n (by omega)).mul (hM n (by omega))⟩
theorem Null.bnd {s:Nat->Rat}(hs:Null s):Bnd s:=by
 obtain⟨N,hN⟩:=hs 1 (by decide);exact⟨1,N,hN⟩
theorem Bnd.neg {s:Nat->Rat}(hs:Bnd s):Bnd (fun n=>- s n):=by
 obtain⟨A,N,hN⟩:=hs;refine⟨A,N,fun n hn=>?_⟩;obtain⟨a,b⟩:=hN n hn;constructor<;>grind
theorem Bnd.sub {s t:Nat->Rat}(hs:Bnd s)(ht:Bnd t):Bnd (fun n=>s n-t n):=by
 have:=hs.add ht.neg;simpa only[<-Rat.sub_eq_add_neg]using this
theorem Bnd.const (c:Rat):Bnd (fun _=>c):=by
 rcases(inferInstance:Decidable (0<=c))with h|h
 ·exact⟨-c,0,fun n _=>⟨by grind,by grind⟩⟩
 ·exact⟨c,0,fun n _=>⟨by grind,by grind⟩⟩
def Near (s t:Nat->Rat):Prop:=Null fun n=>s n-t n
theorem Near.refl (s:Nat->Rat):Near s s:=Null.zero.congr fun n=>by grind
theorem Near.symm {s t:Nat->Rat}(h:Near s t):Near t s:=h.neg.congr fun n=>by grind
theorem Near.trans {s t u:Nat->Rat}(h:Near s t)(k:Near t u):Near s u:=(h.add k).congr fun n=>by grind
theorem Near.add {s t u v:Nat->Rat}(h:Near s t)(k:Near u v):Near (fun n=>s n+u n) (fun n=>t n+v n):=(Null.add h k).congr fun n=>by grind
theorem Near.neg {s t:Nat->Rat}(h:Near s t):Near (fun n=>- s n) (fun n=>- t n):=(Null.neg h).congr fun n=>by grind
theorem Near.sub {s t u v:Nat->Rat}(h:Near s t)(k:Near u v):Near (fun n=>s n-u n) (fun n=>t n-v n):=(Null.sub h k).congr fun n=>by grind
theorem Near.bnd {s t:Nat->Rat}(h:Near s t)(hs:Bnd s):Bnd t:=by
 have:=hs.sub (Null.bnd h);have e:(fun n=>s n-(s n-t n))=t:=by funext n;grind
 rwa[e]at this
theorem Near.mul {s t u v:Nat->Rat}(h:Near s t)(k:Near u v)(hs:Bnd s)(hu:Bnd u):Near (fun n=>s n*u n) (fun n=>t n*v n):=
 ((Null.mul h hu).add (Null.mul k (h.bnd hs))).congr fun n=>by grind
theorem Near.le {a b:Rat}{s t:Nat->Rat}(h:Near s t)(ha:∀n,a<=s n)(hb:∀n,t n<=b):a<=b:=by
 rcases(inferInstance:Decidable (a<=b))with h1|h1
 ·have:0<(a-b)/2:=by grind
  obtain⟨N,hN⟩:=h _ this;obtain⟨h2,h3⟩:=hN N (Nat.le_refl _);have h4:=ha N;have h5:=hb N;grind
 ·exact h1
theorem qs0 (x:Rat):∃a:Rat,0<=a/\Bd x a:=by
 rcases(inferInstance:Decidable (0<=x))with h|h
 ·exact⟨-x,by grind,⟨by grind,by grind⟩⟩
 ·exact⟨x,h,⟨by grind,by grind⟩⟩
theorem es_Bd {x a:Rat}(h:Bd x a)(n:Nat):Bd (es x n) (es a n):=by
 have ht:=tm_Bd h;induction n with
 |zero=>exact ht 0
 |succ n ih=>exact ih.add (ht (n+1))
theorem q37 (x:Rat):Bnd (es x):=by
 obtain⟨a,ha,hx⟩:=qs0 x;obtain⟨N,hN⟩:=q17 ha (ε:=1) (by decide);refine⟨es a N+1,N,fun n hn=>?_⟩;have h1:=hN N n (Nat.le_refl _) hn;obtain⟨b,c⟩:=es_Bd hx n;constructor<;>grind
theorem q9w (x y:Rat):Near (fun n=>es x n*es y n) (es (x+y)):=by
 obtain⟨a,ha,hx⟩:=qs0 x;obtain⟨b,hb,hy⟩:=qs0 y;have hab:0<=a+b:=by grind
 intro ε he;obtain⟨N,hN⟩:=q17 hab he;refine⟨N,fun n hn=>?_⟩;have h1:=qzs ha hb n;have h2:=hN n (n+n) hn (by omega);obtain⟨c,d⟩:=qu8 hx hy n;constructor<;>grind
theorem q16 (n:Nat):es 0 n=1:=by
 induction n with
 |zero=>rfl
 |succ n ih=>
  have:tm 0 (n+1)=0:=by
   show tm 0 n*0/_=0;rw[Rat.mul_zero,Rat.div_def,Rat.zero_mul]
  show es 0 n+tm 0 (n+1)=1;rw[ih,this];grind
def SLe (s t:Nat->Rat):Prop:=∀ε:Rat,0<ε->∃N,∀n,N<=n->s n<=t n+ε
theorem Near.le_left {s t:Nat->Rat}(h:Near s t):SLe s t:=by
 intro ε he;obtain⟨N,hN⟩:=h ε he;exact⟨N,fun n hn=>by obtain⟨a,b⟩:=hN n hn;grind⟩
theorem SLe.trans {s t u:Nat->Rat}(h:SLe s t)(k:SLe t u):SLe s u:=by
 intro ε he;obtain⟨N,hN⟩:=h (ε/2) (qep he);obtain⟨M,hM⟩:=k (ε/2) (qep he);refine⟨max N M,fun n hn=>?_⟩;have h1:=hN n (by omega);have h2:=hM n (by omega);grind
theorem SLe.of_le {s t:Nat->Rat}(N:Nat)(h:∀n,N<=n->s n<=t n):SLe s t:=fun ε he=>⟨N,fun n hn=>by have:=h n hn;grind⟩
theorem SLe.add {s t u v:Nat->Rat}(h:SLe s t)(k:SLe u v):SLe (fun n=>s n+u n) (fun n=>t n+v n):=by
 intro ε he;obtain⟨N,hN⟩:=h (ε/2) (qep he);obtain⟨M,hM⟩:=k (ε/2) (qep he);refine⟨max N M,fun n hn=>?_⟩;have h1:=hN n (by omega);have h2:=hM n (by omega);show s n+u n<=t n+v n+ε;grind
theorem SLe.const {a b:Rat}(h:SLe (fun _=>a) (fun _=>b)):a<=b:=by
 rcases(inferInstance:Decidable (a<=b))with h1|h1
 ·obtain⟨N,hN⟩:=h ((a-b)/2) (by grind);have:=hN N (Nat.le_refl _);grind
 ·exact h1
theorem SLe.mul_left {s t c:Nat->Rat}(h:SLe s t)(hc:∀n,0<=c n)(bc:Bnd c):SLe (fun n=>c n*s n) (fun n=>c n*t n):=by
 intro ε he;obtain⟨B,M,hM⟩:=bc;have hb:=(hM M (Nat.le_refl _)).nn;have hi:0<(B+1)⁻¹:=Rat.inv_pos.2 (by grind);obtain⟨N,hN⟩:=h (ε*(B+1)⁻¹) (Rat.mul_pos he hi);refine⟨max N M,fun n hn=>?_⟩;have h1:=hN n (by omega);obtain⟨h2,h3⟩:=hM n (by omega);have h4:=mul_nn (a:=c n) (b:=t n+ε*(B+1)⁻¹-s n) (hc n) (by grind);have e:ε*(B+1)⁻¹*(B+1)=ε:=by
  have:(B+1)⁻¹*(B+1)=1:=by grind
  rw[Rat.mul_assoc,this,Rat.mul_one]
 have h5:=mul_nn (a:=ε*(B+1)⁻¹) (b:=B-c n) (Rat.le_of_lt (Rat.mul_pos he hi)) (by grind);have h6:=Rat.le_of_lt (Rat.mul_pos he hi);show c n*s n<=c n*t n+ε;generalize ε*(B+1)⁻¹=q at *
 grind
theorem qakn (x:Rat):SLe (fun _=>0) (es x):=by
 have h:=(q9w (x/2) (x/2)).le_left;rw[show x/2+x/2=x by grind]at h;refine SLe.trans (SLe.of_le 0 fun n _=>?_) h;show 0<=es (x/2) n*es (x/2) n;rcases(inferInstance:Decidable (0<=es (x/2) n))with h1|h1
 ·have:=mul_nn (a:=- es (x/2) n) (b:=- es (x/2) n) (by grind) (by grind);grind
 ·exact mul_nn h1 h1
theorem qu9 {h:Rat}(hh:0<=h){n:Nat}(hn:1<=n):1+h<=es h n:=by
 have h1:=q9u hh hn;have h2:es h 1=1+h:=by
  show(1:Rat)+1*h/((0+1:Nat):Rat)=_;have:((0+1:Nat):Rat)=1:=rfl;rw[this];grind
 grind
def qs (x:Rat)(n:Nat):Rat:=es (x/2) n*es (x/2) n
theorem sq_nn (a:Rat):0<=a*a:=by
 rcases(inferInstance:Decidable (0<=a))with h1|h1
 ·have:=mul_nn (a:=-a) (b:=-a) (by grind) (by grind);grind
 ·exact mul_nn h1 h1
theorem qs_nn (x:Rat)(n:Nat):0<=qs x n:=sq_nn _
theorem qm2 (x:Rat):Near (qs x) (es x):=by
 have h:=q9w (x/2) (x/2);rwa[show x/2+x/2=x by grind]at h
theorem qmr (x:Rat):Bnd (qs x):=(q37 _).mul (q37 _)
theorem q3h (x y:Rat):Near (fun n=>qs x n*es y n) (es (x+y)):=
 ((qm2 x).mul (Near.refl (es y)) (qmr x) (q37 y)).trans (q9w x y)
theorem q8b (x:Rat):Near (fun n=>qs (-x) n*es x n) (fun _=>1):=by
 have h:=q3h (-x) x;rwa[show -x+x=0 by grind,show es 0=fun _=>1 from funext q16]at h
theorem q9v {x h:Rat}(hh:0<=h):SLe (fun n=>qs x n*(1+h)) (es (x+h)):=by
 refine SLe.trans (SLe.of_le 1 fun n hn=>?_) (q3h x h).le_left;show _<=qs x n*es h n;have h1:=qu9 hh hn;exact qcj Rat.le_refl h1 (qs_nn x n) (by grind)
theorem qs1 {x y:Rat}(h:x<=y):SLe (es x) (es y):=by
 have h1:=q9v (x:=x) (h:=y-x) (by grind);rw[show x+(y-x)=y by grind]at h1;refine(qm2 x).symm.le_left.trans (SLe.trans (SLe.of_le 0 fun n _=>?_) h1);have:=mul_nn (qs_nn x n) (b:=y-x) (by grind);show qs x n<=_;grind
theorem qako {a b:Rat}(h:SLe (es a) (es b)):a<=b:=by
 rcases(inferInstance:Decidable (a<=b))with h1|h1
 ·have hp:0<a-b:=by grind
  have g:=q9v (x:=b) (h:=a-b) (Rat.le_of_lt hp);rw[show b+(a-b)=a by grind]at g;have g2:=(g.trans h).mul_left (c:=qs (-b)) (fun n=>qs_nn _ n) (qmr _);have e1:=q8b b;have e2:Near (fun n=>qs (-b) n*(qs b n*(1+(a-b)))) (fun _=>1*(1+(a-b))):=by
   have k1:Near (fun n=>qs (-b) n*qs b n) (fun _=>1):=((Near.refl (qs (-b))).mul (qm2 b) (qmr _) (qmr _)).trans e1;have k2:=k1.mul (Near.refl fun _=>1+(a-b)) ((qmr _).mul (qmr _)) (Bnd.const _);exact Null.congr k2 fun n=>by grind
  have g3:=(e2.symm.le_left.trans g2).trans e1.le_left;have:=g3.const;grind
 ·exact h1
def ELo (a d:Rat):Prop:=SLe (es a) (fun _=>d)
def EHi (d b:Rat):Prop:=SLe (fun _=>d) (es b)
theorem ELo.le {a b d:Rat}(h:ELo a d)(k:EHi d b):a<=b:=qako (SLe.trans h k)
theorem ELo.zero : ELo 0 1:=SLe.of_le 0 fun n _=>by show es 0 n<=1;rw[q16];exact Rat.le_refl
theorem EHi.zero : EHi 1 0:=SLe.of_le 0 fun n _=>by show 1<=es 0 n;rw[q16];exact Rat.le_refl
theorem ELo.add {a b d e:Rat}(h:ELo a d)(k:ELo b e)(_hd:0<=d):ELo (a+b) (d*e):=by
 have h1:=SLe.mul_left k (c:=qs a) (fun n=>qs_nn a n) (qmr a);have h2:SLe (fun n=>qs a n*e) (fun _=>d*e)->ELo (a+b) (d*e):=fun h2=>((q3h a b).symm.le_left.trans h1).trans h2
 have h3:SLe (qs a) (fun _=>d):=(qm2 a).le_left.trans h;have he:0<=e:=SLe.const ((qakn b).trans k);refine h2 ?_;have h4:=h3.mul_left (c:=fun _=>e) (fun _=>he) (Bnd.const e);exact(SLe.of_le 0 fun n _=>by show qs a n*e<=e*qs a n;grind).trans (h4.trans (SLe.of_le 0 fun n _=>by show e*d<=d*e;grind))
theorem EHi.add {a b d e:Rat}(h:EHi d a)(k:EHi e b)(he:0<=e):EHi (d*e) (a+b):=by
 have h1:=SLe.mul_left k (c:=qs a) (fun n=>qs_nn a n) (qmr a);have h3:SLe (fun _=>d) (qs a):=SLe.trans h (qm2 a).symm.le_left;have h4:=h3.mul_left (c:=fun _=>e) (fun _=>he) (Bnd.const e);refine SLe.trans (SLe.of_le 0 fun n _=>?_) (h4.trans (SLe.trans (SLe.of_le 0 fun n _=>?_) (h1.trans (q3h a b).le_left)))
 ·show d*e<=e*d;grind
 ·show e*qs a n<=qs a n*e;grind
theorem ELo.mono {a b d:Rat}(h:ELo a d)(k:b<=a):ELo b d:=(qs1 k).trans h
theorem EHi.mono {a b d:Rat}(h:EHi d a)(k:a<=b):EHi d b:=SLe.trans h (qs1 k)
def od (z:Rat):Nat->Rat
 |0=>z
 |k+1=>od z k*(z*z)
def ev (z:Rat):Nat->Rat
 |0=>1
 |k+1=>ev z k*(z*z)
def lt (z:Rat)(k:Nat):Rat:=od z k/((2*k+1:Nat):Rat)
def ll (z:Rat)(n:Nat):Rat:=2*ps (lt z) n
theorem od_ev (z:Rat)(k:Nat):od z k=z*ev z k:=by
 induction k with
 |zero=>simp only[od,ev];grind
 |succ k ih=>simp only[od,ev];rw[ih];grind
theorem ev_nn (z:Rat)(k:Nat):0<=ev z k:=by
 induction k with
 |zero=>simp only[ev];decide
 |succ k ih=>exact mul_nn ih (sq_nn z)
theorem od_nn {z:Rat}(h:0<=z)(k:Nat):0<=od z k:=by rw[od_ev];exact mul_nn h (ev_nn z k)
theorem sq_le {z w:Rat}(h0:0<=z)(h:z<=w):z*z<=w*w:=qcj h h (by grind) h0
theorem ev_le {z w:Rat}(h0:0<=z)(h:z<=w)(k:Nat):ev z k<=ev w k:=by
 induction k with
 |zero=>exact Rat.le_refl
 |succ k ih=>exact qcj ih (sq_le h0 h) (ev_nn w k) (sq_nn z)
theorem qv7 (k:Nat):((2*k+1:Nat):Rat)=2*(k:Rat)+1:=by
 rw[qav,Rat.natCast_mul];rfl
theorem od_up {z w:Rat}(h0:0<=z)(h:z<=w)(k:Nat):od w k-od z k<=((2*k+1:Nat):Rat)*((w-z)*ev w k):=by
 rw[qv7];induction k with
 |zero=>simp only[od,ev];have h0:((0:Nat):Rat)=0:=rfl
        rw[h0];grind
 |succ k ih=>
  have hw:0<=w:=by grind
  have kn:=natnn k;have e1:=qcj ih (Rat.le_refl (a:=w*w)) (mul_nn (by grind) (mul_nn (by grind) (ev_nn w k))) (sq_nn w);have e2:od z k<=w*ev w k:=by rw[od_ev];exact qcj h (ev_le h0 h k) hw (ev_nn z k)
  have e3:w*w-z*z<=2*w*(w-z):=by
   have:=mul_nn (a:=w-z) (b:=w-z) (by grind) (by grind);grind
  have e4:=qcj e2 e3 (mul_nn hw (ev_nn w k)) (by have:=sq_le h0 h;grind);have c:((k+1:Nat):Rat)=(k:Rat)+1:=qav k;simp only[od,ev];rw[c];generalize od w k=a at *
  generalize od z k=b at *
  generalize ev w k=e at *
  generalize (k:Rat)=q at *
  grind
theorem od_lo {z w:Rat}(h0:0<=z)(h:z<=w)(k:Nat):((2*k+1:Nat):Rat)*((w-z)*ev z k)<=od w k-od z k:=by
 rw[qv7];induction k with
 |zero=>simp only[od,ev];have h0:((0:Nat):Rat)=0:=rfl
        rw[h0];grind
 |succ k ih=>
  have hw:0<=w:=by grind
  have kn:=natnn k;have e1:=qcj ih (Rat.le_refl (a:=z*z)) (by
   have:=qcj h (ev_le h0 h k) hw (ev_nn z k);rw[od_ev,od_ev];grind) (sq_nn z)
  have e2:z*ev z k<=od w k:=by rw[od_ev];exact qcj h (ev_le h0 h k) hw (ev_nn z k)
  have e3:2*z*(w-z)<=w*w-z*z:=by
   have:=mul_nn (a:=w-z) (b:=w-z) (by grind) (by grind);grind
  have e4:=qcj e2 e3 (od_nn hw k) (mul_nn (by grind) (by grind));have c:((k+1:Nat):Rat)=(k:Rat)+1:=qav k;simp only[od,ev];rw[c];generalize od w k=a at *
  generalize od z k=b at *
  generalize ev z k=e at *
  generalize (k:Rat)=q at *
  grind
theorem lt_up {z w:Rat}(h0:0<=z)(h:z<=w)(k:Nat):lt w k-lt z k<=(w-z)*ev w k:=by
 have h1:=od_up h0 h k;have hc:=qh8 (2*k);have hi:=Rat.inv_pos.2 hc;unfold lt;rw[Rat.div_def,Rat.div_def];generalize ((2*k+1:Nat):Rat)=c at *
 have h2:=Rat.mul_le_mul_of_nonneg_right h1 (Rat.le_of_lt hi);have e:c*((w-z)*ev w k)*c⁻¹=(w-z)*ev w k:=by
  rw[Rat.mul_comm c,Rat.mul_assoc,Rat.mul_inv_cancel c (by grind),Rat.mul_one]
 rw[e]at h2;grind
theorem lt_lo {z w:Rat}(h0:0<=z)(h:z<=w)(k:Nat):(w-z)*ev z k<=lt w k-lt z k:=by
 have h1:=od_lo h0 h k;have hc:=qh8 (2*k);have hi:=Rat.inv_pos.2 hc;unfold lt;rw[Rat.div_def,Rat.div_def];generalize ((2*k+1:Nat):Rat)=c at *
 have h2:=Rat.mul_le_mul_of_nonneg_right h1 (Rat.le_of_lt hi);have e:c*((w-z)*ev z k)*c⁻¹=(w-z)*ev z k:=by
  rw[Rat.mul_comm c,Rat.mul_assoc,Rat.mul_inv_cancel c (by grind),Rat.mul_one]
 rw[e]at h2;grind
theorem qakm (z:Rat)(n:Nat):(1-z*z)*ps (ev z) n=1-ev z (n+1):=by
 induction n with
 |zero=>simp only[ps,ev];grind
 |succ n ih=>rw[ps,Rat.mul_add,ih];simp only[ev];grind
theorem qw4 {h:Rat}(h0:0<=h)(h1:h<=1)(n:Nat):es h n<=1+h+h*h:=by
 have e1:=q9u h0 (show n<=2+n by omega)
 have e2:=q00 h0 (n:=2) (by have:((2:Nat):Rat)=2:=rfl
                            rw[this];grind) n
 have e3:=tm_nn h0 (2+n);have e4:tm h 2=h*h/2:=by
  show 1*h/((0+1:Nat):Rat)*h/((1+1:Nat):Rat)=_;have a:((0+1:Nat):Rat)=1:=rfl;have b:((1+1:Nat):Rat)=2:=rfl;rw[a,b];grind
 have e5:tm h 1=h:=by
  show 1*h/((0+1:Nat):Rat)=_;have a:((0+1:Nat):Rat)=1:=rfl;rw[a];grind
 have e6:es h 2=1+h+h*h/2:=by
  show 1+tm h 1+tm h 2=_;rw[e4,e5]
 rw[e6,e4]at e2;grind
theorem ELo.small {h:Rat}(h0:0<=h)(h1:h<=1):ELo h (1+h+h*h):=SLe.of_le 0 fun n _=>qw4 h0 h1 n
theorem EHi.small {h:Rat}(h0:0<=h):EHi (1+h) h:=SLe.of_le 1 fun _n hn=>qu9 h0 hn
theorem ELo.up {a d e:Rat}(h:ELo a d)(k:d<=e):ELo a e:=SLe.trans h (SLe.of_le 0 fun _ _=>k)
theorem qfc {a:Rat}(h:0<a):a*a⁻¹=1:=Rat.mul_inv_cancel a (by grind)
theorem EHi.down {a d e:Rat}(h:EHi d a)(k:e<=d):EHi e a:=SLe.trans (SLe.of_le 0 fun _ _=>k) h
theorem qaez {Z:Rat}(h0:0<=Z)(h1:Z<1):0<1-Z*Z:=by
 have:=Rat.mul_pos (show 0<1-Z by grind) (show 0<1+Z by grind);grind
theorem q3u {a b:Rat}(ha:0<a)(h:a<=b):b⁻¹<=a⁻¹:=by
 have hb:0<b:=by grind
 have a1:=qfc ha;have b1:=qfc hb;have ia:=Rat.inv_pos.2 ha;have ib:=Rat.inv_pos.2 hb;have t:=Rat.mul_le_mul_of_nonneg_right h (Rat.le_of_lt (Rat.mul_pos ia ib));have t1:a*(a⁻¹*b⁻¹)=b⁻¹:=by rw[<-Rat.mul_assoc,a1,Rat.one_mul]
 have t2:b*(a⁻¹*b⁻¹)=a⁻¹:=by
  have:b*(a⁻¹*b⁻¹)=a⁻¹*(b*b⁻¹):=by grind
  rw[this,b1,Rat.mul_one]
 rw[t1,t2]at t;exact t
theorem qahk {Z:Rat}(h0:0<=Z)(h1:Z<1)(m:Nat):ev Z m*(1+(m:Rat)*(1-Z*Z))<=1:=by
 have p:=qaez h0 h1;have z2:=sq_nn Z;induction m with
 |zero=>have h0:((0:Nat):Rat)=0:=rfl
        simp only[ev];rw[h0];grind
 |succ m ih=>
  have mn:=natnn m;have en:=ev_nn Z m;rw[qav];simp only[ev];have k:=mul_nn en (mul_nn (show 0<=(m:Rat)+1 by grind) (sq_nn (1-Z*Z)));generalize hz:Z*Z=z at *
  grind
theorem qahi {Z δ:Rat}(h0:0<=Z)(h1:Z<1)(hd:0<δ):∃m,ev Z (m+1)<=δ:=by
 have p:=qaez h0 h1;have ip:=Rat.inv_pos.2 p;have id':=Rat.inv_pos.2 hd;have pm:=qfc p;have dm:=qfc hd;obtain⟨m,hm⟩:=arch (δ⁻¹*(1-Z*Z)⁻¹);refine⟨m,?_⟩;have b:=qahk h0 h1 (m+1);rw[qav]at b;have e0:=ev_nn Z (m+1);have h2:δ⁻¹<=1+((m:Rat)+1)*(1-Z*Z):=by
  have:=Rat.mul_le_mul_of_nonneg_right hm (Rat.le_of_lt p);have e:δ⁻¹*(1-Z*Z)⁻¹*(1-Z*Z)=δ⁻¹:=by
   rw[Rat.mul_assoc,Rat.mul_comm (1-Z*Z)⁻¹,pm,Rat.mul_one]
  rw[e]at this;grind
 have h3:=Rat.mul_le_mul_of_nonneg_left h2 e0;have h4:=Rat.mul_le_mul_of_nonneg_right (Rat.le_trans h3 b) (Rat.le_of_lt hd);have e:ev Z (m+1)*δ⁻¹*δ=ev Z (m+1):=by
  rw[Rat.mul_assoc,Rat.mul_comm δ⁻¹,dm,Rat.mul_one]
 rw[e]at h4;grind
theorem ELo.inv {a d:Rat}(h:ELo a d)(hd:0<d):EHi d⁻¹ (-a):=by
 have i:=Rat.inv_pos.2 hd;have m:=qfc hd;have h1:=SLe.mul_left h (c:=qs (-a)) (fun n=>qs_nn _ n) (qmr _);have h2:=(q8b a).symm.le_left.trans h1;have h3:=h2.mul_left (c:=fun _=>d⁻¹) (fun _=>Rat.le_of_lt i) (Bnd.const _);refine SLe.trans (SLe.of_le 0 fun n _=>?_) (h3.trans (SLe.trans (SLe.of_le 0 fun n _=>?_) (qm2 (-a)).le_left))
 ·show d⁻¹<=d⁻¹*1;grind
 ·show d⁻¹*(qs (-a) n*d)<=qs (-a) n;have:d⁻¹*(qs (-a) n*d)=qs (-a) n*(d*d⁻¹):=by grind
  rw[this,m];grind
theorem EHi.inv {a d:Rat}(h:EHi d a)(hd:0<d):ELo (-a) d⁻¹:=by
 have i:=Rat.inv_pos.2 hd;have m:=qfc hd;have h1:=SLe.mul_left h (c:=qs (-a)) (fun n=>qs_nn _ n) (qmr _);have h2:=h1.trans (q8b a).le_left;have h3:=h2.mul_left (c:=fun _=>d⁻¹) (fun _=>Rat.le_of_lt i) (Bnd.const _);refine(qm2 (-a)).symm.le_left.trans (SLe.trans (SLe.of_le 0 fun n _=>?_) (h3.trans (SLe.of_le 0 fun n _=>?_)))
 ·show qs (-a) n<=d⁻¹*(qs (-a) n*d);have:d⁻¹*(qs (-a) n*d)=qs (-a) n*(d*d⁻¹):=by grind
  rw[this,m];grind
 ·show d⁻¹*1<=d⁻¹;grind
theorem qajs (z:Rat)(k:Nat):od (-z) k=- od z k:=by
 induction k with
 |zero=>rfl
 |succ k ih=>simp only[od];rw[ih];grind
theorem qae3 (z:Rat)(k:Nat):lt (-z) k=- lt z k:=by
 unfold lt;rw[qajs,Rat.div_def,Rat.div_def,Rat.neg_mul]
end Go.Abs.W
