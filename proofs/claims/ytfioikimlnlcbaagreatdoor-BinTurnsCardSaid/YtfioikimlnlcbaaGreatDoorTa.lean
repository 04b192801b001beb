/- Parts of the proof: FpTa, FpTb, FpTc, FpTd, FpTe, FpTf. -/
import Derived.Test.YtfioikimlnlcbaaGreatDoorXa
import Derived.Test.YtfioikimlnlcbaaGreatDoorFf
namespace Go.Abs.W
def i4 : Nat->Rat × Rat
 |0=>(1,0)
 |n+1=>(-(i4 n).2,(i4 n).1)
def c4 (n:Nat):Rat:=(i4 n).1
def s4 (n:Nat):Rat:=(i4 n).2
theorem qec : c4 0=1:=rfl
theorem qc5 : s4 0=0:=rfl
theorem qcb (n:Nat):c4 (n+1)=- s4 n:=rfl
theorem qbb (n:Nat):s4 (n+1)=c4 n:=rfl
theorem qak4 (p q:Nat):c4 (p+q)=c4 p*c4 q-s4 p*s4 q/\s4 (p+q)=s4 p*c4 q+c4 p*s4 q:=by
 induction q with
 |zero=>rw[Nat.add_zero,qec,qc5];constructor<;>grind
 |succ q ih=>
  obtain⟨h1,h2⟩:=ih;rw[<-Nat.add_assoc,qcb,qbb,qcb,qbb,h1,h2];constructor<;>grind
theorem c4_Bd (n:Nat):Bd (c4 n) 1/\Bd (s4 n) 1:=by
 induction n with
 |zero=>rw[qec,qc5];refine⟨⟨by grind,by grind⟩,by grind,by grind⟩
 |succ n ih=>
  obtain⟨⟨a,b⟩,c,d⟩:=ih;rw[qcb,qbb];exact⟨⟨by grind,by grind⟩,a,b⟩
def ct (x:Rat)(k:Nat):Rat:=c4 k*tm x k
def st (x:Rat)(k:Nat):Rat:=s4 k*tm x k
def cs (x:Rat)(n:Nat):Rat:=ps (ct x) n
def ss (x:Rat)(n:Nat):Rat:=ps (st x) n
theorem qaku (b:Nat->Rat)(k:Nat):∀(p:Nat) (a:Nat->Rat),
 cv (fun i=>c4 (p+i)*a i) (fun j=>c4 j*b j) k-cv (fun i=>s4 (p+i)*a i) (fun j=>s4 j*b j) k=c4 (p+k)*cv a b k /\
 cv (fun i=>s4 (p+i)*a i) (fun j=>c4 j*b j) k+cv (fun i=>c4 (p+i)*a i) (fun j=>s4 j*b j) k=s4 (p+k)*cv a b k:=by
 induction k with
 |zero=>
  intro p a;simp only[cv,Nat.add_zero,qec,qc5];constructor<;>grind
 |succ k ih=>
  intro p a;obtain⟨h1,h2⟩:=ih (p+1) (fun i=>a (i+1));obtain⟨h3,h4⟩:=qak4 p (k+1);have e1:(fun i=>c4 (p+(i+1))*a (i+1))=fun i=>c4 (p+1+i)*a (i+1):=by
   funext i;rw[show p+(i+1)=p+1+i by omega]
  have e2:(fun i=>s4 (p+(i+1))*a (i+1))=fun i=>s4 (p+1+i)*a (i+1):=by
   funext i;rw[show p+(i+1)=p+1+i by omega]
  simp only[cv];rw[e1,e2];rw[show p+1+k=p+(k+1) by omega]at h1 h2;rw[Nat.add_zero];generalize c4 (p+(k+1))=C at *
  generalize s4 (p+(k+1))=S at *
  subst h3 h4;constructor<;>grind
theorem cv_ct (x y:Rat)(k:Nat):cv (ct x) (ct y) k-cv (st x) (st y) k=ct (x+y) k/\cv (st x) (ct y) k+cv (ct x) (st y) k=st (x+y) k:=by
 have h:=qaku (tm y) k 0 (tm x);simp only[Nat.zero_add]at h;rw[cv_tm]at h;exact h
theorem qajn (f g:Nat->Rat)(m:Nat):ps (fun k=>f k-g k) m=ps f m-ps g m:=by
 induction m with
 |zero=>rfl
 |succ m ih=>simp only[ps];rw[ih];grind
theorem qajo (f g:Nat->Rat)(m:Nat):ps (fun k=>f k+g k) m=ps f m+ps g m:=by
 induction m with
 |zero=>rfl
 |succ m ih=>simp only[ps];rw[ih];grind
theorem qahr (x y:Rat)(m:Nat):cs x m*cs y m-ss x m*ss y m-cs (x+y) m=cv (ct x) (fun j=>cs y m-cs y j) m-cv (st x) (fun j=>ss y m-ss y j) m:=by
 have h:cs (x+y) m=cv (ct x) (fun j=>cs y j) m-cv (st x) (fun j=>ss y j) m:=by
  have h1:=ps_cv (ct x) (ct y) m;have h2:=ps_cv (st x) (st y) m;have h3:=qajn (cv (ct x) (ct y)) (cv (st x) (st y)) m;rw[show(fun k=>cv (ct x) (ct y) k-cv (st x) (st y) k)=ct (x+y) from funext fun k=>(cv_ct x y k).1,h1,h2]at h3;exact h3
 rw[qzy,qzy,h];show _=ps (ct x) m*cs y m-cv (ct x) (fun j=>cs y j) m-(ps (st x) m*ss y m-cv (st x) (fun j=>ss y j) m);show cs x m*cs y m-ss x m*ss y m-_=cs x m*cs y m-cv (ct x) (fun j=>cs y j) m-(ss x m*ss y m-cv (st x) (fun j=>ss y j) m);grind
theorem qagb (x y:Rat)(m:Nat):ss x m*cs y m+cs x m*ss y m-ss (x+y) m=cv (st x) (fun j=>cs y m-cs y j) m+cv (ct x) (fun j=>ss y m-ss y j) m:=by
 have h:ss (x+y) m=cv (st x) (fun j=>cs y j) m+cv (ct x) (fun j=>ss y j) m:=by
  have h1:=ps_cv (st x) (ct y) m;have h2:=ps_cv (ct x) (st y) m;have h3:=qajo (cv (st x) (ct y)) (cv (ct x) (st y)) m;rw[show(fun k=>cv (st x) (ct y) k+cv (ct x) (st y) k)=st (x+y) from funext fun k=>(cv_ct x y k).2,h1,h2]at h3;exact h3
 rw[qzy,qzy,h];show ss x m*cs y m+cs x m*ss y m-_=ss x m*cs y m-cv (st x) (fun j=>cs y j) m+(cs x m*ss y m-cv (ct x) (fun j=>ss y j) m);grind
theorem ct_Bd {x a:Rat}(h:Bd x a)(n:Nat):Bd (ct x n) (tm a n)/\Bd (st x n) (tm a n):=by
 obtain⟨b,c⟩:=c4_Bd n;have t:=tm_Bd h n;have h1:=b.mul t;have h2:=c.mul t;rw[Rat.one_mul]at h1 h2;exact⟨h1,h2⟩
def ae (a b:Rat)(m:Nat):Rat:=2*(es a m*es b m-es (a+b) m)
theorem qo4 {x y a b:Rat}(hx:Bd x a)(hy:Bd y b)(m:Nat):Bd (cs x m*cs y m-ss x m*ss y m-cs (x+y) m) (ae a b m)/\Bd (ss x m*cs y m+cs x m*ss y m-ss (x+y) m) (ae a b m):=by
 rw[qahr,qagb];have e:ae a b m=cv (tm a) (fun j=>es b m-es b j) m+cv (tm a) (fun j=>es b m-es b j) m:=by
  unfold ae;rw[q18];grind
 rw[e];have h1:=cv_Bd (m:=m) (fun i=>(ct_Bd hx i).1) (d:=fun j=>cs y m-cs y j) (D:=fun j=>es b m-es b j) fun j hj=>ps_Bd (fun i=>(ct_Bd hy i).1) hj
 have h2:=cv_Bd (m:=m) (fun i=>(ct_Bd hx i).2) (d:=fun j=>ss y m-ss y j) (D:=fun j=>es b m-es b j) fun j hj=>ps_Bd (fun i=>(ct_Bd hy i).2) hj
 have h3:=cv_Bd (m:=m) (fun i=>(ct_Bd hx i).2) (d:=fun j=>cs y m-cs y j) (D:=fun j=>es b m-es b j) fun j hj=>ps_Bd (fun i=>(ct_Bd hy i).1) hj
 have h4:=cv_Bd (m:=m) (fun i=>(ct_Bd hx i).1) (d:=fun j=>ss y m-ss y j) (D:=fun j=>es b m-es b j) fun j hj=>ps_Bd (fun i=>(ct_Bd hy i).2) hj
 refine⟨?_,h3.add h4⟩;obtain⟨a1,a2⟩:=h1;obtain⟨b1,b2⟩:=h2;constructor<;>grind
theorem q2n {a b:Rat}(ha:0<=a)(hb:0<=b):Null (ae a b):=by
 intro ε he;obtain⟨N,hN⟩:=q17 (c:=a+b) (by grind) (ε:=ε/2) (qep he);refine⟨N,fun n hn=>?_⟩;have h1:=qzs ha hb n;have h2:=hN n (n+n) hn (by omega);have h3:=(qu8 (x:=a) (y:=b) (a:=a) (b:=b) ⟨by grind,by grind⟩ ⟨by grind,by grind⟩ n).nn;unfold ae;constructor<;>grind
theorem qvx (x:Rat)(n:Nat):ct (-x) n=ct x n/\st (-x) n=- st x n:=by
 have key:∀n,(tm (-x) n=tm x n/\s4 n=0)\/(tm (-x) n=- tm x n/\c4 n=0):=by
  intro n;induction n with
  |zero=>left;exact⟨rfl,rfl⟩
  |succ n ih=>
   simp only[tm,qcb,qbb];rw[Rat.div_def,Rat.div_def];rcases ih with ⟨h,k⟩|⟨h,k⟩<;>rw[h]
   ·right;constructor<;>grind
   ·left;constructor<;>grind
 unfold ct st;rcases key n with ⟨h,k⟩|⟨h,k⟩<;>rw[h,k]<;>constructor<;>grind
theorem qaff (x:Rat)(n:Nat):cs (-x) n=cs x n:=by
 unfold cs;rw[show ct (-x)=ct x from funext fun k=>(qvx x k).1]
theorem qx7 (x:Rat)(n:Nat):ss (-x) n=- ss x n:=by
 unfold ss;induction n with
 |zero=>exact(qvx x 0).2
 |succ n ih=>simp only[ps];rw[ih,(qvx x (n+1)).2];grind
theorem qahq (n:Nat):cs 0 n=1:=by
 have h:∀k,ct 0 (k+1)=0:=fun k=>by
  unfold ct;simp only[tm];rw[Rat.mul_zero,Rat.div_def,Rat.zero_mul,Rat.mul_zero]
 unfold cs;induction n with
 |zero=>show c4 0*1=1;rw[qec];grind
 |succ n ih=>simp only[ps];rw[ih,h];grind
theorem qaga (n:Nat):ss 0 n=0:=by
 have:=qx7 0 n;rw[show(-0:Rat)=0 by grind]at this;grind
theorem cs_Bd {x a:Rat}(h:Bd x a)(n:Nat):Bd (cs x n) (es a n)/\Bd (ss x n) (es a n):=by
 unfold cs ss es;induction n with
 |zero=>exact ct_Bd h 0
 |succ n ih=>exact⟨ih.1.add (ct_Bd h _).1,ih.2.add (ct_Bd h _).2⟩
theorem q22 (h:Rat):tm h 1=h:=by
 show 1*h/((0+1:Nat):Rat)=_;have a:((0+1:Nat):Rat)=1:=rfl;rw[a];grind
theorem qakw (h:Rat):cs h 1=1/\ss h 1=h:=by
 constructor
 ·show c4 0*1+c4 1*tm h 1=1;rw[qcb,qec,qc5];grind
 ·show s4 0*1+s4 1*tm h 1=h;rw[qbb,qec,qc5,q22];grind
theorem q4e {h a:Rat}(hh:Bd h a)(h1:a<=1){n:Nat}(hn:1<=n):Bd (cs h n-1) (a*a)/\Bd (ss h n-h) (a*a):=by
 have a0:=hh.nn;obtain⟨c1,s1⟩:=qakw h;have b1:=ps_Bd (fun i=>(ct_Bd hh i).1) hn;have b2:=ps_Bd (fun i=>(ct_Bd hh i).2) hn;have e1:cs h n=ps (ct h) n:=rfl;have e2:ss h n=ps (st h) n:=rfl;have e3:cs h 1=ps (ct h) 1:=rfl;have e4:ss h 1=ps (st h) 1:=rfl;rw[<-e1,<-e3,c1]at b1;rw[<-e2,<-e4,s1]at b2;have e5:ps (tm a) n-ps (tm a) 1<=a*a:=by
  have:=qw4 a0 h1 n;have e6:es a n=ps (tm a) n:=rfl;have e7:ps (tm a) 1=1+a:=by show 1+tm a 1=_;rw[q22]
  rw[e7];grind
 obtain⟨u1,u2⟩:=b1;obtain⟨v1,v2⟩:=b2;exact⟨⟨by grind,by grind⟩,by grind,by grind⟩
def Co (u:Nat->Rat):Nat->Rat:=fun n=>cs (u n) n
def Si (u:Nat->Rat):Nat->Rat:=fun n=>ss (u n) n
theorem Null.of_Bd {s t:Nat->Rat}(ht:Null t)(N:Nat)(h:∀n,N<=n->Bd (s n) (t n)):Null s:=by
 intro ε he;obtain⟨M,hM⟩:=ht ε he;refine⟨max N M,fun n hn=>?_⟩;obtain⟨a,b⟩:=h n (by omega);obtain⟨c,d⟩:=hM n (by omega);constructor<;>grind
theorem Bnd.pos {u:Nat->Rat}(h:Bnd u):∃B:Rat,0<=B/\∃N,∀n,N<=n->Bd (u n) B:=by
 obtain⟨B,N,h⟩:=h;exact⟨B,(h N (Nat.le_refl _)).nn,N,h⟩
theorem q44 {u v:Nat->Rat}(bu:Bnd u)(bv:Bnd v):Near (fun n=>Co u n*Co v n-Si u n*Si v n) (Co fun n=>u n+v n):=by
 obtain⟨A,a0,N,hu⟩:=bu.pos;obtain⟨B,b0,M,hv⟩:=bv.pos;exact(q2n a0 b0).of_Bd (max N M) fun n hn=>(qo4 (hu n (by omega)) (hv n (by omega)) n).1
theorem q41 {u v:Nat->Rat}(bu:Bnd u)(bv:Bnd v):Near (fun n=>Si u n*Co v n+Co u n*Si v n) (Si fun n=>u n+v n):=by
 obtain⟨A,a0,N,hu⟩:=bu.pos;obtain⟨B,b0,M,hv⟩:=bv.pos;exact(q2n a0 b0).of_Bd (max N M) fun n hn=>(qo4 (hu n (by omega)) (hv n (by omega)) n).2
theorem qabi (u:Nat->Rat):(Co fun n=>-u n)=Co u:=funext fun n=>qaff (u n) n
theorem q40 (u:Nat->Rat):(Si fun n=>-u n)=fun n=>- Si u n:=funext fun n=>qx7 (u n) n
theorem qafp {u:Nat->Rat}(bu:Bnd u):Bnd (Co u)/\Bnd (Si u):=by
 obtain⟨A,a0,N,hu⟩:=bu.pos;obtain⟨E,M,hE⟩:=q37 A;refine⟨⟨E,max N M,fun n hn=>?_⟩,E,max N M,fun n hn=>?_⟩
 ·obtain⟨c,d⟩:=(cs_Bd (hu n (by omega)) n).1;obtain⟨e,f⟩:=hE n (by omega);exact⟨by show _<=cs (u n) n;grind,by show cs (u n) n<=_;grind⟩
 ·obtain⟨c,d⟩:=(cs_Bd (hu n (by omega)) n).2;obtain⟨e,f⟩:=hE n (by omega);exact⟨by show _<=ss (u n) n;grind,by show ss (u n) n<=_;grind⟩
theorem qmy {u:Nat->Rat}(bu:Bnd u):Bnd (Co u):=(qafp bu).1
theorem qvs {u:Nat->Rat}(bu:Bnd u):Bnd (Si u):=(qafp bu).2
theorem Near.of_eq {s t:Nat->Rat}(h:∀n,s n=t n):Near s t:=Null.zero.congr fun n=>by rw[h];grind
theorem qafo {u:Nat->Rat}(bu:Bnd u):Near (fun n=>Co u n*Co u n+Si u n*Si u n) (fun _=>1):=by
 have h:=q44 bu bu.neg;rw[qabi,q40]at h;have e:(Co fun n=>u n+-u n)=fun _=>(1:Rat):=funext fun n=>by
  show cs (u n+-u n) n=1;rw[show u n+-u n=0 by grind,qahq]
 rw[e]at h;exact(Near.of_eq fun n=>by grind).trans h
def LBd (s t:Nat->Rat):Prop:=∀ε:Rat,0<ε->∃N,∀n,N<=n->Bd (s n) (t n+ε)
theorem LBd.sle {s t:Nat->Rat}(h:LBd s t):SLe s t:=fun ε he=>by
 obtain⟨N,hN⟩:=h ε he;exact⟨N,fun n hn=>(hN n hn).2⟩
theorem LBd.sge {s t:Nat->Rat}(h:LBd s t):SLe (fun n=>- t n) s:=fun ε he=>by
 obtain⟨N,hN⟩:=h ε he;exact⟨N,fun n hn=>by obtain⟨a,b⟩:=hN n hn;grind⟩
theorem LBd.of_Bd {s t:Nat->Rat}(N:Nat)(h:∀n,N<=n->Bd (s n) (t n)):LBd s t:=fun ε he=>⟨N,fun n hn=>by
 obtain⟨a,b⟩:=h n hn;constructor<;>grind⟩
theorem LBd.add {s t u v:Nat->Rat}(h:LBd s t)(k:LBd u v):LBd (fun n=>s n+u n) (fun n=>t n+v n):=fun ε he=>by
 obtain⟨N,hN⟩:=h (ε/2) (qep he);obtain⟨M,hM⟩:=k (ε/2) (qep he);refine⟨max N M,fun n hn=>?_⟩;obtain⟨a,b⟩:=hN n (by omega);obtain⟨c,d⟩:=hM n (by omega);constructor<;>grind
theorem LBd.near {s s' t:Nat->Rat}(h:LBd s t)(k:Near s s'):LBd s' t:=fun ε he=>by
 obtain⟨N,hN⟩:=h (ε/2) (qep he);obtain⟨M,hM⟩:=k (ε/2) (qep he);refine⟨max N M,fun n hn=>?_⟩;obtain⟨a,b⟩:=hN n (by omega);obtain⟨c,d⟩:=hM n (by omega);constructor<;>grind
theorem LBd.mono {s t u:Nat->Rat}(h:LBd s t)(N:Nat)(k:∀n,N<=n->t n<=u n):LBd s u:=fun ε he=>by
 obtain⟨M,hM⟩:=h ε he;refine⟨max N M,fun n hn=>?_⟩;obtain⟨a,b⟩:=hM n (by omega);have:=k n (by omega);constructor<;>grind
theorem LBd.neg {s t:Nat->Rat}(h:LBd s t):LBd (fun n=>- s n) t:=fun ε he=>by
 obtain⟨N,hN⟩:=h ε he;refine⟨N,fun n hn=>?_⟩;obtain⟨a,b⟩:=hN n hn;constructor<;>grind
theorem qx8 {a b:Rat}(hb:0<=b)(h:a*a<=b*b):a<=b:=by
 rcases(inferInstance:Decidable (a<=b))with h1|h1
 ·exfalso;have m1:=Rat.mul_pos (show 0<a-b by grind) (show 0<a by grind);have m2:=mul_nn (show 0<=a-b by grind) hb;grind
 ·exact h1
theorem qqs {c s ε:Rat}(e0:0<=ε)(h:c*c+s*s<=1+ε):Bd c (1+ε):=by
 have s0:=sq_nn s;have ee:=mul_nn e0 e0;have a:=qx8 (a:=c) (b:=1+ε) (by grind) (by grind);have b:=qx8 (a:=-c) (b:=1+ε) (by grind) (by grind);exact⟨by grind,a⟩
theorem qabk {u:Nat->Rat}(bu:Bnd u):LBd (Co u) (fun _=>1)/\LBd (Si u) (fun _=>1):=by
 have h:=qafo bu;refine⟨fun ε he=>?_,fun ε he=>?_⟩
 ·obtain⟨N,hN⟩:=h ε he;exact⟨N,fun n hn=>qqs (s:=Si u n) (Rat.le_of_lt he) (by have:=(hN n hn).2;grind)⟩
 ·obtain⟨N,hN⟩:=h ε he;exact⟨N,fun n hn=>qqs (s:=Co u n) (Rat.le_of_lt he) (by have:=(hN n hn).2;grind)⟩
def sg : Nat->Rat
 |0=>1
 |n+1=>- sg n
theorem q3a (n:Nat):sg n=1\/sg n=-1:=by
 induction n with
 |zero=>exact .inl rfl
 |succ n ih=>simp only[sg];rcases ih with h|h<;>rw[h]<;>grind
theorem sg_Bd {x a:Rat}(h:Bd x a)(n:Nat):Bd (sg n*x) a:=by
 obtain⟨u,v⟩:=h;rcases q3a n with e|e<;>rw[e]<;>constructor<;>grind
def lta (z:Rat)(k:Nat):Rat:=sg k*lt z k
def at' (z:Rat)(n:Nat):Rat:=ps (lta z) n
def ga (z:Rat)(n:Nat):Rat:=ps (fun k=>sg k*ev z k) n
theorem qakf (z:Rat)(n:Nat):(1+z*z)*ga z n=1-sg (n+1)*ev z (n+1):=by
 unfold ga;induction n with
 |zero=>simp only[ps,ev,sg];grind
 |succ n ih=>rw[ps,Rat.mul_add,ih];simp only[ev,sg];grind
theorem qaau (z:Rat)(n:Nat):at' (-z) n=- at' z n:=by
 unfold at';induction n with
 |zero=>show sg 0*lt (-z) 0=-(sg 0*lt z 0);rw[qae3];grind
 |succ n ih=>simp only[ps];rw[ih];unfold lta;rw[qae3];grind
theorem qah3 (n:Nat):at' 0 n=0:=by
 have:=qaau 0 n;rw[show(-0:Rat)=0 by grind]at this;grind
theorem qox {z:Rat}(h0:0<=z)(h1:4*z<=1)(n:Nat):15*ps (ev z) n<=16:=by
 have e:=qakm z n;have p:=ev_nn z (n+1);have q:=ps_nn (ev_nn z) n;have zz:z*z<=1/16:=by
  have:=qcj (a:=z) (b:=1/4) (c:=z) (d:=1/4) (by grind) (by grind) (by grind) h0;grind
 have:=mul_nn (a:=1/16-z*z) (b:=ps (ev z) n) (by grind) q;grind
theorem qahj {z w:Rat}(h0:0<=z)(h:z<=w)(h1:4*w<=1)(n:Nat):ps (fun k=>ev w k-ev z k) n<=w-z:=by
 have d0:0<=w-z:=by grind
 have ww:w*w<=1/16:=by
  have:=qcj (a:=w) (b:=1/4) (c:=w) (d:=1/4) (by grind) (by grind) (by grind) (by grind);grind
 have dd:w*w-z*z<=(w-z)/2:=by
  have:=mul_nn d0 (show 0<=1/2-(w+z) by grind);grind
 have nn:∀n,0<=ps (fun k=>ev w k-ev z k) n:=fun n=>ps_nn (fun k=>by have:=ev_le h0 h k;grind) n
 induction n with
 |zero=>simp only[ps,ev];grind
 |succ n ih=>
  rw[qv3];have e:ps (fun i=>ev w (i+1)-ev z (i+1)) n=w*w*ps (fun k=>ev w k-ev z k) n+(w*w-z*z)*ps (ev z) n:=by
   clear ih;induction n with
   |zero=>simp only[ps,ev];grind
   |succ n ih=>simp only[ps];rw[ih];simp only[ev];grind
  rw[e];have s:=qox h0 (by grind) n;have s0:=ps_nn (ev_nn z) n;have n0:=nn n;have m1:=mul_nn (a:=1/16-w*w) (b:=ps (fun k=>ev w k-ev z k) n) (by grind) n0;have m2:=mul_nn (a:=(w-z)/2-(w*w-z*z)) (b:=ps (ev z) n) (by grind) s0;have m3:=mul_nn d0 (show 0<=16/15-ps (ev z) n by grind);simp only[ev];generalize ps (fun k=>ev w k-ev z k) n=D at *
  generalize ps (ev z) n=E at *
  grind
theorem qah4 {z w:Rat}(h0:0<=z)(h:z<=w)(h1:4*w<=1)(n:Nat):Bd (at' w n-at' z n-(w-z)*ga z n) ((w-z)*(w-z)):=by
 have d0:0<=w-z:=by grind
 have key:Bd (at' w n-at' z n-(w-z)*ga z n) ((w-z)*ps (fun k=>ev w k-ev z k) n):=by
  have st:∀k,Bd (lta w k-lta z k-(w-z)*(sg k*ev z k)) ((w-z)*(ev w k-ev z k)):=fun k=>by
   have a:=lt_up h0 h k;have b:=lt_lo h0 h k;unfold lta;rcases q3a k with e|e<;>rw[e]<;>constructor<;>grind
  unfold at' ga;induction n with
  |zero=>exact st 0
  |succ n ih=>
   have:=ih.add (st (n+1));obtain⟨a,b⟩:=this;simp only[ps];constructor<;>grind
 have m:=mul_nn d0 (show 0<=(w-z)-ps (fun k=>ev w k-ev z k) n by have:=qahj h0 h h1 n;grind);obtain⟨a,b⟩:=key;constructor<;>grind
theorem lt_le {z:Rat}(h0:0<=z)(k:Nat):Bd (lt z k) (z*ev z k):=by
 have o:=od_nn h0 k;have p:=qh8 (2*k);have i:=Rat.inv_pos.2 p;have i1:=q3u (show(0:Rat)<1 by decide) (qa2 (show 1<=2*k+1 by omega));have e1:(1:Rat)⁻¹=1:=by grind
 rw[e1]at i1;rw[<-od_ev];unfold lt;rw[Rat.div_def];have a:=mul_nn o (Rat.le_of_lt i);have b:=mul_nn o (show 0<=1-((2*k+1:Nat):Rat)⁻¹ by grind);constructor<;>grind
theorem at_le {z:Rat}(h0:0<=z)(h1:4*z<=1)(n:Nat):Bd (at' z n) (16/15*z):=by
 have key:Bd (at' z n) (z*ps (ev z) n):=by
  unfold at';have st:∀k,Bd (lta z k) (z*ev z k):=fun k=>sg_Bd (lt_le h0 k) k
  induction n with
  |zero=>exact st 0
  |succ n ih=>
   obtain⟨a,b⟩:=ih.add (st (n+1));simp only[ps];constructor<;>grind
 have:=mul_nn h0 (show 0<=16/15-ps (ev z) n by have:=qox h0 h1 n;grind);obtain⟨a,b⟩:=key;constructor<;>grind
theorem at_bd {z:Rat}(h:Bd z (1/4))(n:Nat):Bd (at' z n) (1/3):=by
 obtain⟨a,b⟩:=h;rcases(inferInstance:Decidable (0<=z))with hz|hz
 ·have:=at_le (z:=-z) (by grind) (by grind) n;rw[qaau]at this;obtain⟨c,d⟩:=this;constructor<;>grind
 ·obtain⟨c,d⟩:=at_le hz (by grind) n;constructor<;>grind
def gd (z:Rat)(n m:Nat):Rat:=z*cs (at' z n) m-ss (at' z n) m
theorem qakc (z h C S c s e1 e2:Rat):(z+h)*(C*c-S*s+e1)-(S*c+C*s+e2)=(z*C-S)*(c+(z+h)*s)+C*(h*c-s-(z+h)*z*s)+((z+h)*e1-e2):=by grind
theorem qahe {z w:Rat}(h0:0<=z)(h:z<=w)(h1:4*w<=1)(n m:Nat)(hm:1<=m){K:Rat}(hK:Bd (gd z n m) K) :
 Bd (gd w n m) (K*(1+2*(w-z))+(36*((w-z)*(w-z))+3*((w-z)*ev (1/4) (n+1))+2*ae 1 1 m)):=by
 have⟨d,hd⟩:∃d,d=at' w n-at' z n:=⟨_,rfl⟩
 have⟨q,hq⟩:∃q,q=w-z:=⟨_,rfl⟩
 have q0:0<=q:=by grind
 have q1:4*q<=1:=by grind
 have st:=qah4 h0 h h1 n;rw[<-hd,<-hq]at st;have gs:=qakf z n;have τ0:=ev_nn z (n+1);have τ1:=ev_le h0 (show z<=1/4 by grind) (n+1);have τ2:ev (1/4) (n+1)<=1/16:=by
  have:∀n,ev (1/4) (n+1)<=1/16:=fun n=>by
   induction n with
   |zero=>simp only[ev];grind
   |succ n ih=>rw[ev];have:=ev_nn (1/4) (n+1);grind
  exact this n
 have⟨τ,hτ⟩:∃τ,τ=ev (1/4) (n+1):=⟨_,rfl⟩
 rw[<-hτ]at τ1 τ2 ⊢;have zz0:=sq_nn z;have zz1:z*z<=1/16:=by
  have:=qcj (a:=z) (b:=1/4) (c:=z) (d:=1/4) (by grind) (by grind) (by grind) h0;grind
 have E:Bd ((1+z*z)*d-q) (q*τ+2*(q*q)):=by
  have s:=sg_Bd (x:=ev z (n+1)) (a:=τ) ⟨by grind,τ1⟩ (n+1);obtain⟨s1,s2⟩:=s;obtain⟨a,b⟩:=st;have e:(1+z*z)*d-q=(1+z*z)*(d-q*ga z n)-q*(sg (n+1)*ev z (n+1)):=by
   have:q*((1+z*z)*ga z n)=q*(1-sg (n+1)*ev z (n+1)):=by rw[gs]
   grind
  rw[e];have m1:=mul_nn q0 (show 0<=τ-sg (n+1)*ev z (n+1) by grind);have m2:=mul_nn q0 (show 0<=τ+sg (n+1)*ev z (n+1) by grind);have m3:=mul_nn (show 0<=1+z*z by grind) (show 0<=q*q-(d-q*ga z n) by grind);have m4:=mul_nn (show 0<=1+z*z by grind) (show 0<=q*q+(d-q*ga z n) by grind);have m5:=mul_nn (show 0<=1-z*z by grind) (sq_nn q);generalize sg (n+1)*ev z (n+1)=T at *
  generalize d-q*ga z n=D at *
  constructor<;>grind
 have qq:=mul_nn q0 (show 0<=1-4*q by grind);have qt:=mul_nn q0 (show 0<=1/16-τ by grind);have d2:Bd d (2*q):=by
  obtain⟨a,b⟩:=E;have:∀x y:Rat,0<=y->x<=y->0<=z*z->∀t,(1+z*z)*t<=y->0<=y->t<=y:=by
   intro x y _ _ _ t ht hy;rcases(inferInstance:Decidable (t<=y))with h3|h3
   ·exfalso;have:=mul_nn zz0 (show 0<=t by grind);grind
   ·exact h3
  constructor
  ·have:=this 0 (2*q) (by grind) (by grind) zz0 (-d) (by grind) (by grind);grind
  ·exact this 0 (2*q) (by grind) (by grind) zz0 d (by grind) (by grind)
 have d1:2*q<=1:=by grind
 obtain⟨⟨c1,c2⟩,s1,s2⟩:=q4e d2 d1 hm;have az:=at_bd (z:=z) ⟨by grind,by grind⟩ n;have az1:Bd (at' z n) 1:=by obtain⟨a,b⟩:=az;exact⟨by grind,by grind⟩
 have dd1:Bd d 1:=by obtain⟨a,b⟩:=d2;exact⟨by grind,by grind⟩
 obtain⟨e1,e2⟩:=qo4 az1 dd1 m;have bC:=(cs_Bd az1 m).1;have eone:es 1 m<=3:=by have:=qw4 (h:=1) (by decide) (by decide) m;grind
 obtain⟨bC1,bC2⟩:=bC;have ea:at' z n+d=at' w n:=by grind
 rw[ea]at e1 e2;unfold gd at hK ⊢;have⟨C,hC⟩:∃C,C=cs (at' z n) m:=⟨_,rfl⟩
 have⟨S,hS⟩:∃S,S=ss (at' z n) m:=⟨_,rfl⟩
 have⟨c,hc⟩:∃c,c=cs d m:=⟨_,rfl⟩
 have⟨s,hs⟩:∃s,s=ss d m:=⟨_,rfl⟩
 have⟨f1,hf1⟩:∃f,f=cs (at' w n) m-(C*c-S*s):=⟨_,rfl⟩
 have⟨f2,hf2⟩:∃f,f=ss (at' w n) m-(S*c+C*s):=⟨_,rfl⟩
 rw[<-hC,<-hS,<-hc,<-hs]at e1 e2;rw[<-hC]at bC1 bC2;rw[<-hc]at c1 c2;rw[<-hs]at s1 s2;rw[<-hC,<-hS]at hK;have g1:cs (at' w n) m=C*c-S*s+f1:=by grind
 have g2:ss (at' w n) m=S*c+C*s+f2:=by grind
 have b1:Bd f1 (ae 1 1 m):=by obtain⟨a,b⟩:=e1;exact⟨by grind,by grind⟩
 have b2:Bd f2 (ae 1 1 m):=by obtain⟨a,b⟩:=e2;exact⟨by grind,by grind⟩
 rw[g1,g2];have hw:w=z+q:=by grind
 rw[hw,qakc,<-hw,show w-z=q by grind];have η0:=b1.nn;generalize ae 1 1 m=η at *
 clear g1 g2 hf1 hf2 hC hS hc hs e1 e2 st gs;generalize z*C-S=G at *
 have p1:Bd (c+w*s) (1+2*q):=by
  have m1:=mul_nn (show 0<=1/4-w by grind) (show 0<=2*q+2*q*(2*q)-s by obtain⟨a,b⟩:=d2;grind);have m2:=mul_nn (show 0<=1/4-w by grind) (show 0<=2*q+2*q*(2*q)+s by obtain⟨a,b⟩:=d2;grind);have m3:=mul_nn (show 0<=w by grind) (show 0<=2*q+2*q*(2*q)-s by obtain⟨a,b⟩:=d2;grind);have m4:=mul_nn (show 0<=w by grind) (show 0<=2*q+2*q*(2*q)+s by obtain⟨a,b⟩:=d2;grind);have m5:=mul_nn (show 0<=1/4-w by grind) (show 0<=2*q+2*q*(2*q) by grind);constructor<;>grind
 have p2:Bd (q*c-s-w*z*s) (12*(q*q)+q*τ):=by
  have e:q*c-s-w*z*s=q*(c-1)-(1+w*z)*(s-d)-((1+z*z)*d-q)-q*z*d:=by grind
  rw[e];obtain⟨E1,E2⟩:=E;obtain⟨D1,D2⟩:=d2;have m1:=mul_nn q0 (show 0<=2*q*(2*q)-(c-1) by grind);have m2:=mul_nn q0 (show 0<=2*q*(2*q)+(c-1) by grind);have wz0:0<=w*z:=mul_nn (by grind) h0;have wz1:w*z<=1/16:=by
   have:=qcj (a:=w) (b:=1/4) (c:=z) (d:=1/4) (by grind) (by grind) (by grind) h0;grind
  have m3:=mul_nn (show 0<=1+w*z by grind) (show 0<=2*q*(2*q)-(s-d) by grind);have m4:=mul_nn (show 0<=1+w*z by grind) (show 0<=2*q*(2*q)+(s-d) by grind);have m5:=mul_nn (show 0<=1/16-w*z by grind) (sq_nn q);have qz:0<=q*z:=mul_nn q0 h0;have m6:=mul_nn qz (show 0<=2*q-d by grind);have m7:=mul_nn qz (show 0<=2*q+d by grind);have m8:=mul_nn (show 0<=1/4-z by grind) (sq_nn q);have m9:=mul_nn (show 0<=1/4-q by grind) (sq_nn q);clear τ0 τ1 zz0 zz1;generalize w*z=Y at *
  generalize (1+z*z)*d-q=F at *
  constructor<;>grind
 have p3:=hK.mul p1;have bC':Bd C 3:=⟨by grind,by grind⟩
 have p4:=bC'.mul p2;have p5:Bd (w*f1-f2) (2*η):=by
  have bw:Bd w 1:=⟨by grind,by grind⟩
  obtain⟨a1,a2⟩:=bw.mul b1;obtain⟨a3,a4⟩:=b2;exact⟨by grind,by grind⟩
 obtain⟨r1,r2⟩:=(p3.add p4).add p5;constructor<;>grind
theorem q9c {Z q:Rat}(n m:Nat)(hm:1<=m)(q0:0<=q)(h1:4*Z<=1):∀j:Nat,(j:Rat)*q<=Z ->
 Bd (gd ((j:Rat)*q) n m) (2*(j:Rat)*(36*(q*q)+3*(q*ev (1/4) (n+1))+2*ae 1 1 m))
 |0,_=>by
  have c0:((0:Nat):Rat)=0:=rfl;rw[c0,Rat.zero_mul];unfold gd;rw[qah3,qaga];constructor<;>grind
 |j+1,hj=>by
  rw[qav]at hj ⊢;have jn:=natnn j;have jq:=mul_nn jn q0;have ih:=q9c n m hm q0 h1 j (by grind);have st:=qahe jq (show(j:Rat)*q<=((j:Rat)+1)*q by grind) (by grind) n m hm ih;rw[show((j:Rat)+1)*q-(j:Rat)*q=q by grind]at st;have κ0:0<=36*(q*q)+3*(q*ev (1/4) (n+1))+2*ae 1 1 m:=by
   have a:=sq_nn q;have b:=mul_nn q0 (ev_nn (1/4) (n+1));have c:=((qo4 (x:=1) (y:=1) (a:=1) (b:=1) ⟨by grind,by grind⟩ ⟨by grind,by grind⟩ m).1).nn;grind
  generalize 36*(q*q)+3*(q*ev (1/4) (n+1))+2*ae 1 1 m=κ at *
  have m1:=mul_nn κ0 (show 0<=1-4*((j:Rat)*q) by grind);obtain⟨a,b⟩:=st;constructor<;>grind
theorem qak7 {ε:Rat}(he:0<ε):∃M,∀m,M<=m->∀Z,Bd Z (1/4)->Bd (Z*cs (at' Z m) m-ss (at' Z m) m) ε:=by
 have pos:∃M,∀m,M<=m->∀Z,0<=Z->4*Z<=1->Bd (gd Z m m) ε:=by
  have ie:=Rat.inv_pos.2 he;have em:=qfc he;obtain⟨N,hN⟩:=arch (15*ε⁻¹+1);have N1:0<(N:Rat):=by grind
  have iN:=Rat.inv_pos.2 N1;have nN:=qfc N1;obtain⟨k,hk⟩:=qahi (Z:=1/4) (δ:=ε/6) (by grind) (by grind) (by grind);have⟨η,hη⟩:∃η,η=ε*(N:Rat)⁻¹/12:=⟨_,rfl⟩
  have η0:0<η:=by rw[hη];have:=Rat.mul_pos he iN;grind
  obtain⟨M,hM⟩:=q2n (a:=1) (b:=1) (by decide) (by decide) η η0;refine⟨max (max k M) 1,fun m hm Z z0 z1=>?_⟩;have τ1:ev (1/4) (m+1)<=ε/6:=by
   have:∀j,ev (1/4) (k+1+j)<=ev (1/4) (k+1):=fun j=>by
    induction j with
    |zero=>exact Rat.le_refl
    |succ j ih=>rw[<-Nat.add_assoc];simp only[ev]at *;have:=ev_nn (1/4) (k+1+j);grind
   have t:=this (m-k);rw[show k+1+(m-k)=m+1 by omega]at t;grind
  have τ0:=ev_nn (1/4) (m+1);have η1:=(hM m (by omega)).2;have q0:0<=Z*(N:Rat)⁻¹:=mul_nn z0 (Rat.le_of_lt iN);have dN:(N:Rat)*(Z*(N:Rat)⁻¹)=Z:=by
   have:(N:Rat)*(Z*(N:Rat)⁻¹)=Z*((N:Rat)*(N:Rat)⁻¹):=by grind
   rw[this,nN,Rat.mul_one]
  have g:=q9c m m (by omega) q0 z1 N (by rw[dN];exact Rat.le_refl);rw[dN]at g;have zz:Z*Z<=1/16:=by
   have:=qcj (a:=Z) (b:=1/4) (c:=Z) (d:=1/4) (by grind) (by grind) (by grind) z0;grind
  have b1:2*(N:Rat)*(36*(Z*(N:Rat)⁻¹*(Z*(N:Rat)⁻¹)))<=ε/3:=by
   have e:2*(N:Rat)*(36*(Z*(N:Rat)⁻¹*(Z*(N:Rat)⁻¹)))=72*(Z*Z)*(N:Rat)⁻¹*((N:Rat)*(N:Rat)⁻¹):=by grind
   rw[e,nN,Rat.mul_one];have m1:=mul_nn (show 0<=5-72*(Z*Z) by grind) (Rat.le_of_lt iN);have m2:=Rat.mul_le_mul_of_nonneg_right (show 15*ε⁻¹<=(N:Rat) by grind) (Rat.le_of_lt iN);rw[nN]at m2;have m3:=Rat.mul_le_mul_of_nonneg_right m2 (Rat.le_of_lt he);have e2:15*ε⁻¹*(N:Rat)⁻¹*ε=15*(N:Rat)⁻¹*(ε*ε⁻¹):=by grind
   rw[e2,em]at m3;grind
  have b2:2*(N:Rat)*(3*(Z*(N:Rat)⁻¹*ev (1/4) (m+1)))<=ε/3:=by
   have e:2*(N:Rat)*(3*(Z*(N:Rat)⁻¹*ev (1/4) (m+1)))=6*(Z*ev (1/4) (m+1))*((N:Rat)*(N:Rat)⁻¹):=by grind
   rw[e,nN,Rat.mul_one];have:=mul_nn (show 0<=1/4-Z by grind) τ0;grind
  have b3:2*(N:Rat)*(2*ae 1 1 m)<=ε/3:=by
   have m1:=mul_nn (Rat.le_of_lt N1) (show 0<=η-ae 1 1 m by grind);have e:(N:Rat)*η=ε/12*((N:Rat)*(N:Rat)⁻¹):=by rw[hη];grind
   rw[nN]at e;grind
  obtain⟨u,v⟩:=g;have tot:2*(N:Rat)*(36*(Z*(N:Rat)⁻¹*(Z*(N:Rat)⁻¹))+3*(Z*(N:Rat)⁻¹*ev (1/4) (m+1))+2*ae 1 1 m)<=ε:=by grind
  constructor<;>grind
 obtain⟨M,hM⟩:=pos;refine⟨M,fun m hm Z hZ=>?_⟩;obtain⟨a,b⟩:=hZ;rcases(inferInstance:Decidable (0<=Z))with hz|hz
 ·have:=hM m hm (-Z) (by grind) (by grind);unfold gd at this;rw[qaau,qaff,qx7]at this;obtain⟨u,v⟩:=this;constructor<;>grind
 ·exact hM m hm Z hz (by grind)
def Dir (u a b:Nat->Rat):Prop:=Near (fun n=>a n*Si u n) (fun n=>b n*Co u n)
theorem Null.mul_left {s t:Nat->Rat}(hs:Bnd s)(ht:Null t):Null (fun n=>s n*t n):=(ht.mul hs).congr fun n=>by grind
theorem Dir.add {u v a b c d:Nat->Rat}(bu:Bnd u)(bv:Bnd v)(ba:Bnd a)(bb:Bnd b)(bc:Bnd c)(bd:Bnd d)(h:Dir u a b)(k:Dir v c d) :
 Dir (fun n=>u n+v n) (fun n=>a n*c n-b n*d n) (fun n=>a n*d n+b n*c n):=by
 have h1:=q44 bu bv;have h2:=q41 bu bv;have cu:=qmy bu;have su:=qvs bu;have cv:=qmy bv;have sv:=qvs bv;have x1:=(Near.refl (fun n=>a n*c n-b n*d n)).mul h2.symm ((ba.mul bc).sub (bb.mul bd)) (h2.bnd ((su.mul cv).add (cu.mul sv)));have x2:=(Near.refl (fun n=>a n*d n+b n*c n)).mul h1.symm ((ba.mul bd).add (bb.mul bc)) (h1.bnd ((cu.mul cv).sub (su.mul sv)));refine x1.trans (Near.trans ?_ x2.symm);have p:=Null.mul_left ((bc.mul cv).add (bd.mul sv)) h;have q:=Null.mul_left ((ba.mul cu).add (bb.mul su)) k;exact(p.add q).congr fun n=>by grind
theorem Dir.neg {u a b:Nat->Rat}(h:Dir u a b):Dir (fun n=>-u n) a (fun n=>-b n):=by
 unfold Dir at *
 rw[q40,qabi];exact(Null.neg h).congr fun n=>by grind
def At (z:Nat->Rat):Nat->Rat:=fun n=>at' (z n) n
theorem At_Bd {z:Nat->Rat}{N:Nat}(h:∀n,N<=n->Bd (z n) (1/4))(n:Nat)(hn:N<=n):Bd (At z n) (1/3):=at_bd (h n hn) n
theorem qafq {z:Nat->Rat}{N:Nat}(h:∀n,N<=n->Bd (z n) (1/4)):Bnd (At z):=⟨1/3,N,fun n hn=>At_Bd h n hn⟩
theorem qalr {z:Nat->Rat}{N:Nat}(h:∀n,N<=n->Bd (z n) (1/4)):Dir (At z) (fun _=>1) z:=by
 intro ε he;obtain⟨M,hM⟩:=qak7 he;refine⟨max N M,fun n hn=>?_⟩;obtain⟨a,b⟩:=hM n (by omega) (z n) (h n (by omega));show Bd (1*ss (at' (z n) n) n-z n*cs (at' (z n) n) n) ε;constructor<;>grind
theorem qabm {p q:Rat}(h:Bd (p/q) (1/4))(hq:0<q):Dir (At fun _=>p/q) (fun _=>q) (fun _=>p):=by
 have k:=qalr (z:=fun _=>p/q) (N:=0) (fun _ _=>h);have:=Null.mul_left (Bnd.const q) k;refine this.congr fun n=>?_
 have m:=qfc hq;have e:q*(p/q)=p:=by
  rw[Rat.div_def];have:q*(p*q⁻¹)=p*(q*q⁻¹):=by grind
  rw[this,m,Rat.mul_one]
 show q*(1*Si (At fun _=>p/q) n-p/q*Co (At fun _=>p/q) n)=q*Si (At fun _=>p/q) n-p*Co (At fun _=>p/q) n;grind
theorem qaav {z:Rat}(h0:0<=z)(h1:4*z<=1)(n:Nat):Bd (at' z n-z) (16/15*(z*(z*z))):=by
 cases n with
 |zero=>
  show Bd (sg 0*lt z 0-z) _;have e:lt z 0=z:=by unfold lt;simp only[od];rw[show((2*0+1:Nat):Rat)=1 from rfl];grind
  rw[e];simp only[sg];have:=mul_nn h0 (sq_nn z);constructor<;>grind
 |succ n=>
  have key:Bd (at' z (n+1)-z) (z*(z*z)*ps (ev z) n):=by
   have e0:lta z 0=z:=by unfold lta lt;simp only[od,sg];rw[show((2*0+1:Nat):Rat)=1 from rfl];grind
   have st:∀k,Bd (lta z (k+1)) (z*(z*z)*ev z k):=fun k=>by
    have:=sg_Bd (lt_le h0 (k+1)) (k+1);simp only[ev]at this;obtain⟨a,b⟩:=this;exact⟨by unfold lta;grind,by unfold lta;grind⟩
   unfold at';rw[qv3,e0];induction n with
   |zero=>
    obtain⟨a,b⟩:=st 0;simp only[ps]at *
    constructor<;>grind
   |succ n ih=>
    obtain⟨a,b⟩:=ih.add (st (n+1));simp only[ps];constructor<;>grind
  have m:=mul_nn (mul_nn h0 (sq_nn z)) (show 0<=16/15-ps (ev z) n by have:=qox h0 h1 n;grind);obtain⟨a,b⟩:=key;constructor<;>grind
def e8 : Nat->Rat:=fun n=>4*at' (1/5) n-at' (1/239) n
def hpi : Nat->Rat:=fun n=>2*e8 n
theorem qqk (n:Nat):3/2<=hpi n/\hpi n<=17/10:=by
 obtain⟨a,b⟩:=qaav (z:=1/5) (by grind) (by grind) n;obtain⟨c,d⟩:=qaav (z:=1/239) (by grind) (by grind) n;unfold hpi e8;constructor<;>grind
theorem qpi : Bnd hpi:=⟨17/10,0,fun n _=>by obtain⟨a,b⟩:=qqk n;exact⟨by grind,b⟩⟩
theorem qakq : Bnd e8:=⟨17/10,0,fun n _=>by obtain⟨a,b⟩:=qqk n;unfold hpi at a b;exact⟨by grind,by grind⟩⟩
theorem qakp : Near (Si e8) (Co e8):=by
 have d5:=qabm (p:=1) (q:=5) ⟨by grind,by grind⟩ (by decide);have d239:=(qabm (p:=1) (q:=239) ⟨by grind,by grind⟩ (by decide)).neg;have b5:=qafq (z:=fun _=>1/5) (N:=0) (fun _ _=>⟨by grind,by grind⟩);have b239:=(qafq (z:=fun _=>1/239) (N:=0) (fun _ _=>⟨by grind,by grind⟩)).neg;have B:=fun c=>Bnd.const c
 have t2:=d5.add b5 b5 (B _) (B _) (B _) (B _) d5;have bt2:=b5.add b5;have t4:=t2.add bt2 bt2 (B _) (B _) (B _) (B _) t2;have t:=t4.add (bt2.add bt2) b239 (B _) (B _) (B _) (B _) d239;have e:(fun n=>At (fun _=>1/5) n+At (fun _=>1/5) n+(At (fun _=>1/5) n+At (fun _=>1/5) n)+-At (fun _=>1/239) n)=e8:=funext fun n=>by
  show at' (1/5) n+at' (1/5) n+(at' (1/5) n+at' (1/5) n)+- at' (1/239) n=4*at' (1/5) n-at' (1/239) n;grind
 unfold Dir at t;rw[e]at t;exact(Null.mul_left (B (1/114244)) t).congr fun n=>by grind
theorem qaj9 : Near (Co hpi) (fun _=>0)/\Near (Si hpi) (fun _=>1):=by
 have be:=qakq;have h1:=q44 be be;have h2:=q41 be be;have e:(fun n=>e8 n+e8 n)=hpi:=funext fun n=>by show _=2*e8 n;grind
 rw[e]at h1 h2;have bc:=qmy be;have bs:=qvs be;have sc:=qakp;have q:=qafo be;have p1:=sc.mul sc bs bs;have p2:=sc.mul (Near.refl (Co e8)) bs bc;have c1:Near (fun n=>Co e8 n*Co e8 n-Si e8 n*Si e8 n) (fun _=>0):=(Null.neg p1).congr fun n=>by grind
 have c2:Near (fun n=>Si e8 n*Co e8 n+Co e8 n*Si e8 n) (fun _=>1):=(((Null.add p2 p2).add q).sub p1).congr fun n=>by grind
 exact⟨h1.symm.trans c1,h2.symm.trans c2⟩
theorem qut {v:Nat->Rat}(bv:Bnd v):Near (Co fun n=>v n+hpi n) (fun n=>- Si v n)/\Near (Si fun n=>v n+hpi n) (Co v):=by
 obtain⟨c,s⟩:=qaj9;have bh:=qpi;have h1:=q44 bv bh;have h2:=q41 bv bh;have bc:=qmy bv;have bs:=qvs bv;have a1:=(Near.refl (Co v)).mul c bc (qmy bh);have a2:=(Near.refl (Si v)).mul s bs (qvs bh);have a3:=(Near.refl (Si v)).mul c bs (qmy bh);have a4:=(Near.refl (Co v)).mul s bc (qvs bh);exact⟨h1.symm.trans ((a1.sub a2).congr fun n=>by grind),h2.symm.trans ((a3.add a4).congr fun n=>by grind)⟩
theorem qyk {v:Nat->Rat}(bv:Bnd v):Near (Co fun n=>v n-hpi n) (Si v)/\Near (Si fun n=>v n-hpi n) (fun n=>- Co v n):=by
 obtain⟨a,b⟩:=qut (v:=fun n=>v n-hpi n) (bv.sub qpi);have e:(fun n=>v n-hpi n+hpi n)=v:=funext fun n=>by grind
 rw[e]at a b;exact⟨b.symm,a.neg.symm.congr fun n=>by grind⟩
def cI (k:Int):Rat:=c4 (k%4).toNat
def sI (k:Int):Rat:=s4 (k%4).toNat
theorem qxb (k:Int):(k%4=0/\cI k=1/\sI k=0)\/(k%4=1/\cI k=0/\sI k=1)\/(k%4=2/\cI k=-1/\sI k=0)\/(k%4=3/\cI k=0/\sI k=-1):=by
 unfold cI sI;have c1:c4 1=0:=by rw[qcb,qc5];grind
 have s1:s4 1=1:=by rw[qbb,qec]
 have c2:c4 2=-1:=by rw[qcb,s1]
 have s2:s4 2=0:=by rw[qbb,c1]
 have c3:c4 3=0:=by rw[qcb,s2];grind
 have s3:s4 3=-1:=by rw[qbb,c2]
 rcases(by omega:k%4=0\/k%4=1\/k%4=2\/k%4=3)with h|h|h|h<;>rw[h]
 ·exact .inl ⟨rfl,qec,qc5⟩
 ·exact .inr (.inl ⟨rfl,c1,s1⟩)
 ·exact .inr (.inr (.inl ⟨rfl,c2,s2⟩))
 ·exact .inr (.inr (.inr ⟨rfl,c3,s3⟩))
theorem qaai (k:Int):cI (k+1)=- sI k/\sI (k+1)=cI k:=by
 rcases qxb k with ⟨h,a,b⟩|⟨h,a,b⟩|⟨h,a,b⟩|⟨h,a,b⟩<;>rcases qxb (k+1)with ⟨h',c,d⟩|⟨h',c,d⟩|⟨h',c,d⟩|⟨h',c,d⟩ <;>
  first| (exfalso;omega)| (rw[a,b,c,d];constructor<;>grind)
theorem qabv {v:Nat->Rat}(bv:Bnd v)(k:Int) :
 Near (Co fun n=>v n+(k:Rat)*hpi n) (fun n=>cI k*Co v n-sI k*Si v n)/\Near (Si fun n=>v n+(k:Rat)*hpi n) (fun n=>sI k*Co v n+cI k*Si v n):=by
 have bk:∀j:Int,Bnd fun n=>v n+(j:Rat)*hpi n:=fun j=>bv.add ((Bnd.const _).mul qpi)
 have B:=fun c=>Bnd.const c
 have up:∀j:Int,(Near (Co fun n=>v n+(j:Rat)*hpi n) (fun n=>cI j*Co v n-sI j*Si v n)/\Near (Si fun n=>v n+(j:Rat)*hpi n) (fun n=>sI j*Co v n+cI j*Si v n)) ->
  (Near (Co fun n=>v n+((j+1:Int):Rat)*hpi n) (fun n=>cI (j+1)*Co v n-sI (j+1)*Si v n)/\Near (Si fun n=>v n+((j+1:Int):Rat)*hpi n) (fun n=>sI (j+1)*Co v n+cI (j+1)*Si v n)):=by
  intro j ⟨a,b⟩;obtain⟨p,q⟩:=qut (bk j);have e:(fun n=>v n+(j:Rat)*hpi n+hpi n)=fun n=>v n+((j+1:Int):Rat)*hpi n:=funext fun n=>by
   rw[Rat.intCast_add,show((1:Int):Rat)=1 from rfl];grind
  rw[e]at p q;obtain⟨r,t⟩:=qaai j;rw[r,t];exact⟨p.trans (b.neg.trans (Near.of_eq fun n=>by grind)),q.trans (a.trans (Near.of_eq fun n=>by grind))⟩
 have down:∀j:Int,(Near (Co fun n=>v n+(j:Rat)*hpi n) (fun n=>cI j*Co v n-sI j*Si v n)/\Near (Si fun n=>v n+(j:Rat)*hpi n) (fun n=>sI j*Co v n+cI j*Si v n)) ->
  (Near (Co fun n=>v n+((j-1:Int):Rat)*hpi n) (fun n=>cI (j-1)*Co v n-sI (j-1)*Si v n)/\Near (Si fun n=>v n+((j-1:Int):Rat)*hpi n) (fun n=>sI (j-1)*Co v n+cI (j-1)*Si v n)):=by
  intro j ⟨a,b⟩;obtain⟨p,q⟩:=qyk (bk j);have e:(fun n=>v n+(j:Rat)*hpi n-hpi n)=fun n=>v n+((j-1:Int):Rat)*hpi n:=funext fun n=>by
   rw[Rat.intCast_sub,show((1:Int):Rat)=1 from rfl];grind
  rw[e]at p q;obtain⟨r,t⟩:=qaai (j-1);rw[show j-1+1=j by omega]at r t;rw[r,t]at a b;exact⟨p.trans (b.trans (Near.of_eq fun n=>by grind)),q.trans (a.neg.trans (Near.of_eq fun n=>by grind))⟩
 have zero:Near (Co fun n=>v n+((0:Int):Rat)*hpi n) (fun n=>cI 0*Co v n-sI 0*Si v n)/\Near (Si fun n=>v n+((0:Int):Rat)*hpi n) (fun n=>sI 0*Co v n+cI 0*Si v n):=by
  have e:(fun n=>v n+((0:Int):Rat)*hpi n)=v:=funext fun n=>by rw[show((0:Int):Rat)=0 from rfl];grind
  rw[e,show cI 0=1 from rfl,show sI 0=0 from rfl];exact⟨Near.of_eq fun n=>by grind,Near.of_eq fun n=>by grind⟩
 obtain⟨n,hn⟩:=Int.eq_nat_or_neg k;rcases hn with rfl|rfl
 ·induction n with
  |zero=>exact zero
  |succ n ih=>
   rw[show((n+1:Nat):Int)=(n:Int)+1 by omega];exact up _ ih
 ·induction n with
  |zero=>exact zero
  |succ n ih=>
   rw[show -((n+1:Nat):Int)=-(n:Int)-1 by omega];exact down _ ih
def p2 (n:Nat):Rat:=((2^n:Nat):Rat)
theorem p2_ge (n:Nat):(n:Rat)+1<=p2 n:=by
 have h:n+1<=2^n:=Nat.lt_two_pow_self;have:=qa2 h;rwa[qav]at this
theorem qaey (n:Nat):0<p2 n:=by have:=p2_ge n;have:=natnn n;grind
def rt (q:Rat)(n:Nat):Rat:=(isq (q*(p2 n*p2 n)).floor.toNat:Rat)/p2 n
def hv (x:Rat)(n:Nat):Rat:=x/(1+rt (1+x*x) n)
def hvn : Nat->Rat->Nat->Rat
 |0,x,_=>x
 |j+1,x,n=>hv (hvn j x n) n
def th0 (x:Rat)(n:Nat):Rat:=8*at' (hvn 3 x n) n
theorem q7r {x:Rat}{n:Nat}(hn:6<=n)(h0:0<=x)(h2:x<=2):x/4<=ss x n:=by
 obtain⟨j,rfl⟩:=Nat.exists_eq_add_of_le hn;have hb:Bd x x:=⟨by grind,by grind⟩
 have r:=ps_Bd (fun i=>(ct_Bd hb i).2) (show 6<=6+j by omega);have t:=q00 h0 (n:=6) (by rw[show((6:Nat):Rat)=6 from rfl];grind) j;have t0:=tm_nn h0 (6+j);have u1:=q22 x;have u2:=qjp x 1;have u3:=qjp x 2;have u6:=qjp x 5;rw[show((1+1:Nat):Rat)=2 from rfl]at u2;rw[show((2+1:Nat):Rat)=3 from rfl]at u3;rw[show((5+1:Nat):Rat)=6 from rfl]at u6;have t5:=tm_nn h0 5;have e6:ps (st x) 6=x-tm x 3+tm x 5:=by
  have s1:s4 1=1:=rfl;have s2:s4 2=0:=by rw[qbb,qcb,qc5];grind
  have s3:s4 3=-1:=by rw[qbb,qcb,qbb,qec]
  have s4':s4 4=0:=by rw[qbb,qcb,qbb,qcb,qc5];grind
  have s5:s4 5=1:=by rw[qbb,qcb,qbb,qcb,qbb,qec];grind
  have s6:s4 6=0:=by rw[qbb,qcb,qbb,qcb,qbb,qcb,qc5];grind
  simp only[ps,st];rw[qc5,s1,s2,s3,s4',s5,s6,u1];grind
 have e7:∀z m,es z m=ps (tm z) m:=fun _ _=>rfl
 rw[e7,e7]at t;rw[e6]at r;show x/4<=ps (st x) (6+j);have m1:=mul_nn h0 (show 0<=4-x*x by
  have:=qcj (a:=x) (b:=2) (c:=x) (d:=2) h2 h2 (by decide) h0;grind)
 have m2:=mul_nn (show 0<=2-x by grind) t5;obtain⟨r1,r2⟩:=r;have a2:2*tm x 2=x*x:=by rw[u2,u1]
 have a3:3*tm x 3=x*tm x 2:=u3;have a6:6*tm x 6=x*tm x 5:=u6;clear u1 u2 u3 u6 e6 e7 hb hn;generalize tm x 2=T2 at *
 generalize tm x 3=T3 at *
 generalize tm x 5=T5 at *
 generalize tm x 6=T6 at *
 generalize tm x (6+j)=Tj at *
 generalize ps (tm x) (6+j)=P at *
 generalize ps (tm x) 6=P6 at *
 generalize ps (st x) (6+j)=S at *
 have b3:6*T3=x*(x*x):=by grind
 grind
theorem qaje {θ:Nat->Rat}(N:Nat)(hb:∀n,N<=n->Bd (θ n) 2)(h:SLe (fun _=>0) (Si θ)):SLe (fun _=>0) θ:=by
 intro ε he;obtain⟨M,hM⟩:=h (ε/4) (by grind);refine⟨max (max N M) 6,fun n hn=>?_⟩;have h1:=hM n (by omega);obtain⟨a,b⟩:=hb n (by omega);rcases(inferInstance:Decidable (0<=θ n))with hz|hz
 ·have:=q7r (x:=-θ n) (n:=n) (by omega) (by grind) (by grind);rw[qx7]at this;have e:Si θ n=ss (θ n) n:=rfl;rw[e]at h1;grind
 ·grind
structure Tan (t:Nat->Rat)(d:Rat):Prop where
 lo:∀n,0<=t n
 hi:∀n,t n<=17/10
 dir:Dir t (fun _=>1) (fun _=>d)
 cos:SLe (fun _=>0) (Co t)
theorem Tan.bnd {t:Nat->Rat}{d:Rat}(h:Tan t d):Bnd t:=⟨17/10,0,fun n _=>⟨by have:=h.lo n;grind,h.hi n⟩⟩
def thp (d:Rat):Nat->Rat:=if d<=1 then th0 d else fun n=>hpi n-th0 (1/d) n
theorem Near.sle {s t:Nat->Rat}(h:Near s t):SLe s t:=h.le_left
theorem SLe.mul_nn {s t:Nat->Rat}(bs:Bnd s)(bt:Bnd t)(h:SLe (fun _=>0) s)(k:SLe (fun _=>0) t):SLe (fun _=>0) (fun n=>s n*t n):=by
 obtain⟨B,b0,N,hB⟩:=bs.pos;obtain⟨C,c0,N',hC⟩:=bt.pos;intro ε he;have⟨D,hD⟩:∃D:Rat,D=B+C+1:=⟨_,rfl⟩
 have D0:0<D:=by grind
 have iD:=Rat.inv_pos.2 D0;have mD:=qfc D0;have⟨η,η0,η1,ηD⟩:∃η:Rat,0<η/\η<=1/\D*η<=ε:=by
  have e:D*(ε*D⁻¹)=ε:=by rw[Rat.mul_comm ε,<-Rat.mul_assoc,mD,Rat.one_mul]
  rcases(inferInstance:Decidable (ε*D⁻¹<=1))with h1|h1
  ·refine⟨1,by decide,Rat.le_refl,?_⟩;have:=W.mul_nn (Rat.le_of_lt D0) (show 0<=ε*D⁻¹-1 by grind);grind
  ·exact⟨ε*D⁻¹,Rat.mul_pos he iD,h1,by rw[e];exact Rat.le_refl⟩
 obtain⟨N1,H1⟩:=h η η0;obtain⟨N2,H2⟩:=k η η0;refine⟨max (max N N') (max N1 N2),fun n hn=>?_⟩;have p1:0<=s n+η:=H1 n (by omega);have p2:0<=t n+η:=H2 n (by omega);obtain⟨q1,q2⟩:=hB n (by omega);obtain⟨q3,q4⟩:=hC n (by omega);show 0<=s n*t n+ε;generalize s n=x at *
 generalize t n=y at *
 have m1:=W.mul_nn p1 p2;have m2:=W.mul_nn (Rat.le_of_lt η0) (show 0<=B-x by grind);have m3:=W.mul_nn (Rat.le_of_lt η0) (show 0<=C-y by grind);have m4:=W.mul_nn (Rat.le_of_lt η0) (show 0<=1-η by grind);rw[hD]at ηD;clear hD D0 iD mD H1 H2 hB hC h k hn q1 q2 q3 q4 p1 p2 η1 η0;grind
theorem Tan.mono {s t:Nat->Rat}{d e:Rat}(h:Tan s d)(k:Tan t e)(hle:d<=e):SLe s t:=by
 have bs:=h.bnd;have bt:=k.bnd;have h2:=q41 bt bs.neg;rw[q40,qabi]at h2;have a1:=Null.mul_left (qmy bs) k.dir;have a2:=Null.mul_left (qmy bt) h.dir;have key:Near (fun n=>(e-d)*(Co t n*Co s n)) (Si fun n=>t n+- s n):=by
  refine Near.trans ?_ h2;exact(Null.sub a2 a1).congr fun n=>by grind
 have bcs:=qmy bs;have bct:=qmy bt;have cc:SLe (fun _=>0) (fun n=>Co t n*Co s n):=SLe.mul_nn bct bcs k.cos h.cos;have pos:SLe (fun _=>0) (Si fun n=>t n+- s n):=by
  have m:=cc.mul_left (c:=fun _=>e-d) (fun _=>by grind) (Bnd.const _);exact(SLe.of_le 0 fun n _=>by grind).trans (m.trans key.sle)
 have:=qaje 0 (fun n _=>by
  have a:=h.lo n;have b:=h.hi n;have c:=k.lo n;have d:=k.hi n;exact⟨by grind,by grind⟩) pos
 intro ε he;obtain⟨N,hN⟩:=this ε he;exact⟨N,fun n hn=>by have:=hN n hn;grind⟩
def th (d:Rat):Nat->Rat:=if 0<=d then thp d else fun n=>-thp (-d) n
end Go.Abs.W
