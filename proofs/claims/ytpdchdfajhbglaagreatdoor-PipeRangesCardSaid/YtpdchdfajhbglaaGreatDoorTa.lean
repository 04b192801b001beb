/- Parts of the proof: FpTa, FpTb, FpTc, FpTd, FpTe, FpTf. -/
import Derived.Test.YtpdchdfajhbglaaGreatDoorXa
import Derived.Test.YtpdchdfajhbglaaGreatDoorFf
namespace Go.Abs.W
def i4 : Nat->Rat × Rat
 |0=>(1,0)
 |n+1=>(-(i4 n).2,(i4 n).1)
def c4 (n:Nat):Rat:=(i4 n).1
def s4 (n:Nat):Rat:=(i4 n).2
theorem qwt : c4 0=1:=rfl
theorem qpy : s4 0=0:=rfl
theorem qgc (n:Nat):c4 (n+1)=- s4 n:=rfl
theorem qet (n:Nat):s4 (n+1)=c4 n:=rfl
theorem qan9 (p q:Nat):c4 (p+q)=c4 p*c4 q-s4 p*s4 q/\s4 (p+q)=s4 p*c4 q+c4 p*s4 q:=by
 induction q with
 |zero=>rw[Nat.add_zero,qwt,qpy];constructor<;>grind
 |succ q ih=>
  obtain⟨h1,h2⟩:=ih;rw[<-Nat.add_assoc,qgc,qet,qgc,qet,h1,h2];constructor<;>grind
theorem c4_Bd (n:Nat):Bd (c4 n) 1/\Bd (s4 n) 1:=by
 induction n with
 |zero=>rw[qwt,qpy];refine⟨⟨by grind,by grind⟩,by grind,by grind⟩
 |succ n ih=>
  obtain⟨⟨a,b⟩,c,d⟩:=ih;rw[qgc,qet];exact⟨⟨by grind,by grind⟩,a,b⟩
def ct (x:Rat)(k:Nat):Rat:=c4 k*tm x k
def st (x:Rat)(k:Nat):Rat:=s4 k*tm x k
def cs (x:Rat)(n:Nat):Rat:=ps (ct x) n
def ss (x:Rat)(n:Nat):Rat:=ps (st x) n
theorem qan1 (b:Nat->Rat)(k:Nat):∀(p:Nat) (a:Nat->Rat),
 cv (fun i=>c4 (p+i)*a i) (fun j=>c4 j*b j) k-cv (fun i=>s4 (p+i)*a i) (fun j=>s4 j*b j) k=c4 (p+k)*cv a b k /\
 cv (fun i=>s4 (p+i)*a i) (fun j=>c4 j*b j) k+cv (fun i=>c4 (p+i)*a i) (fun j=>s4 j*b j) k=s4 (p+k)*cv a b k:=by
 induction k with
 |zero=>
  intro p a;simp only[cv,Nat.add_zero,qwt,qpy];constructor<;>grind
 |succ k ih=>
  intro p a;obtain⟨h1,h2⟩:=ih (p+1) (fun i=>a (i+1));obtain⟨h3,h4⟩:=qan9 p (k+1);have e1:(fun i=>c4 (p+(i+1))*a (i+1))=fun i=>c4 (p+1+i)*a (i+1):=by
   funext i;rw[show p+(i+1)=p+1+i by omega]
  have e2:(fun i=>s4 (p+(i+1))*a (i+1))=fun i=>s4 (p+1+i)*a (i+1):=by
   funext i;rw[show p+(i+1)=p+1+i by omega]
  simp only[cv];rw[e1,e2];rw[show p+1+k=p+(k+1) by omega]at h1 h2;rw[Nat.add_zero];generalize c4 (p+(k+1))=C at *
  generalize s4 (p+(k+1))=S at *
  subst h3 h4;constructor<;>grind
theorem cv_ct (x y:Rat)(k:Nat):cv (ct x) (ct y) k-cv (st x) (st y) k=ct (x+y) k/\cv (st x) (ct y) k+cv (ct x) (st y) k=st (x+y) k:=by
 have h:=qan1 (tm y) k 0 (tm x);simp only[Nat.zero_add]at h;rw[cv_tm]at h;exact h
theorem qamu (f g:Nat->Rat)(m:Nat):ps (fun k=>f k-g k) m=ps f m-ps g m:=by
 induction m with
 |zero=>rfl
 |succ m ih=>simp only[ps];rw[ih];grind
theorem qamv (f g:Nat->Rat)(m:Nat):ps (fun k=>f k+g k) m=ps f m+ps g m:=by
 induction m with
 |zero=>rfl
 |succ m ih=>simp only[ps];rw[ih];grind
theorem qak5 (x y:Rat)(m:Nat):cs x m*cs y m-ss x m*ss y m-cs (x+y) m=cv (ct x) (fun j=>cs y m-cs y j) m-cv (st x) (fun j=>ss y m-ss y j) m:=by
 have h:cs (x+y) m=cv (ct x) (fun j=>cs y j) m-cv (st x) (fun j=>ss y j) m:=by
  have h1:=ps_cv (ct x) (ct y) m;have h2:=ps_cv (st x) (st y) m;have h3:=qamu (cv (ct x) (ct y)) (cv (st x) (st y)) m;rw[show(fun k=>cv (ct x) (ct y) k-cv (st x) (st y) k)=ct (x+y) from funext fun k=>(cv_ct x y k).1,h1,h2]at h3;exact h3
 rw[q36,q36,h];show _=ps (ct x) m*cs y m-cv (ct x) (fun j=>cs y j) m-(ps (st x) m*ss y m-cv (st x) (fun j=>ss y j) m);show cs x m*cs y m-ss x m*ss y m-_=cs x m*cs y m-cv (ct x) (fun j=>cs y j) m-(ss x m*ss y m-cv (st x) (fun j=>ss y j) m);grind
theorem qajj (x y:Rat)(m:Nat):ss x m*cs y m+cs x m*ss y m-ss (x+y) m=cv (st x) (fun j=>cs y m-cs y j) m+cv (ct x) (fun j=>ss y m-ss y j) m:=by
 have h:ss (x+y) m=cv (st x) (fun j=>cs y j) m+cv (ct x) (fun j=>ss y j) m:=by
  have h1:=ps_cv (st x) (ct y) m;have h2:=ps_cv (ct x) (st y) m;have h3:=qamv (cv (st x) (ct y)) (cv (ct x) (st y)) m;rw[show(fun k=>cv (st x) (ct y) k+cv (ct x) (st y) k)=st (x+y) from funext fun k=>(cv_ct x y k).2,h1,h2]at h3;exact h3
 rw[q36,q36,h];show ss x m*cs y m+cs x m*ss y m-_=ss x m*cs y m-cv (st x) (fun j=>cs y j) m+(cs x m*ss y m-cv (ct x) (fun j=>ss y j) m);grind
theorem ct_Bd {x a:Rat}(h:Bd x a)(n:Nat):Bd (ct x n) (tm a n)/\Bd (st x n) (tm a n):=by
 obtain⟨b,c⟩:=c4_Bd n;have t:=tm_Bd h n;have h1:=b.mul t;have h2:=c.mul t;rw[Rat.one_mul]at h1 h2;exact⟨h1,h2⟩
def ae (a b:Rat)(m:Nat):Rat:=2*(es a m*es b m-es (a+b) m)
theorem q4d {x y a b:Rat}(hx:Bd x a)(hy:Bd y b)(m:Nat):Bd (cs x m*cs y m-ss x m*ss y m-cs (x+y) m) (ae a b m)/\Bd (ss x m*cs y m+cs x m*ss y m-ss (x+y) m) (ae a b m):=by
 rw[qak5,qajj];have e:ae a b m=cv (tm a) (fun j=>es b m-es b j) m+cv (tm a) (fun j=>es b m-es b j) m:=by
  unfold ae;rw[q54];grind
 rw[e];have h1:=cv_Bd (m:=m) (fun i=>(ct_Bd hx i).1) (d:=fun j=>cs y m-cs y j) (D:=fun j=>es b m-es b j) fun j hj=>ps_Bd (fun i=>(ct_Bd hy i).1) hj
 have h2:=cv_Bd (m:=m) (fun i=>(ct_Bd hx i).2) (d:=fun j=>ss y m-ss y j) (D:=fun j=>es b m-es b j) fun j hj=>ps_Bd (fun i=>(ct_Bd hy i).2) hj
 have h3:=cv_Bd (m:=m) (fun i=>(ct_Bd hx i).2) (d:=fun j=>cs y m-cs y j) (D:=fun j=>es b m-es b j) fun j hj=>ps_Bd (fun i=>(ct_Bd hy i).1) hj
 have h4:=cv_Bd (m:=m) (fun i=>(ct_Bd hx i).1) (d:=fun j=>ss y m-ss y j) (D:=fun j=>es b m-es b j) fun j hj=>ps_Bd (fun i=>(ct_Bd hy i).2) hj
 refine⟨?_,h3.add h4⟩;obtain⟨a1,a2⟩:=h1;obtain⟨b1,b2⟩:=h2;constructor<;>grind
theorem qaex {a b:Rat}(ha:0<=a)(hb:0<=b):Null (ae a b):=by
 intro ε he;obtain⟨N,hN⟩:=q53 (c:=a+b) (by grind) (ε:=ε/2) (qd1 he);refine⟨N,fun n hn=>?_⟩;have h1:=q3x ha hb n;have h2:=hN n (n+n) hn (by omega);have h3:=(qy8 (x:=a) (y:=b) (a:=a) (b:=b) ⟨by grind,by grind⟩ ⟨by grind,by grind⟩ n).nn;unfold ae;constructor<;>grind
theorem qzw (x:Rat)(n:Nat):ct (-x) n=ct x n/\st (-x) n=- st x n:=by
 have key:∀n,(tm (-x) n=tm x n/\s4 n=0)\/(tm (-x) n=- tm x n/\c4 n=0):=by
  intro n;induction n with
  |zero=>left;exact⟨rfl,rfl⟩
  |succ n ih=>
   simp only[tm,qgc,qet];rw[Rat.div_def,Rat.div_def];rcases ih with ⟨h,k⟩|⟨h,k⟩<;>rw[h]
   ·right;constructor<;>grind
   ·left;constructor<;>grind
 unfold ct st;rcases key n with ⟨h,k⟩|⟨h,k⟩<;>rw[h,k]<;>constructor<;>grind
theorem qan2 (x:Rat)(n:Nat):cs (-x) n=cs x n:=by
 unfold cs;rw[show ct (-x)=ct x from funext fun k=>(qzw x k).1]
theorem qah6 (x:Rat)(n:Nat):ss (-x) n=- ss x n:=by
 unfold ss;induction n with
 |zero=>exact(qzw x 0).2
 |succ n ih=>simp only[ps];rw[ih,(qzw x (n+1)).2];grind
theorem cs_Bd {x a:Rat}(h:Bd x a)(n:Nat):Bd (cs x n) (es a n)/\Bd (ss x n) (es a n):=by
 unfold cs ss es;induction n with
 |zero=>exact ct_Bd h 0
 |succ n ih=>exact⟨ih.1.add (ct_Bd h _).1,ih.2.add (ct_Bd h _).2⟩
theorem qamc (h:Rat):tm h 1=h:=by
 show 1*h/((0+1:Nat):Rat)=_;have a:((0+1:Nat):Rat)=1:=rfl;rw[a];grind
def Co (u:Nat->Rat):Nat->Rat:=fun n=>cs (u n) n
def Si (u:Nat->Rat):Nat->Rat:=fun n=>ss (u n) n
theorem Null.of_Bd {s t:Nat->Rat}(ht:Null t)(N:Nat)(h:∀n,N<=n->Bd (s n) (t n)):Null s:=by
 intro ε he;obtain⟨M,hM⟩:=ht ε he;refine⟨max N M,fun n hn=>?_⟩;obtain⟨a,b⟩:=h n (by omega);obtain⟨c,d⟩:=hM n (by omega);constructor<;>grind
theorem Bnd.pos {u:Nat->Rat}(h:Bnd u):∃B:Rat,0<=B/\∃N,∀n,N<=n->Bd (u n) B:=by
 obtain⟨B,N,h⟩:=h;exact⟨B,(h N (Nat.le_refl _)).nn,N,h⟩
theorem qao9 {u v:Nat->Rat}(bu:Bnd u)(bv:Bnd v):Near (fun n=>Co u n*Co v n-Si u n*Si v n) (Co fun n=>u n+v n):=by
 obtain⟨A,a0,N,hu⟩:=bu.pos;obtain⟨B,b0,M,hv⟩:=bv.pos;exact(qaex a0 b0).of_Bd (max N M) fun n hn=>(q4d (hu n (by omega)) (hv n (by omega)) n).1
theorem qaiz {u v:Nat->Rat}(bu:Bnd u)(bv:Bnd v):Near (fun n=>Si u n*Co v n+Co u n*Si v n) (Si fun n=>u n+v n):=by
 obtain⟨A,a0,N,hu⟩:=bu.pos;obtain⟨B,b0,M,hv⟩:=bv.pos;exact(qaex a0 b0).of_Bd (max N M) fun n hn=>(q4d (hu n (by omega)) (hv n (by omega)) n).2
theorem qai2 (u:Nat->Rat):(Co fun n=>-u n)=Co u:=funext fun n=>qan2 (u n) n
theorem qaix (u:Nat->Rat):(Si fun n=>-u n)=fun n=>- Si u n:=funext fun n=>qah6 (u n) n
theorem qai3 {u:Nat->Rat}(bu:Bnd u):Bnd (Co u)/\Bnd (Si u):=by
 obtain⟨A,a0,N,hu⟩:=bu.pos;obtain⟨E,M,hE⟩:=q3y A;refine⟨⟨E,max N M,fun n hn=>?_⟩,E,max N M,fun n hn=>?_⟩
 ·obtain⟨c,d⟩:=(cs_Bd (hu n (by omega)) n).1;obtain⟨e,f⟩:=hE n (by omega);exact⟨by show _<=cs (u n) n;grind,by show cs (u n) n<=_;grind⟩
 ·obtain⟨c,d⟩:=(cs_Bd (hu n (by omega)) n).2;obtain⟨e,f⟩:=hE n (by omega);exact⟨by show _<=ss (u n) n;grind,by show ss (u n) n<=_;grind⟩
theorem qzs {u:Nat->Rat}(bu:Bnd u):Bnd (Co u):=(qai3 bu).1
theorem qaiy {u:Nat->Rat}(bu:Bnd u):Bnd (Si u):=(qai3 bu).2
def LBd (s t:Nat->Rat):Prop:=∀ε:Rat,0<ε->∃N,∀n,N<=n->Bd (s n) (t n+ε)
theorem LBd.sle {s t:Nat->Rat}(h:LBd s t):SLe s t:=fun ε he=>by
 obtain⟨N,hN⟩:=h ε he;exact⟨N,fun n hn=>(hN n hn).2⟩
theorem LBd.of_Bd {s t:Nat->Rat}(N:Nat)(h:∀n,N<=n->Bd (s n) (t n)):LBd s t:=fun ε he=>⟨N,fun n hn=>by
 obtain⟨a,b⟩:=h n hn;constructor<;>grind⟩
theorem LBd.add {s t u v:Nat->Rat}(h:LBd s t)(k:LBd u v):LBd (fun n=>s n+u n) (fun n=>t n+v n):=fun ε he=>by
 obtain⟨N,hN⟩:=h (ε/2) (qd1 he);obtain⟨M,hM⟩:=k (ε/2) (qd1 he);refine⟨max N M,fun n hn=>?_⟩;obtain⟨a,b⟩:=hN n (by omega);obtain⟨c,d⟩:=hM n (by omega);constructor<;>grind
theorem LBd.near {s s' t:Nat->Rat}(h:LBd s t)(k:Near s s'):LBd s' t:=fun ε he=>by
 obtain⟨N,hN⟩:=h (ε/2) (qd1 he);obtain⟨M,hM⟩:=k (ε/2) (qd1 he);refine⟨max N M,fun n hn=>?_⟩;obtain⟨a,b⟩:=hN n (by omega);obtain⟨c,d⟩:=hM n (by omega);constructor<;>grind
theorem LBd.mono {s t u:Nat->Rat}(h:LBd s t)(N:Nat)(k:∀n,N<=n->t n<=u n):LBd s u:=fun ε he=>by
 obtain⟨M,hM⟩:=h ε he;refine⟨max N M,fun n hn=>?_⟩;obtain⟨a,b⟩:=hM n (by omega);have:=k n (by omega);constructor<;>grind
theorem LBd.neg {s t:Nat->Rat}(h:LBd s t):LBd (fun n=>- s n) t:=fun ε he=>by
 obtain⟨N,hN⟩:=h ε he;refine⟨N,fun n hn=>?_⟩;obtain⟨a,b⟩:=hN n hn;constructor<;>grind
def sg : Nat->Rat
 |0=>1
 |n+1=>- sg n
def lta (z:Rat)(k:Nat):Rat:=sg k*lt z k
def at' (z:Rat)(n:Nat):Rat:=ps (lta z) n
def ga (z:Rat)(n:Nat):Rat:=ps (fun k=>sg k*ev z k) n
def gd (z:Rat)(n m:Nat):Rat:=z*cs (at' z n) m-ss (at' z n) m
def Dir (u a b:Nat->Rat):Prop:=Near (fun n=>a n*Si u n) (fun n=>b n*Co u n)
theorem Null.mul_left {s t:Nat->Rat}(hs:Bnd s)(ht:Null t):Null (fun n=>s n*t n):=(ht.mul hs).congr fun n=>by grind
theorem Dir.add {u v a b c d:Nat->Rat}(bu:Bnd u)(bv:Bnd v)(ba:Bnd a)(bb:Bnd b)(bc:Bnd c)(bd:Bnd d)(h:Dir u a b)(k:Dir v c d) :
 Dir (fun n=>u n+v n) (fun n=>a n*c n-b n*d n) (fun n=>a n*d n+b n*c n):=by
 have h1:=qao9 bu bv;have h2:=qaiz bu bv;have cu:=qzs bu;have su:=qaiy bu;have cv:=qzs bv;have sv:=qaiy bv;have x1:=(Near.refl (fun n=>a n*c n-b n*d n)).mul h2.symm ((ba.mul bc).sub (bb.mul bd)) (h2.bnd ((su.mul cv).add (cu.mul sv)));have x2:=(Near.refl (fun n=>a n*d n+b n*c n)).mul h1.symm ((ba.mul bd).add (bb.mul bc)) (h1.bnd ((cu.mul cv).sub (su.mul sv)));refine x1.trans (Near.trans ?_ x2.symm);have p:=Null.mul_left ((bc.mul cv).add (bd.mul sv)) h;have q:=Null.mul_left ((ba.mul cu).add (bb.mul su)) k;exact(p.add q).congr fun n=>by grind
theorem Dir.neg {u a b:Nat->Rat}(h:Dir u a b):Dir (fun n=>-u n) a (fun n=>-b n):=by
 unfold Dir at *
 rw[qaix,qai2];exact(Null.neg h).congr fun n=>by grind
def e8 : Nat->Rat:=fun n=>4*at' (1/5) n-at' (1/239) n
def hpi : Nat->Rat:=fun n=>2*e8 n
def p2 (n:Nat):Rat:=((2^n:Nat):Rat)
def rt (q:Rat)(n:Nat):Rat:=(isq (q*(p2 n*p2 n)).floor.toNat:Rat)/p2 n
def hv (x:Rat)(n:Nat):Rat:=x/(1+rt (1+x*x) n)
def hvn : Nat->Rat->Nat->Rat
 |0,x,_=>x
 |j+1,x,n=>hv (hvn j x n) n
def th0 (x:Rat)(n:Nat):Rat:=8*at' (hvn 3 x n) n
theorem qajl {x:Rat}{n:Nat}(hn:6<=n)(h0:0<=x)(h2:x<=2):x/4<=ss x n:=by
 obtain⟨j,rfl⟩:=Nat.exists_eq_add_of_le hn;have hb:Bd x x:=⟨by grind,by grind⟩
 have r:=ps_Bd (fun i=>(ct_Bd hb i).2) (show 6<=6+j by omega);have t:=qzv h0 (n:=6) (by rw[show((6:Nat):Rat)=6 from rfl];grind) j;have t0:=tm_nn h0 (6+j);have u1:=qamc x;have u2:=qpx x 1;have u3:=qpx x 2;have u6:=qpx x 5;rw[show((1+1:Nat):Rat)=2 from rfl]at u2;rw[show((2+1:Nat):Rat)=3 from rfl]at u3;rw[show((5+1:Nat):Rat)=6 from rfl]at u6;have t5:=tm_nn h0 5;have e6:ps (st x) 6=x-tm x 3+tm x 5:=by
  have s1:s4 1=1:=rfl;have s2:s4 2=0:=by rw[qet,qgc,qpy];grind
  have s3:s4 3=-1:=by rw[qet,qgc,qet,qwt]
  have s4':s4 4=0:=by rw[qet,qgc,qet,qgc,qpy];grind
  have s5:s4 5=1:=by rw[qet,qgc,qet,qgc,qet,qwt];grind
  have s6:s4 6=0:=by rw[qet,qgc,qet,qgc,qet,qgc,qpy];grind
  simp only[ps,st];rw[qpy,s1,s2,s3,s4',s5,s6,u1];grind
 have e7:∀z m,es z m=ps (tm z) m:=fun _ _=>rfl
 rw[e7,e7]at t;rw[e6]at r;show x/4<=ps (st x) (6+j);have m1:=mul_nn h0 (show 0<=4-x*x by
  have:=qfx (a:=x) (b:=2) (c:=x) (d:=2) h2 h2 (by decide) h0;grind)
 have m2:=mul_nn (show 0<=2-x by grind) t5;obtain⟨r1,r2⟩:=r;have a2:2*tm x 2=x*x:=by rw[u2,u1]
 have a3:3*tm x 3=x*tm x 2:=u3;have a6:6*tm x 6=x*tm x 5:=u6;clear u1 u2 u3 u6 e6 e7 hb hn;generalize tm x 2=T2 at *
 generalize tm x 3=T3 at *
 generalize tm x 5=T5 at *
 generalize tm x 6=T6 at *
 generalize tm x (6+j)=Tj at *
 generalize ps (tm x) (6+j)=P at *
 generalize ps (tm x) 6=P6 at *
 generalize ps (st x) (6+j)=S at *
 have b3:6*T3=x*(x*x):=by grind
 grind
theorem qamj {θ:Nat->Rat}(N:Nat)(hb:∀n,N<=n->Bd (θ n) 2)(h:SLe (fun _=>0) (Si θ)):SLe (fun _=>0) θ:=by
 intro ε he;obtain⟨M,hM⟩:=h (ε/4) (by grind);refine⟨max (max N M) 6,fun n hn=>?_⟩;have h1:=hM n (by omega);obtain⟨a,b⟩:=hb n (by omega);rcases(inferInstance:Decidable (0<=θ n))with hz|hz
 ·have:=qajl (x:=-θ n) (n:=n) (by omega) (by grind) (by grind);rw[qah6]at this;have e:Si θ n=ss (θ n) n:=rfl;rw[e]at h1;grind
 ·grind
structure Tan (t:Nat->Rat)(d:Rat):Prop where
 lo:∀n,0<=t n
 hi:∀n,t n<=17/10
 dir:Dir t (fun _=>1) (fun _=>d)
 cos:SLe (fun _=>0) (Co t)
theorem Tan.bnd {t:Nat->Rat}{d:Rat}(h:Tan t d):Bnd t:=⟨17/10,0,fun n _=>⟨by have:=h.lo n;grind,h.hi n⟩⟩
def thp (d:Rat):Nat->Rat:=if d<=1 then th0 d else fun n=>hpi n-th0 (1/d) n
theorem Near.sle {s t:Nat->Rat}(h:Near s t):SLe s t:=h.le_left
theorem SLe.mul_nn {s t:Nat->Rat}(bs:Bnd s)(bt:Bnd t)(h:SLe (fun _=>0) s)(k:SLe (fun _=>0) t):SLe (fun _=>0) (fun n=>s n*t n):=by
 obtain⟨B,b0,N,hB⟩:=bs.pos;obtain⟨C,c0,N',hC⟩:=bt.pos;intro ε he;have⟨D,hD⟩:∃D:Rat,D=B+C+1:=⟨_,rfl⟩
 have D0:0<D:=by grind
 have iD:=Rat.inv_pos.2 D0;have mD:=qa7 D0;have⟨η,η0,η1,ηD⟩:∃η:Rat,0<η/\η<=1/\D*η<=ε:=by
  have e:D*(ε*D⁻¹)=ε:=by rw[Rat.mul_comm ε,<-Rat.mul_assoc,mD,Rat.one_mul]
  rcases(inferInstance:Decidable (ε*D⁻¹<=1))with h1|h1
  ·refine⟨1,by decide,Rat.le_refl,?_⟩;have:=W.mul_nn (Rat.le_of_lt D0) (show 0<=ε*D⁻¹-1 by grind);grind
  ·exact⟨ε*D⁻¹,Rat.mul_pos he iD,h1,by rw[e];exact Rat.le_refl⟩
 obtain⟨N1,H1⟩:=h η η0;obtain⟨N2,H2⟩:=k η η0;refine⟨max (max N N') (max N1 N2),fun n hn=>?_⟩;have p1:0<=s n+η:=H1 n (by omega);have p2:0<=t n+η:=H2 n (by omega);obtain⟨q1,q2⟩:=hB n (by omega);obtain⟨q3,q4⟩:=hC n (by omega);show 0<=s n*t n+ε;generalize s n=x at *
 generalize t n=y at *
 have m1:=W.mul_nn p1 p2;have m2:=W.mul_nn (Rat.le_of_lt η0) (show 0<=B-x by grind);have m3:=W.mul_nn (Rat.le_of_lt η0) (show 0<=C-y by grind);have m4:=W.mul_nn (Rat.le_of_lt η0) (show 0<=1-η by grind);rw[hD]at ηD;clear hD D0 iD mD H1 H2 hB hC h k hn q1 q2 q3 q4 p1 p2 η1 η0;grind
theorem Tan.mono {s t:Nat->Rat}{d e:Rat}(h:Tan s d)(k:Tan t e)(hle:d<=e):SLe s t:=by
 have bs:=h.bnd;have bt:=k.bnd;have h2:=qaiz bt bs.neg;rw[qaix,qai2]at h2;have a1:=Null.mul_left (qzs bs) k.dir;have a2:=Null.mul_left (qzs bt) h.dir;have key:Near (fun n=>(e-d)*(Co t n*Co s n)) (Si fun n=>t n+- s n):=by
  refine Near.trans ?_ h2;exact(Null.sub a2 a1).congr fun n=>by grind
 have bcs:=qzs bs;have bct:=qzs bt;have cc:SLe (fun _=>0) (fun n=>Co t n*Co s n):=SLe.mul_nn bct bcs k.cos h.cos;have pos:SLe (fun _=>0) (Si fun n=>t n+- s n):=by
  have m:=cc.mul_left (c:=fun _=>e-d) (fun _=>by grind) (Bnd.const _);exact(SLe.of_le 0 fun n _=>by grind).trans (m.trans key.sle)
 have:=qamj 0 (fun n _=>by
  have a:=h.lo n;have b:=h.hi n;have c:=k.lo n;have d:=k.hi n;exact⟨by grind,by grind⟩) pos
 intro ε he;obtain⟨N,hN⟩:=this ε he;exact⟨N,fun n hn=>by have:=hN n hn;grind⟩
def th (d:Rat):Nat->Rat:=if 0<=d then thp d else fun n=>-thp (-d) n
end Go.Abs.W
