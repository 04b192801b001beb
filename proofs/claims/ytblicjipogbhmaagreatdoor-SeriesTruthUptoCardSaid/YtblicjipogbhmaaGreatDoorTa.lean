import Derived.Test.YtblicjipogbhmaaGreatDoorXa
import Derived.Test.YtblicjipogbhmaaGreatDoorFf
namespace Go.Abs.W
def i4 : Nat->Rat × Rat
 |0=>(1,0)
 |n+1=>(-(i4 n).2,(i4 n).1)
def c4 (n:Nat):Rat:=(i4 n).1
def s4 (n:Nat):Rat:=(i4 n).2
theorem kC : c4 0=1:=rfl
theorem ke : s4 0=0:=rfl
theorem iz (n:Nat):c4 (n+1)=- s4 n:=rfl
theorem gN (n:Nat):s4 (n+1)=c4 n:=rfl
theorem SG (p q:Nat):c4 (p+q)=c4 p*c4 q-s4 p*s4 q/\s4 (p+q)=s4 p*c4 q+c4 p*s4 q:=by
 induction q with
 |zero=>rw[VF,kC,ke];constructor<;>grind
 |succ q c=>
  obtain⟨a,b⟩:=c;rw[<-Yg,iz,gN,iz,gN,a,b];constructor<;>grind
theorem mo (n:Nat):Bd (c4 n) 1/\Bd (s4 n) 1:=by
 induction n with
 |zero=>rw[kC,ke];refine⟨⟨by grind,by grind⟩,by grind,by grind⟩
 |succ n e=>
  obtain⟨⟨a,b⟩,c,d⟩:=e;rw[iz,gN];exact⟨⟨by grind,by grind⟩,a,b⟩
def ct (x:Rat)(k:Nat):Rat:=c4 k*tm x k
def st (x:Rat)(k:Nat):Rat:=s4 k*tm x k
def cs (x:Rat)(n:Nat):Rat:=ps (ct x) n
def ss (x:Rat)(n:Nat):Rat:=ps (st x) n
theorem SK (b:Nat->Rat)(k:Nat):∀(p:Nat) (a:Nat->Rat),
 cv (fun i=>c4 (p+i)*a i) (fun j=>c4 j*b j) k-cv (fun i=>s4 (p+i)*a i) (fun j=>s4 j*b j) k=c4 (p+k)*cv a b k /\
 cv (fun i=>s4 (p+i)*a i) (fun j=>c4 j*b j) k+cv (fun i=>c4 (p+i)*a i) (fun j=>s4 j*b j) k=s4 (p+k)*cv a b k:=by
 induction k with
 |zero=>
  intro p a;simp only[cv,VF,kC,ke];constructor<;>grind
 |succ k l=>
  intro p a;obtain⟨e,f⟩:=l (p+1) (fun i=>a (i+1));obtain⟨g,h⟩:=SG p (k+1);have c:(fun i=>c4 (p+(i+1))*a (i+1))=fun i=>c4 (p+1+i)*a (i+1):=by
   funext i;rw[show p+(i+1)=p+1+i by omega]
  have d:(fun i=>s4 (p+(i+1))*a (i+1))=fun i=>s4 (p+1+i)*a (i+1):=by
   funext i;rw[show p+(i+1)=p+1+i by omega]
  simp only[cv];rw[c,d];rw[show p+1+k=p+(k+1) by omega]at e f;rw[VF];generalize c4 (p+(k+1))=C at *
  generalize s4 (p+(k+1))=S at *
  subst g h;constructor<;>grind
theorem qf (x y:Rat)(k:Nat):cv (ct x) (ct y) k-cv (st x) (st y) k=ct (x+y) k/\cv (st x) (ct y) k+cv (ct x) (st y) k=st (x+y) k:=by
 have h:=SK (tm y) k 0 (tm x);simp only[W1]at h;rw[mj]at h;exact h
theorem TG (f g:Nat->Rat)(m:Nat):ps (fun k=>f k-g k) m=ps f m-ps g m:=by
 induction m with
 |zero=>rfl
 |succ m a=>simp only[ps];rw[a];grind
theorem Uf (f g:Nat->Rat)(m:Nat):ps (fun k=>f k+g k) m=ps f m+ps g m:=by
 induction m with
 |zero=>rfl
 |succ m a=>simp only[ps];rw[a];grind
theorem Ks (x y:Rat)(m:Nat):cs x m*cs y m-ss x m*ss y m-cs (x+y) m=cv (ct x) (fun j=>cs y m-cs y j) m-cv (st x) (fun j=>ss y m-ss y j) m:=by
 have h:cs (x+y) m=cv (ct x) (fun j=>cs y j) m-cv (st x) (fun j=>ss y j) m:=by
  have b:=ig (ct x) (ct y) m;have c:=ig (st x) (st y) m;have a:=TG (cv (ct x) (ct y)) (cv (st x) (st y)) m;rw[show(fun k=>cv (ct x) (ct y) k-cv (st x) (st y) k)=ct (x+y) from funext fun k=>(qf x y k).1,b,c]at a;exact a
 rw[lJ,lJ,h];show _=ps (ct x) m*cs y m-cv (ct x) (fun j=>cs y j) m-(ps (st x) m*ss y m-cv (st x) (fun j=>ss y j) m);show cs x m*cs y m-ss x m*ss y m-_=cs x m*cs y m-cv (ct x) (fun j=>cs y j) m-(ss x m*ss y m-cv (st x) (fun j=>ss y j) m);grind
theorem LV (x y:Rat)(m:Nat):ss x m*cs y m+cs x m*ss y m-ss (x+y) m=cv (st x) (fun j=>cs y m-cs y j) m+cv (ct x) (fun j=>ss y m-ss y j) m:=by
 have h:ss (x+y) m=cv (st x) (fun j=>cs y j) m+cv (ct x) (fun j=>ss y j) m:=by
  have b:=ig (st x) (ct y) m;have c:=ig (ct x) (st y) m;have a:=Uf (cv (st x) (ct y)) (cv (ct x) (st y)) m;rw[show(fun k=>cv (st x) (ct y) k+cv (ct x) (st y) k)=st (x+y) from funext fun k=>(qf x y k).2,b,c]at a;exact a
 rw[lJ,lJ,h];show ss x m*cs y m+cs x m*ss y m-_=ss x m*cs y m-cv (st x) (fun j=>cs y j) m+(cs x m*ss y m-cv (ct x) (fun j=>ss y j) m);grind
theorem cQ {x a:Rat}(h:Bd x a)(n:Nat):Bd (ct x n) (tm a n)/\Bd (st x n) (tm a n):=by
 obtain⟨b,c⟩:=mo n;have t:=fS h n;have d:=b.mul t;have e:=c.mul t;rw[WB]at d e;exact⟨d,e⟩
def ae (a b:Rat)(m:Nat):Rat:=2*(es a m*es b m-es (a+b) m)
theorem Ci {x y a b:Rat}(f:Bd x a)(g:Bd y b)(m:Nat):Bd (cs x m*cs y m-ss x m*ss y m-cs (x+y) m) (ae a b m)/\Bd (ss x m*cs y m+cs x m*ss y m-ss (x+y) m) (ae a b m):=by
 rw[Ks,LV];have e:ae a b m=cv (tm a) (fun j=>es b m-es b j) m+cv (tm a) (fun j=>es b m-es b j) m:=by
  unfold ae;rw[sz];grind
 rw[e];have h:=jd (m:=m) (fun i=>(cQ f i).1) (d:=fun j=>cs y m-cs y j) (D:=fun j=>es b m-es b j) fun j c=>dH (fun i=>(cQ g i).1) c
 have k:=jd (m:=m) (fun i=>(cQ f i).2) (d:=fun j=>ss y m-ss y j) (D:=fun j=>es b m-es b j) fun j c=>dH (fun i=>(cQ g i).2) c
 have l:=jd (m:=m) (fun i=>(cQ f i).2) (d:=fun j=>cs y m-cs y j) (D:=fun j=>es b m-es b j) fun j c=>dH (fun i=>(cQ g i).1) c
 have n:=jd (m:=m) (fun i=>(cQ f i).1) (d:=fun j=>ss y m-ss y j) (D:=fun j=>es b m-es b j) fun j c=>dH (fun i=>(cQ g i).2) c
 refine⟨?_,l.add n⟩;obtain⟨o,p⟩:=h;obtain⟨q,r⟩:=k;constructor<;>grind
theorem sm {a b:Rat}(f:0<=a)(g:0<=b):Null (ae a b):=by
 intro d h;obtain⟨N,e⟩:=sA (c:=a+b) (by grind) (ε:=d/2) (jA h);refine⟨N,fun n i=>?_⟩;have j:=AR f g n;have k:=e n (n+n) i (by omega);have l:=(Z1 (x:=a) (y:=b) (a:=a) (b:=b) ⟨by grind,by grind⟩ ⟨by grind,by grind⟩ n).nn;unfold ae;constructor<;>grind
theorem UM (x:Rat)(n:Nat):ct (-x) n=ct x n/\st (-x) n=- st x n:=by
 have a:∀n,(tm (-x) n=tm x n/\s4 n=0)\/(tm (-x) n=- tm x n/\c4 n=0):=by
  intro n;induction n with
  |zero=>left;exact⟨rfl,rfl⟩
  |succ n b=>
   simp only[tm,iz,gN];rw[V0,V0];rcases b with ⟨h,k⟩|⟨h,k⟩<;>rw[h]
   ·right;constructor<;>grind
   ·left;constructor<;>grind
 unfold ct st;rcases a n with ⟨h,k⟩|⟨h,k⟩<;>rw[h,k]<;>constructor<;>grind
theorem vF (x:Rat)(n:Nat):cs (-x) n=cs x n:=by
 unfold cs;rw[show ct (-x)=ct x from funext fun k=>(UM x k).1]
theorem oz (x:Rat)(n:Nat):ss (-x) n=- ss x n:=by
 unfold ss;induction n with
 |zero=>exact(UM x 0).2
 |succ n a=>simp only[ps];rw[a,(UM x (n+1)).2];grind
theorem xe (n:Nat):cs 0 n=1:=by
 have h:∀k,ct 0 (k+1)=0:=fun k=>by
  unfold ct;simp only[tm];rw[abc,V0,Xr,abc]
 unfold cs;induction n with
 |zero=>show c4 0*1=1;rw[kC];grind
 |succ n a=>simp only[ps];rw[a,h];grind
theorem yA (n:Nat):ss 0 n=0:=by
 have:=oz 0 n;rw[show(-0:Rat)=0 by grind]at this;grind
theorem ml {x a:Rat}(h:Bd x a)(n:Nat):Bd (cs x n) (es a n)/\Bd (ss x n) (es a n):=by
 unfold cs ss es;induction n with
 |zero=>exact cQ h 0
 |succ n b=>exact⟨b.1.add (cQ h _).1,b.2.add (cQ h _).2⟩
theorem oB (h:Rat):tm h 1=h:=by
 show 1*h/((0+1:Nat):Rat)=_;have a:((0+1:Nat):Rat)=1:=rfl;rw[a];grind
theorem SJ (h:Rat):cs h 1=1/\ss h 1=h:=by
 constructor
 ·show c4 0*1+c4 1*tm h 1=1;rw[iz,kC,ke];grind
 ·show s4 0*1+s4 1*tm h 1=h;rw[gN,kC,ke,oB];grind
theorem zo {h a:Rat}(b:Bd h a)(p:a<=1){n:Nat}(e:1<=n):Bd (cs h n-1) (a*a)/\Bd (ss h n-h) (a*a):=by
 have f:=b.nn;obtain⟨g,q⟩:=SJ h;have c:=dH (fun i=>(cQ b i).1) e;have d:=dH (fun i=>(cQ b i).2) e;have j:cs h n=ps (ct h) n:=rfl;have k:ss h n=ps (st h) n:=rfl;have l:cs h 1=ps (ct h) 1:=rfl;have m:ss h 1=ps (st h) 1:=rfl;rw[<-j,<-l,g]at c;rw[<-k,<-m,q]at d;have r:ps (tm a) n-ps (tm a) 1<=a*a:=by
  have:=Uo f p n;have s:es a n=ps (tm a) n:=rfl;have o:ps (tm a) 1=1+a:=by show 1+tm a 1=_;rw[oB]
  rw[o];grind
 obtain⟨t,u⟩:=c;obtain⟨v,w⟩:=d;exact⟨⟨by grind,by grind⟩,by grind,by grind⟩
def Co (u:Nat->Rat):Nat->Rat:=fun n=>cs (u n) n
def Si (u:Nat->Rat):Nat->Rat:=fun n=>ss (u n) n
theorem Null.of_Bd {s t:Nat->Rat}(f:Null t)(N:Nat)(h:∀n,N<=n->Bd (s n) (t n)):Null s:=by
 intro g e;obtain⟨M,hM⟩:=f g e;refine⟨max N M,fun n i=>?_⟩;obtain⟨a,b⟩:=h n (by omega);obtain⟨c,d⟩:=hM n (by omega);constructor<;>grind
theorem Bnd.pos {u:Nat->Rat}(h:Bnd u):∃B:Rat,0<=B/\∃N,∀n,N<=n->Bd (u n) B:=by
 obtain⟨B,N,h⟩:=h;exact⟨B,(h N (Vo _)).nn,N,h⟩
theorem lM {u v:Nat->Rat}(b:Bnd u)(c:Bnd v):Near (fun n=>Co u n*Co v n-Si u n*Si v n) (Co fun n=>u n+v n):=by
 obtain⟨A,a,N,d⟩:=b.pos;obtain⟨B,b0,M,hv⟩:=c.pos;exact(sm a b0).of_Bd (max N M) fun n e=>(Ci (d n (by omega)) (hv n (by omega)) n).1
theorem lN {u v:Nat->Rat}(b:Bnd u)(c:Bnd v):Near (fun n=>Si u n*Co v n+Co u n*Si v n) (Si fun n=>u n+v n):=by
 obtain⟨A,a,N,d⟩:=b.pos;obtain⟨B,b0,M,hv⟩:=c.pos;exact(sm a b0).of_Bd (max N M) fun n e=>(Ci (d n (by omega)) (hv n (by omega)) n).2
theorem re (u:Nat->Rat):(Co fun n=>-u n)=Co u:=funext fun n=>vF (u n) n
theorem rg (u:Nat->Rat):(Si fun n=>-u n)=fun n=>- Si u n:=funext fun n=>oz (u n) n
theorem vn {u:Nat->Rat}(g:Bnd u):Bnd (Co u)/\Bnd (Si u):=by
 obtain⟨A,i,N,b⟩:=g.pos;obtain⟨E,M,a⟩:=th A;refine⟨⟨E,max N M,fun n h=>?_⟩,E,max N M,fun n h=>?_⟩
 ·obtain⟨c,d⟩:=(ml (b n (by omega)) n).1;obtain⟨e,f⟩:=a n (by omega);exact⟨by show _<=cs (u n) n;grind,by show cs (u n) n<=_;grind⟩
 ·obtain⟨c,d⟩:=(ml (b n (by omega)) n).2;obtain⟨e,f⟩:=a n (by omega);exact⟨by show _<=ss (u n) n;grind,by show ss (u n) n<=_;grind⟩
theorem mz {u:Nat->Rat}(a:Bnd u):Bnd (Co u):=(vn a).1
theorem uj {u:Nat->Rat}(a:Bnd u):Bnd (Si u):=(vn a).2
theorem Near.of_eq {s t:Nat->Rat}(h:∀n,s n=t n):Near s t:=Null.zero.congr fun n=>by rw[h];grind
theorem vq {u:Nat->Rat}(a:Bnd u):Near (fun n=>Co u n*Co u n+Si u n*Si u n) (fun _=>1):=by
 have h:=lM a a.neg;rw[re,rg]at h;have e:(Co fun n=>u n+-u n)=fun _=>(1:Rat):=funext fun n=>by
  show cs (u n+-u n) n=1;rw[show u n+-u n=0 by grind,xe]
 rw[e]at h;exact(Near.of_eq fun n=>by grind).trans h
def LBd (s t:Nat->Rat):Prop:=∀ε:Rat,0<ε->∃N,∀n,N<=n->Bd (s n) (t n+ε)
theorem LBd.sle {s t:Nat->Rat}(h:LBd s t):SLe s t:=fun d b=>by
 obtain⟨N,a⟩:=h d b;exact⟨N,fun n c=>(a n c).2⟩
theorem LBd.sge {s t:Nat->Rat}(h:LBd s t):SLe (fun n=>- t n) s:=fun f d=>by
 obtain⟨N,c⟩:=h f d;exact⟨N,fun n e=>by obtain⟨a,b⟩:=c n e;grind⟩
theorem LBd.of_Bd {s t:Nat->Rat}(N:Nat)(h:∀n,N<=n->Bd (s n) (t n)):LBd s t:=fun e d=>⟨N,fun n c=>by
 obtain⟨a,b⟩:=h n c;constructor<;>grind⟩
theorem LBd.add {s t u v:Nat->Rat}(h:LBd s t)(k:LBd u v):LBd (fun n=>s n+u n) (fun n=>t n+v n):=fun f e=>by
 obtain⟨N,g⟩:=h (f/2) (jA e);obtain⟨M,hM⟩:=k (f/2) (jA e);refine⟨max N M,fun n i=>?_⟩;obtain⟨a,b⟩:=g n (by omega);obtain⟨c,d⟩:=hM n (by omega);constructor<;>grind
theorem LBd.near {s f t:Nat->Rat}(h:LBd s t)(k:Near s f):LBd f t:=fun g e=>by
 obtain⟨N,i⟩:=h (g/2) (jA e);obtain⟨M,hM⟩:=k (g/2) (jA e);refine⟨max N M,fun n j=>?_⟩;obtain⟨a,b⟩:=i n (by omega);obtain⟨c,d⟩:=hM n (by omega);constructor<;>grind
theorem LBd.mono {s t u:Nat->Rat}(h:LBd s t)(N:Nat)(k:∀n,N<=n->t n<=u n):LBd s u:=fun d c=>by
 obtain⟨M,hM⟩:=h d c;refine⟨max N M,fun n e=>?_⟩;obtain⟨a,b⟩:=hM n (by omega);have:=k n (by omega);constructor<;>grind
theorem LBd.neg {s t:Nat->Rat}(h:LBd s t):LBd (fun n=>- s n) t:=fun f d=>by
 obtain⟨N,c⟩:=h f d;refine⟨N,fun n e=>?_⟩;obtain⟨a,b⟩:=c n e;constructor<;>grind
theorem A4 {a b:Rat}(d:0<=b)(h:a*a<=b*b):a<=b:=by
 rcases(inferInstance:Decidable (a<=b))with c|c
 ·exfalso;have e:=Wr (show 0<a-b by grind) (show 0<a by grind);have f:=mul_nn (show 0<=a-b by grind) d;grind
 ·exact c
theorem Yv {c s ε:Rat}(d:0<=ε)(h:c*c+s*s<=1+ε):Bd c (1+ε):=by
 have f:=br s;have e:=mul_nn d d;have a:=A4 (a:=c) (b:=1+ε) (by grind) (by grind);have b:=A4 (a:=-c) (b:=1+ε) (by grind) (by grind);exact⟨by grind,a⟩
theorem UW {u:Nat->Rat}(e:Bnd u):LBd (Co u) (fun _=>1)/\LBd (Si u) (fun _=>1):=by
 have h:=vq e;refine⟨fun d a=>?_,fun d a=>?_⟩
 ·obtain⟨N,b⟩:=h d a;exact⟨N,fun n c=>Yv (s:=Si u n) (Vj a) (by have:=(b n c).2;grind)⟩
 ·obtain⟨N,b⟩:=h d a;exact⟨N,fun n c=>Yv (s:=Co u n) (Vj a) (by have:=(b n c).2;grind)⟩
theorem Sl {u v:Nat->Rat}{d:Rat}(E:Bnd u)(j:Bnd v)(F:d<=1)(N:Nat)(h:∀n,N<=n->Bd (u n-v n) d) :
 LBd (fun n=>Co u n-Co v n) (fun _=>3*d)/\LBd (fun n=>Si u n-Si v n) (fun _=>3*d):=by
 have w:Bnd (fun n=>u n-v n):=E.sub j;have W:0<=d:=(h N (Vo _)).nn;have e:(fun n=>v n+(u n-v n))=u:=funext fun n=>by grind
 have A:=lM j w;have B:=lN j w;rw[e]at A B;obtain⟨D,os⟩:=UW j;have Z:d*d<=d:=by
  have:=mul_nn (a:=d) (b:=1-d) (by grind) (by grind);grind
 have z:∀n,max N 1<=n->Bd (Co (fun n=>u n-v n) n-1) d/\Bd (Si (fun n=>u n-v n) n) (2*d):=fun n C=>by
  obtain⟨⟨Q,S⟩,T,U⟩:=zo (h n (by omega)) F (n:=n) (by omega);obtain⟨w1,w2⟩:=h n (by omega);exact⟨⟨by show _<=cs (u n-v n) n-1;grind,by show cs (u n-v n) n-1<=_;grind⟩,by show _<=ss (u n-v n) n;grind,by show ss (u n-v n) n<=_;grind⟩
 have step:∀(x y X Y c:Rat),0<=c->Bd X (1+c)->Bd Y (1+c)->Bd (x-1) d->Bd y (2*d)->Bd (X*x+Y*y-X) (3*d+3*(d*c)):=fun x y X Y c e0 G H I J=>by
  obtain⟨p1,p2⟩:=G.mul I;obtain⟨q1,q2⟩:=H.mul J;constructor<;>grind
 have small:∀c:Rat,0<c->∃f:Rat,0<f/\3*(d*f)<=c/2:=fun c g=>⟨c/6,by grind,by
  have:=mul_nn (a:=1-d) (b:=c) (by grind) (Vj g);grind⟩
 refine⟨fun c g=>?_,fun c g=>?_⟩
 ·obtain⟨f,i,K⟩:=small c g;obtain⟨o,k⟩:=D f i;obtain⟨p,l⟩:=os f i;obtain⟨q,m⟩:=A (c/2) (jA g);refine⟨max (max N 1) (max o (max p q)),fun n C=>?_⟩;obtain⟨r,s⟩:=z n (by omega);have t:Bd (-(Si (fun n=>u n-v n) n)) (2*d):=by obtain⟨a,b⟩:=s;exact⟨by grind,by grind⟩
  obtain⟨L,M⟩:=step _ _ _ _ f (Vj i) (k n (by omega)) (l n (by omega)) r t;obtain⟨O,P⟩:=m n (by omega);constructor<;>grind
 ·obtain⟨f,i,K⟩:=small c g;obtain⟨o,k⟩:=D f i;obtain⟨p,l⟩:=os f i;obtain⟨q,m⟩:=B (c/2) (jA g);refine⟨max (max N 1) (max o (max p q)),fun n C=>?_⟩;obtain⟨r,s⟩:=z n (by omega);obtain⟨L,M⟩:=step _ _ _ _ f (Vj i) (l n (by omega)) (k n (by omega)) r s;obtain⟨O,P⟩:=m n (by omega);constructor<;>grind
def sg : Nat->Rat
 |0=>1
 |n+1=>- sg n
theorem UI (n:Nat):sg n=1\/sg n=-1:=by
 induction n with
 |zero=>exact .inl rfl
 |succ n a=>simp only[sg];rcases a with h|h<;>rw[h]<;>grind
theorem iX {x a:Rat}(h:Bd x a)(n:Nat):Bd (sg n*x) a:=by
 obtain⟨u,v⟩:=h;rcases UI n with e|e<;>rw[e]<;>constructor<;>grind
def jp (z:Rat)(k:Nat):Rat:=sg k*lt z k
def bJ (z:Rat)(n:Nat):Rat:=ps (jp z) n
def ga (z:Rat)(n:Nat):Rat:=ps (fun k=>sg k*ev z k) n
theorem TA (z:Rat)(n:Nat):(1+z*z)*ga z n=1-sg (n+1)*ev z (n+1):=by
 unfold ga;induction n with
 |zero=>simp only[ps,ev,sg];grind
 |succ n a=>rw[ps,Rat.mul_add,a];simp only[ev,sg];grind
theorem rh (z:Rat)(n:Nat):bJ (-z) n=- bJ z n:=by
 unfold bJ;induction n with
 |zero=>show sg 0*lt (-z) 0=-(sg 0*lt z 0);rw[ou];grind
 |succ n a=>simp only[ps];rw[a];unfold jp;rw[ou];grind
theorem Kk (n:Nat):bJ 0 n=0:=by
 have:=rh 0 n;rw[show(-0:Rat)=0 by grind]at this;grind
theorem Ck {z:Rat}(f:0<=z)(g:4*z<=1)(n:Nat):15*ps (ev z) n<=16:=by
 have e:=rm z n;have p:=bH z (n+1);have q:=jX (bH z) n;have h:z*z<=1/16:=by
  have:=eD (a:=z) (b:=1/4) (c:=z) (d:=1/4) (by grind) (by grind) (by grind) f;grind
 have:=mul_nn (a:=1/16-z*z) (b:=ps (ev z) n) (by grind) q;grind
theorem KA {z w:Rat}(j:0<=z)(h:z<=w)(p:4*w<=1)(n:Nat):ps (fun k=>ev w k-ev z k) n<=w-z:=by
 have g:0<=w-z:=by grind
 have u:w*w<=1/16:=by
  have:=eD (a:=w) (b:=1/4) (c:=w) (d:=1/4) (by grind) (by grind) (by grind) (by grind);grind
 have o:w*w-z*z<=(w-z)/2:=by
  have:=mul_nn g (show 0<=1/2-(w+z) by grind);grind
 have nn:∀n,0<=ps (fun k=>ev w k-ev z k) n:=fun n=>jX (fun k=>by have:=ir j h k;grind) n
 induction n with
 |zero=>simp only[ps,ev];grind
 |succ n f=>
  rw[UF];have e:ps (fun i=>ev w (i+1)-ev z (i+1)) n=w*w*ps (fun k=>ev w k-ev z k) n+(w*w-z*z)*ps (ev z) n:=by
   clear f;induction n with
   |zero=>simp only[ps,ev];grind
   |succ n f=>simp only[ps];rw[f];simp only[ev];grind
  rw[e];have s:=Ck j (by grind) n;have m:=jX (bH z) n;have l:=nn n;have q:=mul_nn (a:=1/16-w*w) (b:=ps (fun k=>ev w k-ev z k) n) (by grind) l;have r:=mul_nn (a:=(w-z)/2-(w*w-z*z)) (b:=ps (ev z) n) (by grind) m;have t:=mul_nn g (show 0<=16/15-ps (ev z) n by grind);simp only[ev];generalize ps (fun k=>ev w k-ev z k) n=D at *
  generalize ps (ev z) n=E at *
  grind
theorem Kj {z w:Rat}(c:0<=z)(h:z<=w)(g:4*w<=1)(n:Nat):Bd (bJ w n-bJ z n-(w-z)*ga z n) ((w-z)*(w-z)):=by
 have f:0<=w-z:=by grind
 have d:Bd (bJ w n-bJ z n-(w-z)*ga z n) ((w-z)*ps (fun k=>ev w k-ev z k) n):=by
  have st:∀k,Bd (jp w k-jp z k-(w-z)*(sg k*ev z k)) ((w-z)*(ev w k-ev z k)):=fun k=>by
   have a:=mg c h k;have b:=i9 c h k;unfold jp;rcases UI k with e|e<;>rw[e]<;>constructor<;>grind
  unfold bJ ga;induction n with
  |zero=>exact st 0
  |succ n i=>
   have:=i.add (st (n+1));obtain⟨a,b⟩:=this;simp only[ps];constructor<;>grind
 have m:=mul_nn f (show 0<=(w-z)-ps (fun k=>ev w k-ev z k) n by have:=KA c h g n;grind);obtain⟨a,b⟩:=d;constructor<;>grind
theorem mh {z:Rat}(d:0<=z)(k:Nat):Bd (lt z k) (z*ev z k):=by
 have o:=gp d k;have p:=ky (2*k);have i:=Rat.inv_pos.2 p;have e:=tJ (show(0:Rat)<1 by decide) (gm (show 1<=2*k+1 by omega));have c:(1:Rat)⁻¹=1:=by grind
 rw[c]at e;rw[<-gv];unfold lt;rw[V0];have a:=mul_nn o (Vj i);have b:=mul_nn o (show 0<=1-((2*k+1:Nat):Rat)⁻¹ by grind);constructor<;>grind
theorem qj {z:Rat}(c:0<=z)(e:4*z<=1)(n:Nat):Bd (bJ z n) (16/15*z):=by
 have d:Bd (bJ z n) (z*ps (ev z) n):=by
  unfold bJ;have st:∀k,Bd (jp z k) (z*ev z k):=fun k=>iX (mh c k) k
  induction n with
  |zero=>exact st 0
  |succ n f=>
   obtain⟨a,b⟩:=f.add (st (n+1));simp only[ps];constructor<;>grind
 have:=mul_nn c (show 0<=16/15-ps (ev z) n by have:=Ck c e n;grind);obtain⟨a,b⟩:=d;constructor<;>grind
theorem qk {z:Rat}(h:Bd z (1/4))(n:Nat):Bd (bJ z n) (1/3):=by
 obtain⟨a,b⟩:=h;rcases(inferInstance:Decidable (0<=z))with hz|hz
 ·have:=qj (z:=-z) (by grind) (by grind) n;rw[rh]at this;obtain⟨c,d⟩:=this;constructor<;>grind
 ·obtain⟨c,d⟩:=qj hz (by grind) n;constructor<;>grind
def gd (z:Rat)(n m:Nat):Rat:=z*cs (bJ z n) m-ss (bJ z n) m
theorem TD (z h C S c s a b:Rat):(z+h)*(C*c-S*s+a)-(S*c+C*s+b)=(z*C-S)*(c+(z+h)*s)+C*(h*c-s-(z+h)*z*s)+((z+h)*a-b):=by grind
theorem KH {z w:Rat}(o:0<=z)(h:z<=w)(h1:4*w<=1)(n m:Nat)(hm:1<=m){K:Rat}(M:Bd (gd z n m) K) :
 Bd (gd w n m) (K*(1+2*(w-z))+(36*((w-z)*(w-z))+3*((w-z)*ev (1/4) (n+1))+2*ae 1 1 m)):=by
 have⟨d,hd⟩:∃d,d=bJ w n-bJ z n:=⟨_,rfl⟩
 have⟨q,hq⟩:∃q,q=w-z:=⟨_,rfl⟩
 have k:0<=q:=by grind
 have q1:4*q<=1:=by grind
 have st:=Kj o h h1 n;rw[<-hd,<-hq]at st;have gs:=TA z n;have τ0:=bH z (n+1);have l:=ir o (show z<=1/4 by grind) (n+1);have τ2:ev (1/4) (n+1)<=1/16:=by
  have:∀n,ev (1/4) (n+1)<=1/16:=fun n=>by
   induction n with
   |zero=>simp only[ev];grind
   |succ n ih=>rw[ev];have:=bH (1/4) (n+1);grind
  exact this n
 have⟨i,W⟩:∃i,i=ev (1/4) (n+1):=⟨_,rfl⟩
 rw[<-W]at l τ2 ⊢;have g:=br z;have Z:z*z<=1/16:=by
  have:=eD (a:=z) (b:=1/4) (c:=z) (d:=1/4) (by grind) (by grind) (by grind) o;grind
 have E:Bd ((1+z*z)*d-q) (q*i+2*(q*q)):=by
  have s:=iX (x:=ev z (n+1)) (a:=i) ⟨by grind,l⟩ (n+1);obtain⟨s1,s2⟩:=s;obtain⟨a,b⟩:=st;have e:(1+z*z)*d-q=(1+z*z)*(d-q*ga z n)-q*(sg (n+1)*ev z (n+1)):=by
   have:q*((1+z*z)*ga z n)=q*(1-sg (n+1)*ev z (n+1)):=by rw[gs]
   grind
  rw[e];have m1:=mul_nn k (show 0<=i-sg (n+1)*ev z (n+1) by grind);have m2:=mul_nn k (show 0<=i+sg (n+1)*ev z (n+1) by grind);have m3:=mul_nn (show 0<=1+z*z by grind) (show 0<=q*q-(d-q*ga z n) by grind);have m4:=mul_nn (show 0<=1+z*z by grind) (show 0<=q*q+(d-q*ga z n) by grind);have m5:=mul_nn (show 0<=1-z*z by grind) (br q);generalize sg (n+1)*ev z (n+1)=T at *
  generalize d-q*ga z n=D at *
  constructor<;>grind
 have qq:=mul_nn k (show 0<=1-4*q by grind);have qt:=mul_nn k (show 0<=1/16-i by grind);have j:Bd d (2*q):=by
  obtain⟨a,b⟩:=E;have:∀x y:Rat,0<=y->x<=y->0<=z*z->∀t,(1+z*z)*t<=y->0<=y->t<=y:=by
   intro x y _ _ _ t ht hy;rcases(inferInstance:Decidable (t<=y))with h3|h3
   ·exfalso;have:=mul_nn g (show 0<=t by grind);grind
   ·exact h3
  constructor
  ·have:=this 0 (2*q) (by grind) (by grind) g (-d) (by grind) (by grind);grind
  ·exact this 0 (2*q) (by grind) (by grind) g d (by grind) (by grind)
 have d1:2*q<=1:=by grind
 obtain⟨⟨c1,c2⟩,s1,s2⟩:=zo j d1 hm;have az:=qk (z:=z) ⟨by grind,by grind⟩ n;have p:Bd (bJ z n) 1:=by obtain⟨a,b⟩:=az;exact⟨by grind,by grind⟩
 have I:Bd d 1:=by obtain⟨a,b⟩:=j;exact⟨by grind,by grind⟩
 obtain⟨r,u⟩:=Ci p I m;have bC:=(ml p m).1;have eone:es 1 m<=3:=by have:=Uo (h:=1) (by decide) (by decide) m;grind
 obtain⟨B,H⟩:=bC;have ea:bJ z n+d=bJ w n:=by grind
 rw[ea]at r u;unfold gd at M ⊢;have⟨C,v⟩:∃C,C=cs (bJ z n) m:=⟨_,rfl⟩
 have⟨S,N⟩:∃S,S=ss (bJ z n) m:=⟨_,rfl⟩
 have⟨c,O⟩:∃c,c=cs d m:=⟨_,rfl⟩
 have⟨s,U⟩:∃s,s=ss d m:=⟨_,rfl⟩
 have⟨J,P⟩:∃f,f=cs (bJ w n) m-(C*c-S*s):=⟨_,rfl⟩
 have⟨L,Q⟩:∃f,f=ss (bJ w n) m-(S*c+C*s):=⟨_,rfl⟩
 rw[<-v,<-N,<-O,<-U]at r u;rw[<-v]at B H;rw[<-O]at c1 c2;rw[<-U]at s1 s2;rw[<-v,<-N]at M;have g1:cs (bJ w n) m=C*c-S*s+J:=by grind
 have g2:ss (bJ w n) m=S*c+C*s+L:=by grind
 have b1:Bd J (ae 1 1 m):=by obtain⟨a,b⟩:=r;exact⟨by grind,by grind⟩
 have b2:Bd L (ae 1 1 m):=by obtain⟨a,b⟩:=u;exact⟨by grind,by grind⟩
 rw[g1,g2];have hw:w=z+q:=by grind
 rw[hw,TD,<-hw,show w-z=q by grind];have η0:=b1.nn;generalize ae 1 1 m=η at *
 clear g1 g2 P Q v N O U r u st gs;generalize z*C-S=G at *
 have p1:Bd (c+w*s) (1+2*q):=by
  have m1:=mul_nn (show 0<=1/4-w by grind) (show 0<=2*q+2*q*(2*q)-s by obtain⟨a,b⟩:=j;grind);have m2:=mul_nn (show 0<=1/4-w by grind) (show 0<=2*q+2*q*(2*q)+s by obtain⟨a,b⟩:=j;grind);have m3:=mul_nn (show 0<=w by grind) (show 0<=2*q+2*q*(2*q)-s by obtain⟨a,b⟩:=j;grind);have m4:=mul_nn (show 0<=w by grind) (show 0<=2*q+2*q*(2*q)+s by obtain⟨a,b⟩:=j;grind);have m5:=mul_nn (show 0<=1/4-w by grind) (show 0<=2*q+2*q*(2*q) by grind);constructor<;>grind
 have p2:Bd (q*c-s-w*z*s) (12*(q*q)+q*i):=by
  have e:q*c-s-w*z*s=q*(c-1)-(1+w*z)*(s-d)-((1+z*z)*d-q)-q*z*d:=by grind
  rw[e];obtain⟨E1,E2⟩:=E;obtain⟨D1,D2⟩:=j;have m1:=mul_nn k (show 0<=2*q*(2*q)-(c-1) by grind);have m2:=mul_nn k (show 0<=2*q*(2*q)+(c-1) by grind);have wz0:0<=w*z:=mul_nn (by grind) o;have wz1:w*z<=1/16:=by
   have:=eD (a:=w) (b:=1/4) (c:=z) (d:=1/4) (by grind) (by grind) (by grind) o;grind
  have m3:=mul_nn (show 0<=1+w*z by grind) (show 0<=2*q*(2*q)-(s-d) by grind);have m4:=mul_nn (show 0<=1+w*z by grind) (show 0<=2*q*(2*q)+(s-d) by grind);have m5:=mul_nn (show 0<=1/16-w*z by grind) (br q);have qz:0<=q*z:=mul_nn k o;have m6:=mul_nn qz (show 0<=2*q-d by grind);have m7:=mul_nn qz (show 0<=2*q+d by grind);have m8:=mul_nn (show 0<=1/4-z by grind) (br q);have m9:=mul_nn (show 0<=1/4-q by grind) (br q);clear τ0 l g Z;generalize w*z=Y at *
  generalize (1+z*z)*d-q=F at *
  constructor<;>grind
 have p3:=M.mul p1;have A:Bd C 3:=⟨by grind,by grind⟩
 have p4:=A.mul p2;have p5:Bd (w*J-L) (2*η):=by
  have bw:Bd w 1:=⟨by grind,by grind⟩
  obtain⟨a1,a2⟩:=bw.mul b1;obtain⟨a3,a4⟩:=b2;exact⟨by grind,by grind⟩
 obtain⟨r1,r2⟩:=(p3.add p4).add p5;constructor<;>grind
theorem xR {Z q:Rat}(n m:Nat)(f:1<=m)(d:0<=q)(h:4*Z<=1):∀j:Nat,(j:Rat)*q<=Z ->
 Bd (gd ((j:Rat)*q) n m) (2*(j:Rat)*(36*(q*q)+3*(q*ev (1/4) (n+1))+2*ae 1 1 m))
 |0,_=>by
  have g:((0:Nat):Rat)=0:=rfl;rw[g,Xr];unfold gd;rw[Kk,yA];constructor<;>grind
 |j+1,i=>by
  rw[fk]at i ⊢;have l:=bL j;have o:=mul_nn l d;have k:=xR n m f d h j (by grind);have st:=KH o (show(j:Rat)*q<=((j:Rat)+1)*q by grind) (by grind) n m f k;rw[show((j:Rat)+1)*q-(j:Rat)*q=q by grind]at st;have e:0<=36*(q*q)+3*(q*ev (1/4) (n+1))+2*ae 1 1 m:=by
   have a:=br q;have b:=mul_nn d (bH (1/4) (n+1));have c:=((Ci (x:=1) (y:=1) (a:=1) (b:=1) ⟨by grind,by grind⟩ ⟨by grind,by grind⟩ m).1).nn;grind
  generalize 36*(q*q)+3*(q*ev (1/4) (n+1))+2*ae 1 1 m=r at *
  have p:=mul_nn e (show 0<=1-4*((j:Rat)*q) by grind);obtain⟨a,b⟩:=st;constructor<;>grind
theorem SF {ε:Rat}(l:0<ε):∃M,∀m,M<=m->∀Z,Bd Z (1/4)->Bd (Z*cs (bJ Z m) m-ss (bJ Z m) m) ε:=by
 have pos:∃M,∀m,M<=m->∀Z,0<=Z->4*Z<=1->Bd (gd Z m m) ε:=by
  have P:=Rat.inv_pos.2 l;have z:=cW l;obtain⟨N,L⟩:=kv (15*ε⁻¹+1);have o:0<(N:Rat):=by grind
  have n:=Rat.inv_pos.2 o;have i:=cW o;obtain⟨k,O⟩:=xr (Z:=1/4) (δ:=ε/6) (by grind) (by grind) (by grind);have⟨f,h⟩:∃f,f=ε*(N:Rat)⁻¹/12:=⟨_,rfl⟩
  have q:0<f:=by rw[h];have:=Wr l n;grind
  obtain⟨M,hM⟩:=sm (a:=1) (b:=1) (by decide) (by decide) f q;refine⟨max (max k M) 1,fun m p Z x F=>?_⟩;have H:ev (1/4) (m+1)<=ε/6:=by
   have:∀j,ev (1/4) (k+1+j)<=ev (1/4) (k+1):=fun j=>by
    induction j with
    |zero=>exact V2
    |succ j Q=>rw[<-Yg];simp only[ev]at *;have:=bH (1/4) (k+1+j);grind
   have t:=this (m-k);rw[show k+1+(m-k)=m+1 by omega]at t;grind
  have r:=bH (1/4) (m+1);have G:=(hM m (by omega)).2;have D:0<=Z*(N:Rat)⁻¹:=mul_nn x (Vj n);have s:(N:Rat)*(Z*(N:Rat)⁻¹)=Z:=by
   have:(N:Rat)*(Z*(N:Rat)⁻¹)=Z*((N:Rat)*(N:Rat)⁻¹):=by grind
   rw[this,i,VP]
  have g:=xR m m (by omega) D F N (by rw[s];exact V2);rw[s]at g;have S:Z*Z<=1/16:=by
   have:=eD (a:=Z) (b:=1/4) (c:=Z) (d:=1/4) (by grind) (by grind) (by grind) x;grind
  have I:2*(N:Rat)*(36*(Z*(N:Rat)⁻¹*(Z*(N:Rat)⁻¹)))<=ε/3:=by
   have e:2*(N:Rat)*(36*(Z*(N:Rat)⁻¹*(Z*(N:Rat)⁻¹)))=72*(Z*Z)*(N:Rat)⁻¹*((N:Rat)*(N:Rat)⁻¹):=by grind
   rw[e,i,VP];have B:=mul_nn (show 0<=5-72*(Z*Z) by grind) (Vj n);have w:=Vq (show 15*ε⁻¹<=(N:Rat) by grind) (Vj n);rw[i]at w;have C:=Vq w (Vj l);have y:15*ε⁻¹*(N:Rat)⁻¹*ε=15*(N:Rat)⁻¹*(ε*ε⁻¹):=by grind
   rw[y,z]at C;grind
  have J:2*(N:Rat)*(3*(Z*(N:Rat)⁻¹*ev (1/4) (m+1)))<=ε/3:=by
   have e:2*(N:Rat)*(3*(Z*(N:Rat)⁻¹*ev (1/4) (m+1)))=6*(Z*ev (1/4) (m+1))*((N:Rat)*(N:Rat)⁻¹):=by grind
   rw[e,i,VP];have:=mul_nn (show 0<=1/4-Z by grind) r;grind
  have K:2*(N:Rat)*(2*ae 1 1 m)<=ε/3:=by
   have B:=mul_nn (Vj o) (show 0<=f-ae 1 1 m by grind);have e:(N:Rat)*f=ε/12*((N:Rat)*(N:Rat)⁻¹):=by rw[h];grind
   rw[i]at e;grind
  obtain⟨u,v⟩:=g;have E:2*(N:Rat)*(36*(Z*(N:Rat)⁻¹*(Z*(N:Rat)⁻¹))+3*(Z*(N:Rat)⁻¹*ev (1/4) (m+1))+2*ae 1 1 m)<=ε:=by grind
  constructor<;>grind
 obtain⟨M,hM⟩:=pos;refine⟨M,fun m p Z A=>?_⟩;obtain⟨a,b⟩:=A;rcases(inferInstance:Decidable (0<=Z))with hz|hz
 ·have:=hM m p (-Z) (by grind) (by grind);unfold gd at this;rw[rh,vF,oz]at this;obtain⟨u,v⟩:=this;constructor<;>grind
 ·exact hM m p Z hz (by grind)
def Dir (u a b:Nat->Rat):Prop:=Near (fun n=>a n*Si u n) (fun n=>b n*Co u n)
theorem Null.mul_left {s t:Nat->Rat}(a:Bnd s)(b:Null t):Null (fun n=>s n*t n):=(b.mul a).congr fun n=>by grind
theorem Dir.add {u v a b c d:Nat->Rat}(e:Bnd u)(f:Bnd v)(g:Bnd a)(i:Bnd b)(j:Bnd c)(l:Bnd d)(h:Dir u a b)(k:Dir v c d) :
 Dir (fun n=>u n+v n) (fun n=>a n*c n-b n*d n) (fun n=>a n*d n+b n*c n):=by
 have s:=lM e f;have t:=lN e f;have m:=mz e;have o:=uj e;have cv:=mz f;have r:=uj f;have w:=(Near.refl (fun n=>a n*c n-b n*d n)).mul t.symm ((g.mul j).sub (i.mul l)) (t.bnd ((o.mul cv).add (m.mul r)));have x:=(Near.refl (fun n=>a n*d n+b n*c n)).mul s.symm ((g.mul l).add (i.mul j)) (s.bnd ((m.mul cv).sub (o.mul r)));refine w.trans (Near.trans ?_ x.symm);have p:=Null.mul_left ((j.mul cv).add (l.mul r)) h;have q:=Null.mul_left ((g.mul m).add (i.mul o)) k;exact(p.add q).congr fun n=>by grind
theorem Dir.neg {u a b:Nat->Rat}(h:Dir u a b):Dir (fun n=>-u n) a (fun n=>-b n):=by
 unfold Dir at *
 rw[rg,re];exact(Null.neg h).congr fun n=>by grind
def At (z:Nat->Rat):Nat->Rat:=fun n=>bJ (z n) n
theorem BY {z:Nat->Rat}{N:Nat}(h:∀n,N<=n->Bd (z n) (1/4))(n:Nat)(a:N<=n):Bd (At z n) (1/3):=qk (h n a) n
theorem rd {z:Nat->Rat}{N:Nat}(h:∀n,N<=n->Bd (z n) (1/4)):Bnd (At z):=⟨1/3,N,fun n a=>BY h n a⟩
theorem Sf {z:Nat->Rat}{N:Nat}(h:∀n,N<=n->Bd (z n) (1/4)):Dir (At z) (fun _=>1) z:=by
 intro d c;obtain⟨M,hM⟩:=SF c;refine⟨max N M,fun n e=>?_⟩;obtain⟨a,b⟩:=hM n (by omega) (z n) (h n (by omega));show Bd (1*ss (bJ (z n) n) n-z n*cs (bJ (z n) n) n) d;constructor<;>grind
theorem wK {p q:Rat}(h:Bd (p/q) (1/4))(a:0<q):Dir (At fun _=>p/q) (fun _=>q) (fun _=>p):=by
 have k:=Sf (z:=fun _=>p/q) (N:=0) (fun _ _=>h);have:=Null.mul_left (Bnd.const q) k;refine this.congr fun n=>?_
 have m:=cW a;have e:q*(p/q)=p:=by
  rw[V0];have:q*(p*q⁻¹)=p*(q*q⁻¹):=by grind
  rw[this,m,VP]
 show q*(1*Si (At fun _=>p/q) n-p/q*Co (At fun _=>p/q) n)=q*Si (At fun _=>p/q) n-p*Co (At fun _=>p/q) n;grind
theorem wW {z:Rat}(c:0<=z)(g:4*z<=1)(n:Nat):Bd (bJ z n-z) (16/15*(z*(z*z))):=by
 cases n with
 |zero=>
  show Bd (sg 0*lt z 0-z) _;have e:lt z 0=z:=by unfold lt;simp only[od];rw[show((2*0+1:Nat):Rat)=1 from rfl];grind
  rw[e];simp only[sg];have:=mul_nn c (br z);constructor<;>grind
 |succ n=>
  have d:Bd (bJ z (n+1)-z) (z*(z*z)*ps (ev z) n):=by
   have f:jp z 0=z:=by unfold jp lt;simp only[od,sg];rw[show((2*0+1:Nat):Rat)=1 from rfl];grind
   have st:∀k,Bd (jp z (k+1)) (z*(z*z)*ev z k):=fun k=>by
    have:=iX (mh c (k+1)) (k+1);simp only[ev]at this;obtain⟨a,b⟩:=this;exact⟨by unfold jp;grind,by unfold jp;grind⟩
   unfold bJ;rw[UF,f];induction n with
   |zero=>
    obtain⟨a,b⟩:=st 0;simp only[ps]at *
    constructor<;>grind
   |succ n h=>
    obtain⟨a,b⟩:=h.add (st (n+1));simp only[ps];constructor<;>grind
  have m:=mul_nn (mul_nn c (br z)) (show 0<=16/15-ps (ev z) n by have:=Ck c g n;grind);obtain⟨a,b⟩:=d;constructor<;>grind
def e8 : Nat->Rat:=fun n=>4*bJ (1/5) n-bJ (1/239) n
def cz : Nat->Rat:=fun n=>2*e8 n
theorem n6 (n:Nat):3/2<=cz n/\cz n<=17/10:=by
 obtain⟨a,b⟩:=wW (z:=1/5) (by grind) (by grind) n;obtain⟨c,d⟩:=wW (z:=1/239) (by grind) (by grind) n;unfold cz e8;constructor<;>grind
theorem Bs : Bnd cz:=⟨17/10,0,fun n _=>by obtain⟨a,b⟩:=n6 n;exact⟨by grind,b⟩⟩
theorem SO : Bnd e8:=⟨17/10,0,fun n _=>by obtain⟨a,b⟩:=n6 n;unfold cz at a b;exact⟨by grind,by grind⟩⟩
theorem SP : Near (Si e8) (Co e8):=by
 have g:=wK (p:=1) (q:=5) ⟨by grind,by grind⟩ (by decide);have d:=(wK (p:=1) (q:=239) ⟨by grind,by grind⟩ (by decide)).neg;have f:=rd (z:=fun _=>1/5) (N:=0) (fun _ _=>⟨by grind,by grind⟩);have b:=(rd (z:=fun _=>1/239) (N:=0) (fun _ _=>⟨by grind,by grind⟩)).neg;have B:=fun c=>Bnd.const c
 have h:=g.add f f (B _) (B _) (B _) (B _) g;have a:=f.add f;have i:=h.add a a (B _) (B _) (B _) (B _) h;have t:=i.add (a.add a) b (B _) (B _) (B _) (B _) d;have e:(fun n=>At (fun _=>1/5) n+At (fun _=>1/5) n+(At (fun _=>1/5) n+At (fun _=>1/5) n)+-At (fun _=>1/239) n)=e8:=funext fun n=>by
  show bJ (1/5) n+bJ (1/5) n+(bJ (1/5) n+bJ (1/5) n)+- bJ (1/239) n=4*bJ (1/5) n-bJ (1/239) n;grind
 unfold Dir at t;rw[e]at t;exact(Null.mul_left (B (1/114244)) t).congr fun n=>by grind
theorem Tg : Near (Co cz) (fun _=>0)/\Near (Si cz) (fun _=>1):=by
 have a:=SO;have c:=lM a a;have d:=lN a a;have e:(fun n=>e8 n+e8 n)=cz:=funext fun n=>by show _=2*e8 n;grind
 rw[e]at c d;have g:=mz a;have b:=uj a;have sc:=SP;have q:=vq a;have f:=sc.mul sc b b;have p2:=sc.mul (Near.refl (Co e8)) b g;have h:Near (fun n=>Co e8 n*Co e8 n-Si e8 n*Si e8 n) (fun _=>0):=(Null.neg f).congr fun n=>by grind
 have i:Near (fun n=>Si e8 n*Co e8 n+Co e8 n*Si e8 n) (fun _=>1):=(((Null.add p2 p2).add q).sub f).congr fun n=>by grind
 exact⟨c.symm.trans h,d.symm.trans i⟩
theorem q5u {v:Nat->Rat}(b:Bnd v):Near (Co fun n=>v n+cz n) (fun n=>- Si v n)/\Near (Si fun n=>v n+cz n) (Co v):=by
 obtain⟨c,s⟩:=Tg;have a:=Bs;have j:=lM b a;have k:=lN b a;have d:=mz b;have e:=uj b;have f:=(Near.refl (Co v)).mul c d (mz a);have g:=(Near.refl (Si v)).mul s e (uj a);have h:=(Near.refl (Si v)).mul c e (mz a);have i:=(Near.refl (Co v)).mul s d (uj a);exact⟨j.symm.trans ((f.sub g).congr fun n=>by grind),k.symm.trans ((h.add i).congr fun n=>by grind)⟩
theorem R8 {v:Nat->Rat}(c:Bnd v):Near (Co fun n=>v n-cz n) (Si v)/\Near (Si fun n=>v n-cz n) (fun n=>- Co v n):=by
 obtain⟨a,b⟩:=q5u (v:=fun n=>v n-cz n) (c.sub Bs);have e:(fun n=>v n-cz n+cz n)=v:=funext fun n=>by grind
 rw[e]at a b;exact⟨b.symm,a.neg.symm.congr fun n=>by grind⟩
def cI (k:Int):Rat:=c4 (k%4).toNat
def sI (k:Int):Rat:=s4 (k%4).toNat
theorem Dw (k:Int):(k%4=0/\cI k=1/\sI k=0)\/(k%4=1/\cI k=0/\sI k=1)\/(k%4=2/\cI k=-1/\sI k=0)\/(k%4=3/\cI k=0/\sI k=-1):=by
 unfold cI sI;have a:c4 1=0:=by rw[iz,ke];grind
 have c:s4 1=1:=by rw[gN,kC]
 have b:c4 2=-1:=by rw[iz,c]
 have d:s4 2=0:=by rw[gN,a]
 have e:c4 3=0:=by rw[iz,d];grind
 have f:s4 3=-1:=by rw[gN,b]
 rcases(by omega:k%4=0\/k%4=1\/k%4=2\/k%4=3)with h|h|h|h<;>rw[h]
 ·exact .inl ⟨rfl,kC,ke⟩
 ·exact .inr (.inl ⟨rfl,a,c⟩)
 ·exact .inr (.inr (.inl ⟨rfl,b,d⟩))
 ·exact .inr (.inr (.inr ⟨rfl,e,f⟩))
theorem xa (k:Int):cI (k+1)=- sI k/\sI (k+1)=cI k:=by
 rcases Dw k with ⟨h,a,b⟩|⟨h,a,b⟩|⟨h,a,b⟩|⟨h,a,b⟩<;>rcases Dw (k+1)with ⟨e,c,d⟩|⟨e,c,d⟩|⟨e,c,d⟩|⟨e,c,d⟩ <;>
  first| (exfalso;omega)| (rw[a,b,c,d];constructor<;>grind)
theorem z6 {v:Nat->Rat}(g:Bnd v)(k:Int) :
 Near (Co fun n=>v n+(k:Rat)*cz n) (fun n=>cI k*Co v n-sI k*Si v n)/\Near (Si fun n=>v n+(k:Rat)*cz n) (fun n=>sI k*Co v n+cI k*Si v n):=by
 have f:∀j:Int,Bnd fun n=>v n+(j:Rat)*cz n:=fun j=>g.add ((Bnd.const _).mul Bs)
 have B:=fun c=>Bnd.const c
 have up:∀j:Int,(Near (Co fun n=>v n+(j:Rat)*cz n) (fun n=>cI j*Co v n-sI j*Si v n)/\Near (Si fun n=>v n+(j:Rat)*cz n) (fun n=>sI j*Co v n+cI j*Si v n)) ->
  (Near (Co fun n=>v n+((j+1:Int):Rat)*cz n) (fun n=>cI (j+1)*Co v n-sI (j+1)*Si v n)/\Near (Si fun n=>v n+((j+1:Int):Rat)*cz n) (fun n=>sI (j+1)*Co v n+cI (j+1)*Si v n)):=by
  intro j ⟨a,b⟩;obtain⟨p,q⟩:=q5u (f j);have e:(fun n=>v n+(j:Rat)*cz n+cz n)=fun n=>v n+((j+1:Int):Rat)*cz n:=funext fun n=>by
   rw[Wg,show((1:Int):Rat)=1 from rfl];grind
  rw[e]at p q;obtain⟨r,t⟩:=xa j;rw[r,t];exact⟨p.trans (b.neg.trans (Near.of_eq fun n=>by grind)),q.trans (a.trans (Near.of_eq fun n=>by grind))⟩
 have down:∀j:Int,(Near (Co fun n=>v n+(j:Rat)*cz n) (fun n=>cI j*Co v n-sI j*Si v n)/\Near (Si fun n=>v n+(j:Rat)*cz n) (fun n=>sI j*Co v n+cI j*Si v n)) ->
  (Near (Co fun n=>v n+((j-1:Int):Rat)*cz n) (fun n=>cI (j-1)*Co v n-sI (j-1)*Si v n)/\Near (Si fun n=>v n+((j-1:Int):Rat)*cz n) (fun n=>sI (j-1)*Co v n+cI (j-1)*Si v n)):=by
  intro j ⟨a,b⟩;obtain⟨p,q⟩:=R8 (f j);have e:(fun n=>v n+(j:Rat)*cz n-cz n)=fun n=>v n+((j-1:Int):Rat)*cz n:=funext fun n=>by
   rw[Yk,show((1:Int):Rat)=1 from rfl];grind
  rw[e]at p q;obtain⟨r,t⟩:=xa (j-1);rw[show j-1+1=j by omega]at r t;rw[r,t]at a b;exact⟨p.trans (b.trans (Near.of_eq fun n=>by grind)),q.trans (a.neg.trans (Near.of_eq fun n=>by grind))⟩
 have zero:Near (Co fun n=>v n+((0:Int):Rat)*cz n) (fun n=>cI 0*Co v n-sI 0*Si v n)/\Near (Si fun n=>v n+((0:Int):Rat)*cz n) (fun n=>sI 0*Co v n+cI 0*Si v n):=by
  have e:(fun n=>v n+((0:Int):Rat)*cz n)=v:=funext fun n=>by rw[show((0:Int):Rat)=0 from rfl];grind
  rw[e,show cI 0=1 from rfl,show sI 0=0 from rfl];exact⟨Near.of_eq fun n=>by grind,Near.of_eq fun n=>by grind⟩
 obtain⟨n,h⟩:=Int.eq_nat_or_neg k;rcases h with rfl|rfl
 ·induction n with
  |zero=>exact zero
  |succ n d=>
   rw[show((n+1:Nat):Int)=(n:Int)+1 by omega];exact up _ d
 ·induction n with
  |zero=>exact zero
  |succ n d=>
   rw[show -((n+1:Nat):Int)=-(n:Int)-1 by omega];exact down _ d
def p2 (n:Nat):Rat:=((2^n:Nat):Rat)
theorem i8 (n:Nat):(n:Rat)+1<=p2 n:=by
 have h:n+1<=2^n:=Nat.lt_two_pow_self;have:=gm h;rwa[fk]at this
theorem fh (n:Nat):0<p2 n:=by have:=i8 n;have:=bL n;grind
def rt (q:Rat)(n:Nat):Rat:=(a5 (q*(p2 n*p2 n)).floor.toNat:Rat)/p2 n
def hv (x:Rat)(n:Nat):Rat:=x/(1+rt (1+x*x) n)
theorem LS {x:Rat}{n:Nat}(u:6<=n)(e:0<=x)(q:x<=2):x/4<=ss x n:=by
 obtain⟨j,rfl⟩:=Wb u;have s:Bd x x:=⟨by grind,by grind⟩
 have r:=dH (fun i=>(cQ s i).2) (show 6<=6+j by omega);have t:=BA e (n:=6) (by rw[show((6:Nat):Rat)=6 from rfl];grind) j;have U:=di e (6+j);have h:=oB x;have k:=mL x 1;have l:=mL x 2;have o:=mL x 5;rw[show((1+1:Nat):Rat)=2 from rfl]at k;rw[show((2+1:Nat):Rat)=3 from rfl]at l;rw[show((5+1:Nat):Rat)=6 from rfl]at o;have D:=di e 5;have p:ps (st x) 6=x-tm x 3+tm x 5:=by
  have w:s4 1=1:=rfl;have y:s4 2=0:=by rw[gN,iz,ke];grind
  have A:s4 3=-1:=by rw[gN,iz,gN,kC]
  have g:s4 4=0:=by rw[gN,iz,gN,iz,ke];grind
  have B:s4 5=1:=by rw[gN,iz,gN,iz,gN,kC];grind
  have C:s4 6=0:=by rw[gN,iz,gN,iz,gN,iz,ke];grind
  simp only[ps,st];rw[ke,w,y,A,g,B,C,h];grind
 have f:∀z m,es z m=ps (tm z) m:=fun _ _=>rfl
 rw[f,f]at t;rw[p]at r;show x/4<=ps (st x) (6+j);have N:=mul_nn e (show 0<=4-x*x by
  have:=eD (a:=x) (b:=2) (c:=x) (d:=2) q q (by decide) e;grind)
 have O:=mul_nn (show 0<=2-x by grind) D;obtain⟨Q,T⟩:=r;have J:2*tm x 2=x*x:=by rw[k,h]
 have K:3*tm x 3=x*tm x 2:=l;have L:6*tm x 6=x*tm x 5:=o;clear h k l o p f s u;generalize tm x 2=F at *
 generalize tm x 3=v at *
 generalize tm x 5=G at *
 generalize tm x 6=H at *
 generalize tm x (6+j)=I at *
 generalize ps (tm x) (6+j)=P at *
 generalize ps (tm x) 6=E at *
 generalize ps (st x) (6+j)=S at *
 have M:6*v=x*(x*x):=by grind
 grind
theorem TU {c:Nat->Rat}(N:Nat)(f:∀n,N<=n->Bd (c n) 2)(h:SLe (fun _=>0) (Si c)):SLe (fun _=>0) c:=by
 intro g i;obtain⟨M,hM⟩:=h (g/4) (by grind);refine⟨max (max N M) 6,fun n j=>?_⟩;have d:=hM n (by omega);obtain⟨a,b⟩:=f n (by omega);rcases(inferInstance:Decidable (0<=c n))with hz|hz
 ·have:=LS (x:=-c n) (n:=n) (by omega) (by grind) (by grind);rw[oz]at this;have e:Si c n=ss (c n) n:=rfl;rw[e]at d;grind
 ·grind
structure Tan (t:Nat->Rat)(d:Rat):Prop where
 lo:∀n,0<=t n
 hi:∀n,t n<=17/10
 dir:Dir t (fun _=>1) (fun _=>d)
 cos:SLe (fun _=>0) (Co t)
theorem Tan.bnd {t:Nat->Rat}{d:Rat}(h:Tan t d):Bnd t:=⟨17/10,0,fun n _=>⟨by have:=h.lo n;grind,h.hi n⟩⟩
theorem Near.sle {s t:Nat->Rat}(h:Near s t):SLe s t:=h.le_left
theorem SLe.mul_nn {s t:Nat->Rat}(A:Bnd s)(E:Bnd t)(h:SLe (fun _=>0) s)(k:SLe (fun _=>0) t):SLe (fun _=>0) (fun n=>s n*t n):=by
 obtain⟨B,b0,N,m⟩:=A.pos;obtain⟨C,L,v,o⟩:=E.pos;intro c F;have⟨D,p⟩:∃D:Rat,D=B+C+1:=⟨_,rfl⟩
 have d:0<D:=by grind
 have q:=Rat.inv_pos.2 d;have r:=cW d;have⟨b,a,f,g⟩:∃b:Rat,0<b/\b<=1/\D*b<=c:=by
  have e:D*(c*D⁻¹)=c:=by rw[Wx c,<-VR,r,WB]
  rcases(inferInstance:Decidable (c*D⁻¹<=1))with l|l
  ·refine⟨1,by decide,V2,?_⟩;have:=W.mul_nn (Vj d) (show 0<=c*D⁻¹-1 by grind);grind
  ·exact⟨c*D⁻¹,Wr F q,l,by rw[e];exact V2⟩
 obtain⟨w,i⟩:=h b a;obtain⟨z,j⟩:=k b a;refine⟨max (max N v) (max w z),fun n G=>?_⟩;have u:0<=s n+b:=i n (by omega);have p2:0<=t n+b:=j n (by omega);obtain⟨H,I⟩:=m n (by omega);obtain⟨J,K⟩:=o n (by omega);show 0<=s n*t n+c;generalize s n=x at *
 generalize t n=y at *
 have M:=W.mul_nn u p2;have O:=W.mul_nn (Vj a) (show 0<=B-x by grind);have P:=W.mul_nn (Vj a) (show 0<=C-y by grind);have Q:=W.mul_nn (Vj a) (show 0<=1-b by grind);rw[p]at g;clear p d q r i j m o h k G H I J K u p2 f a;grind
theorem Tan.mono {s t:Nat->Rat}{d e:Rat}(h:Tan s d)(k:Tan t e)(w:d<=e):SLe s t:=by
 have i:=h.bnd;have j:=k.bnd;have o:=lN j i.neg;rw[rg,re]at o;have p:=Null.mul_left (mz i) k.dir;have q:=Null.mul_left (mz j) h.dir;have l:Near (fun n=>(e-d)*(Co t n*Co s n)) (Si fun n=>t n+- s n):=by
  refine Near.trans ?_ o;exact(Null.sub q p).congr fun n=>by grind
 have f:=mz i;have g:=mz j;have r:SLe (fun _=>0) (fun n=>Co t n*Co s n):=SLe.mul_nn g f k.cos h.cos;have pos:SLe (fun _=>0) (Si fun n=>t n+- s n):=by
  have m:=r.mul_left (c:=fun _=>e-d) (fun _=>by grind) (Bnd.const _);exact(SLe.of_le 0 fun n _=>by grind).trans (m.trans l.sle)
 have:=TU 0 (fun n _=>by
  have a:=h.lo n;have b:=h.hi n;have c:=k.lo n;have d:=k.hi n;exact⟨by grind,by grind⟩) pos
 intro y v;obtain⟨N,u⟩:=this y v;exact⟨N,fun n x=>by have:=u n x;grind⟩
