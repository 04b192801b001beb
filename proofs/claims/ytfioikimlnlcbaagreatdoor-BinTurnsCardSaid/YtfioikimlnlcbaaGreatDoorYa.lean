/- Parts of the proof: FpYa, FpYb, FpYc, FpYd, FpYe, FpYf. -/
import Derived.Test.YtfioikimlnlcbaaGreatDoorBd
import Derived.Test.YtfioikimlnlcbaaGreatDoorBc
import Derived.Test.YtfioikimlnlcbaaGreatDoorBa
import Derived.Test.YtfioikimlnlcbaaGreatDoorHk
import Derived.Test.YtfioikimlnlcbaaGreatDoorXa
import Derived.Test.YtfioikimlnlcbaaGreatDoorCa
namespace Go.Abs.W
theorem qje (e:Int):(0:Rat)<2^e:=Rat.zpow_pos (by decide)
theorem qk4 (a b:Int):(2:Rat)^(a+b)=2^a*2^b:=Rat.zpow_add (by decide) a b
theorem qmm (n:Nat):((2^n:Nat):Rat)=2^(n:Int):=by rw[Rat.zpow_natCast];push_cast;rfl
theorem q0v : (2:Rat)^(0:Int)=1:=rfl
theorem qxr (e:Int):(2:Rat)^e*2^(-e)=1:=by rw[<-qk4,show e+-e=0 by omega,q0v]
theorem qai1 {e:Int}(h:0<=e):(1:Rat)<=2^e:=by
 obtain⟨n,rfl⟩:∃n:Nat,e=n:=⟨e.toNat,by omega⟩
 rw[<-qmm];have h1:(1:Nat)<=2^n:=Nat.one_le_two_pow;have:=qa2 h1;simpa using this
theorem q63 {a b:Int}(h:a<=b):(2:Rat)^a<=2^b:=by
 have e:b=a+(b-a):=by omega
 rw[e,qk4];have h1:=qai1 (e:=b-a) (by omega);have h2:=qje a;have h3:=rmulL h1 (Rat.le_of_lt h2);grind
def sgq (b:Bool):Rat:=if b then -1 else 1
def Nm.mag (x:Nm):Rat:=(x.n:Rat)*2^x.e
def Nm.q (x:Nm):Rat:=sgq x.neg*x.mag
theorem qajz (x:Nm):0<=x.mag:=mul_nn (natnn x.n) (Rat.le_of_lt (qje x.e))
theorem q_val {x:Nm}{K:Int}(h:-K<=x.e):x.q=(x.val K:Rat)*2^(-K):=by
 unfold Nm.q Nm.mag Nm.val Nm.at_ sgq;have e1:x.e - -K=((x.e - -K).toNat:Int):=by omega
 have e2:(2:Rat)^x.e=2^((x.e - -K).toNat:Int)*2^(-K):=by rw[<-qk4,<-e1];congr 1;omega
 rw[e2,<-qmm];generalize (2:Rat)^(-K)=z;generalize 2^(x.e - -K).toNat=t;cases x.neg
 ·simp only[Bool.false_eq_true,if_false];have:(((x.n*t:Nat):Int):Rat)=(x.n:Rat)*(t:Rat):=by push_cast;rfl
  rw[this];grind
 ·simp only[if_true];have:((-((x.n*t:Nat):Int):Int):Rat)=-((x.n:Rat)*(t:Rat)):=by push_cast;rfl
  rw[this];grind
theorem add_q (a b:Nm):(a.add b).q=a.q+b.q:=by
 have⟨K,hK⟩:∃K,K=max (-a.e) (-b.e):=⟨_,rfl⟩
 obtain⟨h1,h2⟩:=Nm.add_val (a:=a) (b:=b) (K:=K) (by omega) (by omega);rw[q_val h2,q_val (x:=a) (K:=K) (by omega),q_val (x:=b) (K:=K) (by omega),h1]
 push_cast
 grind
theorem opp_q (x:Nm):x.opp.q=-x.q:=by
 unfold Nm.q Nm.mag Nm.opp sgq;cases x.neg<;>simp<;>grind
theorem ord_q (a b:Nm):(a.ord b<0↔a.q<b.q)/\(0<a.ord b↔b.q<a.q):=by
 have⟨K,hK⟩:∃K,K=max (-a.e) (-b.e):=⟨_,rfl⟩
 rw[Nm.ord_val (K:=K) (by omega) (by omega),q_val (x:=a) (K:=K) (by omega),q_val (x:=b) (K:=K) (by omega)];have hz:=qje (-K);generalize a.val K=u;generalize b.val K=v;generalize (2:Rat)^(-K)=z at *
 have key:∀u v:Int,u<v↔(u:Rat)*z<(v:Rat)*z:=by
  intro u v;constructor
  ·intro h;exact Rat.mul_lt_mul_of_pos_right (qaag h) hz
  ·intro h;rcases Int.lt_or_le u v with h1|h1
   ·exact h1
   ·have:=rmulR (qf3 h1) (Rat.le_of_lt hz);grind
 rw[<-key,<-key];unfold cmpI;constructor<;>(split<;>(try split)<;>omega)
def Nm.mul (a b:Nm):Nm:=⟨a.neg != b.neg,a.n*b.n,a.e+b.e⟩
def Nm.sh (x:Nm)(k:Int):Nm:=⟨x.neg,x.n,x.e+k⟩
theorem qaen (a b:Bool):sgq (a != b)=sgq a*sgq b:=by cases a<;>cases b<;>simp[sgq]<;>grind
theorem mul_q (a b:Nm):(a.mul b).q=a.q*b.q:=by
 unfold Nm.q Nm.mag Nm.mul;simp only;rw[qaen,qk4]
 push_cast
 grind
theorem sh_q (x:Nm)(k:Int):(x.sh k).q=x.q*2^k:=by
 unfold Nm.q Nm.mag Nm.sh;simp only;rw[qk4];grind
theorem qmz (n:Int):(Nm.whole n).q=n:=by
 unfold Nm.q Nm.mag Nm.whole sgq;simp only[q0v];by_cases h:n<0
 ·obtain⟨m,rfl⟩:∃m:Nat,n=-(m:Int):=⟨n.natAbs,by omega⟩
  rw[decide_eq_true h,Int.natAbs_neg,Int.natAbs_natCast]
  push_cast
  simp only[if_true];grind
 ·obtain⟨m,rfl⟩:∃m:Nat,n=(m:Int):=⟨n.toNat,by omega⟩
  rw[decide_eq_false h,Int.natAbs_natCast]
  push_cast
  try simp only[Bool.false_eq_true,if_false]
  grind
structure Cov (x:Nm)(more:Bool)(v:Rat):Prop where
 ex:∃V:Rat,v=sgq x.neg*V/\x.mag<=V/\V<=x.mag+(if more then 2^x.e else 0)
 z:x.n=0->v=0
theorem Cov.self (x:Nm):Cov x false x.q:=⟨⟨x.mag,rfl,Rat.le_refl,by have:(if(false:Bool)=true then(2:Rat)^x.e else 0)=0:=rfl;rw[this];grind⟩,fun h=>by simp[Nm.q,Nm.mag,h]⟩
theorem qadg {n:Nat}{e:Int}{more:Bool}{p:Nat}{V:Rat}(h1:(n:Rat)*2^e<=V)(h2:V<=(n:Rat)*2^e+(if more then 2^e else 0)) :
 ((cutQ n e more p false:Nat):Rat)*2^(e+cutK n e p)<=V/\V<=((cutQ n e more p true:Nat):Rat)*2^(e+cutK n e p):=by
 unfold cutQ;generalize cutK n e p=K;have hd:=Nat.div_add_mod n (2^K);have hm:=Nat.mod_lt n (Nat.two_pow_pos K);have hz:=qje e;rw[qk4,<-qmm];generalize (2:Rat)^e=z at *
 generalize hr:n%2^K=r at *
 generalize hQ:n/2^K=Q at *
 generalize 2^K=B at *
 have e1:(n:Rat)=(B:Rat)*(Q:Rat)+(r:Rat):=by rw[<-hd];push_cast;rfl
 have r0:=natnn r;have r1:(r:Rat)+1<=(B:Rat):=by have:=qa2 (show r+1<=B by omega);push_cast at this;exact this
 have b1:=rmulR r0 (Rat.le_of_lt hz);have b2:=rmulR r1 (Rat.le_of_lt hz);rw[e1]at h1 h2;refine⟨?_,?_⟩
 ·simp only[Bool.and_false,Bool.false_eq_true,if_false,Nat.add_zero];grind
 ·by_cases hc:(more ||decide (r≠0))=true
  ·rw[hc];simp only[Bool.and_self,if_true]
   push_cast
   have h3:(if more=true then z else 0)<=z:=by split<;>grind
   grind
  ·have hmf:more=false:=by cases more<;>simp at hc ⊢
   have hr0:r=0:=by
    rw[hmf]at hc;simpa using hc
   subst hmf;subst hr0;simp only[Bool.false_or,ne_eq,not_true_eq_false,decide_false,Bool.false_and,Bool.false_eq_true,if_false,Nat.add_zero]at h2 ⊢;grind
theorem cu_In {x:Nm}{more:Bool}{p:Nat}{v:Rat}(h:Cov x more v):(x.cu more p false).q<=v/\v<=(x.cu more p true).q:=by
 unfold Nm.cu;by_cases h0:x.n=0
 ·rw[if_pos h0,if_pos h0,h.z h0];have:Nm.zero.q=0:=by simp[Nm.q,Nm.mag,Nm.zero]
  rw[this];exact⟨Rat.le_refl,Rat.le_refl⟩
 ·rw[if_neg h0,if_neg h0];obtain⟨V,rfl,h1,h2⟩:=h.ex;obtain⟨c1,c2⟩:=qadg (p:=p) h1 h2;unfold Nm.q Nm.mag sgq;cases x.neg<;>simp only[bne_self_eq_false,Bool.true_bne,Bool.false_bne,Bool.not_false,Bool.false_eq_true,if_false,if_true]<;>constructor<;>grind
theorem q31 {a b:Nm}{p:Nat}(hb:b.n≠0):Cov (a.frac b p) (a.rest b p) (a.q/b.q):=by
 have⟨k,hk⟩:∃k,k=fracK a b p:=⟨_,rfl⟩
 have hbp:(0:Rat)<b.n:=by
  have:=qh8 (b.n-1);rwa[show b.n-1+1=b.n by omega]at this
 have hd:=Nat.div_add_mod (a.n*2^k) b.n;have hm:=Nat.mod_lt (a.n*2^k) (show 0<b.n by omega);have⟨F,hF⟩:∃F,F=a.n*2^k/b.n:=⟨_,rfl⟩
 have⟨R,hR⟩:∃R,R=a.n*2^k%b.n:=⟨_,rfl⟩
 rw[<-hF,<-hR]at hd;rw[<-hR]at hm;have hfr:a.frac b p=⟨a.neg != b.neg,F,a.e-b.e-k⟩:=by unfold Nm.frac;rw[<-hk,<-hF]
 have hre:a.rest b p=decide (R≠0):=by unfold Nm.rest;rw[<-hk,<-hR]
 rw[hfr,hre];have e1:(a.n:Rat)*2^(k:Int)=(b.n:Rat)*F+R:=by
  rw[<-qmm];have:=congrArg (fun n:Nat=>(n:Rat)) hd
  push_cast at this ⊢
  grind
 have hzk:=qje (k:Int);have hzb:=qje b.e;have hza:=qje a.e;have hz:=qje (a.e-b.e-k);have e2:(2:Rat)^a.e=2^(a.e-b.e-k)*2^b.e*2^(k:Int):=by rw[<-qk4,<-qk4];congr 1;omega
 have hbm:b.mag≠0:=by
  have:=Rat.mul_pos hbp hzb;unfold Nm.mag;grind
 have hq:a.q/b.q=sgq (a.neg != b.neg)*(a.mag/b.mag):=by
  unfold Nm.q;rw[qaen];have hs:sgq b.neg=1\/sgq b.neg=-1:=by cases b.neg<;>simp[sgq]
  rcases hs with h|h<;>rw[h]<;>grind
 have hV:a.mag/b.mag*b.n=((b.n:Rat)*F+R)*2^(a.e-b.e-k):=by
  have:a.mag/b.mag*b.mag=a.mag:=Rat.div_mul_cancel hbm;unfold Nm.mag at this ⊢;rw[e2]at this ⊢;rw[<-e1];generalize (2:Rat)^(a.e-b.e-k)=z at *
  generalize (2:Rat)^b.e=zb at *
  generalize (2:Rat)^(k:Int)=zk at *
  grind
 have z0:a.n=0->a.q/b.q=0:=by
  intro h;have:a.q=0:=by simp[Nm.q,Nm.mag,h]
  rw[this];grind
 have r0:=natnn R;have r1:(R:Rat)+1<=(b.n:Rat):=by have:=qa2 (show R+1<=b.n by omega);push_cast at this;exact this
 have fin1:(F:Rat)*2^(a.e-b.e-k)*b.n<=a.mag/b.mag*b.n:=by
  rw[hV];have:=rmulR r0 (Rat.le_of_lt hz);grind
 have fin2:a.mag/b.mag*b.n<=((F:Rat)*2^(a.e-b.e-k)+(if decide (R≠0)=true then 2^(a.e-b.e-k)else 0))*b.n:=by
  rw[hV];by_cases hR0:R=0
  ·subst hR0;simp only[ne_eq,not_true_eq_false,decide_false,Bool.false_eq_true,if_false];grind
  ·simp only[ne_eq,hR0,not_false_eq_true,decide_true,if_true];have:=rmulR r1 (Rat.le_of_lt hz);grind
 refine⟨⟨a.mag/b.mag,hq,Rat.le_of_mul_le_mul_right fin1 hbp,Rat.le_of_mul_le_mul_right fin2 hbp⟩,?_⟩;intro hF0;simp only at hF0;refine z0 (Classical.byContradiction fun ha=>?_);have:=qst (a:=a) (b:=b) (p:=p) ha hb;rw[<-hk,<-hF,hF0,qaw]at this;omega
structure Sp.In (x:Sp)(v:Rat):Prop where
 lo:x.lo.q<=v
 hi:v<=x.hi.q
theorem qz_In {a b:Nm}{p:Nat}(hb:b.n≠0):(qz (a,b) p).In (a.q/b.q):=by
 have:=cu_In (p:=p) (q31 (a:=a) (b:=b) (p:=p) hb);exact⟨this.1,this.2⟩
theorem q79 (o z:Sp):(qstep o z).lo.q<=o.lo.q/\(qstep o z).lo.q<=z.lo.q/\o.hi.q<=(qstep o z).hi.q/\z.hi.q<=(qstep o z).hi.q:=by
 unfold qstep;have h1:=(ord_q z.lo o.lo).1;have h2:=(ord_q z.hi o.hi).2;simp only;refine⟨?_,?_,?_,?_⟩<;>split<;>grind
theorem qaeu (c:Nat->Nm × Nm)(p:Nat):∀i j,j<=i->(qacc c p i).lo.q<=(qz (c j) p).lo.q/\(qz (c j) p).hi.q<=(qacc c p i).hi.q
 |0,j,h=>by
  obtain rfl:j=0:=by omega
  exact⟨Rat.le_refl,Rat.le_refl⟩
 |i+1,j,h=>by
  obtain⟨h1,h2,h3,h4⟩:=q79 (qacc c p i) (qz (c (i+1)) p);rcases Nat.lt_or_ge i j with hj|hj
  ·obtain rfl:j=i+1:=by omega
   exact⟨h2,h4⟩
  ·obtain⟨k1,k2⟩:=qaeu c p i j hj;exact⟨Rat.le_trans h1 k1,Rat.le_trans k2 h3⟩
theorem n_ne {x:Nm}(h:x.q≠0):x.n≠0:=by
 intro h0;apply h;simp[Nm.q,Nm.mag,h0]
theorem q3g {x y:Sp}{p:Nat}{a b:Rat}(hx:x.In a)(hy:y.In b)(hs:0<y.lo.q\/y.hi.q<0):(x.quo y p).In (a/b):=by
 have hlh:y.lo.q<=y.hi.q:=Rat.le_trans hy.lo hy.hi;have y1:y.lo.n≠0:=n_ne (by rcases hs with h|h<;>grind);have y2:y.hi.n≠0:=n_ne (by rcases hs with h|h<;>grind);have key:∀j,j<=3->(x.quo y p).lo.q<=(x.cor y j).1.q/(x.cor y j).2.q/\(x.cor y j).1.q/(x.cor y j).2.q<=(x.quo y p).hi.q:=by
  intro j hj;obtain⟨k1,k2⟩:=qaeu (x.cor y) p 3 j hj;have hn:(x.cor y j).2.n≠0:=by
   obtain rfl|rfl|rfl|rfl:j=0\/j=1\/j=2\/j=3:=by omega
   all_goals first|exact y1|exact y2
  have hz:=qz_In (a:=(x.cor y j).1) (b:=(x.cor y j).2) (p:=p) hn;exact⟨Rat.le_trans k1 hz.lo,Rat.le_trans hz.hi k2⟩
 have k0:=key 0 (by omega);have k1:=key 1 (by omega);have k2:=key 2 (by omega);have k3:=key 3 (by omega);simp only[Sp.cor]at k0 k1 k2 k3;rw[Rat.div_def]at k0 k1 k2 k3;have hinv:(y.hi.q)⁻¹<=b⁻¹/\b⁻¹<=(y.lo.q)⁻¹:=by
  rcases hs with h|h
  ·exact⟨q1b (by have:=hy.lo;grind) hy.hi,q1b h hy.lo⟩
  ·exact⟨qrq h hy.hi,qrq (by have:=hy.hi;grind) hy.lo⟩
 have m1:=qm0 hx.lo hx.hi hinv.1 hinv.2;have m2:=qm1 hx.lo hx.hi hinv.1 hinv.2;rw[Rat.div_def];refine⟨?_,?_⟩
 ·rcases m1 with h|h|h|h;all_goals grind
 ·rcases m2 with h|h|h|h;all_goals grind
def pstep (o:Sp)(z:Nm):Sp:=⟨if z.ord o.lo<0 then z else o.lo,if 0<z.ord o.hi then z else o.hi⟩
def pacc (c:Nat->Nm × Nm):Nat->Sp
 |0=>⟨(c 0).1.mul (c 0).2,(c 0).1.mul (c 0).2⟩
 |i+1=>pstep (pacc c i) ((c (i+1)).1.mul (c (i+1)).2)
def Sp.rnd (x:Sp)(p:Nat):Sp:=⟨x.lo.cu false p false,x.hi.cu false p true⟩
def Sp.prod (x y:Sp)(p:Nat):Sp:=(pacc (x.cor y) 3).rnd p
def Sp.sum (x y:Sp)(p:Nat):Sp:=Sp.rnd ⟨x.lo.add y.lo,x.hi.add y.hi⟩ p
def Sp.opp (x:Sp):Sp:=⟨x.hi.opp,x.lo.opp⟩
def Sp.scl (x:Sp)(k:Int):Sp:=⟨x.lo.sh k,x.hi.sh k⟩
def Sp.top (x:Sp):Nm:=if 0<x.lo.opp.ord x.hi then x.lo.opp else x.hi
def Sp.ar (x:Sp):Sp:=⟨x.top.opp,x.top⟩
def Sp.pt (a:Nm):Sp:=⟨a,a⟩
theorem rnd_q (x:Sp)(p:Nat):(x.rnd p).lo.q<=x.lo.q/\x.hi.q<=(x.rnd p).hi.q:=⟨(cu_In (Cov.self x.lo)).1,(cu_In (Cov.self x.hi)).2⟩
theorem q1a {x:Sp}{p:Nat}{v:Rat}(h:x.In v):(x.rnd p).In v:=⟨Rat.le_trans (rnd_q x p).1 h.lo,Rat.le_trans h.hi (rnd_q x p).2⟩
theorem qpc {x y:Sp}{p:Nat}{a b:Rat}(hx:x.In a)(hy:y.In b):(x.sum y p).In (a+b):=by
 refine q1a ⟨?_,?_⟩
 ·simp only[add_q];have:=hx.lo;have:=hy.lo;grind
 ·simp only[add_q];have:=hx.hi;have:=hy.hi;grind
theorem qpf {x:Sp}{a:Rat}(hx:x.In a):x.opp.In (-a):=by
 refine⟨?_,?_⟩
 ·simp only[Sp.opp,opp_q];have:=hx.hi;grind
 ·simp only[Sp.opp,opp_q];have:=hx.lo;grind
theorem q7z {x:Sp}{a:Rat}(k:Int)(hx:x.In a):(x.scl k).In (a*2^k):=by
 have hz:=Rat.le_of_lt (qje k);refine⟨?_,?_⟩
 ·simp only[Sp.scl,sh_q];exact rmulR hx.lo hz
 ·simp only[Sp.scl,sh_q];exact rmulR hx.hi hz
theorem qn9 (a:Nm):(Sp.pt a).In a.q:=⟨Rat.le_refl,Rat.le_refl⟩
theorem qagq (o:Sp)(z:Nm):(pstep o z).lo.q<=o.lo.q/\(pstep o z).lo.q<=z.q/\o.hi.q<=(pstep o z).hi.q/\z.q<=(pstep o z).hi.q:=by
 unfold pstep;have h1:=(ord_q z o.lo).1;have h2:=(ord_q z o.hi).2;simp only;refine⟨?_,?_,?_,?_⟩<;>split<;>grind
theorem qyo (c:Nat->Nm × Nm):∀i j,j<=i->(pacc c i).lo.q<=(c j).1.q*(c j).2.q/\(c j).1.q*(c j).2.q<=(pacc c i).hi.q
 |0,j,h=>by
  obtain rfl:j=0:=by omega
  unfold pacc;simp only[mul_q];exact⟨Rat.le_refl,Rat.le_refl⟩
 |i+1,j,h=>by
  obtain⟨h1,h2,h3,h4⟩:=qagq (pacc c i) ((c (i+1)).1.mul (c (i+1)).2);rw[mul_q]at h2 h4;rcases Nat.lt_or_ge i j with hj|hj
  ·obtain rfl:j=i+1:=by omega
   exact⟨h2,h4⟩
  ·obtain⟨k1,k2⟩:=qyo c i j hj;exact⟨Rat.le_trans h1 k1,Rat.le_trans k2 h3⟩
theorem qoa {x y:Sp}{p:Nat}{a b:Rat}(hx:x.In a)(hy:y.In b):(x.prod y p).In (a*b):=by
 have k0:=qyo (x.cor y) 3 0 (by omega);have k1:=qyo (x.cor y) 3 1 (by omega);have k2:=qyo (x.cor y) 3 2 (by omega);have k3:=qyo (x.cor y) 3 3 (by omega);simp only[Sp.cor]at k0 k1 k2 k3;have m1:=qm0 hx.lo hx.hi hy.lo hy.hi;have m2:=qm1 hx.lo hx.hi hy.lo hy.hi;refine q1a ⟨?_,?_⟩
 ·rcases m1 with h|h|h|h;all_goals grind
 ·rcases m2 with h|h|h|h;all_goals grind
theorem qafk {x:Sp}{v u:Rat}(hx:x.In v)(h:Bd u v\/Bd u (-v)):x.ar.In u:=by
 have ht:-x.lo.q<=x.top.q/\x.hi.q<=x.top.q:=by
  unfold Sp.top;have:=(ord_q x.lo.opp x.hi).2;rw[opp_q]at this;split
  ·rw[opp_q];grind
  ·grind
 have h1:=hx.lo;have h2:=hx.hi;unfold Sp.ar;refine⟨?_,?_⟩
 ·simp only[opp_q];rcases h with ⟨a,b⟩|⟨a,b⟩<;>grind
 ·rcases h with ⟨a,b⟩|⟨a,b⟩<;>grind
structure Nm.S (x:Nm)(w:Nat)(l t:Int):Prop where
 b:bitL x.n<=w
 l:l<=x.e
 t:bitL x.n+x.e<=t
structure Sp.S (x:Sp)(w:Nat)(l t:Int):Prop where
 lo:x.lo.S w l t
 hi:x.hi.S w l t
theorem Nm.S.mono {x:Nm}{w w':Nat}{l l' t t':Int}(h:x.S w l t)(hw:w<=w')(hl:l'<=l)(ht:t<=t'):x.S w' l' t':=⟨Nat.le_trans h.b hw,by have:=h.l;omega,by have:=h.t;omega⟩
theorem Sp.S.mono {x:Sp}{w w':Nat}{l l' t t':Int}(h:x.S w l t)(hw:w<=w')(hl:l'<=l)(ht:t<=t'):x.S w' l' t':=⟨h.lo.mono hw hl ht,h.hi.mono hw hl ht⟩
theorem Nm.S.B {x:Nm}{w:Nat}{l t:Int}(h:x.S w l t)(hw:w<=300000)(hl:-100000<=l)(ht:t<=100000):x.B:=by
 refine⟨?_,by have:=h.l;omega,by have:=h.t;omega⟩;have h1:x.n<2^bitL x.n:=qbw _;exact qo2 h1 (by have:=h.b;omega)
theorem qvg {n:Nat}{e:Int}{more:Bool}{p:Nat}{out:Bool}(hp:0<p):bitL (cutQ n e more p out)<=p+1/\((bitL (cutQ n e more p out):Int)+(e+cutK n e p)<=bitL n+e+1\/(bitL (cutQ n e more p out):Int)+(e+cutK n e p)<=0):=by
 refine⟨qax (Nat.lt_of_le_of_lt qw7 (Nat.pow_lt_pow_right (by omega) (by omega))),?_⟩;have h2:bitL (cutQ n e more p out)<=bitL (n/2^cutK n e p)+1:=by
  unfold cutQ;have h3:=qo9 (k:=max (bitL (n/2^cutK n e p)) (bitL (if((more ||decide (n%2^cutK n e p≠0))&&out)=true then 1 else 0))) (Nat.le_max_left _ _) (Nat.le_max_right _ _);have h4:bitL (if((more ||decide (n%2^cutK n e p≠0))&&out)=true then 1 else 0)<=1:=by split<;>decide
  by_cases h0:n/2^cutK n e p=0
  ·rw[h0,qaw,Nat.zero_add];exact h4
  ·have:=qar h0;omega
 rcases Nat.lt_or_ge (cutK n e p) (bitL n)with h|h
 ·have h0:n≠0:=by intro h0;rw[h0,qaw]at h;omega
  have h5:=(qar h0).1;have h6:2^cutK n e p<=n:=Nat.le_trans (Nat.pow_le_pow_right (by omega) (by omega)) h5;have:=qei h6;omega
 ·have h5:n/2^cutK n e p=0:=Nat.div_eq_of_lt (Nat.lt_of_lt_of_le (qbw n) (Nat.pow_le_pow_right (by omega) h));rw[h5,qaw]at h2;by_cases h0:n=0
  ·subst h0;have hb:=qaw;unfold cutK at *
   omega
  ·have:=(qar h0).2.2;unfold cutK at *
   omega
theorem cu_S {x:Nm}{w:Nat}{l t:Int}{more:Bool}{p:Nat}{up:Bool}(h:x.S w l t)(hp:0<p)(ht:0<=t):(x.cu more p up).S (p+1) (-16384) (t+1):=by
 unfold Nm.cu;by_cases h0:x.n=0
 ·rw[if_pos h0];exact⟨by simp[Nm.zero,qaw],by simp[Nm.zero],by simp[Nm.zero,qaw];omega⟩
 ·rw[if_neg h0];obtain⟨h1,h2⟩:=qvg (n:=x.n) (e:=x.e) (more:=more) (p:=p) (out:=x.neg != up) hp;have h3:=h.t;refine⟨h1,?_,?_⟩
  ·simp only;unfold cutK;omega
  ·simp only;omega
theorem qle {x:Nm}{w:Nat}{l t:Int}{more:Bool}{p:Nat}{out:Bool}(h:x.S w l t)(hp:0<p)(ht:0<=t)(ht2:t<=16383):(bitL (cutQ x.n x.e more p out):Int)+(x.e+cutK x.n x.e p)<=16384:=by
 obtain⟨h1,h2⟩:=qvg (n:=x.n) (e:=x.e) (more:=more) (p:=p) (out:=out) hp;have h3:=h.t;omega
theorem at_S {x:Nm}{w:Nat}{l t e:Int}(h:x.S w l t)(he:e<=x.e):(bitL (x.at_ e):Int)<=max (t-e) 0:=by
 unfold Nm.at_;have h1:=qxd (n:=x.n) (s:=(x.e-e).toNat);have h2:=h.t;by_cases h0:x.n=0
 ·rw[h0,Nat.zero_mul,qaw];omega
 ·omega
theorem add_S {x y:Nm}{w w':Nat}{l t:Int}(hx:x.S w l t)(hy:y.S w' l t)(ht:l<=t):(x.add y).S (max (max w w') ((t-l).toNat+1)) l (t+1):=by
 unfold Nm.add;split
 ·exact hy.mono (by omega) (by omega) (by omega)
 split
 ·exact hx.mono (by omega) (by omega) (by omega)
 rename_i a0 b0;have⟨m,hm⟩:∃m,m=min x.e y.e:=⟨_,rfl⟩
 rw[<-hm];have ex:=hx.l;have ey:=hy.l;have tx:=hx.t;have ty:=hy.t;have bx:=(qar a0).2.2;have bx2:=(qar b0).2.2;have sx:=at_S (e:=m) hx (by omega);have sy:=at_S (e:=m) hy (by omega);have sz:=qo9 (a:=x.at_ m) (b:=y.at_ m) (k:=(t-m).toNat) (by omega) (by omega);have c1:∀n,n<=x.at_ m+y.at_ m->∀s:Bool,(Nm.mk s n m).S (max (max w w') ((t-l).toNat+1)) l (t+1):=by
  intro n hn s;have h1:=qd1 hn;refine⟨?_,?_,?_⟩<;>simp only<;>omega
 split
 ·exact c1 _ (Nat.le_refl _) _
 split
 ·exact c1 _ (by omega) _
 ·exact c1 _ (by omega) _
theorem opp_S {x:Nm}{w:Nat}{l t:Int}(h:x.S w l t):x.opp.S w l t:=⟨h.b,h.l,h.t⟩
theorem mul_S {x y:Nm}{w w':Nat}{l l' t t':Int}(hx:x.S w l t)(hy:y.S w' l' t'):(x.mul y).S (w+w') (l+l') (t+t'):=by
 have h1:=qmh (a:=x.n) (b:=y.n);have:=hx.b;have:=hy.b;have:=hx.l;have:=hy.l;have:=hx.t;have:=hy.t;unfold Nm.mul;refine⟨?_,?_,?_⟩<;>simp only<;>omega
theorem sh_S {x:Nm}{w:Nat}{l t k:Int}(h:x.S w l t):(x.sh k).S w (l+k) (t+k):=by
 have:=h.b;have:=h.l;have:=h.t;unfold Nm.sh;refine⟨?_,?_,?_⟩<;>simp only<;>omega
theorem qri {n:Int}(h1:-1073741824<=n)(h2:n<=1073741824):(Nm.whole n).S 31 0 31:=by
 have hb:(Nm.whole n).n<2^31:=by unfold Nm.whole;simp only;omega
 have:=qax hb;exact⟨this,by simp[Nm.whole],by simp[Nm.whole]at this ⊢;omega⟩
theorem q30 {a b:Nm}{w:Nat}{l t t':Int}{p:Nat}(ha:a.S w l t)(hb:(bitL b.n:Int)+b.e<=t')(h1:1<=(bitL b.n:Int)+b.e)(hn:b.n≠0) :
 (a.frac b p).S (w+p+4) (l-t'-p-3) (max t 0):=by
 have⟨k,hk⟩:∃k,k=fracK a b p:=⟨_,rfl⟩
 have hk2:k=p+3+bitL b.n-bitL a.n:=hk;have hfr:a.frac b p=⟨a.neg != b.neg,a.n*2^k/b.n,a.e-b.e-k⟩:=by unfold Nm.frac;rw[<-hk]
 rw[hfr];have xb:=ha.b;have xl:=ha.l;have xt:=ha.t;have bp:=(qar hn).2.2;have hF:bitL (a.n*2^k/b.n)+bitL b.n<=bitL a.n+k+1:=by
  have h2:a.n*2^k/b.n<2^(bitL a.n+k-(bitL b.n-1)):=by
   rw[Nat.div_lt_iff_lt_mul (by omega)];have h3:a.n*2^k<2^(bitL a.n+k):=by
    rw[Nat.pow_add];exact Nat.mul_lt_mul_of_pos_right (qbw a.n) (Nat.two_pow_pos k)
   refine Nat.lt_of_lt_of_le h3 ?_;have h4:2^(bitL a.n+k-(bitL b.n-1))*2^(bitL b.n-1)<=2^(bitL a.n+k-(bitL b.n-1))*b.n:=Nat.mul_le_mul_left _ (qar hn).1;rw[<-Nat.pow_add]at h4;exact Nat.le_trans (Nat.pow_le_pow_right (by omega) (by omega)) h4
  have:=qax h2;omega
 refine⟨?_,?_,?_⟩<;>simp only<;>omega
theorem qok_S {a b:Nm}{w w':Nat}{l l' t t':Int}{p:Nat}(ha:a.S w l t)(hb:b.S w' l' t')(h1:1<=(bitL b.n:Int)+b.e)(hn:b.n≠0)(hp:0<p)(hp2:p<=1000)
 (hw:w<=100000) (hw':w'<=100000) (hl:-40000<=l) (hl':-40000<=l') (ht:t<=16000) (ht':t'<=16000):QOk (a,b) p:=by
 have f:=q30 (p:=p) ha hb.t h1 hn;exact⟨ha.B (by omega) (by omega) (by omega),hb.B (by omega) (by omega) (by omega),hn,f.B (by omega) (by omega) (by omega),qle f hp (by omega) (by omega),qle f hp (by omega) (by omega)⟩
theorem qz_S {a b:Nm}{w w':Nat}{l l' t t':Int}{p:Nat}(ha:a.S w l t)(hb:b.S w' l' t')(h1:1<=(bitL b.n:Int)+b.e)(hn:b.n≠0)(hp:0<p)(ht:0<=t) :
 (qz (a,b) p).S (p+1) (-16384) (t+1):=by
 have f:=q30 (p:=p) ha hb.t h1 hn;rw[show max t 0=t by omega]at f;exact⟨cu_S f hp ht,cu_S f hp ht⟩
theorem q8a {o z:Sp}{w:Nat}{l t:Int}(ho:o.S w l t)(hz:z.S w l t):(qstep o z).S w l t:=by
 unfold qstep;constructor
 ·simp only;split
  ·exact hz.lo
  ·exact ho.lo
 ·simp only;split
  ·exact hz.hi
  ·exact ho.hi
theorem qaev {c:Nat->Nm × Nm}{p w:Nat}{l t:Int}(h:∀i,(qz (c i) p).S w l t):∀i,(qacc c p i).S w l t
 |0=>h 0
 |i+1=>q8a (qaev h i) (h (i+1))
theorem cor_S {x y:Sp}{w w':Nat}{l l' t t':Int}(hx:x.S w l t)(hy:y.S w' l' t')(i:Nat):(x.cor y i).1.S w l t/\(x.cor y i).2.S w' l' t'/\((x.cor y i).2=y.lo\/(x.cor y i).2=y.hi):=by
 unfold Sp.cor;split
 ·exact⟨hx.lo,hy.lo,.inl rfl⟩
 ·exact⟨hx.lo,hy.hi,.inr rfl⟩
 ·exact⟨hx.hi,hy.lo,.inl rfl⟩
 ·exact⟨hx.hi,hy.hi,.inr rfl⟩
structure Sp.Dv (y:Sp):Prop where
 n1:y.lo.n≠0
 n2:y.hi.n≠0
 t1:1<=(bitL y.lo.n:Int)+y.lo.e
 t2:1<=(bitL y.hi.n:Int)+y.hi.e
theorem qaet {x y:Sp}{w w':Nat}{l l' t t':Int}{p:Nat}(hx:x.S w l t)(hy:y.S w' l' t')(hd:y.Dv)(hp:0<p)(hp2:p<=1000)
 (hw:w<=100000) (hw':w'<=100000) (hl:-40000<=l) (hl':-40000<=l') (ht:t<=16000) (ht':t'<=16000) (i:Nat):QOk (x.cor y i) p:=by
 obtain⟨h1,h2,h3⟩:=cor_S hx hy i;have⟨c,hc⟩:∃c,c=x.cor y i:=⟨_,rfl⟩
 rw[<-hc]at h1 h2 h3 ⊢;rcases c with ⟨a,b⟩;simp only at h1 h2 h3;refine qok_S (p:=p) h1 h2 ?_ ?_ hp hp2 hw hw' hl hl' ht ht'
 ·rcases h3 with rfl|rfl
  ·exact hd.t1
  ·exact hd.t2
 ·rcases h3 with rfl|rfl
  ·exact hd.n1
  ·exact hd.n2
theorem quo_S {x y:Sp}{w w':Nat}{l l' t t':Int}{p:Nat}(hx:x.S w l t)(hy:y.S w' l' t')(hd:y.Dv)(hp:0<p)(ht:0<=t):(x.quo y p).S (p+1) (-16384) (t+1):=by
 refine qaev (fun i=>?_) 3;obtain⟨h1,h2,h3⟩:=cor_S hx hy i;have⟨c,hc⟩:∃c,c=x.cor y i:=⟨_,rfl⟩
 rw[<-hc]at h1 h2 h3 ⊢;rcases c with ⟨a,b⟩;simp only at h1 h2 h3;refine qz_S (p:=p) h1 h2 ?_ ?_ hp ht
 ·rcases h3 with rfl|rfl
  ·exact hd.t1
  ·exact hd.t2
 ·rcases h3 with rfl|rfl
  ·exact hd.n1
  ·exact hd.n2
theorem rnd_S {x:Sp}{w:Nat}{l t:Int}{p:Nat}(h:x.S w l t)(hp:0<p)(ht:0<=t):(x.rnd p).S (p+1) (-16384) (t+1):=⟨cu_S h.lo hp ht,cu_S h.hi hp ht⟩
theorem sum_S {x y:Sp}{w w':Nat}{l t:Int}{p:Nat}(hx:x.S w l t)(hy:y.S w' l t)(hp:0<p)(ht:0<=t)(hl:l<=t):(x.sum y p).S (p+1) (-16384) (t+2):=by
 have h:(Sp.mk (x.lo.add y.lo) (x.hi.add y.hi)).S (max (max w w') ((t-l).toNat+1)) l (t+1):=⟨add_S hx.lo hy.lo hl,add_S hx.hi hy.hi hl⟩
 exact(rnd_S h hp (by omega)).mono (by omega) (by omega) (by omega)
theorem qaex {c:Nat->Nm × Nm}{w:Nat}{l t:Int}(h:∀i,((c i).1.mul (c i).2).S w l t):∀i,(pacc c i).S w l t
 |0=>⟨h 0,h 0⟩
 |i+1=>by
  have h1:=qaex h i;have h2:=h (i+1);unfold pacc pstep;constructor
  ·simp only;split
   ·exact h2
   ·exact h1.lo
  ·simp only;split
   ·exact h2
   ·exact h1.hi
theorem q8h {x y:Sp}{w w':Nat}{l l' t t':Int}(hx:x.S w l t)(hy:y.S w' l' t')(i:Nat):(pacc (x.cor y) i).S (w+w') (l+l') (t+t'):=
 qaex (fun i=>by obtain⟨h1,h2,_⟩:=cor_S hx hy i;exact mul_S h1 h2) i
theorem qajp {x y:Sp}{w w':Nat}{l l' t t':Int}{p:Nat}(hx:x.S w l t)(hy:y.S w' l' t')(hp:0<p)(ht:0<=t+t'):(x.prod y p).S (p+1) (-16384) (t+t'+1):=rnd_S (q8h hx hy 3) hp ht
theorem qyr {x:Sp}{w:Nat}{l t:Int}(h:x.S w l t):x.opp.S w l t:=⟨opp_S h.hi,opp_S h.lo⟩
theorem scl_S {x:Sp}{w:Nat}{l t k:Int}(h:x.S w l t):(x.scl k).S w (l+k) (t+k):=⟨sh_S h.lo,sh_S h.hi⟩
theorem ar_S {x:Sp}{w:Nat}{l t:Int}(h:x.S w l t):x.ar.S w l t:=by
 have:x.top.S w l t:=by
  unfold Sp.top;split
  ·exact opp_S h.lo
  ·exact h.hi
 exact⟨opp_S this,this⟩
theorem pt_S {a:Nm}{w:Nat}{l t:Int}(h:a.S w l t):(Sp.pt a).S w l t:=⟨h,h⟩
theorem q2x {n:Int}(h:n≠0):(Sp.pt (Nm.whole n)).Dv:=by
 have h0:(Nm.whole n).n≠0:=by unfold Nm.whole;simp only;omega
 have:=(qar h0).2.2;exact⟨h0,h0,by simp only[Sp.pt,Nm.whole]at this ⊢;omega,by simp only[Sp.pt,Nm.whole]at this ⊢;omega⟩
set_option maxRecDepth 20000
theorem qahx (a b:Nm)(ha:a.B)(hb:b.B):CQ prog q9h [a.v,b.v] (a.mul b).v:=by
 refine qaf rfl fun H=>?_
 have hl:∀k,¬(H.length+k<H.length):=by intro k;omega
 have a1:=ha.len;have a2:=ha.lo;have a3:=ha.hi;have b1:=hb.len;have b2:=hb.lo;have b3:=hb.hi;have w1:IntKind.i64.wrap (a.e+b.e)=a.e+b.e:=by rw[wrap_i64]<;>omega
 have bt:=qaal a.n b.n (by omega) (by omega);simp;refine zq bt ?_;simp[hl,w1,Nm.mul];cases a.neg<;>cases b.neg<;>rfl
def Nm.tp (x:Nm):Int:=if x.n=0 then -16384 else bitL x.n+x.e
theorem q2f (x:Nm)(hx:x.B):CQ prog q9g [x.v] (.int .i64 x.tp):=by
 refine qaf rfl fun H=>?_
 have hl:∀k,¬(H.length+k<H.length):=by intro k;omega
 have a1:=hx.len;have a2:=hx.lo;have a3:=hx.hi;by_cases h0:x.n=0
 ·simp[bn,bl,h0,qbf,Nm.tp]
 ·have n0:=qes h0;have hb:=qxg a1;have w1:IntKind.i64.wrap ((bitL x.n:Int)+x.e)=(bitL x.n:Int)+x.e:=by rw[wrap_i64]<;>omega
  have bt:=qig x.n (by omega);simp[bn,bl,n0];refine zq bt ?_;simp[w1,Nm.tp,h0]
theorem qfz (x:Sp):CQ prog quf [x.v] x.opp.v:=by
 refine qaf rfl fun H=>?_
 have hl:∀k,¬(H.length+k<H.length):=by intro k;omega
 simp;refine qab rfl rfl rfl (qp8 x.hi) ?_;simp;refine qab rfl rfl rfl (qp8 x.lo) ?_;simp[hl,Sp.opp]
theorem q0d (x:Sp)(k:Int)(h1:-100000<=x.lo.e)(h2:x.lo.e<=100000)(h3:-100000<=x.hi.e)(h4:x.hi.e<=100000)(k1:-100000<=k)(k2:k<=100000):CQ prog q1y [x.v,.int .i64 k] (x.scl k).v:=by
 refine qaf rfl fun H=>?_
 have hl:∀k,¬(H.length+k<H.length):=by intro k;omega
 have w1:IntKind.i64.wrap (x.lo.e+k)=x.lo.e+k:=by rw[wrap_i64]<;>omega
 have w2:IntKind.i64.wrap (x.hi.e+k)=x.hi.e+k:=by rw[wrap_i64]<;>omega
 simp[hl,w1,w2,Sp.scl,Nm.sh]
theorem qvo (x:Sp)(h1:x.lo.B)(h2:x.hi.B):CQ prog qzi [x.v] x.ar.v:=by
 refine qaf rfl fun H=>?_
 have hl:∀k,¬(H.length+k<H.length):=by intro k;omega
 have o1:=qp8 x.lo;have oo:=qp8 x.top;have od:=qdc x.lo.opp x.hi ⟨h1.len,h1.lo,h1.hi⟩ h2;simp[hl];refine zq o1 ?_;simp;refine zq od ?_;by_cases hc:0<x.lo.opp.ord x.hi
 ·have ht:x.top=x.lo.opp:=by unfold Sp.top;rw[if_pos hc]
  rw[ht]at oo;simp[hc];refine zq o1 ?_;simp[hl];refine zq oo ?_;simp[hl,Sp.ar,ht]
 ·have ht:x.top=x.hi:=by unfold Sp.top;rw[if_neg hc]
  rw[ht]at oo;simp[hc];refine zq oo ?_;simp[hl,Sp.ar,ht]
theorem qaam (x y:Sp)(p:Nat){w w':Nat}{l t:Int}(hx:x.S w l t)(hy:y.S w' l t)(hw:w<=100000)(hw':w'<=100000)(hl:-40000<=l)(hl0:l<=0)(hp:0<p)(hp2:p<=1000)(ht:0<=t)(ht2:t<=16000) :
 CQ prog qzc [x.v,y.v,.int .i64 p] (x.sum y p).v:=by
 refine qaf rfl fun H=>?_
 have hl':∀k,¬(H.length+k<H.length):=by intro k;omega
 have s1:=add_S hx.lo hy.lo (by omega);have s2:=add_S hx.hi hy.hi (by omega);have a1:=qxf x.lo y.lo (hx.lo.B (by omega) (by omega) (by omega)) (hy.lo.B (by omega) (by omega) (by omega));have a2:=qxf x.hi y.hi (hx.hi.B (by omega) (by omega) (by omega)) (hy.hi.B (by omega) (by omega) (by omega));have r:=qkx (x.lo.add y.lo) (x.hi.add y.hi) false false p (s1.B (by omega) (by omega) (by omega)) (s2.B (by omega) (by omega) (by omega)) hp2 (qle s1 hp (by omega) (by omega)) (qle s2 hp (by omega) (by omega));simp;refine zq a1 ?_;simp;refine zq a2 ?_;simp;refine zq r ?_;simp[hl',Sp.sum,Sp.rnd]
end Go.Abs.W
namespace Go.Abs.W
set_option maxRecDepth 20000
def pOk (x y:Sp):Prop:=∀i,(x.cor y i).1.B/\(x.cor y i).2.B/\((x.cor y i).1.mul (x.cor y i).2).B
theorem q8n {c:Nat->Nm × Nm}(h:∀i,((c i).1.mul (c i).2).B):∀i,(pacc c i).lo.B/\(pacc c i).hi.B
 |0=>⟨h 0,h 0⟩
 |i+1=>by
  have h1:=q8n h i;have h2:=h (i+1);unfold pacc pstep;constructor
  ·simp only;split
   ·exact h2
   ·exact h1.1
  ·simp only;split
   ·exact h2
   ·exact h1.2
set_option maxHeartbeats 4000000 in
theorem q0e (x y:Sp)(p:Nat)(hp:p<=1000)(hq:pOk x y)
 (nl:(bitL (cutQ (pacc (x.cor y) 3).lo.n (pacc (x.cor y) 3).lo.e false p ((pacc (x.cor y) 3).lo.neg != false)):Int)+((pacc (x.cor y) 3).lo.e+cutK (pacc (x.cor y) 3).lo.n (pacc (x.cor y) 3).lo.e p)<=16384)
 (nh:(bitL (cutQ (pacc (x.cor y) 3).hi.n (pacc (x.cor y) 3).hi.e false p ((pacc (x.cor y) 3).hi.neg != true)):Int)+((pacc (x.cor y) 3).hi.e+cutK (pacc (x.cor y) 3).hi.n (pacc (x.cor y) 3).hi.e p)<=16384) :
 CQ prog qoq [x.v,y.v,.int .i64 p] (x.prod y p).v:=by
 refine qaf rfl fun H=>?_
 have hl':∀k,¬(H.length+k<H.length):=by intro k;omega
 have⟨b6,hb6⟩:∃b6,b6=H.length+2:=⟨_,rfl⟩
 have⟨b7,hb7⟩:∃b7,b7=H.length+3:=⟨_,rfl⟩
 have⟨b8,hb8⟩:∃b8,b8=H.length+4:=⟨_,rfl⟩
 have pB:=q8n (fun i=>(hq i).2.2) 3;have rnd:=qkx (pacc (x.cor y) 3).lo (pacc (x.cor y) 3).hi false false p pB.1 pB.2 hp nl nh;simp;refine qab rfl rfl rfl (qn0 x y) ?_;simp;have⟨c,hc⟩:∃c,c=x.cor y:=⟨_,rfl⟩
 have hcl:∀i,i<4->[W.cor x.lo y.lo,W.cor x.lo y.hi,W.cor x.hi y.lo,W.cor x.hi y.hi][i]?=some (W.cor (c i).1 (c i).2):=by
  intro i hi;rw[hc];rcases i with _|_|_|_|i
  ·rfl
  ·rfl
  ·rfl
  ·rfl
  ·omega
 unfold pOk at hq;have hpr:x.prod y p=(pacc c 3).rnd p:=by rw[hc];rfl
 rw[<-hc]at hq rnd pB;generalize [W.cor x.lo y.lo,W.cor x.lo y.hi,W.cor x.hi y.lo,W.cor x.hi y.hi]=L at *
 refine WK_up (fun i E H'=>E 2=.int .i64 p/\E 6=.ptr b6 0 0/\E 7=.ptr b7 0 0/\E 8=.ptr b8 0 0/\E 21=.sl L/\E 22=.int .i64 4/\E 23=.int .i64 i/\H <+: H'/\H'[b6]?=some (some ⟨7,[.agg [.bool false,.nil,.int .i64 0,.bool false,.nil,.int .i64 0,.bool false]],false,true⟩) /\
  ∃v7 v8,H'[b7]?=some (some ⟨3,[v7],false,true⟩)/\H'[b8]?=some (some ⟨3,[v8],false,true⟩)/\(i=0->v7=.agg [.bool false,.nil,.int .i64 0])/\(i=0->v8=.agg [.bool false,.nil,.int .i64 0])/\(∀j,i=j+1->v7=(pacc c j).lo.v/\v8=(pacc c j).hi.v)) 4 ?_ ?_
 ·refine⟨by simp,by simp[hb6],by simp[hb7],by simp[hb8],by simp,by simp,by simp,List.prefix_append _ _,by rw[hb6];simp,_,_,by rw[hb7];simp,by rw[hb8];simp,fun _=>rfl,fun _=>rfl,fun j hj=>by omega⟩
 ·rintro i E H' hi ⟨h2,h6,h7,h8,h21,h22,h23,hpre,hg6,v7,v8,hg7,hg8,hz7,hz8,hz1⟩;have hHl:H.length<=H'.length:=hpre.length_le;have l6:=(List.getElem?_eq_some_iff.1 hg6).1;have l7:=(List.getElem?_eq_some_iff.1 hg7).1;have l8:=(List.getElem?_eq_some_iff.1 hg8).1;have n6:¬b6<H.length:=by omega
  have n7:¬b7<H.length:=by omega
  have n8:¬b8<H.length:=by omega
  rcases Nat.lt_or_ge i 4 with hlt|hge
  ·have f1:IntKind.i64.wrap ((i:Int)+1)=((i+1:Nat):Int):=by rw[wrap_i64]<;>omega
   have hlt':(i:Int)<4:=by omega
   have hci:=hcl i hlt;obtain⟨q1,q2,q3⟩:=hq i;have bm:=qahx (c i).1 (c i).2 q1 q2;have⟨cA,hcA⟩:∃cA,cA=(c i).1:=⟨_,rfl⟩
   have⟨cB,hcB⟩:∃cB,cB=(c i).2:=⟨_,rfl⟩
   have⟨z,hz⟩:∃z,z=(c i).1.mul (c i).2:=⟨_,rfl⟩
   rw[<-hz]at q3 bm;rw[<-hcA,<-hcB]at bm hci;unfold W.cor at hci;have lH:∀k,¬H'.length+k<H.length:=by intro k;omega
   have lH0:¬H'.length<H.length:=by omega
   have g7:∀G:Heap,(H'++G)[b7]?=some (some ⟨3,[v7],false,true⟩):=fun G=>by rw[List.getElem?_append_left l7];exact hg7
   have g8:∀G:Heap,(H'++G)[b8]?=some (some ⟨3,[v8],false,true⟩):=fun G=>by rw[List.getElem?_append_left l8];exact hg8
   have g6:∀G:Heap,(H'++G)[b6]?=some (some ⟨7,[.agg [.bool false,.nil,.int .i64 0,.bool false,.nil,.int .i64 0,.bool false]],false,true⟩):=fun G=>by rw[List.getElem?_append_left l6];exact hg6
   have s7:∀(G:Heap) X,(H'++G).set b7 X=H'.set b7 X++G:=fun G X=>List.set_append_left _ _ l7
   have s8:∀(G:Heap) X,(H'++G).set b8 X=H'.set b8 X++G:=fun G X=>List.set_append_left _ _ l8
   have s78:∀(G:Heap) X Y,(H'.set b7 X++G).set b8 Y=(H'.set b7 X).set b8 Y++G:=fun G X Y=>List.set_append_left _ _ (by simp;exact l8)
   have a7:∀(G:Heap) X,(H'.set b7 X++G)[b7]?=some X:=fun G X=>by rw[List.getElem?_append_left (by simp;exact l7),List.getElem?_set_self l7]
   have a8:∀(G:Heap) X,(H'.set b7 X++G)[b8]?=some (some ⟨3,[v8],false,true⟩):=fun G X=>by rw[List.getElem?_append_left (by simp;exact l8),List.getElem?_set_ne (by omega)];exact hg8
   have a6:∀(G:Heap) X,(H'.set b7 X++G)[b6]?=some (some ⟨7,[.agg [.bool false,.nil,.int .i64 0,.bool false,.nil,.int .i64 0,.bool false]],false,true⟩):=fun G X=>by rw[List.getElem?_append_left (by simp;exact l6),List.getElem?_set_ne (by omega)];exact hg6
   have c7:∀(G:Heap) X,(H'.set b8 X++G)[b7]?=some (some ⟨3,[v7],false,true⟩):=fun G X=>by rw[List.getElem?_append_left (by simp;exact l7),List.getElem?_set_ne (by omega)];exact hg7
   have c8:∀(G:Heap) X,(H'.set b8 X++G)[b8]?=some X:=fun G X=>by rw[List.getElem?_append_left (by simp;exact l8),List.getElem?_set_self l8]
   have c6:∀(G:Heap) X,(H'.set b8 X++G)[b6]?=some (some ⟨7,[.agg [.bool false,.nil,.int .i64 0,.bool false,.nil,.int .i64 0,.bool false]],false,true⟩):=fun G X=>by rw[List.getElem?_append_left (by simp;exact l6),List.getElem?_set_ne (by omega)];exact hg6
   have d7:∀(G:Heap) X Y,((H'.set b7 X).set b8 Y++G)[b7]?=some X:=fun G X Y=>by rw[List.getElem?_append_left (by simp;exact l7),List.getElem?_set_ne (by omega),List.getElem?_set_self l7]
   have d8:∀(G:Heap) X Y,((H'.set b7 X).set b8 Y++G)[b8]?=some Y:=fun G X Y=>by rw[List.getElem?_append_left (by simp;exact l8),List.getElem?_set_self (by simp;exact l8)]
   have d6:∀(G:Heap) X Y,((H'.set b7 X).set b8 Y++G)[b6]?=some (some ⟨7,[.agg [.bool false,.nil,.int .i64 0,.bool false,.nil,.int .i64 0,.bool false]],false,true⟩):=fun G X Y=>by rw[List.getElem?_append_left (by simp;exact l6),List.getElem?_set_ne (by omega),List.getElem?_set_ne (by omega)];exact hg6
   have p0:∀G:Heap,H <+: H'++G:=fun G=>qcx hpre
   have p7:∀(G:Heap) X,H <+: H'.set b7 X++G:=fun G X=>qcx (qa5 hpre (by omega))
   have p8:∀(G:Heap) X,H <+: H'.set b8 X++G:=fun G X=>qcx (qa5 hpre (by omega))
   have p78:∀(G:Heap) X Y,H <+: (H'.set b7 X).set b8 Y++G:=fun G X Y=>qcx (qa5 (qa5 hpre (by omega)) (by omega))
   by_cases hi0:i=0
   ·subst hi0;have v70:=hz7 rfl;have v80:=hz8 rfl;subst v70;subst v80;have w1:IntKind.i64.wrap 1=1:=rfl;simp at h23;have hz':pacc c 0=⟨z,z⟩:=by rw[hz];rfl
    simp[qd5,h21,h22,h23,hci,lH0];refine zq bm ?_;simp[lH,h2,h6,h7,h8,h21,h22,h23,g7,s7,s78,a8,d6,d7,d8,p78,n7,n8,w1,hz']
   ·have⟨j,hj⟩:∃j,i=j+1:=⟨i-1,by omega⟩
    obtain⟨e7,e8⟩:=hz1 j hj;subst e7;subst e8;have⟨o,ho⟩:∃o,o=pacc c j:=⟨_,rfl⟩
    have oB:=q8n (fun i=>(hq i).2.2) j;have hi0':¬(i:Int)=0:=by omega
    have hacc:pacc c i=pstep o z:=by rw[ho,hz,hj];rfl
    rw[<-ho]at oB g7 g8 a8 c7;have o1:=qdc z o.lo q3 oB.1;have o2:=qdc z o.hi q3 oB.2;simp[qd5,h21,h22,h23,hlt',hci,lH0];refine zq bm ?_;simp[lH,h7,g7,hi0];refine zq o1 ?_;by_cases c1:z.ord o.lo<0
    ·simp[h7,h8,g7,s7,a8,n7,hi0,c1];refine zq o2 ?_;by_cases c2:0<z.ord o.hi
     ·simp[h2,h6,h7,h8,h21,h22,h23,s78,a8,d6,d7,d8,p78,n8,c2,f1,hlt];rw[hacc];simp[pstep,c1,c2]
     ·simp[h2,h6,h7,h8,h21,h22,h23,a6,a7,a8,p7,c2,f1,hlt];rw[hacc];simp[pstep,c1,c2]
    ·simp[h8,g8,hi0,c1];refine zq o2 ?_;by_cases c2:0<z.ord o.hi
     ·simp[h2,h6,h7,h8,h21,h22,h23,g8,s8,c6,c7,c8,p8,n8,c2,f1,hlt];rw[hacc];simp[pstep,c1,c2]
     ·simp[h2,h6,h7,h8,h21,h22,h23,g6,g7,g8,p0,c2,f1,hlt];rw[hacc];simp[pstep,c1,c2]
  ·obtain rfl:i=4:=by omega
   obtain⟨e7,e8⟩:=hz1 3 rfl;subst e7;subst e8;have g6:∀X,(H'.set b6 X)[b6]?=some X:=fun X=>List.getElem?_set_self l6
   have tk:∀X,(H'.set b6 X).take H.length=H:=fun X=>by rw[List.take_set_of_le (by omega)];exact qbe hpre
   simp[qd5,h2,h7,h8,h22,h23,hg7,hg8];refine zq rnd ?_;simp[h6,hg6,n6,g6,tk,hpr,Sp.rnd]
end Go.Abs.W
namespace Go.Abs.W
set_option maxRecDepth 20000
abbrev Sp.Z (x:Sp)(w:Nat)(t:Int):Prop:=x.S (w+1) (-16384) t
theorem q0f {x y:Sp}{w:Nat}{t t':Int}(hx:x.Z w t)(hy:y.Z w t')(hp:0<w)(hp2:w<=1000)(ht:0<=t)(ht':0<=t')(ht2:t+t'<=16000) :
 CQ prog qoq [x.v,y.v,.int .i64 w] (x.prod y w).v:=by
 have c:=q8h hx hy;refine q0e x y w hp2 (fun i=>?_) (qle (c 3).lo hp (by omega) (by omega)) (qle (c 3).hi hp (by omega) (by omega));obtain⟨h1,h2,_⟩:=cor_S hx hy i;exact⟨h1.B (by omega) (by omega) (by omega),h2.B (by omega) (by omega) (by omega),(mul_S h1 h2).B (by omega) (by omega) (by omega)⟩
theorem prodZ {x y:Sp}{w:Nat}{t t':Int}(hx:x.Z w t)(hy:y.Z w t')(hp:0<w)(ht:0<=t)(ht':0<=t'):(x.prod y w).Z w (t+t'+1):=qajp hx hy hp (by omega)
theorem bsumZ {x y:Sp}{w:Nat}{t:Int}(hx:x.Z w t)(hy:y.Z w t)(hp:0<w)(hp2:w<=1000)(ht:0<=t)(ht2:t<=16000):CQ prog qzc [x.v,y.v,.int .i64 w] (x.sum y w).v:=
 qaam x y w hx hy (by omega) (by omega) (by omega) (by omega) hp hp2 ht ht2
theorem sumZ {x y:Sp}{w:Nat}{t:Int}(hx:x.Z w t)(hy:y.Z w t)(hp:0<w)(ht:0<=t):(x.sum y w).Z w (t+2):=sum_S hx hy hp ht (by omega)
theorem q46 {n:Int}(h:0<n):(Nm.whole n).sgn=1:=q64 (by omega)
theorem bquoZ {x:Sp}{w w1:Nat}{l t n:Int}(hx:x.S w1 l t)(n0:0<n)(n1:n<=1073741824)(hw:w1<=100000)(hl:-40000<=l)(hp:0<w)(hp2:w<=1000)(ht2:t<=16000) :
 CQ prog qmu [x.v,(Sp.pt (Nm.whole n)).v,.int .i64 w] (x.quo (Sp.pt (Nm.whole n)) w).v:=by
 have hy:=pt_S (qri (n:=n) (by omega) n1);refine ql4 x _ w hp2 (fun i=>qaet hx hy (q2x (by omega)) hp hp2 hw (by omega) hl (by omega) ht2 (by omega) i) ?_;have:=q46 n0;simp only[Sp.pt,this];omega
theorem quoZ {x:Sp}{w w1:Nat}{l t n:Int}(hx:x.S w1 l t)(n0:0<n)(n1:n<=1073741824)(hp:0<w)(ht:0<=t):(x.quo (Sp.pt (Nm.whole n)) w).Z w (t+1):=
 quo_S hx (pt_S (qri (n:=n) (by omega) n1)) (q2x (by omega)) hp ht
@[simp] theorem qamg {n:Nat}{b:Bool}:(V.bool b).lowB n=true:=rfl
@[simp] theorem qame {n:Nat}{k:IntKind}{i:Int}:(V.int k i).lowB n=true:=rfl
def partS (n:Int)(w:Nat):Sp:=(Sp.pt (Nm.whole 1)).quo (Sp.pt (Nm.whole n)) w
theorem partZ {n:Int}{w:Nat}(n0:0<n)(n1:n<=1073741824)(hp:0<w):(partS n w).Z w 32:=quoZ (pt_S (qri (n:=1) (by omega) (by omega))) n0 n1 hp (by omega)
theorem qadr (n:Int)(w:Nat)(n0:0<n)(n1:n<=1073741824)(hp:0<w)(hp2:w<=1000):CQ prog q52 [.int .i64 n,.int .i64 w] (partS n w).v:=by
 refine qaf rfl fun H=>?_
 have hl:∀k,¬(H.length+k<H.length):=by intro k;omega
 have q:=bquoZ (w:=w) (pt_S (qri (n:=1) (by omega) (by omega))) n0 n1 (by omega) (by omega) hp hp2 (by omega);simp;refine qab rfl rfl rfl (qdb 1 (by omega) (by omega)) ?_;simp;refine qab rfl rfl rfl (qfy (Nm.whole 1)) ?_;simp;refine qab rfl rfl rfl (qdb n (by omega) n1) ?_;simp;refine qab rfl rfl rfl (qfy (Nm.whole n)) ?_;simp;refine zq q ?_;simp[partS]
def Sp.zero : Sp:=⟨Nm.zero,Nm.zero⟩
def atSq (n:Int)(w:Nat):Sp:=((partS n w).prod (partS n w) w).opp
def atS (n:Int)(w:Nat):Nat->Sp × Sp
 |0=>(Sp.zero,partS n w)
 |k+1=>((atS n w k).1.sum ((atS n w k).2.quo (Sp.pt (Nm.whole (2*(k:Int)+1))) w) w,(atS n w k).2.prod (atSq n w) w)
def qe8 (n:Int)(w:Nat):Sp:=(atS n w (w/4+4)).1.sum (atS n w (w/4+4)).2.ar w
theorem zeroZ {w:Nat}{t:Int}(ht:0<=t):Sp.zero.Z w t:=⟨⟨by simp[Sp.zero,Nm.zero,qaw],by simp[Sp.zero,Nm.zero],by simp[Sp.zero,Nm.zero,qaw];omega⟩,⟨by simp[Sp.zero,Nm.zero,qaw],by simp[Sp.zero,Nm.zero],by simp[Sp.zero,Nm.zero,qaw];omega⟩⟩
theorem atSqZ {n:Int}{w:Nat}(n0:0<n)(n1:n<=1073741824)(hp:0<w):(atSq n w).Z w 65:=qyr (prodZ (partZ n0 n1 hp) (partZ n0 n1 hp) hp (by omega) (by omega))
theorem atSZ {n:Int}{w:Nat}(n0:0<n)(n1:n<=1073741824)(hp:0<w):∀k:Nat,k<=1000->(atS n w k).1.Z w (66*k+33)/\(atS n w k).2.Z w (66*k+32)
 |0,_=>⟨zeroZ (by omega),(partZ n0 n1 hp).mono (by omega) (by omega) (by omega)⟩
 |k+1,hk=>by
  obtain⟨h1,h2⟩:=atSZ n0 n1 hp k (by omega);have q:=quoZ (n:=2*(k:Int)+1) h2 (by omega) (by omega) hp (by omega);have s:=sumZ (t:=66*k+33) h1 (q.mono (Nat.le_refl _) (by omega) (by omega)) hp (by omega);have t:=prodZ h2 (atSqZ n0 n1 hp) hp (by omega) (by omega);exact⟨s.mono (by omega) (by omega) (by push_cast;omega),t.mono (by omega) (by omega) (by push_cast;omega)⟩
theorem Sp.Z.B {x:Sp}{w:Nat}{t:Int}(h:x.Z w t)(hw:w<=1000)(ht:t<=100000):x.lo.B/\x.hi.B:=⟨h.lo.B (by omega) (by omega) ht,h.hi.B (by omega) (by omega) ht⟩
set_option maxHeartbeats 4000000 in
theorem qvp (n:Int)(w:Nat)(n0:0<n)(n1:n<=1073741824)(hp:0<w)(hp2:w<=400):CQ prog qzj [.int .i64 n,.int .i64 w] (qe8 n w).v:=by
 refine qaf rfl fun H=>?_
 have hl:∀k,¬(H.length+k<H.length):=by intro k;omega
 have⟨K,hK⟩:∃K,K=w/4+4:=⟨_,rfl⟩
 have wz:=partZ (w:=w) n0 n1 hp;have sqz:=atSqZ (w:=w) n0 n1 hp;have az:=fun k hk=>atSZ (w:=w) n0 n1 hp k hk
 have bp:=qadr n w n0 n1 hp (by omega);have bsq:=q0f wz wz hp (by omega) (by omega) (by omega) (by omega);have bop:=qfz ((partS n w).prod (partS n w) w);have w0:IntKind.i64.wrap ((w:Int)/4)=(w:Int)/4:=by rw[wrap_i64]<;>omega
 have w1:IntKind.i64.wrap ((w:Int)/4+4)=(K:Int):=by rw[wrap_i64]<;>omega
 have hsq:((partS n w).prod (partS n w) w).opp=atSq n w:=rfl;rw[hsq]at bop;have ha:qe8 n w=(atS n w K).1.sum (atS n w K).2.ar w:=by rw[hK];rfl
 have h00:(atS n w 0).1=Sp.zero:=rfl;have h01:(atS n w 0).2=partS n w:=rfl;rw[ha];have⟨P,hP⟩:∃P,P=partS n w:=⟨_,rfl⟩
 rw[<-hP]at bp bsq bop h01;simp;refine zq bp ?_;simp[hl];refine zq bsq ?_;simp;refine zq bop ?_;simp[hl,apart,w0,w1];refine WK_up (fun i E H'=>E 1=.int .i64 w/\E 4=.ptr H.length 0 0/\E 6=.ptr (H.length+2) 0 0/\E 7=.ptr (H.length+3) 0 0/\E 8=.ptr (H.length+4) 0 0/\E 22=.int .i64 K/\E 23=.int .i64 i /\
  ∃v7,H'=H++[some ⟨7,[.agg [.bool false,.nil,.int .i64 0,.bool false,.nil,.int .i64 0,.bool false]],false,true⟩,some ⟨7,[P.v],false,true⟩,some ⟨7,[(atSq n w).v],false,true⟩,some ⟨7,[v7],false,true⟩,some ⟨7,[(atS n w i).2.v],false,true⟩] /\
   (i=0->v7=.agg [.bool false,.nil,.int .i64 0,.bool false,.nil,.int .i64 0,.bool false])/\(0<i->v7=(atS n w i).1.v)) K ?_ ?_
 ·refine⟨by simp,by simp,by simp,by simp,by simp,by simp,by simp,_,?_,fun _=>rfl,fun h=>by omega⟩;rw[h01];simp
 ·rintro i E H' hi ⟨h1,h4,h6,h7,h8,h22,h23,v7,rfl,hz,hv⟩;rcases Nat.lt_or_ge i K with hlt|hge
  ·obtain⟨z1,z2⟩:=az i (by omega);have bw:=qdb (2*(i:Int)+1) (by omega) (by omega);have bpt:=qfy (Nm.whole (2*(i:Int)+1));have bq:=bquoZ (w:=w) (n:=2*(i:Int)+1) z2 (by omega) (by omega) (by omega) (by omega) hp (by omega) (by omega);have qz:=quoZ (n:=2*(i:Int)+1) z2 (by omega) (by omega) hp (by omega);have bs:=bsumZ (t:=66*i+33) z1 (qz.mono (Nat.le_refl _) (by omega) (by omega)) hp (by omega) (by omega) (by omega);have bpr:=q0f z2 sqz hp (by omega) (by omega) (by omega) (by omega);have f1:IntKind.i64.wrap (2*(i:Int))=2*(i:Int):=by rw[wrap_i64]<;>omega
   have f2:IntKind.i64.wrap (2*(i:Int)+1)=2*(i:Int)+1:=by rw[wrap_i64]<;>omega
   have f3:IntKind.i64.wrap ((i:Int)+1)=((i+1:Nat):Int):=by rw[wrap_i64]<;>omega
   have n1':(atS n w (i+1)).1=((atS n w i).1.sum ((atS n w i).2.quo (Sp.pt (Nm.whole (2*(i:Int)+1))) w) w):=rfl;have n2':(atS n w (i+1)).2=(atS n w i).2.prod (atSq n w) w:=rfl;rw[<-n1']at bs;rw[<-n2']at bpr;have⟨A,hA⟩:∃A,A=(atS n w (i+1)).1:=⟨_,rfl⟩
   have⟨B,hB⟩:∃B,B=(atS n w (i+1)).2:=⟨_,rfl⟩
   rw[<-hA]at bs ⊢;rw[<-hB]at bpr ⊢;have⟨T,hT⟩:∃T,T=(atS n w i).2:=⟨_,rfl⟩
   rw[<-hT]at bq bs bpr ⊢;have⟨q,hq⟩:∃q,q=T.quo (Sp.pt (Nm.whole (2*(i:Int)+1))) w:=⟨_,rfl⟩
   rw[<-hq]at bq bs;have⟨wn,hwn⟩:∃wn,wn=Nm.whole (2*(i:Int)+1):=⟨_,rfl⟩
   rw[<-hwn]at bw bpt bq;have hlt':(i:Int)<K:=by omega
   have c1:(atS n w i).1.v=(atS n w i).1.v:=rfl;by_cases hi0:i=0
   ·have v0:=hz hi0;subst v0;have bs0:=bs;have f4:IntKind.i64.wrap 1=1:=rfl;rw[show(atS n w i).1=Sp.zero by rw[hi0];rfl]at bs0;simp[qe6,h22,h23,hlt,h7,h8,f1,f2];refine zq bw ?_;simp;refine zq bpt ?_;simp[h1];refine zq bq ?_;simp[h1];refine qau (args:=[.agg [.bool false,.nil,.int .i64 0,.bool false,.nil,.int .i64 0,.bool false],q.v,.int .i64 w]) (vs:=[Sp.zero.v,q.v,.int .i64 w]) rfl rfl (by rw[qil rfl];rfl) bs0 ?_;simp[h7,h8,h6,h1];refine zq bpr ?_;simp[h1,h4,h6,h7,h8,h22,h23,f4,hi0]
   ·have v0:=hv (by omega);subst v0;simp[qe6,h22,h23,hlt,h7,h8,f1,f2];refine zq bw ?_;simp;refine zq bpt ?_;simp[h1];refine zq bq ?_;simp[h1];refine zq bs ?_;simp[h7,h8,h6,h1];refine zq bpr ?_;simp[h1,h4,h6,h7,h8,h22,h23,f3]
  ·obtain rfl:i=K:=by omega
   have v0:=hv (by omega);subst v0;obtain⟨z1,z2⟩:=az i (by omega);have zB:=z2.B (by omega) (by omega);have ba:=qvo (atS n w i).2 zB.1 zB.2;have bs:=bsumZ (t:=66*i+33) z1 ((ar_S z2).mono (Nat.le_refl _) (by omega) (by omega)) hp (by omega) (by omega) (by omega);simp[qe6,h22,h23,h7,h8];refine zq ba ?_;simp[h1];refine zq bs ?_;simp[h4]
end Go.Abs.W
namespace Go.Abs.W
set_option maxRecDepth 20000
def halfS (w:Nat):Sp:=((qe8 5 w).scl 3).sum ((qe8 239 w).scl 1).opp w
theorem qaaw {n:Int}{w:Nat}(n0:0<n)(n1:n<=1073741824)(hp:0<w)(hp2:w<=200):(qe8 n w).Z w 4000:=by
 obtain⟨h1,h2⟩:=atSZ (w:=w) n0 n1 hp (w/4+4) (by omega);have:=sumZ (t:=66*(w/4+4:Nat)+33) h1 ((ar_S h2).mono (Nat.le_refl _) (by omega) (by omega)) hp (by omega);exact this.mono (Nat.le_refl _) (by omega) (by push_cast;omega)
theorem qadw (w:Nat)(hp:0<w)(hp2:w<=200):CQ prog q54 [.int .i64 w] (halfS w).v:=by
 refine qaf rfl fun H=>?_
 have hl:∀k,¬(H.length+k<H.length):=by intro k;omega
 have z1:=qaaw (n:=5) (by omega) (by omega) hp hp2;have z2:=qaaw (n:=239) (by omega) (by omega) hp hp2;have a1:=qvp 5 w (by omega) (by omega) hp (by omega);have a2:=qvp 239 w (by omega) (by omega) hp (by omega);have e1:=z1.lo.l;have e2:=z1.hi.l;have e3:=z2.lo.l;have e4:=z2.hi.l;have t1:=z1.lo.t;have t2:=z1.hi.t;have t3:=z2.lo.t;have t4:=z2.hi.t;have s1:=q0d (qe8 5 w) 3 (by omega) (by omega) (by omega) (by omega) (by omega) (by omega);have s2:=q0d (qe8 239 w) 1 (by omega) (by omega) (by omega) (by omega) (by omega) (by omega);have o:=qfz ((qe8 239 w).scl 1);have y1:((qe8 5 w).scl 3).Z w 5000:=(scl_S (k:=3) z1).mono (Nat.le_refl _) (by omega) (by omega);have y2:((qe8 239 w).scl 1).opp.Z w 5000:=(qyr (scl_S (k:=1) z2)).mono (Nat.le_refl _) (by omega) (by omega);have s:=bsumZ y1 y2 hp (by omega) (by omega) (by omega);rw[show((qe8 5 w).scl 3).sum ((qe8 239 w).scl 1).opp w=halfS w from rfl]at s
 generalize halfS w=R at *
 simp;refine zq a1 ?_;simp;refine zq a2 ?_;simp[hl];refine zq s1 ?_;simp;refine zq s2 ?_;simp;refine zq o ?_;simp;refine zq s ?_;simp
def okH (h:Sp)(w:Nat):Bool:=
 !h.lo.neg&&!h.hi.neg&&decide (h.lo.n≠0)&&decide (h.hi.n≠0)&&decide (bitL h.lo.n<=w+1)&&decide (bitL h.hi.n<=w+1)&&decide ((bitL h.lo.n:Int)+h.lo.e=1)&&decide ((bitL h.hi.n:Int)+h.hi.e=1)&&decide (-200<=h.lo.e)&&decide (-200<=h.hi.e) &&
  decide (3*2^199<=h.lo.val 200)&&decide (5*h.hi.val 200<=8*2^200)&&decide ((h.hi.val 200-h.lo.val 200)*1024<=2^200)
structure HalfOk (h:Sp)(w:Nat):Prop where
 s:h.S (w+1) (-16384) 1
 d:h.Dv
 lo:3/2<=h.lo.q
 hi:h.hi.q<=8/5
 wd:(h.hi.q-h.lo.q)*1024<=1
 sg:h.lo.sgn=1
end Go.Abs.W
