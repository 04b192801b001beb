/- Parts of the proof: FpUh, FpUi. -/
import Derived.Test.YtpdchdfajhbglaaGreatDoorUb
namespace Go.Abs.W
theorem qad7 {X t X' t' ρ r e1 e3 f1 f3:Rat}(h1:X'*(1+ρ)=X-e1)(h2:t'*(1+r)=t-f1)(hρ:1<=ρ)(hr:1<=r)(g1:ρ*ρ=1+X*X-e3)(g2:r*r=1+t*t-f3)
 (X0:0<=X) (X1:X<=1) (t0:0<=t) (t1:t<=1) (t'0:0<=t') (t'1:2*t'<=1) (b1:0<=e1) (b2:0<=f1) (b3:0<=e3) (b4:0<=f3) {D:Rat} (hD:Bd (X-t) D):Bd (X'-t') (D+e1+f1+e3+f3):=by
 have D0:=hD.nn;obtain⟨d1,d2⟩:=hD;have k1:(r-ρ)*(r+ρ)=(t-X)*(t+X)+e3-f3:=by grind
 have k2:Bd ((t-X)*(t+X)) (2*D):=by
  have:=(show Bd (t-X) D from⟨by grind,by grind⟩).mul (show Bd (t+X) 2 from⟨by grind,by grind⟩);obtain⟨u,v⟩:=this;constructor<;>grind
 obtain⟨k3,k4⟩:=k2;have E0:0<=D+(e3+f3)/2:=by grind
 have k5:Bd (r-ρ) (D+(e3+f3)/2):=by
  constructor
  ·rcases(inferInstance:Decidable (-(D+(e3+f3)/2)<=r-ρ))with h|h
   ·exfalso;have m:=mul_nn (show 0<=-(D+(e3+f3)/2)-(r-ρ) by grind) (show 0<=r+ρ-2 by grind);have m2:=mul_nn E0 (show 0<=r+ρ-2 by grind);grind
   ·exact h
  ·rcases(inferInstance:Decidable (r-ρ<=D+(e3+f3)/2))with h|h
   ·exfalso;have m:=mul_nn (show 0<=(r-ρ)-(D+(e3+f3)/2) by grind) (show 0<=r+ρ-2 by grind);have m2:=mul_nn E0 (show 0<=r+ρ-2 by grind);grind
   ·exact h
 have k6:(X'-t')*(1+ρ)=(X-t)-e1+f1+t'*(r-ρ):=by grind
 have k7:Bd (t'*(r-ρ)) (1/2*(D+(e3+f3)/2)):=(show Bd t' (1/2) from⟨by grind,by grind⟩).mul k5;obtain⟨k8,k9⟩:=k7;have F0:0<=D+e1+f1+e3+f3:=by grind
 constructor
 ·rcases(inferInstance:Decidable (-(D+e1+f1+e3+f3)<=X'-t'))with h|h
  ·exfalso;have m:=mul_nn (show 0<=-(D+e1+f1+e3+f3)-(X'-t') by grind) (show 0<=ρ-1 by grind);have m2:=mul_nn F0 (show 0<=ρ-1 by grind);grind
  ·exact h
 ·rcases(inferInstance:Decidable (X'-t'<=D+e1+f1+e3+f3))with h|h
  ·exfalso;have m:=mul_nn (show 0<=(X'-t')-(D+e1+f1+e3+f3) by grind) (show 0<=ρ-1 by grind);have m2:=mul_nn F0 (show 0<=ρ-1 by grind);grind
  ·exact h
def un (x:Fx)(b:Nat):Rat:=(x.n:Rat)*(p2 b)⁻¹
theorem quu (x:Fx)(b:Nat):un x b*p2 b=(x.n:Rat):=by
 unfold un;rw[Rat.mul_assoc,Rat.mul_comm (p2 b)⁻¹,qar (qbw b),Rat.mul_one]
theorem un_bd {x:Fx}{b:Nat}(h:x.n<=2^b):0<=un x b/\un x b<=1:=by
 have B0:=qbw b;have c:=qak h;rw[qbk]at c;have n0:=natnn x.n;constructor
 ·exact mul_nn n0 (Rat.le_of_lt (Rat.inv_pos.2 B0))
 ·refine Rat.le_of_mul_le_mul_right (c:=p2 b) ?_ B0;rw[quu,Rat.one_mul];exact c
theorem qad8 {x:Fx}{b:Nat}(h:x.n<=2^b):∃ρ e1 e3:Rat,un (halve x b) b*(1+ρ)=un x b-e1/\1<=ρ/\ρ*ρ=1+un x b*un x b-e3/\0<=e1/\e1<=3*(p2 b)⁻¹/\0<=e3/\e3<=6*(p2 b)⁻¹:=by
 have B0:=qbw b;have Bi:=Rat.inv_pos.2 B0;have Bm:=qar B0;have B1:1<=p2 b:=by have:=p2_ge b;have:=natnn b;grind
 obtain⟨r1,r2⟩:=qw2 h;obtain⟨s1,s2⟩:=qcq ((halS x b).n*2^b);have eR:isq ((halS x b).n*2^b)=halR x b:=rfl;rw[eR]at s1 s2;have eS:(halS x b).n=2^b+x.n*x.n/2^b:=by rw[qaab]
 have dS:=qcy (a:=x.n*x.n) (d:=2^b) (Nat.two_pow_pos b);rw[qbk,Rat.div_def,Rat.natCast_mul]at dS;have c1:=qak s1;have c2:=qak (show(halS x b).n*2^b+1<=(halR x b+1)*(halR x b+1) from s2);have c3:=qak r1;have c4:=qak r2;rw[eS]at c1 c2;rw[Rat.natCast_mul,Rat.natCast_mul,Rat.natCast_add,qbk]at c1;rw[qaj,Rat.natCast_mul,Rat.natCast_mul,Rat.natCast_add,qaj,qbk]at c2;rw[qbk]at c3;rw[Rat.natCast_mul,qbk,show((2:Nat):Rat)=2 from rfl]at c4;have xu:=quu x b;have xb:=un_bd h;have⟨ρ,hρ⟩:∃ρ:Rat,ρ=(halR x b:Rat)*(p2 b)⁻¹:=⟨_,rfl⟩
 have ρB:ρ*p2 b=(halR x b:Rat):=by rw[hρ,Rat.mul_assoc,Rat.mul_comm (p2 b)⁻¹,Bm,Rat.mul_one]
 have ρ1:1<=ρ:=by
  refine Rat.le_of_mul_le_mul_right (c:=p2 b) ?_ B0;rw[ρB,Rat.one_mul];exact c3
 have ρ2:ρ<=2:=by
  refine Rat.le_of_mul_le_mul_right (c:=p2 b) ?_ B0;rw[ρB];exact c4
 have BB:=Rat.mul_pos B0 B0;rw[<-ρB]at c1 c2;rw[<-xu]at dS;have eX:un x b*p2 b*(un x b*p2 b)*(p2 b)⁻¹=un x b*un x b*p2 b:=by
  have:un x b*p2 b*(un x b*p2 b)*(p2 b)⁻¹=un x b*un x b*p2 b*(p2 b*(p2 b)⁻¹):=by grind
  rw[this,Bm,Rat.mul_one]
 rw[eX]at dS;obtain⟨dS1,dS2⟩:=dS;generalize ((x.n*x.n/2^b:Nat):Rat)=Q at *
 have q1:ρ*ρ<=1+un x b*un x b:=by
  refine Rat.le_of_mul_le_mul_right (c:=p2 b*p2 b) ?_ BB;have m:=mul_nn (show 0<=un x b*un x b*p2 b-Q by grind) (Rat.le_of_lt B0);grind
 have q2:1+un x b*un x b-6*(p2 b)⁻¹<=ρ*ρ:=by
  refine Rat.le_of_mul_le_mul_right (c:=p2 b*p2 b) ?_ BB;have m:=mul_nn (show 0<=Q-(un x b*un x b*p2 b-1) by grind) (Rat.le_of_lt B0);have m2:=mul_nn (show 0<=2-ρ by grind) (Rat.le_of_lt B0);have e:(p2 b)⁻¹*(p2 b*p2 b)=p2 b:=by rw[<-Rat.mul_assoc,Rat.mul_comm (p2 b)⁻¹,Bm,Rat.one_mul]
  have e2:(1+un x b*un x b-6*(p2 b)⁻¹)*(p2 b*p2 b)=(1+un x b*un x b)*(p2 b*p2 b)-6*((p2 b)⁻¹*(p2 b*p2 b)):=by grind
  rw[e2,e];grind
 have eH:(halve x b).n=x.n*2^b/(2^b+halR x b):=rfl;have D0:0<2^b+halR x b:=by have:=Nat.two_pow_pos b;omega
 have t1:=Nat.div_mul_le_self (x.n*2^b) (2^b+halR x b);have t2:x.n*2^b<=(x.n*2^b/(2^b+halR x b)+1)*(2^b+halR x b):=Nat.le_of_lt (Nat.lt_mul_of_div_lt (Nat.lt_succ_self _) D0);rw[<-eH]at t1 t2;have u1:=qak t1;have u2:=qak t2;rw[Rat.natCast_mul,Rat.natCast_mul,Rat.natCast_add,qbk,<-ρB,<-xu,<-quu (halve x b) b]at u1;rw[Rat.natCast_mul,Rat.natCast_mul,qaj,Rat.natCast_add,qbk,<-ρB,<-xu,<-quu (halve x b) b]at u2;refine⟨ρ,un x b-un (halve x b) b*(1+ρ),1+un x b*un x b-ρ*ρ,by grind,ρ1,by grind,?_,?_,by grind,by grind⟩
 ·have:un (halve x b) b*(1+ρ)<=un x b:=by
   refine Rat.le_of_mul_le_mul_right (c:=p2 b*p2 b) ?_ BB;grind
  grind
 ·have:un x b-3*(p2 b)⁻¹<=un (halve x b) b*(1+ρ):=by
   refine Rat.le_of_mul_le_mul_right (c:=p2 b*p2 b) ?_ BB;have e:(p2 b)⁻¹*(p2 b*p2 b)=p2 b:=by rw[<-Rat.mul_assoc,Rat.mul_comm (p2 b)⁻¹,Bm,Rat.one_mul]
   have e2:(un x b-3*(p2 b)⁻¹)*(p2 b*p2 b)=un x b*(p2 b*p2 b)-3*((p2 b)⁻¹*(p2 b*p2 b)):=by grind
   rw[e2,e];have m2:=mul_nn (show 0<=2-ρ by grind) (Rat.le_of_lt B0);grind
  grind
theorem qvq {x:Fx}{b:Nat}{x0:Rat}(h:x.n<=2^b)(h0:0<=x0)(h1:x0<=1)(hd:Bd (un x b-x0) (p2 b)⁻¹):∀j n,b<=n->Bd (un (halv x b j) b-hvn j x0 n) ((1+13*(j:Rat))*(p2 b)⁻¹)
 |0,n,_=>by rw[show((0:Nat):Rat)=0 from rfl];obtain⟨u,v⟩:=hd;show Bd (un x b-x0) _;constructor<;>grind
 |j+1,n,hn=>by
  have ih:=qvq h h0 h1 hd j n hn;obtain⟨hb,_⟩:=qkm h j;obtain⟨ρ,e1,e3,a1,a2,a3,a4,a5,a6,a7⟩:=qad8 hb;obtain⟨b1,b2,_⟩:=q4y h0 h1 n j;obtain⟨c1,c2⟩:=hv_bd b1 b2 n;obtain⟨d1,d2⟩:=qg7 b1 b2;obtain⟨r1,r2,r3,r4⟩:=qyy d1 d2 n;have B0:=qbw b;have Bi:=Rat.inv_pos.2 B0;have pn:(p2 n)⁻¹<=(p2 b)⁻¹:=qin B0 (qak (Nat.pow_le_pow_right (by omega) hn));obtain⟨x1,x2⟩:=un_bd hb;rw[Rat.div_def]at r3;have key:=qad7 (f1:=0) (f3:=1+hvn j x0 n*hvn j x0 n-rt (1+hvn j x0 n*hvn j x0 n) n*rt (1+hvn j x0 n*hvn j x0 n) n) a1 (by rw[hv_eq b1 b2 n];grind) a2 r1 a3 (by grind) x1 x2 b1 b2 c1 (by grind) a4 (by grind) a6 (by grind) ih;show Bd (un (halve (halv x b j) b) b-hv (hvn j x0 n) n) _;obtain⟨u,v⟩:=key;rw[qaj];constructor<;>grind
theorem qaf7 {z w:Rat}(h0:0<=z)(h:z<=w)(h1:4*w<=1)(n:Nat):Bd (at' w n-at' z n) (2*(w-z)):=by
 have key:Bd (at' w n-at' z n) ((w-z)*ps (ev w) n):=by
  have st:∀k,Bd (lta w k-lta z k) ((w-z)*ev w k):=fun k=>by
   have a:=lt_up h0 h k;have b:=lt_lo h0 h k;have c:=mul_nn (show 0<=w-z by grind) (ev_nn z k);unfold lta;rcases qwg k with e|e<;>rw[e]<;>constructor<;>grind
  unfold at';induction n with
  |zero=>exact st 0
  |succ n ih=>
   obtain⟨a,b⟩:=ih.add (st (n+1));simp only[ps];constructor<;>grind
 have m:=mul_nn (show 0<=w-z by grind) (show 0<=2-ps (ev w) n by have:=ql4 (z:=w) (by grind) h1 n;grind);obtain⟨a,b⟩:=key;constructor<;>grind
theorem qais {z w D:Rat}(hz:0<=z/\4*z<=1)(hw:0<=w/\4*w<=1)(hD:Bd (z-w) D)(n:Nat):Bd (at' z n-at' w n) (2*D):=by
 obtain⟨u,v⟩:=hD;rcases(inferInstance:Decidable (z<=w))with h|h
 ·obtain⟨a,b⟩:=qaf7 hw.1 (show w<=z by grind) hz.2 n;constructor<;>grind
 ·obtain⟨a,b⟩:=qaf7 hz.1 h hw.2 n;constructor<;>grind
theorem od_le {z:Rat}(h0:0<=z)(h1:z<=1)(j:Nat):od z j<=z:=by
 induction j with
 |zero=>exact Rat.le_refl
 |succ j ih=>
  have o:=od_nn h0 j;have zz:z*z<=1:=by have:=qbh (a:=z) (b:=1) (c:=z) (d:=1) h1 h1 (by decide) h0;grind
  have:=mul_nn o (show 0<=1-z*z by grind);simp only[od];grind
theorem q5m {x:Fx}{b:Nat}{x0:Rat}(hn:x.neg=false)(h:x.n<=2^b)(hb:8<=b)(h0:0<=x0)(h1:x0<=1)(hd:Bd (un x b-x0) (p2 b)⁻¹) :
 ∃N,∀n,N<=n->Bd (((arcI x b).int:Rat)-th0 x0 n*p2 b) (16*(b:Rat)+1000):=by
 have B0:=qbw b;have Bi:=Rat.inv_pos.2 B0;have Bm:=qar B0;have B1:256<=p2 b:=qak (Nat.pow_le_pow_right (show 0<2 by omega) hb);obtain⟨y1,y8⟩:=qkm h 3;have yn:=qw1 (b:=b) hn 3;have⟨y,hy⟩:∃y,y=halv x b 3:=⟨_,rfl⟩
 have⟨z,hz⟩:∃z,z=un y b:=⟨_,rfl⟩
 have zB:z*p2 b=(y.n:Rat):=by rw[hz];exact quu y b
 have close:=fun n hn=>qvq h h0 h1 hd 3 n hn
 rw[<-hy,<-hz]at close;rw[<-hy]at y1 y8 yn;have z0:0<=z:=by rw[hz];exact(un_bd y1).1
 have z8:8*z<=1:=by
  have c:=qak y8;rw[Rat.natCast_mul,qbk,qbk,qwq,<-zB]at c;refine Rat.le_of_mul_le_mul_right (c:=p2 b) ?_ B0;grind
 have⟨q,hq⟩:∃q,q=arcQ x b:=⟨_,rfl⟩
 have eq:q=y.times y b:=by rw[hq,hy];rfl
 have qn:q.neg=false:=by rw[eq];exact q1f _ _
 have qe:0<=z*z*p2 b-(q.n:Rat)/\z*z*p2 b-(q.n:Rat)<=1:=by
  have d:=qcy (a:=y.n*y.n) (d:=2^b) (Nat.two_pow_pos b);rw[qbk,Rat.div_def,Rat.natCast_mul,<-zB]at d;have e:z*p2 b*(z*p2 b)*(p2 b)⁻¹=z*z*p2 b:=by
   have:z*p2 b*(z*p2 b)*(p2 b)⁻¹=z*z*p2 b*(p2 b*(p2 b)⁻¹):=by grind
   rw[this,Bm,Rat.mul_one]
  rw[e]at d;have e2:q.n=y.n*y.n/2^b:=by rw[eq];rfl
  rw[e2];exact d
 have eA:arcA x b=altG (fun a=>a.times q b) (y.n+1) (0+1) y y:=by rw[hq,hy];rfl
 have zz:z*z<=1/64:=by
  have:=qbh (a:=z) (b:=1/8) (c:=z) (d:=1/8) (by grind) (by grind) (by grind) z0;grind
 have key:=qx6 (fun a=>a.times q b) (z:=z) (B:=p2 b) z0 (by grind) y.n (fun p j hp hpn hb2=>by
  refine⟨?_,?_,?_⟩
  ·show(p.neg != q.neg)=false;rw[hpn,qn];rfl
  ·have d:=qcy (a:=p.n*q.n) (d:=2^b) (Nat.two_pow_pos b);rw[qbk,Rat.div_def,Rat.natCast_mul]at d;show Bd (((p.n*q.n/2^b:Nat):Rat)-od z j*(z*z)*p2 b) 2;obtain⟨d1,d2⟩:=d;have o0:=od_nn z0 j;have o1:=od_le z0 (show z<=1 by grind) j;obtain⟨u1,u2⟩:=hb2;obtain⟨v1,v2⟩:=qe;have⟨e,he⟩:∃e:Rat,e=(p.n:Rat)-od z j*p2 b:=⟨_,rfl⟩
   have⟨f,hf⟩:∃f:Rat,f=z*z*p2 b-(q.n:Rat):=⟨_,rfl⟩
   rw[<-he]at u1 u2;rw[<-hf]at v1 v2;have ep:(p.n:Rat)=od z j*p2 b+e:=by grind
   have eqq:(q.n:Rat)=z*z*p2 b-f:=by grind
   rw[ep,eqq]at d1 d2;have ex:(od z j*p2 b+e)*(z*z*p2 b-f)*(p2 b)⁻¹=od z j*(z*z)*p2 b+e*(z*z)-od z j*f-e*f*(p2 b)⁻¹:=by
    have:(od z j*p2 b+e)*(z*z*p2 b-f)*(p2 b)⁻¹=(od z j*(z*z)*p2 b+e*(z*z)-od z j*f)*(p2 b*(p2 b)⁻¹)-e*f*(p2 b)⁻¹:=by grind
    rw[this,Bm,Rat.mul_one]
   rw[ex]at d1 d2;have ii:(p2 b)⁻¹<=1/256:=by
    have:=qin (show(0:Rat)<256 by decide) B1;have e3:(256:Rat)⁻¹=1/256:=by grind
    grind
   have be:Bd e 2:=⟨u1,u2⟩
   have t1:=be.mul (show Bd (z*z) (1/64) from⟨by have:=sq_nn z;grind,zz⟩);have t2:=(show Bd (od z j) (1/8) from⟨by grind,by grind⟩).mul (show Bd f 1 from⟨by grind,v2⟩);have t3:=(be.mul (show Bd f 1 from⟨by grind,v2⟩)).mul (show Bd (p2 b)⁻¹ (1/256) from⟨by grind,ii⟩);obtain⟨t1a,t1b⟩:=t1;obtain⟨t2a,t2b⟩:=t2;obtain⟨t3a,t3b⟩:=t3;generalize e*f*(p2 b)⁻¹=T3 at *
   generalize od z j*f=T2 at *
   generalize e*(z*z)=T1 at *
   generalize od z j*(z*z)*p2 b=T0 at *
   clear ex ep eqq he hf;constructor<;>grind
  ·have nl:=qr9 (a:=p) h;rw[<-hq]at nl;show 2*(p.times q b).n<=p.n;omega) (b+2) (Rat.le_of_lt B0) (y.n+1) 0 y y (Nat.le_refl _) (Nat.lt_succ_self _) yn (by
    have:=qao y1;rw[qbb]at this;omega) (by
   simp only[od];rw[zB];constructor<;>grind) (by
   rw[qf5 yn,show((0:Nat):Rat)=0 from rfl];have e0:at' z 0=z:=by
    show sg 0*lt z 0=_;unfold lt;simp only[od,sg];rw[show((2*0+1:Nat):Rat)=1 from rfl];grind
   rw[e0,zB];constructor<;>grind)
 obtain⟨N,hN⟩:=key;refine⟨max N b,fun n hn=>?_⟩;have k1:=hN n (by omega);rw[<-eA]at k1;have k2:=close n (by omega);obtain⟨t0,t8⟩:=q96 h0 h1 n;have k3:=qais (z:=z) (w:=hvn 3 x0 n) ⟨z0,by grind⟩ ⟨t0,by grind⟩ k2 n;rw[show((3:Nat):Rat)=3 from rfl]at k3;obtain⟨a1,a2⟩:=k1;obtain⟨c1,c2⟩:=k3;have m1:=mul_nn (show 0<=2*((1+13*3)*(p2 b)⁻¹)-(at' z n-at' (hvn 3 x0 n) n) by grind) (Rat.le_of_lt B0);have m2:=mul_nn (show 0<=2*((1+13*3)*(p2 b)⁻¹)+(at' z n-at' (hvn 3 x0 n) n) by grind) (Rat.le_of_lt B0);have e80:2*((1+13*3)*(p2 b)⁻¹)*p2 b=80:=by
  have:2*((1+13*3)*(p2 b)⁻¹)*p2 b=80*(p2 b*(p2 b)⁻¹):=by grind
  rw[this,Bm];grind
 have eJ:((b+2:Nat):Rat)=(b:Rat)+2:=by rw[qaj,qaj];grind
 rw[eJ]at a1 a2;have eI:((arcI x b).int:Rat)=8*((arcA x b).int:Rat):=by
  have an:(arcA x b).neg=false:=by
   rw[eA];exact(qpc (fun a=>a.times q b) 64 (by omega) (fun a=>by rw[hq];exact qr9 h) (fun a h=>by show(a.neg != q.neg)=false;rw[h,qn];rfl) (y.n+1) 1 y y (by omega) yn yn (Nat.le_refl _)).1
  rw[qf5 an,qf5 (show(arcI x b).neg=false from rfl)];show(((arcA x b).n*2^3:Nat):Rat)=_;rw[Rat.natCast_mul,qbk,qwq];grind
 rw[eI];unfold th0;constructor<;>grind
theorem qabz {d:Dy}(ok:d.Ok)(h:d.m≠[]):d.rat=sgr d.neg*d.abs.rat/\0<d.abs.rat:=by
 have e:=q5s ok h;have oa:=qdx ok;have he:=ok.elo;have pn:0<natV d.m:=by have:=ok.odd h;omega
 have h1:=qu3 (d:=d) (a:=16384) (c:=(d.e+16384).toNat) (by omega) (by omega);have h2:=qu3 (d:=d.abs) (a:=16384) (c:=(d.e+16384).toNat) (by rw[e];show 0<=d.e+16384;omega) (by rw[e];show d.e+_=_;omega);rw[show d.abs.neg=false by rw[e],show d.abs.m=d.m by rw[e],show sgr false=1 from rfl,Rat.one_mul]at h2;have P:=qbw 16384;have Q:=qbw (d.e+16384).toNat;have M:=qak (show 1<=natV d.m from pn);rw[show((1:Nat):Rat)=1 from rfl]at M;constructor
 ·refine qnn (c:=p2 16384) (by grind) ?_;rw[h1,Rat.mul_assoc,<-h2];grind
 ·rcases(inferInstance:Decidable (0<d.abs.rat))with h3|h3
  ·exfalso;have m1:=mul_nn (show 0<=-d.abs.rat by grind) (Rat.le_of_lt P);have m2:=Rat.mul_pos (show 0<(natV d.m:Rat) by grind) Q;grind
  ·exact h3
theorem q3f {x:Fx}{b:Nat}{q:Rat}(hn:x.neg=false)(h:Bd ((x.int:Rat)-q*p2 b) 1):Bd (un x b-q) (p2 b)⁻¹:=by
 have B0:=qbw b;have Bm:=qar B0;rw[qf5 hn,<-quu x b]at h;obtain⟨u,v⟩:=h;constructor
 ·refine Rat.le_of_mul_le_mul_right (c:=p2 b) ?_ B0;have:-(p2 b)⁻¹*p2 b=-1:=by rw[Rat.neg_mul,Rat.mul_comm,Bm]
  rw[this];grind
 ·refine Rat.le_of_mul_le_mul_right (c:=p2 b) ?_ B0;have:(p2 b)⁻¹*p2 b=1:=by rw[Rat.mul_comm,Bm]
  rw[this];grind
theorem q5r {d:Dy}(ok:d.Ok):d.abs.cmp (nD 1)<=0↔d.abs.rat<=1:=by
 rw[qe6 (qdx ok) nD1,cmpI_le,<-rat_le,qnw]
theorem qadm {a:Dy}{b:Nat}(ok:a.Ok)(hm:a.m≠[])(hn:a.neg=false)(h:1<a.rat):Bd (((recI a b).int:Rat)-1/a.rat*p2 b) 1:=by
 have he:=ok.elo;have pn:0<natV a.m:=by have:=ok.odd hm;omega
 have B0:=qbw b;have ai:=Rat.inv_pos.2 (show 0<a.rat by grind);have am:=qar (show 0<a.rat by grind);have M:=qak (show 1<=natV a.m from pn);rw[show((1:Nat):Rat)=1 from rfl]at M;rw[qf5 (qwk a b),Rat.div_def,Rat.one_mul];unfold recI;split
 ·rename_i hb;have⟨k,hk⟩:∃k:Nat,k=a.e.toNat:=⟨_,rfl⟩
  have e1:=qu3 (d:=a) (a:=0) (c:=k) (by omega) (by omega);rw[hn,show sgr false=1 from rfl,Rat.one_mul,show p2 0=1 from rfl,Rat.mul_one]at e1;have hkb:p2 b<=p2 k:=qak (Nat.pow_le_pow_right (by omega) (by omega));have K0:=qbw k;have big:p2 b<=a.rat:=by
   rw[e1];have:=mul_nn (show 0<=(natV a.m:Rat)-1 by grind) (Rat.le_of_lt K0);grind
  have m1:=Rat.mul_le_mul_of_nonneg_left big (Rat.le_of_lt ai);rw[Rat.mul_comm (a.rat)⁻¹ a.rat,am]at m1;have m2:=mul_nn (Rat.le_of_lt ai) (Rat.le_of_lt B0);show Bd (((0:Nat):Rat)-_) 1;rw[show((0:Nat):Rat)=0 from rfl];constructor<;>grind
 ·rename_i hb;have⟨k,hk⟩:∃k:Nat,k=(b-a.e).toNat:=⟨_,rfl⟩
  have e1:=qu3 (d:=a) (a:=k) (c:=b) (by omega) (by omega);rw[hn,show sgr false=1 from rfl,Rat.one_mul]at e1;obtain⟨d1,d2⟩:=qcy (a:=2^k) (d:=natV a.m) pn;rw[qbk,Rat.div_def]at d1 d2;have Mi:=qar (show 0<(natV a.m:Rat) by grind);have e2:p2 k*(natV a.m:Rat)⁻¹=(a.rat)⁻¹*p2 b:=by
   have h1:(natV a.m:Rat)⁻¹*(a.rat)⁻¹*(a.rat*p2 k)=(natV a.m:Rat)⁻¹*(a.rat)⁻¹*((natV a.m:Rat)*p2 b):=by rw[e1]
   have h2:(natV a.m:Rat)⁻¹*(a.rat)⁻¹*(a.rat*p2 k)=p2 k*(natV a.m:Rat)⁻¹*(a.rat*(a.rat)⁻¹):=by grind
   have h3:(natV a.m:Rat)⁻¹*(a.rat)⁻¹*((natV a.m:Rat)*p2 b)=(a.rat)⁻¹*p2 b*((natV a.m:Rat)*(natV a.m:Rat)⁻¹):=by grind
   rw[h2,h3,am,Mi,Rat.mul_one,Rat.mul_one]at h1;exact h1
  rw[e2]at d1 d2;rw[<-hk];simp only[];constructor<;>grind
theorem qaey {d:Dy}{b:Nat}(ok:d.Ok)(h0:d.m≠[])(hb:10<=b)(hb2:b<=1000):∃N,∀n,N<=n->Bd (((angV d b).int:Rat)-thp d.abs.rat n*p2 b) 100000:=by
 have oa:=qdx ok;obtain⟨_,rp⟩:=qabz ok h0;have eabs:=q5s ok h0;have am:d.abs.m=d.m:=by rw[eabs]
 have ae:d.abs.e=d.e:=by rw[eabs]
 have an:d.abs.neg=false:=by rw[eabs]
 have pn:0<natV d.m:=by have:=ok.odd h0;omega
 have hl1:=q2w ok h0;have bb:=qak hb2;rw[show((1000:Nat):Rat)=1000 from rfl]at bb;unfold angV thp;split
 ·rename_i hc;have hr:=(q5r ok).1 hc;rw[if_pos hr];have ofl:=q84 (d:=d.abs) (b:=b) (by rw[am,ae];exact hl1.1 hc);have fn:(Fx.of d.abs b).neg=false:=by rw[q83];exact an
  obtain⟨N,hN⟩:=q5m fn ofl (by omega) (Rat.le_of_lt rp) hr (q3f fn (q4b oa));exact⟨N,fun n hn=>by obtain⟨u,v⟩:=hN n hn;constructor<;>grind⟩
 ·rename_i hc;have hr:¬d.abs.rat<=1:=fun h=>hc ((q5r ok).2 h)
  rw[if_neg hr];have l1:¬(d.e<=0/\natV d.m<=2^(-d.e).toNat):=fun h=>hc (hl1.2 h)
  have rl:=q8o (d:=d.abs) (b:=b) (by rw[am];exact pn) (by rw[am,ae];exact l1);obtain⟨i0,i1,_⟩:=qvl (show 1<d.abs.rat by grind);obtain⟨N,hN⟩:=q5m (qwk d.abs b) rl (by omega) i0 i1 (q3f (qwk d.abs b) (qadm oa (by rw[am];exact h0) an (by grind)));obtain⟨M,hM⟩:=q4z hb (by omega);refine⟨max N M,fun n hn=>?_⟩;obtain⟨u,v⟩:=hN n (by omega);obtain⟨s,t⟩:=hM n (by omega);rw[qd6,qdc,Rat.intCast_add,Rat.intCast_neg,qf5 (show(Fx.mk false ((piI b).n/2^1)).neg=false from rfl),Nat.pow_one];simp only[];constructor<;>grind
theorem q1q (a:Fx)(s:Bool):((Fx.mk (a.neg != s) a.n).int:Rat)=sgr s*(a.int:Rat):=by
 rw[qnx,qnx];cases a.neg<;>cases s<;>simp[sgr]<;>grind
theorem qaj1 {d:Dy}(ok:d.Ok)(h:d.m≠[])(n:Nat):th d.rat n=sgr d.neg*thp d.abs.rat n:=by
 obtain⟨e,p⟩:=qabz ok h;have hs:(d.neg=false/\sgr d.neg=1)\/(d.neg=true/\sgr d.neg=-1):=by cases d.neg<;>simp[sgr]
 unfold th;rcases hs with ⟨_,h1⟩|⟨_,h1⟩<;>rw[h1]at e ⊢
 ·rw[Rat.one_mul]at e;rw[e,if_pos (Rat.le_of_lt p),Rat.one_mul]
 ·have e2:d.rat=-d.abs.rat:=by grind
  rw[e2,if_neg (by grind),show - -d.abs.rat=d.abs.rat by grind];grind
theorem qagk : th 0=fun _=>0:=by
 rw[q7q Rat.le_refl];exact funext qacw
theorem q01 {d:Dy}{p:Int}(ok:d.Ok)(hp:precB p=true):(qdw d p.toNat).Bt (-pw 16385) (pw 16385)/\(qdw d p.toNat).Has (th d.rat):=by
 obtain⟨h1,h2⟩:=qnt hp;have p0:=qas 16384;have p5:pw 16385=2*pw 16384:=qbr 16384;unfold qdw;split
 ·rename_i hm;have z:d.val=0:=by have:=qfj d;have:=Dy.absN_nil hm;omega
  refine⟨⟨qbd ok ok (Int.le_refl _),by show _<=d.val;omega,by show d.val<=_;omega⟩,?_⟩;have:=pt_In d;rw[qes hm]at this ⊢;rw[qagk];exact this.has
 ·rename_i hm;have e:((p.toNat:Nat):Int)=p:=by omega
  rw[e];have al:=qaiu (b:=p.toNat+64) ok hm (by omega);have big:2^30<=2^(p.toNat+64):=Nat.pow_le_pow_right (by omega) (by omega);have e30:(2:Nat)^30=1073741824:=rfl;have e24:(2:Nat)^24=16777216:=rfl;have bl:bitL (angV d (p.toNat+64)).n<=4000:=by
   have h3:=qbj (a:=2) (b:=2^(p.toNat+64));have h4:bitL 2=2:=by decide
   have h5:=qbb (p.toNat+64);have h6:=qao (show(angV d (p.toNat+64)).n<=2*2^(p.toNat+64) by omega);omega
  refine⟨q4c hp (by omega) (by simp only[];omega),qwu hp bl (by omega) ?_⟩;obtain⟨N,hN⟩:=qaey (b:=p.toNat+64) ok hm (by omega) (by omega);refine⟨N,fun n hn=>?_⟩;obtain⟨u,v⟩:=hN n hn;rw[q1q,qaj1 ok hm];rcases qoo d.neg with h|h<;>rw[h]<;>constructor<;>grind
theorem qaex {x:Iv}{p:Int}{q:Rat}(w:x.W)(hp:precB p=true)(k:x.known=true)(h1:x.lo.rat<=q)(h2:q<=x.hi.rat):(atanI x p).known=true/\(atanI x p).Has (th q):=by
 obtain⟨ol,oh⟩:=qai w k;obtain⟨bl,hl⟩:=q01 ol hp;obtain⟨bh,hh⟩:=q01 oh hp;have wl:(qdw x.lo p.toNat).W:=qm1 ol.w;have wh:(qdw x.hi p.toNat).W:=qm1 oh.w;unfold atanI;rw[hp,k,if_pos (show(true&&true)=true from rfl)];generalize qdw x.lo p.toNat=A at *
 generalize qdw x.hi p.toNat=B at *
 obtain⟨kC,vl,vh⟩:=qvn wl wh bl.k bh.k;obtain⟨sl1,sl2⟩:=qjt bl.k hl;obtain⟨sh1,sh2⟩:=qjt bh.k hh;refine⟨kC,qrt (wl.hull wh) fun _=>⟨?_,?_⟩⟩
 ·have a:(A.hull B).lo.rat<=A.lo.rat:=rat_le.2 (by omega);exact(SLe.of_le 0 fun _ _=>a).trans (sl1.trans (q7r h1))
 ·have a:B.hi.rat<=(A.hull B).hi.rat:=rat_le.2 (by omega);exact(q7r h2).trans (sh2.trans (SLe.of_le 0 fun _ _=>a))
theorem qx4 {x:Iv}{p:Int}{q:Rat}(w:x.W)(h:x.In q):(atanI x p).Gd/\(atanI x p).Has (th q):=by
 by_cases hc:(precB p&&x.known)=true
 ·have hc2:=hc;simp only[Bool.and_eq_true]at hc2;obtain⟨a,b⟩:=qg1 h hc2.2;obtain⟨k,h⟩:=qaex w hc2.1 hc2.2 a b;exact⟨.inr k,h⟩
 ·unfold atanI;rw[if_neg hc];exact⟨.inl rfl,.whole⟩
end Go.Abs.W
