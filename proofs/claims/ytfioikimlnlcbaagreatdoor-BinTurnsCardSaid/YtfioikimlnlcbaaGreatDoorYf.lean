/- Parts of the proof: FpYo, FpYp, FpYq, FpYr, FpYs. -/
import Derived.Test.YtfioikimlnlcbaaGreatDoorYd
import Derived.Test.YtfioikimlnlcbaaGreatDoorYa
import Derived.Test.YtfioikimlnlcbaaGreatDoorTa
import Derived.Test.YtfioikimlnlcbaaGreatDoorYe
namespace Go.Abs.W
def pe (f:Nat->Rat):Nat->Rat
 |0=>0
 |k+1=>pe f k+f k
theorem pe_ps (f:Nat->Rat)(n:Nat):pe f (n+1)=ps f n:=by
 induction n with
 |zero=>simp only[pe,ps];grind
 |succ n ih=>rw[pe,ih,ps]
theorem q8m {f:Nat->Rat}:∀(j K:Nat),(∀k,K<=k->∃q:Rat,0<=q/\q<=1/\f (k+1)=-(q*f k))->∃c:Rat,0<=c/\c<=1/\pe f (K+j)=pe f K+c*f K
 |0,K,_=>⟨0,by grind,by grind,by grind⟩
 |j+1,K,h=>by
  obtain⟨c,c0,c1,e⟩:=q8m j (K+1) (fun k hk=>h k (by omega));obtain⟨q,q0,q1,e2⟩:=h K (Nat.le_refl _);have h1:=mul_nn c0 q0;have h2:=qcj c1 q1 (by grind) q0;refine⟨1-c*q,by grind,by grind,?_⟩;rw[show K+(j+1)=K+1+j by omega,e,e2,pe];grind
theorem qabl {u v c:Rat}(h:u=c*v)(c0:0<=c)(c1:c<=1):Bd u v\/Bd u (-v):=by
 subst h;rcases(by grind:0<=v\/v<=0)with hv|hv
 ·left;have h1:=mul_nn c0 hv;have h2:=rmulR c1 hv;constructor<;>grind
 ·right;have h1:=mul_nn c0 (show 0<=-v by grind);have h2:=rmulR c1 (show 0<=-v by grind);constructor<;>grind
theorem qxu {m:Nat}(hm:1<=m):(0:Rat)<(m:Rat):=by
 have:=qh8 (m-1);rwa[show m-1+1=m by omega]at this
theorem q2w (m:Nat):(Nm.whole (m:Int)).q=(m:Rat):=qmz m
theorem q1f {m w:Nat}(hm:1<=m):(partS m w).In (1/m):=by
 have h1:=qn9 (Nm.whole 1);have h2:=qn9 (Nm.whole (m:Int));rw[q2w]at h2;have h3:(Nm.whole 1).q=1:=qmz 1;rw[h3]at h1;refine q3g h1 h2 (.inl ?_);show 0<(Nm.whole (m:Int)).q;rw[q2w];exact qxu hm
theorem qafj {m w:Nat}(hm:1<=m):∀k,(atS m w k).1.In (pe (lta (1/m)) k)/\(atS m w k).2.In (sg k*od (1/m) k)
 |0=>by
  refine⟨⟨?_,?_⟩,?_⟩
  ·simp[atS,Sp.zero,Nm.q,Nm.mag,Nm.zero,pe]
  ·simp[atS,Sp.zero,Nm.q,Nm.mag,Nm.zero,pe]
  ·have:=q1f (w:=w) hm;simp only[atS,sg,od];rwa[show(1:Rat)*(1/m)=1/m by grind]
 |k+1=>by
  obtain⟨h1,h2⟩:=qafj hm (w:=w) k;have pt:=qn9 (Nm.whole (2*(k:Int)+1));have e1:(Nm.whole (2*(k:Int)+1)).q=((2*k+1:Nat):Rat):=by rw[qmz];push_cast;rfl
  rw[e1]at pt;have q:=q3g (p:=w) h2 pt (.inl (by show 0<(Nm.whole (2*(k:Int)+1)).q;rw[e1];exact qh8 _));have s:=qpc (p:=w) h1 q;have sq:(atSq m w).In (-((1/(m:Rat))*(1/m))):=qpf (qoa (q1f (w:=w) hm) (q1f (w:=w) hm));have t:=qoa (p:=w) h2 sq;refine⟨?_,?_⟩
  ·rw[pe];have:lta (1/(m:Rat)) k=sg k*od (1/m) k/((2*k+1:Nat):Rat):=by unfold lta lt;grind
   rw[this];exact s
  ·have:sg (k+1)*od (1/(m:Rat)) (k+1)=sg k*od (1/m) k*-((1/(m:Rat))*(1/m)):=by simp only[sg,od];grind
   rw[this];exact t
theorem q1j {m:Nat}(hm:1<=m):0<=1/(m:Rat)/\1/(m:Rat)<=1:=by
 have h0:=qxu hm;have h1:(1:Rat)<=m:=by have:=qa2 hm;simpa using this
 have e:1/(m:Rat)*m=1:=Rat.div_mul_cancel (by grind);have n0:0<=1/(m:Rat):=by
  rcases(by grind:0<=1/(m:Rat)\/1/(m:Rat)<0)with h|h
  ·exact h
  ·have:=Rat.mul_pos (show 0 < -(1/(m:Rat)) by grind) h0;grind
 refine⟨n0,?_⟩;have:=rmulL h1 n0;grind
theorem qag6 {m:Nat}(hm:1<=m)(k:Nat):∃q:Rat,0<=q/\q<=1/\lta (1/m) (k+1)=-(q*lta (1/m) k):=by
 obtain⟨z0,z1⟩:=q1j hm;have⟨z,hz⟩:∃z:Rat,z=1/m:=⟨_,rfl⟩
 rw[<-hz]at z0 z1 ⊢;have hzz:=mul_nn z0 z0;have hzz1:=qcj z1 z1 (by grind) z0;have a0:(0:Rat)<((2*k+1:Nat):Rat):=qh8 _;have b0:(0:Rat)<((2*(k+1)+1:Nat):Rat):=qh8 _;have ab:((2*k+1:Nat):Rat)<=((2*(k+1)+1:Nat):Rat):=qa2 (by omega);unfold lta lt;simp only[sg,od];generalize ((2*k+1:Nat):Rat)=a at *
 generalize ((2*(k+1)+1:Nat):Rat)=b at *
 have hr:0<=a/b/\a/b<=1:=by
  have e:a/b*b=a:=Rat.div_mul_cancel (by grind);constructor
  ·rcases(by grind:0<=a/b\/a/b<0)with h|h
   ·exact h
   ·have:=Rat.mul_pos (show 0 < -(a/b) by grind) b0;grind
  ·rcases(by grind:a/b<=1\/1<a/b)with h|h
   ·exact h
   ·have:=Rat.mul_pos (show 0<a/b-1 by grind) b0;grind
 refine⟨z*z*(a/b),mul_nn hzz hr.1,?_,?_⟩
 ·have:=qcj (show z*z<=1 by grind) hr.2 (by grind) hr.1;grind
 ·have ha:a≠0:=by grind
  have hb:b≠0:=by grind
  grind
theorem q0k {m w:Nat}(hm:1<=m)(N:Nat)(hN:w/4+4<=N+1):(qe8 m w).In (at' (1/m) N):=by
 have⟨K,hK⟩:∃K,K=w/4+4:=⟨_,rfl⟩
 obtain⟨h1,h2⟩:=qafj hm (w:=w) K;obtain⟨c,c0,c1,e⟩:=q8m (f:=lta (1/m)) (N+1-K) K (fun k _=>qag6 hm k);rw[show K+(N+1-K)=N+1 by omega,pe_ps]at e;unfold at';rw[e];have b0:(0:Rat)<((2*K+1:Nat):Rat):=qh8 _;have b1:(1:Rat)<=((2*K+1:Nat):Rat):=by have:=qa2 (show 1<=2*K+1 by omega);simpa using this
 have hl:lta (1/(m:Rat)) K=sg K*od (1/m) K/((2*K+1:Nat):Rat):=by unfold lta lt;grind
 have ha:qe8 m w=(atS m w K).1.sum (atS m w K).2.ar w:=by rw[hK];rfl
 rw[ha];refine qpc h1 (qafk h2 ?_);generalize ((2*K+1:Nat):Rat)=b at *
 have hb:b≠0:=by grind
 have hcb:0<=c/b/\c/b<=1:=by
  have e:c/b*b=c:=Rat.div_mul_cancel hb;constructor
  ·rcases(by grind:0<=c/b\/c/b<0)with h|h
   ·exact h
   ·have:=Rat.mul_pos (show 0 < -(c/b) by grind) b0;grind
  ·rcases(by grind:c/b<=1\/1<c/b)with h|h
   ·exact h
   ·have:=Rat.mul_pos (show 0<c/b-1 by grind) b0;grind
 refine qabl (c:=c/b) ?_ hcb.1 hcb.2;rw[hl];grind
theorem q1m {w:Nat}(N:Nat)(hN:w/4+4<=N+1):(halfS w).In (hpi N):=by
 have a:=q7z 3 (q0k (m:=5) (w:=w) (by omega) N hN);have b:=qpf (q7z 1 (q0k (m:=239) (w:=w) (by omega) N hN));have s:=qpc (p:=w) a b;have e:hpi N=at' (1/(5:Nat)) N*2^(3:Int)+-(at' (1/(239:Nat)) N*2^(1:Int)):=by
  unfold hpi e8;rw[show(2:Rat)^(3:Int)=8 from rfl,show(2:Rat)^(1:Int)=2 from rfl]
  push_cast
  grind
 rw[e];exact s
def ge (f:Nat)(v:Rat)(i:Nat):Rat:=if f=0 then ct v (2*i)else st v (2*i+1)
theorem q4l : ∀i:Nat,c4 (2*i+1)=0/\s4 (2*i)=0
 |0=>⟨by rw[show 2*0+1=0+1 from rfl,qcb,qc5];grind,qc5⟩
 |i+1=>by
  obtain⟨h1,h2⟩:=q4l i;have e2:s4 (2*(i+1))=0:=by rw[show 2*(i+1)=2*i+1+1 by omega,qbb,h1]
  exact⟨by rw[qcb,e2];grind,e2⟩
theorem q4k (n:Nat):c4 (n+2)=-c4 n/\s4 (n+2)=-s4 n:=by
 rw[show n+2=n+1+1 from rfl,qcb,qbb,qbb,qcb];exact⟨rfl,rfl⟩
theorem cs_pe (v:Rat):∀i:Nat,ps (ct v) (2*i)=pe (ge 0 v) (i+1)/\ps (ct v) (2*i+1)=pe (ge 0 v) (i+1)
 |0=>by
  have h:=(q4l 0).1;have e0:pe (ge 0 v) (0+1)=ct v 0:=by simp only[pe,ge,if_true];show 0+ct v 0=ct v 0;grind
  rw[e0];refine⟨rfl,?_⟩;show ps (ct v) 0+ct v 1=ct v 0;have:ct v 1=0:=by unfold ct;rw[show(1:Nat)=2*0+1 from rfl,h];grind
  rw[this];show ct v 0+0=ct v 0;grind
 |i+1=>by
  obtain⟨h1,h2⟩:=cs_pe v i;have h:=(q4l (i+1)).1;have e1:ps (ct v) (2*(i+1))=pe (ge 0 v) (i+1+1):=by
   have e:pe (ge 0 v) (i+1+1)=pe (ge 0 v) (i+1)+ge 0 v (i+1):=rfl;have e3:ge 0 v (i+1)=ct v (2*i+1+1):=by unfold ge;rw[if_pos rfl];congr 1
   rw[show 2*(i+1)=2*i+1+1 by omega,ps,h2,e,e3]
  refine⟨e1,?_⟩;rw[ps,e1];have:ct v (2*(i+1)+1)=0:=by unfold ct;rw[h];grind
  rw[this];grind
theorem ss_pe (v:Rat):∀i:Nat,ps (st v) (2*i)=pe (ge 1 v) i/\ps (st v) (2*i+1)=pe (ge 1 v) (i+1)
 |0=>by
  have e0:st v 0=0:=by unfold st;rw[qc5];grind
  have h1:ps (st v) (2*0)=0:=e0;refine⟨h1,?_⟩;rw[ps,h1,pe,pe];unfold ge;rw[if_neg (by omega)]
 |i+1=>by
  obtain⟨h1,h2⟩:=ss_pe v i;have h:=(q4l (i+1)).2;have e1:ps (st v) (2*(i+1))=pe (ge 1 v) (i+1):=by
   rw[show 2*(i+1)=2*i+1+1 by omega,ps,h2];have:st v (2*i+1+1)=0:=by unfold st;rw[show 2*i+1+1=2*(i+1) by omega,h];grind
   rw[this];grind
  refine⟨e1,?_⟩;rw[ps,e1,pe]
  congr 1
theorem qaeg (v:Rat)(n:Nat):tm v (n+2)*(((n+1:Nat):Rat)*((n+2:Nat):Rat))=tm v n*(v*v):=by
 have h1:=qjp v n;have h2:=qjp v (n+1);rw[show n+1+1=n+2 from rfl]at h2;generalize ((n+1:Nat):Rat)=a at *
 generalize ((n+2:Nat):Rat)=b at *
 grind
theorem q08 (f i:Nat):(0:Rat)<(seK f i:Nat):=by
 have:seK f i=(f+2*i+1)*(f+2*i+1)+(f+2*i+1-1)+1:=by
  unfold seK;rw[show f+2*i+2=f+2*i+1+1 by omega,Nat.mul_succ];omega
 rw[this];exact qh8 _
theorem q9b (f:Nat)(hf:f<=1)(v:Rat)(i:Nat):ge f v (i+1)=ge f v i*-(v*v)/(seK f i:Nat):=by
 have hk:=q08 f i;obtain rfl|rfl:f=0\/f=1:=by omega
 ·unfold ge;rw[if_pos rfl,if_pos rfl];unfold ct;rw[show 2*(i+1)=2*i+2 by omega,(q4k (2*i)).1];have h:=qaeg v (2*i);have e:((seK 0 i:Nat):Rat)=((2*i+1:Nat):Rat)*((2*i+2:Nat):Rat):=by unfold seK;rw[Nat.zero_add];push_cast;rfl
  rw[e]at hk ⊢;rw[<-e]at h hk ⊢;generalize ((seK 0 i:Nat):Rat)=k at *
  have:k≠0:=by grind
  grind
 ·unfold ge;rw[if_neg (by omega),if_neg (by omega)];unfold st;rw[show 2*(i+1)+1=2*i+1+2 by omega,(q4k (2*i+1)).2];have h:=qaeg v (2*i+1);have e:((seK 1 i:Nat):Rat)=((2*i+1+1:Nat):Rat)*((2*i+1+2:Nat):Rat):=by
   unfold seK;rw[show 1+2*i+1=2*i+1+1 by omega,show 1+2*i+2=2*i+1+2 by omega];push_cast;rfl
  rw[<-e]at h;generalize ((seK 1 i:Nat):Rat)=k at *
  have:k≠0:=by grind
  grind
theorem qaep {r:Sp}{f w:Nat}{v:Rat}(hf:f<=1)(hr:r.In v):∀i:Nat,(seS r f w i).1.In (pe (ge f v) i)/\(seS r f w i).2.In (ge f v i)
 |0=>by
  refine⟨⟨?_,?_⟩,?_⟩
  ·simp[seS,Sp.zero,Nm.q,Nm.mag,Nm.zero,pe]
  ·simp[seS,Sp.zero,Nm.q,Nm.mag,Nm.zero,pe]
  ·obtain rfl|rfl:f=0\/f=1:=by omega
   ·have h:=qn9 (Nm.whole 1);have h3:(Nm.whole 1).q=1:=qmz 1;rw[h3]at h;have e:ge 0 v 0=1:=by unfold ge ct;rw[if_pos rfl,Nat.mul_zero,qec];show 1*(1:Rat)=1;grind
    rw[e];exact h
   ·have e:ge 1 v 0=v:=by unfold ge st;rw[if_neg (by omega),show 2*0+1=0+1 from rfl,qbb,qec,q22];grind
    rw[e];exact hr
 |i+1=>by
  obtain⟨h1,h2⟩:=qaep hf hr (w:=w) i;have s:=qpc (p:=w) h1 h2;have sq:((r.prod r w).opp).In (-(v*v)):=qpf (qoa hr hr);have p:=qoa (p:=w) h2 sq;have pt:=qn9 (Nm.whole (seK f i:Nat));rw[q2w]at pt;have q:=q3g (p:=w) p pt (.inl (by show 0<(Nm.whole (seK f i:Nat)).q;rw[q2w];exact q08 f i));refine⟨s,?_⟩;rw[q9b f hf];exact q
theorem qakb {f:Nat}(hf:f<=1){v:Rat}(hv:Bd v 2)(k:Nat)(hk:8<=k):∃q:Rat,0<=q/\q<=1/\ge f v (k+1)=-(q*ge f v k):=by
 have h0:=q08 f k;have h4:(4:Rat)<=(seK f k:Nat):=by
  have:4<=seK f k:=by
   unfold seK;exact Nat.le_trans (show 4<=2*2 by omega) (Nat.mul_le_mul (by omega) (by omega))
  have:=qa2 this;simpa using this
 have hvv:=sq_nn v;have hv4:v*v<=4:=by
  obtain⟨a,b⟩:=Bd.mul hv hv;grind
 rw[q9b f hf];generalize ((seK f k:Nat):Rat)=K at *
 have hK:K≠0:=by grind
 refine⟨v*v/K,?_,?_,by grind⟩
 ·have e:v*v/K*K=v*v:=Rat.div_mul_cancel hK;rcases(by grind:0<=v*v/K\/v*v/K<0)with h|h
  ·exact h
  ·have:=Rat.mul_pos (show 0 < -(v*v/K) by grind) h0;grind
 ·have e:v*v/K*K=v*v:=Rat.div_mul_cancel hK;rcases(by grind:v*v/K<=1\/1<v*v/K)with h|h
  ·exact h
  ·have:=Rat.mul_pos (show 0<v*v/K-1 by grind) h0;grind
theorem qyd {r:Sp}{f w:Nat}{v:Rat}(hf:f<=1)(hr:r.In v)(hv:Bd v 2)(J:Nat)(hJ:w/2+8<=J):(qjr r f w).In (pe (ge f v) J):=by
 have⟨K,hK⟩:∃K,K=w/2+8:=⟨_,rfl⟩
 obtain⟨h1,h2⟩:=qaep hf hr (w:=w) K;obtain⟨c,c0,c1,e⟩:=q8m (f:=ge f v) (J-K) K (fun k hk=>qakb hf hv k (by omega));rw[show K+(J-K)=J by omega]at e;rw[e];have ha:qjr r f w=(seS r f w K).1.sum (seS r f w K).2.ar w:=by rw[hK];rfl
 rw[ha];exact qpc h1 (qafk h2 (qabl rfl c0 c1))
theorem qahs {r:Sp}{w:Nat}{v:Rat}(hr:r.In v)(hv:Bd v 2)(N:Nat)(hN:w+20<=N):(qjr r 0 w).In (cs v N):=by
 have h:=qyd (f:=0) (w:=w) (by omega) hr hv (N/2+1) (by omega);have e:cs v N=pe (ge 0 v) (N/2+1):=by
  unfold cs;rcases Nat.mod_two_eq_zero_or_one N with hm|hm
  ·have:=(cs_pe v (N/2)).1;rwa[show 2*(N/2)=N by omega]at this
  ·have:=(cs_pe v (N/2)).2;rwa[show 2*(N/2)+1=N by omega]at this
 rw[e];exact h
theorem qagc {r:Sp}{w:Nat}{v:Rat}(hr:r.In v)(hv:Bd v 2)(N:Nat)(hN:w+20<=N):(qjr r 1 w).In (ss v N):=by
 have h:=qyd (f:=1) (w:=w) (by omega) hr hv ((N+1)/2) (by omega);have e:ss v N=pe (ge 1 v) ((N+1)/2):=by
  unfold ss;rcases Nat.mod_two_eq_zero_or_one N with hm|hm
  ·have:=(ss_pe v (N/2)).1;rw[show 2*(N/2)=N by omega]at this;rw[this];congr 1;omega
  ·have:=(ss_pe v (N/2)).2;rw[show 2*(N/2)+1=N by omega]at this;rw[this];congr 1;omega
 rw[e];exact h
theorem fl_q {x:Nm}(h:x.n=0\/x.e<0):(x.fl:Rat)<=x.q/\x.q<x.fl+1:=by
 rcases h with h|h
 ·have hq:x.q=0:=by simp[Nm.q,Nm.mag,h]
  have hf:x.fl=0:=by
   unfold Nm.fl;rw[h];simp
  rw[hq,hf];constructor<;>grind
 ·have⟨k,hk⟩:∃k,k=(-x.e).toNat:=⟨_,rfl⟩
  have hz:=qje x.e;have hBz:((2^k:Nat):Rat)*2^x.e=1:=by
   rw[qmm,<-qk4,show(k:Int)+x.e=0 by omega,q0v]
  have hd:=Nat.div_add_mod x.n (2^k);have hm:=Nat.mod_lt x.n (Nat.two_pow_pos k);unfold Nm.fl Nm.q Nm.mag sgq;rw[<-hk];generalize (2:Rat)^x.e=z at *
  generalize x.n/2^k=d at *
  generalize x.n%2^k=r at *
  generalize 2^k=B at *
  have e1:(x.n:Rat)=(B:Rat)*(d:Rat)+(r:Rat):=by rw[<-hd];push_cast;rfl
  have r0:=natnn r;have r1:(r:Rat)+1<=(B:Rat):=by have:=qa2 (show r+1<=B by omega);push_cast at this;exact this
  have b1:=rmulR r0 (Rat.le_of_lt hz);have b2:=rmulR r1 (Rat.le_of_lt hz);have e2:(x.n:Rat)*z=(d:Rat)+r*z:=by rw[e1];grind
  rw[e2];cases x.neg
  ·simp only[Bool.false_eq_true,if_false]
   push_cast
   constructor<;>grind
  ·simp only[if_true];by_cases hr:r=0
   ·subst hr;simp only[ne_eq,not_true_eq_false,if_false,Nat.add_zero]
    push_cast
    constructor<;>grind
   ·simp only[ne_eq,hr,not_false_eq_true,if_true];have r2:(1:Rat)<=r:=by have:=qa2 (show 1<=r by omega);simpa using this
    have b3:=rmulR r2 (Rat.le_of_lt hz)
    push_cast
    constructor<;>grind
theorem qadh {n:Nat}{e:Int}{more out:Bool}{p:Nat}{V:Rat}(h1:(n:Rat)*2^e<=V)(h2:V<=(n:Rat)*2^e+(if more then 2^e else 0)) :
 V-2^(e+cutK n e p)<=((cutQ n e more p out:Nat):Rat)*2^(e+cutK n e p)/\((cutQ n e more p out:Nat):Rat)*2^(e+cutK n e p)<=V+2^(e+cutK n e p):=by
 unfold cutQ;generalize cutK n e p=K;have hd:=Nat.div_add_mod n (2^K);have hm:=Nat.mod_lt n (Nat.two_pow_pos K);have hz:=qje e;rw[qk4,<-qmm];generalize (2:Rat)^e=z at *
 generalize n%2^K=r at *
 generalize n/2^K=Q at *
 generalize 2^K=B at *
 have e1:(n:Rat)=(B:Rat)*(Q:Rat)+(r:Rat):=by rw[<-hd];push_cast;rfl
 have r0:=natnn r;have r1:(r:Rat)+1<=(B:Rat):=by have:=qa2 (show r+1<=B by omega);push_cast at this;exact this
 have b1:=rmulR r0 (Rat.le_of_lt hz);have b2:=rmulR r1 (Rat.le_of_lt hz);rw[e1]at h1 h2;have h3:(if more=true then z else 0)<=z:=by split<;>grind
 by_cases hc:((more ||decide (r≠0))&&out)=true
 ·rw[if_pos hc]
  push_cast
  constructor<;>grind
 ·rw[if_neg hc,Nat.add_zero];constructor<;>grind
theorem qafe {x:Nm}{more:Bool}{p:Nat}{up:Bool}{v:Rat}(h:Cov x more v)(h8:40<=p)(hb:x.n≠0->p<bitL x.n)(ht:(bitL x.n:Int)+x.e<=8):v-1/8<=(x.cu more p up).q/\(x.cu more p up).q<=v+1/8:=by
 unfold Nm.cu;by_cases h0:x.n=0
 ·rw[if_pos h0,h.z h0];have:Nm.zero.q=0:=by simp[Nm.q,Nm.mag,Nm.zero]
  rw[this];constructor<;>grind
 ·rw[if_neg h0];have hb':=hb h0;obtain⟨V,rfl,h1,h2⟩:=h.ex;obtain⟨c1,c2⟩:=qadh (p:=p) (out:=x.neg != up) h1 h2;have he:x.e+cutK x.n x.e p<=-3:=by unfold cutK;omega
  have hz:=q63 he;have h8':(2:Rat)^(-3:Int)=1/8:=by
   have:=qxr 3;rw[show(2:Rat)^(3:Int)=8 from rfl]at this;grind
  rw[h8']at hz;have hs:sgq x.neg=1\/sgq x.neg=-1:=by cases x.neg<;>simp[sgq]
  show sgq x.neg*V-1/8<=sgq x.neg*(((cutQ x.n x.e more p (x.neg != up):Nat):Rat)*2^(x.e+cutK x.n x.e p))/\sgq x.neg*(((cutQ x.n x.e more p (x.neg != up):Nat):Rat)*2^(x.e+cutK x.n x.e p))<=sgq x.neg*V+1/8;generalize ((cutQ x.n x.e more p (x.neg != up):Nat):Rat)*2^(x.e+cutK x.n x.e p)=C at *
  generalize (2:Rat)^(x.e+cutK x.n x.e p)=z at *
  clear h1 h2 h;rcases hs with e|e<;>rw[e]<;>constructor<;>grind
theorem q_bd {d:Nm}{w:Nat}{l:Int}(h:d.S w l 7):Bd d.q 128:=by
 have h1:(d.n:Rat)<=((2^bitL d.n:Nat):Rat):=qa2 (Nat.le_of_lt (qbw d.n));have h2:=rmulR h1 (Rat.le_of_lt (qje d.e));rw[qmm,<-qk4]at h2;have h3:=q63 h.t;rw[show(2:Rat)^(7:Int)=128 from rfl]at h3;have h4:=qajz d;have hs:sgq d.neg=1\/sgq d.neg=-1:=by cases d.neg<;>simp[sgq]
 have hm:d.mag<=128:=Rat.le_trans h2 h3;unfold Nm.q;rcases hs with e|e<;>rw[e]<;>constructor<;>grind
theorem qac9 {D h y:Rat}(hD:Bd D 128)(h1:3/2<=h)(y1:3/2<=y)(hy:Bd (h-y) (1/1024)):D/y-1/8<=D/h:=by
 have e1:D/h*h=D:=Rat.div_mul_cancel (by grind);have e2:D/y*y=D:=Rat.div_mul_cancel (by grind);generalize D/h=A at *
 generalize D/y=B at *
 have hB:Bd B 86:=by
  obtain⟨d1,d2⟩:=hD;constructor
  ·rcases(by grind:-86<=B\/B < -86)with h|h
   ·exact h
   ·have:=qcj (show(86:Rat)<=-B by grind) y1 (by grind) (by grind);grind
  ·rcases(by grind:B<=86\/86<B)with h|h
   ·exact h
   ·have:=qcj (show(86:Rat)<=B by grind) y1 (by grind) (by grind);grind
 obtain⟨p1,p2⟩:=Bd.mul hB hy;rcases(by grind:B-1/8<=A\/A<B-1/8)with h'|h'
 ·exact h'
 ·have h3:=qcj (show(1/8:Rat)<=B-A by grind) h1 (by grind) (by grind);have h4:(B-A)*h=B*(h-y):=by grind
  grind
theorem qajk {a b:Nm}{p w:Nat}{l t':Int}(ha:a.S w l 7)(hb:(bitL b.n:Int)+b.e<=t')(h1:1<=(bitL b.n:Int)+b.e)(hn:b.n≠0)(h8:40<=p) :
 a.q/b.q-1/8<=(qz (a,b) p).lo.q/\a.q/b.q-1/8<=(qz (a,b) p).hi.q:=by
 have f:=q30 (p:=p) ha hb h1 hn;have ft:=f.t;have hbits:(a.frac b p).n≠0->p<bitL (a.frac b p).n:=by
  intro h;have ha0:a.n≠0:=by
   intro h0;apply h;show a.n*2^fracK a b p/b.n=0;rw[h0,Nat.zero_mul,Nat.zero_div]
  have:=qst (a:=a) (b:=b) (p:=p) ha0 hn;have e:(a.frac b p).n=a.n*2^fracK a b p/b.n:=rfl;rw[e];omega
 have ft':(bitL (a.frac b p).n:Int)+(a.frac b p).e<=8:=by omega
 have c:=q31 (a:=a) (b:=b) (p:=p) hn;exact⟨(qafe c h8 hbits ft').1,(qafe c h8 hbits ft').1⟩
theorem qxs {d:Nm}{w:Nat}(h1:40<=w)(h2:w<=103)(N:Nat)(hN:w/4+4<=N+1):(wvQ d w).In (d.q/hpi N):=by
 have hf:=qgz h1 h2;exact q3g (qn9 d) (q1m N hN) (.inl (by have:=hf.lo;grind))
theorem qagn {d:Nm}{y:Sp}{w w' p:Nat}{l l' t':Int}{v:Rat}(hd:d.S w l 7)(hy:y.S w' l' t')(dv:y.Dv)(h8:40<=p)(hv:3/2<=v)(hlo:3/2<=y.lo.q)(hwd:(y.hi.q-y.lo.q)*1024<=1)(hi:y.In v) :
 d.q/v-1/4<=((Sp.pt d).quo y p).lo.q:=by
 have i1:=hi.lo;have i2:=hi.hi;have key:=q8c (P:=fun x=>d.q/v-1/4<=x.q) (c:=(Sp.pt d).cor y) (p:=p) (fun i=>by
  obtain⟨g1,g2,g3⟩:=cor_S (pt_S hd) hy i;have g0:((Sp.pt d).cor y i).1=d:=by unfold Sp.cor;split<;>rfl
  generalize (Sp.pt d).cor y i=c at *
  rcases c with ⟨a,b⟩;simp only at g0 g1 g2 g3;subst g0;have hb:3/2<=b.q/\Bd (b.q-v) (1/1024):=by
   rcases g3 with h|h<;>rw[h]
   ·exact⟨by grind,by grind,by grind⟩
   ·exact⟨by grind,by grind,by grind⟩
  have dn:=qac9 (q_bd hd) hb.1 hv hb.2;have t1:1<=(bitL b.n:Int)+b.e:=by
   rcases g3 with h|h<;>rw[h]
   ·exact dv.t1
   ·exact dv.t2
  have n1:b.n≠0:=by
   rcases g3 with h|h<;>rw[h]
   ·exact dv.n1
   ·exact dv.n2
  have ac:=qajk (p:=p) g1 g2.t t1 n1 h8;constructor
  ·have:=ac.1;grind
  ·have:=ac.2;grind) 3
 exact key.1
theorem qafr {d:Nm}{w:Nat}(hd:d.S 700 (-16384) 7)(h1:40<=w)(h2:w<=103)(N:Nat)(hN:w/4+4<=N+1):d.q/hpi N-1/4<=(wvQ d w).lo.q:=by
 have hf:=qgz h1 h2;exact qagn hd hf.s hf.d h1 (qqk N).1 hf.lo hf.wd (q1m (w:=w) N hN)
theorem qai3 {d:Nm}{w:Nat}(N:Nat)(hN:w/4+4<=N+1):(wvR d w).In (d.q-(wvN d w:Rat)*hpi N):=by
 have p:=qpf (qoa (p:=w) (qn9 (Nm.whole (wvN d w))) (q1m (w:=w) N hN));have s:=qpc (p:=w) (qn9 d) p;rw[qmz]at s;have e:d.q-(wvN d w:Rat)*hpi N=d.q+-((wvN d w:Rat)*hpi N):=by grind
 rw[e];exact s
theorem qahc : halfN.q=1/2:=by
 have h:=qxr 1;rw[show(2:Rat)^(1:Int)=2 from rfl]at h;unfold Nm.q Nm.mag halfN sgq;simp only[Bool.false_eq_true,if_false];grind
theorem qaea {d:Nm}{w:Nat}(hd:d.S 700 (-16384) 7)(h1:40<=w)(h2:w<=103)(N:Nat)(hN:w/4+4<=N+1):Bd (d.q-(wvN d w:Rat)*hpi N) 2:=by
 have a:=qafr hd h1 h2 N hN;have b:=(qxs (d:=d) h1 h2 N hN).lo;obtain⟨f1,f2⟩:=fl_q (x:=(wvQ d w).lo.add halfN) (.inr (qvq _));rw[add_q,qahc]at f1 f2;rw[show((wvQ d w).lo.add halfN).fl=wvN d w from rfl]at f1 f2;obtain⟨y1,y2⟩:=qqk N;have e:d.q/hpi N*hpi N=d.q:=Rat.div_mul_cancel (by grind);generalize d.q/hpi N=Q at *
 generalize ((wvN d w:Int):Rat)=n at *
 generalize hpi N=y at *
 generalize (wvQ d w).lo.q=q at *
 rw[<-e];have k1:Bd (Q-n) (3/4):=⟨by grind,by grind⟩
 have k2:Bd y (17/10):=⟨by grind,by grind⟩
 obtain⟨m1,m2⟩:=Bd.mul k1 k2;constructor<;>grind
def Sp.Has (x:Sp)(s:Nat->Rat):Prop:=∃t,Near s t/\∃N,∀n,N<=n->x.In (t n)
theorem Sp.Has.near {x:Sp}{s t:Nat->Rat}(h:x.Has s)(k:Near t s):x.Has t:=by
 obtain⟨u,h1,h2⟩:=h;exact⟨u,k.trans h1,h2⟩
def fT (turns:Nat)(q:Rat):Nat->Rat:=if turns=0 then Si (fun _=>q)else Co (fun _=>q)
def sK (k:Nat)(r:Nat->Rat):Nat->Rat:=if k=0 then Si r else if k=1 then Co r else if k=2 then(fun n=>-Si r n)else(fun n=>-Co r n)
theorem qai2 {d:Nm}{w turns:Nat}(hd:d.S 700 (-16384) 7)(h1:40<=w)(h2:w<=103)(N:Nat)(hN:w+20<=N) :
 (wvY d w turns).In (sK (wvK (wvN d w) turns) (fun m=>d.q-(wvN d w:Rat)*hpi m) N):=by
 have r:=qai3 (d:=d) (w:=w) N (by omega);have b:=qaea hd h1 h2 N (by omega);have c:=qahs (w:=w) r b N hN;have s:=qagc (w:=w) r b N hN;have co:=qpf c;have so:=qpf s;have kk:wvK (wvN d w) turns<=3:=by unfold wvK;omega
 unfold wvY wvS sK;generalize wvK (wvN d w) turns=k at *
 obtain rfl|rfl|rfl|rfl:k=0\/k=1\/k=2\/k=3:=by omega
 ·exact s
 ·exact c
 ·exact so
 ·exact co
theorem q09 {r:Nat->Rat}{q:Rat}{n:Int}{turns:Nat}(ht:turns<=1)(br:Bnd r)(e:∀m,r m+(n:Rat)*hpi m=q):Near (fT turns q) (sK (wvK n turns) r):=by
 obtain⟨a,b⟩:=qabv br n;have e1:(fun m=>r m+(n:Rat)*hpi m)=fun _=>q:=funext e
 rw[e1]at a b;unfold fT sK;obtain rfl|rfl:turns=0\/turns=1:=by omega
 ·rw[if_pos rfl];rcases qxb n with ⟨h,c,s⟩|⟨h,c,s⟩|⟨h,c,s⟩|⟨h,c,s⟩;all_goals
   rw[c,s]at b;refine b.trans (Near.of_eq fun m=>?_)
  ·have hk:wvK n 0=0:=by unfold wvK;omega
   rw[hk];simp only[if_true];grind
  ·have hk:wvK n 0=1:=by unfold wvK;omega
   rw[hk];simp only[Nat.one_ne_zero,if_false,if_true];grind
  ·have hk:wvK n 0=2:=by unfold wvK;omega
   rw[hk,if_neg (by omega),if_neg (by omega),if_pos rfl];grind
  ·have hk:wvK n 0=3:=by unfold wvK;omega
   rw[hk,if_neg (by omega),if_neg (by omega),if_neg (by omega)];grind
 ·rw[if_neg (by omega)];rcases qxb n with ⟨h,c,s⟩|⟨h,c,s⟩|⟨h,c,s⟩|⟨h,c,s⟩;all_goals
   rw[c,s]at a;refine a.trans (Near.of_eq fun m=>?_)
  ·have hk:wvK n 1=1:=by unfold wvK;omega
   rw[hk,if_neg (by omega),if_pos rfl];grind
  ·have hk:wvK n 1=2:=by unfold wvK;omega
   rw[hk,if_neg (by omega),if_neg (by omega),if_pos rfl];grind
  ·have hk:wvK n 1=3:=by unfold wvK;omega
   rw[hk,if_neg (by omega),if_neg (by omega),if_neg (by omega)];grind
  ·have hk:wvK n 1=0:=by unfold wvK;omega
   rw[hk,if_pos rfl];grind
theorem q0w {d:Nm}{w turns:Nat}(hd:d.S 700 (-16384) 7)(h1:40<=w)(h2:w<=103)(ht:turns<=1):(wvY d w turns).Has (fT turns d.q):=by
 have br:Bnd (fun m=>d.q-(wvN d w:Rat)*hpi m):=⟨2,w/4+4,fun m hm=>qaea hd h1 h2 m (by omega)⟩
 exact⟨_,q09 ht br (fun m=>by grind),w+20,fun N hN=>qai2 hd h1 h2 N hN⟩
end Go.Abs.W
