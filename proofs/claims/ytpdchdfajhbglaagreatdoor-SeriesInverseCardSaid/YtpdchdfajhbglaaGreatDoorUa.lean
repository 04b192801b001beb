/- Parts of the proof: FpUa, FpUb, FpUc. -/
import Derived.Test.YtpdchdfajhbglaaGreatDoorCe
import Derived.Test.YtpdchdfajhbglaaGreatDoorTa
namespace Go.Abs.W
theorem qgy {a d:Nat}(hd:0<d):0<=(a:Rat)/(d:Rat)-((a/d:Nat):Rat)/\(a:Rat)/(d:Rat)-((a/d:Nat):Rat)<=1:=by
 have h1:=Nat.div_mul_le_self a d;have h2:a<=(a/d+1)*d:=Nat.le_of_lt (Nat.lt_mul_of_div_lt (Nat.lt_succ_self _) hd);have c1:=qay h1;have c2:=qay h2;rw[Rat.natCast_mul]at c1 c2;rw[qan]at c2;have dp:(0:Rat)<(d:Rat):=by have:=qay (show 1<=d from hd);have e:((1:Nat):Rat)=1:=rfl;grind
 have ip:=Rat.inv_pos.2 dp;have pm:=qax dp;have k1:=Rat.mul_le_mul_of_nonneg_right c1 (Rat.le_of_lt ip);have k2:=Rat.mul_le_mul_of_nonneg_right c2 (Rat.le_of_lt ip);rw[Rat.div_def];have e1:((a/d:Nat):Rat)*(d:Rat)*(d:Rat)⁻¹=((a/d:Nat):Rat):=by rw[Rat.mul_assoc,pm,Rat.mul_one]
 have e2:(((a/d:Nat):Rat)+1)*(d:Rat)*(d:Rat)⁻¹=((a/d:Nat):Rat)+1:=by rw[Rat.mul_assoc,pm,Rat.mul_one]
 rw[e1]at k1;rw[e2]at k2;constructor<;>grind
theorem qrt {a:Fx}(h:a.neg=false):(a.int:Rat)=(a.n:Rat):=by
 unfold Fx.int;rw[h];exact Rat.intCast_natCast _
theorem qp8 (a:Fx):(a.int:Rat)=(if a.neg then -1 else 1)*(a.n:Rat):=by
 unfold Fx.int;cases a.neg
 ·simp only[Bool.false_eq_true,if_false];rw[Rat.intCast_natCast];grind
 ·simp only[if_true];rw[Rat.intCast_neg,Rat.intCast_natCast];grind
theorem qaj8 (a:Fx){k:Nat}(hk:0<k):Bd (((a.by' k).int:Rat)-(a.int:Rat)/(k:Rat)) 1:=by
 obtain⟨h1,h2⟩:=qgy (a:=a.n) hk;rw[qp8,qp8];have e1:(a.by' k).neg=a.neg:=rfl;have e2:(a.by' k).n=a.n/k:=rfl;rw[e1,e2];rw[Rat.div_def]at *
 cases a.neg
 ·simp only[Bool.false_eq_true,if_false];constructor<;>grind
 ·simp only[if_true];constructor<;>grind
theorem qabi (a c:Fx)(b:Nat):Bd (((a.times c b).int:Rat)-(a.int:Rat)*(c.int:Rat)/p2 b) 1:=by
 obtain⟨h1,h2⟩:=qgy (a:=a.n*c.n) (d:=2^b) (Nat.two_pow_pos b);rw[Rat.natCast_mul]at h1 h2;rw[qp8,qp8,qp8];have e1:(a.times c b).neg=(a.neg != c.neg):=rfl;have e2:(a.times c b).n=a.n*c.n/2^b:=rfl;rw[e1,e2];unfold p2;rw[Rat.div_def]at *
 cases a.neg<;>cases c.neg<;>simp only[Bool.false_eq_true,if_false,if_true,bne_self_eq_false,Bool.bne_true,Bool.bne_false,Bool.not_false]<;>constructor<;>grind
theorem qacs (z:Rat)(j i:Nat):od z (j+i)=od z j*ev z i:=by
 induction i with
 |zero=>simp only[Nat.add_zero,ev];grind
 |succ i ih=>rw[<-Nat.add_assoc];simp only[od,ev];rw[ih];grind
theorem qam2 {z:Rat}(h0:0<=z)(h1:4*z<=1)(j i:Nat):Bd (at' z (j+i)-at' z j) (16/15*od z (j+1)):=by
 have key:∀i,Bd (at' z (j+(i+1))-at' z j) (od z (j+1)*ps (ev z) i):=by
  have st:∀i,Bd (lta z (j+1+i)) (od z (j+1)*ev z i):=fun i=>by
   have:=sg_Bd (lt_le h0 (j+1+i)) (j+1+i);rw[<-od_ev,qacs]at this;exact this
  intro i;unfold at';induction i with
  |zero=>obtain⟨a,b⟩:=st 0;simp only[ps,Nat.add_zero]at *;constructor<;>grind
  |succ i ih=>
   have s:=st (i+1);rw[show j+1+(i+1)=j+(i+1)+1 by omega]at s;obtain⟨a,b⟩:=ih.add s;rw[show j+(i+1+1)=j+(i+1)+1 by omega];simp only[ps]at *
   constructor<;>grind
 have o:=od_nn h0 (j+1);cases i with
 |zero=>rw[Nat.add_zero];constructor<;>grind
 |succ i=>
  obtain⟨a,b⟩:=key i;have m:=mul_nn o (show 0<=16/15-ps (ev z) i by have:=qre h0 h1 i;grind);constructor<;>grind
theorem qaol (j:Nat):sg j=if j%2=1 then -1 else 1:=by
 induction j with
 |zero=>rfl
 |succ j ih=>
  simp only[sg];rw[ih];by_cases h:j%2=1
  ·rw[if_pos h,if_neg (by omega)];grind
  ·rw[if_neg h,if_pos (by omega)]
theorem q88 (next:Fx->Fx){z B:Rat}(z0:0<=z)(z4:4*z<=1)(P0:Nat)
 (H:∀(p:Fx) (j:Nat),p.n<=P0->p.neg=false->Bd ((p.n:Rat)-od z j*B) 2->(next p).neg=false/\Bd (((next p).n:Rat)-od z (j+1)*B) 2/\2*(next p).n<=p.n) (J:Nat) (B0:0<=B) :
 ∀(f j:Nat) (p s:Fx),p.n<=P0->p.n<f->p.neg=false->j+bitL p.n<=J->Bd ((p.n:Rat)-od z j*B) 2->Bd ((s.int:Rat)-at' z j*B) (2*(j:Rat)+1) ->
 ∃N,∀n,N<=n->Bd (((altG next f (j+1) p s).int:Rat)-at' z n*B) (2*(J:Rat)+4)
 |0,j,p,s,_,hf,_,_,_,_=>absurd hf (by omega)
 |f+1,j,p,s,hP,hf,hn,hJ,hp,hs=>by
  obtain⟨q1,q2,q3⟩:=H p j hP hn hp;unfold altG;by_cases hz:(next p).n=0
  ·rw[if_pos hz];rw[hz,show((0:Nat):Rat)=0 from rfl]at q2;refine⟨j,fun n hjn=>?_⟩;obtain⟨i,rfl⟩:=Nat.exists_eq_add_of_le hjn;have r:=qam2 z0 z4 j i;have jJ:=qay (show j<=J by omega);obtain⟨a,b⟩:=r;obtain⟨c,d⟩:=hs;obtain⟨e,g⟩:=q2;have m1:=mul_nn (show 0<=16/15*od z (j+1)-(at' z (j+i)-at' z j) by grind) B0;have m2:=mul_nn (show 0<=16/15*od z (j+1)+(at' z (j+i)-at' z j) by grind) B0;constructor<;>grind
  ·rw[if_neg hz];have hb:=qpf q3 hz;obtain⟨te1,te2⟩:=qaj8 (next p) (k:=2*(j+1)+1) (by omega);have tn:((next p).by' (2*(j+1)+1)).neg=false:=q1;rw[qrt q1]at te1 te2;have e2k:((2*(j+1)+1:Nat):Rat)=2*((j:Rat)+1)+1:=by rw[qzv,qan]
   have hlta:lta z (j+1)=sg (j+1)*(od z (j+1)/((2*(j+1)+1:Nat):Rat)):=rfl;have cp:=qps (2*(j+1));have ci:=Rat.inv_pos.2 cp;have c3:((2*(j+1)+1:Nat):Rat)⁻¹<=1/2:=by
    have:=qq4 (show(0:Rat)<2 by decide) (show(2:Rat)<=((2*(j+1)+1:Nat):Rat) by have:=natnn j;rw[e2k];grind);have e:(2:Rat)⁻¹=1/2:=by grind
    grind
   rw[Rat.div_def]at te1 te2 hlta;have ats:at' z (j+1)=at' z j+lta z (j+1):=rfl;obtain⟨u1,u2⟩:=q2;have m1:=mul_nn (show 0<=2-(((next p).n:Rat)-od z (j+1)*B) by grind) (Rat.le_of_lt ci);have m2:=mul_nn (show 0<=2+(((next p).n:Rat)-od z (j+1)*B) by grind) (Rat.le_of_lt ci);obtain⟨v1,v2⟩:=hs;have sgn:=qaol (j+1);have key:Bd (((s.add (if(j+1)%2=1 then((next p).by' (2*(j+1)+1)).minus else(next p).by' (2*(j+1)+1))).int:Rat)-at' z (j+1)*B) (2*((j+1:Nat):Rat)+1):=by
    rw[qan,qe7,Rat.intCast_add,ats,hlta,sgn];split
    ·rw[qer,Rat.intCast_neg];constructor<;>grind
    ·constructor<;>grind
   exact q88 next z0 z4 P0 H J B0 f (j+1) (next p) _ (by omega) (by omega) q1 (by omega) ⟨u1,u2⟩ key
theorem qig (b:Nat):((2^b:Nat):Rat)=p2 b:=rfl
theorem q8e {m b:Nat}(hm:4<=m)(_hm2:m<=1000):∃N,∀n,N<=n->Bd (((invI m b).int:Rat)-at' (1/(m:Rat)) n*p2 b) (2*(b:Rat)+8):=by
 have m4:=qay hm;rw[show((4:Nat):Rat)=4 from rfl]at m4;have mp:(0:Rat)<(m:Rat):=by grind
 have im:=Rat.inv_pos.2 mp;have mm:=qax mp;have ez:1/(m:Rat)=(m:Rat)⁻¹:=by rw[Rat.div_def,Rat.one_mul]
 have z4:4*(m:Rat)⁻¹<=1:=by
  have:=Rat.mul_le_mul_of_nonneg_right m4 (Rat.le_of_lt im);rwa[mm]at this
 have B0:=qif b;rw[ez];obtain⟨d1,d2⟩:=qgy (a:=2^b) (d:=m) (by omega);rw[qig,Rat.div_def]at d1 d2;have bl:bitL (2^b/m)<=b+1:=by
  have:=qar (Nat.div_le_self (2^b) m);rw[qeu]at this;exact this
 have key:=q88 (fun a=>a.by' (m*m)) (z:=(m:Rat)⁻¹) (B:=p2 b) (Rat.le_of_lt im) z4 (2^b/m) (fun p j hp hn hb=>by
  have mm0:0<m*m:=Nat.mul_pos (by omega) (by omega);refine⟨hn,?_,?_⟩
  ·obtain⟨e1,e2⟩:=qgy (a:=p.n) (d:=m*m) mm0;show Bd (((p.n/(m*m):Nat):Rat)-_) 2;rw[Rat.div_def,Rat.natCast_mul]at e1 e2;have ei:((m:Rat)*(m:Rat))⁻¹=(m:Rat)⁻¹*(m:Rat)⁻¹:=by
    have h1:((m:Rat)*(m:Rat))*((m:Rat)⁻¹*(m:Rat)⁻¹)=1:=by
     have:((m:Rat)*(m:Rat))*((m:Rat)⁻¹*(m:Rat)⁻¹)=((m:Rat)*(m:Rat)⁻¹)*((m:Rat)*(m:Rat)⁻¹):=by grind
     rw[this,mm,Rat.one_mul]
    have h2:=qax (Rat.mul_pos mp mp);have h3:((m:Rat)*(m:Rat))⁻¹*(((m:Rat)*(m:Rat))*((m:Rat)⁻¹*(m:Rat)⁻¹))=((m:Rat)*(m:Rat))*((m:Rat)*(m:Rat))⁻¹*((m:Rat)⁻¹*(m:Rat)⁻¹):=by grind
    rw[h1,h2,Rat.mul_one,Rat.one_mul]at h3;exact h3
   rw[ei]at e1 e2;simp only[od];obtain⟨f1,f2⟩:=hb;have zz:0<=(m:Rat)⁻¹*(m:Rat)⁻¹:=sq_nn _;have zz1:(m:Rat)⁻¹*(m:Rat)⁻¹<=1/16:=by
    have:=qcs (a:=(m:Rat)⁻¹) (b:=1/4) (c:=(m:Rat)⁻¹) (d:=1/4) (by grind) (by grind) (by grind) (Rat.le_of_lt im);grind
   have g1:=mul_nn (show 0<=2-((p.n:Rat)-od (m:Rat)⁻¹ j*p2 b) by grind) zz;have g2:=mul_nn (show 0<=2+((p.n:Rat)-od (m:Rat)⁻¹ j*p2 b) by grind) zz;constructor<;>grind
  ·exact q54 (a:=p) (n:=m) (by omega)) (b+2) (Rat.le_of_lt B0) (2^b/m+1) 0 ⟨false,2^b/m⟩ ⟨false,2^b/m⟩ (Nat.le_refl _) (Nat.lt_succ_self _) rfl (by simp only[];omega) (by
  simp only[od];constructor<;>grind) (by
  rw[qrt rfl];have e0:at' (m:Rat)⁻¹ 0=(m:Rat)⁻¹:=by
   show sg 0*lt (m:Rat)⁻¹ 0=_;unfold lt;simp only[od,sg];rw[show((2*0+1:Nat):Rat)=1 from rfl];grind
  rw[e0,show((0:Nat):Rat)=0 from rfl];simp only[];constructor<;>grind)
 obtain⟨N,hN⟩:=key;refine⟨N,fun n hn=>?_⟩;obtain⟨a,c⟩:=hN n hn;have eJ:((b+2:Nat):Rat)=(b:Rat)+2:=by rw[qan,qan];grind
 rw[eJ]at a c;unfold invI altI;constructor<;>grind
theorem qacp {b:Nat}(_hb:10<=b)(hb2:b<=3000):∃N,∀n,N<=n->Bd (((piI b).int:Rat)-2*hpi n*p2 b) 131072:=by
 obtain⟨N,hN⟩:=q8e (m:=5) (b:=b) (by decide) (by decide);obtain⟨M,hM⟩:=q8e (m:=239) (b:=b) (by decide) (by decide);have bb:=qay hb2;rw[show((3000:Nat):Rat)=3000 from rfl]at bb;refine⟨max N M,fun n hn=>?_⟩;obtain⟨a1,a2⟩:=hN n (by omega);obtain⟨c1,c2⟩:=hM n (by omega);rw[qrt (qu5 (by decide)).1]at a1 a2 c1 c2;rw[show((5:Nat):Rat)=5 from rfl]at a1 a2;rw[show((239:Nat):Rat)=239 from rfl]at c1 c2;have e:((piI b).int:Rat)=16*((invI 5 b).n:Rat)-4*((invI 239 b).n:Rat):=by
  unfold piI;rw[qe7,Rat.intCast_add];have e1:(Fx.mk false ((invI 5 b).n*2^4)).int=16*((invI 5 b).n:Int):=by unfold Fx.int;simp;omega
  have e2:(Fx.mk true ((invI 239 b).n*2^2)).int=-(4*((invI 239 b).n:Int)):=by unfold Fx.int;simp;omega
  rw[e1,e2,Rat.intCast_neg,Rat.intCast_mul,Rat.intCast_mul,Rat.intCast_natCast,Rat.intCast_natCast,show((16:Int):Rat)=16 from rfl,show((4:Int):Rat)=4 from rfl];grind
 rw[e];unfold hpi e8;constructor<;>grind
theorem qamy (k:Nat):(k%4=0/\c4 k=1/\s4 k=0)\/(k%4=1/\c4 k=0/\s4 k=1)\/(k%4=2/\c4 k=-1/\s4 k=0)\/(k%4=3/\c4 k=0/\s4 k=-1):=by
 induction k with
 |zero=>exact .inl ⟨rfl,rfl,rfl⟩
 |succ k ih=>
  rw[qdl,qcr];rcases ih with ⟨h,a,b⟩|⟨h,a,b⟩|⟨h,a,b⟩|⟨h,a,b⟩<;>rw[a,b]
  ·exact .inr (.inl ⟨by omega,by grind,rfl⟩)
  ·exact .inr (.inr (.inl ⟨by omega,rfl,rfl⟩))
  ·exact .inr (.inr (.inr ⟨by omega,by grind,rfl⟩))
  ·exact .inl ⟨by omega,by grind,rfl⟩
def Ej : Nat->Rat
 |0=>0
 |1=>2
 |_+2=>6
theorem Ej_le (j:Nat):0<=Ej j/\Ej j<=6:=by
 match j with
 |0=>exact⟨by decide,by decide⟩
 |1=>exact⟨by decide,by decide⟩
 |n+2=>exact⟨by show(0:Rat)<=6;decide,by show(6:Rat)<=6;decide⟩
theorem qanp (j:Nat):2*Ej j+1<=(Ej (j+1)-1)*((j+1:Nat):Rat):=by
 match j with
 |0=>show 2*(0:Rat)+1<=(2-1)*((0+1:Nat):Rat)
     rw[show((0+1:Nat):Rat)=1 from rfl];grind
 |1=>show 2*(2:Rat)+1<=(6-1)*((1+1:Nat):Rat)
     rw[show((1+1:Nat):Rat)=2 from rfl];grind
 |n+2=>
  show 2*(6:Rat)+1<=(6-1)*((n+2+1:Nat):Rat);have h:=natnn n;rw[qan,qan,qan];grind
theorem qalt {x t:Fx}{b j:Nat}{r:Rat}(hr:(x.int:Rat)=r*p2 b)(r2:Bd r 2)(ht:Bd ((t.int:Rat)-tm r j*p2 b) (Ej j)) :
 Bd ((((t.times x b).by' (j+1)).int:Rat)-tm r (j+1)*p2 b) (Ej (j+1)):=by
 obtain⟨a1,a2⟩:=qabi t x b;obtain⟨b1,b2⟩:=qaj8 (t.times x b) (k:=j+1) (by omega);have kp:=qps j;have ki:=Rat.inv_pos.2 kp;have km:=qax kp;have Bm:=qax (qif b);have e1:(t.int:Rat)*(x.int:Rat)/p2 b=(t.int:Rat)*r:=by
  rw[hr,Rat.div_def];have:(t.int:Rat)*(r*p2 b)*(p2 b)⁻¹=(t.int:Rat)*r*(p2 b*(p2 b)⁻¹):=by grind
  rw[this,Bm,Rat.mul_one]
 rw[e1]at a1 a2;rw[Rat.div_def]at b1 b2;have es:=qanp j;have et:tm r (j+1)=tm r j*r*((j+1:Nat):Rat)⁻¹:=by show tm r j*r/_=_;rw[Rat.div_def]
 rw[et];obtain⟨c1,c2⟩:=ht.mul r2;obtain⟨e0,e6⟩:=Ej_le j;generalize ((t.times x b).by' (j+1)).int=Q at *
 generalize (t.times x b).int=T at *
 generalize ((j+1:Nat):Rat)=k at *
 generalize Ej (j+1)=E' at *
 generalize Ej j=E at *
 have d1:(T:Rat)-tm r j*r*p2 b<=2*E+1:=by grind
 have d2:-(2*E+1)<=(T:Rat)-tm r j*r*p2 b:=by grind
 have m1:=mul_nn (show 0<=(E'-1)*k-((T:Rat)-tm r j*r*p2 b) by grind) (Rat.le_of_lt ki);have m2:=mul_nn (show 0<=(E'-1)*k+((T:Rat)-tm r j*r*p2 b) by grind) (Rat.le_of_lt ki);have e3:(E'-1)*k*k⁻¹=E'-1:=by rw[Rat.mul_assoc,km,Rat.mul_one]
 constructor<;>grind
theorem qaof {r c:Rat}(h:c=r\/c=-r)(k:Nat):tm c k=tm r k\/tm c k=- tm r k:=by
 rcases h with rfl|rfl
 ·exact .inl rfl
 ·exact qai9 r k
theorem qag3 {r B:Rat}{j:Nat}(r2:Bd r 2)(hB:16<=B)(h:Bd (tm r (j+1)*B) 6)(i:Nat):Bd ((ss r (j+i)-ss r j)*B) 12/\Bd ((cs r (j+i)-cs r j)*B) 12:=by
 have⟨c,c0,hc,hcr⟩:∃c,0<=c/\Bd r c/\(c=r\/c=-r):=by
  rcases(inferInstance:Decidable (0<=r))with h1|h1
  ·exact⟨-r,by grind,⟨by grind,by grind⟩,.inr rfl⟩
  ·exact⟨r,h1,⟨by grind,by grind⟩,.inl rfl⟩
 have c2:c<=2:=by obtain⟨a,b⟩:=r2;rcases hcr with rfl|rfl<;>grind
 have tc:tm c (j+1)*B<=6:=by
  obtain⟨a,b⟩:=h;rcases qaof hcr (j+1)with e|e<;>rw[e]<;>grind
 have tc0:=tm_nn c0 (j+1);have hk:2*c<=((j+1:Nat):Rat):=by
  rcases(inferInstance:Decidable (2*c<=((j+1:Nat):Rat)))with h1|h1
  ·exfalso;have half:1/2<=tm c (j+1):=by
    have u1:=q6u c;have u2:2*tm c 2=c*tm c 1:=ql8 c 1;have u3:3*tm c 3=c*tm c 2:=ql8 c 2;rcases(by omega:j=0\/j=1\/j=2\/3<=j)with rfl|rfl|rfl|hj
    ·rw[show((0+1:Nat):Rat)=1 from rfl]at h1;rw[Nat.zero_add,u1];grind
    ·rw[show((1+1:Nat):Rat)=2 from rfl]at h1;show 1/2<=tm c 2;rw[u1]at u2;have:=qcs (a:=1) (b:=c) (c:=1) (d:=c) (by grind) (by grind) c0 (by decide);grind
    ·rw[show((2+1:Nat):Rat)=3 from rfl]at h1;show 1/2<=tm c 3;rw[u1]at u2;have m1:=qcs (a:=3/2) (b:=c) (c:=3/2) (d:=c) (by grind) (by grind) c0 (by grind);have m2:=qcs (a:=3/2) (b:=c) (c:=9/4) (d:=c*c) (by grind) (by grind) c0 (by grind);have u4:6*tm c 3=c*(c*c):=by rw[<-u2];grind
     clear u1 u2 u3 tc tc0 h hcr r2 hc;generalize tm c 3=T at *
     generalize c*(c*c)=C at *
     grind
    ·exfalso;have:=qay (show 4<=j+1 by omega);rw[show((4:Nat):Rat)=4 from rfl]at this;grind
   have:=mul_nn (show 0<=tm c (j+1)-1/2 by grind) (show 0<=B by grind);grind
  ·exact h1
 cases i with
 |zero=>rw[Nat.add_zero];refine⟨⟨by grind,by grind⟩,by grind,by grind⟩
 |succ i=>
  have tl:=qt7 c0 hk i;have t0:=tm_nn c0 (j+1+i);have e1:es c (j+1)=es c j+tm c (j+1):=rfl;rw[show j+1+i=j+(i+1) by omega]at tl t0;have b1:=ps_Bd (fun i=>(ct_Bd hc i).2) (show j<=j+(i+1) by omega);have b2:=ps_Bd (fun i=>(ct_Bd hc i).1) (show j<=j+(i+1) by omega);have tot:(es c (j+(i+1))-es c j)*B<=12:=by
   have:=mul_nn (show 0<=2*tm c (j+1)-(es c (j+(i+1))-es c j) by grind) (show 0<=B by grind);grind
  have fin:∀y:Rat,Bd y (es c (j+(i+1))-es c j)->Bd (y*B) 12:=fun y ⟨u,v⟩=>by
   have k1:=mul_nn (show 0<=es c (j+(i+1))-es c j-y by grind) (show 0<=B by grind);have k2:=mul_nn (show 0<=es c (j+(i+1))-es c j+y by grind) (show 0<=B by grind);constructor<;>grind
  exact⟨fin _ b1,fin _ b2⟩
theorem q66 {x:Fx}{b:Nat}{r:Rat}(hr:(x.int:Rat)=r*p2 b)(r2:Bd r 2)(hx:x.n<=2^(b+1))(hb:4<=b):∀(f j:Nat) (t s c:Fx),
 f+(j+1)=b+9->t.n<=2*2^b->(j=0->t.n<=2^b)->(4<=j+1->bitL t.n+(j+1)<=b+6) ->
 Bd ((t.int:Rat)-tm r j*p2 b) (Ej j)->Bd ((s.int:Rat)-ss r j*p2 b) (6*(j:Rat))->Bd ((c.int:Rat)-cs r j*p2 b) (6*(j:Rat)) ->
 ∃N,∀n,N<=n->Bd (((serG x b f (j+1) t s c).1.int:Rat)-ss r n*p2 b) (6*(b:Rat)+66)/\Bd (((serG x b f (j+1) t s c).2.int:Rat)-cs r n*p2 b) (6*(b:Rat)+66)
 |0,j,t,s,c,hf,_,_,h4,_,_,_=>by have:=h4 (by omega);omega
 |f+1,j,t,s,c,hf,ht,h1,h4,het,hes,hec=>by
  have hq:=qzm (t:=t.n) (k:=j+1) (by omega) hx;rw[<-q4s t x b (j+1)]at hq;have hqe:=qalt hr r2 het;unfold serG;generalize (t.times x b).by' (j+1)=q at *
  have hq1:q.n<=2*t.n:=by
   have:=Nat.le_mul_of_pos_right q.n (show 0<j+1 by omega);omega
  have hq2:q.n<=2*2^b:=by
   rcases Nat.lt_or_ge j 1 with h|h
   ·have h3:=h1 (by omega);omega
   ·have h3:q.n*2<=q.n*(j+1):=Nat.mul_le_mul_left _ (by omega);omega
  have jb:(j:Rat)<=(b:Rat)+9:=by
   have:=qay (show j<=b+9 by omega);rw[Rat.natCast_add]at this;exact this
  by_cases hz:q.n=0
  ·rw[if_pos hz];have q0:(q.int:Rat)=0:=by
    have:q.int=0:=by have:=qadp q;omega
    rw[this];rfl
   rw[q0]at hqe;have e6:=(Ej_le (j+1)).2;have small:Bd (tm r (j+1)*p2 b) 6:=by obtain⟨u,v⟩:=hqe;constructor<;>grind
   have B16:16<=p2 b:=by
    have:=qay (Nat.pow_le_pow_right (show 0<2 by omega) hb);exact this
   refine⟨j,fun n hn=>?_⟩;obtain⟨i,rfl⟩:=Nat.exists_eq_add_of_le hn;obtain⟨⟨a1,a2⟩,c1,c2⟩:=qag3 r2 B16 small i;obtain⟨d1,d2⟩:=hes;obtain⟨f1,f2⟩:=hec;simp only[];refine⟨⟨by grind,by grind⟩,by grind,by grind⟩
  ·rw[if_neg hz];have e6:=(Ej_le (j+1)).2;have hqe6:Bd ((q.int:Rat)-tm r (j+1)*p2 b) 6:=by obtain⟨u,v⟩:=hqe;constructor<;>grind
   have hn1:4<=(j+1)+1->bitL q.n+((j+1)+1)<=b+6:=by
    intro h5;rcases Nat.lt_or_ge (j+1) 4 with h6|h6
    ·have h7:=qar hq2;have h8:=qeu (b+1);rw[show 2^(b+1)=2*2^b by rw[Nat.pow_succ,Nat.mul_comm]]at h8;omega
    ·have h3:q.n*4<=q.n*(j+1):=Nat.mul_le_mul_left _ h6;have h7:=qpf (a:=q.n) (b:=t.n) (by omega) hz;have:=h4 h6;omega
   have es:ss r (j+1)=ss r j+s4 (j+1)*tm r (j+1):=rfl;have ec:cs r (j+1)=cs r j+c4 (j+1)*tm r (j+1):=rfl;have cj:=qan j;obtain⟨u1,u2⟩:=hqe6;obtain⟨v1,v2⟩:=hes;obtain⟨w1,w2⟩:=hec;have go:=fun(s' c':Fx) (hs':Bd ((s'.int:Rat)-ss r (j+1)*p2 b) (6*((j+1:Nat):Rat))) (hc':Bd ((c'.int:Rat)-cs r (j+1)*p2 b) (6*((j+1:Nat):Rat)))=>
    q66 hr r2 hx hb f (j+1) q s' c' (by omega) hq2 (by omega) hn1 hqe hs' hc'
   rcases qamy (j+1)with ⟨h,e1,e2⟩|⟨h,e1,e2⟩|⟨h,e1,e2⟩|⟨h,e1,e2⟩<;>rw[e2]at es<;>rw[e1]at ec
   ·rw[if_neg (show ¬(j+1)%2=1 by omega),if_neg (show ¬2<=(j+1)%4 by omega)];refine go _ _ ?_ ?_
    ·rw[es,cj];constructor<;>grind
    ·rw[ec,cj,qe7,Rat.intCast_add];constructor<;>grind
   ·rw[if_pos (show(j+1)%2=1 by omega),if_neg (show ¬2<=(j+1)%4 by omega)];refine go _ _ ?_ ?_
    ·rw[es,cj,qe7,Rat.intCast_add];constructor<;>grind
    ·rw[ec,cj];constructor<;>grind
   ·rw[if_neg (show ¬(j+1)%2=1 by omega),if_pos (show 2<=(j+1)%4 by omega)];refine go _ _ ?_ ?_
    ·rw[es,cj];constructor<;>grind
    ·rw[ec,cj,qe7,qer,Rat.intCast_add,Rat.intCast_neg];constructor<;>grind
   ·rw[if_pos (show(j+1)%2=1 by omega),if_pos (show 2<=(j+1)%4 by omega)];refine go _ _ ?_ ?_
    ·rw[es,cj,qe7,qer,Rat.intCast_add,Rat.intCast_neg];constructor<;>grind
    ·rw[ec,cj];constructor<;>grind
theorem qag4 {x:Fx}{b:Nat}{r:Rat}(hr:(x.int:Rat)=r*p2 b)(hx:x.n<=2^(b+1))(hb:4<=b) :
 ∃N,∀n,N<=n->Bd (((serI x b).1.int:Rat)-ss r n*p2 b) (6*(b:Rat)+66)/\Bd (((serI x b).2.int:Rat)-cs r n*p2 b) (6*(b:Rat)+66):=by
 have B0:=qif b;have r2:Bd r 2:=by
  have h:=qay hx;rw[Nat.pow_succ,Rat.natCast_mul,qig,show((2:Nat):Rat)=2 from rfl]at h;have s:=qp8 x;rw[hr]at s;have n0:=natnn x.n;constructor
  ·refine Rat.le_of_mul_le_mul_right (c:=p2 b) ?_ B0;rw[s];cases x.neg<;>simp only[Bool.false_eq_true,if_false,if_true]<;>grind
  ·refine Rat.le_of_mul_le_mul_right (c:=p2 b) ?_ B0;rw[s];cases x.neg<;>simp only[Bool.false_eq_true,if_false,if_true]<;>grind
 have z0:((0:Nat):Rat)=0:=rfl;have e1:((Fx.mk false (2^b)).int:Rat)=p2 b:=qrt rfl;have e0:((Fx.mk false 0).int:Rat)=0:=rfl;exact q66 hr r2 hx hb (b+8) 0 ⟨false,2^b⟩ ⟨false,0⟩ ⟨false,2^b⟩ (by omega) (by simp only[];omega) (fun _=>Nat.le_refl _) (by omega)
  (by rw[e1];show Bd (p2 b-1*p2 b) 0;constructor<;>grind)
  (by rw[e0,z0];show Bd (0-(0*1)*p2 b) _;constructor<;>grind)
  (by rw[e1,z0];show Bd (p2 b-(1*1)*p2 b) _;constructor<;>grind)
theorem pwq (a:Nat):((pw a:Int):Rat)=p2 a:=by unfold pw p2;rw[Rat.intCast_natCast]
theorem qlo (a b:Nat):p2 (a+b)=p2 a*p2 b:=by unfold p2;rw[Nat.pow_add,Rat.natCast_mul]
def sgr (neg:Bool):Rat:=if neg then -1 else 1
theorem quf (n:Bool):sgr n=1\/sgr n=-1:=by unfold sgr;cases n<;>simp
theorem qui {a b c:Rat}(hc:c≠0)(h:a*c=b*c):a=b:=by
 have m:=Rat.mul_inv_cancel c hc;have e:a*c*c⁻¹=b*c*c⁻¹:=by rw[h]
 rwa[Rat.mul_assoc,Rat.mul_assoc,m,Rat.mul_one,Rat.mul_one]at e
theorem qakk (d:Dy):(d.val:Rat)=sgr d.neg*(natV d.m:Rat)*p2 (d.e+16384).toNat:=by
 have e:d.val=(if d.neg=true then -(d.absN:Int)else(d.absN:Int)):=rfl;have e2:d.absN=natV d.m*2^(d.e+16384).toNat:=rfl;rw[e,e2];unfold sgr;split
 ·rw[Rat.intCast_neg,Rat.intCast_natCast,Rat.natCast_mul];show -((natV d.m:Rat)*p2 _)=_;grind
 ·rw[Rat.intCast_natCast,Rat.natCast_mul];show(natV d.m:Rat)*p2 _=_;grind
theorem qajg {d:Dy}{a c:Nat}(he:0<=d.e+16384)(h:d.e+a=c):d.rat*p2 a=sgr d.neg*(natV d.m:Rat)*p2 c:=by
 have hs:=qdc;have es:sc=p2 16384:=pwq 16384;refine qui (c:=sc) (by grind) ?_;have e1:d.rat*p2 a*sc=d.rat*sc*p2 a:=by grind
 rw[e1,qep,qakk,es];have e3:(d.e+16384).toNat+a=c+16384:=by omega
 have e2:p2 (d.e+16384).toNat*p2 a=p2 c*p2 16384:=(qlo _ _).symm.trans ((congrArg p2 e3).trans (qlo _ _));generalize p2 (d.e+16384).toNat=X at *
 generalize p2 16384=Y at *
 have:sgr d.neg*(natV d.m:Rat)*X*p2 a=sgr d.neg*(natV d.m:Rat)*(X*p2 a):=by grind
 rw[this,e2];grind
theorem qu6 (a:Fx):(a.int:Rat)=sgr a.neg*(a.n:Rat):=qp8 a
theorem qacr {d:Dy}{b:Nat}(ok:d.Ok):Bd (((Fx.of d b).int:Rat)-d.rat*p2 b) 1:=by
 have he:=ok.elo;rw[qu6,qao1];unfold Fx.of;split
 ·rename_i h;simp only[];have⟨k,hk⟩:∃k:Nat,k=(-(d.e+b)).toNat:=⟨_,rfl⟩
  rw[<-hk];have e1:=qajg (d:=d) (a:=b+k) (c:=0) (by omega) (by omega);rw[qlo]at e1;have e0:p2 0=1:=rfl;rw[e0]at e1;obtain⟨h1,h2⟩:=qgy (a:=natV d.m) (d:=2^k) (Nat.two_pow_pos k);rw[qig,Rat.div_def]at h1 h2;have pk:=qif k;have ik:=qax pk;have e2:sgr d.neg*((natV d.m:Rat)*(p2 k)⁻¹)=d.rat*p2 b:=by
   have:sgr d.neg*((natV d.m:Rat)*(p2 k)⁻¹)=(sgr d.neg*(natV d.m:Rat)*1)*(p2 k)⁻¹:=by grind
   rw[this,<-e1];have:d.rat*(p2 b*p2 k)*(p2 k)⁻¹=d.rat*p2 b*(p2 k*(p2 k)⁻¹):=by grind
   rw[this,ik,Rat.mul_one]
  rw[<-e2];unfold sgr;split<;>constructor<;>grind
 ·rename_i h;simp only[];have e1:=qajg (d:=d) (a:=b) (c:=(d.e+b).toNat) (by omega) (by omega);rw[e1,Rat.natCast_mul,qig];constructor<;>grind
theorem qahz {b:Nat}(hb:10<=b)(hb2:b<=3000):∃N,∀n,N<=n->Bd (((piI b).n/2:Nat)-hpi n*p2 b) 65537:=by
 obtain⟨N,hN⟩:=qacp hb hb2;refine⟨N,fun n hn=>?_⟩;obtain⟨a,c⟩:=hN n hn;rw[qrt (qp7 hb).1]at a c;obtain⟨h1,h2⟩:=qgy (a:=(piI b).n) (d:=2) (by decide);rw[show((2:Nat):Rat)=2 from rfl]at h1 h2;constructor<;>grind
def redS (d:Dy)(b:Nat):Int:=if(redX d b).neg=true then -(redN d b:Int)else redN d b
theorem qag8 (d:Dy)(b:Nat):redS d b%4=redK d b:=by
 unfold redS redK;split<;>omega
theorem qag9 {d:Dy}{b:Nat}:(redR d b).int=(redX d b).int-redS d b*redH d b:=by
 unfold redR redS;rw[qe7];unfold Fx.int;cases(redX d b).neg
 ·simp;omega
 ·simp;rw[Int.neg_mul];omega
theorem q4q {d:Dy}(ok:d.Ok){t:Nat}(h:d.top<=t):Bd d.rat (p2 t):=by
 by_cases hm:d.m=[]
 ·rw[qg3 hm];have:=qif t;constructor<;>grind
 ·obtain⟨a,b⟩:=q18 ok hm (n:=t+1) (by omega);rw[pwq,show t+1=1+t by omega,qlo,show p2 1=2 from rfl]at a b;constructor<;>grind
theorem qak8 (d:Dy):d.top<=(redT d:Int):=by unfold redT;omega
theorem qak7 {d:Dy}{b:Nat}(ok:d.Ok)(hb:8<=b)(hb2:b<=1000)(ht:d.top<=128) :
 ∃N,∀n,N<=n->Bd (((redI d b).int:Rat)-(d.rat-(redS d b:Rat)*hpi n)*p2 b) 2:=by
 have hT:redT d<=128:=by unfold redT;omega
 have eC:redC d b=b+(redT d+40):=by unfold redC;omega
 obtain⟨N,hN⟩:=qahz (b:=redC d b) (by omega) (by omega);obtain⟨x1,x2⟩:=qacr (d:=d) (b:=redC d b) ok;obtain⟨_,pl,pu⟩:=qp7 (b:=redC d b) (by omega);have pp:2^12<=2^redC d b:=Nat.pow_le_pow_right (by omega) (by omega);have e12:(2:Nat)^12=4096:=rfl;have hH:2^redC d b<=redH d b:=by
  show _<=(piI (redC d b)).n/2;omega
 have nB:redN d b<=2^redT d+1:=by
  have b1:=q4q ok (qak8 d);have xn:((redX d b).n:Rat)<=p2 (redT d)*p2 (redC d b)+1:=by
   have s:=qu6 (redX d b);have B0:=qif (redC d b);have m1:=mul_nn (show 0<=p2 (redT d)-d.rat by obtain⟨u,v⟩:=b1;grind) (Rat.le_of_lt B0);have m2:=mul_nn (show 0<=p2 (redT d)+d.rat by obtain⟨u,v⟩:=b1;grind) (Rat.le_of_lt B0);have ex:redX d b=Fx.of d (redC d b):=rfl;rw[ex]at s ⊢;have hs:=quf (Fx.of d (redC d b)).neg;generalize sgr (Fx.of d (redC d b)).neg=σ at *
   generalize (Fx.of d (redC d b)).int=I at *
   clear eC e12 pl pu pp hH hN;rcases hs with rfl|rfl<;>grind
  have xn2:(redX d b).n<=2^redT d*2^redC d b+1:=by
   refine Rat.natCast_le_natCast.1 ?_;rw[Rat.natCast_add,Rat.natCast_mul];exact xn
  show(redX d b).n/redH d b<=_;refine Nat.le_of_lt_succ (Nat.div_lt_of_lt_mul ?_);have k:=Nat.mul_le_mul hH (show 2^redT d+1+1<=2^redT d+1+1 from Nat.le_refl _);have k2:2^redC d b*(2^redT d+1+1)=2^redT d*2^redC d b+2^redC d b+2^redC d b:=by rw[Nat.mul_add,Nat.mul_add,Nat.mul_one,Nat.mul_comm (2^redC d b) (2^redT d)]
  show _<redH d b*(2^redT d+1+1);omega
 have sB:Bd ((redS d b:Int):Rat) (p2 (redT d)+1):=by
  have c:=qay nB;rw[qan,qig]at c;have n0:=natnn (redN d b);unfold redS;split
  ·rw[Rat.intCast_neg,Rat.intCast_natCast];constructor<;>grind
  ·rw[Rat.intCast_natCast];constructor<;>grind
 refine⟨N,fun n hn=>?_⟩;obtain⟨h1,h2⟩:=hN n hn;have eR:=qag9 (d:=d) (b:=b);have r1:Bd (((redR d b).int:Rat)-(d.rat-(redS d b:Rat)*hpi n)*p2 (redC d b)) (1+(p2 (redT d)+1)*65537):=by
  rw[eR,Rat.intCast_sub,Rat.intCast_mul];have hc:((redH d b:Nat):Int)=(((piI (redC d b)).n/2:Nat):Int):=rfl;rw[hc,Rat.intCast_natCast];have m:=sB.mul (show Bd (((piI (redC d b)).n/2:Nat)-hpi n*p2 (redC d b)) 65537 from⟨h1,h2⟩);obtain⟨u,v⟩:=m;have ex:redX d b=Fx.of d (redC d b):=rfl;rw[ex];constructor<;>grind
 have e2:(redI d b).n=(redR d b).n/2^(redT d+40):=rfl;have e3:(redI d b).neg=(redR d b).neg:=rfl;obtain⟨g1,g2⟩:=qgy (a:=(redR d b).n) (d:=2^(redT d+40)) (Nat.two_pow_pos _);rw[qig,Rat.div_def]at g1 g2;rw[qu6,e2,e3];have s:=qu6 (redR d b);have pw0:=qif (redT d+40);have pwi:=Rat.inv_pos.2 pw0;have pwm:=qax pw0;have eP:p2 (redC d b)=p2 b*p2 (redT d+40):=by rw[eC,qlo]
 rw[eP]at r1;have pT:=qif (redT d);have eT:p2 (redT d+40)=p2 (redT d)*1099511627776:=by rw[qlo];rfl
 have big:1+(p2 (redT d)+1)*65537<=p2 (redT d+40):=by
  have:1<=p2 (redT d):=by have:=p2_ge (redT d);have:=natnn (redT d);grind
  rw[eT];grind
 obtain⟨u1,u2⟩:=r1;generalize (d.rat-(redS d b:Rat)*hpi n)=v at *
 rw[s]at u1 u2;generalize p2 (redT d+40)=W at *
 have k1:=mul_nn (show 0<=W-(sgr (redR d b).neg*((redR d b).n:Rat)-v*(p2 b*W)) by grind) (Rat.le_of_lt pwi);have k2:=mul_nn (show 0<=W+(sgr (redR d b).neg*((redR d b).n:Rat)-v*(p2 b*W)) by grind) (Rat.le_of_lt pwi);have e5:v*(p2 b*W)*W⁻¹=v*p2 b:=by
  have:v*(p2 b*W)*W⁻¹=v*p2 b*(W*W⁻¹):=by grind
  rw[this,pwm,Rat.mul_one]
 have l1:sgr (redR d b).neg*((redR d b).n:Rat)*W⁻¹-v*p2 b<=1:=by grind
 have l2:-1<=sgr (redR d b).neg*((redR d b).n:Rat)*W⁻¹-v*p2 b:=by grind
 clear k1 k2 u1 u2 s eR e5 h1 h2 hN;have hs:=quf (redR d b).neg;generalize sgr (redR d b).neg=σ at *
 generalize (((redR d b).n/2^(redT d+40):Nat):Rat)=Q at *
 generalize ((redR d b).n:Rat)=R at *
 clear e2 e3 nB hH pp pl pu eC e12 eP eT big sB x1 x2;rcases hs with rfl|rfl<;>constructor<;>grind
end Go.Abs.W
