/- Parts of the proof: FpUa, FpUb, FpUc, FpUd, FpUe, FpUf, FpUg, FpVa, FpVb, FpVc. -/
import Derived.Test.YtfioikimlnlcbaaGreatDoorCe
import Derived.Test.YtfioikimlnlcbaaGreatDoorTa
import Derived.Test.YtfioikimlnlcbaaGreatDoorXf
namespace Go.Abs.W
theorem qry {a d:Nat}(hd:0<d):0<=(a:Rat)/(d:Rat)-((a/d:Nat):Rat)/\(a:Rat)/(d:Rat)-((a/d:Nat):Rat)<=1:=by
 have h1:=Nat.div_mul_le_self a d;have h2:a<=(a/d+1)*d:=Nat.le_of_lt (Nat.lt_mul_of_div_lt (Nat.lt_succ_self _) hd);have c1:=qa2 h1;have c2:=qa2 h2;rw[Rat.natCast_mul]at c1 c2;rw[qav]at c2;have dp:(0:Rat)<(d:Rat):=by have:=qa2 (show 1<=d from hd);have e:((1:Nat):Rat)=1:=rfl;grind
 have ip:=Rat.inv_pos.2 dp;have pm:=qfc dp;have k1:=Rat.mul_le_mul_of_nonneg_right c1 (Rat.le_of_lt ip);have k2:=Rat.mul_le_mul_of_nonneg_right c2 (Rat.le_of_lt ip);rw[Rat.div_def];have e1:((a/d:Nat):Rat)*(d:Rat)*(d:Rat)⁻¹=((a/d:Nat):Rat):=by rw[Rat.mul_assoc,pm,Rat.mul_one]
 have e2:(((a/d:Nat):Rat)+1)*(d:Rat)*(d:Rat)⁻¹=((a/d:Nat):Rat)+1:=by rw[Rat.mul_assoc,pm,Rat.mul_one]
 rw[e1]at k1;rw[e2]at k2;constructor<;>grind
theorem q1k {a:Fx}(h:a.neg=false):(a.int:Rat)=(a.n:Rat):=by
 unfold Fx.int;rw[h];exact Rat.intCast_natCast _
theorem q86 (a:Fx):(a.int:Rat)=(if a.neg then -1 else 1)*(a.n:Rat):=by
 unfold Fx.int;cases a.neg
 ·simp only[Bool.false_eq_true,if_false];rw[Rat.intCast_natCast];grind
 ·simp only[if_true];rw[Rat.intCast_neg,Rat.intCast_natCast];grind
theorem qak5 (a:Fx){k:Nat}(hk:0<k):Bd (((a.by' k).int:Rat)-(a.int:Rat)/(k:Rat)) 1:=by
 obtain⟨h1,h2⟩:=qry (a:=a.n) hk;rw[q86,q86];have e1:(a.by' k).neg=a.neg:=rfl;have e2:(a.by' k).n=a.n/k:=rfl;rw[e1,e2];rw[Rat.div_def]at *
 cases a.neg
 ·simp only[Bool.false_eq_true,if_false];constructor<;>grind
 ·simp only[if_true];constructor<;>grind
theorem q8r (z:Rat)(j i:Nat):od z (j+i)=od z j*ev z i:=by
 induction i with
 |zero=>simp only[Nat.add_zero,ev];grind
 |succ i ih=>rw[<-Nat.add_assoc];simp only[od,ev];rw[ih];grind
theorem qah5 {z:Rat}(h0:0<=z)(h1:4*z<=1)(j i:Nat):Bd (at' z (j+i)-at' z j) (16/15*od z (j+1)):=by
 have key:∀i,Bd (at' z (j+(i+1))-at' z j) (od z (j+1)*ps (ev z) i):=by
  have st:∀i,Bd (lta z (j+1+i)) (od z (j+1)*ev z i):=fun i=>by
   have:=sg_Bd (lt_le h0 (j+1+i)) (j+1+i);rw[<-od_ev,q8r]at this;exact this
  intro i;unfold at';induction i with
  |zero=>obtain⟨a,b⟩:=st 0;simp only[ps,Nat.add_zero]at *;constructor<;>grind
  |succ i ih=>
   have s:=st (i+1);rw[show j+1+(i+1)=j+(i+1)+1 by omega]at s;obtain⟨a,b⟩:=ih.add s;rw[show j+(i+1+1)=j+(i+1)+1 by omega];simp only[ps]at *
   constructor<;>grind
 have o:=od_nn h0 (j+1);cases i with
 |zero=>rw[Nat.add_zero];constructor<;>grind
 |succ i=>
  obtain⟨a,b⟩:=key i;have m:=mul_nn o (show 0<=16/15-ps (ev z) i by have:=qox h0 h1 i;grind);constructor<;>grind
theorem qajf (j:Nat):sg j=if j%2=1 then -1 else 1:=by
 induction j with
 |zero=>rfl
 |succ j ih=>
  simp only[sg];rw[ih];by_cases h:j%2=1
  ·rw[if_pos h,if_neg (by omega)];grind
  ·rw[if_neg h,if_pos (by omega)]
theorem q4u (next:Fx->Fx){z B:Rat}(z0:0<=z)(z4:4*z<=1)(P0:Nat)
 (H:∀(p:Fx) (j:Nat),p.n<=P0->p.neg=false->Bd ((p.n:Rat)-od z j*B) 2->(next p).neg=false/\Bd (((next p).n:Rat)-od z (j+1)*B) 2/\2*(next p).n<=p.n) (J:Nat) (B0:0<=B) :
 ∀(f j:Nat) (p s:Fx),p.n<=P0->p.n<f->p.neg=false->j+bitL p.n<=J->Bd ((p.n:Rat)-od z j*B) 2->Bd ((s.int:Rat)-at' z j*B) (2*(j:Rat)+1) ->
 ∃N,∀n,N<=n->Bd (((altG next f (j+1) p s).int:Rat)-at' z n*B) (2*(J:Rat)+4)
 |0,j,p,s,_,hf,_,_,_,_=>absurd hf (by omega)
 |f+1,j,p,s,hP,hf,hn,hJ,hp,hs=>by
  obtain⟨q1,q2,q3⟩:=H p j hP hn hp;unfold altG;by_cases hz:(next p).n=0
  ·rw[if_pos hz];rw[hz,show((0:Nat):Rat)=0 from rfl]at q2;refine⟨j,fun n hjn=>?_⟩;obtain⟨i,rfl⟩:=Nat.exists_eq_add_of_le hjn;have r:=qah5 z0 z4 j i;have jJ:=qa2 (show j<=J by omega);obtain⟨a,b⟩:=r;obtain⟨c,d⟩:=hs;obtain⟨e,g⟩:=q2;have m1:=mul_nn (show 0<=16/15*od z (j+1)-(at' z (j+i)-at' z j) by grind) B0;have m2:=mul_nn (show 0<=16/15*od z (j+1)+(at' z (j+i)-at' z j) by grind) B0;constructor<;>grind
  ·rw[if_neg hz];have hb:=qvn q3 hz;obtain⟨te1,te2⟩:=qak5 (next p) (k:=2*(j+1)+1) (by omega);have tn:((next p).by' (2*(j+1)+1)).neg=false:=q1;rw[q1k q1]at te1 te2;have e2k:((2*(j+1)+1:Nat):Rat)=2*((j:Rat)+1)+1:=by rw[qv7,qav]
   have hlta:lta z (j+1)=sg (j+1)*(od z (j+1)/((2*(j+1)+1:Nat):Rat)):=rfl;have cp:=qh8 (2*(j+1));have ci:=Rat.inv_pos.2 cp;have c3:((2*(j+1)+1:Nat):Rat)⁻¹<=1/2:=by
    have:=q3u (show(0:Rat)<2 by decide) (show(2:Rat)<=((2*(j+1)+1:Nat):Rat) by have:=natnn j;rw[e2k];grind);have e:(2:Rat)⁻¹=1/2:=by grind
    grind
   rw[Rat.div_def]at te1 te2 hlta;have ats:at' z (j+1)=at' z j+lta z (j+1):=rfl;obtain⟨u1,u2⟩:=q2;have m1:=mul_nn (show 0<=2-(((next p).n:Rat)-od z (j+1)*B) by grind) (Rat.le_of_lt ci);have m2:=mul_nn (show 0<=2+(((next p).n:Rat)-od z (j+1)*B) by grind) (Rat.le_of_lt ci);obtain⟨v1,v2⟩:=hs;have sgn:=qajf (j+1);have key:Bd (((s.add (if(j+1)%2=1 then((next p).by' (2*(j+1)+1)).minus else(next p).by' (2*(j+1)+1))).int:Rat)-at' z (j+1)*B) (2*((j+1:Nat):Rat)+1):=by
    rw[qav,qxh,Rat.intCast_add,ats,hlta,sgn];split
    ·rw[qyv,Rat.intCast_neg];constructor<;>grind
    ·constructor<;>grind
   exact q4u next z0 z4 P0 H J B0 f (j+1) (next p) _ (by omega) (by omega) q1 (by omega) ⟨u1,u2⟩ key
theorem qagw (b:Nat):((2^b:Nat):Rat)=p2 b:=rfl
theorem q3v {m b:Nat}(hm:4<=m)(_hm2:m<=1000):∃N,∀n,N<=n->Bd (((invI m b).int:Rat)-at' (1/(m:Rat)) n*p2 b) (2*(b:Rat)+8):=by
 have m4:=qa2 hm;rw[show((4:Nat):Rat)=4 from rfl]at m4;have mp:(0:Rat)<(m:Rat):=by grind
 have im:=Rat.inv_pos.2 mp;have mm:=qfc mp;have ez:1/(m:Rat)=(m:Rat)⁻¹:=by rw[Rat.div_def,Rat.one_mul]
 have z4:4*(m:Rat)⁻¹<=1:=by
  have:=Rat.mul_le_mul_of_nonneg_right m4 (Rat.le_of_lt im);rwa[mm]at this
 have B0:=qaey b;rw[ez];obtain⟨d1,d2⟩:=qry (a:=2^b) (d:=m) (by omega);rw[qagw,Rat.div_def]at d1 d2;have bl:bitL (2^b/m)<=b+1:=by
  have:=qd1 (Nat.div_le_self (2^b) m);rw[qtq]at this;exact this
 have key:=q4u (fun a=>a.by' (m*m)) (z:=(m:Rat)⁻¹) (B:=p2 b) (Rat.le_of_lt im) z4 (2^b/m) (fun p j hp hn hb=>by
  have mm0:0<m*m:=Nat.mul_pos (by omega) (by omega);refine⟨hn,?_,?_⟩
  ·obtain⟨e1,e2⟩:=qry (a:=p.n) (d:=m*m) mm0;show Bd (((p.n/(m*m):Nat):Rat)-_) 2;rw[Rat.div_def,Rat.natCast_mul]at e1 e2;have ei:((m:Rat)*(m:Rat))⁻¹=(m:Rat)⁻¹*(m:Rat)⁻¹:=by
    have h1:((m:Rat)*(m:Rat))*((m:Rat)⁻¹*(m:Rat)⁻¹)=1:=by
     have:((m:Rat)*(m:Rat))*((m:Rat)⁻¹*(m:Rat)⁻¹)=((m:Rat)*(m:Rat)⁻¹)*((m:Rat)*(m:Rat)⁻¹):=by grind
     rw[this,mm,Rat.one_mul]
    have h2:=qfc (Rat.mul_pos mp mp);have h3:((m:Rat)*(m:Rat))⁻¹*(((m:Rat)*(m:Rat))*((m:Rat)⁻¹*(m:Rat)⁻¹))=((m:Rat)*(m:Rat))*((m:Rat)*(m:Rat))⁻¹*((m:Rat)⁻¹*(m:Rat)⁻¹):=by grind
    rw[h1,h2,Rat.mul_one,Rat.one_mul]at h3;exact h3
   rw[ei]at e1 e2;simp only[od];obtain⟨f1,f2⟩:=hb;have zz:0<=(m:Rat)⁻¹*(m:Rat)⁻¹:=sq_nn _;have zz1:(m:Rat)⁻¹*(m:Rat)⁻¹<=1/16:=by
    have:=qcj (a:=(m:Rat)⁻¹) (b:=1/4) (c:=(m:Rat)⁻¹) (d:=1/4) (by grind) (by grind) (by grind) (Rat.le_of_lt im);grind
   have g1:=mul_nn (show 0<=2-((p.n:Rat)-od (m:Rat)⁻¹ j*p2 b) by grind) zz;have g2:=mul_nn (show 0<=2+((p.n:Rat)-od (m:Rat)⁻¹ j*p2 b) by grind) zz;constructor<;>grind
  ·exact q2e (a:=p) (n:=m) (by omega)) (b+2) (Rat.le_of_lt B0) (2^b/m+1) 0 ⟨false,2^b/m⟩ ⟨false,2^b/m⟩ (Nat.le_refl _) (Nat.lt_succ_self _) rfl (by simp only[];omega) (by
  simp only[od];constructor<;>grind) (by
  rw[q1k rfl];have e0:at' (m:Rat)⁻¹ 0=(m:Rat)⁻¹:=by
   show sg 0*lt (m:Rat)⁻¹ 0=_;unfold lt;simp only[od,sg];rw[show((2*0+1:Nat):Rat)=1 from rfl];grind
  rw[e0,show((0:Nat):Rat)=0 from rfl];simp only[];constructor<;>grind)
 obtain⟨N,hN⟩:=key;refine⟨N,fun n hn=>?_⟩;obtain⟨a,c⟩:=hN n hn;have eJ:((b+2:Nat):Rat)=(b:Rat)+2:=by rw[qav,qav];grind
 rw[eJ]at a c;unfold invI altI;constructor<;>grind
theorem qagv {b:Nat}(_hb:10<=b)(hb2:b<=3000):∃N,∀n,N<=n->Bd (((piI b).int:Rat)-2*hpi n*p2 b) 131072:=by
 obtain⟨N,hN⟩:=q3v (m:=5) (b:=b) (by decide) (by decide);obtain⟨M,hM⟩:=q3v (m:=239) (b:=b) (by decide) (by decide);have bb:=qa2 hb2;rw[show((3000:Nat):Rat)=3000 from rfl]at bb;refine⟨max N M,fun n hn=>?_⟩;obtain⟨a1,a2⟩:=hN n (by omega);obtain⟨c1,c2⟩:=hM n (by omega);rw[q1k (qr6 (by decide)).1]at a1 a2 c1 c2;rw[show((5:Nat):Rat)=5 from rfl]at a1 a2;rw[show((239:Nat):Rat)=239 from rfl]at c1 c2;have e:((piI b).int:Rat)=16*((invI 5 b).n:Rat)-4*((invI 239 b).n:Rat):=by
  unfold piI;rw[qxh,Rat.intCast_add];have e1:(Fx.mk false ((invI 5 b).n*2^4)).int=16*((invI 5 b).n:Int):=by unfold Fx.int;simp;omega
  have e2:(Fx.mk true ((invI 239 b).n*2^2)).int=-(4*((invI 239 b).n:Int)):=by unfold Fx.int;simp;omega
  rw[e1,e2,Rat.intCast_neg,Rat.intCast_mul,Rat.intCast_mul,Rat.intCast_natCast,Rat.intCast_natCast,show((16:Int):Rat)=16 from rfl,show((4:Int):Rat)=4 from rfl];grind
 rw[e];unfold hpi e8;constructor<;>grind
theorem pwq (a:Nat):((pw a:Int):Rat)=p2 a:=by unfold pw p2;rw[Rat.intCast_natCast]
theorem qajq (a b:Nat):p2 (a+b)=p2 a*p2 b:=by unfold p2;rw[Nat.pow_add,Rat.natCast_mul]
theorem q8s {a:Fx}{b:Nat}{p:Int}(hp:precB p=true)(ha:bitL a.n<=4000)(hb:b<=8000):Iv.near a b p=(Iv.mk (nearL a b) (nearH a b) false).rnd p/\(nearL a b).Ok/\(nearH a b).Ok:=by
 obtain⟨r1,r2⟩:=q3l ha hb;obtain⟨v1,v2⟩:=q8t (a:=a) (b:=b) (by omega);have o1:(nearL a b).Ok:=Dy.of_ok r1;have o2:(nearH a b).Ok:=Dy.of_ok r2;have k:(Iv.mk (nearL a b) (nearH a b) false).known=true:=by
  refine qma o1 o2 ?_;rw[v1,v2];exact Int.mul_le_mul_of_nonneg_right (by omega) (Int.le_of_lt (qc6 _))
 refine⟨?_,o1,o2⟩;unfold Iv.near Iv.rnd;rw[r1,r2,k,hp]
theorem qagz {a:Fx}{b:Nat}{p:Int}{q:Rat}(hp:precB p=true)(ha:bitL a.n<=4000)(hb:b<=8000)(h:Bd ((a.int:Rat)-q*p2 b) 16777216):(Iv.near a b p).In q:=by
 obtain⟨e,o1,o2⟩:=q8s hp ha hb;rw[e];refine qajh ⟨o1.w,o2.w⟩ fun _=>?_
 obtain⟨v1,v2⟩:=q8t (a:=a) (b:=b) (by omega);show(((nearL a b).val:Int):Rat)<=_/\_<=(((nearH a b).val:Int):Rat);have e24:((2^24:Int):Rat)=16777216:=rfl;rw[v1,v2,Rat.intCast_mul,Rat.intCast_mul,Rat.intCast_sub,Rat.intCast_add,e24,pwq];have es:sc=p2 b*p2 (16384-b):=(pwq 16384).trans ((congrArg p2 (show 16384=b+(16384-b) by omega)).trans (qajq _ _));rw[es];have P:=qaey (16384-b);obtain⟨u,v⟩:=h;have m1:=mul_nn (show 0<=16777216+((a.int:Rat)-q*p2 b) by grind) (Rat.le_of_lt P);have m2:=mul_nn (show 0<=16777216-((a.int:Rat)-q*p2 b) by grind) (Rat.le_of_lt P);generalize p2 (16384-b)=W at *
 constructor<;>grind
theorem qacm {a:Fx}{b:Nat}{p:Int}{s:Nat->Rat}(hp:precB p=true)(ha:bitL a.n<=4000)(hb:b<=8000)(h:∃N,∀n,N<=n->Bd ((a.int:Rat)-s n*p2 b) 16777216):(Iv.near a b p).Has s:=by
 obtain⟨N,hN⟩:=h;exact Iv.Has.of_ev N fun n hn=>qagz hp ha hb (hN n hn)
def cK (q:Rat):Nat->Rat:=fun _=>q
theorem qak3 (q:Rat):Bnd (cK q):=Bnd.const q
def pis : Nat->Rat:=fun n=>2*hpi n
theorem qagt {p:Int}(hp:precB p=true):(piO p).Bt (pw 16385) (pw 16386)/\(piO p).Has pis:=by
 obtain⟨h1,h2⟩:=q8i hp;unfold piO;rw[if_pos hp];obtain⟨pn,pl,pu⟩:=q8l (b:=p.toNat+64) (by omega);have eb:=qtq (p.toNat+64);have h4:bitL (piI (p.toNat+64)).n<=4000:=by
  have h3:=qmh (a:=4) (b:=2^(p.toNat+64));have h5:bitL 4=3:=by decide
  have h6:=qd1 (show(piI (p.toNat+64)).n<=4*2^(p.toNat+64) by omega);omega
 have big:2^30<=2^(p.toNat+64):=Nat.pow_le_pow_right (by omega) (by omega);have e30:(2:Nat)^30=1073741824:=rfl;have e24:(2:Int)^24=16777216:=rfl;have ei:(piI (p.toNat+64)).int=(piI (p.toNat+64)).n:=by unfold Fx.int;rw[pn];rfl
 refine⟨qag0 hp h4 (by omega) (qpk (by omega)) (qpk (by omega)) ?_ ?_,qacm hp h4 (by omega) ?_⟩
 ·have e:pw 16385=(2*pw (p.toNat+64))*pw (16384-(p.toNat+64)):=by rw[<-qm3,<-qe9];exact congrArg pw (by omega)
  rw[e];refine Int.mul_le_mul_of_nonneg_right ?_ (Int.le_of_lt (qc6 _));have eP:pw (p.toNat+64)=((2^(p.toNat+64):Nat):Int):=rfl;rw[ei,e24,eP];omega
 ·have e:pw 16386=(2*(2*pw (p.toNat+64)))*pw (16384-(p.toNat+64)):=by rw[<-qm3,<-qm3,<-qe9];exact congrArg pw (by omega)
  rw[e];refine Int.mul_le_mul_of_nonneg_right ?_ (Int.le_of_lt (qc6 _));have eP:pw (p.toNat+64)=((2^(p.toNat+64):Nat):Int):=rfl;rw[ei,e24,eP];omega
 ·obtain⟨N,hN⟩:=qagv (b:=p.toNat+64) (by omega) (by omega);exact⟨N,fun n hn=>by obtain⟨a,b⟩:=hN n hn;exact⟨by show _<=_-2*hpi n*_;grind,by show _-2*hpi n*_<=_;grind⟩⟩
theorem piO_W {p:Int}:(piO p).W:=by unfold piO;split<;>first|exact qajt|exact Iv.whole_W
theorem qajw (k:Int):(nI k k).Has (cK (k:Rat)):=(qajv k).has
theorem qagu (n:Int):(piO n).Has pis:=by
 by_cases h:precB n=true
 ·exact(qagt h).2
 ·unfold piO;rw[if_neg h];exact .whole
end Go.Abs.W
