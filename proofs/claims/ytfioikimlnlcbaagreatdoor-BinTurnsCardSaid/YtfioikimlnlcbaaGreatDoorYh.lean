/- Parts of the proof: FpYz, FpZa, FpZb. -/
import Derived.Test.YtfioikimlnlcbaaGreatDoorYg
import Derived.Test.YtfioikimlnlcbaaGreatDoorVa
namespace Go.Abs.W
theorem q39 {x:Nm}{w:Nat}{l t:Int}(h:x.S w l t)(hw:w<=4096)(hl:-16384<=l)(ht:t<=16384):x.dy.valid=true:=by
 have b:=h.b;have l':=h.l;have t':=h.t;unfold Nm.dy;rw[Dy.of_valid];unfold Dy.of;by_cases h0:x.n=0
 ·rw[if_pos h0];rfl
 ·rw[if_neg h0];have hs:=qei (tz_le h0);unfold Dy.inR;simp only[qad];generalize bitL (x.n/2^tz x.n)=k at *
  generalize tz x.n=z at *
  simp only[Bool.or_eq_true,Bool.and_eq_true,decide_eq_true_eq,beq_iff_eq];omega
theorem dy_sc {x:Nm}(h:-16384<=x.e):(x.dy.val:Rat)=x.q*sc:=by
 have⟨K,hK⟩:∃K:Nat,K=16384:=⟨_,rfl⟩
 have e1:x.dy.val=x.val (K:Int):=by
  unfold Nm.dy;rw[qqh h];unfold Nm.val Nm.at_;rw[show x.e - -(K:Int)=x.e+16384 by omega]
 have e2:=q_val (x:=x) (K:=(K:Int)) (by omega);have e3:sc=2^(K:Int):=by
  unfold sc pw;rw[<-hK,<-qmm];rfl
 have e4:=qxr (K:Int);rw[e1,e2,e3];generalize (2:Rat)^(K:Int)=z at *
 generalize (2:Rat)^(-(K:Int))=y at *
 grind
theorem one_S {w:Nat}{t:Int}(hw:1<=w)(ht:1<=t):(Nm.whole 1).S w (-16384) t/\(Nm.whole (-1)).S w (-16384) t:=by
 have b1:bitL (Nm.whole 1).n=1:=rfl;have e1:(Nm.whole 1).e=0:=rfl;have o1:(Nm.whole 1).S w (-16384) t:=⟨by rw[b1];exact hw,by rw[e1];omega,by rw[b1,e1];omega⟩
 exact⟨o1,⟨o1.b,o1.l,o1.t⟩⟩
theorem qabs {x:Sp}{turns p:Nat}(h1:x.lo.Wv)(h2:x.hi.Wv)(h8:8<=p)(hp:p<=64):(qmo x turns p).S 700 (-16384) 10001:=by
 obtain⟨o1,o2⟩:=one_S (w:=700) (t:=10001) (by omega) (by omega);unfold qmo;split
 ·exact⟨o2,o1⟩
 ·have sS:=qrb (turns:=turns) (first:=qek x p) (qvu (turns:=turns) h1 h2 h8 hp) (by omega) (by omega) (qel x p);have rS:=(rnd_S (p:=p) sS (by omega) (by omega)).mono (w':=700) (l':=-16384) (t':=10001) (by omega) (by omega) (by omega);unfold qie;constructor
  ·simp only;split
   ·exact o2
   ·exact rS.lo
  ·simp only;split
   ·exact o1
   ·exact rS.hi
theorem qaeh {x:Sp}{turns p:Nat}(h1:x.lo.Wv)(h2:x.hi.Wv)(h8:8<=p)(hp:p<=64):(sinS x turns p).S 700 (-16384) 10001:=by
 unfold sinS;split
 ·split
  ·exact⟨h1.s.mono (by omega) (by omega) (by omega),h2.s.mono (by omega) (by omega) (by omega)⟩
  ·exact⟨(one_S (by omega) (by omega)).1,(one_S (by omega) (by omega)).1⟩
 ·exact qabs h1 h2 h8 hp
theorem qab8 {x:Iv}{turns p:Nat}{k:Int}(h1:x.sp.lo.Wv)(h2:x.sp.hi.Wv)(h8:8<=p)(hp:p<=64)(vk:(nD k).valid=true)(hin:(sinS x.sp turns p).In k):(sinI x turns p).has (nD k)=true:=by
 have s:=qaeh (turns:=turns) h1 h2 h8 hp;have v1:=q39 s.lo (by omega) (by omega) (by omega);have v2:=q39 s.hi (by omega) (by omega) (by omega);have c1:=dy_sc s.lo.l;have c2:=dy_sc s.hi.l;have hs:=Rat.le_of_lt q3b;have i1:=rmulR hin.lo hs;have i2:=rmulR hin.hi hs;rw[<-c1]at i1;rw[<-c2]at i2;have ek:((nD k).val:Rat)=(k:Rat)*sc:=by rw[qqi];unfold sc;push_cast;rfl
 rw[<-ek]at i1 i2;have j1:=Rat.intCast_le_intCast.1 i1;have j2:=Rat.intCast_le_intCast.1 i2;have m1:(sinS x.sp turns p).lo.dy.cmp (nD k)<=0:=by rw[qpv v1 vk,qhd];exact j1
 have m2:(nD k).cmp (sinS x.sp turns p).hi.dy<=0:=by rw[qpv vk v2,qhd];exact j2
 have m3:(sinS x.sp turns p).lo.dy.cmp (sinS x.sp turns p).hi.dy<=0:=by rw[qpv v1 v2,qhd];omega
 simp[Iv.has,Iv.valid,sinI,v1,v2,vk,m1,m2,m3]
theorem q7s {x:Sp}{turns p:Nat}{m:Int}(h1:x.lo.Wv)(h2:x.hi.Wv)(ht:turns<=1)(h8:8<=p)(hp:p<=64)
 (hlo:SLe (fun _=>x.lo.q) (fun N=>(m:Rat)*hpi N)) (hhi:SLe (fun N=>(m:Rat)*hpi N) (fun _=>x.hi.q)):(sinS x turns p).In (vT m turns):=by
 unfold sinS;split
 ·rename_i hz;simp only[Sp.z,Bool.and_eq_true,decide_eq_true_eq]at hz;have q1:x.lo.q=0:=by simp[Nm.q,Nm.mag,hz.1]
  have q2:x.hi.q=0:=by simp[Nm.q,Nm.mag,hz.2]
  rw[q1]at hlo;rw[q2]at hhi;have zd:∀y:Rat,(0:Rat)/y=0:=fun y=>by rw[Rat.div_def];grind
  have a:=q3r (F:=0) (X:=0) (m:=m) 0 (fun N _=>by rw[zd];exact Rat.le_refl) hlo;have b:=qy3 (F:=0) (X:=0) (m:=m) 0 (fun N _=>by rw[zd];exact Rat.le_refl) hhi;have m0:m=0:=by
   have a':=Rat.intCast_le_intCast.1 (show((0:Int):Rat)<=(m:Rat) from a);have b':=Rat.intCast_le_intCast.1 (show(m:Rat)<=((0:Int):Rat) from b);omega
  subst m0;have hv:=q0x 0 turns;split
  ·rename_i h0;subst h0;have e:vT 0 0=0:=qc5;rw[e];exact⟨by rw[q1];exact Rat.le_refl,by rw[q2];exact Rat.le_refl⟩
  ·obtain rfl:turns=1:=by omega
   have e:vT 0 1=1:=by show s4 (0+1)=1;rw[qbb,qec]
   rw[e];have:=qn9 (Nm.whole 1);rwa[whole1_q.1]at this
 ·exact q47 h1 h2 ht h8 hp hlo hhi
set_option maxRecDepth 20000
theorem q2b (k:Int)(h1:-4611686018427387904<=k)(h2:k<=4611686018427387904):CQ prog qsn [.int .i64 k] (nD k).v:=by
 refine qaf rfl fun H=>?_
 have hl:∀k,¬(H.length+k<H.length):=by intro k;omega
 simp;refine qab rfl rfl rfl (q2r k h1 h2) ?_;simp[nD]
def turnI (k:Int):Iv:=((piO 200).scl (-1)).mul (nI k k) 200
theorem qafy {k:Int}:(turnI k).W:=mul_W
theorem q69 {k:Int}(hk:k.natAbs<=1048576):(turnI k).Has (fun N=>(k:Rat)*hpi N):=by
 have h1:=(qahd piO_W (qagu 200)).near (t:=hpi) (Near.of_eq fun i=>by show hpi i=2*hpi i/2;grind);have h2:=qag3 (p:=200) qafn (nI_Wk hk) h1 (qajw k) qpi (qak3 _);exact h2.near (Near.of_eq fun i=>by show(k:Rat)*hpi i=hpi i*(k:Rat);grind)
def vZ (r:Int):Int:=if r=1 then 1 else if r=3 then -1 else 0
theorem vZ_T (m:Int)(turns:Nat):vT m turns=((vZ ((m+turns)%4):Int):Rat):=by
 rcases q0x m turns with ⟨h,e⟩|⟨h,e⟩|⟨h,e⟩|⟨h,e⟩<;>rw[h,e]<;>rfl
theorem vZ_bd (r:Int):(vZ r).natAbs<=1:=by unfold vZ;split<;>(try split)<;>decide
theorem qr2 {x:Iv}(wx:x.W)(l1:x.lo.m.length<=20)(l2:x.hi.m.length<=20)(h:withB x (-64) 64=true):x.sp.lo.Wv/\x.sp.hi.Wv/\-16384<=x.lo.e/\-16384<=x.hi.e:=by
 simp only[withB,Bool.and_eq_true,decide_eq_true_eq]at h;obtain⟨⟨k,a⟩,b⟩:=h;obtain⟨o1,o2⟩:=qb3 wx k;obtain⟨v,na⟩:=qc7 k;have n1:(nD (-64)).Ok:=nD_ok (by omega);have n2:(nD 64).Ok:=nD_ok (by omega);rw[qlf o1 n1,qw9,qqi]at a;rw[qlf o2 n2,qj1,qqi]at b;simp only[Iv.valid,na,Bool.false_eq_true,if_false,Bool.and_eq_true,decide_eq_true_eq]at v;have c:=v.2;rw[qlf o1 o2,qj1]at c;exact⟨Wv_of o1 l1 a (Int.le_trans c b),Wv_of o2 l2 (Int.le_trans a c) b,o1.elo,o2.elo⟩
theorem quk {x:Iv}{m:Int}{p turns:Nat}(wx:x.W)(l1:x.lo.m.length<=20)(l2:x.hi.m.length<=20)(h:withB x (-64) 64=true)(hm:m.natAbs<=1048576)
 (hin:(turnI m).ins x=true) (ht:turns<=1) (h8:8<=p) (hp:p<=64):(sinI x turns p).has (nD (vZ ((m+turns)%4)))=true:=by
 obtain⟨w1,w2,e1,e2⟩:=qr2 wx l1 l2 h;have kx:x.known=true:=by simp only[withB,Bool.and_eq_true]at h;exact h.1.1
 obtain⟨vx,ax⟩:=qc7 kx;have ka:(turnI m).known=true:=by
  simp only[Iv.ins,Bool.and_eq_true,ax,Bool.false_or,Bool.not_eq_true']at hin;simp[Iv.known,hin.1.1,hin.2.1.1]
 obtain⟨s1,s2⟩:=q0y (q69 hm) ka kx hin e1 e2;have:=q7s (x:=x.sp) w1 w2 ht h8 hp s1 s2;rw[vZ_T]at this;exact qab8 w1 w2 h8 hp (nD_ok (by have:=vZ_bd ((m+turns)%4);omega)).valid this
theorem qaej {x:Iv}{turns p:Nat}(h1:x.sp.lo.Wv)(h2:x.sp.hi.Wv)(h8:8<=p)(hp:p<=64):(sinI x turns p).W:=by
 have s:=qaeh (turns:=turns) h1 h2 h8 hp;have key:∀{y:Nm},y.S 700 (-16384) 10001->y.dy.W:=fun{y} hy=>by
  have⟨B,hB⟩:∃B,B=700:=⟨_,rfl⟩
  refine Dy.of_W (Nat.le_trans (qeh (B:=B) (k:=22) ?_ (by omega)) (by omega));exact Nat.lt_of_lt_of_le (qbw _) (Nat.pow_le_pow_right (by omega) (by have:=hy.b;omega))
 exact⟨key s.lo,key s.hi⟩
theorem qajj (n:Int)(h1:-128<=n)(h2:n<=127):-39<=n.tmod 40/\n.tmod 40<=39:=by
 rcases Int.le_total 0 n with h|h
 ·rw[Int.tmod_eq_emod_of_nonneg h];omega
 ·obtain⟨y,rfl⟩:∃y,n=-y:=⟨-n,by omega⟩
  rw[Int.neg_tmod,Int.tmod_eq_emod_of_nonneg (a:=y) (by omega)];omega
theorem q2i (x:Iv)(n p:Int)(lx:Li x.lo.m/\Li x.hi.m)(hn:IntKind.i8.min<=n/\n<=IntKind.i8.max):CQ prog qoo [x.v,.int .i8 n,.int .i64 p] (.bool true):=by
 refine qaf rfl fun H=>?_
 have hl:∀k,¬(H.length+k<H.length):=by intro k;omega
 simp;refine zq q6n ?_;simp;refine qab rfl rfl rfl (q5s x x p) ?_;cases hg:qwd x x p
 case true=>simp
 simp only[qwd,Bool.or_eq_false_iff,decide_eq_false_iff_not]at hg;obtain⟨⟨⟨⟨g1,g2⟩,-⟩,-⟩,-⟩:=hg;have wx:x.W:=⟨⟨lx.1,by omega⟩,⟨lx.2,by omega⟩⟩
 by_cases hp:64<p
 ·simp[hp]
 simp[hp];refine qab rfl rfl rfl (qacj x p wx) ?_;cases ho:poi48 x p
 case true=>simp
 simp;refine qab rfl rfl rfl (qacq x wx) ?_;cases hm:withB x (-64) 64
 case false=>simp
 have pp:precB p=true:=by
  simp only[poi48,Bool.or_eq_false_iff,Bool.not_eq_false']at ho;exact ho.2
 obtain⟨p8,-⟩:8<=p/\p<=512:=by simpa[precB]using pp
 obtain⟨w1,w2,-,-⟩:=qr2 wx (by omega) (by omega) hm;have kx:x.known=true:=by simp only[withB,Bool.and_eq_true]at hm;exact hm.1.1
 obtain⟨vx,ax⟩:=qc7 kx;obtain⟨q,rfl⟩:∃q:Nat,p=q:=⟨p.toNat,by omega⟩
 have n1:-128<=n:=hn.1;have n2:n<=127:=hn.2;obtain⟨k1,k2⟩:=qajj n n1 n2;have ew:IntKind.i64.wrap n=n:=by rw[wrap_i64]<;>omega
 have ew2:IntKind.i64.wrap (n.tmod 40)=n.tmod 40:=by rw[wrap_i64]<;>omega
 obtain⟨j1,j2,j3⟩:=tm4 (n.tmod 40);have ew3:IntKind.i64.wrap ((n.tmod 40).tmod 4)=(n.tmod 40).tmod 4:=by rw[wrap_i64]<;>omega
 have ew4:IntKind.i64.wrap ((n.tmod 40).tmod 4+4)=(n.tmod 40).tmod 4+4:=by rw[wrap_i64]<;>omega
 have t1:=quk (m:=n.tmod 40) (p:=q) (turns:=0) wx (by omega) (by omega) hm (by omega);have t2:=quk (m:=n.tmod 40) (p:=q) (turns:=1) wx (by omega) (by omega) hm (by omega);have cd:=q2b (n.tmod 40) (by omega) (by omega);have cp:=qpe (nD (n.tmod 40));rw[show(⟨nD (n.tmod 40),nD (n.tmod 40),false⟩:Iv)=nI (n.tmod 40) (n.tmod 40) from rfl]at cp;have ci:=Pi_cq 200;have cs:=qabd (piO 200) (-1) piO_W;have cm:=qail ((piO 200).scl (-1)) (nI (n.tmod 40) (n.tmod 40)) 200 qafn (nI_Wk (by omega));rw[show((piO 200).scl (-1)).mul (nI (n.tmod 40) (n.tmod 40)) 200=turnI (n.tmod 40) from rfl]at cm;have cn:=q6y (turnI (n.tmod 40)) x qafy wx;have c1:=qah0 x q wx vx ax w1 w2 (by omega) (by omega);have c2:=qah2 x q wx vx ax w1 w2 (by omega) (by omega);have h1:=qabe (sinI x 0 q) (nD (vZ ((n.tmod 40+0)%4))) (qaej w1 w2 (by omega) (by omega)) (nD_ok (by have:=vZ_bd ((n.tmod 40+0)%4);omega)).w;have h2:=qabe (sinI x 1 q) (nD (vZ ((n.tmod 40+1)%4))) (qaej w1 w2 (by omega) (by omega)) (nD_ok (by have:=vZ_bd ((n.tmod 40+1)%4);omega)).w
 have v1:=q2b (vZ ((n.tmod 40+0)%4)) (by have:=vZ_bd ((n.tmod 40+0)%4);omega) (by have:=vZ_bd ((n.tmod 40+0)%4);omega);have v2:=q2b (vZ ((n.tmod 40+1)%4)) (by have:=vZ_bd ((n.tmod 40+1)%4);omega) (by have:=vZ_bd ((n.tmod 40+1)%4);omega);simp only[Int.natCast_zero,Int.natCast_one]at t1 t2;generalize turnI (n.tmod 40)=T at *
 generalize (piO 200).scl (-1)=P at *
 generalize piO 200=O at *
 generalize nI (n.tmod 40) (n.tmod 40)=N at *
 generalize nD (n.tmod 40)=D at *
 generalize sinI x 0 q=S at *
 generalize sinI x 1 q=C at *
 simp;refine zq ci ?_;simp;refine zq cs ?_;simp[ew];refine zq cd ?_;simp;refine zq cp ?_;simp;refine zq cm ?_;simp[hl];refine zq cn ?_;cases hi:T.ins x
 case false=>simp
 rw[t1 hi (by omega) (by omega) (by omega)]at h1;rw[t2 hi (by omega) (by omega) (by omega)]at h2;simp;refine zq c1 ?_;simp;refine zq c2 ?_;have jj:(n.tmod 40).tmod 4=n.tmod 4:=Int.tmod_tmod_of_dvd n (by decide);rw[jj]at j1 j2 j3 ew3 ew4;have a1:∀i:Int,0<=i->i<=4->IntKind.i64.wrap i=i:=fun i h h'=>by rw[wrap_i64]<;>omega
 have a2:(0:Int).tmod 4=0:=rfl;generalize n.tmod 40=m at *
 rcases(by omega:m%4=0\/m%4=1\/m%4=2\/m%4=3)with h|h|h|h
 ·rw[h]at j3;rw[show(m+0)%4=0 by omega,show vZ 0=0 from rfl]at h1 v1;rw[show(m+1)%4=1 by omega,show vZ 1=1 from rfl]at h2 v2;simp[hl,ew,ew4,j3];refine zq v1 ?_;simp;refine zq h1 ?_;simp[a1];refine zq v2 ?_;simp;refine zq h2 ?_;simp
 ·rw[h]at j3;rw[show(m+0)%4=1 by omega,show vZ 1=1 from rfl]at h1 v1;rw[show(m+1)%4=2 by omega,show vZ 2=0 from rfl]at h2 v2;simp[hl,ew,ew4,j3];refine zq v1 ?_;simp;refine zq h1 ?_;simp[a1];refine zq v2 ?_;simp;refine zq h2 ?_;simp
 ·rw[h]at j3;rw[show(m+0)%4=2 by omega,show vZ 2=0 from rfl]at h1 v1;rw[show(m+1)%4=3 by omega,show vZ 3=(-1) from rfl]at h2 v2;simp[hl,ew,ew4,j3];refine zq v1 ?_;simp;refine zq h1 ?_;simp[a1];refine zq v2 ?_;simp;refine zq h2 ?_;simp
 ·rw[h]at j3;rw[show(m+0)%4=3 by omega,show vZ 3=(-1) from rfl]at h1 v1;rw[show(m+1)%4=0 by omega,show vZ 0=0 from rfl]at h2 v2;simp[hl,ew,ew4,j3];refine zq v1 ?_;simp;refine zq h1 ?_;simp[a1];refine zq v2 ?_;simp;refine zq h2 ?_;simp
end Go.Abs.W
