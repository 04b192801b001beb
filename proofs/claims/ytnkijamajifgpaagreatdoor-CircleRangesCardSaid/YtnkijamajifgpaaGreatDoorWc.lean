/- Parts of the proof: FpWc. -/
import Derived.Test.YtnkijamajifgpaaGreatDoorVg
import Derived.Test.YtnkijamajifgpaaGreatDoorWa
import Derived.Test.YtnkijamajifgpaaGreatDoorVc
namespace Go.Abs.W
theorem dvd_e {d:Dy}{c:Nat}(ok:d.Ok)(hm:d.m≠[])(h:pw c∣d.val):(c:Int)-16384<=d.e:=by
 have he:=ok.elo;have ho:=ok.odd hm;have hn:d.val.natAbs=natV d.m*2^(d.e+16384).toNat:=qdt d;have hd:2^c∣natV d.m*2^(d.e+16384).toNat:=by
  rw[<-hn];exact Int.natAbs_dvd_natAbs.2 h
 rcases Int.lt_or_le d.e ((c:Int)-16384)with h1|h1
 ·exfalso;have⟨k,hk⟩:∃k:Nat,k=(d.e+16384).toNat:=⟨_,rfl⟩
  rw[<-hk]at hd;have hlt:k+1<=c:=by omega
  have h2:2^(k+1)∣natV d.m*2^k:=Nat.dvd_trans (Nat.pow_dvd_pow 2 hlt) hd;rw[Nat.pow_succ,Nat.mul_comm (2^k)]at h2;have h3:=Nat.dvd_of_mul_dvd_mul_right (Nat.two_pow_pos k) h2;omega
 ·exact h1
theorem q72 {d:Dy}{t:Nat}(ok:d.Ok)(h1:-pw (16384+t)<=d.val)(h2:d.val<=pw (16384+t)):d.top<=(t:Int)+1:=by
 by_cases hm:d.m=[]
 ·unfold Dy.top;rw[if_pos hm];omega
 ·obtain⟨b1,_⟩:=ok.absN_bounds hm;have hn:d.val.natAbs=d.absN:=qdt d;have tp:=ok.top_pos hm;have h3:pw (d.top+16383).toNat<=pw (16384+t):=by
   have:pw (d.top+16383).toNat<=(d.absN:Int):=by unfold pw;exact Int.ofNat_le.2 b1
   omega
  rcases Int.lt_or_le ((t:Int)+1) d.top with h4|h4
  ·exfalso;have:=pw_lt_iff.2 (show 16384+t<(d.top+16383).toNat by omega);omega
  ·exact h4
theorem qamc {a b:Dy}(oa:a.Ok)(ob:b.Ok)(ha:a.m≠[]->-2000<=a.e)(hb:b.m≠[]->-2000<=b.e)(ta:a.top<=1000)(tb:b.top<=1000):(a.sum b).Ok:=by
 by_cases na:a.m=[]
 ·unfold Dy.sum;rw[if_pos na];exact ob
 ·by_cases nb:b.m=[]
  ·unfold Dy.sum;rw[if_neg na,if_pos nb];exact oa
  ·exact qamd oa ob (ha na) (hb nb) ta tb
structure Fine (x:Iv)(b t:Nat):Prop where
 k:x.known=true
 dl:pw (16384-b)∣x.lo.val
 dh:pw (16384-b)∣x.hi.val
 lo:-pw (16384+t)<=x.lo.val
 hi:x.hi.val<=pw (16384+t)
theorem Fine.sum {x:Iv}{b t:Nat}(w:x.W)(h:Fine x b t)(hb:b<=2000)(ht:t<=900):(x.hi.sum x.lo.neg').Ok:=by
 obtain⟨o1,o2⟩:=qai w h.k;have le:=qap w h.k;have h1:=h.lo;have h2:=h.hi;have t1:=q72 o1 h1 (by omega);have t2:=q72 o2 (by omega) h2;refine qamc o2 (qa9 o1) (fun hm=>?_) (fun hm=>?_) (by omega) (by rw[neg'_same.2.2];omega)
 ·have:=dvd_e o2 hm h.dh;omega
 ·rw[neg'_same.2.1];have:=dvd_e o1 (show x.lo.m≠[] from hm) h.dl;omega
theorem q3w {a:Fx}{b p:Nat}(hp:precB (p:Int)=true)(hb:b=p+64)(h:a.n+2^24<=4*2^b):Fine (Iv.near a b p) b 3/\(Iv.near a b p).hi.val-(Iv.near a b p).lo.val<=pw (16388-p):=by
 have hpp:=precB_iff.1 hp;have eb:=qbu b;have ha:bitL a.n<=4000:=by
  have h1:=qb4 (a:=4) (b:=2^b);have h2:bitL 4=3:=by decide
  have h3:=qat (show a.n<=4*2^b by omega);omega
 obtain⟨e,o1,o2⟩:=q3v (b:=b) hp ha (by omega);obtain⟨v1,v2⟩:=q86 (a:=a) (b:=b) (by omega);have ia:=q6n a;have e24:((2^24:Nat):Int)=2^24:=rfl;have q:=qaw (16384-b);have eP:pw b=((2^b:Nat):Int):=rfl;have em:pw 16386=(4*pw b)*pw (16384-b):=by
  have:4*pw b=pw (b+2):=by rw[show b+2=b+1+1 from rfl,qcj,qcj];omega
  rw[this,<-qbh];exact congrArg pw (by omega)
 have b1:-pw 16386<=(nearL a b).val:=by
  rw[v1,em,<-Int.neg_mul];exact Int.mul_le_mul_of_nonneg_right (by omega) (Int.le_of_lt q)
 have b2:(nearH a b).val<=pw 16386:=by
  rw[v2,em];exact Int.mul_le_mul_of_nonneg_right (by omega) (Int.le_of_lt q)
 have hLH:(nearH a b).val-(nearL a b).val=2*2^24*pw (16384-b):=by
  rw[v1,v2,<-Int.sub_mul];congr 1;omega
 have w25:2*2^24*pw (16384-b)<=pw (16386-p):=by
  have:(2*2^24:Int)=pw 25:=rfl;rw[this,<-qbh];exact pw_le (by omega)
 have w0:0<=2*2^24*pw (16384-b):=Int.mul_nonneg (by omega) (Int.le_of_lt q);have k:(Iv.mk (nearL a b) (nearH a b) false).known=true:=qbj o1 o2 (by omega);have dn:=qu9 o1 hp;have up:=qu8 o2 hp;obtain⟨d1,d2⟩:=dn.err (m:=16386) (by omega) (by omega) b1 (by omega);obtain⟨u1,u2⟩:=up.err (m:=16386) (by omega) (by omega) (by omega) b2;have dd:=dn.dvd (c:=16384-b) d1 (by omega) (by omega) (by rw[v1];exact Int.dvd_mul_left _ _);have du:=up.dvd (c:=16384-b) u1 (by omega) (by omega) (by rw[v2];exact Int.dvd_mul_left _ _);have er:(Iv.mk (nearL a b) (nearH a b) false).rnd p=⟨(qcd (nearL a b) p false).1,(qcd (nearH a b) p true).1,false⟩:=by
  unfold Iv.rnd;rw[k,hp,if_pos (by rfl)];unfold Iv.made;rw[if_pos ⟨d1,u1⟩]
 have kk:(Iv.mk (qcd (nearL a b) p false).1 (qcd (nearH a b) p true).1 false).known=true:=
  qbj rRound_ok rRound_ok (dn.le_up up (fun g g2 h h2=>by omega) d1 u1)
 rw[show((p:Nat):Int).toNat=p from rfl]at d2 u2;have le:=qap ⟨rRound_ok.w,rRound_ok.w⟩ kk;have p1:pw (16384+3)=2*pw 16386:=qcj 16386;have p2:pw (16386-p)<=pw 16386:=pw_le (by omega);have p3:pw (16388-p)=4*pw (16386-p):=by
  rw[show 16388-p=(16386-p)+1+1 by omega,qcj,qcj];omega
 rw[e,er];refine⟨⟨kk,dd,du,?_,?_⟩,?_⟩
 ·show _<=(qcd (nearL a b) p false).1.val;omega
 ·show(qcd (nearH a b) p true).1.val<=_;omega
 ·show(qcd (nearH a b) p true).1.val-(qcd (nearL a b) p false).1.val<=_;omega
end Go.Abs.W
