/- Parts of the proof: FpCe, FpCg, FpCh, FpCi. -/
import Derived.Test.YtfioikimlnlcbaaGreatDoorCa
import Derived.Test.YtfioikimlnlcbaaGreatDoorFi
import Derived.Test.YtfioikimlnlcbaaGreatDoorFi
import Derived.Test.YtfioikimlnlcbaaGreatDoorHm
namespace Go.Abs.W
theorem q0m (next:Fx->Fx)(m:Nat)(hm:4<=m)(hh:∀a:Fx,(next a).n*m<=a.n)(hs:∀a:Fx,a.neg=false->(next a).neg=false):∀(f k:Nat) (p s:Fx),1<=k->p.neg=false->s.neg=false->p.n<=s.n ->
 (altG next f k p s).neg=false/\(3*(m-1))*s.n<=(3*(m-1))*(altG next f k p s).n+p.n/\(3*(m-1))*(altG next f k p s).n<=(3*(m-1))*s.n+p.n
 |0,k,p,s,_,_,h,_=>⟨h,Nat.le_add_right _ _,Nat.le_add_right _ _⟩
 |f+1,k,p,s,hk,hp,h,hps=>by
  have h1:=hh p;have hqn:=hs p hp;unfold altG;split
  ·exact⟨h,Nat.le_add_right _ _,Nat.le_add_right _ _⟩
  ·generalize next p=q at *
   have ht:3*(q.by' (2*k+1)).n<=q.n:=by
    show 3*(q.n/(2*k+1))<=q.n;have h3:q.n/(2*k+1)*3<=q.n/(2*k+1)*(2*k+1):=Nat.mul_le_mul_left _ (by omega);have h4:=Nat.div_mul_le_self q.n (2*k+1);omega
   have htn:(q.by' (2*k+1)).neg=false:=hqn;have hq4:q.n*4<=q.n*m:=Nat.mul_le_mul_left _ hm;generalize q.by' (2*k+1)=t at *
   have key:∀u:Fx,u.neg=false->q.n<=u.n->s.n<=u.n+t.n->u.n<=s.n+t.n ->
    (altG next f (k+1) q u).neg=false/\(3*(m-1))*s.n<=(3*(m-1))*(altG next f (k+1) q u).n+p.n/\(3*(m-1))*(altG next f (k+1) q u).n<=(3*(m-1))*s.n+p.n:=by
    intro u hu h5 h6 h7;obtain⟨a,b,c⟩:=q0m next m hm hh hs f (k+1) q u (by omega) hqn hu h5;have h8:(3*(m-1))*t.n<=(m-1)*q.n:=by
     have:(m-1)*(3*t.n)<=(m-1)*q.n:=Nat.mul_le_mul_left _ ht;rw[show 3*(m-1)*t.n=(m-1)*(3*t.n) by rw[Nat.mul_comm 3,Nat.mul_assoc]];exact this
    have h9:(m-1)*q.n+q.n=q.n*m:=by rw[<-Nat.succ_mul,Nat.mul_comm];congr 1;omega
    have h10:(3*(m-1))*s.n<=(3*(m-1))*(u.n+t.n):=Nat.mul_le_mul_left _ h6;have h11:(3*(m-1))*u.n<=(3*(m-1))*(s.n+t.n):=Nat.mul_le_mul_left _ h7;rw[Nat.mul_add]at h10 h11;exact⟨a,by omega,by omega⟩
   split
   ·have e:s.add t.minus=⟨false,s.n-t.n⟩:=by
     unfold Fx.add Fx.minus;simp only[h,htn];rw[if_neg (by decide),if_neg (by omega)]
    rw[e];exact key _ rfl (by simp only[];omega) (by simp only[];omega) (by simp only[];omega)
   ·have e:s.add t=⟨false,s.n+t.n⟩:=by
     unfold Fx.add;simp only[h,htn];rfl
    rw[e];exact key _ rfl (by simp only[];omega) (by simp only[];omega) (by simp only[];omega)
theorem qr6 {n b:Nat}(hn:2<=n):(invI n b).neg=false/\3*(n*n-1)*(2^b/n)<=3*(n*n-1)*(invI n b).n+2^b/n/\3*(n*n-1)*(invI n b).n<=3*(n*n-1)*(2^b/n)+2^b/n:=by
 unfold invI altI;have h4:4<=n*n:=Nat.mul_le_mul hn hn;exact q0m (fun a=>a.by' (n*n)) (n*n) h4 (fun a=>Nat.div_mul_le_self _ _) (fun a h=>h) _ 1 ⟨false,2^b/n⟩ ⟨false,2^b/n⟩ (by omega) rfl rfl (Nat.le_refl _)
theorem q8l {b:Nat}(hb:10<=b):(piI b).neg=false/\31*2^b<=10*(piI b).n+1024/\10*(piI b).n<=33*2^b:=by
 obtain⟨a1,b1,c1⟩:=qr6 (n:=5) (b:=b) (by omega);obtain⟨a2,b2,c2⟩:=qr6 (n:=239) (b:=b) (by omega);have p:2^10<=2^b:=Nat.pow_le_pow_right (by omega) hb;have e10:(2:Nat)^10=1024:=rfl;have e4:(2:Nat)^4=16:=rfl;have e2:(2:Nat)^2=4:=rfl;unfold piI;generalize invI 5 b=X at *
 generalize invI 239 b=Y at *
 generalize 2^b=B at *
 have e:Fx.add ⟨false,X.n*2^4⟩ ⟨true,Y.n*2^2⟩=⟨false,X.n*2^4-Y.n*2^2⟩:=by
  unfold Fx.add;simp only[];rw[if_neg (by decide),if_neg (by omega)]
 rw[e];exact⟨rfl,by simp only[];omega,by simp only[];omega⟩
theorem qzr {a b:Fx}{k:Nat}(ha:bitL a.n<=k)(hb:bitL b.n<=k):bitL (a.n+b.n)<=k+1/\bitL (a.add b).n<=k+1:=⟨qo9 ha hb,Nat.le_trans (qd1 (qna a b)) (qo9 ha hb)⟩
def unitI : Iv:=⟨nD (-1),nD 1,false⟩
theorem nD1 : (nD 1).Ok:=nD_ok (by omega)
theorem nDm1 : (nD (-1)).Ok:=nD_ok (by omega)
theorem qai7 : unitI.W:=⟨nDm1.w,nD1.w⟩
theorem qyl (p:Int):CQ prog qq7 [.int .i64 p] (.bool (precB p)):=by
 refine qaf rfl fun H=>?_
 by_cases h1:8<=p
 ·by_cases h2:p<=512
  ·simp[precB,h1,h2]
  ·simp[precB,h1,h2]
 ·simp[precB,h1]
theorem q8i {p:Int}(h:precB p=true):8<=p/\p<=512:=by simpa[precB]using h
theorem qajt {a:Fx}{b:Nat}{p:Int}:(Iv.near a b p).W:=by
 unfold Iv.near;split
 ·exact q80 rRound_ok.w rRound_ok.w
 ·exact Iv.whole_W
def piO (p:Int):Iv:=if precB p=true then Iv.near (piI (p.toNat+64)) (p.toNat+64) p else Iv.whole
theorem qags {b:Nat}(h:10<=b)(h2:b<=4000):bitL (piI b).n<=8000:=by
 obtain⟨_,_,pu⟩:=q8l h;have h1:=qmh (a:=4) (b:=2^b);have h2:bitL 4=3:=by decide
 have h3:=qd1 (show(piI b).n<=4*2^b by omega);have h4:=qtq b;omega
theorem Pi_cq (p:Int):CQ prog q1t [.int .i64 p] (piO p).v:=by
 refine qaf rfl fun H=>?_
 have c1:=qyl p;by_cases h:precB p=true
 ·obtain⟨p1,p2⟩:=q8i h;have ep:piO p=Iv.near (piI (p.toNat+64)) (p.toNat+64) p:=by unfold piO;rw[if_pos h]
  rw[ep];generalize hb:p.toNat+64=b;have f1:IntKind.i64.wrap (p+64)=(b:Int):=by rw[wrap_i64]<;>omega
  have c2:=pi_cq b (by omega);have c3:=qagy (piI b) b p (qags (by omega) (by omega)) (by omega);generalize Iv.near (piI b) b p=Y at *
  generalize piI b=P at *
  simp;refine zq c1 ?_;simp[h,f1];refine zq c2 ?_;simp[f1];refine zq c3 ?_;simp[lim]
 ·have ep:piO p=Iv.whole:=by unfold piO;rw[if_neg h]
  rw[ep];simp;refine zq c1 ?_;simp[h];refine zq qcs ?_;simp[lim]
end Go.Abs.W
