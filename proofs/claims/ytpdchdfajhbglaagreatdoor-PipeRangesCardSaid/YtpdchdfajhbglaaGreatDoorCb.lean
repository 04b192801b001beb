/- Parts of the proof: FpCe, FpCg, FpCh, FpCi. -/
import Derived.Test.YtpdchdfajhbglaaGreatDoorCa
import Derived.Test.YtpdchdfajhbglaaGreatDoorFi
import Derived.Test.YtpdchdfajhbglaaGreatDoorFi
import Derived.Test.YtpdchdfajhbglaaGreatDoorHm
namespace Go.Abs.W
theorem q4l (next:Fx->Fx)(m:Nat)(hm:4<=m)(hh:∀a:Fx,(next a).n*m<=a.n)(hs:∀a:Fx,a.neg=false->(next a).neg=false):∀(f k:Nat) (p s:Fx),1<=k->p.neg=false->s.neg=false->p.n<=s.n ->
 (altG next f k p s).neg=false/\(3*(m-1))*s.n<=(3*(m-1))*(altG next f k p s).n+p.n/\(3*(m-1))*(altG next f k p s).n<=(3*(m-1))*s.n+p.n
 |0,k,p,s,_,_,h,_=>⟨h,Nat.le_add_right _ _,Nat.le_add_right _ _⟩
 |f+1,k,p,s,hk,hp,h,hps=>by
  have h1:=hh p;have hqn:=hs p hp;unfold altG;split
  ·exact⟨h,Nat.le_add_right _ _,Nat.le_add_right _ _⟩
  ·generalize next p=q at *
   have ht:3*(q.by' (2*k+1)).n<=q.n:=by
    show 3*(q.n/(2*k+1))<=q.n;have h3:q.n/(2*k+1)*3<=q.n/(2*k+1)*(2*k+1):=Nat.mul_le_mul_left _ (by omega);have h4:=Nat.div_mul_le_self q.n (2*k+1);omega
   have htn:(q.by' (2*k+1)).neg=false:=hqn;have hq4:q.n*4<=q.n*m:=Nat.mul_le_mul_left _ hm;generalize q.by' (2*k+1)=t at *
   have key:∀u:Fx,u.neg=false->q.n<=u.n->s.n<=u.n+t.n->u.n<=s.n+t.n ->
    (altG next f (k+1) q u).neg=false/\(3*(m-1))*s.n<=(3*(m-1))*(altG next f (k+1) q u).n+p.n/\(3*(m-1))*(altG next f (k+1) q u).n<=(3*(m-1))*s.n+p.n:=by
    intro u hu h5 h6 h7;obtain⟨a,b,c⟩:=q4l next m hm hh hs f (k+1) q u (by omega) hqn hu h5;have h8:(3*(m-1))*t.n<=(m-1)*q.n:=by
     have:(m-1)*(3*t.n)<=(m-1)*q.n:=Nat.mul_le_mul_left _ ht;rw[show 3*(m-1)*t.n=(m-1)*(3*t.n) by rw[Nat.mul_comm 3,Nat.mul_assoc]];exact this
    have h9:(m-1)*q.n+q.n=q.n*m:=by rw[<-Nat.succ_mul,Nat.mul_comm];congr 1;omega
    have h10:(3*(m-1))*s.n<=(3*(m-1))*(u.n+t.n):=Nat.mul_le_mul_left _ h6;have h11:(3*(m-1))*u.n<=(3*(m-1))*(s.n+t.n):=Nat.mul_le_mul_left _ h7;rw[Nat.mul_add]at h10 h11;exact⟨a,by omega,by omega⟩
   split
   ·have e:s.add t.minus=⟨false,s.n-t.n⟩:=by
     unfold Fx.add Fx.minus;simp only[h,htn];rw[if_neg (by decide),if_neg (by omega)]
    rw[e];exact key _ rfl (by simp only[];omega) (by simp only[];omega) (by simp only[];omega)
   ·have e:s.add t=⟨false,s.n+t.n⟩:=by
     unfold Fx.add;simp only[h,htn];rfl
    rw[e];exact key _ rfl (by simp only[];omega) (by simp only[];omega) (by simp only[];omega)
theorem q24 {n b:Nat}(hn:2<=n):(invI n b).neg=false/\3*(n*n-1)*(2^b/n)<=3*(n*n-1)*(invI n b).n+2^b/n/\3*(n*n-1)*(invI n b).n<=3*(n*n-1)*(2^b/n)+2^b/n:=by
 unfold invI altI;have h4:4<=n*n:=Nat.mul_le_mul hn hn;exact q4l (fun a=>a.by' (n*n)) (n*n) h4 (fun a=>Nat.div_mul_le_self _ _) (fun a h=>h) _ 1 ⟨false,2^b/n⟩ ⟨false,2^b/n⟩ (by omega) rfl rfl (Nat.le_refl _)
theorem q5c {b:Nat}(hb:10<=b):(piI b).neg=false/\31*2^b<=10*(piI b).n+1024/\10*(piI b).n<=33*2^b:=by
 obtain⟨a1,b1,c1⟩:=q24 (n:=5) (b:=b) (by omega);obtain⟨a2,b2,c2⟩:=q24 (n:=239) (b:=b) (by omega);have p:2^10<=2^b:=Nat.pow_le_pow_right (by omega) hb;have e10:(2:Nat)^10=1024:=rfl;have e4:(2:Nat)^4=16:=rfl;have e2:(2:Nat)^2=4:=rfl;unfold piI;generalize invI 5 b=X at *
 generalize invI 239 b=Y at *
 generalize 2^b=B at *
 have e:Fx.add ⟨false,X.n*2^4⟩ ⟨true,Y.n*2^2⟩=⟨false,X.n*2^4-Y.n*2^2⟩:=by
  unfold Fx.add;simp only[];rw[if_neg (by decide),if_neg (by omega)]
 rw[e];exact⟨rfl,by simp only[];omega,by simp only[];omega⟩
theorem qaaa (x:Nat)(hx:x<4294967296):bitsI .and .u32 (x:Int) 3=some ((x%4:Nat):Int):=by
 have h:=qnb x 3 hx (by omega);rw[show(3:Nat)=2^2-1 from rfl,Nat.and_two_pow_sub_one_eq_mod]at h;exact h
theorem q6c (k:Nat)(hk:k<4):bitsI .and .i64 (4-(k:Int)) 3=some (((4-k)%4:Nat):Int):=by
 rcases(by omega:k=0\/k=1\/k=2\/k=3)with rfl|rfl|rfl|rfl<;>decide
def redT (d:Dy):Nat:=(max d.top 0).toNat
def redC (d:Dy)(b:Nat):Nat:=b+redT d+40
def redH (d:Dy)(b:Nat):Nat:=(piI (redC d b)).n/2
def redX (d:Dy)(b:Nat):Fx:=Fx.of d (redC d b)
def redN (d:Dy)(b:Nat):Nat:=(redX d b).n/redH d b
def redR (d:Dy)(b:Nat):Fx:=(redX d b).add ⟨!(redX d b).neg,redN d b*redH d b⟩
def redK (d:Dy)(b:Nat):Nat:=if(redX d b).neg=true then(4-redN d b%4)%4 else redN d b%4
def redI (d:Dy)(b:Nat):Fx:=⟨(redR d b).neg,(redR d b).n/2^(redT d+40)⟩
theorem q5d {d:Dy}{b:Nat}(ok:d.Ok)(k:Nat)(hk:d.top+b<=k):bitL (Fx.of d b).n<=max k 4096:=by
 unfold Fx.of;have h1:=ok.bits;split
 ·have:=qat (Nat.div_le_self (natV d.m) (2^(-(d.e+b)).toNat));simp only[];omega
 ·by_cases h0:natV d.m=0
  ·simp only[h0,Nat.zero_mul,qbl];omega
  ·simp only[];rw[qls h0];have:d.m≠[]:=fun h=>h0 (by rw[h];rfl)
   unfold Dy.top at hk;rw[if_neg this]at hk;omega
set_option maxHeartbeats 1000000 in
theorem q9k (d:Dy)(b:Nat)(ok:d.Ok)(hb:b<=3000)(ht:d.top<=128):CQ prog qtr [d.v,.int .i64 b] (.tup [(redI d b).v,.int .i64 (redK d b)]):=by
 refine qaf rfl fun H=>?_
 have c1:=qj5 d ok.w;rw[if_pos ok.valid]at c1;have eT:(redT d:Int)=max d.top 0:=by unfold redT;omega
 have hT:redT d<=128:=by omega
 have eC:redC d b=b+redT d+40:=rfl;have c2:=pi_cq (redC d b) (by omega);have eK:redK d b=if(redX d b).neg=true then(4-redN d b%4)%4 else redN d b%4:=rfl;have eI:redI d b=⟨(redR d b).neg,(redR d b).n/2^(redT d+40)⟩:=rfl;have eR:redR d b=(redX d b).add ⟨!(redX d b).neg,redN d b*redH d b⟩:=rfl;have eN:redN d b=(redX d b).n/redH d b:=rfl;have xb:=q5d (d:=d) (b:=redC d b) ok 4200 (by omega);have c4:=qail d (redC d b) ok (by omega) (by omega) (fun h0=>by
  have h2:=xb;unfold Fx.of at h2;rw[if_neg (by omega)]at h2;simp only[]at h2;unfold Sm;omega)
 have eX:Fx.of d (redC d b)=redX d b:=rfl;rw[eX]at xb c4;obtain⟨_,pl,pu⟩:=q5c (b:=redC d b) (by omega);have pp:2^12<=2^redC d b:=Nat.pow_le_pow_right (by omega) (by omega);have e12:(2:Nat)^12=4096:=rfl;have eH:redH d b=(piI (redC d b)).n/2:=rfl;have sP:Sm (piI (redC d b)).n:=by
  have h1:=qat (show(piI (redC d b)).n<=4*2^redC d b by omega);have h2:=qh1 (a:=4) (b:=2^redC d b);have h3:=qlr (redC d b);have h4:bitL 4=3:=by decide
  unfold Sm;omega
 have c3:=qn5 (piI (redC d b)).n 1 sP (by omega);rw[Nat.pow_one,<-eH]at c3;have h0:0<redH d b:=by omega
 have sH:Sm (redH d b):=sP.mono (by omega);have sX:Sm (redX d b).n:=Nat.le_trans xb (by omega);have c5:=qpd (qae (redX d b).n) (qae (redH d b)) sX.len sH.len (qag _) (qag _) (by rw[qac];exact h0);rw[qac,qac,<-eN]at c5;have hnh:redN d b*redH d b<=(redX d b).n:=by rw[eN];exact Nat.div_mul_le_self _ _
 have hnx:redN d b<=(redX d b).n:=by rw[eN];exact Nat.div_le_self _ _
 have sN:=sX.mono hnx;have sM:=sX.mono hnh;have c6:=qw6 (qae (redN d b)) (qae (redH d b)) sN.len sH.len (qag _) (qag _);rw[qac,qac,sM.cl]at c6;have bs:=qnc (k:=4200) (Nat.le_trans xb (by omega)) (Nat.le_trans (qat hnh) (Nat.le_trans xb (by omega)));have c7:=qea (redX d b) ⟨!(redX d b).neg,redN d b*redH d b⟩ sX sM (Nat.le_trans bs (by omega));rw[<-eR]at c7;have sR:Sm (redR d b).n:=by
  have h1:=qev (redX d b) ⟨!(redX d b).neg,redN d b*redH d b⟩;rw[<-eR]at h1;exact Nat.le_trans (qat h1) (Nat.le_trans bs (by omega))
 have c8:=qn5 (redR d b).n (redT d+40) sR (by omega);have f1:IntKind.i64.wrap ((b:Int)+redT d)=(b:Int)+redT d:=by rw[wrap_i64]<;>omega
 have f2:IntKind.i64.wrap ((b:Int)+redT d+40)=(redC d b:Int):=by rw[wrap_i64]<;>omega
 rw[eK,eI];have⟨w,hw⟩:∃w,w=redT d+40:=⟨_,rfl⟩
 have f3:IntKind.i64.wrap ((redT d:Int)+40)=(w:Int):=by rw[wrap_i64]<;>omega
 rw[<-hw]at c8 ⊢;have f4:(redN d b=0/\qae (redN d b)=[])\/(redN d b≠0/\qae (redN d b)=(redN d b%4294967296) :: qae (redN d b/4294967296)):=by
  by_cases h:redN d b=0
  ·exact .inl ⟨h,by rw[h];rfl⟩
  ·exact .inr ⟨h,qeu h⟩
 have eT':(if d.top<0 then 0 else d.top)=(redT d:Int):=by split<;>omega
 clear eC eT eH eN pl pu pp xb bs hnx hnh;generalize redT d=T at *
 generalize redC d b=C at *
 generalize redH d b=Hf at *
 generalize redN d b=N at *
 generalize redR d b=R at *
 generalize redX d b=X at *
 have hl:(qae N).length<=256:=sN.len;simp[Dy.v];refine zq c1 ?_;simp[eT',f1,f2];refine zq c2 ?_;simp;refine zq c3 ?_;simp;refine zq c4 ?_;simp;refine zq c5 ?_;simp;refine zq c6 ?_;simp;refine zq c7 ?_;have⟨L,hL⟩:∃L,L=N%4294967296:=⟨_,rfl⟩
 have⟨K,hK⟩:∃K,K=N%4:=⟨_,rfl⟩
 have⟨M,hM⟩:∃M,M=(4-K)%4:=⟨_,rfl⟩
 have g1:=qaaa L (by omega);have g2:=q6c K (by omega);rw[show L%4=K by omega]at g1;rw[<-hM]at g2;have g3:IntKind.i64.wrap (4-(K:Int))=4-(K:Int):=by rw[wrap_i64]<;>omega
 have g4:IntKind.i64.wrap (K:Int)=(K:Int):=by rw[wrap_i64]<;>omega
 rw[<-hL]at f4;rw[<-hK,<-hM];rcases f4 with ⟨n0,nl⟩|⟨n0,nl⟩
 ·have g5:bitsI .and .i64 4 3=some 0:=by decide
  have g6:IntKind.i64.wrap 4=4:=by rw[wrap_i64]<;>omega
  by_cases hx:X.neg=true
  ·simp[nl,hx,g5,g6,f3,lim];refine zq c8 ?_;simp[hK,hM,n0,lim]
  ·simp[nl,hx,f3,lim];refine zq c8 ?_;simp[hK,n0,lim]
 ·by_cases hx:X.neg=true
  ·simp[nl,hx,f3,g1,g2,g3,g4,u32,lim];refine zq c8 ?_;simp[lim]
  ·simp[nl,hx,f3,g1,g4,u32,lim];refine zq c8 ?_;simp[lim]
theorem q45 {x:Fx}{b:Nat}(hx:x.n<=2^(b+1)):∀(f k:Nat) (t s c:Fx),0<k->t.n<=2*2^b->(k=1->t.n<=2^b) ->
 (serG x b f k t s c).1.n<=s.n+f*(2*2^b)/\(serG x b f k t s c).2.n<=c.n+f*(2*2^b)
 |0,k,t,s,c,_,_,_=>by unfold serG;simp only[];omega
 |f+1,k,t,s,c,hk,ht,h1=>by
  have hq:=q66 (t:=t.n) hk hx;rw[<-qaay t x b k]at hq;unfold serG;generalize (t.times x b).by' k=q at *
  have hq1:q.n<=2*t.n:=by
   have:=Nat.le_mul_of_pos_right q.n hk;omega
  have hq2:q.n<=2*2^b:=by
   rcases Nat.lt_or_ge k 2 with h|h
   ·have h3:=h1 (by omega);omega
   ·have h3:q.n*2<=q.n*k:=Nat.mul_le_mul_left _ h;omega
  have e:(f+1)*(2*2^b)=f*(2*2^b)+2*2^b:=by rw[Nat.add_mul,Nat.one_mul]
  have hu:(if 2<=k%4 then q.minus else q).n=q.n:=by split<;>rfl
  generalize (if 2<=k%4 then q.minus else q)=u at *
  split
  ·simp only[];omega
  ·split
   ·have h5:=q45 hx f (k+1) q (s.add u) c (by omega) hq2 (by omega);have h6:=qev s u;omega
   ·have h5:=q45 hx f (k+1) q s (c.add u) (by omega) hq2 (by omega);have h6:=qev c u;omega
theorem qajn {x:Fx}{b:Nat}(hx:x.n<=2^(b+1))(hb:b<=3000):bitL (serI x b).1.n<=8000/\bitL (serI x b).2.n<=8000:=by
 have h:=q45 hx (b+8) 1 ⟨false,2^b⟩ ⟨false,0⟩ ⟨false,2^b⟩ (by omega) (by simp only[];omega) (by simp only[];omega);have e:serI x b=serG x b (b+8) 1 ⟨false,2^b⟩ ⟨false,0⟩ ⟨false,2^b⟩:=rfl;rw[<-e]at h;have h1:(b+8)*(2*2^b)<=4000*(2*2^b):=Nat.mul_le_mul_right _ (by omega);have h2:=qh1 (a:=8001) (b:=2^b);have h3:=qlr b;have h4:bitL 8001=13:=by decide
 simp only[]at h;have h5:=qat (show(serI x b).1.n<=8001*2^b by omega);have h6:=qat (show(serI x b).2.n<=8001*2^b by omega);omega
theorem qabr (d:Dy)(b:Nat):(redI d b).n<=2^(b+1):=by
 obtain⟨_,pl,pu⟩:=q5c (b:=redC d b) (by unfold redC;omega);have pp:2^12<=2^redC d b:=Nat.pow_le_pow_right (by omega) (by unfold redC;omega);have e12:(2:Nat)^12=4096:=rfl;have eR:redR d b=(redX d b).add ⟨!(redX d b).neg,redN d b*redH d b⟩:=rfl;have eN:redN d b=(redX d b).n/redH d b:=rfl;have eH:redH d b=(piI (redC d b)).n/2:=rfl;have h0:0<redH d b:=by omega
 have hm:=Nat.mod_lt (redX d b).n h0;have hd:=Nat.div_add_mod' (redX d b).n (redH d b);rw[<-eN]at hd;have hr:(redR d b).n<redH d b:=by
  rw[eR];unfold Fx.add;simp only[];rw[if_neg (by cases(redX d b).neg<;>decide),if_neg (by omega)];simp only[];omega
 show(redR d b).n/2^(redT d+40)<=_;have eC:2^redC d b=2^b*2^(redT d+40):=by unfold redC;rw[Nat.add_assoc,Nat.pow_add]
 have p:0<2^(redT d+40):=Nat.pow_pos (by omega);refine(Nat.div_le_iff_le_mul_add_pred p).2 ?_;have e3:2^(b+1)=2*2^b:=by rw[Nat.pow_succ,Nat.mul_comm]
 have e2:2^(redT d+40)*2^(b+1)=2*2^redC d b:=by rw[eC,e3,Nat.mul_left_comm,Nat.mul_comm (2^b)]
 omega
def pSel (d:Dy)(cosine:Bool)(b:Nat):Fx:=
 let n:=(redK d b+if cosine then 1 else 0)%4
 if n=1 then(serI (redI d b) b).2 else if n=2 then(serI (redI d b) b).1.minus else if n=3 then(serI (redI d b) b).2.minus else(serI (redI d b) b).1
def qh8 (d:Dy)(cosine:Bool)(p:Nat):Iv:=
 if d.m=[]then(if cosine then Iv.pt (nD 1)else Iv.pt d)else Iv.near (pSel d cosine (p+64)) (p+64) p
theorem qajz {d:Dy}{c:Bool}{b:Nat}(hb:b<=3000):bitL (pSel d c b).n<=8000:=by
 have h:=qajn (qabr d b) hb;unfold pSel;simp only[];generalize (redK d b+if c=true then 1 else 0)%4=n;split
 ·exact h.2
 ·split
  ·exact h.1
  ·split
   ·exact h.2
   ·exact h.1
set_option maxHeartbeats 1000000 in
theorem q7h (d:Dy)(cosine:Bool)(p:Nat)(ok:d.Ok)(hp:p<=2900)(ht:d.top<=128):CQ prog qx4 [d.v,.bool cosine,.int .i64 p] (qh8 d cosine p).v:=by
 refine qaf rfl fun H=>?_
 have c1:=qjm d ok.w;rw[if_pos ok.valid]at c1;have c2:=qlu d ok.w;rw[if_pos ok.valid]at c2;have o1:(nD 1).Ok:=nD_ok (by omega);have c3:=qlu (nD 1) o1.w;rw[if_pos o1.valid]at c3;have c4:=qng 1 (by omega) (by omega);have e1:Dy.of (decide ((1:Int)<0)) (1:Int).natAbs 0=nD 1:=rfl;rw[e1]at c4;by_cases h0:d.m=[]
 ·have es:d.sgn=0:=by unfold Dy.sgn;rw[if_pos h0]
  have ep:qh8 d cosine p=if cosine then Iv.pt (nD 1)else Iv.pt d:=by unfold qh8;rw[if_pos h0]
  rw[es]at c1;rw[ep];generalize Iv.pt (nD 1)=y at *
  generalize nD 1=z at *
  simp[Dy.v];refine zq c1 ?_;cases cosine
  ·simp;refine zq c2 ?_;simp[lim]
  ·simp;refine zq c4 ?_;simp;refine zq c3 ?_;simp[lim]
 ·have es:d.sgn≠0:=by unfold Dy.sgn;rw[if_neg h0];split<;>omega
  have ep:qh8 d cosine p=Iv.near (pSel d cosine (p+64)) (p+64) p:=by unfold qh8;rw[if_neg h0]
  have hsel:pSel d cosine (p+64)=if(redK d (p+64)+if cosine then 1 else 0)%4=1 then(serI (redI d (p+64)) (p+64)).2 else if(redK d (p+64)+if cosine then 1 else 0)%4=2 then(serI (redI d (p+64)) (p+64)).1.minus else if(redK d (p+64)+if cosine then 1 else 0)%4=3 then(serI (redI d (p+64)) (p+64)).2.minus else(serI (redI d (p+64)) (p+64)).1:=rfl;rw[ep];have c5:=q9k d (p+64) ok (by omega) ht;have c6:=qabl (redI d (p+64)) (p+64) (qabr _ _) (by omega);have hb:=qajz (d:=d) (c:=cosine) (b:=p+64) (by omega);have c7:=qaj6 (pSel d cosine (p+64)) (p+64) p hb (by omega);have hK:redK d (p+64)<4:=by unfold redK;split<;>omega
  generalize hbb:p+64=b at c5 c6 hb c7 hK hsel ⊢;have f1:IntKind.i64.wrap ((p:Int)+64)=(b:Int):=by rw[wrap_i64]<;>omega
  generalize serI (redI d b) b=S at *
  generalize redI d b=R at *
  generalize redK d b=K at *
  have f2:IntKind.i64.wrap ((K:Int)+1)=((K+1:Nat):Int):=by rw[wrap_i64]<;>omega
  have cm1:=qig S.1;have cm2:=qig S.2;generalize Iv.near (pSel d cosine b) b p=Y at *
  generalize pSel d cosine b=Z at *
  simp[Dy.v];refine zq c1 ?_;simp[es,f1];refine zq c5 ?_;simp;refine zq c6 ?_;have w0:IntKind.i64.wrap 0=0:=by decide
  have w1:IntKind.i64.wrap 1=1:=by decide
  have w2:IntKind.i64.wrap 2=2:=by decide
  have w3:IntKind.i64.wrap 3=3:=by decide
  have w4:IntKind.i64.wrap 4=4:=by decide
  have t0:Int.tmod 0 4=0:=by decide
  have t1:Int.tmod 1 4=1:=by decide
  have t2:Int.tmod 2 4=2:=by decide
  have t3:Int.tmod 3 4=3:=by decide
  have t4:Int.tmod 4 4=0:=by decide
  have hKc:K=0\/K=1\/K=2\/K=3:=by omega
  cases cosine<;>(rcases hKc with rfl|rfl|rfl|rfl)<;>simp at hsel
  ·subst hsel;simp[t0];refine zq c7 ?_;simp[lim]
  ·subst hsel;simp[t1];refine zq c7 ?_;simp[lim]
  ·subst hsel;simp[t2];refine zq cm1 ?_;simp;refine zq c7 ?_;simp[lim]
  ·subst hsel;simp[t3];refine zq cm2 ?_;simp;refine zq c7 ?_;simp[lim]
  ·subst hsel;simp[w1,t1];refine zq c7 ?_;simp[lim]
  ·subst hsel;simp[w2,t2];refine zq cm1 ?_;simp;refine zq c7 ?_;simp[lim]
  ·subst hsel;simp[w3,t3];refine zq cm2 ?_;simp;refine zq c7 ?_;simp[lim]
  ·subst hsel;simp[w4];refine zq c7 ?_;simp[lim]
theorem q9z (k:Nat)(hk:k<2^62):CQ prog qkb [.int .i64 k] (Fx.v ⟨false,k⟩):=by
 by_cases h0:k=0
 ·subst h0;refine qaf rfl fun H=>?_
  have c:=qng 0 (by omega) (by omega);have e:(Dy.of (decide ((0:Int)<0)) (0:Int).natAbs 0)=⟨false,qae 0,0⟩:=by decide
  rw[e]at c;have cl:=qfe 0 0 (Sm.small (by omega)) (Sm.small (by omega)) (by omega);have e1:0*2^0=0:=rfl;rw[e1]at cl;simp;refine zq c ?_;simp[lim];refine zq cl ?_;simp[lim]
 ·exact q3o k hk (by omega)
def mtT (x:Iv):Nat:=(max (max x.lo.top x.hi.top) 0).toNat
def mtB (x:Iv)(p:Nat):Nat:=p+mtT x+40
def mtTwo (x:Iv)(p:Nat):Fx:=⟨false,(piI (mtB x p)).n*2^1⟩
def mtP (x:Iv)(k p:Nat):Fx:=Fx.times ⟨false,k⟩ (piI (mtB x p)) 0
def mtS (x:Iv)(k p:Nat):Fx:=⟨false,(mtP x k p).n/2^1⟩
def mtE (x:Iv):Fx:=⟨false,2^(mtT x+28)⟩
def mtA (x:Iv)(k p:Nat):Fx:=((Fx.of x.hi (mtB x p)).add (mtS x k p).minus).add (mtE x)
def mtK (x:Iv)(k p:Nat):Fx:=qwb (mtA x k p) (mtTwo x p)
def mtL (x:Iv)(k p:Nat):Fx:=Fx.add ⟨(mtK x k p).neg,(mtK x k p).n*(mtTwo x p).n⟩ (mtS x k p)
def mtD (x:Iv)(k p:Nat):Fx:=((mtL x k p).add (Fx.of x.lo (mtB x p)).minus).add (mtE x)
def qnj (x:Iv)(k p:Nat):Bool:=decide ((mtD x k p).n=0) || !(mtD x k p).neg
theorem qadg {a c:Fx}:(qwb a c).n*c.n<=a.n+c.n/\(qwb a c).n<=a.n+1:=by
 have h1:=Nat.div_mul_le_self a.n c.n;have h2:=Nat.div_le_self a.n c.n;unfold qwb;split
 ·have h3:((Fx.mk a.neg (a.n/c.n)).add ⟨true,1⟩).n<=a.n/c.n+1:=qev _ _;have h4:=Nat.mul_le_mul_right c.n h3;rw[Nat.add_mul,Nat.one_mul]at h4;omega
 ·simp only[];omega
theorem qn6 {a b:Fx}{k:Nat}(ha:bitL a.n<=k)(hb:bitL b.n<=k):bitL (a.n+b.n)<=k+1/\bitL (a.add b).n<=k+1:=⟨qnc ha hb,Nat.le_trans (qat (qev a b)) (qnc ha hb)⟩
set_option maxHeartbeats 1000000 in
theorem qagu (x:Iv)(k p:Nat)(ol:x.lo.Ok)(oh:x.hi.Ok)(tl:x.lo.top<=128)(th:x.hi.top<=128)(hk:k<=3)(hp:p<=2900):CQ prog qx5 [x.v,.int .i64 k,.int .i64 p] (.bool (qnj x k p)):=by
 refine qaf rfl fun H=>?_
 have p62:(2:Nat)^62=4611686018427387904:=rfl;have c1:=qj5 x.lo ol.w;have c2:=qj5 x.hi oh.w;rw[if_pos ol.valid]at c1;rw[if_pos oh.valid]at c2;have eT:(mtT x:Int)=max (max x.lo.top x.hi.top) 0:=by unfold mtT;omega
 have hT:mtT x<=128:=by omega
 have eB:mtB x p=p+mtT x+40:=rfl;have c3:=pi_cq (mtB x p) (by omega);obtain⟨pn,pl,pu⟩:=q5c (b:=mtB x p) (by omega);have pp:2^12<=2^mtB x p:=Nat.pow_le_pow_right (by omega) (by omega);have e12:(2:Nat)^12=4096:=rfl;have p1:(2:Nat)^1=2:=rfl;have p0:(2:Nat)^0=1:=rfl;have b2:=qlr (mtB x p);have big:∀n,n<=12*2^mtB x p->bitL n<=4000:=by
  intro n hn;have h1:=qh1 (a:=12) (b:=2^mtB x p);have h2:bitL 12=4:=by decide
  have h3:=qat hn;omega
 have bP:=big (piI (mtB x p)).n (by omega);have c4:=qfe (piI (mtB x p)).n 1 (Nat.le_trans bP (by omega)) (Nat.le_trans (big _ (by omega)) (by omega)) (by omega);have c5:=q9z k (by omega);have hkP:k*(piI (mtB x p)).n<=3*(piI (mtB x p)).n:=Nat.mul_le_mul_right _ hk;have c6:=q3n ⟨false,k⟩ (piI (mtB x p)) 0 (Sm.small (by simp only[];omega)) (Nat.le_trans bP (by omega)) (Nat.le_trans (big _ (show k*(piI (mtB x p)).n<=_ by omega)) (by omega)) (by omega);have nP:(mtP x k p).n=k*(piI (mtB x p)).n/1:=rfl;rw[Nat.div_one]at nP;have c7:=qn5 (mtP x k p).n 1 (Nat.le_trans (big _ (by omega)) (by omega)) (by omega);have eP:Fx.times ⟨false,k⟩ (piI (mtB x p)) 0=mtP x k p:=rfl;rw[eP]at c6;have b28:=qlr (mtT x+28);have c8:=qfe 1 (mtT x+28) (Sm.small (by omega)) (by rw[Nat.one_mul];unfold Sm;omega) (by omega);rw[Nat.one_mul,show qae 1=[1] by decide]at c8;have xh:=q5d (d:=x.hi) (b:=mtB x p) oh 4096 (by omega)
 have xl:=q5d (d:=x.lo) (b:=mtB x p) ol 4096 (by omega);have ofc:∀d:Dy,d.Ok->bitL (Fx.of d (mtB x p)).n<=max 4096 4096->CQ prog qv5 [d.v,.int .i64 (mtB x p)] (Fx.of d (mtB x p)).v:=fun d ok hd=>qail d (mtB x p) ok (by omega) (by omega) (fun h0=>by
  unfold Fx.of at hd;rw[if_neg (by omega)]at hd;simp only[]at hd;unfold Sm;omega)
 have c9:=ofc x.hi oh xh;have c10:=ofc x.lo ol xl;have bS:bitL (mtS x k p).n<=4000:=big _ (show(mtP x k p).n/2^1<=_ by omega);have bE:bitL (mtE x).n<=4000:=by show bitL (2^(mtT x+28))<=_;omega
 have c11:=qig (mtS x k p);have c12:=qig (Fx.of x.lo (mtB x p));have g1:=qn6 (a:=Fx.of x.hi (mtB x p)) (b:=(mtS x k p).minus) (k:=4096) (by omega) (show bitL (mtS x k p).n<=_ by omega);have c13:=qea (Fx.of x.hi (mtB x p)) (mtS x k p).minus (Nat.le_trans xh (by omega)) (Nat.le_trans bS (by omega)) (Nat.le_trans g1.1 (by omega));have g2:=qn6 (a:=(Fx.of x.hi (mtB x p)).add (mtS x k p).minus) (b:=mtE x) (k:=4097) g1.2 (by omega);have c14:=qea ((Fx.of x.hi (mtB x p)).add (mtS x k p).minus) (mtE x) (Nat.le_trans g1.2 (by omega)) (Nat.le_trans bE (by omega)) (Nat.le_trans g2.1 (by omega));have eA:((Fx.of x.hi (mtB x p)).add (mtS x k p).minus).add (mtE x)=mtA x k p:=rfl;rw[eA]at c14 g2;have nTwo:(mtTwo x p).n=(piI (mtB x p)).n*2:=rfl;have bTwo:=big (mtTwo x p).n (by omega);have c15:=qahc (mtA x k p) (mtTwo x p) (Nat.le_trans g2.2 (by omega)) (Nat.le_trans bTwo (by omega)) (by omega);have eK:qwb (mtA x k p) (mtTwo x p)=mtK x k p:=rfl
 have fl:=qadg (a:=mtA x k p) (c:=mtTwo x p);rw[eK]at c15 fl;have bM:=Nat.le_trans (qat fl.1) (qnc (k:=4098) g2.2 (by omega));have b11:bitL 1=1:=rfl;have bK:=Nat.le_trans (qat fl.2) (qnc (k:=4098) g2.2 (by rw[b11];omega));have sK:Sm (mtK x k p).n:=Nat.le_trans bK (by omega);have sT:Sm (mtTwo x p).n:=Nat.le_trans bTwo (by omega);have sM:Sm ((mtK x k p).n*(mtTwo x p).n):=Nat.le_trans bM (by omega);have c16:=qw6 (qae (mtK x k p).n) (qae (mtTwo x p).n) sK.len sT.len (qag _) (qag _);rw[qac,qac,sM.cl]at c16;have g3:=qn6 (a:=⟨(mtK x k p).neg,(mtK x k p).n*(mtTwo x p).n⟩) (b:=mtS x k p) (k:=4099) bM (by omega);have c17:=qea ⟨(mtK x k p).neg,(mtK x k p).n*(mtTwo x p).n⟩ (mtS x k p) sM (Nat.le_trans bS (by omega)) (Nat.le_trans g3.1 (by omega));have eL:Fx.add ⟨(mtK x k p).neg,(mtK x k p).n*(mtTwo x p).n⟩ (mtS x k p)=mtL x k p:=rfl;rw[eL]at c17 g3;have g4:=qn6 (a:=mtL x k p) (b:=(Fx.of x.lo (mtB x p)).minus) (k:=4100) g3.2 (show bitL (Fx.of x.lo (mtB x p)).n<=_ by omega)
 have c18:=qea (mtL x k p) (Fx.of x.lo (mtB x p)).minus (Nat.le_trans g3.2 (by omega)) (Nat.le_trans xl (by omega)) (Nat.le_trans g4.1 (by omega));have g5:=qn6 (a:=(mtL x k p).add (Fx.of x.lo (mtB x p)).minus) (b:=mtE x) (k:=4101) g4.2 (by omega);have c19:=qea ((mtL x k p).add (Fx.of x.lo (mtB x p)).minus) (mtE x) (Nat.le_trans g4.2 (by omega)) (Nat.le_trans bE (by omega)) (Nat.le_trans g5.1 (by omega));have eD:((mtL x k p).add (Fx.of x.lo (mtB x p)).minus).add (mtE x)=mtD x k p:=rfl;rw[eD]at c19 g5;have c20:=q1c (mtD x k p) (Nat.le_trans g5.2 (by omega));unfold qnj;have eE:mtE x=⟨false,2^(mtT x+28)⟩:=rfl;have eS:mtS x k p=⟨false,(mtP x k p).n/2^1⟩:=rfl;have eW:mtTwo x p=⟨false,(piI (mtB x p)).n*2^1⟩:=rfl;rw[eE]at c14 c19;rw[eS]at c11 c13 c14 c17;rw[eW]at c15;have nTw:(mtTwo x p).n=(piI (mtB x p)).n*2^1:=rfl;rw[nTw]at c16 c17;clear eE eS eW eA eK eL eD eP nTwo nTw nP bTwo bM bK sK sT sM g1 g2 g3 g4 g5 fl bS bE xh xl ofc b2 pp pl pu pn bP big hkP b28
 have f1:IntKind.i64.wrap ((p:Int)+mtT x)=(p:Int)+mtT x:=by rw[wrap_i64]<;>omega
 have f2:IntKind.i64.wrap ((p:Int)+mtT x+40)=(mtB x p:Int):=by rw[wrap_i64]<;>omega
 have f3:IntKind.i64.wrap ((mtT x:Int)+24)=(mtT x:Int)+24:=by rw[wrap_i64]<;>omega
 have eT':(if(if x.lo.top<x.hi.top then x.hi.top else x.lo.top)<0 then 0 else if x.lo.top<x.hi.top then x.hi.top else x.lo.top)=(mtT x:Int):=by omega
 have⟨w,hw⟩:∃w,w=mtT x+28:=⟨_,rfl⟩
 have f4:IntKind.i64.wrap ((mtT x:Int)+24+4)=(w:Int):=by rw[wrap_i64]<;>omega
 rw[<-hw]at c8 c14 c19;generalize mtD x k p=D at *
 generalize mtA x k p=A at *
 generalize mtL x k p=L at *
 generalize mtK x k p=K at *
 generalize mtP x k p=P at *
 generalize mtB x p=B at *
 generalize Fx.of x.lo B=XL at *
 generalize Fx.of x.hi B=XH at *
 simp;refine zq c1 ?_;simp;refine zq c2 ?_;simp[eT',f1,f2];refine zq c3 ?_;simp;refine zq c4 ?_;simp;refine zq c5 ?_;simp;refine zq c6 ?_;simp;refine zq c7 ?_;simp[f3,f4];refine qam rfl rfl (H1:=_) (vs:=[lim [1],.int .i64 w]) (by simp[prep,frzVs,frzV,lim];rfl) c8 ?_;simp;refine zq c9 ?_;simp;refine zq c11 ?_;simp;refine zq c13 ?_;simp;refine zq c14 ?_;simp;refine zq c15 ?_;simp;refine zq c16 ?_;simp;refine zq c17 ?_;simp;refine zq c10 ?_;simp;refine zq c12 ?_;simp;refine zq c18 ?_;simp;refine zq c19 ?_;simp;refine zq c20 ?_;by_cases hz:D.n=0
 ·simp[hz]
 ·simp[hz]
def unitI : Iv:=⟨nD (-1),nD 1,false⟩
theorem nD1 : (nD 1).Ok:=nD_ok (by omega)
theorem nDm1 : (nD (-1)).Ok:=nD_ok (by omega)
theorem nD7 : (nD 7).Ok:=nD_ok (by omega)
theorem qah4 : unitI.W:=⟨nDm1.w,nD1.w⟩
theorem qu1 (k:Int)(h1:-4611686018427387904<=k)(h2:k<=4611686018427387904):CQ prog qsq [.int .i64 k] (nD k).v:=qng k h1 h2
theorem quc : CQ prog q07 [] unitI.v:=by
 refine qaf rfl fun H=>?_
 have c1:=qu1 (-1) (by omega) (by omega);have c2:=qu1 1 (by omega) (by omega);have e:unitI=⟨nD (-1),nD 1,false⟩:=rfl;rw[e];generalize nD (-1)=a at *
 generalize nD 1=b at *
 simp;refine zq c1 ?_;simp;refine zq c2 ?_;simp[lim]
theorem q2l (p:Int):CQ prog qts [.int .i64 p] (.bool (precB p)):=by
 refine qaf rfl fun H=>?_
 by_cases h1:8<=p
 ·by_cases h2:p<=512
  ·simp[precB,h1,h2]
  ·simp[precB,h1,h2]
 ·simp[precB,h1]
theorem qajw {p:Int}(h:precB p=true):8<=p/\p<=512:=by simpa[precB]using h
theorem qamy {a:Fx}{b:Nat}{p:Int}:(Iv.near a b p).W:=by
 unfold Iv.near;split
 ·exact qq1 rRound_ok.w rRound_ok.w
 ·exact Iv.whole_W
theorem qtz {d:Dy}{c:Bool}{p:Nat}(w:d.W):(qh8 d c p).W:=by
 unfold qh8;split
 ·split
  ·exact pt_W nD1.w
  ·exact pt_W w
 ·exact qamy
def bothI (x:Iv)(c:Bool)(p:Int):Iv:=
 if(precB p&&x.known)=true then
  if 100<x.lo.top\/100<x.hi.top then unitI else
  if(x.wid 64).2≠0\/0<=(x.wid 64).1.cmp (nD 7)then unitI else
  match ((qh8 x.lo c p.toNat).hull (qh8 x.hi c p.toNat)).meet unitI with
  |none=>unitI
  |some y=>if x.lo.cmp x.hi=0 then y else
   ⟨if qnj x (if c then 2 else 3) (p.toNat+64)=true then nD (-1)else y.lo,if qnj x (if c then 0 else 1) (p.toNat+64)=true then nD 1 else y.hi,y.all⟩
 else Iv.whole
set_option maxHeartbeats 1000000 in
theorem qaem (x:Iv)(c:Bool)(p:Int)(w:x.W):CQ prog q1a [x.v,.bool c,.int .i64 p] (bothI x c p).v:=by
 refine qaf rfl fun H=>?_
 have c1:=q2l p;have c2:=qgo x w;by_cases h:precB p=true
 case neg=>
  have ep:bothI x c p=Iv.whole:=by unfold bothI;rw[if_neg (by simp[h])]
  rw[ep];simp;refine zq c1 ?_;simp[h];refine zq qak ?_;simp[lim]
 by_cases hv:x.valid=true
 case neg=>
  have ep:bothI x c p=Iv.whole:=by unfold bothI;rw[if_neg (by simp[Iv.known,hv])]
  rw[ep];simp;refine zq c1 ?_;simp[h];refine zq c2 ?_;simp[hv];refine zq qak ?_;simp[lim]
 by_cases ha:x.all=true
 case pos=>
  have ep:bothI x c p=Iv.whole:=by unfold bothI;rw[if_neg (by simp[Iv.known,ha])]
  rw[ep];simp;refine zq c1 ?_;simp[h];refine zq c2 ?_;simp[hv,ha];refine zq qak ?_;simp[lim]
 have hk:x.known=true:=by simp[Iv.known,hv,ha]
 obtain⟨ol,oh⟩:=qai w hk;obtain⟨p1,p2⟩:=qajw h;have c3:=qj5 x.lo ol.w;have c4:=qj5 x.hi oh.w;rw[if_pos ol.valid]at c3;rw[if_pos oh.valid]at c4;have c5:=qafb x 64 w;have c6:=qu1 7 (by omega) (by omega);have c7:=qei (x.wid 64).1 (nD 7) wid_W nD7.w;have eb:bothI x c p=if 100<x.lo.top\/100<x.hi.top then unitI else
  if(x.wid 64).2≠0\/0<=(x.wid 64).1.cmp (nD 7)then unitI else
  match ((qh8 x.lo c p.toNat).hull (qh8 x.hi c p.toNat)).meet unitI with
  |none=>unitI
  |some y=>if x.lo.cmp x.hi=0 then y else
   ⟨if qnj x (if c then 2 else 3) (p.toNat+64)=true then nD (-1)else y.lo,if qnj x (if c then 0 else 1) (p.toNat+64)=true then nD 1 else y.hi,y.all⟩:=by
  unfold bothI;rw[if_pos (by simp[h,hk])]
 rw[eb];clear eb;have ha':x.all=false:=by simpa using ha
 simp only[Iv.v,ha']at c5;generalize x.wid 64=wd at *
 by_cases t1:100<x.lo.top
 ·rw[if_pos (.inl t1)];simp;refine zq c1 ?_;simp[h];refine zq c2 ?_;simp[hv,ha];refine zq c3 ?_;simp[t1];refine zq quc ?_;simp[lim]
 by_cases t2:100<x.hi.top
 ·rw[if_pos (.inr t2)];simp;refine zq c1 ?_;simp[h];refine zq c2 ?_;simp[hv,ha];refine zq c3 ?_;simp[t1];refine zq c4 ?_;simp[t2];refine zq quc ?_;simp[lim]
 rw[if_neg (show ¬(100<x.lo.top\/100<x.hi.top) by omega)];by_cases hw:wd.2=0
 case neg=>
  rw[if_pos (.inl hw)];simp;refine zq c1 ?_;simp[h];refine zq c2 ?_;simp[hv,ha];refine zq c3 ?_;simp[t1];refine zq c4 ?_;simp[t2];refine zq c5 ?_;simp[hw];refine zq quc ?_;simp[lim]
 by_cases h7:0<=wd.1.cmp (nD 7)
 ·rw[if_pos (.inr h7)];generalize wd.1.cmp (nD 7)=cc at *
  generalize nD 7=n7 at *
  simp;refine zq c1 ?_;simp[h];refine zq c2 ?_;simp[hv,ha];refine zq c3 ?_;simp[t1];refine zq c4 ?_;simp[t2];refine zq c5 ?_;simp[hw];refine zq c6 ?_;simp;refine zq c7 ?_;simp[h7];refine zq quc ?_;simp[lim]
 rw[if_neg (show ¬(wd.2≠0\/0<=wd.1.cmp (nD 7)) by omega)];have c8:=q7h x.lo c p.toNat ol (by omega) (by omega);have c9:=q7h x.hi c p.toNat oh (by omega) (by omega);have w8:(qh8 x.lo c p.toNat).W:=qtz ol.w;have w9:(qh8 x.hi c p.toNat).W:=qtz oh.w;have m1:=fun k (hk:k<=3)=>qagu x k (p.toNat+64) ol oh (by omega) (by omega) hk (by omega)
 simp only[Iv.v,ha']at m1;have f0:(p.toNat:Int)=p:=by omega
 have f1:IntKind.i64.wrap (p+64)=((p.toNat+64:Nat):Int):=by rw[wrap_i64]<;>omega
 rw[f0]at c8 c9;generalize qh8 x.lo c p.toNat=A at *
 generalize qh8 x.hi c p.toNat=B at *
 generalize p.toNat+64=q at *
 have c10:=q72 A B w8 w9;have w10:=w8.hull w9;have c11:=qag6 (A.hull B) unitI w10 qah4;have c12:=qei x.lo x.hi ol.w oh.w;have c13:=qu1 1 (by omega) (by omega);have c14:=qu1 (-1) (by omega) (by omega);generalize wd.1.cmp (nD 7)=cc at *
 generalize A.hull B=C at *
 generalize nD 7=n7 at *
 have u:=quc;generalize hu:unitI=U at *
 generalize x.lo.cmp x.hi=ce at *
 simp;refine zq c1 ?_;simp[h];refine zq c2 ?_;simp[hv,ha];refine zq c3 ?_;simp[t1];refine zq c4 ?_;simp[t2];refine zq c5 ?_;simp[hw];refine zq c6 ?_;simp;refine zq c7 ?_;simp[h7];refine zq c8 ?_;simp;refine zq c9 ?_;simp;refine zq c10 ?_;simp;refine zq u ?_;simp;refine zq c11 ?_;cases hm:C.meet U with
 |none=>
  simp[meetV];refine zq u ?_;simp[lim]
 |some y=>
  simp[meetV];refine zq c12 ?_;by_cases he:ce=0
  ·simp[he,lim]
  ·simp[he];have k0:=m1 0 (by omega);have k1:=m1 1 (by omega);have k2:=m1 2 (by omega);have k3:=m1 3 (by omega);cases c
   ·simp[f1];refine zq k1 ?_;cases ht:qnj x 1 q
    ·simp[f1];refine zq k3 ?_;cases hb:qnj x 3 q
     ·simp[lim]
     ·simp;refine zq c14 ?_;simp[lim]
    ·simp;refine zq c13 ?_;simp[f1];refine zq k3 ?_;cases hb:qnj x 3 q
     ·simp[lim]
     ·simp;refine zq c14 ?_;simp[lim]
   ·simp[f1];refine zq k0 ?_;cases ht:qnj x 0 q
    ·simp[f1];refine zq k2 ?_;cases hb:qnj x 2 q
     ·simp[lim]
     ·simp;refine zq c14 ?_;simp[lim]
    ·simp;refine zq c13 ?_;simp[f1];refine zq k2 ?_;cases hb:qnj x 2 q
     ·simp[lim]
     ·simp;refine zq c14 ?_;simp[lim]
theorem qaow (x:Iv)(p:Int)(w:x.W):CQ prog q3k [x.v,.int .i64 p] (bothI x false p).v:=by
 refine qaf rfl fun H=>?_
 have c:=qaem x false p w;generalize bothI x false p=Y at *
 simp;refine zq c ?_;simp[lim]
theorem qao8 (x:Iv)(p:Int)(w:x.W):CQ prog q3l [x.v,.int .i64 p] (bothI x true p).v:=by
 refine qaf rfl fun H=>?_
 have c:=qaem x true p w;generalize bothI x true p=Y at *
 simp;refine zq c ?_;simp[lim]
end Go.Abs.W
