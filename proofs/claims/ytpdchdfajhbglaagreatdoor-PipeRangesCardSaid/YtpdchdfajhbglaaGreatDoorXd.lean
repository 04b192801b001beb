/- Parts of the proof: FpXg, FpXh, FpXi. -/
import Derived.Test.YtpdchdfajhbglaaGreatDoorXc
namespace Go.Abs.W
theorem qanc {n:Nat}{l:List Nat}:(lim l).lowB n=true:=rfl
theorem qaki {n:Nat}{b:Bool}:(V.bool b).lowB n=true:=rfl
theorem qand {n:Nat}{k:IntKind}{i:Int}:(V.int k i).lowB n=true:=rfl
def qru (P:Int)(sq:Iv):Nat->Iv->Prop
 |0,_=>False
 |f+1,w=>qcv P w=true\/qru P sq f (w.mul sq P)
theorem q9q {P:Int}{sq:Iv}{f n:Nat}{w s:Iv}(h:qcv P w=true):logG P sq (f+1) n w s=(w,s):=by
 unfold logG;rw[if_pos h]
theorem qacn {P:Int}{sq:Iv}{f n:Nat}{w s:Iv}(h:qcv P w=false):logG P sq (f+1) n w s=logG P sq f (n+2) (w.mul sq P) (s.add ((w.mul sq P).div (nI n n) P) P):=by
 conv=>lhs;unfold logG
 simp only[h,Bool.false_eq_true,if_false]
theorem qadw (P:Int)(z:Iv)(wz:z.W)(hP:0<=P)(hP2:P<=1000000)(hs:qru P (z.sq P) 1000 z):CQ prog qn1 [wk P,z.v] (logI P z).v:=by
 refine qaf rfl fun H=>?_
 have cq:=qzq z P wz;have wq:(z.sq P).W:=sq_W;have e0:logI P z=((logG P (z.sq P) 1000 3 z z).2.add (qdx (logG P (z.sq P) 1000 3 z z).1) P).scl 1:=rfl;rw[e0];generalize hq:z.sq P=q at *
 simp[wk];refine zq cq ?_;simp[qanc,qaki,qand,apart];refine qc5 (fun k E H'=>∃(n:Nat) (w s:Iv),H'=H++[some ⟨1,[.agg [.int .i64 P]],false,true⟩,some ⟨7,[z.v],false,true⟩,some ⟨7,[zIv],false,true⟩,some ⟨7,[q.v],false,true⟩,some ⟨7,[w.v],false,true⟩,some ⟨7,[s.v],false,true⟩] /\
  E 2=.ptr H.length 0 0/\E 3=.ptr (H.length+1) 0 0/\E 4=.ptr (H.length+2) 0 0/\E 5=.ptr (H.length+3) 0 0/\E 6=.ptr (H.length+4) 0 0/\E 7=.ptr (H.length+5) 0 0/\E 8=.int .i64 n/\w.W/\s.W/\n+2*k<=2003/\qru P q k w/\logG P q k n w s=logG P q 1000 3 z z) 1000 ?_ ?_
 ·exact⟨3,z,z,by simp[zIv],by simp,by simp,by simp,by simp,by simp,by simp,by simp,wz,wz,by omega,hs,rfl⟩
 ·rintro k E H' ⟨n,w,s,rfl,h2,h3,h4,h5,h6,h7,h8,ww,ws,hn,hst,hg⟩;cases k with
  |zero=>exact hst.elim
  |succ k=>
   have hst':qcv P w=true\/qru P q k (w.mul q P):=hst;have cs:=q3w P w ww hP hP2;have cm:=q56 P w q ww wq;have wm:(w.mul q P).W:=mul_W;have wn:(nI (n:Int) (n:Int)).W:=nI_W (by omega) (by omega);have cn:=qfg n (by omega) (by omega);have cd:=q1j P (w.mul q P) (nI n n) wm wn;have wd:((w.mul q P).div (nI n n) P).W:=div_W;have ca:=qp8 P s _ ws wd;have wa:(s.add ((w.mul q P).div (nI n n) P) P).W:=add_W;have e1:IntKind.i64.wrap ((n:Int)+2)=((n+2:Nat):Int):=by rw[wrap_i64]<;>omega
   have g1:=@q9q P q k n w s;have g2:=@qacn P q k n w s;generalize hS:s.add ((w.mul q P).div (nI n n) P) P=S at *
   generalize hT:(w.mul q P).div (nI n n) P=T at *
   generalize hM:w.mul q P=M at *
   simp only[wk]at *
   refine qas ?_;simp[qe4,h2,h6];refine zq cs ?_;cases hsm:qcv P w
   ·have hst2:=hst'.resolve_left (by simp[hsm]);simp[h2,h5,h6];refine zq cm ?_;simp[h2,h6,h7,h8];refine zq cn ?_;simp;refine zq cd ?_;simp;refine zq ca ?_;simp[h2,h3,h4,h5,h6,h7,h8];exact⟨k,by omega,n+2,M,S,by simp,by simpa using e1,wm,wa,by omega,hst2,by rw[<-g2 hsm,hg]⟩
   ·have er:=g1 hsm;rw[hg]at er;have cr:=qzb w ww;have wr:(qdx w).W:=qo8 ww;have cf:=qp8 P s (qdx w) ws wr;have cl:=qw7 (s.add (qdx w) P) 1 add_W;simp[h2,h6,h7];refine zq cr ?_;simp;refine zq cf ?_;simp;refine zq cl ?_;simp[h4,er,lim,zIv]
section
variable {P : Nat} {q w s z : Iv}
theorem q2m (h1:24<=P)(h2:P<=512):precB (P:Int)=true:=precB_iff.2 (by omega)
theorem qakd (h1:24<=P)(h2:P<=512)(wq:q.W)(hq:q.Bt (-pw 16382) (pw 16382)){i:Nat}(hi:i<=300)(ww:w.W)(hw:w.Bt (-pw (16383-2*i)) (pw (16383-2*i))) :
 (w.mul q P).Bt (-pw (16383-2*(i+1))) (pw (16383-2*(i+1))):=
 q7r ww wq (q2m h1 h2) hw hq (qb1 (by omega)) (by rw[<-qa3,<-qa3];exact pw_le (by omega))
theorem qq2 (hP:P<=512){i:Nat}(ww:w.W)(hw:w.Bt (-pw (16383-2*i)) (pw (16383-2*i)))(h:¬qcv P w=true):2*i<P:=by
 rw[qug ww hw.k (by omega)]at h;have hm:=q0c ww hw.k;have h1:=hw.lo;have h2:=hw.hi;have le0:=qal ww hw.k;rcases Nat.lt_or_ge (2*i) P with h3|h3
 ·exact h3
 ·exfalso;have h4:pw (16383-2*i)<pw (16384-P):=pw_lt_iff.2 (by omega);have:=qax (16383-2*i);omega
theorem q7u (h1:24<=P)(h2:P<=512)(wq:q.W)(hq:q.Bt (-pw 16382) (pw 16382)):∀(f i:Nat) (w:Iv),w.W->w.Bt (-pw (16383-2*i)) (pw (16383-2*i))->i<=300->P<=2*(i+f)->0<f->i<300->qru P q (f+1) w
 |0,i,w,_,_,_,_,h0,_=>absurd h0 (by decide)
 |f+1,i,w,ww,hw,hi,hf,_,hi2=>by
  by_cases hsm:qcv P w=true
  ·exact .inl hsm
  ·have:=qq2 h2 ww hw hsm;right;have b:=qakd h1 h2 wq hq hi ww hw;cases f with
   |zero=>
    left;by_cases hs2:qcv P (w.mul q P)=true
    ·exact hs2
    ·have:=qq2 h2 mul_W b hs2;omega
   |succ f=>exact q7u h1 h2 wq hq (f+1) (i+1) _ mul_W b (by omega) (by omega) (by omega) (by omega)
theorem qal5 (h1:24<=P)(h2:P<=512)(wz:z.W)(hz:z.Bt (-pw 16383) (pw 16383)):(z.sq P).Bt (-pw 16382) (pw 16382):=
 sq_up wz (q2m h1 h2) hz (qb1 (by omega)) (by rw[<-qa3,<-qa3];exact pw_le (by omega))
theorem q2z (h1:24<=P)(h2:P<=512)(wz:z.W)(hz:z.known=true->z.Bt (-pw 16383) (pw 16383)):qru P (z.sq P) 1000 z:=by
 cases hk:z.known
 ·exact .inl (by unfold qcv;rw[hk];rfl)
 ·exact q7u h1 h2 sq_W (qal5 h1 h2 wz (hz hk)) 999 0 z wz (hz hk) (by omega) (by omega) (by omega) (by omega)
theorem q7v {P:Int}{z:Iv}:(logI P z).W:=qrl
theorem qafw (h1:24<=P)(h2:P<=512):((nI 1 1).div (nI 3 3) P).Bt (-pw 16383) (pw 16383):=by
 have b1:=nI_Bt (k:=1) (by decide);have b3:=nI_Bt (k:=3) (by decide);have p0:=qax 16384;have e4:pw 16384=2*pw 16383:=qdn 16383;rw[Int.one_mul]at b1;exact q8h (m:=3*pw 16384) (nI_Wk (by decide)) (nI_Wk (by decide)) (q2m h1 h2) (b1.mono (by omega) (Int.le_refl _)) b3 (by omega) (qb1 (by omega)) (by omega) (by
  rw[<-Int.mul_assoc];exact(qav p0).2 (by omega))
end
theorem qag1 {p:Int}(hp:precB p=true):∃P:Nat,gP p 16=(P:Int)/\24<=P/\P<=512:=by
 have hpp:=precB_iff.1 hp;have⟨P,hP⟩:∃P:Nat,P=(gP p 16).toNat:=⟨_,rfl⟩
 refine⟨P,?_,?_,?_⟩<;>unfold gP at*<;> omega
theorem qacp {p:Int}:(log2I p).W:=by
 unfold log2I;split
 ·exact qni
 ·exact Iv.whole_W
theorem qalo (p:Int):CQ prog qv3 [.int .i64 p] (log2I p).v:=by
 refine qaf rfl fun H=>?_
 cases hp:precB p
 ·have e:log2I p=Iv.whole:=by unfold log2I;rw[hp];rfl
  have hp':p<8\/512<p:=by
   rcases Int.lt_or_le p 8 with h|h
   ·exact .inl h
   ·right;rcases Int.lt_or_le 512 p with h2|h2
    ·exact h2
    ·rw[precB_iff.2 ⟨h,h2⟩]at hp;cases hp
  rw[e];rcases hp' with h|h
  ·simp[h];refine zq qak ?_;simp[lim]
  ·have h8:¬p<8:=by omega
   simp[h,h8];refine zq qak ?_;simp[lim]
 ·have hpp:=precB_iff.1 hp;obtain⟨P,hP,h1,h2⟩:=qag1 hp;have g:=q0h p 16 (by omega) (by omega) (by omega) (by omega);rw[hP]at g;have n8:¬p<8:=by omega
  have n9:¬512<p:=by omega
  have w1:(nI 1 1).W:=nI_Wk (by decide);have w3:(nI 3 3).W:=nI_Wk (by decide);have cd:=q1j P (nI 1 1) (nI 3 3) w1 w3;have cl:=qadw P ((nI 1 1).div (nI 3 3) P) div_W (by omega) (by omega) (q2z h1 h2 div_W fun _=>qafw h1 h2);have cr:=qow (logI P ((nI 1 1).div (nI 3 3) P)) p q7v;have e:log2I p=(logI P ((nI 1 1).div (nI 3 3) P)).rnd p:=by unfold log2I;rw[if_pos hp,hP]
  rw[e];simp only[wk]at g cd cl;simp[n8,n9];refine zq g ?_;simp;refine qaa rfl rfl rfl (qfg 1 (by omega) (by omega)) ?_;simp;refine qaa rfl rfl rfl (qfg 3 (by omega) (by omega)) ?_;simp;refine zq cd ?_;simp;refine zq cl ?_;simp;refine zq cr ?_;simp[lim]
end Go.Abs.W
namespace Go.Abs.W
section
variable {d : Dy} {P : Nat}
theorem quv (ok:d.Ok)(h:0<d.sgn):d.m≠[]/\d.val=d.absN:=by
 have hm:d.m≠[]:=by
  intro h0;have:=sgn0.2 h0;omega
 have hv:=(qh5 ok).1.1 h;have:=qo2 d;exact⟨hm,by omega⟩
theorem qam7 (ok:d.Ok)(h:0<d.sgn)(h1:24<=P)(h2:P<=512)(hk:((Iv.pt d).rnd P).known=true) :
 pw (d.top+16383).toNat<=((Iv.pt d).rnd P).lo.val/\((Iv.pt d).rnd P).hi.val<=pw (d.top+16384).toNat:=by
 obtain⟨hm,hv⟩:=quv ok h;obtain⟨b1,b2⟩:=ok.absN_bounds hm;have ht:=ok.top_pos hm;have htop:d.top<=16384:=by have:=ok.top;unfold Dy.top;rw[if_neg hm];exact this
 have hp:=q2m h1 h2;have l:pw (d.top+16383).toNat<=d.val:=by rw[hv];unfold pw;exact Int.ofNat_le.2 b1
 have u:d.val<=pw (d.top+16384).toNat:=by rw[hv];unfold pw;exact Int.ofNat_le.2 (Nat.le_of_lt b2)
 unfold Iv.rnd at hk ⊢;rw[q7f ok,hp,if_pos (by rfl)]at hk ⊢;unfold Iv.made at hk ⊢;split at hk
 ·rename_i h0;rw[if_pos h0];have dn:=qc6 ok hp;have up:=qdm ok hp;refine⟨(dn.atl (qb1 (by omega)) l).2,?_⟩;by_cases hc:d.top<=16383
  ·exact(up.atu (qb1 (by omega)) u).2
  ·have g:=(up.grid h0.2).2;have e:(d.top+16384).toNat=capE:=by unfold capE;omega
   have:pw capE=((capN:Nat):Int):=rfl;rw[e,this];show(qbz d P true).1.val<=_;omega
 ·cases hk
def lgM (d:Dy)(P:Int):Iv:=((Iv.pt d).rnd P).scl (-d.top)
def lgZ (d:Dy)(P:Int):Iv:=((lgM d P).add (nI (-1) (-1)) P).div ((lgM d P).add (nI 1 1) P) P
theorem qagw {r s:Dy × Int}(hk:(Iv.made r s).known=true):r.2=0/\s.2=0/\Iv.made r s=⟨r.1,s.1,false⟩:=by
 unfold Iv.made at hk ⊢;split at hk
 ·rename_i h;exact⟨h.1,h.2,if_pos h⟩
 ·cases hk
theorem qana (ok:d.Ok)(h:0<d.sgn)(h1:24<=P)(h2:P<=512)(hk:(lgM d P).known=true):(lgM d P).Bt (pw 16383) (pw 16384):=by
 obtain⟨hm,hv⟩:=quv ok h;have ht:=ok.top_pos hm;have htop:d.top<=16384:=by have:=ok.top;unfold Dy.top;rw[if_neg hm];exact this
 have hk2:=hk;unfold lgM Iv.scl at hk2;by_cases kx:((Iv.pt d).rnd P).known=true
 ·rw[if_pos kx]at hk2;have e0:lgM d P=Iv.made (((Iv.pt d).rnd P).lo.scl (-d.top),((Iv.pt d).rnd P).lo.sclE (-d.top)) (((Iv.pt d).rnd P).hi.scl (-d.top),((Iv.pt d).rnd P).hi.sclE (-d.top)):=by
   unfold lgM Iv.scl;rw[if_pos kx]
  obtain⟨a,b⟩:=qam7 ok h h1 h2 kx;obtain⟨s1,s2,e⟩:=qagw hk2;obtain⟨o1,o2⟩:=qai qni kx;have⟨A,hA⟩:∃A:Nat,A=(-d.top).toNat:=⟨_,rfl⟩
  have⟨B,hB⟩:∃B:Nat,B=d.top.toNat:=⟨_,rfl⟩
  have v1:=quj (k:=-d.top) (a:=A) (b:=B) o1 (by omega) s1;have v2:=quj (k:=-d.top) (a:=A) (b:=B) o2 (by omega) s2;have pB:=qax B;have pA:=qax A;refine⟨hk,?_,?_⟩
  ·refine(qav pB).1 ?_;rw[e0,e];show _<=(((Iv.pt d).rnd P).lo.scl (-d.top)).val*pw B;rw[v1,<-qa3,show 16383+B=(d.top+16383).toNat+A by omega,qa3];exact(qav pA).2 a
  ·refine(qav pB).1 ?_;rw[e0,e];show(((Iv.pt d).rnd P).hi.scl (-d.top)).val*pw B<=_;rw[v2,<-qa3,show 16384+B=(d.top+16384).toNat+A by omega,qa3];exact(qav pA).2 b
 ·rw[if_neg kx]at hk2;cases hk2
theorem qam9 (ok:d.Ok)(h:0<d.sgn)(h1:24<=P)(h2:P<=512)(hk:(lgM d P).known=true):(lgZ d P).Bt (-pw 16383) (pw 16383):=by
 have b:=qana ok h h1 h2 hk;have hp:=q2m h1 h2;have b1:=nI_Bt (k:=1) (by decide);have bn:=nI_Bt (k:=-1) (by decide);have w1:(nI 1 1).W:=nI_Wk (by decide);have wn:(nI (-1) (-1)).W:=nI_Wk (by decide);have wm:(lgM d P).W:=qrl;have e4:pw 16384=2*pw 16383:=qdn 16383;have p0:=qax 16383;have x1:=qaiw (E:=-pw 16383) (F:=pw 16383) wm wn hp b bn (qhv (qb1 (by omega))) (qb1 (by omega)) (by omega) (by omega);have x2:=qaiw (E:=3*pw 16383) (F:=pw 16385) wm w1 hp b b1 (qt2 (b:=2) (by
  have:2^2<=2^(P:Int).toNat:=Nat.pow_le_pow_right (by omega) (by rw[qqs];omega);have:(2:Nat)^2=4:=rfl;show 3<=_;omega) (by decide) (by unfold capE;omega)) (qb1 (by omega)) (by omega) (by have:pw 16385=2*pw 16384:=qdn 16384;omega)
 exact q8h (m:=3*pw 16383) add_W add_W hp x1 x2 (by omega) (qb1 (by omega)) (by omega) (Int.mul_le_mul_of_nonneg_left (by omega) (by omega))
theorem qacv (hk:(lgM d P).known=false):(lgZ d P).known=false:=by
 have e:(lgM d P).add (nI (-1) (-1)) P=Iv.whole:=by unfold Iv.add;rw[hk];rfl
 have e2:∀y:Iv,Iv.whole.div y P=Iv.whole:=fun y=>by
  have:Iv.whole.known=false:=rfl;unfold Iv.div;rw[this];rfl
 unfold lgZ;rw[e,e2];rfl
theorem qakh (ok:d.Ok)(h:0<d.sgn)(h1:24<=P)(h2:P<=512):(lgZ d P).known=true->(lgZ d P).Bt (-pw 16383) (pw 16383):=by
 intro hz;cases hk:(lgM d P).known
 ·rw[qacv hk]at hz;cases hz
 ·exact qam9 ok h h1 h2 hk
end
theorem qam8 {p:Int}(hp:precB p=true):∃P:Nat,gP p 40=(P:Int)/\24<=P/\P<=512:=by
 have hpp:=precB_iff.1 hp;have⟨P,hP⟩:∃P:Nat,P=(gP p 40).toNat:=⟨_,rfl⟩
 refine⟨P,?_,?_,?_⟩<;>unfold gP at*<;> omega
theorem lgI_W {d:Dy}{p:Int}:(lgI d p).W:=by
 unfold lgI;split
 ·exact⟨Dy.zero_W,Dy.zero_W⟩
 ·exact qni
theorem qanb {d:Dy}{p:Int}{P:Nat}(h1:¬d.cmp (nD 1)=0)(hP:gP p 40=(P:Int)):lgI d p=((logI P (lgZ d P)).add ((nI d.top d.top).mul (log2I P) P) P).rnd p:=by
 unfold lgI;rw[if_neg h1];simp only[hP];rfl
theorem qsn (d:Dy)(p:Int)(ok:d.Ok)(h:0<d.sgn)(hp:precB p=true):CQ prog qpi [d.v,.int .i64 p] (lgI d p).v:=by
 refine qaf rfl fun H=>?_
 obtain⟨hm,_⟩:=quv ok h;have ht:=ok.top_pos hm;have htop:d.top<=16384:=by have:=ok.top;unfold Dy.top;rw[if_neg hm];exact this
 have hpp:=precB_iff.1 hp;have c:=qng 1 (by omega) (by omega);rw[<-show nD 1=Dy.of (decide ((1:Int)<0)) (1:Int).natAbs 0 from rfl]at c;have t:=qj5 d ok.w;have pt:=qlu d ok.w;rw[ok.valid]at t pt;rw[if_pos rfl]at t pt;simp;refine zq c ?_;simp;refine qaa rfl rfl rfl (qei d (nD 1) ok.w (nD_ok (by omega)).w) ?_;by_cases hc:d.cmp (nD 1)=0
 ·simp[hc,lgI,Dy.zero,lim]
 ·obtain⟨P,hP,h1,h2⟩:=qam8 hp;have g:=q0h p 40 (by omega) (by omega) (by omega) (by omega);rw[hP]at g;have e1:IntKind.i64.wrap (-d.top)=-d.top:=by rw[wrap_i64]<;>omega
  have rc:=qow (Iv.pt d) P (pt_W ok.w);have sc:=qw7 ((Iv.pt d).rnd P) (-d.top) qni;have wm:(lgM d P).W:=qrl;have c1:=qfg 1 (by omega) (by omega);have cn:=qfg (-1) (by omega) (by omega);have ct:=qfg d.top (by omega) (by omega);have w1:(nI 1 1).W:=nI_Wk (by decide);have wn:(nI (-1) (-1)).W:=nI_Wk (by decide);have wt:(nI d.top d.top).W:=nI_Wk (by omega);have a1:=qp8 P (lgM d P) (nI (-1) (-1)) wm wn;have a2:=qp8 P (lgM d P) (nI 1 1) wm w1;have dv:=q1j P ((lgM d P).add (nI (-1) (-1)) P) ((lgM d P).add (nI 1 1) P) add_W add_W;have wz:(lgZ d P).W:=div_W;have lc:=qadw P (lgZ d P) wz (by omega) (by omega) (q2z h1 h2 wz (qakh ok h h1 h2));have l2:=qalo P;have ml:=q56 P (nI d.top d.top) (log2I P) wt qacp;have ad:=qp8 P (logI P (lgZ d P)) ((nI d.top d.top).mul (log2I P) P) q7v mul_W;have rf:=qow ((logI P (lgZ d P)).add ((nI d.top d.top).mul (log2I P) P) P) p add_W;rw[qanb hc hP];rw[show((Iv.pt d).rnd P).scl (-d.top)=lgM d P from rfl]at sc
  rw[show((lgM d P).add (nI (-1) (-1)) P).div ((lgM d P).add (nI 1 1) P) P=lgZ d P from rfl]at dv;generalize lgZ d P=Z at *
  generalize lgM d P=M at *
  simp only[wk]at g a1 a2 dv lc ml ad;simp[hc];refine zq g ?_;simp;refine zq t ?_;simp;refine zq pt ?_;simp;refine zq rc ?_;simp[e1];refine zq sc ?_;simp;refine zq cn ?_;simp;refine zq a1 ?_;simp;refine zq c1 ?_;simp;refine zq a2 ?_;simp;refine zq dv ?_;simp;refine zq lc ?_;simp;refine zq ct ?_;simp;refine zq l2 ?_;simp;refine zq ml ?_;simp;refine zq ad ?_;simp;refine zq rf ?_;simp[lim]
theorem qao1 (x:Iv)(p:Int)(w:x.W):CQ prog qxz [x.v,.int .i64 p] (x.log p).v:=by
 refine qaf rfl fun H=>?_
 have f:=qadi x p w;simp;refine zq f ?_;cases hk:x.known
 ·simp;refine zq qak ?_;simp[Iv.log,hk,lim]
 ·obtain⟨o1,o2⟩:=qai w hk;have s:=qjm x.lo o1.w;rw[o1.valid,if_pos rfl]at s;have le0:=qal w hk;cases hp:precB p
  ·simp;refine zq qak ?_;simp[Iv.log,hp,lim]
  ·simp;refine zq s ?_;by_cases h0:0<x.lo.sgn
   ·have h0':¬x.lo.sgn<=0:=by omega
    have h2:0<x.hi.sgn:=(qh5 o2).1.2 (by have:=(qh5 o1).1.1 h0;omega);simp[h0'];refine qaa rfl rfl rfl (qsn x.lo p o1 h0 hp) ?_;simp;refine qaa rfl rfl rfl (qsn x.hi p o2 h2 hp) ?_;simp;refine qaa rfl rfl rfl (q8e (lgI x.lo p) (lgI x.hi p)) ?_;simp[Iv.log,hk,hp,h0,lim]
   ·have h0':x.lo.sgn<=0:=by omega
    simp[h0'];refine zq qak ?_;simp[Iv.log,h0,lim]
end Go.Abs.W
namespace Go.Abs.W
theorem q55 {a b:Iv}(wa:a.W)(wb:b.W):(endsI a b).W:=by
 unfold endsI;split
 ·exact Iv.whole_W
 ·exact⟨wa.lo,wb.hi⟩
end Go.Abs.W
