/- Parts of the proof: FpXg, FpXh, FpXi. -/
import Derived.Test.YtpdchdfajhbglaaGreatDoorXc
namespace Go.Abs.W
theorem qakp {n:Nat}{l:List Nat}:(lim l).lowB n=true:=rfl
theorem qaht {n:Nat}{b:Bool}:(V.bool b).lowB n=true:=rfl
theorem qakq {n:Nat}{k:IntKind}{i:Int}:(V.int k i).lowB n=true:=rfl
def qpl (P:Int)(sq:Iv):Nat->Iv->Prop
 |0,_=>False
 |f+1,w=>qcc P w=true\/qpl P sq f (w.mul sq P)
theorem qvj {P:Int}{sq:Iv}{f n:Nat}{w s:Iv}(h:qcc P w=true):logG P sq (f+1) n w s=(w,s):=by
 unfold logG;rw[if_pos h]
theorem qzk {P:Int}{sq:Iv}{f n:Nat}{w s:Iv}(h:qcc P w=false):logG P sq (f+1) n w s=logG P sq f (n+2) (w.mul sq P) (s.add ((w.mul sq P).div (nI n n) P) P):=by
 conv=>lhs;unfold logG
 simp only[h,Bool.false_eq_true,if_false]
theorem qaa0 (P:Int)(z:Iv)(wz:z.W)(hP:0<=P)(hP2:P<=1000000)(hs:qpl P (z.sq P) 1000 z):CQ prog qly [wk P,z.v] (logI P z).v:=by
 refine qag rfl fun H=>?_
 have cq:=qfv z P wz;have wq:(z.sq P).W:=sq_W;have e0:logI P z=((logG P (z.sq P) 1000 3 z z).2.add (qck (logG P (z.sq P) 1000 3 z z).1) P).scl 1:=rfl;rw[e0];generalize hq:z.sq P=q at *
 simp[wk];refine zq cq ?_;simp[qakp,qaht,qakq,apart];refine qem (fun k E H'=>∃(n:Nat) (w s:Iv),H'=H++[some ⟨1,[.agg [.int .i64 P]],false,true⟩,some ⟨7,[z.v],false,true⟩,some ⟨7,[zIv],false,true⟩,some ⟨7,[q.v],false,true⟩,some ⟨7,[w.v],false,true⟩,some ⟨7,[s.v],false,true⟩] /\
  E 2=.ptr H.length 0 0/\E 3=.ptr (H.length+1) 0 0/\E 4=.ptr (H.length+2) 0 0/\E 5=.ptr (H.length+3) 0 0/\E 6=.ptr (H.length+4) 0 0/\E 7=.ptr (H.length+5) 0 0/\E 8=.int .i64 n/\w.W/\s.W/\n+2*k<=2003/\qpl P q k w/\logG P q k n w s=logG P q 1000 3 z z) 1000 ?_ ?_
 ·exact⟨3,z,z,by simp[zIv],by simp,by simp,by simp,by simp,by simp,by simp,by simp,wz,wz,by omega,hs,rfl⟩
 ·rintro k E H' ⟨n,w,s,rfl,h2,h3,h4,h5,h6,h7,h8,ww,ws,hn,hst,hg⟩;cases k with
  |zero=>exact hst.elim
  |succ k=>
   have hst':qcc P w=true\/qpl P q k (w.mul q P):=hst;have cs:=qz9 P w ww hP hP2;have cm:=q2m P w q ww wq;have wm:(w.mul q P).W:=mul_W;have wn:(nI (n:Int) (n:Int)).W:=nI_W (by omega) (by omega);have cn:=qe3 n (by omega) (by omega);have cd:=qxv P (w.mul q P) (nI n n) wm wn;have wd:((w.mul q P).div (nI n n) P).W:=div_W;have ca:=qn6 P s _ ws wd;have wa:(s.add ((w.mul q P).div (nI n n) P) P).W:=add_W;have e1:IntKind.i64.wrap ((n:Int)+2)=((n+2:Nat):Int):=by rw[wrap_i64]<;>omega
   have g1:=@qvj P q k n w s;have g2:=@qzk P q k n w s;generalize hS:s.add ((w.mul q P).div (nI n n) P) P=S at *
   generalize hT:(w.mul q P).div (nI n n) P=T at *
   generalize hM:w.mul q P=M at *
   simp only[wk]at *
   refine qaw ?_;simp[qeq,h2,h6];refine zq cs ?_;cases hsm:qcc P w
   ·have hst2:=hst'.resolve_left (by simp[hsm]);simp[h2,h5,h6];refine zq cm ?_;simp[h2,h6,h7,h8];refine zq cn ?_;simp;refine zq cd ?_;simp;refine zq ca ?_;simp[h2,h3,h4,h5,h6,h7,h8];exact⟨k,by omega,n+2,M,S,by simp,by simpa using e1,wm,wa,by omega,hst2,by rw[<-g2 hsm,hg]⟩
   ·have er:=g1 hsm;rw[hg]at er;have cr:=qvw w ww;have wr:(qck w).W:=qlg ww;have cf:=qn6 P s (qck w) ws wr;have cl:=qkb (s.add (qck w) P) 1 add_W;simp[h2,h6,h7];refine zq cr ?_;simp;refine zq cf ?_;simp;refine zq cl ?_;simp[h4,er,lim,zIv]
section
variable {P : Nat} {q w s z : Iv}
theorem qnd (h1:24<=P)(h2:P<=512):precB (P:Int)=true:=precB_iff.2 (by omega)
theorem q9p (h1:24<=P)(h2:P<=512)(wq:q.W)(hq:q.Bt (-pw 16382) (pw 16382)){i:Nat}(hi:i<=300)(ww:w.W)(hw:w.Bt (-pw (16383-2*i)) (pw (16383-2*i))) :
 (w.mul q P).Bt (-pw (16383-2*(i+1))) (pw (16383-2*(i+1))):=
 qzf ww wq (qnd h1 h2) hw hq (qa3 (by omega)) (by rw[<-qa0,<-qa0];exact pw_le (by omega))
theorem qkl (hP:P<=512){i:Nat}(ww:w.W)(hw:w.Bt (-pw (16383-2*i)) (pw (16383-2*i)))(h:¬qcc P w=true):2*i<P:=by
 rw[qrs ww hw.k (by omega)]at h;have hm:=qsc ww hw.k;have h1:=hw.lo;have h2:=hw.hi;have le0:=qan ww hw.k;rcases Nat.lt_or_ge (2*i) P with h3|h3
 ·exact h3
 ·exfalso;have h4:pw (16383-2*i)<pw (16384-P):=pw_lt_iff.2 (by omega);have:=qas (16383-2*i);omega
theorem q4n (h1:24<=P)(h2:P<=512)(wq:q.W)(hq:q.Bt (-pw 16382) (pw 16382)):∀(f i:Nat) (w:Iv),w.W->w.Bt (-pw (16383-2*i)) (pw (16383-2*i))->i<=300->P<=2*(i+f)->0<f->i<300->qpl P q (f+1) w
 |0,i,w,_,_,_,_,h0,_=>absurd h0 (by decide)
 |f+1,i,w,ww,hw,hi,hf,_,hi2=>by
  by_cases hsm:qcc P w=true
  ·exact .inl hsm
  ·have:=qkl h2 ww hw hsm;right;have b:=q9p h1 h2 wq hq hi ww hw;cases f with
   |zero=>
    left;by_cases hs2:qcc P (w.mul q P)=true
    ·exact hs2
    ·have:=qkl h2 mul_W b hs2;omega
   |succ f=>exact q4n h1 h2 wq hq (f+1) (i+1) _ mul_W b (by omega) (by omega) (by omega) (by omega)
theorem q9o (h1:24<=P)(h2:P<=512)(wq:q.W)(hq:q.Bt (-pw 16382) (pw 16382)):∀(f i:Nat) (w s:Iv),w.W->s.W->w.Bt (-pw (16383-2*i)) (pw (16383-2*i))->s.Bt (-((i+1:Nat):Int)*pw 16384) (((i+1:Nat):Int)*pw 16384)->i<300 ->
 ∃m,m<=i+f/\m<=300/\(logG P q f (2*i+3) w s).1.W/\(logG P q f (2*i+3) w s).2.W/\(logG P q f (2*i+3) w s).1.Bt (-pw 16383) (pw 16383)/\(logG P q f (2*i+3) w s).2.Bt (-((m+1:Nat):Int)*pw 16384) (((m+1:Nat):Int)*pw 16384)
 |0,i,w,s,ww,ws,hw,hs,hi=>⟨i,by omega,by omega,ww,ws,hw.mono (by have:=pw_le (show 16383-2*i<=16383 by omega);omega) (pw_le (by omega)),hs⟩
 |f+1,i,w,s,ww,ws,hw,hs,hi=>by
  cases hsm:qcc P w
  ·have hns:=qkl h2 ww hw (by rw[hsm];decide);have b:=q9p h1 h2 wq hq (by omega) ww hw;have p0:=qas 16384;have hn:=nI_Bt (k:=((2*i+3:Nat):Int)) (by omega);have wn:(nI ((2*i+3:Nat):Int) ((2*i+3:Nat):Int)).W:=nI_W (by omega) (by omega);have d:=q0k (c:=pw 16384) (m:=((2*i+3:Nat):Int)*pw 16384) mul_W wn (qnd h1 h2) b hn (Int.mul_pos (by omega) p0) (qa3 (by omega)) (by omega) (by
    refine Int.mul_le_mul (pw_le (by omega)) ?_ (by omega) (by omega);have:1*pw 16384<=((2*i+3:Nat):Int)*pw 16384:=(qat p0).2 (by omega);omega)
   have a:=q03 (E:=-((i+1+1:Nat):Int)*pw 16384) (F:=((i+1+1:Nat):Int)*pw 16384) ws div_W (qnd h1 h2) hs d (qrg (by rw[qhb];omega) (by omega)) (qrg (by rw[qhb];omega) (by omega))
    (by rw[Int.neg_mul,Int.neg_mul,show((i+1+1:Nat):Int)=((i+1:Nat):Int)+1 by omega,Int.add_mul,Int.one_mul];omega)
    (by rw[show((i+1+1:Nat):Int)=((i+1:Nat):Int)+1 by omega,Int.add_mul,Int.one_mul];omega)
   rw[qzk hsm];obtain⟨m,h3,h4,r⟩:=q9o h1 h2 wq hq f (i+1) _ _ mul_W add_W b a (by omega);exact⟨m,by omega,h4,r⟩
  ·rw[qvj hsm];exact⟨i,by omega,by omega,ww,ws,hw.mono (by have:=pw_le (show 16383-2*i<=16383 by omega);omega) (pw_le (by omega)),hs⟩
theorem qafd (h1:24<=P)(h2:P<=512)(wz:z.W)(hz:z.Bt (-pw 16383) (pw 16383)):(z.sq P).Bt (-pw 16382) (pw 16382):=
 sq_up wz (qnd h1 h2) hz (qa3 (by omega)) (by rw[<-qa0,<-qa0];exact pw_le (by omega))
theorem qzj (h1:24<=P)(h2:P<=512)(wz:z.W)(hz:z.known=true->z.Bt (-pw 16383) (pw 16383)):qpl P (z.sq P) 1000 z:=by
 cases hk:z.known
 ·exact .inl (by unfold qcc;rw[hk];rfl)
 ·exact q4n h1 h2 sq_W (qafd h1 h2 wz (hz hk)) 999 0 z wz (hz hk) (by omega) (by omega) (by omega) (by omega)
theorem qvi {P:Int}{z:Iv}:(logI P z).W:=qie
theorem q9r (h1:24<=P)(h2:P<=512)(wz:z.W)(hz:z.Bt (-pw 16383) (pw 16383)):(logI P z).Bt (-pw 16394) (pw 16394):=by
 have p0:=qas 16384;have e4:pw 16384=2*pw 16383:=qbr 16383;obtain⟨m,_,hm,w1,w2,b1,b2⟩:=q9o h1 h2 sq_W (qafd h1 h2 wz hz) 1000 0 z z wz wz hz (hz.mono (by simp;omega) (by simp;omega)) (by omega);have e0:logI P z=((logG P (z.sq P) 1000 (2*0+3) z z).2.add (qck (logG P (z.sq P) 1000 (2*0+3) z z).1) P).scl 1:=rfl;rw[e0];have⟨T,hT⟩:∃T,T=(logG P (z.sq P) 1000 (2*0+3) z z).1:=⟨_,rfl⟩
 have⟨S,hS⟩:∃S,S=(logG P (z.sq P) 1000 (2*0+3) z z).2:=⟨_,rfl⟩
 rw[<-hT]at w1 b1;rw[<-hS]at w2 b2;rw[<-hT,<-hS];have hmg:=qsc w1 b1.k;have tl:=qan w1 b1.k;have t1:=b1.lo;have t2:=b1.hi;have ab:=q00 (a:=pw 16383) w1 b1.k (by omega);have a:=q03 (E:=-((302:Int)*pw 16384)) (F:=(302:Int)*pw 16384) w2 (qlg w1) (qnd h1 h2) b2 ab (qc7 (qrg (by rw[qhb];omega) (by decide))) (qrg (by rw[qhb];omega) (by decide))
  (by
   have:((m+1:Nat):Int)*pw 16384<=301*pw 16384:=(qat p0).2 (by omega);rw[Int.neg_mul];omega)
  (by
   have:((m+1:Nat):Int)*pw 16384<=301*pw 16384:=(qat p0).2 (by omega);omega)
 have e1:pw 1=2:=rfl;have e0:pw 0=1:=rfl;have e5:pw 16394=1024*pw 16384:=by rw[show 16394=16384+10 from rfl,qa0,Int.mul_comm];rfl
 have cap:=q33 (m:=16394) (by unfold capE;omega);have l1:=a.lo;have l2:=a.hi;have le0:=qan add_W a.k;obtain⟨s1,s2,s3⟩:=q3w (k:=1) (a:=1) (b:=0) (U:=2*(S.add (qck T) P).lo.val) (V:=2*(S.add (qck T) P).hi.val) add_W a.k (by omega) (by omega) (by omega) (by rw[e1,e0];omega) (by rw[e1,e0];omega) (by omega) (by omega);exact⟨s1,by rw[s2];omega,by rw[s3];omega⟩
theorem q3j (h1:24<=P)(h2:P<=512):((nI 1 1).div (nI 3 3) P).Bt (-pw 16383) (pw 16383):=by
 have b1:=nI_Bt (k:=1) (by decide);have b3:=nI_Bt (k:=3) (by decide);have p0:=qas 16384;have e4:pw 16384=2*pw 16383:=qbr 16383;rw[Int.one_mul]at b1;exact q0k (m:=3*pw 16384) (nI_Wk (by decide)) (nI_Wk (by decide)) (qnd h1 h2) (b1.mono (by omega) (Int.le_refl _)) b3 (by omega) (qa3 (by omega)) (by omega) (by
  rw[<-Int.mul_assoc];exact(qat p0).2 (by omega))
end
theorem q4p {p:Int}(hp:precB p=true):∃P:Nat,gP p 16=(P:Int)/\24<=P/\P<=512:=by
 have hpp:=precB_iff.1 hp;have⟨P,hP⟩:∃P:Nat,P=(gP p 16).toNat:=⟨_,rfl⟩
 refine⟨P,?_,?_,?_⟩<;>unfold gP at*<;> omega
theorem q13 {p:Int}:(log2I p).W:=by
 unfold log2I;split
 ·exact qhg
 ·exact Iv.whole_W
theorem qad3 {p:Int}(hp:precB p=true):(log2I p).Bt (-pw 16394) (pw 16394):=by
 obtain⟨P,hP,h1,h2⟩:=q4p hp;unfold log2I;rw[if_pos hp,hP];exact(qp4 qvi hp (q9r h1 h2 div_W (q3j h1 h2)) (qc7 (qa3 (by omega))) (qa3 (by omega))).1
theorem qai7 (p:Int):CQ prog qsz [.int .i64 p] (log2I p).v:=by
 refine qag rfl fun H=>?_
 cases hp:precB p
 ·have e:log2I p=Iv.whole:=by unfold log2I;rw[hp];rfl
  have hp':p<8\/512<p:=by
   rcases Int.lt_or_le p 8 with h|h
   ·exact .inl h
   ·right;rcases Int.lt_or_le 512 p with h2|h2
    ·exact h2
    ·rw[precB_iff.2 ⟨h,h2⟩]at hp;cases hp
  rw[e];rcases hp' with h|h
  ·simp[h];refine zq qal ?_;simp[lim]
  ·have h8:¬p<8:=by omega
   simp[h,h8];refine zq qal ?_;simp[lim]
 ·have hpp:=precB_iff.1 hp;obtain⟨P,hP,h1,h2⟩:=q4p hp;have g:=qw3 p 16 (by omega) (by omega) (by omega) (by omega);rw[hP]at g;have n8:¬p<8:=by omega
  have n9:¬512<p:=by omega
  have w1:(nI 1 1).W:=nI_Wk (by decide);have w3:(nI 3 3).W:=nI_Wk (by decide);have cd:=qxv P (nI 1 1) (nI 3 3) w1 w3;have cl:=qaa0 P ((nI 1 1).div (nI 3 3) P) div_W (by omega) (by omega) (qzj h1 h2 div_W fun _=>q3j h1 h2);have cr:=qmp (logI P ((nI 1 1).div (nI 3 3) P)) p qvi;have e:log2I p=(logI P ((nI 1 1).div (nI 3 3) P)).rnd p:=by unfold log2I;rw[if_pos hp,hP]
  rw[e];simp only[wk]at g cd cl;simp[n8,n9];refine zq g ?_;simp;refine qaa rfl rfl rfl (qe3 1 (by omega) (by omega)) ?_;simp;refine qaa rfl rfl rfl (qe3 3 (by omega) (by omega)) ?_;simp;refine zq cd ?_;simp;refine zq cl ?_;simp;refine zq cr ?_;simp[lim]
end Go.Abs.W
namespace Go.Abs.W
section
variable {d : Dy} {P : Nat}
theorem qnv (ok:d.Ok)(h:0<d.sgn):d.m≠[]/\d.val=d.absN:=by
 have hm:d.m≠[]:=by
  intro h0;have:=sgn0.2 h0;omega
 have hv:=(qhf ok).1.1 h;have:=qfj d;exact⟨hm,by omega⟩
theorem qakn (ok:d.Ok)(h:0<d.sgn)(h1:24<=P)(h2:P<=512)(hk:((Iv.pt d).rnd P).known=true) :
 pw (d.top+16383).toNat<=((Iv.pt d).rnd P).lo.val/\((Iv.pt d).rnd P).hi.val<=pw (d.top+16384).toNat:=by
 obtain⟨hm,hv⟩:=qnv ok h;obtain⟨b1,b2⟩:=ok.absN_bounds hm;have ht:=ok.top_pos hm;have htop:d.top<=16384:=by have:=ok.top;unfold Dy.top;rw[if_neg hm];exact this
 have hp:=qnd h1 h2;have l:pw (d.top+16383).toNat<=d.val:=by rw[hv];unfold pw;exact Int.ofNat_le.2 b1
 have u:d.val<=pw (d.top+16384).toNat:=by rw[hv];unfold pw;exact Int.ofNat_le.2 (Nat.le_of_lt b2)
 unfold Iv.rnd at hk ⊢;rw[qwl ok,hp,if_pos (by rfl)]at hk ⊢;unfold Iv.made at hk ⊢;split at hk
 ·rename_i h0;rw[if_pos h0];have dn:=qr3 ok hp;have up:=qr2 ok hp;refine⟨(dn.atl (qa3 (by omega)) l).2,?_⟩;by_cases hc:d.top<=16383
  ·exact(up.atu (qa3 (by omega)) u).2
  ·have g:=(up.grid h0.2).2;have e:(d.top+16384).toNat=capE:=by unfold capE;omega
   have:pw capE=((capN:Nat):Int):=rfl;rw[e,this];show(qcd d P true).1.val<=_;omega
 ·cases hk
def lgM (d:Dy)(P:Int):Iv:=((Iv.pt d).rnd P).scl (-d.top)
def lgZ (d:Dy)(P:Int):Iv:=((lgM d P).add (nI (-1) (-1)) P).div ((lgM d P).add (nI 1 1) P) P
theorem qady {r s:Dy × Int}(hk:(Iv.made r s).known=true):r.2=0/\s.2=0/\Iv.made r s=⟨r.1,s.1,false⟩:=by
 unfold Iv.made at hk ⊢;split at hk
 ·rename_i h;exact⟨h.1,h.2,if_pos h⟩
 ·cases hk
theorem qako (ok:d.Ok)(h:0<d.sgn)(h1:24<=P)(h2:P<=512)(hk:(lgM d P).known=true):(lgM d P).Bt (pw 16383) (pw 16384):=by
 obtain⟨hm,hv⟩:=qnv ok h;have ht:=ok.top_pos hm;have htop:d.top<=16384:=by have:=ok.top;unfold Dy.top;rw[if_neg hm];exact this
 have hk2:=hk;unfold lgM Iv.scl at hk2;by_cases kx:((Iv.pt d).rnd P).known=true
 ·rw[if_pos kx]at hk2;have e0:lgM d P=Iv.made (((Iv.pt d).rnd P).lo.scl (-d.top),((Iv.pt d).rnd P).lo.sclE (-d.top)) (((Iv.pt d).rnd P).hi.scl (-d.top),((Iv.pt d).rnd P).hi.sclE (-d.top)):=by
   unfold lgM Iv.scl;rw[if_pos kx]
  obtain⟨a,b⟩:=qakn ok h h1 h2 kx;obtain⟨s1,s2,e⟩:=qady hk2;obtain⟨o1,o2⟩:=qai qhg kx;have⟨A,hA⟩:∃A:Nat,A=(-d.top).toNat:=⟨_,rfl⟩
  have⟨B,hB⟩:∃B:Nat,B=d.top.toNat:=⟨_,rfl⟩
  have v1:=qnm (k:=-d.top) (a:=A) (b:=B) o1 (by omega) s1;have v2:=qnm (k:=-d.top) (a:=A) (b:=B) o2 (by omega) s2;have pB:=qas B;have pA:=qas A;refine⟨hk,?_,?_⟩
  ·refine(qat pB).1 ?_;rw[e0,e];show _<=(((Iv.pt d).rnd P).lo.scl (-d.top)).val*pw B;rw[v1,<-qa0,show 16383+B=(d.top+16383).toNat+A by omega,qa0];exact(qat pA).2 a
  ·refine(qat pB).1 ?_;rw[e0,e];show(((Iv.pt d).rnd P).hi.scl (-d.top)).val*pw B<=_;rw[v2,<-qa0,show 16384+B=(d.top+16384).toNat+A by omega,qa0];exact(qat pA).2 b
 ·rw[if_neg kx]at hk2;cases hk2
theorem qafu (ok:d.Ok)(h:0<d.sgn)(h1:24<=P)(h2:P<=512)(hk:(lgM d P).known=true):(lgZ d P).Bt (-pw 16383) (pw 16383):=by
 have b:=qako ok h h1 h2 hk;have hp:=qnd h1 h2;have b1:=nI_Bt (k:=1) (by decide);have bn:=nI_Bt (k:=-1) (by decide);have w1:(nI 1 1).W:=nI_Wk (by decide);have wn:(nI (-1) (-1)).W:=nI_Wk (by decide);have wm:(lgM d P).W:=qie;have e4:pw 16384=2*pw 16383:=qbr 16383;have p0:=qas 16383;have x1:=q03 (E:=-pw 16383) (F:=pw 16383) wm wn hp b bn (qc7 (qa3 (by omega))) (qa3 (by omega)) (by omega) (by omega);have x2:=q03 (E:=3*pw 16383) (F:=pw 16385) wm w1 hp b b1 (qrf (b:=2) (by
  have:2^2<=2^(P:Int).toNat:=Nat.pow_le_pow_right (by omega) (by rw[qhb];omega);have:(2:Nat)^2=4:=rfl;show 3<=_;omega) (by decide) (by unfold capE;omega)) (qa3 (by omega)) (by omega) (by have:pw 16385=2*pw 16384:=qbr 16384;omega)
 exact q0k (m:=3*pw 16383) add_W add_W hp x1 x2 (by omega) (qa3 (by omega)) (by omega) (Int.mul_le_mul_of_nonneg_left (by omega) (by omega))
theorem q9z (hk:(lgM d P).known=false):(lgZ d P).known=false:=by
 have e:(lgM d P).add (nI (-1) (-1)) P=Iv.whole:=by unfold Iv.add;rw[hk];rfl
 have e2:∀y:Iv,Iv.whole.div y P=Iv.whole:=fun y=>by
  have:Iv.whole.known=false:=rfl;unfold Iv.div;rw[this];rfl
 unfold lgZ;rw[e,e2];rfl
theorem qahr (ok:d.Ok)(h:0<d.sgn)(h1:24<=P)(h2:P<=512):(lgZ d P).known=true->(lgZ d P).Bt (-pw 16383) (pw 16383):=by
 intro hz;cases hk:(lgM d P).known
 ·rw[q9z hk]at hz;cases hz
 ·exact qafu ok h h1 h2 hk
theorem q90 (ok:d.Ok)(h:0<d.sgn)(h1:24<=P)(h2:P<=512)(ht2:d.top<=16383):(lgM d P).known=true:=by
 obtain⟨hm,hv⟩:=qnv ok h;obtain⟨b1,b2⟩:=ok.absN_bounds hm;have ht:=ok.top_pos hm;have hp:=qnd h1 h2;have l:pw (d.top+16383).toNat<=d.val:=by rw[hv];unfold pw;exact Int.ofNat_le.2 b1
 have u:d.val<=pw (d.top+16384).toNat:=by rw[hv];unfold pw;exact Int.ofNat_le.2 (Nat.le_of_lt b2)
 obtain⟨r1,r2,r3⟩:=qp4 (p:=(P:Int)) ⟨ok.w,ok.w⟩ hp ⟨qwl ok,l,u⟩ (qa3 (by omega)) (qa3 (by omega));have le0:=qan qhg r1.k;have q1:=r1.lo;have q2:=r1.hi;have p0:=qas (d.top+16383).toNat;unfold lgM;by_cases hneg:d.top<=0
 ·have⟨A,hA⟩:∃A:Nat,A=(-d.top).toNat:=⟨_,rfl⟩
  have e0:pw 0=1:=rfl;have cap:=q33 (m:=16384) (by unfold capE;omega);have key:∀v:Int,0<=v->v<=pw (d.top+16384).toNat->(v*pw A).natAbs<capN:=by
   intro v h0 hv;have:v*pw A<=pw 16384:=by
    have:=(qat (qas A)).2 hv;rwa[<-qa0,show(d.top+16384).toNat+A=16384 by omega]at this
   have:=Int.mul_nonneg h0 (Int.le_of_lt (qas A));omega
  exact(q3w (k:=-d.top) (a:=A) (b:=0) qhg r1.k (by omega) (by omega) (by omega) (by rw[e0,Int.mul_one]) (by rw[e0,Int.mul_one]) (key _ (by omega) (by omega)) (key _ (by omega) (by omega))).1
 ·have⟨B,hB⟩:∃B:Nat,B=d.top.toNat:=⟨_,rfl⟩
  have e0:pw 0=1:=rfl;have hle:pw (B+P)<=pw (d.top+16383).toNat:=pw_le (by omega);obtain⟨U,hU⟩:=qio r2 (c:=B) (by rw[qhb];omega);obtain⟨V,hV⟩:=qio r3 (c:=B) (by rw[qhb];omega);have cap:=q33 (m:=16384) (by unfold capE;omega);have pB:=qas B;have key:∀v w:Int,0<=v->v<=pw (d.top+16384).toNat->v=pw B*w->w.natAbs<capN:=by
   intro v w h0 hv he;rw[he,Int.mul_comm,show(d.top+16384).toNat=16384+B by omega,qa0]at hv;have h3:=(qat pB).1 hv;rw[he,Int.mul_comm]at h0;have h4:=Int.nonneg_of_mul_nonneg_left h0 pB;omega
  exact(q3w (k:=-d.top) (a:=0) (b:=B) (U:=U) (V:=V) qhg r1.k (by omega) (by omega) (by omega) (by rw[e0,Int.mul_one,hU,Int.mul_comm]) (by rw[e0,Int.mul_one,hV,Int.mul_comm]) (key _ _ (by omega) (by omega) hU) (key _ _ (by omega) (by omega) hV)).1
end
theorem qaft {p:Int}(hp:precB p=true):∃P:Nat,gP p 40=(P:Int)/\24<=P/\P<=512:=by
 have hpp:=precB_iff.1 hp;have⟨P,hP⟩:∃P:Nat,P=(gP p 40).toNat:=⟨_,rfl⟩
 refine⟨P,?_,?_,?_⟩<;>unfold gP at*<;> omega
theorem lgI_W {d:Dy}{p:Int}:(lgI d p).W:=by
 unfold lgI;split
 ·exact⟨Dy.zero_W,Dy.zero_W⟩
 ·exact qhg
theorem qafv {d:Dy}{p:Int}{P:Nat}(h1:¬d.cmp (nD 1)=0)(hP:gP p 40=(P:Int)):lgI d p=((logI P (lgZ d P)).add ((nI d.top d.top).mul (log2I P) P) P).rnd p:=by
 unfold lgI;rw[if_neg h1];simp only[hP];rfl
theorem qafw {d:Dy}{p:Int}(ok:d.Ok)(h:0<d.sgn)(hp:precB p=true)(ht2:d.top<=16383):(lgI d p).Bt (-pw 16416) (pw 16416):=by
 obtain⟨hm,_⟩:=qnv ok h;have ht:=ok.top_pos hm;by_cases hc:d.cmp (nD 1)=0
 ·unfold lgI;rw[if_pos hc];have p0:=qas 16416;have k:(Iv.mk Dy.zero Dy.zero false).known=true:=qbd Dy.zero_ok Dy.zero_ok (Int.le_refl _);exact⟨k,by show _<=Dy.zero.val;rw[qec];omega,by show Dy.zero.val<=_;rw[qec];omega⟩
 ·obtain⟨P,hP,h1,h2⟩:=qaft hp;rw[qafv hc hP];have z:=qafu ok h h1 h2 (q90 ok h h1 h2 ht2);have hpP:=qnd h1 h2;have a:=q9r h1 h2 div_W z;have b:=qad3 hpP;have p0:=qas 16384;have e5:pw 16399=32768*pw 16384:=by rw[show 16399=16384+15 from rfl,qa0,Int.mul_comm];rfl
  have n1:d.top*pw 16384<=32768*pw 16384:=(qat p0).2 (by omega);have n2:(-32768)*pw 16384<=d.top*pw 16384:=(qat p0).2 (by omega);have n:=(nI_Bt (k:=d.top) (by omega)).mono (show -pw 16399<=_ by omega) (show _<=pw 16399 by omega);have m:=qzf (c:=pw 16410) (nI_Wk (by omega)) q13 hpP n b (qa3 (by omega)) (by rw[<-qa0,<-qa0];exact pw_le (by omega));have e6:pw 16416=64*pw 16410:=by rw[show 16416=16410+6 from rfl,qa0,Int.mul_comm];rfl
  have e7:pw 16394<=pw 16410:=pw_le (by omega);have p1:=qas 16410;have s:=q03 (E:=-pw 16416) (F:=pw 16416) qvi mul_W hpP a m (qc7 (qa3 (by omega))) (qa3 (by omega)) (by omega) (by omega);exact(qp4 add_W hp s (qc7 (qa3 (by omega))) (qa3 (by omega))).1
theorem qp7 (d:Dy)(p:Int)(ok:d.Ok)(h:0<d.sgn)(hp:precB p=true):CQ prog qm8 [d.v,.int .i64 p] (lgI d p).v:=by
 refine qag rfl fun H=>?_
 obtain⟨hm,_⟩:=qnv ok h;have ht:=ok.top_pos hm;have htop:d.top<=16384:=by have:=ok.top;unfold Dy.top;rw[if_neg hm];exact this
 have hpp:=precB_iff.1 hp;have c:=qmq 1 (by omega) (by omega);rw[<-show nD 1=Dy.of (decide ((1:Int)<0)) (1:Int).natAbs 0 from rfl]at c;have t:=qit d ok.w;have pt:=qif d ok.w;rw[ok.valid]at t pt;rw[if_pos rfl]at t pt;simp;refine zq c ?_;simp;refine qaa rfl rfl rfl (qd7 d (nD 1) ok.w (nD_ok (by omega)).w) ?_;by_cases hc:d.cmp (nD 1)=0
 ·simp[hc,lgI,Dy.zero,lim]
 ·obtain⟨P,hP,h1,h2⟩:=qaft hp;have g:=qw3 p 40 (by omega) (by omega) (by omega) (by omega);rw[hP]at g;have e1:IntKind.i64.wrap (-d.top)=-d.top:=by rw[wrap_i64]<;>omega
  have rc:=qmp (Iv.pt d) P (pt_W ok.w);have sc:=qkb ((Iv.pt d).rnd P) (-d.top) qhg;have wm:(lgM d P).W:=qie;have c1:=qe3 1 (by omega) (by omega);have cn:=qe3 (-1) (by omega) (by omega);have ct:=qe3 d.top (by omega) (by omega);have w1:(nI 1 1).W:=nI_Wk (by decide);have wn:(nI (-1) (-1)).W:=nI_Wk (by decide);have wt:(nI d.top d.top).W:=nI_Wk (by omega);have a1:=qn6 P (lgM d P) (nI (-1) (-1)) wm wn;have a2:=qn6 P (lgM d P) (nI 1 1) wm w1;have dv:=qxv P ((lgM d P).add (nI (-1) (-1)) P) ((lgM d P).add (nI 1 1) P) add_W add_W;have wz:(lgZ d P).W:=div_W;have lc:=qaa0 P (lgZ d P) wz (by omega) (by omega) (qzj h1 h2 wz (qahr ok h h1 h2));have l2:=qai7 P;have ml:=q2m P (nI d.top d.top) (log2I P) wt q13;have ad:=qn6 P (logI P (lgZ d P)) ((nI d.top d.top).mul (log2I P) P) qvi mul_W;have rf:=qmp ((logI P (lgZ d P)).add ((nI d.top d.top).mul (log2I P) P) P) p add_W;rw[qafv hc hP];rw[show((Iv.pt d).rnd P).scl (-d.top)=lgM d P from rfl]at sc
  rw[show((lgM d P).add (nI (-1) (-1)) P).div ((lgM d P).add (nI 1 1) P) P=lgZ d P from rfl]at dv;generalize lgZ d P=Z at *
  generalize lgM d P=M at *
  simp only[wk]at g a1 a2 dv lc ml ad;simp[hc];refine zq g ?_;simp;refine zq t ?_;simp;refine zq pt ?_;simp;refine zq rc ?_;simp[e1];refine zq sc ?_;simp;refine zq cn ?_;simp;refine zq a1 ?_;simp;refine zq c1 ?_;simp;refine zq a2 ?_;simp;refine zq dv ?_;simp;refine zq lc ?_;simp;refine zq ct ?_;simp;refine zq l2 ?_;simp;refine zq ml ?_;simp;refine zq ad ?_;simp;refine zq rf ?_;simp[lim]
theorem qacb (x:Iv)(p:Int)(w:x.W):CQ prog qug [x.v,.int .i64 p] (x.log p).v:=by
 refine qag rfl fun H=>?_
 have f:=qaam x p w;simp;refine zq f ?_;cases hk:x.known
 ·simp;refine zq qal ?_;simp[Iv.log,hk,lim]
 ·obtain⟨o1,o2⟩:=qai w hk;have s:=qjs x.lo o1.w;rw[o1.valid,if_pos rfl]at s;have le0:=qan w hk;cases hp:precB p
  ·simp;refine zq qal ?_;simp[Iv.log,hp,lim]
  ·simp;refine zq s ?_;by_cases h0:0<x.lo.sgn
   ·have h0':¬x.lo.sgn<=0:=by omega
    have h2:0<x.hi.sgn:=(qhf o2).1.2 (by have:=(qhf o1).1.1 h0;omega);simp[h0'];refine qaa rfl rfl rfl (qp7 x.lo p o1 h0 hp) ?_;simp;refine qaa rfl rfl rfl (qp7 x.hi p o2 h2 hp) ?_;simp;refine qaa rfl rfl rfl (q5a (lgI x.lo p) (lgI x.hi p)) ?_;simp[Iv.log,hk,hp,h0,lim]
   ·have h0':x.lo.sgn<=0:=by omega
    simp[h0'];refine zq qal ?_;simp[Iv.log,h0,lim]
end Go.Abs.W
namespace Go.Abs.W
theorem q2l {a b:Iv}(wa:a.W)(wb:b.W):(endsI a b).W:=by
 unfold endsI;split
 ·exact Iv.whole_W
 ·exact⟨wa.lo,wb.hi⟩
end Go.Abs.W
