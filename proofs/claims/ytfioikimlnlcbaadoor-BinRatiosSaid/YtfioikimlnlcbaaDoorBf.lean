/- Parts of the proof: FpBr6, FpBr7, FpBr8. -/
import Derived.Test.YtfioikimlnlcbaaDoorBd
import Derived.Test.YtfioikimlnlcbaaDoorBe
import Derived.Test.YtfioikimlnlcbaaDoorFe
import Derived.Test.YtfioikimlnlcbaaDoorBc
import Derived.Test.YtfioikimlnlcbaaDoorFf
namespace Go.Abs.W
set_option maxRecDepth 20000
theorem qyy (G:Heap)(b:Bool):frzV G (.bool b)=some (.bool b,G):=rfl
theorem qyx (G:Heap)(k:IntKind)(i:Int):frzV G (.int k i)=some (.int k i,G):=rfl
@[simp] theorem q0d {n:Nat}{b:Bool}:(V.bool b).lowB n=true:=rfl
@[simp] theorem q0b {n:Nat}{k:IntKind}{i:Int}:(V.int k i).lowB n=true:=rfl
@[simp] theorem q0a {n:Nat}{l:List Nat}:(lim l).lowB n=true:=rfl
theorem Out.frz3 {H0 H:Heap}{v:V}{z:Nat}{l:List V}(h:Out H0 H v z l):∃H',H0 <+: H'/\frzC H v=some (.sl l,H')/\∀H2,H' <+: H2->frzC H2 v=some (.sl l,H2):=by
 rcases h.val with ⟨h1,h2⟩|⟨b,blk,h1,h2,h3,h4,h5⟩
 ·subst h1;subst h2;exact⟨H,h.pre,rfl,fun _ _=>rfl⟩
 ·subst h2;have hb:=(List.getElem?_eq_some_iff.1 h3).1;refine⟨H.set b (some ⟨z,blk,true,false⟩),qar h.pre h1,?_,fun H2 hp=>?_⟩
  ·simp[h3,h4,h5]
  ·have:H2[b]?=some (some ⟨z,blk,true,false⟩):=getP2 hp (List.getElem?_set_self hb);simp[this,h4,h5]
def endM (n d p:Nat):Nat:=n*2^endI n d p/d
def endE (n d p:Nat):Int:=-(endI n d p:Int)+((bitL (endM n d p)-p:Nat):Int)
def endX (n d p:Nat):Bool:=decide (n*2^endI n d p%d=0)&&decide (endM n d p%2^(bitL (endM n d p)-p)=0)
def endLo (n d p:Nat):Dy:=Dy.of false (endM n d p/2^(bitL (endM n d p)-p)) (endE n d p)
def endHi (n d p:Nat):Dy:=if endX n d p=true then endLo n d p else Dy.of false (endM n d p/2^(bitL (endM n d p)-p)+1) (endE n d p)
set_option maxHeartbeats 4000000 in
theorem qvr (n d p:Nat)(hn0:0<n)(hn:n<=1073741824)(hd:0<d)(hd2:d<=1073741824)(h8p:8<=p)(hp:p<=512) :
 CQ prog qld [.int .u64 n,.int .u64 d,.int .i64 p] (.tup [(endLo n d p).v,(endHi n d p).v]):=by
 refine qai rfl fun H=>?_
 have hl:∀k,¬(H.length+k<H.length):=by intro k;omega
 have hl0:¬(H.length<H.length):=by omega
 simp;have⟨H0,hH0⟩:∃H0,H0=H++[some ⟨3,[.agg [.bool false,.nil,.int .i64 0]],false,true⟩,some ⟨3,[.agg [.bool false,.nil,.int .i64 0]],false,true⟩,some ⟨1,[],true,true⟩]:=⟨_,rfl⟩
 rw[<-hH0];have hpre:H <+: H0:=by rw[hH0];exact List.prefix_append _ _
 have q6:H0[H.length]?=some (some ⟨3,[.agg [.bool false,.nil,.int .i64 0]],false,true⟩):=by rw[hH0];simp
 have q7:H0[H.length+1]?=some (some ⟨3,[.agg [.bool false,.nil,.int .i64 0]],false,true⟩):=by rw[hH0];simp
 have q8:H0[H.length+2]?=some (some ⟨1,[],true,true⟩):=by rw[hH0];simp
 refine qxg n d (H.length+2) hn hd hd2 q8 (by simp) (by simp) (by simp) (by simp) (by simp) ?_;intro E1 H1 hp1 a0 a1 a2 a6 a7 a10 a8 a9;simp at a1 a2 a6 a7 a10;simp;refine qxf n d p hn0 hn hd hd2 hp a1 a2 a8 a9 a10 ?_;intro E2 hI hI2 b2 b6 b7 b8 b9 b10;rw[a2]at b2;rw[a6]at b6;rw[a7]at b7;have hML:(qad (endM n d p)).length<=1000/\bitL (endM n d p)<=600:=by
  have⟨B,hB⟩:∃B,B=600:=⟨_,rfl⟩
  have h1:endM n d p<2^B:=by
   unfold endM;refine Nat.lt_of_le_of_lt (Nat.div_le_self _ _) ?_;have h3:n*2^endI n d p<2^31*2^endI n d p:=Nat.mul_lt_mul_of_pos_right (by omega) (Nat.two_pow_pos _);rw[<-Nat.pow_add]at h3;exact Nat.lt_of_lt_of_le h3 (Nat.pow_le_pow_right (by omega) (by omega))
  exact⟨Nat.le_trans (qdw (k:=20) h1 (by omega)) (by omega),Nat.le_trans (qa6 h1) (by omega)⟩
 obtain⟨hM1,hM2⟩:=hML;unfold endHi endLo endX endE;have hMe:n*2^endI n d p/d=endM n d p:=rfl;rw[hMe]at hI b8;have⟨R,hR⟩:∃R,R=n*2^endI n d p%d:=⟨_,rfl⟩
 rw[<-hR]at b9 ⊢;have⟨I,hIe⟩:∃I,I=endI n d p:=⟨_,rfl⟩
 rw[<-hIe]at hI2 b10 ⊢;have⟨M,hM⟩:∃M,M=endM n d p:=⟨_,rfl⟩
 rw[<-hM]at hI b8 hM1 hM2 ⊢;clear hM hIe hR hMe;have⟨low,hlow⟩:∃low,low=bitL M-p:=⟨_,rfl⟩
 rw[<-hlow];have⟨X,hX⟩:∃X,X=(decide (R=0)&&decide (M%2^low=0)):=⟨_,rfl⟩
 rw[<-hX];have hT:M/2^low<2^p:=by
  rw[Nat.div_lt_iff_lt_mul (Nat.two_pow_pos _),<-Nat.pow_add,show p+low=bitL M by omega];exact qhb M
 have bt:=qm9 (qad M) (by omega) (qal _);rw[qah]at bt;have w1:IntKind.i64.wrap ((bitL M:Int)-p)=(low:Nat):=by rw[wrap_i64]<;>omega
 simp[b8];refine zq bt ?_;simp[b2,b9,w1];have⟨J,hJ⟩:∃J,J=(p+31)/32:=⟨_,rfl⟩
 refine qxe M low p J hM1 (by omega) hp hT hJ (by simp[b2]) (by simp[b8]) (by simp) (by simp) (by simp) ?_;intro E3 H3 o3 c6 c7 c8 c10 c13 c14;simp[b6]at c6;simp[b7]at c7;simp[b8]at c8;simp[b10]at c10;simp at c13 c14;simp;refine qxd M low (decide (R=0)) hM1 (by omega) (by simp[c8]) (by simp[c13]) (by simp[c14]) (by simp) ?_;intro E4 d6 d7 d10 d13 d15 d14;simp[c6]at d6;simp[c7]at d7;simp[c10]at d10;simp[c13]at d13;simp at d15;rw[<-d15]at o3;have hTJ:M/2^low<4294967296^J:=by
  rw[pow32];exact Nat.lt_of_lt_of_le hT (Nat.pow_le_pow_right (by omega) (by omega))
 have hdv:natV (digs J (M/2^low))=M/2^low:=by rw[qm4,Nat.mod_eq_of_lt hTJ]
 have hne:digs J (M/2^low)≠[]:=by
  intro h;have:=qgw (k:=J) (n:=M/2^low);rw[h]at this;simp at this;omega
 obtain⟨H5,k1,k2,k3⟩:=o3.frz3;have⟨L,hL⟩:∃L,L=digs J (M/2^low):=⟨_,rfl⟩
 have hLi:Li L:=by rw[hL];exact qpv
 have hLl:L.length=J:=by rw[hL,qgw]
 rw[<-hL]at hdv hne k2 k3;have⟨T,hT3⟩:∃T,T=M/2^low:=⟨_,rfl⟩
 rw[<-hT3]at hdv ⊢;have wE:IntKind.i64.wrap (-(I:Int)+low)=-(I:Int)+(low:Nat):=by rw[wrap_i64]<;>omega
 have mA:=qqq false L (-(I:Int)+(low:Nat)) (by omega) hLi (by omega) (by omega);rw[hdv]at mA;have hfv:∀G,frzV G (E4 15)=frzC G (E4 15):=fun G=>qqu o3 G
 have pr1:prep prog qg4 H3 [.bool false,E4 15,.int .i64 (-(I:Int)+(low:Nat))]=some ([.bool false,lim L,.int .i64 (-(I:Int)+(low:Nat))],H5):=by
  rw[qg9 rfl];simp[frzVs,hfv,qyy,qyx,k2];rfl
 have hp5:H0 <+: H5:=hp1.trans k1;have q65:=getP2 hp5 q6;have q75:=getP2 hp5 q7;have l65:=(List.getElem?_eq_some_iff.1 q65).1;have l75:=(List.getElem?_eq_some_iff.1 q75).1;simp[d10,d13,wE];refine qci rfl rfl pr1 ⟨_,_,mA H5,fun h=>by simp at h,?_⟩;rw[<-hX]at d14;have⟨b,hb⟩:∃b,b=H.length:=⟨_,rfl⟩
 rw[<-hb]at q65 q75 l65 l75 d6 d7;have s6:∀(l:List (Option Blk)),(H5++l)[b]?=some (some ⟨3,[.agg [.bool false,.nil,.int .i64 0]],false,true⟩):=fun l=>getP2 (List.prefix_append _ _) q65
 have s7:∀(l:List (Option Blk)) (X:Option Blk),((H5++l).set b X)[b+1]?=some (some ⟨3,[.agg [.bool false,.nil,.int .i64 0]],false,true⟩):=fun l X=>by
  rw[List.getElem?_set_ne (by omega)];exact getP2 (List.prefix_append _ _) q75
 have r7:∀(l:List (Option Blk)) (X Y:Option Blk),(((H5++l).set b X).set (b+1) Y)[b+1]?=some Y:=fun l X Y=>List.getElem?_set_self (by simp;omega)
 have r6:∀(l:List (Option Blk)) (X Y:Option Blk),(((H5++l).set b X).set (b+1) Y)[b]?=some X:=fun l X Y=>by
  rw[List.getElem?_set_ne (by omega)];exact List.getElem?_set_self (by simp;omega)
 have tk:∀(l:List (Option Blk)) (X Y:Option Blk),(((H5++l).set b X).set (b+1) Y).take b=H:=fun l X Y=>by
  rw[List.take_set_of_le (by omega),List.take_set_of_le (by omega),hb];exact qbm ((hpre.trans hp5).trans (List.prefix_append _ _))
 have x5:¬H5.length<b:=by omega
 have x6:¬b+1<b:=by omega
 have x7:¬b<b:=by omega
 have x8:¬H5.length=b:=by omega
 rw[<-hb]at hl hl0 ⊢;simp[d6,d7,d14,hl,x5];have⟨Bx,hBx⟩:∃Bx:List (Option Blk),Bx=[some ⟨3,[(Dy.of false T (-(I:Int)+(low:Nat))).v],false,true⟩]:=⟨_,rfl⟩
 simp only[Dy.v]at hBx;rw[<-hBx];cases X
 ·simp;have pr2:prep prog qg3 (H5++Bx) [E4 15]=some ([lim L],H5++Bx):=by
   rw[qg9 rfl];simp[frzVs,hfv,k3 (H5++Bx) (List.prefix_append _ _)];rfl
  refine qci rfl rfl pr2 ⟨_,_,qvl L (by omega) hne hLi _,fun _=>List.prefix_refl _,?_⟩;have mB:=qqq false (nextL L) (-(I:Int)+(low:Nat)) (by have:=qny (l:=L);omega) (qqo hLi) (by omega) (by omega);rw[show natV (nextL L)=T+1 by rw[qnx hLi,hdv]]at mB;simp[d10,d13,wE];refine zq mB ?_;simp[d6,d7,hl,x7,s6,s7,r6,r7,tk]
 ·simp[x8,apart,s6,s7,r6,r7,tk]
end Go.Abs.W
namespace Go.Abs.W
set_option maxHeartbeats 4000000
set_option maxRecDepth 20000
def enc4 (n d p:Int):Iv:=
 if(rv4 n d&&prB p)=true then
  (if n=0 then⟨⟨false,[],0⟩,⟨false,[],0⟩,false⟩else
   if n<0 then⟨(endHi n.natAbs d.toNat p.toNat).neg',(endLo n.natAbs d.toNat p.toNat).neg',false⟩
   else⟨endLo n.natAbs d.toNat p.toNat,endHi n.natAbs d.toNat p.toNat,false⟩)
 else Iv.whole
theorem qwh {n:Nat}{e:Int}:(Dy.of false n e).m=[]->(Dy.of false n e).neg=false:=by
 intro _;unfold Dy.of;split<;>rfl
theorem qol {n d p:Nat}:(endLo n d p).m=[]->(endLo n d p).neg=false:=qwh
theorem qt2 {n d p:Nat}:(endHi n d p).m=[]->(endHi n d p).neg=false:=by
 unfold endHi;split
 ·exact qol
 ·exact qwh
theorem qqd (n d p:Int):CQ prog qij [.agg [.int .i64 n,.int .i64 d],.int .i64 p] (enc4 n d p).v:=by
 refine qai rfl fun H=>?_
 have hl:∀k,¬(H.length+k<H.length):=by intro k;omega
 simp;refine qac rfl rfl rfl (qut n d) ?_;by_cases hr:rv4 n d=true
 case neg=>simp[hr,hl,enc4,Iv.whole,lim]
 by_cases h8:8<=p
 case neg=>
  have h8':p<8:=by omega
  simp[hr,h8',hl,enc4,prB,h8,Iv.whole,lim]
 by_cases h9:p<=512
 case neg=>
  have h8':¬p<8:=by omega
  have h9':512<p:=by omega
  simp[hr,h8',h9',hl,enc4,prB,h9,Iv.whole,lim]
 have h8':¬p<8:=by omega
 have h9':¬512<p:=by omega
 have⟨P,hP⟩:∃P:Nat,p=P:=⟨p.toNat,by omega⟩
 subst hP;have hr':=hr;simp only[rv4,Bool.and_eq_true,decide_eq_true_eq]at hr';obtain⟨⟨⟨⟨r1,r2⟩,r3⟩,r4⟩,-⟩:=hr';have⟨D,hD⟩:∃D:Nat,d=D:=⟨d.toNat,by omega⟩
 subst hD;have hpr:prB (P:Int)=true:=by simp[prB,h8,h9]
 simp[hr,h8',h9',hl];by_cases h0:n=0
 ·simp[h0,enc4,hpr,lim];rw[h0]at hr;simp[hr]
 have⟨N,hN⟩:∃N,N=n.natAbs:=⟨_,rfl⟩
 have wD:IntKind.u64.wrap (D:Int)=D:=by rw[qa1]<;>omega
 have en:=qvr N D P (by omega) (by omega) (by omega) (by omega) (by omega) (by omega);have ng1:=qi0 (endHi N D P) qt2;have ng2:=qi0 (endLo N D P) qol;have he:enc4 n D P=if n<0 then⟨(endHi N D P).neg',(endLo N D P).neg',false⟩else⟨endLo N D P,endHi N D P,false⟩:=by
  simp[enc4,hr,hpr,h0,hN]
 rw[he];have⟨lo,hlo⟩:∃lo,lo=endLo N D P:=⟨_,rfl⟩
 have⟨hi,hhi⟩:∃hi,hi=endHi N D P:=⟨_,rfl⟩
 rw[<-hlo,<-hhi]at en ⊢;rw[<-hhi]at ng1;rw[<-hlo]at ng2;simp[h0];refine qac rfl rfl rfl (qqj n N hN r3 r4) ?_;simp[wD];refine zq en ?_;by_cases hn:n<0
 ·simp[hn,hl];refine zq ng1 ?_;simp;refine zq ng2 ?_;simp[hl]
 ·simp[hn,hl]
theorem qtc {n d p:Nat}(neg up:Bool)(hn:0<n)(hn2:n<=1073741824)(_:0<d)(_:d<=1073741824)(h8:8<=p)(hp:p<=512)(hI:p<=bitL (endM n d p))(hI2:endI n d p<=p+32) :
 (cutR neg (n*2^endI n d p/d) (-(endI n d p:Int)) (decide (n*2^endI n d p%d≠0)) p up).1=Dy.of neg (endM n d p/2^(bitL (endM n d p)-p)+if endX n d p=false/\(neg != up)=true then 1 else 0) (endE n d p):=by
 have hM2:bitL (endM n d p)<=600:=by
  have⟨B,hB⟩:∃B,B=600:=⟨_,rfl⟩
  have h1:endM n d p<2^B:=by
   unfold endM;refine Nat.lt_of_le_of_lt (Nat.div_le_self _ _) ?_;have h3:n*2^endI n d p<2^31*2^endI n d p:=Nat.mul_lt_mul_of_pos_right (by omega) (Nat.two_pow_pos _);rw[<-Nat.pow_add]at h3;exact Nat.lt_of_lt_of_le h3 (Nat.pow_le_pow_right (by omega) (by omega))
  exact Nat.le_trans (qa6 h1) (by omega)
 unfold endE endX;have hMe:n*2^endI n d p/d=endM n d p:=rfl;rw[hMe];have⟨R,hR⟩:∃R,R=n*2^endI n d p%d:=⟨_,rfl⟩
 rw[<-hR];have⟨I,hIe⟩:∃I,I=endI n d p:=⟨_,rfl⟩
 rw[<-hIe]at hI2 ⊢;have⟨M,hM⟩:∃M,M=endM n d p:=⟨_,rfl⟩
 rw[<-hM]at hI hM2 ⊢;obtain⟨c1,c2⟩:=qqy (neg:=neg) (m:=M) (e:=-(I:Int)) (more:=decide (R≠0)) (p:=p) (up:=up) hI (by omega) (by omega);rw[c2];simp only[cutQ];rw[c1]
 congr 2
 by_cases h1:R=0<;>by_cases h2:M%2^(bitL M-p)=0<;>cases(neg != up)<;>simp[h1,h2]
theorem qq5 {n d p:Nat}(hn:0<n)(hd:0<d)(hd2:d<=1073741824):p<=bitL (endM n d p)/\endI n d p<=p+32:=by
 have key:∀f i,i+f=p+32->p<=bitL (n*2^efI n d p f i/d)/\efI n d p f i<=p+32:=by
  intro f;induction f with
  |zero=>intro i h;exact⟨qk2 hn hd hd2 (by unfold efI;omega),by unfold efI;omega⟩
  |succ f ih=>
   intro i h;unfold efI;split
   ·exact⟨by assumption,by omega⟩
   ·exact ih (i+1) (by omega)
 exact key (p+32) 0 (by omega)
theorem qvi (n d p:Int):ratB n d p=enc4 n d p:=by
 unfold ratB enc4;by_cases hc:(rv4 n d&&prB p)=true
 case neg=>rw[if_neg hc,if_neg hc]
 rw[if_pos hc,if_pos hc];have hc':=hc;simp only[rv4,prB,Bool.and_eq_true,decide_eq_true_eq]at hc';obtain⟨⟨⟨⟨⟨r1,r2⟩,r3⟩,r4⟩,-⟩,h8,h9⟩:=hc';have⟨P,hP⟩:∃P:Nat,p=P:=⟨p.toNat,by omega⟩
 subst hP;have⟨D,hD⟩:∃D:Nat,d=D:=⟨d.toNat,by omega⟩
 subst hD;simp only[Int.toNat_natCast];by_cases h0:n=0
 ·subst h0;have hx:((Nm.whole 0).frac (Nm.whole D) P).n=0:=by
   unfold Nm.frac;simp only[Nm.whole];simp
  simp only[ratZ,qz,Nm.cu,hx];rfl
 rw[if_neg h0];have⟨N,hN⟩:∃N,N=n.natAbs:=⟨_,rfl⟩
 rw[<-hN];have wn:(Nm.whole n).n=N:=by rw[hN];rfl
 have wd:(Nm.whole (D:Int)).n=D:=rfl;have we:(Nm.whole n).e=0:=rfl;have wf:(Nm.whole (D:Int)).e=0:=rfl;have ws:((Nm.whole n).neg != (Nm.whole (D:Int)).neg)=decide (n<0):=by
  have:¬(D:Int)<0:=by omega
  simp[Nm.whole,this]
 obtain⟨a1,a2⟩:=qmd r3 r4;obtain⟨b1,b2⟩:=qmd (n:=D) (by omega) r2;obtain⟨f1,f2,f3⟩:=ql1 (a:=Nm.whole n) (b:=Nm.whole D) (p:=P) (by omega) (by omega) (by omega) (by simp[we]) (by simp[wf]);have fb:=qty (a:=Nm.whole n) (b:=Nm.whole D) (p:=P) (by rw[wn];omega) (by rw[wd];omega);obtain⟨e1,e2⟩:=qq5 (n:=N) (d:=D) (p:=P) (by omega) (by omega) (by omega);have⟨k,hk⟩:∃k,k=fracK (Nm.whole n) (Nm.whole D) P:=⟨_,rfl⟩
 have hk2:k<=600:=by rw[hk];unfold fracK;omega
 have fr:(Nm.whole n).frac (Nm.whole D) P=⟨decide (n<0),N*2^k/D,-(k:Int)⟩:=by
  unfold Nm.frac;rw[ws,wn,wd,we,wf,<-hk];simp
 have rs:(Nm.whole n).rest (Nm.whole D) P=decide (N*2^k%D≠0):=by
  unfold Nm.rest;rw[wn,wd,<-hk]
 rw[<-hk,wn,wd]at fb;rw[fr]at f2;have key:∀up,((⟨decide (n<0),N*2^k/D,-(k:Int)⟩:Nm).cu (decide (N*2^k%D≠0)) P up).dy=Dy.of (decide (n<0)) (endM N D P/2^(bitL (endM N D P)-P)+if endX N D P=false/\(decide (n<0) != up)=true then 1 else 0) (endE N D P):=by
  intro up;rw[<-qtc (decide (n<0)) up (by omega) (by omega) (by omega) (by omega) (by omega) (by omega) e1 e2];rw[<-qrp (i:=endI N D P) (k:=k) (by omega) (by omega) e1 (by omega)];have hx0:N*2^k/D≠0:=by intro h;rw[h,qdi]at fb;omega
  obtain⟨c1,c2⟩:=qqy (neg:=decide (n<0)) (m:=N*2^k/D) (e:=-(k:Int)) (more:=decide (N*2^k%D≠0)) (p:=P) (up:=up) (by omega) (by omega) (by simp only at f2;omega);rw[c2];unfold Nm.cu;rw[if_neg hx0];unfold Nm.dy;simp only;rw[c1]
 have hq0:endM N D P/2^(bitL (endM N D P)-P)≠0:=by
  intro h;rw[Nat.div_eq_zero_iff]at h;rcases h with h|h
  ·have:=Nat.two_pow_pos (bitL (endM N D P)-P);omega
  ·have h1:endM N D P≠0:=by intro h;rw[h,qdi]at e1;omega
   have h2:=(qa8 h1).1;have h3:2^(bitL (endM N D P)-P)<=2^(bitL (endM N D P)-1):=Nat.pow_le_pow_right (by omega) (by omega);omega
 have ng:∀q e,q≠0->(Dy.of false q e).neg'=Dy.of true q e:=by
  intro q e hq;unfold Dy.of Dy.neg';rw[if_neg hq,if_neg hq];have:qad (q/2^tz q)≠[]:=by
   intro h;have h1:=limbsOf_eq_nil.1 h;have h2:=tz_le hq;rw[Nat.div_eq_zero_iff]at h1;have:=Nat.two_pow_pos (tz q);omega
  simp[this]
 simp only[ratZ,qz,fr,rs,key];have hlo:endLo N D P=Dy.of false (endM N D P/2^(bitL (endM N D P)-P)) (endE N D P):=rfl;have hhi:endHi N D P=Dy.of false (endM N D P/2^(bitL (endM N D P)-P)+if endX N D P=false then 1 else 0) (endE N D P):=by
  unfold endHi;cases endX N D P<;>simp[hlo]
 by_cases hn:n<0
 ·rw[if_pos hn,hlo,hhi,ng _ _ hq0,ng _ _ (fun h=>hq0 (Nat.eq_zero_of_add_eq_zero_right h))];simp[hn]
 ·rw[if_neg hn,hlo,hhi];simp[hn]
end Go.Abs.W
namespace Go.Abs.W
set_option maxRecDepth 20000
theorem qh1 (d:Dy):CQ prog qlh [d.v] (.bool (decide (20<d.m.length))):=by
 refine qai rfl fun H=>?_
 by_cases h:20<d.m.length
 ·have h':(20:Int)<d.m.length:=by omega
  simp[lim,h,h']
 ·have h':¬(20:Int)<d.m.length:=by omega
  simp[lim,h,h']
def qmo (x y:Iv)(p:Int):Bool:=decide (20<x.lo.m.length) ||decide (20<x.hi.m.length) ||decide (20<y.lo.m.length) ||decide (20<y.hi.m.length) || (decide (128<p)&&decide (p<=512))
theorem qrx (x y:Iv)(p:Int):CQ prog qkf [x.v,y.v,.int .i64 p] (.bool (qmo x y p)):=by
 refine qai rfl fun H=>?_
 have hl:∀k,¬(H.length+k<H.length):=by intro k;omega
 have l1:=qh1 x.lo;have l2:=qh1 x.hi;have l3:=qh1 y.lo;have l4:=qh1 y.hi;unfold qmo;generalize decide (20<x.lo.m.length)=b1 at *
 generalize decide (20<x.hi.m.length)=b2 at *
 generalize decide (20<y.lo.m.length)=b3 at *
 generalize decide (20<y.hi.m.length)=b4 at *
 simp;refine zq l1 ?_;cases b1
 case true=>simp
 simp;refine zq l2 ?_;cases b2
 case true=>simp
 simp;refine zq l3 ?_;cases b3
 case true=>simp
 simp;refine zq l4 ?_;cases b4
 case true=>simp
 by_cases h:128<p
 ·simp[h]
 ·simp[h]
theorem qx2 (n:Nat)(hn:n<2147483648):CQ prog qmu [.int .i64 n] (Dy.of false n 0).v:=by
 refine qai rfl fun H=>?_
 have e1:IntKind.u64.wrap (n:Int)=n:=qan _ (by omega);have e2:¬(n:Int)<0:=by omega
 have e3:=qfj n (by omega);rw[Nat.mod_eq_of_lt (by omega)]at e3;have e4:IntKind.u32.wrap (n:Int)=n:=qas _ (by omega);have e5:qaw .shr .u64 (n:Int) 32=some (.int .u64 ((n/2^32:Nat):Int)):=shr64 n 32 (by omega);rw[Nat.div_eq_of_lt (by omega)]at e5;have e6:IntKind.u32.wrap 0=0:=by decide
 simp[e1,e2,e3,e4,e5,e6];refine qdu rfl rfl (H1:=H++[some ⟨3,[.agg [.bool false,.nil,.int .i64 0]],false,true⟩,some ⟨1,[.int .u32 n,.int .u32 0],true,false⟩]) (vs:=[.bool false,lim [n,0],.int .i64 0]) (by simp[prep,frzVs,frzV];rfl) (Of_cq false [n,0] 0 (by simp) (by intro x hx;simp at hx;omega) (by omega) (by omega)) ?_;have:natV [n,0]=n:=by simp[natV]
 rw[this];simp
theorem qwk (k:Nat)(h:k<2147483648):CQ prog qpj [.int .i64 k] (Dy.of false k 0).v:=by
 refine qai rfl fun H=>?_
 have hl:∀k,¬(H.length+k<H.length):=by intro k;omega
 simp;refine qac rfl rfl rfl (qx2 k h) ?_;simp
theorem qlr (d:Dy):CQ prog qke [d.v] (Iv.v ⟨d,d,false⟩):=by
 refine qai rfl fun H=>?_
 have hl:∀k,¬(H.length+k<H.length):=by intro k;omega
 simp[hl]
theorem ql2 (x y:Iv)(wx:x.W)(wy:y.W):CQ prog qkg [x.v,y.v] (.bool ((x.all&&y.all) ||decide (x=y))):=by
 refine qai rfl fun H=>?_
 have hl:∀k,¬(H.length+k<H.length):=by intro k;omega
 have e:=qsl x y wx wy;generalize decide (x=y)=b at *
 rcases x with ⟨xl,xh,xa⟩;rcases y with ⟨yl,yh,ya⟩;cases xa
 ·simp;refine zq e ?_;simp
 ·cases ya
  ·simp;refine zq e ?_;simp
  ·simp
theorem qp9 (n d p:Int):CQ prog qj5 [.agg [.int .i64 n,.int .i64 d],.int .i64 p] (enc4 n d p).v:=by
 refine qai rfl fun H=>?_
 have hl:∀k,¬(H.length+k<H.length):=by intro k;omega
 simp;refine qac rfl rfl rfl (qqd n d p) ?_;simp[hl]
theorem qo5 (x y:Iv)(wx:x.W)(wy:y.W):CQ prog qjc [x.v,y.v] (.bool (x.ins y)):=by
 refine qai rfl fun H=>?_
 have hl:∀k,¬(H.length+k<H.length):=by intro k;omega
 simp;refine qac rfl rfl rfl (qgz x wx) ?_;cases h1:x.valid
 ·simp[Iv.ins,h1]
 ·simp;refine qac rfl rfl rfl (qgz y wy) ?_;cases h2:y.valid
  ·simp[Iv.ins,h2]
  ·simp;refine qac rfl rfl rfl (qqa x y wx wy) ?_;simp
theorem qop (d:Dy):d.cmp d=0:=by
 unfold Dy.cmp cmpI;split<;>simp
theorem bl1 : bitL (natV [1])=1:=by decide
theorem bl3 : bitL (natV [3])=2:=by decide
theorem quo8 : (qz ((Dy.of false 1 0).nm,(Dy.of false 3 0).nm) 8).lo.dy=⟨false,[85],-8⟩/\(qz ((Dy.of false 1 0).nm,(Dy.of false 3 0).nm) 8).hi.dy=⟨false,[171],-9⟩:=by decide
theorem qsf : CQ prog qkh [] (.bool true):=by
 refine qai rfl fun H=>?_
 have hl:∀k,¬(H.length+k<H.length):=by intro k;omega
 have d1:=qwk 1 (by omega);have d3:=qwk 3 (by omega);have⟨e1,he1⟩:∃e,e=Dy.of false 1 0:=⟨_,rfl⟩
 have⟨e3,he3⟩:∃e,e=Dy.of false 3 0:=⟨_,rfl⟩
 have q8:=quo8;have n1:e1.nm=Nm.whole 1:=by rw[he1];decide
 have n3:e3.nm=Nm.whole 3:=by rw[he3];decide
 have m1:e1=⟨false,[1],0⟩:=by rw[he1];decide
 have m3:e3=⟨false,[3],0⟩:=by rw[he3];decide
 have w1:(Iv.mk e1 e1 false).W:=by rw[m1];exact⟨⟨by intro x hx;simp at hx;omega,by simp⟩,⟨by intro x hx;simp at hx;omega,by simp⟩⟩
 have w3:(Iv.mk e3 e3 false).W:=by rw[m3];exact⟨⟨by intro x hx;simp at hx;omega,by simp⟩,⟨by intro x hx;simp at hx;omega,by simp⟩⟩
 have y1:e1.valid=true:=by rw[m1];simp[Dy.valid,Dy.inR,bl1]
 have y3:e3.valid=true:=by rw[m3];simp[Dy.valid,Dy.inR,bl3]
 have v1:(Iv.mk e1 e1 false).valid=true:=by simp[Iv.valid,y1,qop]
 have v3:(Iv.mk e3 e3 false).valid=true:=by simp[Iv.valid,y3,qop]
 rw[<-he1,<-he3]at q8;rw[<-he1]at d1;rw[<-he3]at d3;clear he1 he3 m1 m3 y1 y3;have s1:(Iv.mk e1 e1 false).sp=⟨e1.nm,e1.nm⟩:=rfl;have s3:(Iv.mk e3 e3 false).sp=⟨e3.nm,e3.nm⟩:=rfl;have dv:=qxs ⟨e1,e1,false⟩ ⟨e3,e3,false⟩ 8 w1 w3 v1 v3 rfl rfl (by omega) (by omega)
  (fun i=>by rw[s1,s3,qoo,n1,n3];exact qpe (by omega) (by omega) (by omega) (by omega) (by omega))
  (by rw[s3,n3];decide)
 rw[s1,s3,qnr,q8.1,q8.2]at dv;have p1:=qlr e1;have p3:=qlr e3;have wr:(Iv.mk ⟨false,[85],-8⟩ ⟨false,[171],-9⟩ false).W:=⟨⟨by intro x hx;simp at hx;omega,by simp⟩,⟨by intro x hx;simp at hx;omega,by simp⟩⟩
 have eq:=ql2 _ _ wr wr;simp only[decide_true,Bool.or_true]at eq;simp;refine zq d1 ?_;simp;refine zq p1 ?_;simp;refine zq d3 ?_;simp;refine zq p3 ?_;simp;refine zq dv ?_;simp;refine qdu rfl rfl (H1:=H++[some ⟨7,[Iv.v ⟨⟨false,[85],-8⟩,⟨false,[171],-9⟩,false⟩],false,true⟩,some ⟨1,[.int .u32 85],true,false⟩,some ⟨1,[.int .u32 171],true,false⟩]) (vs:=[Iv.v ⟨⟨false,[85],-8⟩,⟨false,[171],-9⟩,false⟩,Iv.v ⟨⟨false,[85],-8⟩,⟨false,[171],-9⟩,false⟩]) (by simp[prep,frzVs,frzV,lim];rfl) eq ?_;simp
theorem qy1 (n d p:Int):(enc4 n d p).W:=by
 unfold enc4;split
 case isFalse=>exact⟨⟨by intro x hx;simp[Iv.whole]at hx,by simp[Iv.whole]⟩,⟨by intro x hx;simp[Iv.whole]at hx,by simp[Iv.whole]⟩⟩
 case isTrue hc=>
  simp only[rv4,prB,Bool.and_eq_true,decide_eq_true_eq]at hc;obtain⟨⟨⟨⟨⟨r1,r2⟩,r3⟩,r4⟩,-⟩,h8,h9⟩:=hc;have neg_W:∀{d:Dy},d.W->d.neg'.W:=fun h=>⟨h.li,h.len⟩
  split
  ·exact⟨⟨by intro x hx;simp at hx,by simp⟩,⟨by intro x hx;simp at hx,by simp⟩⟩
  ·rename_i h0;obtain⟨e1,e2⟩:=qq5 (n:=n.natAbs) (d:=d.toNat) (p:=p.toNat) (by omega) (by omega) (by omega);have hq:endM n.natAbs d.toNat p.toNat/2^(bitL (endM n.natAbs d.toNat p.toNat)-p.toNat)<2^p.toNat:=by
    rw[Nat.div_lt_iff_lt_mul (Nat.two_pow_pos _),<-Nat.pow_add,show p.toNat+(bitL (endM n.natAbs d.toNat p.toNat)-p.toNat)=bitL (endM n.natAbs d.toNat p.toNat) by omega];exact qhb _
   have hl:∀x,x<=2^p.toNat->(qad x).length<=1000000:=by
    intro x hx;refine Nat.le_trans (qdw (B:=p.toNat+1) (k:=20) (Nat.lt_of_le_of_lt hx (Nat.pow_lt_pow_right (by omega) (by omega))) (by omega)) (by omega)
   have lo:(endLo n.natAbs d.toNat p.toNat).W:=Dy.of_W (hl _ (Nat.le_of_lt hq));have hi:(endHi n.natAbs d.toNat p.toNat).W:=by
    unfold endHi;split
    ·exact lo
    ·exact Dy.of_W (hl _ hq)
   split
   ·exact⟨neg_W hi,neg_W lo⟩
   ·exact⟨lo,hi⟩
theorem qoz (n d:Int)(x y:Iv)(p:Int)(lx:Li x.lo.m/\Li x.hi.m)(ly:Li y.lo.m/\Li y.hi.m):CQ prog qhc [.agg [.int .i64 n,.int .i64 d],x.v,y.v,.int .i64 p] (.bool true):=by
 refine qai rfl fun H=>?_
 have hl:∀k,¬(H.length+k<H.length):=by intro k;omega
 simp;refine zq qsf ?_;simp;refine qac rfl rfl rfl (qrx x y p) ?_;cases hg:qmo x y p
 case true=>simp
 simp only[qmo,Bool.or_eq_false_iff,decide_eq_false_iff_not]at hg;obtain⟨⟨⟨⟨g1,g2⟩,g3⟩,g4⟩,-⟩:=hg;have wx:x.W:=⟨⟨lx.1,by omega⟩,⟨lx.2,by omega⟩⟩
 have wy:y.W:=⟨⟨ly.1,by omega⟩,⟨ly.2,by omega⟩⟩
 have br:=qug n d p;rw[qvi]at br;have wr:=qy1 n d p;have eq:=ql2 (enc4 n d p) (enc4 n d p) wr wr;simp only[decide_true,Bool.or_true]at eq;have rr:=qp9 n d p;have bi:=qsb x y wx wy;have ri:=qo5 x y wx wy;generalize enc4 n d p=r at *
 generalize x.ins y=b at *
 simp;refine zq br ?_;simp;refine zq rr ?_;simp;refine zq eq ?_;simp;refine zq bi ?_;simp;refine zq ri ?_;simp
end Go.Abs.W
