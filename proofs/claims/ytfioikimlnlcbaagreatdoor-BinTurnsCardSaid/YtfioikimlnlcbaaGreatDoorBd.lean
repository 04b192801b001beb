/- Parts of the proof: FpBw, FpBx, FpBr8a. -/
import Derived.Test.YtfioikimlnlcbaaGreatDoorBc
import Derived.Test.YtfioikimlnlcbaaGreatDoorBa
import Derived.Test.YtfioikimlnlcbaaGreatDoorFe
import Derived.Test.YtfioikimlnlcbaaGreatDoorBa
import Derived.Test.YtfioikimlnlcbaaGreatDoorFg
namespace Go.Abs.W
set_option maxRecDepth 20000
theorem q5m (z:Sp):qstep z z=z:=by
 unfold qstep;rw[Nm.ord_self,Nm.ord_self];simp
theorem qaaa (a b:Nm)(i:Nat):Sp.cor ⟨a,a⟩ ⟨b,b⟩ i=(a,b):=by unfold Sp.cor;split<;>rfl
theorem q78 (a b:Nm)(p:Nat):Sp.quo ⟨a,a⟩ ⟨b,b⟩ p=qz (a,b) p:=by
 have hc:∀i,Sp.cor ⟨a,a⟩ ⟨b,b⟩ i=(a,b):=by intro i;unfold Sp.cor;split<;>rfl
 have:∀i,qacc (Sp.cor ⟨a,a⟩ ⟨b,b⟩) p i=qz (a,b) p:=by
  intro i;induction i with
  |zero=>unfold qacc;rw[hc]
  |succ i ih=>unfold qacc;rw[ih,hc,q5m]
 exact this 3
theorem qik {n:Int}(h1:-1073741824<=n)(h2:n<=1073741824):(Nm.whole n).B/\bitL (Nm.whole n).n<=31:=by
 have hb:(Nm.whole n).n<2^31:=by unfold Nm.whole;simp only;omega
 exact⟨⟨Nat.le_trans (qo2 (k:=3) hb (by omega)) (by omega),by simp[Nm.whole],by simp[Nm.whole]⟩,qax hb⟩
theorem qz1 {n:Nat}{e:Int}{more:Bool}{p:Nat}{out:Bool}(hp:p<=1000)(hn:bitL n<=3000)(he:e<=3000):(bitL (cutQ n e more p out):Int)+(e+cutK n e p)<=16384:=by
 have h1:bitL (cutQ n e more p out)<=p+1:=qax (Nat.lt_of_le_of_lt qw7 (Nat.pow_lt_pow_right (by omega) (by omega)));unfold cutK;omega
theorem q56 {a b:Nm}{p:Nat}(ha:bitL a.n<=1000)(hb:bitL b.n<=1000)(hp:p<=512)(ea:-1000<=a.e/\a.e<=1000)(eb:-1000<=b.e/\b.e<=1000):(a.frac b p).B/\bitL (a.frac b p).n<=3000/\(a.frac b p).e<=3000:=by
 have hk:fracK a b p<=1515:=by unfold fracK;omega
 have⟨K,hK⟩:∃K,K=2515:=⟨_,rfl⟩
 have hn:(a.frac b p).n<2^K:=by
  unfold Nm.frac;simp only;refine Nat.lt_of_le_of_lt (Nat.div_le_self _ _) ?_;refine Nat.lt_of_lt_of_le (Nat.mul_lt_mul_of_pos_right (qbw a.n) (Nat.two_pow_pos _)) ?_;rw[<-Nat.pow_add];exact Nat.pow_le_pow_right (by omega) (by omega)
 have he:(a.frac b p).e=a.e-b.e-fracK a b p:=rfl;exact⟨⟨Nat.le_trans (qo2 (k:=200) hn (by omega)) (by omega),by omega,by omega⟩,Nat.le_trans (qax hn) (by omega),by omega⟩
theorem qaa9 {a b:Nm}{p:Nat}(aB:a.B)(bB:b.B)(ha:bitL a.n<=1000)(hb:bitL b.n<=1000)(hp:p<=512)(ea:-1000<=a.e/\a.e<=1000)(eb:-1000<=b.e/\b.e<=1000)(h0:b.n≠0):QOk (a,b) p:=by
 obtain⟨f1,f2,f3⟩:=q56 ha hb hp ea eb;exact⟨aB,bB,h0,f1,qz1 (by omega) f2 f3,qz1 (by omega) f2 f3⟩
theorem qagi {n d:Int}{p:Nat}(h1:-1073741824<=n)(h2:n<=1073741824)(h3:1<=d)(h4:d<=1073741824)(hp:p<=512):QOk (Nm.whole n,Nm.whole d) p:=by
 obtain⟨a1,a2⟩:=qik h1 h2;obtain⟨b1,b2⟩:=qik (n:=d) (by omega) h4;exact qaa9 a1 b1 (by omega) (by omega) hp (by simp[Nm.whole]) (by simp[Nm.whole]) (by unfold Nm.whole;simp only;omega)
theorem q64 {d:Int}(h:1<=d):(Nm.whole d).sgn=1:=by
 have h1:¬d<0:=by omega
 have h2:¬d=0:=by omega
 simp[Nm.whole,Nm.sgn,h1,h2]
end Go.Abs.W
namespace Go.Abs.W
set_option maxRecDepth 20000
theorem qago {x y:Sp}{p:Nat}(h:∀i,QOk (x.cor y i) p)(hp:p<=1000):(x.quo y p).lo.B/\(x.quo y p).hi.B:=q8d h hp 3
theorem qahn {H:Heap}{b:Nat}{x y:Sp}{p:Nat}(hp:p<=512)(hq:∀i,QOk (x.cor y i) p)(hs:¬(y.lo.sgn<=0/\0<=y.hi.sgn))(g:H[b]?=some (some ⟨1,[.int .i64 p],false,true⟩)) :
 Ev prog (.call qd9 [.sl [x.v,y.v],.ptr b 0 0] H) (.ret (x.quo y p).v H):=by
 have hl:∀k,¬(H.length+k<H.length):=by intro k;omega
 have g':∀G:Heap,(H++G)[b]?=some (some ⟨1,[.int .i64 p],false,true⟩):=fun G=>by rw[List.getElem?_append_left (List.getElem?_eq_some_iff.1 g).1];exact g
 refine qej rfl ?_;simp[g'];refine qab rfl rfl rfl (ql4 x y p (by omega) hq hs) ?_;simp
set_option maxHeartbeats 2000000 in
theorem qah1 (x y:Iv)(p:Nat)(wx:x.W)(wy:y.W)(vx:x.valid=true)(vy:y.valid=true)(ax:x.all=false)(ay:y.all=false)(h8:8<=p)(hp:p<=512)(hq:∀i,QOk (x.sp.cor y.sp i) p)(hs:¬(y.sp.lo.sgn<=0/\0<=y.sp.hi.sgn)) :
 CQ prog q9l [x.v,y.v,.int .i64 p] (Iv.v ⟨(x.sp.quo y.sp p).lo.dy,(x.sp.quo y.sp p).hi.dy,false⟩):=by
 refine qaf rfl fun H=>?_
 have hl:∀k,¬(H.length+k<H.length):=by intro k;omega
 have hprB:prB p=true:=by simp[prB];omega
 have cl:=fun(H':Heap) (g2:H'[H.length+2]?=some (some ⟨1,[.int .i64 p],false,true⟩))=>
  qqa (H:=H') (g:=qd9) (caps:=[.ptr (H.length+2) 0 0]) p [x,y] (by intro z hz;simp at hz;rcases hz with rfl|rfl;exact⟨wx,vx,ax⟩;exact⟨wy,vy,ay⟩) (by simp) (x.sp.quo y.sp p)
   (fun _=>qago hq (by omega)) rfl (fun _=>rfl) (fun _ H2 hpre=>qahn (by omega) hq hs (getP2 hpre g2))
 have pr:∀(H':Heap) b f,H'[b]?=some (some ⟨7,[x.v,y.v],true,true⟩)->prep prog qic H' [.int .i64 p,.fn qd9 f,.ref b 7 0 2]=some ([.int .i64 p,.fn qd9 f,.sl ([x,y].map Iv.v)],H'.set b (some ⟨7,[x.v,y.v],true,false⟩)):=by
  intro H' b f hb;have ff:∀G,frzC G (.fn qd9 f)=some (.fn qd9 f,G):=fun _=>rfl
  rw[qil rfl];simp[frzVs,frzV,hb,ff]
 simp[V.isCell];refine qb6 (args:=[.int .i64 p,.fn qd9 [.ptr (H.length+2) 0 0],.ref (H.length+4) 7 0 2]) rfl rfl (pr _ _ _ ?_) ?_
 ·simp
 refine⟨_,_,cl _ ?_,fun h=>by simp at h,?_⟩
 ·simp
 ·rw[if_pos hprB];simp[hl]
end Go.Abs.W
namespace Go.Abs.W
set_option maxRecDepth 20000
theorem qod (d:Dy):CQ prog qub [d.v] (.bool (decide (20<d.m.length))):=by
 refine qaf rfl fun H=>?_
 by_cases h:20<d.m.length
 ·have h':(20:Int)<d.m.length:=by omega
  simp[lim,h,h']
 ·have h':¬(20:Int)<d.m.length:=by omega
  simp[lim,h,h']
def qwd (x y:Iv)(p:Int):Bool:=decide (20<x.lo.m.length) ||decide (20<x.hi.m.length) ||decide (20<y.lo.m.length) ||decide (20<y.hi.m.length) || (decide (128<p)&&decide (p<=512))
theorem q5s (x y:Iv)(p:Int):CQ prog qsl [x.v,y.v,.int .i64 p] (.bool (qwd x y p)):=by
 refine qaf rfl fun H=>?_
 have hl:∀k,¬(H.length+k<H.length):=by intro k;omega
 have l1:=qod x.lo;have l2:=qod x.hi;have l3:=qod y.lo;have l4:=qod y.hi;unfold qwd;generalize decide (20<x.lo.m.length)=b1 at *
 generalize decide (20<x.hi.m.length)=b2 at *
 generalize decide (20<y.lo.m.length)=b3 at *
 generalize decide (20<y.hi.m.length)=b4 at *
 simp;refine zq l1 ?_;cases b1
 case true=>simp
 simp;refine zq l2 ?_;cases b2
 case true=>simp
 simp;refine zq l3 ?_;cases b3
 case true=>simp
 simp;refine zq l4 ?_;cases b4
 case true=>simp
 by_cases h:128<p
 ·simp[h]
 ·simp[h]
theorem qaik (n:Nat)(hn:n<2147483648):CQ prog qom [.int .i64 n] (Dy.of false n 0).v:=by
 refine qaf rfl fun H=>?_
 have e1:IntKind.u64.wrap (n:Int)=n:=qag _ (by omega);have e2:¬(n:Int)<0:=by omega
 have e3:=qfn n (by omega);rw[Nat.mod_eq_of_lt (by omega)]at e3;have e4:IntKind.u32.wrap (n:Int)=n:=qaq _ (by omega);have e5:qa3 .shr .u64 (n:Int) 32=some (.int .u64 ((n/2^32:Nat):Int)):=shr64 n 32 (by omega);rw[Nat.div_eq_of_lt (by omega)]at e5;have e6:IntKind.u32.wrap 0=0:=by decide
 simp[e1,e2,e3,e4,e5,e6];refine qau rfl rfl (H1:=H++[some ⟨3,[.agg [.bool false,.nil,.int .i64 0]],false,true⟩,some ⟨1,[.int .u32 n,.int .u32 0],true,false⟩]) (vs:=[.bool false,lim [n,0],.int .i64 0]) (by simp[prep,frzVs,frzV];rfl) (Of_cq false [n,0] 0 (by simp) (by intro x hx;simp at hx;omega) (by omega) (by omega)) ?_;have:natV [n,0]=n:=by simp[natV]
 rw[this];simp
theorem qafb (k:Nat)(h:k<2147483648):CQ prog qsn [.int .i64 k] (Dy.of false k 0).v:=by
 refine qaf rfl fun H=>?_
 have hl:∀k,¬(H.length+k<H.length):=by intro k;omega
 simp;refine qab rfl rfl rfl (qaik k h) ?_;simp
theorem qpe (d:Dy):CQ prog qsk [d.v] (Iv.v ⟨d,d,false⟩):=by
 refine qaf rfl fun H=>?_
 have hl:∀k,¬(H.length+k<H.length):=by intro k;omega
 simp[hl]
theorem q6c (x y:Iv)(wx:x.W)(wy:y.W):CQ prog qsm [x.v,y.v] (.bool ((x.all&&y.all) ||decide (x=y))):=by
 refine qaf rfl fun H=>?_
 have hl:∀k,¬(H.length+k<H.length):=by intro k;omega
 have e:=q6t x y wx wy;generalize decide (x=y)=b at *
 rcases x with ⟨xl,xh,xa⟩;rcases y with ⟨yl,yh,ya⟩;cases xa
 ·simp;refine zq e ?_;simp
 ·cases ya
  ·simp;refine zq e ?_;simp
  ·simp
theorem qz6 (d:Dy):d.cmp d=0:=by
 unfold Dy.cmp cmpI;split<;>simp
theorem bl1 : bitL (natV [1])=1:=by decide
theorem bl3 : bitL (natV [3])=2:=by decide
theorem quo8 : (qz ((Dy.of false 1 0).nm,(Dy.of false 3 0).nm) 8).lo.dy=⟨false,[85],-8⟩/\(qz ((Dy.of false 1 0).nm,(Dy.of false 3 0).nm) 8).hi.dy=⟨false,[171],-9⟩:=by decide
theorem q6n : CQ prog qso [] (.bool true):=by
 refine qaf rfl fun H=>?_
 have hl:∀k,¬(H.length+k<H.length):=by intro k;omega
 have d1:=qafb 1 (by omega);have d3:=qafb 3 (by omega);have⟨e1,he1⟩:∃e,e=Dy.of false 1 0:=⟨_,rfl⟩
 have⟨e3,he3⟩:∃e,e=Dy.of false 3 0:=⟨_,rfl⟩
 have q8:=quo8;have n1:e1.nm=Nm.whole 1:=by rw[he1];decide
 have n3:e3.nm=Nm.whole 3:=by rw[he3];decide
 have m1:e1=⟨false,[1],0⟩:=by rw[he1];decide
 have m3:e3=⟨false,[3],0⟩:=by rw[he3];decide
 have w1:(Iv.mk e1 e1 false).W:=by rw[m1];exact⟨⟨by intro x hx;simp at hx;omega,by simp⟩,⟨by intro x hx;simp at hx;omega,by simp⟩⟩
 have w3:(Iv.mk e3 e3 false).W:=by rw[m3];exact⟨⟨by intro x hx;simp at hx;omega,by simp⟩,⟨by intro x hx;simp at hx;omega,by simp⟩⟩
 have y1:e1.valid=true:=by rw[m1];simp[Dy.valid,Dy.inR,bl1]
 have y3:e3.valid=true:=by rw[m3];simp[Dy.valid,Dy.inR,bl3]
 have v1:(Iv.mk e1 e1 false).valid=true:=by simp[Iv.valid,y1,qz6]
 have v3:(Iv.mk e3 e3 false).valid=true:=by simp[Iv.valid,y3,qz6]
 rw[<-he1,<-he3]at q8;rw[<-he1]at d1;rw[<-he3]at d3;clear he1 he3 m1 m3 y1 y3;have s1:(Iv.mk e1 e1 false).sp=⟨e1.nm,e1.nm⟩:=rfl;have s3:(Iv.mk e3 e3 false).sp=⟨e3.nm,e3.nm⟩:=rfl;have dv:=qah1 ⟨e1,e1,false⟩ ⟨e3,e3,false⟩ 8 w1 w3 v1 v3 rfl rfl (by omega) (by omega)
  (fun i=>by rw[s1,s3,qaaa,n1,n3];exact qagi (by omega) (by omega) (by omega) (by omega) (by omega))
  (by rw[s3,n3];decide)
 rw[s1,s3,q78,q8.1,q8.2]at dv;have p1:=qpe e1;have p3:=qpe e3;have wr:(Iv.mk ⟨false,[85],-8⟩ ⟨false,[171],-9⟩ false).W:=⟨⟨by intro x hx;simp at hx;omega,by simp⟩,⟨by intro x hx;simp at hx;omega,by simp⟩⟩
 have eq:=q6c _ _ wr wr;simp only[decide_true,Bool.or_true]at eq;simp;refine zq d1 ?_;simp;refine zq p1 ?_;simp;refine zq d3 ?_;simp;refine zq p3 ?_;simp;refine zq dv ?_;simp;refine qau rfl rfl (H1:=H++[some ⟨7,[Iv.v ⟨⟨false,[85],-8⟩,⟨false,[171],-9⟩,false⟩],false,true⟩,some ⟨1,[.int .u32 85],true,false⟩,some ⟨1,[.int .u32 171],true,false⟩]) (vs:=[Iv.v ⟨⟨false,[85],-8⟩,⟨false,[171],-9⟩,false⟩,Iv.v ⟨⟨false,[85],-8⟩,⟨false,[171],-9⟩,false⟩]) (by simp[prep,frzVs,frzV,lim];rfl) eq ?_;simp
end Go.Abs.W
