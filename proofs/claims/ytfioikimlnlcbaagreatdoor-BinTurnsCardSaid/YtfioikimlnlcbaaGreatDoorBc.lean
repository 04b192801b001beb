/- Parts of the proof: FpBl, FpBo, FpBp, FpBs, FpBt, FpBu, FpBv. -/
import Derived.Test.YtfioikimlnlcbaaGreatDoorBb
import Derived.Test.YtfioikimlnlcbaaGreatDoorBa
import Derived.Test.YtfioikimlnlcbaaGreatDoorFe
namespace Go.Abs.W
set_option maxRecDepth 20000
@[simp] theorem qamj {H:Heap}{n:Nat}:frzC H (bn n)=some (bn n,H):=rfl
@[simp] theorem cp_bn {n:Nat}:(bn n).cellPure=true:=rfl
@[simp] theorem qal8 {n:Nat}:(bn n).cells=[bn n]:=rfl
@[simp] theorem qalz {n:Nat}:(bn n).isTup=false:=rfl
@[simp] theorem qajm {H:Heap}{n:Nat}:qbv H (bn n)=some (bn n,H):=rfl
@[simp] theorem qams {k:Nat}{H:Heap}{n:Nat}:fin false k H (bn n)=some (bn n,H.take k):=rfl
@[simp] theorem qal1 (H:Heap)(n:Nat)(vs:List V):frzVs H (bn n :: vs)=(frzVs H vs).bind fun p=>some (bn n :: p.1,p.2):=rfl
@[simp] theorem qamh (H:Heap)(n:Nat):frzV H (bn n)=some (bn n,H):=rfl
@[simp] theorem qamc {n:Nat}:(bn n).pure=true:=rfl
@[simp] theorem qamf {k n:Nat}:(bn n).lowB k=true:=rfl
@[simp] theorem qal7 {H:Heap}{n:Nat}:elems H (bn n)=some ((dgs n).map bdg):=rfl
theorem qxc (x:Nm):CQ prog q5z [x.v] (.int .i64 x.sgn):=by
 refine qaf rfl fun H=>?_
 by_cases h:x.n=0
 ·simp[h,bn,bl,qbf,Nm.sgn]
 ·have h2:=qes h;cases hs:x.neg<;>simp[bn,bl,h2,Nm.sgn,h,hs]
theorem qp8 (x:Nm):CQ prog qwz [x.v] x.opp.v:=by
 refine qaf rfl fun H=>?_
 simp[Nm.opp]
theorem qfy (x:Nm):CQ prog q1z [x.v] (Sp.v ⟨x,x⟩):=by
 refine qaf rfl fun H=>?_
 simp
def prB (p:Int):Bool:=decide (8<=p)&&decide (p<=512)
theorem q2g (p:Int):CQ prog qwy [.int .i64 p] (.bool (prB p)):=by
 refine qaf rfl fun H=>?_
 by_cases h1:8<=p<;>by_cases h2:p<=512<;>simp[h1,h2,prB]
structure Nm.B (x:Nm):Prop where
 len:(dgs x.n).length<=20000
 lo:-100000<=x.e
 hi:x.e<=100000
theorem Nm.at_len {x:Nm}(h:x.B){e:Int}(he:-100000<=e):(dgs (x.at_ e)).length<=34000:=by
 unfold Nm.at_;refine dgs_len.2 ?_;have h1:=dgs_len.1 h.len;have h2:=h.hi;have⟨K,hK⟩:∃K,K=14000:=⟨_,rfl⟩
 have h3:2^(x.e-e).toNat<=32768^K:=by
  rw[qfw];exact Nat.pow_le_pow_right (by omega) (by omega)
 have⟨L,hL⟩:∃L,L=20000:=⟨_,rfl⟩
 rw[<-hL]at h1;rw[show 34000=L+K by omega,Nat.pow_add];exact Nat.lt_of_le_of_lt (Nat.mul_le_mul_left _ h3) (Nat.mul_lt_mul_of_pos_right h1 (Nat.pow_pos (by omega)))
set_option maxHeartbeats 2000000 in
theorem qxf (a b:Nm)(ha:a.B)(hb:b.B):CQ prog q9j [a.v,b.v] (a.add b).v:=by
 refine qaf rfl fun H=>?_
 by_cases h1:a.n=0
 ·simp[Nm.add,h1,bn,bl,qbf]
 have n1:=qes h1;by_cases h2:b.n=0
 ·simp[Nm.add,h1,h2,bn,bl,qbf,n1]
 have n2:=qes h2;have a1:=ha.lo;have a2:=ha.hi;have b1:=hb.lo;have b2:=hb.hi;have⟨m,hm⟩:∃m,m=min a.e b.e:=⟨_,rfl⟩
 have hmi:(if b.e<a.e then b.e else a.e)=m:=by rw[hm];split<;>omega
 have la:=Nm.at_len ha (e:=m) (by omega);have lb:=Nm.at_len hb (e:=m) (by omega);have⟨sa,hsa⟩:∃sa:Nat,sa=(a.e-m).toNat:=⟨_,rfl⟩
 have⟨sb,hsb⟩:∃sb:Nat,sb=(b.e-m).toNat:=⟨_,rfl⟩
 have w1:IntKind.i64.wrap (a.e-m)=sa:=by rw[wrap_i64]<;>omega
 have w2:IntKind.i64.wrap (b.e-m)=sb:=by rw[wrap_i64]<;>omega
 simp[bn,bl,n1,n2,hmi,w1];refine qb6 rfl rfl rfl (q0c a.n sa (by have:=ha.len;omega) (by omega) h1 ⟨fun h=>by simp,?_⟩);simp[w2];refine qb6 rfl rfl rfl (q0c b.n sb (by have:=hb.len;omega) (by omega) h2 ⟨fun h=>by simp at h,?_⟩);have ea:a.n*2^sa=a.at_ m:=by unfold Nm.at_;rw[hsa]
 have eb:b.n*2^sb=b.at_ m:=by unfold Nm.at_;rw[hsb]
 have pa:a.at_ m≠0:=by rw[<-ea];exact Nat.mul_ne_zero h1 (by have:=Nat.two_pow_pos sa;omega)
 have pb:b.at_ m≠0:=by rw[<-eb];exact Nat.mul_ne_zero h2 (by have:=Nat.two_pow_pos sb;omega)
 rw[ea,eb];have hadd:a.add b=if a.neg=b.neg then⟨a.neg,a.at_ m+b.at_ m,m⟩else if b.at_ m<=a.at_ m then⟨a.neg,a.at_ m-b.at_ m,m⟩else⟨b.neg,b.at_ m-a.at_ m,m⟩:=by
  unfold Nm.add;rw[if_neg h1,if_neg h2,<-hm]
 generalize a.at_ m=x at *
 generalize b.at_ m=y at *
 by_cases hs:a.neg=b.neg
 ·rw[if_pos hs]at hadd;simp[hs];refine WL_ev rfl rfl rfl (q4p (.blk (w:=true) ?_) (.blk (w:=true) ?_) (by simp) (by simp) (qa9 x) (qa9 y) (by omega) (by omega)) ?_
  ·simp
  ·simp
  rw[qay,qay,hadd];simp[hs,bn,bl]
 ·rw[if_neg hs]at hadd;simp[hs];refine WL_ev rfl rfl rfl (qn1 (.blk (w:=true) ?_) (.blk (w:=true) ?_) (by simp) (by simp) (qa9 x) (qa9 y) (by omega) (by omega)) ?_
  ·simp
  ·simp
  obtain⟨c1,_⟩:=q4h x y;generalize cmpD (dgs x) (dgs y)=c at *
  by_cases hle:y<=x
  ·rw[if_pos hle]at hadd;have hc:0<=c:=by omega
   have hl:(dgs y).length<=(dgs x).length:=qre hle (Nat.le_refl _);simp[hc];refine WL_ev rfl rfl rfl (qtp (.blk (w:=true) ?_) (.blk (w:=true) ?_) (qa9 x) (qa9 y) (by omega) hl (qes pa) (by rw[qay,qay];exact hle)) ?_
   ·simp
   ·simp
   rw[qay,qay,hadd];simp[bn,bl]
  ·rw[if_neg hle]at hadd;have hc:¬0<=c:=by omega
   have hl:(dgs x).length<=(dgs y).length:=qre (by omega) (Nat.le_refl _);simp[hc];refine WL_ev rfl rfl rfl (qtp (.blk (w:=true) ?_) (.blk (w:=true) ?_) (qa9 y) (qa9 x) (by omega) hl (qes pb) (by rw[qay,qay];omega)) ?_
   ·simp
   ·simp
   rw[qay,qay,hadd];simp[bn,bl]
theorem Nm.B.opp {x:Nm}(h:x.B):x.opp.B:=⟨h.len,h.lo,h.hi⟩
theorem qdc (a b:Nm)(ha:a.B)(hb:b.B):CQ prog q10 [a.v,b.v] (.int .i64 (a.ord b)):=by
 refine qaf rfl fun H=>?_
 simp;refine qab rfl rfl rfl (qp8 b) ?_;simp;refine qab rfl rfl rfl (qxf a b.opp ha hb.opp) ?_;simp;refine qab rfl rfl rfl (qxc (a.add b.opp)) ?_;simp[Nm.ord]
end Go.Abs.W
namespace Go.Abs.W
set_option maxHeartbeats 4000000
set_option maxRecDepth 20000
def Nm.cu (x:Nm)(more:Bool)(p:Nat)(up:Bool):Nm:=
 if x.n=0 then Nm.zero else⟨x.neg,cutQ x.n x.e more p (x.neg != up),x.e+cutK x.n x.e p⟩
theorem q19 {n k L:Nat}(h:(dgs n).length<=L):(dgs (n/k)).length<=L:=qre (Nat.div_le_self _ _) h
theorem qaar (x:Nm)(more:Bool)(p:Nat)(up:Bool)(hx:x.B)(hp:p<=1000)(hno:(bitL (cutQ x.n x.e more p (x.neg != up)):Int)+(x.e+cutK x.n x.e p)<=16384) :
 CQ prog q9i [x.v,.bool more,.int .i64 p,.bool up] (.tup [(x.cu more p up).v,.bool true]):=by
 refine qaf rfl fun H=>?_
 have hl:∀k,¬(H.length+k<H.length):=by intro k;omega
 by_cases h0:x.n=0
 ·simp[h0,hl,bn,bl,qbf,Nm.cu,Nm.zero]
 rcases x with ⟨ng,n,e⟩;simp only at h0 hno;have n0:=qes h0;have b1:=hx.len;have b2:=hx.lo;have b3:=hx.hi;simp only at b1 b2 b3;have bb:bitL n<=300000:=by
  refine Nat.le_trans (qax (b:=15*(dgs n).length) ?_) (by omega);rw[<-qfw];exact dgs_len.1 (Nat.le_refl _)
 have⟨K,hK⟩:∃K,K=cutK n e p:=⟨_,rfl⟩
 have hcu:Nm.cu ⟨ng,n,e⟩ more p up=⟨ng,cutQ n e more p (ng != up),e+cutK n e p⟩:=by unfold Nm.cu;rw[if_neg h0]
 have⟨q,hq0⟩:∃q,q=cutQ n e more p (ng != up):=⟨_,rfl⟩
 rw[hcu,<-hK,<-hq0];rw[<-hq0,<-hK]at hno;unfold cutQ at hq0;rw[<-hK]at hq0;have kb:K<=400000:=by rw[hK];unfold cutK;omega
 have w1:IntKind.i64.wrap ((bitL n:Int)-p)=(bitL n:Int)-p:=by rw[wrap_i64]<;>omega
 have w2:IntKind.i64.wrap (-16384-e)=-16384-e:=by rw[wrap_i64]<;>omega
 have w3:(if(if(bitL n:Int)-p < -16384-e then -16384-e else(bitL n:Int)-p)<0 then 0 else if(bitL n:Int)-p < -16384-e then -16384-e else(bitL n:Int)-p)=(K:Int):=by
  rw[hK];unfold cutK;split<;>split<;>omega
 have w4:IntKind.i64.wrap (e+K)=e+K:=by rw[wrap_i64]<;>omega
 simp[bn,bl,n0];refine qab rfl rfl rfl (qig n (by omega)) ?_;simp[w1,w2,w3];refine qab rfl rfl rfl (qxe n K (by omega) (by omega)) ?_;have⟨m,hm⟩:∃m,m=n/2^K:=⟨_,rfl⟩
 have⟨r,hr⟩:∃r,r=decide (n%2^K≠0):=⟨_,rfl⟩
 have lm:(dgs m).length<=20000:=by rw[hm];exact q19 b1
 rw[<-hm,<-hr]at hq0 ⊢;have hq:q=m+(if((more ||r)&&(ng != up))=true then 1 else 0):=hq0;have lq:(dgs q).length<=20001:=qre (Y:=m+1) (by rw[hq];split<;>omega) (qaho (k:=20000) lm (by decide));have ql:(bitL q:Int)<=400000:=by
  have:=qax (n:=q) (b:=15*(dgs q).length) (by rw[<-qfw];exact dgs_len.1 (Nat.le_refl _));omega
 have v1:IntKind.i64.wrap ((bitL q:Int)+(e+K))=(bitL q:Int)+(e+K):=by rw[wrap_i64]<;>omega
 have v2:¬(16384:Int)<(bitL q:Int)+(e+K):=by omega
 by_cases hc:((more ||r)&&(ng != up))=true
 ·rw[if_pos hc]at hq;have eqv:natB (dgs m)+natB [1]=q:=by rw[qay,hq];rfl
  have l1:LiB [1]:=by intro y hy;simp at hy;omega
  clear hr hcu hq0 w3 hK;cases r<;>cases more<;>cases up<;>cases ng<;>first
   |exact absurd hc (by decide)
   | (simp[hl,w4,bn,bl]
      refine WL_ev rfl rfl rfl (q4p (a:=dgs m) (b:=[1]) .bl (SeesB.blk (l:=[1]) (w:=true) ?_) (by simp) (by simp) (qa9 m) l1 (by omega) (by simp)) ?_
      ·simp[bdg]
      rw[eqv];simp[hl];refine qab rfl rfl rfl (qig q (by omega)) ?_;simp[v1,v2,hl,bn,bl])
 ·rw[if_neg hc,Nat.add_zero]at hq;subst hq;clear hr hcu hq0 w3 hK;cases r<;>cases more<;>cases up<;>cases ng<;>first
   |exact absurd rfl hc
   | (simp[hl,w4,bn,bl]
      refine qab rfl rfl rfl (qig q (by omega)) ?_;simp[v1,v2,hl])
theorem qil {g:Nat}{H:Heap}{args:List V}(hg:(prog.fn g).elim true (fun f=>!f.raw)=true):prep prog g H args=frzVs H args:=by
 unfold prep;cases hq:prog.fn g with
 |none=>rfl
 |some f=>rw[hq]at hg;simp at hg;simp[hg]
theorem qach {g:Nat}{H:Heap}{b:Nat}{d:List Nat}{m:List V}(hg:(prog.fn g).elim true (fun f=>!f.raw)=true)(hb:H[b]?=some (some ⟨1,d.map bdg,true,true⟩)) :
 prep prog g H [.ref b 1 0 d.length,.sl m]=some ([.sl (d.map bdg),.sl m],H.set b (some ⟨1,d.map bdg,true,false⟩)):=by
 rw[qil hg];have:List.take d.length (d.map bdg)=d.map bdg:=List.take_of_length_le (by simp);simp[frzVs,frzV,hb,this]
theorem qxg {n:Nat}{L:Nat}(h:(dgs n).length<=L):bitL n<=15*L:=by
 refine Nat.le_trans (qax (b:=15*(dgs n).length) ?_) (by omega);rw[<-qfw];exact dgs_len.1 (Nat.le_refl _)
theorem q0j (a b:Nm)(p:Nat)(ha:a.B)(hb:b.B)(h0:b.n≠0)(hp:p<=1000) :
 CQ prog qug [a.v,b.v,.int .i64 p] (.tup [(a.frac b p).v,.bool (a.rest b p)]):=by
 refine qaf rfl fun H=>?_
 have hl:∀k,¬(H.length+k<H.length):=by intro k;omega
 have b1:=ha.len;have b2:=ha.lo;have b3:=ha.hi;have c1:=hb.len;have c2:=hb.lo;have c3:=hb.hi;have ba:=qxg b1;have bb:=qxg c1;have⟨k,hk⟩:∃k,k=fracK a b p:=⟨_,rfl⟩
 have kb:k<=301003:=by rw[hk];unfold fracK;omega
 have w1:IntKind.i64.wrap ((p:Int)+3)=(p:Int)+3:=by rw[wrap_i64]<;>omega
 have w2:IntKind.i64.wrap ((p:Int)+3+bitL b.n)=(p:Int)+3+bitL b.n:=by rw[wrap_i64]<;>omega
 have w3:IntKind.i64.wrap ((p:Int)+3+bitL b.n-bitL a.n)=(p:Int)+3+bitL b.n-bitL a.n:=by rw[wrap_i64]<;>omega
 have w4:(if(bitL a.n:Int)<(p:Int)+3+bitL b.n then(p:Int)+3+bitL b.n-bitL a.n else 0)=(k:Int):=by
  rw[hk];unfold fracK;split<;>omega
 have w5:IntKind.i64.wrap (a.e-b.e)=a.e-b.e:=by rw[wrap_i64]<;>omega
 have w6:IntKind.i64.wrap (a.e-b.e-k)=a.e-b.e-k:=by rw[wrap_i64]<;>omega
 unfold Nm.frac Nm.rest;rw[<-hk];have lN:(dgs (a.n*2^k)).length<=400000:=by
  have⟨K,hK⟩:∃K,K=20067:=⟨_,rfl⟩
  have⟨L,hL⟩:∃L,L=20000:=⟨_,rfl⟩
  rw[<-hL]at b1;refine Nat.le_trans (dgs_len (k:=L+K).2 ?_) (by omega);have h3:2^k<=32768^K:=by rw[qfw];exact Nat.pow_le_pow_right (by omega) (by omega)
  rw[Nat.pow_add];exact Nat.lt_of_le_of_lt (Nat.mul_le_mul_left _ h3) (Nat.mul_lt_mul_of_pos_right (dgs_len.1 b1) (Nat.pow_pos (by omega)))
 have⟨q,hq⟩:∃q,q=a.n*2^k/b.n:=⟨_,rfl⟩
 have⟨r,hr⟩:∃r,r=decide (a.n*2^k%b.n≠0):=⟨_,rfl⟩
 have dv:=q6l (a.n*2^k) b.n lN (by omega) h0;rw[<-hq,<-hr]at dv ⊢;simp[bn,bl];refine qab rfl rfl rfl (qig b.n (by omega)) ?_;simp[w1,w2];refine qab rfl rfl rfl (qig a.n (by omega)) ?_;simp[w3,w4];by_cases hz:a.n=0
 ·have e0:bn (a.n*2^k)=.sl []:=by rw[hz,Nat.zero_mul];rfl
  simp only[hz,qbf,List.map_nil];refine qb6 rfl rfl rfl (q4o k ⟨fun h=>by simp,?_⟩);simp;rw[e0]at dv;refine qau (args:=[.nil,bn b.n]) (vs:=[.sl [],bn b.n]) rfl rfl (by rw[qil rfl];simp[frzVs,frzV];rfl) dv ?_;simp[w5,w6,hl,bn,bl];cases a.neg<;>cases b.neg<;>rfl
 ·refine qb6 rfl rfl rfl (q0c a.n k (by omega) (by omega) hz ⟨fun h=>by simp,?_⟩);simp;refine qau rfl rfl (qach (d:=dgs (a.n*2^k)) (m:=(dgs b.n).map bdg) rfl ?_) dv ?_
  ·simp
  simp[w5,w6,hl,bn,bl];cases a.neg<;>cases b.neg<;>rfl
theorem qkx (lo hi:Nm)(ml mh:Bool)(p:Nat)(hl:lo.B)(hh:hi.B)(hp:p<=1000)
 (nl:(bitL (cutQ lo.n lo.e ml p (lo.neg != false)):Int)+(lo.e+cutK lo.n lo.e p)<=16384) (nh:(bitL (cutQ hi.n hi.e mh p (hi.neg != true)):Int)+(hi.e+cutK hi.n hi.e p)<=16384) :
 CQ prog qwx [lo.v,.bool ml,hi.v,.bool mh,.int .i64 p] (Sp.v ⟨lo.cu ml p false,hi.cu mh p true⟩):=by
 refine qaf rfl fun H=>?_
 have hl':∀k,¬(H.length+k<H.length):=by intro k;omega
 simp;refine qab rfl rfl rfl (qaar lo ml p false hl hp nl) ?_;simp;refine qab rfl rfl rfl (qaar hi mh p true hh hp nh) ?_;simp[hl']
def cor (a b:Nm):V:=.agg [.bool a.neg,bn a.n,.int .i64 a.e,.bool b.neg,bn b.n,.int .i64 b.e]
theorem qn0 (x y:Sp):CQ prog qw0 [x.v,y.v] (.sl [cor x.lo y.lo,cor x.lo y.hi,cor x.hi y.lo,cor x.hi y.hi]):=by
 refine qaf rfl fun H=>?_
 have hl':∀k,¬(H.length+k<H.length):=by intro k;omega
 simp[cor]
end Go.Abs.W
namespace Go.Abs.W
set_option maxRecDepth 20000
def qz (c:Nm × Nm)(p:Nat):Sp:=⟨(c.1.frac c.2 p).cu (c.1.rest c.2 p) p false,(c.1.frac c.2 p).cu (c.1.rest c.2 p) p true⟩
def qstep (o z:Sp):Sp:=⟨if z.lo.ord o.lo<0 then z.lo else o.lo,if 0<z.hi.ord o.hi then z.hi else o.hi⟩
def qacc (c:Nat->Nm × Nm)(p:Nat):Nat->Sp
 |0=>qz (c 0) p
 |i+1=>qstep (qacc c p i) (qz (c (i+1)) p)
def Sp.cor (x y:Sp):Nat->Nm × Nm
 |0=>(x.lo,y.lo)
 |1=>(x.lo,y.hi)
 |2=>(x.hi,y.lo)
 |_=>(x.hi,y.hi)
def Sp.quo (x y:Sp)(p:Nat):Sp:=qacc (x.cor y) p 3
structure QOk (c:Nm × Nm)(p:Nat):Prop where
 a:c.1.B
 b:c.2.B
 nz:c.2.n≠0
 f:(c.1.frac c.2 p).B
 lo:(bitL (cutQ (c.1.frac c.2 p).n (c.1.frac c.2 p).e (c.1.rest c.2 p) p ((c.1.frac c.2 p).neg != false)):Int)+((c.1.frac c.2 p).e+cutK (c.1.frac c.2 p).n (c.1.frac c.2 p).e p)<=16384
 hi:(bitL (cutQ (c.1.frac c.2 p).n (c.1.frac c.2 p).e (c.1.rest c.2 p) p ((c.1.frac c.2 p).neg != true)):Int)+((c.1.frac c.2 p).e+cutK (c.1.frac c.2 p).n (c.1.frac c.2 p).e p)<=16384
theorem qw7 {m:Nat}{e:Int}{more:Bool}{p:Nat}{out:Bool}:cutQ m e more p out<=2^p:=by
 unfold cutQ;have h1:m/2^cutK m e p<2^p:=by
  rw[Nat.div_lt_iff_lt_mul (Nat.two_pow_pos _),<-Nat.pow_add];refine Nat.lt_of_lt_of_le (qbw m) (Nat.pow_le_pow_right (by omega) ?_);unfold cutK;omega
 split<;>omega
theorem Nm.cu_B {x:Nm}{more:Bool}{p:Nat}{up:Bool}(hx:x.B)(hp:p<=1000)(hno:(bitL (cutQ x.n x.e more p (x.neg != up)):Int)+(x.e+cutK x.n x.e p)<=16384):(x.cu more p up).B:=by
 unfold Nm.cu;split
 ·exact⟨by decide,by decide,by decide⟩
 ·refine⟨?_,?_,?_⟩
  ·have⟨L,hL⟩:∃L,L=20000:=⟨_,rfl⟩
   rw[<-hL];refine dgs_len.2 ?_;simp only;refine Nat.lt_of_le_of_lt qw7 ?_;rw[qfw];exact Nat.pow_lt_pow_right (by omega) (by omega)
  ·have:=hx.lo;simp only;omega
  ·simp only;omega
theorem qz_B {c:Nm × Nm}{p:Nat}(h:QOk c p)(hp:p<=1000):(qz c p).lo.B/\(qz c p).hi.B:=⟨Nm.cu_B h.f hp h.lo,Nm.cu_B h.f hp h.hi⟩
theorem q8d {c:Nat->Nm × Nm}{p:Nat}(h:∀i,QOk (c i) p)(hp:p<=1000):∀i,(qacc c p i).lo.B/\(qacc c p i).hi.B
 |0=>qz_B (h 0) hp
 |i+1=>by
  have h1:=q8d h hp i;have h2:=qz_B (h (i+1)) hp;unfold qacc qstep;refine⟨?_,?_⟩
  ·simp only;split
   ·exact h2.1
   ·exact h1.1
  ·simp only;split
   ·exact h2.2
   ·exact h1.2
set_option maxHeartbeats 4000000 in
theorem ql4 (x y:Sp)(p:Nat)(hp:p<=1000)(hq:∀i,QOk (x.cor y i) p)(hs:¬(y.lo.sgn<=0/\0<=y.hi.sgn)) :
 CQ prog qmu [x.v,y.v,.int .i64 p] (x.quo y p).v:=by
 refine qaf rfl fun H=>?_
 have hl':∀k,¬(H.length+k<H.length):=by intro k;omega
 have main:∀E:Env,E 2=.int .i64 p->E 6=.ptr (H.length+2) 0 0->E 7=.ptr (H.length+3) 0 0->E 34=.sl [W.cor x.lo y.lo,W.cor x.lo y.hi,W.cor x.hi y.lo,W.cor x.hi y.hi]->E 35=.int .i64 4->E 36=.int .i64 0 ->
  WK prog H.length (.loop qdn) [.blk 0,.seq (.seq (.region false qif) .ret)] E (H++[some ⟨7,[x.v],false,true⟩,some ⟨7,[y.v],false,true⟩,some ⟨7,[.agg [.bool false,.nil,.int .i64 0,.bool false,.nil,.int .i64 0,.bool false]],false,true⟩,some ⟨7,[.agg [.bool false,.nil,.int .i64 0,.bool false,.nil,.int .i64 0,.bool false]],false,true⟩])
   (fun x_1 E1 H1=>(x_1=.normal\/x_1=.ret)/\∃v0,resV E1 H1 [.cell 6 true 7]=some v0/\Go.Abs.fin false H.length H1 v0=some ((x.quo y p).v,H)):=by
  intro E h2 h6 h7 h34 h35 h36;have⟨b6,hb6⟩:∃b6,b6=H.length+2:=⟨_,rfl⟩
  have⟨b7,hb7⟩:∃b7,b7=H.length+3:=⟨_,rfl⟩
  rw[<-hb6]at h6;rw[<-hb7]at h7;have⟨c,hc⟩:∃c,c=x.cor y:=⟨_,rfl⟩
  have hcl:∀i,i<4->[W.cor x.lo y.lo,W.cor x.lo y.hi,W.cor x.hi y.lo,W.cor x.hi y.hi][i]?=some (W.cor (c i).1 (c i).2):=by
   intro i hi;rw[hc];rcases i with _|_|_|_|i
   ·rfl
   ·rfl
   ·rfl
   ·rfl
   ·omega
  have hqu:x.quo y p=qacc c p 3:=by rw[hc];rfl
  rw[<-hc]at hq;rw[hqu];generalize [W.cor x.lo y.lo,W.cor x.lo y.hi,W.cor x.hi y.lo,W.cor x.hi y.hi]=L at *
  refine WK_up (fun i E H'=>E 2=.int .i64 p/\E 6=.ptr b6 0 0/\E 7=.ptr b7 0 0/\E 34=.sl L/\E 35=.int .i64 4/\E 36=.int .i64 i/\H <+: H'/\H'[b6]?=some (some ⟨7,[.agg [.bool false,.nil,.int .i64 0,.bool false,.nil,.int .i64 0,.bool false]],false,true⟩) /\
   ∃v7,H'[b7]?=some (some ⟨7,[v7],false,true⟩)/\(i=0->v7=.agg [.bool false,.nil,.int .i64 0,.bool false,.nil,.int .i64 0,.bool false])/\(∀j,i=j+1->v7=(qacc c p j).v)) 4 ?_ ?_
  ·refine⟨h2,h6,h7,h34,h35,h36,List.prefix_append _ _,by rw[hb6];simp,_,by rw[hb7];simp,fun _=>rfl,fun j hj=>by omega⟩
  ·rintro i E H' hi ⟨h2,h6,h7,h34,h35,h36,hpre,hg6,v7,hg7,hz0,hz1⟩;have hHl:H.length<=H'.length:=hpre.length_le;have l6:=(List.getElem?_eq_some_iff.1 hg6).1;have l7:=(List.getElem?_eq_some_iff.1 hg7).1;have n7:¬b7<H.length:=by omega
   have n6:¬b6<H.length:=by omega
   have n67:b6≠b7:=by omega
   rcases Nat.lt_or_ge i 4 with hlt|hge
   ·have f1:IntKind.i64.wrap ((i:Int)+1)=((i+1:Nat):Int):=by rw[wrap_i64]<;>omega
    have hlt':(i:Int)<4:=by omega
    have hci:=hcl i hlt;have q:=hq i;have⟨cA,hcA⟩:∃cA,cA=(c i).1:=⟨_,rfl⟩
    have⟨cB,hcB⟩:∃cB,cB=(c i).2:=⟨_,rfl⟩
    have⟨z,hz⟩:∃z,z=qz (c i) p:=⟨_,rfl⟩
    have zB:=qz_B q hp;rw[<-hz]at zB;have frc:=q0j (c i).1 (c i).2 p q.a q.b q.nz hp;have rnd:=qkx _ _ ((c i).1.rest (c i).2 p) ((c i).1.rest (c i).2 p) p q.f q.f hp q.lo q.hi;rw[show Sp.v ⟨_,_⟩=z.v by rw[hz];rfl]at rnd;have⟨F,hF⟩:∃F,F=(c i).1.frac (c i).2 p:=⟨_,rfl⟩
    have⟨R,hR⟩:∃R,R=(c i).1.rest (c i).2 p:=⟨_,rfl⟩
    rw[<-hF,<-hR]at frc rnd;rw[<-hcA,<-hcB]at frc hci;unfold W.cor at hci;have lH:∀k,¬H'.length+k<H.length:=by intro k;omega
    have lH0:¬H'.length<H.length:=by omega
    have g7:∀G:Heap,(H'++G)[b7]?=some (some ⟨7,[v7],false,true⟩):=fun G=>by rw[List.getElem?_append_left l7];exact hg7
    have s7:∀(G:Heap) X,(H'++G).set b7 X=H'.set b7 X++G:=fun G X=>List.set_append_left _ _ l7
    have g77:∀(G:Heap) X,(H'.set b7 X++G)[b7]?=some X:=fun G X=>by rw[List.getElem?_append_left (by simp;exact l7),List.getElem?_set_self l7]
    have s77:∀(G:Heap) X Y,(H'.set b7 X++G).set b7 Y=H'.set b7 Y++G:=fun G X Y=>by rw[List.set_append_left _ _ (by simp;exact l7),List.set_set]
    have inv:∀(G:Heap) v,(∀j,i+1=j+1->v=(qacc c p j).v)->H <+: H'.set b7 (some ⟨7,[v],false,true⟩)++G/\(H'.set b7 (some ⟨7,[v],false,true⟩)++G)[b6]?=some (some ⟨7,[.agg [.bool false,.nil,.int .i64 0,.bool false,.nil,.int .i64 0,.bool false]],false,true⟩) /\
     ∃v7,(H'.set b7 (some ⟨7,[v],false,true⟩)++G)[b7]?=some (some ⟨7,[v7],false,true⟩)/\(∀j,i+1=j+1->v7=(qacc c p j).v):=by
     intro G v hv;refine⟨qcx (qa5 hpre (by omega)),?_,v,g77 _ _,hv⟩;rw[List.getElem?_append_left (by simp;exact l6),List.getElem?_set_ne (by omega)];exact hg6
    simp[qdn,h2,h34,h35,h36,hlt',hci,lH0];refine zq frc ?_;simp[h2,lH];refine zq rnd ?_;by_cases hi0:i=0
    ·subst hi0;have v0:=hz0 rfl;subst v0;have w1:IntKind.i64.wrap 1=1:=rfl;simp at h36;simp[h2,h6,h7,h34,h35,h36,lH,g7,s7,g77,s77,n7,w1]
     obtain⟨i1,i2,v8,i3,i4⟩:=inv _ z.v (fun j hj=>by have:j=0:=by omega
                                                     subst this;rw[hz];rfl)
     have hz':qacc c p 0=z:=hz.symm;refine⟨i1,i2,?_⟩;rw[hz'];simp
    ·have⟨j,hj⟩:∃j,i=j+1:=⟨i-1,by omega⟩
     have vj:=hz1 j hj;subst vj;have⟨o,ho⟩:∃o,o=qacc c p j:=⟨_,rfl⟩
     have oB:=q8d hq hp j;rw[<-ho]at oB g7;have hi0':¬(i:Int)=0:=by omega
     have hacc:qacc c p (j+1)=qstep o z:=by rw[ho,hz,hj];rfl
     have hv:∀v,v=(qstep o z).v->(∀j,i+1=j+1->v=(qacc c p j).v):=by
      intro v hv j2 hj2;have:j2=j+1:=by omega
      subst this;rw[hacc];exact hv
     simp[h7,lH,g7,hi0];refine qab rfl rfl rfl (qdc z.lo o.lo zB.1 oB.1) ?_;by_cases c1:z.lo.ord o.lo<0
     ·simp[h7,g7,s7,g77,n7,hi0,c1];refine qab rfl rfl rfl (qdc z.hi o.hi zB.2 oB.2) ?_;by_cases c2:0<z.hi.ord o.hi
      ·skip
       simp[h2,h6,h7,h34,h35,h36,g77,s77,n7,c2,f1];have hiv:(qstep o z).v=Sp.v ⟨z.lo,z.hi⟩:=by simp[qstep,c1,c2]
       obtain⟨i1,i2,v8,i3,i4⟩:=inv _ (qstep o z).v (hv _ rfl);rw[hiv]at i1 i2;refine⟨hlt,i1,i2,?_⟩;have hacc2:qacc c p i=qstep o z:=by rw[hj];exact hacc
       rw[hacc2];simp[qstep,c1,c2]
      ·skip
       simp[h2,h6,h7,h34,h35,h36,g77,c2,f1];have hiv:(qstep o z).v=Sp.v ⟨z.lo,o.hi⟩:=by simp[qstep,c1,c2]
       obtain⟨i1,i2,v8,i3,i4⟩:=inv _ (qstep o z).v (hv _ rfl);rw[hiv]at i1 i2;refine⟨hlt,i1,i2,?_⟩;have hacc2:qacc c p i=qstep o z:=by rw[hj];exact hacc
       rw[hacc2];simp[qstep,c1,c2]
     ·simp[h7,g7,hi0,c1];refine qab rfl rfl rfl (qdc z.hi o.hi zB.2 oB.2) ?_;by_cases c2:0<z.hi.ord o.hi
      ·skip
       simp[h2,h6,h7,h34,h35,h36,g7,s7,g77,n7,c2,f1];have hiv:(qstep o z).v=Sp.v ⟨o.lo,z.hi⟩:=by simp[qstep,c1,c2]
       obtain⟨i1,i2,v8,i3,i4⟩:=inv _ (qstep o z).v (hv _ rfl);rw[hiv]at i1 i2;refine⟨hlt,i1,i2,?_⟩;have hacc2:qacc c p i=qstep o z:=by rw[hj];exact hacc
       rw[hacc2];simp[qstep,c1,c2]
      ·skip
       simp[h2,h6,h7,h34,h35,h36,g7,c2,f1];refine⟨hlt,qcx hpre,by rw[List.getElem?_append_left l6];exact hg6,?_⟩;have hacc2:qacc c p i=qstep o z:=by rw[hj];exact hacc
       rw[hacc2];simp[qstep,c1,c2]
   ·have:i=4:=by omega
    subst this;have e7:=hz1 3 rfl;subst e7;have n4:¬((4:Nat):Int)<4:=by omega
    have g66:∀X,(H'.set b6 X)[b6]?=some X:=fun X=>by rw[List.getElem?_set_self l6]
    have ht:∀X,List.take H.length (H'.set b6 X)=H:=fun X=>qbe (qa5 hpre (by omega))
    simp[qdn,h6,h7,h35,h36,hg7,hg6,n6,g66,ht]
 simp;refine qab rfl rfl rfl (qxc y.lo) ?_;by_cases h1:y.lo.sgn<=0
 ·have h2:¬0<=y.hi.sgn:=fun h=>hs ⟨h1,h⟩
  simp[h1];refine qab rfl rfl rfl (qxc y.hi) ?_;simp[h2];refine qab rfl rfl rfl (qn0 x y) ?_;simp;simp at main;exact main _ (by simp) (by simp) (by simp) (by simp) (by simp) (by simp)
 ·simp[h1];refine qab rfl rfl rfl (qn0 x y) ?_;simp;simp at main;exact main _ (by simp) (by simp) (by simp) (by simp) (by simp) (by simp)
end Go.Abs.W
namespace Go.Abs.W
set_option maxHeartbeats 4000000
set_option maxRecDepth 20000
theorem qdb (n:Int)(h1:-1073741824<=n)(h2:n<=1073741824):CQ prog q1v [.int .i64 n] (Nm.whole n).v:=by
 refine qaf rfl fun H=>?_
 have hl:∀k,¬(H.length+k<H.length):=by intro k;omega
 have w1:IntKind.i64.wrap (-n)=-n:=by rw[wrap_i64]<;>omega
 have⟨N,hN⟩:∃N,N=n.natAbs:=⟨_,rfl⟩
 have w2:(if n < -n then -n else n)=(N:Int):=by split<;>omega
 unfold Nm.whole;rw[<-hN];simp[w1,hl];have⟨b,hb⟩:∃b,b=H.length+1:=⟨_,rfl⟩
 refine qbu (fun m E H'=>m<=N/\E 0=.int .i64 m/\E 2=.ptr H.length 0 0/\E 3=.ptr b 0 0/\H'[H.length]?=some (some ⟨3,[.agg [.bool false,.nil,.int .i64 0]],false,true⟩)/\∃l v,Fld H H' (H.length+2) b (.bool (decide (n<0))) (.int .i64 0) (l.map bdg) v/\dgs N=l++dgs m) N ?_ ?_
 ·refine⟨Nat.le_refl _,by simp[w2],by simp,by simp[hb],by simp,[],.nil,⟨List.prefix_append _ _,by omega,by omega,by simp,by simp[hb],.inl ⟨rfl,rfl⟩⟩,rfl⟩
 ·rintro m E H' ⟨hmN,h0,h2,h3,hg,l,v,hf,hN2⟩;refine qa1 ?_;have hbk:=hf.at_;have lb:=(List.getElem?_eq_some_iff.1 hbk).1;have l0:=(List.getElem?_eq_some_iff.1 hg).1;have hpl:=hf.pre.length_le;have nb:¬b<H.length:=by omega
  by_cases hm:m=0
  ·subst hm;rw[qbf,List.append_nil]at hN2;have gs:∀X,(H'.set H.length X)[H.length]?=some X:=fun X=>by rw[List.getElem?_set_self l0]
   obtain⟨H3,z1,z2⟩:=hf.frz (b6:=H.length) (X:=some ⟨3,[.agg [.bool (decide (n<0)),v,.int .i64 0]],false,true⟩) (by omega) (by omega);have tk:=qbe z2;simp[qi8,h0,h2,h3,hbk,hg,gs,z1,tk];rw[bn,bl,hN2]
  ·have hm':0<m:=by omega
   have hll:l.length+1<=3:=by
    have h3:(dgs N).length<=3:=dgs_len.2 (by omega);rw[hN2,qnc hm]at h3;simp at h3;omega
   have t3:=tmodB m;have t4:=tdivB m;have t5:IntKind.i64.wrap ((m/32768:Nat):Int)=((m/32768:Nat):Int):=by rw[wrap_i64]<;>omega
   rw[qnc hm]at hN2;have⟨d,hd⟩:∃d,d=m%32768:=⟨_,rfl⟩
   have⟨m2,hm2⟩:∃m2,m2=m/32768:=⟨_,rfl⟩
   rw[<-hd]at t3 hN2;rw[<-hm2]at t4 t5 hN2;obtain⟨v',H2,e',g',v1,v2,v3,hf'⟩:=hf.app (x:=bdg d) (bytes:=8) rfl (by simp;omega);have g2:H2[H.length]?=some (some ⟨3,[.agg [.bool false,.nil,.int .i64 0]],false,true⟩):=by rw[v3 _ (by omega)];exact hg
   have lb2:=(List.getElem?_eq_some_iff.1 g').1;unfold bdg at e';simp[qi8,h0,h2,h3,hbk,hm',t3,t4,t5,nb,e',g',v1,v2];refine⟨m2,by omega,by omega,rfl,?_,l++[d],⟨v',by simpa using hf'⟩,by simp[hN2]⟩;rw[List.getElem?_set_ne (by omega)];exact g2
theorem Fld.seesB {H0 H:Heap}{k b:Nat}{a c v:V}{l:List Nat}(h:Fld H0 H k b a c (l.map bdg) v):SeesB v l H:=by
 rcases h.val with ⟨h1,h2⟩|⟨r,blk,h1,h2,h3,h4,h5⟩
 ·exact .inr (.inl ⟨h2,by simpa using h1⟩)
 ·rw[List.length_map]at h2 h4 h5;refine .inr (.inr ⟨r,0,blk,true,h2,h3,by omega,fun i x hi=>?_⟩);have hl:=(List.getElem?_eq_some_iff.1 hi).1;have:(blk.take l.length)[i]?=(l.map bdg)[i]?:=by rw[h4]
  rw[List.getElem?_take,if_pos hl,List.getElem?_map,hi]at this;simpa using this
theorem Fld.cut {H0 H:Heap}{k b:Nat}{a c v:V}{l:List V}(h:Fld H0 H k b a c l v){n:Nat}(hn:n<=l.length):Fld H0 (H.set b (some ⟨3,[.agg [a,cutV n v,c]],false,true⟩)) k b a c (l.take n) (cutV n v)/\(cutV n v).isTup=false/\(cutV n v).cells=[cutV n v]:=by
 have hb:=(List.getElem?_eq_some_iff.1 h.at_).1;refine⟨⟨qa5 h.pre h.low,h.low,h.bk,by simp;exact h.kl,List.getElem?_set_self hb,?_⟩,?_⟩
 ·rcases h.val with ⟨h1,h2⟩|⟨r,blk,h1,h2,h3,h4,h5⟩
  ·subst h1;subst h2;exact .inl ⟨by simp,rfl⟩
  ·have:=h.bk;refine .inr ⟨r,blk,h1,by rw[h2,List.length_take,Nat.min_eq_left hn];rfl,by rw[List.getElem?_set_ne (by omega)];exact h3,?_,by simp;omega⟩;rw[List.length_take,Nat.min_eq_left hn,<-h4,List.take_take,Nat.min_eq_left hn]
 ·rcases h.val with ⟨h1,h2⟩|⟨r,blk,h1,h2,_⟩<;>subst h2<;>exact⟨rfl,rfl⟩
theorem Fld.sees2 {H0 H:Heap}{k b:Nat}{a c v:V}{l:List Nat}{X:Option Blk}(h:Fld H0 (H.set b X) k b a c (l.map bdg) v):SeesB v l H:=by
 have hb:=h.bk;rcases h.seesB with h1|h1|⟨r,off,blk,w,h1,h2,h3⟩
 ·exact .inl h1
 ·exact .inr (.inl h1)
 ·have:k<=r:=by
   rcases h.val with ⟨_,g2⟩|⟨r',blk',g1,g2,_⟩
   ·rw[h1]at g2;cases g2
   ·rw[h1]at g2;injection g2 with g2;omega
  rw[List.getElem?_set_ne (by omega)]at h2;exact .inr (.inr ⟨r,off,blk,w,h1,h2,h3⟩)
theorem qjx (i:Nat):4294967296^i=2^(32*i):=by rw[Nat.pow_mul]
theorem qo6 (d:Dy)(hd:d.m.length<=1000)(ld:Li d.m):CQ prog q50 [d.v] d.nm.v:=by
 refine qaf rfl fun H=>?_
 have hl:∀k,¬(H.length+k<H.length):=by intro k;omega
 obtain⟨ng,M,ex⟩:=d;simp only at hd ld;unfold Dy.nm;simp[lim,hl];have⟨b,hb⟩:∃b,b=H.length+2:=⟨_,rfl⟩
 have⟨b1,hb1⟩:∃b1,b1=H.length+1:=⟨_,rfl⟩
 refine WK_up (fun i E H'=>E 1=.ptr H.length 0 0/\E 2=.ptr b1 0 0/\E 3=.ptr b 0 0/\E 14=.sl (M.map u32)/\E 15=.int .i64 M.length/\E 16=.int .i64 i/\H'[b1]?=some (some ⟨3,[.agg [.bool false,.nil,.int .i64 0]],false,true⟩) /\
  ∃(l:List Nat) (v:V) (h β:Nat),Fld H H' (H.length+3) b (.bool ng) (.int .i64 ex) (l.map bdg) v/\LiB l/\E 4=.int .i64 h/\E 5=.int .i64 β/\β<15/\h<2^β/\15*l.length+β=32*i/\natB l+32768^l.length*h=natV (M.take i)) M.length ?_ ?_
 ·refine⟨by simp,by simp[hb1],by simp[hb],by simp,by simp,by simp,by simp[hb1],[],.nil,0,0,⟨List.prefix_append _ _,by omega,by omega,by simp,by simp[hb],.inl ⟨rfl,rfl⟩⟩,by intro x hx;simp at hx,by simp,by simp,by omega,by omega,rfl,rfl⟩
 ·rintro i E H' hi ⟨e1,e2,e3,e14,e15,e16,hg1,l,v,h,β,hf,ll,e4,e5,hβ,hh,hlen,hval⟩;have hpl:=hf.pre.length_le;have nb:¬b<H.length:=by omega
  have nb1:¬b1<H.length:=by omega
  rcases Nat.lt_or_ge i M.length with hlt|hge
  ·have f1:IntKind.i64.wrap ((i:Int)+1)=((i+1:Nat):Int):=by rw[wrap_i64]<;>omega
   have lx:M[i]<4294967296:=ld _ (List.getElem_mem hlt);have w0:IntKind.i64.wrap (M[i]:Int)=(M[i]:Nat):=by rw[wrap_i64]<;>omega
   have p14:2^β<=2^14:=Nat.pow_le_pow_right (by omega) (by omega);have hx2:(M[i]+1)*2^β<=4294967296*2^β:=Nat.mul_le_mul_right _ (by omega);rw[Nat.add_mul]at hx2;have t1:qa3 .shl .i64 (M[i]:Int) (β:Int)=some (.int .i64 ((M[i]*2^β:Nat):Int)):=shlI _ _ (by omega) (by omega);have hts:natV (M.take (i+1))=natB l+32768^l.length*(h+M[i]*2^β):=by
    rw[qal,qak hlt,<-hval,qjx,<-hlen,Nat.pow_add,qfw,Nat.mul_add,Nat.add_assoc]
    congr 2
    rw[Nat.mul_assoc,Nat.mul_comm (2^β)]
   have⟨y,hy⟩:∃y,y=M[i]*2^β:=⟨_,rfl⟩
   rw[<-hy]at t1 hts hx2;have t2:IntKind.i64.wrap ((h:Int)+y)=((h+y:Nat):Int):=by rw[wrap_i64]<;>omega
   have t3:IntKind.i64.wrap ((β:Int)+32)=((β+32:Nat):Int):=by rw[wrap_i64]<;>omega
   have hsm:h+y<2^(β+32):=by rw[Nat.pow_add];omega
   have hlen2:15*l.length+(β+32)=32*(i+1):=by omega
   have⟨h1,hh1⟩:∃h1,h1=h+y:=⟨_,rfl⟩
   have⟨β1,hβ1⟩:∃β1,β1=β+32:=⟨_,rfl⟩
   rw[<-hh1]at t2 hts hsm;rw[<-hβ1]at t3 hsm hlen2;simp[qkq,e4,e5,e14,e15,e16,hlt,u32,w0,t1,t2,t3];refine qbu (fun B' E H'=>E 1=.ptr H.length 0 0/\E 2=.ptr b1 0 0/\E 3=.ptr b 0 0/\E 14=.sl (M.map u32)/\E 15=.int .i64 M.length/\E 16=.int .i64 i/\H'[b1]?=some (some ⟨3,[.agg [.bool false,.nil,.int .i64 0]],false,true⟩) /\
    ∃(l:List Nat) (v:V) (h:Nat),Fld H H' (H.length+3) b (.bool ng) (.int .i64 ex) (l.map bdg) v/\LiB l/\E 4=.int .i64 h/\E 5=.int .i64 B'/\h<2^B'/\B'<=46/\15*l.length+B'=32*(i+1)/\natB l+32768^l.length*h=natV (M.take (i+1))) β1 ?_ ?_
   ·exact⟨by simp[e1],by simp[e2],by simp[e3],by simp[e14],by simp[e15],by simp[e16],hg1,l,v,h1,hf,ll,by simp,by simp,hsm,by omega,hlen2,hts.symm⟩
   ·rintro B' E H' ⟨e1,e2,e3,e14,e15,e16,hg1,l,v,h,hf,ll,e4,e5,hh,hB,hlen,hval⟩;refine qa1 ?_;have hbk:=hf.at_;by_cases hlt15:B'<15
    ·have n15:¬(15:Int)<=B':=by omega
     simp[qkr,e1,e2,e3,e4,e5,e14,e15,e16,n15,f1];exact⟨hg1,l,⟨v,hf⟩,ll,h,rfl,B',rfl,hlt15,hh,hlen,hval⟩
    ·have p15:(15:Int)<=B':=by omega
     have p46:2^B'<=2^46:=Nat.pow_le_pow_right (by omega) hB;have t3:=tmodB h;have t4:=tdivB h;obtain⟨v',H2,e',g',v1,v2,v3,hf'⟩:=hf.app (x:=bdg (h%32768)) (bytes:=8) rfl (by simp;omega);have⟨d,hd2⟩:∃d,d=h%32768:=⟨_,rfl⟩
     have⟨h2,hh2⟩:∃h2,h2=h/32768:=⟨_,rfl⟩
     have g2:H2[b1]?=some (some ⟨3,[.agg [.bool false,.nil,.int .i64 0]],false,true⟩):=by rw[v3 _ (by omega)];exact hg1
     have dv:h=d+32768*h2:=by omega
     have hlt2:h2<2^(B'-15):=by
      rw[hh2,Nat.div_lt_iff_lt_mul (by omega)];have:2^B'=2^(B'-15)*32768:=by rw[show(32768:Nat)=2^15 from rfl,<-Nat.pow_add];congr 1;omega
      omega
     rw[<-hd2]at t3 e' hf';rw[<-hh2]at t4;unfold bdg at e';have t5:IntKind.i64.wrap (h2:Int)=h2:=by rw[wrap_i64]<;>omega
     have t6:IntKind.i64.wrap ((B':Int)-15)=((B'-15:Nat):Int):=by rw[wrap_i64]<;>omega
     simp[qkr,e1,e2,e3,e4,e5,e14,e15,e16,p15,hbk,t3,t4,t5,t6,nb,e',g',v1,v2];refine⟨B'-15,by omega,?_,l++[d],⟨v',by simpa using hf'⟩,ll.append (by intro z hz;simp at hz;omega),h2,rfl,rfl,hlt2,by omega,by simp;omega,?_⟩
     ·rw[List.getElem?_set_ne (by omega)];exact g2
     ·rw[qeg,<-hval,dv,List.length_append,List.length_singleton,Nat.pow_succ,Nat.mul_add,Nat.mul_assoc,Nat.add_assoc]
  ·have hin:i=M.length:=by omega
   subst hin;rw[qat (Nat.le_refl _)]at hval;have hbk:=hf.at_;have p14:2^β<=2^14:=Nat.pow_le_pow_right (by omega) (by omega);obtain⟨v',H2,e',g',v1,v2,v3,hf'⟩:=hf.app (x:=bdg h) (bytes:=8) rfl (by simp;omega);have g2:H2[b1]?=some (some ⟨3,[.agg [.bool false,.nil,.int .i64 0]],false,true⟩):=by rw[v3 _ (by omega)];exact hg1
   have lb2:=(List.getElem?_eq_some_iff.1 g').1;have lb1:=(List.getElem?_eq_some_iff.1 g2).1;unfold bdg at e';have hf2:Fld H (H2.set b (some ⟨3,[.agg [.bool ng,v',.int .i64 ex]],false,true⟩)) (H.length+3) b (.bool ng) (.int .i64 ex) ((l++[h]).map bdg) v':=by
    rw[List.map_append];exact hf'
   have so:SeesB v' (l++[h]) H2:=hf2.sees2;have ll2:LiB (l++[h]):=ll.append (by intro z hz;simp at hz;omega);have hv2:natB (l++[h])=natV M:=by rw[qeg];exact hval
   simp[qkq,e3,e4,e15,e16,hbk,e'];refine WL_ev rfl rfl rfl (qfu so (by simp;omega)) ?_;have hk:(trimL (l++[h])).length<=((l++[h]).map bdg).length:=by
    rw[List.length_map];unfold trimL;rw[List.length_take];exact Nat.min_le_right _ _
   obtain⟨hf3,y1,y2⟩:=hf2.cut hk;rw[List.set_set,<-List.map_take,qfb,qbp ll2,hv2]at hf3;rw[qbp ll2,hv2]at y1 y2 ⊢;have⟨cv,hcv⟩:∃cv,cv=cutV (dgs (natV M)).length v':=⟨_,rfl⟩
   rw[<-hcv]at hf3 y1 y2;have gb1:∀X,(H2.set b X)[b1]?=some (some ⟨3,[.agg [.bool false,.nil,.int .i64 0]],false,true⟩):=fun X=>by rw[List.getElem?_set_ne (by omega)];exact g2
   have gb:∀X,(H2.set b X)[b]?=some X:=fun X=>List.getElem?_set_self lb2
   have gb2:∀X Y,((H2.set b X).set b1 Y)[b1]?=some Y:=fun X Y=>List.getElem?_set_self (by simp;exact lb1)
   obtain⟨H3,z1,z2⟩:=hf3.frz (b6:=b1) (X:=some ⟨3,[.agg [.bool ng,cv,.int .i64 ex]],false,true⟩) (by omega) (by omega);have tk:=qbe z2;simp only[getX,qxv,if_true,<-hcv];simp[e2,e3,g',y1,y2,nb,nb1,gb,gb1,gb2,z1,tk];rfl
end Go.Abs.W
namespace Go.Abs.W
set_option maxRecDepth 20000
theorem qahy {l:List Nat}(hl:LiB l)(n:Nat):natB l/2^n%2=dig l (n/15)/2^(n%15)%2:=by
 have⟨q,hq⟩:∃q,q=n/15:=⟨_,rfl⟩
 have⟨s,hs⟩:∃s,s=n%15:=⟨_,rfl⟩
 have e:2^n=32768^q*2^s:=by rw[qfw,<-Nat.pow_add,hq,hs,Nat.div_add_mod]
 rw[<-hq,<-hs,e,<-Nat.div_div_eq_div_mul,qoc hl,qbs];have e2:32768=2^s*(2^(14-s)*2):=by rw[<-Nat.pow_succ,<-Nat.pow_add,show s+(14-s+1)=15 by omega]
 rw[e2,Nat.mul_assoc,Nat.add_mul_div_left _ _ (Nat.two_pow_pos s),Nat.mul_comm (2^(14-s)) 2,Nat.mul_assoc,Nat.add_mul_mod_self_left]
set_option maxHeartbeats 4000000 in
theorem q0a (x:Nm)(hx:x.B):CQ prog q1u [x.v] x.dy.v:=by
 refine qaf rfl fun H=>?_
 have hl:∀k,¬(H.length+k<H.length):=by intro k;omega
 obtain⟨ng,n,e⟩:=x;have b1:=hx.len;have b2:=hx.lo;have b3:=hx.hi;simp only at b1 b2 b3;unfold Nm.dy Dy.of;have tr:∀G:Heap,Ev prog (.call qmb [bn n] G) (.ret (bn n) G):=by
  intro G;have:=qfu (H:=G) (SeesB.bl (l:=dgs n)) (by omega);rw[qn5 (qfo n)]at this;have e:cutV (dgs n).length (bl (dgs n))=bn n:=by simp[cutV,bl,bn];exact List.take_of_length_le (by simp)
  rw[e]at this;exact this
 simp;refine WL_ev rfl rfl rfl (tr _) ?_;by_cases h0:n=0
 ·subst h0;simp[bn,bl,qbf,hl,lim]
 have n0:=qes h0;obtain⟨bt,blo,_⟩:=qmp h0;have⟨t,ht⟩:∃t,t=tz n:=⟨_,rfl⟩
 rw[<-ht]at bt blo;have tle:2^t<=n:=by rw[ht];exact tz_le h0
 have tlen:t<15*(dgs n).length:=by
  have h1:=qcf (qa9 n);rw[qay,qfw]at h1;exact(Nat.pow_lt_pow_iff_right (by omega:1<2)).1 (Nat.lt_of_le_of_lt tle h1)
 simp[bn,bl,n0,h0];refine qbu (fun k E H'=>k<=t/\H'=H++[some ⟨3,[.agg [.bool ng,bn n,.int .i64 e]],false,true⟩,some ⟨3,[.agg [.bool false,.nil,.int .i64 0]],false,true⟩]/\E 1=.ptr H.length 0 0/\E 2=.ptr (H.length+1) 0 0/\E 3=bn n/\E 4=.int .i64 ((t-k:Nat):Int)) t ?_ ?_
 ·refine⟨Nat.le_refl _,by simp[bn,bl],by simp,by simp,by simp[bn,bl],by simp⟩
 ·rintro k E H' ⟨hk,rfl,e1,e2,e3,e4⟩;refine qa1 ?_;have⟨z,hz⟩:∃z,z=t-k:=⟨_,rfl⟩
  rw[<-hz]at e4;have⟨q,hq⟩:∃q,q=z/15:=⟨_,rfl⟩
  have⟨s,hs⟩:∃s,s=z%15:=⟨_,rfl⟩
  have q1:Int.tdiv (z:Int) 15=q:=by rw[hq];exact tdivN z 15
  have s1:Int.tmod (z:Int) 15=s:=by rw[hs];exact tmodN z 15
  have w1:IntKind.i64.wrap (q:Int)=q:=by rw[wrap_i64]<;>omega
  have hql:q<(dgs n).length:=by omega
  have hb:=qahy (qa9 n) z;rw[qay,<-hq,<-hs,qak hql]at hb;have lq:(dgs n)[q]<32768:=qa9 n _ (List.getElem_mem hql);have t1:=shrI (dgs n)[q] s (by omega);have⟨y,hy⟩:∃y,y=(dgs n)[q]/2^s:=⟨_,rfl⟩
  have hy2:y<32768:=by rw[hy];exact Nat.lt_of_le_of_lt (Nat.div_le_self _ _) lq
  rw[<-hy]at t1 hb;have t2:=oneI y (by omega);rw[<-hb]at t2;simp only[bn,bl]at e3;by_cases hk0:k=0
  ·subst hk0;have hzt:z=t:=by omega
   subst hzt;rw[bt]at t2;have dw:=qxe n z (by omega) (by omega);have⟨N,hN⟩:∃N,N=n/2^z:=⟨_,rfl⟩
   have⟨R,hR⟩:∃R,R=decide (n%2^z≠0):=⟨_,rfl⟩
   rw[<-hN]at bt;rw[<-hN,<-hR]at dw;rw[<-ht,<-hN];have w4:IntKind.i64.wrap (e+z)=e+z:=by rw[wrap_i64]<;>omega
   simp[qi7,e3,e4,q1,s1,w1,hql,bdg,t1,t2];refine zq dw ?_;have lN:=qa9 N;have vN:=qay N;have dN:(dgs N).length<=20000:=by rw[hN];exact q19 b1
   simp[e1,e4,w4,hl,bn,bl];have⟨b,hb⟩:∃b,b=H.length+2:=⟨_,rfl⟩
   have⟨b1,hb1⟩:∃b1,b1=H.length+1:=⟨_,rfl⟩
   have⟨L,hL⟩:∃L,L=dgs N:=⟨_,rfl⟩
   have N0:N≠0:=by omega
   have tL:=qfo N;have LN:=qes N0;rw[<-hL]at lN vN dN tL LN ⊢;have fin':∀(o:List Nat) (h β:Nat),Li o->h<2^β->β<32->32*o.length+β=15*L.length->natV o+2^(32*o.length)*h=N->(h=0->o=qae N)/\(h≠0->o++[h]=qae N):=by
    intro o h β lo hh hβ hlen hval;have hge:=qr1 tL LN;rw[vN,qfw]at hge;constructor
    ·intro h0;subst h0;refine q38 lo (by simpa using hval) ?_;rcases List.eq_nil_or_concat o with h1|⟨_,_,h1⟩
     ·exact .inl h1
     ·right;have:1<=o.length:=by rw[h1];simp
      rw[qjx];exact Nat.le_trans (Nat.pow_le_pow_right (by omega) (by omega)) hge
    ·intro h0;have hp:2^β<=2^31:=Nat.pow_le_pow_right (by omega) (by omega);refine q38 (lo.append (by intro y hy;simp at hy;omega)) (by rw[qef,qjx];exact hval) (.inr ?_);rw[List.length_append,List.length_singleton,Nat.add_sub_cancel,qjx,<-hval];have:2^(32*o.length)*1<=2^(32*o.length)*h:=Nat.mul_le_mul_left _ (by omega);omega
   refine WK_up (fun i E H'=>E 1=.ptr H.length 0 0/\E 2=.ptr b1 0 0/\E 5=.ptr b 0 0/\E 42=.sl (L.map bdg)/\E 43=.int .i64 L.length/\E 44=.int .i64 i/\H'[b1]?=some (some ⟨3,[.agg [.bool false,.nil,.int .i64 0]],false,true⟩) /\
    ∃(o:List Nat) (v:V) (h β:Nat),Fld H H' (H.length+3) b (.bool ng) (.int .i64 (e+z)) (o.map u32) v/\Li o/\E 6=.int .i64 h/\E 7=.int .i64 β/\β<32/\h<2^β/\32*o.length+β=15*i/\natV o+2^(32*o.length)*h=natB (L.take i)) L.length ?_ ?_
   ·refine⟨by simp[e1],by simp[e2,hb1],by simp[hb],by simp,by simp,by simp,by simp[hb1],[],.nil,0,0,⟨List.prefix_append _ _,by omega,by omega,by simp,by simp[hb],.inl ⟨rfl,rfl⟩⟩,by intro x hx;simp at hx,by simp,by simp,by omega,by omega,rfl,rfl⟩
   ·rintro i E H' hi ⟨e1,e2,e5,e42,e43,e44,hg1,o,v,h,β,hf,lo,e6,e7,hβ,hh,hlen,hval⟩;have hpl:=hf.pre.length_le;have nb:¬b<H.length:=by omega
    have nb1:¬b1<H.length:=by omega
    have hbk:=hf.at_;rcases Nat.lt_or_ge i L.length with hlt|hge
    ·have f1:IntKind.i64.wrap ((i:Int)+1)=((i+1:Nat):Int):=by rw[wrap_i64]<;>omega
     have ly:L[i]<32768:=lN _ (List.getElem_mem hlt);have p31:2^β<=2^31:=Nat.pow_le_pow_right (by omega) (by omega);have hx2:(L[i]+1)*2^β<=32768*2^β:=Nat.mul_le_mul_right _ (by omega);rw[Nat.add_mul]at hx2;have t1:qa3 .shl .i64 (L[i]:Int) (β:Int)=some (.int .i64 ((L[i]*2^β:Nat):Int)):=shlI _ _ (by omega) (by omega);have hts:natB (L.take (i+1))=natV o+2^(32*o.length)*(h+L[i]*2^β):=by
      rw[qa6,qak hlt,<-hval,qfw,<-hlen,Nat.pow_add,Nat.mul_add,Nat.add_assoc]
      congr 2
      rw[Nat.mul_assoc,Nat.mul_comm (2^β)]
     have⟨y,hy⟩:∃y,y=L[i]*2^β:=⟨_,rfl⟩
     rw[<-hy]at t1 hts hx2;have t2:IntKind.i64.wrap ((h:Int)+y)=((h+y:Nat):Int):=by rw[wrap_i64]<;>omega
     have t3:IntKind.i64.wrap ((β:Int)+15)=((β+15:Nat):Int):=by rw[wrap_i64]<;>omega
     have hsm:h+y<2^(β+15):=by rw[Nat.pow_add];omega
     have⟨h1,hh1⟩:∃h1,h1=h+y:=⟨_,rfl⟩
     have⟨β1,hβ1⟩:∃β1,β1=β+15:=⟨_,rfl⟩
     rw[<-hh1]at t2 hts hsm;rw[<-hβ1]at t3 hsm;by_cases h32:32<=β1
     ·have p32:(32:Int)<=β1:=by omega
      have c1:=qa7 h1;have t5:qa3 .shr .i64 (h1:Int) 32=some (.int .i64 ((h1/2^32:Nat):Int)):=shrI h1 32 (by omega);obtain⟨v',H2,e',g',v1,v2,v3,hf'⟩:=hf.app (x:=u32 (h1%4294967296)) (bytes:=4) rfl (by simp;omega);have⟨d,hd2⟩:∃d,d=h1%4294967296:=⟨_,rfl⟩
      have⟨h2,hh2⟩:∃h2,h2=h1/2^32:=⟨_,rfl⟩
      have g2:H2[b1]?=some (some ⟨3,[.agg [.bool false,.nil,.int .i64 0]],false,true⟩):=by rw[v3 _ (by omega)];exact hg1
      have dv:h1=d+4294967296*h2:=by omega
      have hlt2:h2<2^(β1-32):=by
       rw[hh2,Nat.div_lt_iff_lt_mul (by omega),<-Nat.pow_add,show β1-32+32=β1 by omega];exact hsm
      rw[<-hd2]at c1 e' hf';rw[<-hh2]at t5;unfold u32 at e';have t6:IntKind.i64.wrap ((β1:Int)-32)=((β1-32:Nat):Int):=by rw[wrap_i64]<;>omega
      simp[qdy,e1,e2,e5,e6,e7,e42,e43,e44,hlt,bdg,t1,t2,t3,p32,hbk,c1,t5,t6,nb,e',g',v1,v2,f1];refine⟨?_,o++[d],⟨v',by simpa using hf'⟩,lo.append (by intro w hw;simp at hw;omega),h2,rfl,β1-32,rfl,by omega,hlt2,by simp;omega,?_⟩
      ·rw[List.getElem?_set_ne (by omega)];exact g2
      ·rw[qef,qjx,hts,dv,List.length_append,List.length_singleton,show 32*(o.length+1)=32*o.length+32 by omega,Nat.pow_add,Nat.mul_add,Nat.mul_assoc,Nat.add_assoc]
     ·have p32:¬(32:Int)<=β1:=by omega
      simp[qdy,e1,e2,e5,e6,e7,e42,e43,e44,hlt,bdg,t1,t2,t3,p32,f1];exact⟨hg1,o,⟨v,hf⟩,lo,h1,rfl,β1,rfl,by omega,hsm,by omega,hts.symm⟩
    ·have hin:i=L.length:=by omega
     subst hin;rw[qbk (Nat.le_refl _),vN]at hval;obtain⟨f0,f1⟩:=fin' o h β lo hh hβ hlen hval;have gb1:∀X,(H'.set b1 X)[b1]?=some X:=fun X=>List.getElem?_set_self (List.getElem?_eq_some_iff.1 hg1).1
     by_cases hh0:h=0
     ·have fo:=f0 hh0;obtain⟨H3,z1,z2⟩:=hf.frz (b6:=b1) (X:=some ⟨3,[.agg [.bool ng,v,.int .i64 (e+z)]],false,true⟩) (by omega) (by omega);have tk:=qbe z2;have hn:¬(0:Int)<(h:Int):=by omega
      subst hh0;simp[qdy,e2,e5,e6,e43,e44,hbk,hg1,nb1,gb1,z1,tk];rw[lim,fo]
     ·have fo:=f1 hh0;have p31:2^β<=2^31:=Nat.pow_le_pow_right (by omega) (by omega);have hp:0<h:=by omega
      have c1:IntKind.u32.wrap (h:Int)=h:=qaq _ (by omega);obtain⟨v',H2,e',g',v1,v2,v3,hf'⟩:=hf.app (x:=u32 h) (bytes:=4) rfl (by simp;omega);have g2:H2[b1]?=some (some ⟨3,[.agg [.bool false,.nil,.int .i64 0]],false,true⟩):=by rw[v3 _ (by omega)];exact hg1
      unfold u32 at e';have lb2:=(List.getElem?_eq_some_iff.1 g').1;have lb1:=(List.getElem?_eq_some_iff.1 g2).1;have hgb1:∀X,(H2.set b X)[b1]?=some (some ⟨3,[.agg [.bool false,.nil,.int .i64 0]],false,true⟩):=fun X=>by rw[List.getElem?_set_ne (by omega)];exact g2
      have hgb:∀X,(H2.set b X)[b]?=some X:=fun X=>List.getElem?_set_self lb2
      have gb2:∀X Y,((H2.set b X).set b1 Y)[b1]?=some Y:=fun X Y=>List.getElem?_set_self (by simp;exact lb1)
      obtain⟨H3,z1,z2⟩:=hf'.frz (b6:=b1) (X:=some ⟨3,[.agg [.bool ng,v',.int .i64 (e+z)]],false,true⟩) (by omega) (by omega);have tk:=qbe z2;simp[qdy,e2,e5,e6,e43,e44,hbk,nb,nb1,c1,hp,e',g',v1,v2,hgb,hgb1,gb2,z1,tk];rw[lim,<-fo];simp
  ·have hbz:n/2^z%2=0:=blo z (by omega);rw[hbz]at t2;have w2:IntKind.i64.wrap ((z:Int)+1)=((t-(k-1):Nat):Int):=by rw[wrap_i64]<;>omega
   simp[qi7,e1,e2,e3,e4,q1,s1,w1,hql,bdg,t1,t2,w2];exact⟨k-1,by omega,by omega,rfl,rfl⟩
end Go.Abs.W
namespace Go.Abs.W
set_option maxHeartbeats 4000000
set_option maxRecDepth 20000
theorem qjo (d:Dy)(w:d.W):CQ prog qze [d.v] (.bool d.valid):=by
 refine qaf rfl fun H=>?_
 rcases d with ⟨neg,m,e⟩;have la:=w.li;have ha:=w.len;simp only at la ha;rcases m with _|⟨x,l⟩
 ·simp[lim,Dy.valid];grind
 ·have hx:x<4294967296:=la x (by simp);have e1:((l.length:Int)+1≠0):=by omega
  have e2:=qny x hx;have⟨y,hy⟩:∃y,y=x%2:=⟨_,rfl⟩
  have⟨t,ht⟩:∃t,t=(x :: l).getLast (by simp):=⟨_,rfl⟩
  simp at ha;have e3:IntKind.i64.wrap (l.length:Int)=l.length:=by rw[wrap_i64]<;>omega
  have e4:(x :: l)[l.length]?=some t:=by rw[ht,List.getLast_eq_getElem];simp
  have e7:((V.int IntKind.u32 (x:Int)) :: List.map u32 l)[l.length]'(by simp)=.int .u32 t:=by
   have:=congrArg (Option.map u32) e4;rw[<-List.getElem?_map]at this;have e5:((V.int IntKind.u32 (x:Int)) :: List.map u32 l)[l.length]?=some (.int .u32 t):=this;rw[List.getElem?_eq_getElem (by simp)]at e5;injection e5
  rw[<-hy]at e2;have hv:Dy.valid ⟨neg,x :: l,e⟩=(decide (l.length+1<=256)&&decide (y=1)&&decide (t≠0)&&Dy.inR ⟨neg,x :: l,e⟩):=by
   simp[Dy.valid,hy,ht]
  rw[hv];have z1:y=1->natV (x :: l)≠0:=by intro h;simp only[natV];omega
  have⟨N,hN⟩:∃N,N=natV (x :: l):=⟨_,rfl⟩
  have hin:y=1->Dy.inR ⟨neg,x :: l,e⟩=(decide (bitL N<=4096)&&decide (-16384<=e)&&decide (e<=16384)&&decide ((bitL N:Int)+e<=16384)):=by
   intro h;have h2:=z1 h;rw[<-hN]at h2;have:¬bitL N=0:=fun h3=>h2 (bitL_eq0.1 h3)
   simp[Dy.inR,<-hN,this]
  by_cases c1:256<l.length+1
  ·have c1':(256:Int)<(l.length:Int)+1:=by omega
   have c1'':¬l.length+1<=256:=by omega
   simp[lim,u32,e1,c1',c1'']
  have c1':¬(256:Int)<(l.length:Int)+1:=by omega
  have c1'':l.length+1<=256:=by omega
  by_cases c2:t=0
  ·simp[lim,u32,e1,c1',e3,e7,c2]
  by_cases c3:y=0
  ·have:¬y=1:=by omega
   rw[c3]at e2;simp[lim,u32,e1,c1',e3,e7,c2,e2,this]
  have c3':y=1:=by omega
  rw[hin c3'];rw[c3']at e2;by_cases c4:e < -16384
  ·have:¬ -16384<=e:=by omega
   simp[lim,u32,e1,c1',e3,e7,c2,e2,c4,this]
  by_cases c5:16384<e
  ·have:¬e<=16384:=by omega
   simp[lim,u32,e1,c1',e3,e7,c2,e2,c4,c5,this]
  have c4':-16384<=e:=by omega
  have c5':e<=16384:=by omega
  simp[lim,u32,e1,c1',c1'',e3,e7,c2,e2,c3',c4,c5,c4',c5'];refine qab rfl rfl rfl (qo6 ⟨neg,x :: l,e⟩ (by simp;omega) la) ?_;have hl:(dgs N).length<=1000000:=by
   have h1:=qan la;rw[<-hN,qjx]at h1;refine Nat.le_trans (qo2 (k:=600) h1 ?_) (by omega);simp;omega
  simp[Dy.nm,<-hN];refine qab rfl rfl rfl (qig N hl) ?_;have bb:bitL N<=15*1000000:=qxg hl;have w9:IntKind.i64.wrap ((bitL N:Int)+e)=(bitL N:Int)+e:=by rw[wrap_i64]<;>omega
  simp[w9];grind
theorem Dy.Ok.nmB {d:Dy}(h:d.Ok):d.nm.B:=by
 refine⟨?_,by have:=h.elo;simp only[Dy.nm];omega,by have:=h.ehi;simp only[Dy.nm];omega⟩;have h1:=qan h.li;rw[qjx]at h1;refine Nat.le_trans (qo2 (k:=600) h1 ?_) (by omega);have:=h.len;omega
theorem Dy.Ok.ordv {a b:Dy}(ha:a.Ok)(hb:b.Ok):a.nm.ord b.nm=a.cmp b:=by
 unfold Dy.cmp;rw[ha.valid,hb.valid];simp only[Bool.and_self,if_true];rw[Nm.ord_val (K:=16384) (by have:=ha.elo;simp only[Dy.nm];omega) (by have:=hb.elo;simp only[Dy.nm];omega),Dy.val_nm,Dy.val_nm]
theorem qaaj (x:Iv)(w:x.W):CQ prog q1x [x.v] (.bool x.valid):=by
 refine qaf rfl fun H=>?_
 cases ha:x.all
 ·by_cases h1:x.lo.valid=true
  ·by_cases h2:x.hi.valid=true
   ·have o1:=Dy.Ok.of w.lo.li h1;have o2:=Dy.Ok.of w.hi.li h2;have ho:=o1.ordv o2;simp[ha];refine qab rfl rfl rfl (qjo x.lo w.lo) ?_;simp[h1];refine qab rfl rfl rfl (qjo x.hi w.hi) ?_;simp[h2];refine qab rfl rfl rfl (qo6 x.lo (by have:=o1.len;omega) w.lo.li) ?_;simp;refine qab rfl rfl rfl (qo6 x.hi (by have:=o2.len;omega) w.hi.li) ?_;simp;refine qab rfl rfl rfl (qdc x.lo.nm x.hi.nm o1.nmB o2.nmB) ?_;simp[Iv.valid,ha,h1,h2,ho]
   ·simp[ha];refine qab rfl rfl rfl (qjo x.lo w.lo) ?_;simp[h1];refine qab rfl rfl rfl (qjo x.hi w.hi) ?_;simp[Iv.valid,ha,h1,h2]
  ·simp[ha];refine qab rfl rfl rfl (qjo x.lo w.lo) ?_;simp[Iv.valid,ha,h1]
 ·have l1:=w.lo.len;have l2:=w.hi.len;have e9:IntKind.i64.wrap ((x.lo.m.length:Int)+x.hi.m.length)=(x.lo.m.length:Int)+x.hi.m.length:=by rw[wrap_i64]<;>omega
  have z1:x.lo.m=[]↔(x.lo.m.length:Int)=0:=by simp
  have z2:x.hi.m=[]↔(x.hi.m.length:Int)=0:=by simp
  simp[ha,lim,Iv.valid,Dy.isZ,e9];grind
theorem Iv.knownOk {x:Iv}(w:x.W)(h:x.valid=true)(ha:x.all=false):x.lo.Ok/\x.hi.Ok:=by
 simp only[Iv.valid,ha,Bool.false_eq_true,if_false,Bool.and_eq_true]at h;exact⟨Dy.Ok.of w.lo.li h.1.1,Dy.Ok.of w.hi.li h.1.2⟩
theorem qads (x:Iv)(w:x.W)(h:x.valid=true)(ha:x.all=false):CQ prog q53 [x.v] (Sp.v ⟨x.lo.nm,x.hi.nm⟩):=by
 obtain⟨o1,o2⟩:=Iv.knownOk w h ha;refine qaf rfl fun H=>?_
 have hl:∀k,¬(H.length+k<H.length):=by intro k;omega
 simp;refine qab rfl rfl rfl (qaaj x w) ?_;simp[h,ha];refine qab rfl rfl rfl (qo6 x.lo (by have:=o1.len;omega) w.lo.li) ?_;simp;refine qab rfl rfl rfl (qo6 x.hi (by have:=o2.len;omega) w.hi.li) ?_;simp[hl]
end Go.Abs.W
namespace Go.Abs.W
set_option maxHeartbeats 4000000
set_option maxRecDepth 20000
def Iv.sp (x:Iv):Sp:=⟨x.lo.nm,x.hi.nm⟩
def allV : V:=.agg [.bool false,.sl [],.int .i64 0,.bool false,.sl [],.int .i64 0,.bool true]
theorem q2m (H:Heap)(s:Sp):Cb H qcw [] [s.v] (.bool false):=by
 intro H' _;refine⟨rfl,?_⟩;refine qej rfl ?_;simp
theorem q6w {H:Heap}(l:List Sp)(hl:l.length<=1000):Ev prog (.call qj0 [.sl (l.map Sp.v),.fn qcw []] H) (.ret (.int .i64 (-1)) H):=by
 refine qej rfl ?_;simp;refine WK_up (fun i E H'=>H'=H/\E 0=.sl (l.map Sp.v)/\E 1=.fn qcw []/\E 7=.int .i64 l.length/\E 8=.int .i64 i) l.length ?_ ?_
 ·simp
 ·rintro i E H' hi ⟨rfl,h0,h1,h7,h8⟩;rcases Nat.lt_or_ge i l.length with hlt|hge
  ·have e2:IntKind.i64.wrap ((i:Int)+1)=((i+1:Nat):Int):=by rw[wrap_i64]<;>omega
   simp[qby,h7,h8,h0,h1,hlt];refine WL_cb (q2m H' l[i]) (List.prefix_refl _) rfl (by simp) ?_;simp[h0,h1,h7,h8,e2]
  ·have hin:i=l.length:=by omega
   subst hin;simp[qby,h7,h8]
theorem qxm {H:Heap}(l:List Sp)(hl:l.length<=1000):Ev prog (.call qdo [.sl (l.map Sp.v),.fn qcw []] H) (.ret (.bool false) H):=by
 refine qej rfl ?_;simp;refine WL_ev rfl rfl rfl (q6w l hl) ?_;simp
theorem Out.frz2 {H0 H:Heap}{v:V}{z:Nat}{l:List V}(h:Out H0 H v z l):∃H',H0 <+: H'/\frzC H v=some (.sl l,H')/\frzC H' v=some (.sl l,H'):=by
 rcases h.val with ⟨h1,h2⟩|⟨b,blk,h1,h2,h3,h4,h5⟩
 ·subst h1;subst h2;exact⟨H,h.pre,rfl,rfl⟩
 ·subst h2;have hb:=(List.getElem?_eq_some_iff.1 h3).1;refine⟨H.set b (some ⟨z,blk,true,false⟩),qa5 h.pre h1,?_,?_⟩
  ·simp[h3,h4,h5]
  ·have:(H.set b (some ⟨z,blk,true,false⟩))[b]?=some (some ⟨z,blk,true,false⟩):=List.getElem?_set_self hb;simp[this,h4,h5]
theorem qac1 {H0 H:Heap}{v:V}{z:Nat}{l:List V}(h:Out H0 H v z l)(G:Heap):frzV G v=frzC G v:=by
 rcases h.val with ⟨h1,h2⟩|⟨b,blk,h1,h2,_⟩<;>subst h2<;>rfl
theorem qqa {H:Heap}{g:Nat}{caps:List V}(p:Int)(xs:List Iv)(w:∀x ∈ xs,x.W/\x.valid=true/\x.all=false)(hl:xs.length<=100)(out:Sp)(oB:prB p=true->out.lo.B/\out.hi.B)
 (hg:(prog.fn g).elim true (fun f=>!f.raw)=true) (hcap:∀H',frzVs H' caps=some (caps,H'))
 (hev:prB p=true->∀H',H <+: H'->Ev prog (.call g (.sl (xs.map fun x=>x.sp.v) :: caps) H') (.ret out.v H')) :
 Ev prog (.call qic [.int .i64 p,.fn g caps,.sl (xs.map Iv.v)] H) (.ret (if prB p=true then Iv.v ⟨out.lo.dy,out.hi.dy,false⟩else allV) H):=by
 have hl':∀k,¬(H.length+k<H.length):=by intro k;omega
 refine qej rfl ?_;simp;have⟨H0,hH0⟩:∃H0,H0=H++[some ⟨7,[.agg [.bool false,.nil,.int .i64 0,.bool false,.nil,.int .i64 0,.bool false]],false,true⟩]:=⟨_,rfl⟩
 rw[<-hH0];have hb6:H0[H.length]?=some (some ⟨7,[.agg [.bool false,.nil,.int .i64 0,.bool false,.nil,.int .i64 0,.bool false]],false,true⟩):=by rw[hH0];simp
 have hpre0:H <+: H0:=by rw[hH0];exact List.prefix_append _ _
 have hlen0:H0.length=H.length+1:=by rw[hH0];simp
 refine WK_up (fun i E H'=>E 0=.int .i64 p/\E 1=.fn g caps/\E 6=.ptr H.length 0 0/\E 11=.sl (xs.map Iv.v)/\E 12=.int .i64 xs.length/\E 13=.int .i64 i/\Out H0 H' (E 7) 7 ((xs.take i).map fun x=>x.sp.v)) xs.length ?_ ?_
 ·refine⟨by simp,by simp,by simp,by simp,by simp,by simp,by simpa using Out.nil⟩
 ·rintro i E H' hi ⟨h0,h1,h6,h11,h12,h13,h7⟩;have hle:=h7.pre.length_le;rcases Nat.lt_or_ge i xs.length with hlt|hge
  ·have e2:IntKind.i64.wrap ((i:Int)+1)=((i+1:Nat):Int):=by rw[wrap_i64]<;>omega
   obtain⟨wx,vx,ax⟩:=w xs[i] (List.getElem_mem hlt);have op:=qads xs[i] wx vx ax;have⟨x,hx⟩:∃x,x=xs[i]:=⟨_,rfl⟩
   rw[<-hx]at op ax;have nl:¬H'.length<H.length:=by omega
   obtain⟨v',H'',e',ho'⟩:=(h7.grow [some ⟨7,[x.v],false,true⟩,some ⟨7,[x.sp.v],true,true⟩]).app (y:=.ref (H'.length+1) 7 0 1) (ys:=[x.sp.v]) (bytes:=88) (by simp) (by simp) (by simp) (by simp;omega);have htk:(xs.take (i+1)).map (fun x=>x.sp.v)=(xs.take i).map (fun x=>x.sp.v)++[x.sp.v]:=by
    rw[List.take_add_one,List.getElem?_eq_getElem hlt,<-hx];simp
   rw[<-htk]at ho';simp[qh1,h11,h12,h13,hlt,<-hx,nl];refine zq op ?_;unfold Iv.sp at e';simp at e';simp[h0,h1,h6,h11,h12,h13,e2,e'];simpa using ho'
  ·have hin:i=xs.length:=by omega
   subst hin;rw[List.take_length]at h7;have hb6':=getP2 h7.pre hb6;have l6:=(List.getElem?_eq_some_iff.1 hb6').1;have fx:=qac1 h7;obtain⟨H1,hp1,q1,q2⟩:=h7.frz2;have hmap:xs.map (fun x=>x.sp.v)=(xs.map Iv.sp).map Sp.v:=by rw[List.map_map];rfl
   have pr1:prep prog qdo H' [E 7,.fn qcw []]=some ([.sl ((xs.map Iv.sp).map Sp.v),.fn qcw []],H1):=by
    rw[qil rfl];simp[frzVs,fx,q1,<-hmap];rfl
   have pr2:prep prog g H1 (E 7 :: caps)=some (.sl (xs.map fun x=>x.sp.v) :: caps,H1):=by
    rw[qil hg];simp[frzVs,fx,q2,hcap]
   have hb61:=getP2 hp1 hb6;have l61:=(List.getElem?_eq_some_iff.1 hb61).1;have hH1:H <+: H1:=hpre0.trans hp1;simp[qh1,h0,h12,h13];refine qab rfl rfl rfl (q2g p) ?_;by_cases hp:prB p=true
   case neg=>
    have tk:∀X,List.take H.length (H'.set H.length X)=H:=fun X=>qbe (qa5 (hpre0.trans h7.pre) (Nat.le_refl _))
    have gs:∀X,(H'.set H.length X)[H.length]?=some X:=fun X=>List.getElem?_set_self l6
    simp[hp,h6,hb6',gs,tk,allV]
   simp[hp];refine qau rfl rfl pr1 (fun G=>qxm (xs.map Iv.sp) (by simp;omega)) ?_;simp[h1];refine qb6 rfl rfl pr2 ⟨_,_,hev hp H1 hH1,fun h=>by simp at h,?_⟩;have hle1:=hH1.length_le;have nl:∀k,¬H1.length+k<H.length:=by intro k;omega
   have nl0:¬H1.length<H.length:=by omega
   simp[nl0];refine qab rfl rfl rfl (q0a out.lo (oB hp).1) ?_;simp;refine qab rfl rfl rfl (q0a out.hi (oB hp).2) ?_;have g1:∀G:Heap,(H1++G)[H.length]?=some (some ⟨7,[.agg [.bool false,.nil,.int .i64 0,.bool false,.nil,.int .i64 0,.bool false]],false,true⟩):=fun G=>by rw[List.getElem?_append_left l61];exact hb61
   have s1:∀(G:Heap) X,(H1++G).set H.length X=H1.set H.length X++G:=fun G X=>List.set_append_left _ _ l61
   have gs:∀(G:Heap) X,(H1.set H.length X++G)[H.length]?=some X:=fun G X=>by rw[List.getElem?_append_left (by simp;exact l61),List.getElem?_set_self l61]
   have tk:∀(G:Heap) X,List.take H.length (H1.set H.length X++G)=H:=fun G X=>qbe (qcx (qa5 hH1 (Nat.le_refl _)))
   simp[h6,g1,s1,gs,tk]
end Go.Abs.W
