/- Parts of the proof: FpR03, FpR03b, FpIvA, FpIvB, FpIvC, FpIvD, FpIvE, FpIvF. -/
import Derived.Test.YtnkijamajifgpaaGreatDoorFh
import Derived.Test.YtnkijamajifgpaaGreatDoorFg
import Derived.Test.YtnkijamajifgpaaGreatDoorFg
import Derived.Test.YtnkijamajifgpaaGreatDoorFe
namespace Go.Abs.W
set_option maxHeartbeats 4000000
theorem qakb (p:Int):CQ prog qx4 [.int .i64 p] (.bool (precB p)):=by
 refine qah rfl fun H=>?_
 simp[precB];grind
theorem qrv (a b:Dy)(p:Int)(wa:a.W)(wb:b.W):CQ prog qwc [a.v,b.v,.int .i64 p] (.int .i64 (qbz [a,b] p)):=by
 refine qah rfl fun H=>?_
 simp;refine qaa rfl rfl rfl (qj5 a wa) ?_;cases ha:a.valid
 ·simp[qbz,ha]
 ·simp;refine qaa rfl rfl rfl (qj5 b wb) ?_;cases hb:b.valid
  ·simp[qbz,ha,hb]
  ·simp;refine qaa rfl rfl rfl (qakb p) ?_;cases hp:precB p<;>simp[qbz,ha,hb,hp]
theorem qkh {q b:Nat}(h:bitL q<=b):(qad q).length<=b/32+1:=
 qcg (Nat.lt_of_lt_of_le (qbn q) (Nat.pow_le_pow_right (by omega) h)) (by omega)
theorem q6r (neg:Bool)(p:Nat)(hp:p<=512):CQ prog qrd [.bool neg,.int .i64 p] (Dy.of neg (2^p-1) (16384-p)).v:=by
 refine qah rfl fun H=>?_
 have l1:Li [1]:=by intro x hx;simp at hx;omega
 have v1:natV [1]=1:=rfl;have h2p:1<=2^p:=Nat.one_le_two_pow;have hpl:(qad (2^p)).length<=1000:=qcg (B:=p+1) (Nat.pow_lt_pow_right (by omega) (by omega)) (by omega);have hp1:1<=(qad (2^p)).length:=List.length_pos_iff.2 (qcw (by omega));have sc:=qxi [1] p (by simp) l1 (by omega);rw[v1,Nat.one_mul]at sc;have dc:=qaou (qad (2^p)) [1] (by omega) (by simpa using hp1) (qaf _) l1 (by rw[qac,v1];exact h2p);rw[qac,v1]at dc;have hl2:(qad (2^p-1)).length<=1000:=qbq (Nat.sub_le _ _) hpl;have e2:IntKind.i64.wrap (16384-(p:Int))=16384-(p:Int):=by rw[wrap_i64]<;>omega
 have oc:=Of_cq neg (qad (2^p-1)) (16384-p) (by omega) (qaf _) (by omega) (by omega);rw[qac]at oc;simp;refine qau (args:=[.ref (H.length+1) 1 0 1,.int .i64 p]) (vs:=[lim [1],.int .i64 p]) (H1:=H++[some ⟨3,[.agg [.bool false,.nil,.int .i64 0]],false,true⟩,some ⟨1,[.int .u32 1],true,false⟩]) rfl (by simp) (by refine Eq.trans (b:=frzVs _ _) rfl ?_;simp[frzVs,frzV,qby,lim,u32]) sc ?_;simp;refine qau (args:=[lim (qad (2^p)),.ref (H.length+2) 1 0 1]) (vs:=[lim (qad (2^p)),lim [1]]) (H1:=H++[some ⟨3,[.agg [.bool false,.nil,.int .i64 0]],false,true⟩,some ⟨1,[.int .u32 1],true,false⟩,some ⟨1,[.int .u32 1],true,false⟩]) rfl (by simp) (by refine Eq.trans (b:=frzVs _ _) rfl ?_;simp[frzVs,frzV,qby,lim,u32]) dc ?_;simp[e2];refine zq oc ?_;simp[lim]
def cutX (neg out:Bool)(Q:Nat)(e:Int)(k p:Nat):Dy × Int:=
 if Q≠0/\(16384:Int)<bitL Q+(e+k)then(if out then(Dy.zero,9)else(Dy.of neg (2^p-1) (16384-p),0))else(Dy.of neg Q (e+k),0)
theorem qyw {H:Heap}{E:Env}(G:Heap)(neg out:Bool)(Q:Nat)(e:Int)(k p:Nat)(hp:p<=512)(hQ:bitL Q<=600000)(hk:k<=600000)(he1:-400000<=e)(he2:e<=400000)
 (h0:E 0=.bool neg) (h2:E 2=.int .i64 e) (h4:E 4=.int .i64 p) (h12:E 12=.ptr H.length 0 0) (_h13:E 13=.int .i64 0) (h15:E 15=.int .i64 k) (h16:E 16=lim (qad Q)) (h17:E 17=.bool out) :
 WC prog H.length (qa5 8 c_fpref03_Cut.body) E (H++some ⟨3,[.agg [.bool false,.nil,.int .i64 0]],false,true⟩ :: G) (fun x E1 H1=>(x=.normal\/x=.ret)/\∃v0,resV E1 H1 [.cell 12 true 3,.tmp 13]=some v0 /\
  fin false H.length H1 v0=some (.tup [(cutX neg out Q e k p).1.v,.int .i64 (cutX neg out Q e k p).2],H)):=by
 have hl:=qkh hQ;have bc:=qkp (qad Q) (by omega) (qaf Q);rw[qac]at bc;have w3:IntKind.i64.wrap (e+(k:Int))=e+k:=by rw[wrap_i64]<;>omega
 refine qn0 ?_;simp[qa5,h16];refine zq bc ?_;by_cases hq0:Q=0
 ·subst hq0;have oc:=Of_cq neg (qad 0) (e+k) (by rw[qbc];simp) (qaf _) (by omega) (by omega);rw[qac]at oc;simp[qbo,h0,h2,h15,h16,w3];refine zq oc ?_;simp[h12,cutX,lim]
 ·have hbp:=(qa8 hq0).2.2;have⟨B,hB⟩:∃B,B=bitL Q:=⟨_,rfl⟩
  rw[<-hB]at bc hQ hbp ⊢;have w1:IntKind.i64.wrap ((B:Int)+e)=B+e:=by rw[wrap_i64]<;>omega
  have w2:IntKind.i64.wrap ((B:Int)+e+k)=B+e+k:=by rw[wrap_i64]<;>omega
  simp[hbp,h16];refine zq bc ?_;by_cases hov:(16384:Int)<B+e+k
  ·have hov':(16384:Int)<B+(e+k):=by omega
   cases out
   ·have gc:=q6r neg p hp;simp[h0,h2,h4,h15,h17,w1,w2,hov];refine zq gc ?_;simp[h12,cutX,hq0,<-hB,hov',lim]
   ·simp[h2,h12,h15,h17,w1,w2,hov,cutX,hq0,<-hB,hov',Dy.zero,lim]
  ·have hov':¬(16384:Int)<B+(e+k):=by omega
   have oc:=Of_cq neg (qad Q) (e+k) (by omega) (qaf _) (by omega) (by omega);rw[qac]at oc;simp[h0,h2,h15,h16,w1,w2,w3,hov];refine zq oc ?_;simp[h12,cutX,hq0,<-hB,hov',lim]
theorem qaf1 {neg:Bool}{m:Nat}{e:Int}{more:Bool}{p:Nat}{up:Bool}:cutX neg (neg != up) (cutQ m e more p (neg != up)) e (cutK m e p) p=cutR neg m e more p up:=rfl
theorem q2q (neg:Bool)(m:List Nat)(e:Int)(more:Bool)(p:Nat)(up:Bool)(hm:m.length<=10000)(lm:Li m)(he1:-100000<=e)(he2:e<=100000)(hp:p<=512) :
 CQ prog q1n [.bool neg,lim m,.int .i64 e,.bool more,.int .i64 p,.bool up] (.tup [(cutR neg (natV m) e more p up).1.v,.int .i64 (cutR neg (natV m) e more p up).2]):=by
 refine CQ_of rfl fun H=>?_
 have hlen:=limbsOf_len.2 (qaq lm);have hA:=qaq lm;rw[pow32]at hA;have hbit:=qa7 hA;have⟨M,hM⟩:∃M,M=natV m:=⟨_,rfl⟩
 rw[<-hM]at hlen hbit ⊢;have bc:=qkp (qad M) (by omega) (qaf _);rw[qac]at bc;have w1:IntKind.i64.wrap ((bitL M:Int)-p)=bitL M-p:=by rw[wrap_i64]<;>omega
 have w2:IntKind.i64.wrap (-16384-e)=-16384-e:=by rw[wrap_i64]<;>omega
 have hmax:(if(if(bitL M:Int)-p < -16384-e then -16384-e else(bitL M:Int)-p)<0 then 0 else if(bitL M:Int)-p < -16384-e then -16384-e else(bitL M:Int)-p)=(cutK M e p:Int):=by
  unfold cutK;split<;>split<;>omega
 have hkb:cutK M e p<=500000:=by unfold cutK;omega
 have hres:=qaf1 (neg:=neg) (m:=M) (e:=e) (more:=more) (p:=p) (up:=up);rw[<-hres];have hQb:bitL (cutQ M e more p (neg != up))<=600:=Nat.le_trans qw1 (by omega);have hcq:∀o,cutQ M e more p o=M/2^cutK M e p+(if(more ||decide (M%2^cutK M e p≠0))&&o then 1 else 0):=fun _=>rfl
 have⟨k,hk⟩:∃k,k=cutK M e p:=⟨_,rfl⟩
 rw[<-hk]at hmax hkb hcq ⊢;have sc:=qaow (qad M) k (by omega) (qaf _) (by omega);rw[qac]at sc;have hql:(qad (M/2^k)).length<=20000:=Nat.le_trans (qbq (Nat.div_le_self _ _) hlen) (by omega);have tail6:∀(E:Env) (lost:Bool),lost=(more ||decide (M%2^k≠0))->E 0=.bool neg->E 2=.int .i64 e->E 3=.bool lost->E 4=.int .i64 p->E 5=.bool up->E 12=.ptr H.length 0 0->E 13=.int .i64 0->E 15=.int .i64 k->E 16=lim (qad (M/2^k)) ->
  WC prog H.length (qa5 6 c_fpref03_Cut.body) E (H++[some ⟨3,[.agg [.bool false,.nil,.int .i64 0]],false,true⟩]) (fun x E1 H1=>(x=.normal\/x=.ret)/\∃v0,resV E1 H1 [.cell 12 true 3,.tmp 13]=some v0 /\
   fin false H.length H1 v0=some (.tup [(cutX neg (neg != up) (cutQ M e more p (neg != up)) e k p).1.v,.int .i64 (cutX neg (neg != up) (cutQ M e more p (neg != up)) e k p).2],H)):=by
  intro E lost hlost h0 h2 h3 h4 h5 h12 h13 h15 h16;rw[<-hlost]at hcq;refine qdd (b:=qa5 7 c_fpref03_Cut.body) ?_;refine qam ?_;simp[h0,h5];refine qdd (b:=qa5 8 c_fpref03_Cut.body) ?_;refine qam ?_;have hout:(!(neg == up))=(neg != up):=by cases neg<;>cases up<;>rfl
  by_cases hb:lost=true/\(neg != up)=true
  ·obtain⟨rfl,ho⟩:=hb;have l1:Li [1]:=by intro x hx;simp at hx;omega
   have v1:natV [1]=1:=rfl;have ac:=qahm (qad (M/2^k)) [1] (by omega) (by simp) (qaf _) l1;have hq1:cutQ M e more p (neg != up)=M/2^k+1:=by rw[hcq,ho];simp
   rw[qac,v1,<-hq1]at ac;have ho2:(neg == up)=false:=by cases neg<;>cases up<;>simp at ho ⊢
   simp[h3,ho2,h16];refine qau (args:=[lim (qad (M/2^k)),.ref (H.length+1) 1 0 1]) (vs:=[lim (qad (M/2^k)),lim [1]]) (H1:=H++some ⟨3,[.agg [.bool false,.nil,.int .i64 0]],false,true⟩ :: [some ⟨1,[.int .u32 1],true,false⟩]) rfl ?_ ?_ ac ?_
   ·simp
   ·refine Eq.trans (b:=frzVs _ _) rfl ?_;simp[frzVs,frzV,qby,lim,u32]
   simp;exact qb1 (qyw [some ⟨1,[.int .u32 1],true,false⟩] neg (neg != up) (cutQ M e more p (neg != up)) e k p hp (by omega) (by omega) (by omega) (by omega) (by simp[h0]) (by simp[h2]) (by simp[h4]) (by simp[h12]) (by simp[h13]) (by simp[h15]) (by simp) (by rw[ho];simp)) (fun x E1 H1 h=>by simpa using h)
  ·have hq0:cutQ M e more p (neg != up)=M/2^k:=by
    rw[hcq];cases lost<;>cases h:(neg != up)<;>simp[h]at hb ⊢
   have ct:=fun(E:Env) h0 h2 h4 h12 h13 h15 h16 h17=>qyw (H:=H) (E:=E) [] neg (neg != up) (cutQ M e more p (neg != up)) e k p hp (by omega) (by omega) (by omega) (by omega) h0 h2 h4 h12 h13 h15 h16 h17
   cases lost
   ·simp[h3];exact qb1 (ct _ (by simp[h0]) (by simp[h2]) (by simp[h4]) (by simp[h12]) (by simp[h13]) (by simp[h15]) (by simp[h16,hq0]) (by simp[hout])) (fun x E1 H1 h=>by simpa using h)
   ·have ho2:(neg == up)=true:=by cases neg<;>cases up<;>simp at hb ⊢
    simp[h3,ho2];exact qb1 (ct _ (by simp[h0]) (by simp[h2]) (by simp[h4]) (by simp[h12]) (by simp[h13]) (by simp[h15]) (by simp[h16,hq0]) (by rw[<-hout,ho2];simp)) (fun x E1 H1 h=>by simpa using h)
 refine qdd (b:=qa5 1 c_fpref03_Cut.body) ?_;refine qam ?_;simp;refine qdd (b:=qa5 2 c_fpref03_Cut.body) ?_;refine qam ?_;simp;refine qaa rfl rfl rfl (qg6 m (by omega)) ?_;rw[qal lm,<-hM];simp;refine qdd (b:=qa5 3 c_fpref03_Cut.body) ?_;refine qam ?_;simp;refine zq bc ?_;simp;refine qdd (b:=qa5 4 c_fpref03_Cut.body) ?_;refine qam ?_;simp[w1,w2,hmax];refine qdd (b:=qa5 5 c_fpref03_Cut.body) ?_;refine qam ?_;simp;refine zq sc ?_;simp;refine qdd (b:=qa5 6 c_fpref03_Cut.body) ?_;refine qam ?_;by_cases hk0:k=0
 ·subst hk0;simp;exact qb1 (tail6 _ more (by simp[Nat.mod_one]) (by simp) (by simp) (by simp) (by simp) (by simp) (by simp) (by simp) (by simp) (by simp)) (fun x E1 H1 h=>by simpa using h)
 ·have hkp:0<k:=by omega
  have hle:M/2^k*2^k<=M:=Nat.div_mul_le_self _ _;have lc:=qxi (qad (M/2^k)) k (by omega) (qaf _) (by omega);rw[qac]at lc;have hl2:(qad (M/2^k*2^k)).length<=20000:=Nat.le_trans (qbq hle hlen) (by omega);have cc:=q7o (qad (M/2^k*2^k)) (qad M) (qaf _) (qaf _) (by omega) (by omega);rw[qac,qac]at cc;have hne:cmpN (M/2^k*2^k) M=0↔M%2^k=0:=by
   rw[qaf9];have:=Nat.div_add_mod' M (2^k);omega
  simp[hkp];refine zq lc ?_;simp;refine zq cc ?_;by_cases hz:M%2^k=0
  ·simp[hne,hz];exact qb1 (tail6 _ more (by simp[hz]) (by simp) (by simp) (by simp) (by simp) (by simp) (by simp) (by simp) (by simp) (by simp)) (fun x E1 H1 h=>by simpa using h)
  ·simp[hne,hz];exact qb1 (tail6 _ true (by simp[hz]) (by simp) (by simp) (by simp) (by simp) (by simp) (by simp) (by simp) (by simp) (by simp)) (fun x E1 H1 h=>by simpa using h)
end Go.Abs.W
namespace Go.Abs.W
set_option maxHeartbeats 4000000
theorem q9w (d:Dy)(p:Nat)(up:Bool)(hm:d.m.length<=10000)(lm:Li d.m)(he1:-100000<=d.e)(he2:d.e<=100000)(hp:p<=512) :
 CQ prog qwd [d.v,.int .i64 p,.bool up] (.tup [(cutR d.neg (natV d.m) d.e false p up).1.v,.int .i64 (cutR d.neg (natV d.m) d.e false p up).2]):=by
 refine qah rfl fun H=>?_
 simp;refine qaa rfl rfl rfl (q2q d.neg d.m d.e false p up hm lm he1 he2 hp) ?_;simp[lim]
theorem q0s {neg:Bool}{N:Nat}{e:Int}{b:Nat}(hb:bitL N<=b)(he1:-60000<=e)(he2:e<=60000)(hbb:b<=40000) :
 (Dy.of neg N e).m.length<=10000/\Li (Dy.of neg N e).m/\-100000<=(Dy.of neg N e).e/\(Dy.of neg N e).e<=100000:=by
 by_cases h:N=0
 ·subst h;have:Dy.of neg 0 e=⟨false,[],0⟩:=by simp[Dy.of]
  rw[this];exact⟨by simp,by intro x hx;simp at hx,by simp,by simp⟩
 ·have hd:Dy.of neg N e=⟨neg,qad (N/2^tz N),e+tz N⟩:=by simp[Dy.of,h]
  rw[hd];have h1:=qagi h;have h2:=qkh (q:=N/2^tz N) (b:=b) (by omega);exact⟨by simp only;omega,qaf _,by simp only;omega,by simp only;omega⟩
theorem Dy.Ok.size {d:Dy}(h:d.Ok):d.m.length<=10000/\Li d.m/\-100000<=d.e/\d.e<=100000:=by
 have h1:=h.elo;have h2:=h.ehi;have h3:=h.len;exact⟨by omega,h.li,by omega,by omega⟩
theorem qahx {a b:Dy}(oa:a.Ok)(ob:b.Ok):(a.sum b).m.length<=10000/\Li (a.sum b).m/\-100000<=(a.sum b).e/\(a.sum b).e<=100000:=by
 unfold Dy.sum;by_cases na:a.m=[]
 ·rw[if_pos na];exact ob.size
 ·by_cases nb:b.m=[]
  ·rw[if_neg na,if_pos nb];exact oa.size
  ·rw[if_neg na,if_neg nb];have e1:=oa.elo;have e2:=oa.ehi;have e3:=ob.elo;have e4:=ob.ehi;have ba:=oa.bits;have bb:=ob.bits;have⟨e,he⟩:∃e,e=min a.e b.e:=⟨_,rfl⟩
   simp only[<-he];have⟨B,hB⟩:∃B,B=37000:=⟨_,rfl⟩
   have hX:bitL (sumX a e)<=B:=by
    refine qa7 ?_;unfold sumX;refine Nat.lt_of_lt_of_le (Nat.mul_lt_mul_of_pos_right (qbn _) (Nat.two_pow_pos _)) ?_;rw[<-Nat.pow_add];exact Nat.pow_le_pow_right (by omega) (by omega)
   have hY:bitL (sumX b e)<=B:=by
    refine qa7 ?_;unfold sumX;refine Nat.lt_of_lt_of_le (Nat.mul_lt_mul_of_pos_right (qbn _) (Nat.two_pow_pos _)) ?_;rw[<-Nat.pow_add];exact Nat.pow_le_pow_right (by omega) (by omega)
   have hXY:bitL (sumX a e+sumX b e)<=B+1:=by
    refine qa7 ?_;have h1:sumX a e<2^B:=Nat.lt_of_lt_of_le (qbn _) (Nat.pow_le_pow_right (by omega) hX);have h2:sumX b e<2^B:=Nat.lt_of_lt_of_le (qbn _) (Nat.pow_le_pow_right (by omega) hY);rw[Nat.pow_succ];omega
   split
   ·exact q0s hXY (by omega) (by omega) (by omega)
   ·split
    ·exact q0s (Nat.le_trans (qat (Nat.sub_le _ _)) hX) (by omega) (by omega) (by omega)
    ·exact q0s (Nat.le_trans (qat (Nat.sub_le _ _)) hY) (by omega) (by omega) (by omega)
theorem qaap (a b:Dy)(p:Int)(up:Bool)(wa:a.W)(wb:b.W):CQ prog q1o [a.v,b.v,.int .i64 p,.bool up] (.tup [(rAdd a b p up).1.v,.int .i64 (rAdd a b p up).2]):=by
 refine qah rfl fun H=>?_
 have fc:=qrv a b p wa wb;simp;refine zq fc ?_;by_cases hf:qbz [a,b] p=0
 ·obtain⟨hv,hp8,hp5⟩:=qc9 hf;have oa:=Dy.Ok.of wa.li (hv a (by simp));have ob:=Dy.Ok.of wb.li (hv b (by simp));obtain⟨P,rfl⟩:∃P:Nat,p=P:=⟨p.toNat,by omega⟩
  obtain⟨s1,s2,s3,s4⟩:=qahx oa ob;have xc:=q9w (a.sum b) P up s1 s2 s3 s4 (by omega);simp[hf];refine qaa rfl rfl rfl (qaai a b oa.toM ob.toM) ?_;simp;refine zq xc ?_;simp[rAdd,hf,lim]
 ·simp[hf,rAdd,Dy.zero,lim]
theorem qaam (a b:Dy)(p:Int)(up:Bool)(wa:a.W)(wb:b.W):CQ prog q1l [a.v,b.v,.int .i64 p,.bool up] (.tup [(rMul a b p up).1.v,.int .i64 (rMul a b p up).2]):=by
 refine qah rfl fun H=>?_
 have fc:=qrv a b p wa wb;simp;refine zq fc ?_;by_cases hf:qbz [a,b] p=0
 ·obtain⟨hv,hp8,hp5⟩:=qc9 hf;have oa:=Dy.Ok.of wa.li (hv a (by simp));have ob:=Dy.Ok.of wb.li (hv b (by simp));obtain⟨P,rfl⟩:∃P:Nat,p=P:=⟨p.toNat,by omega⟩
  have e1:=oa.elo;have e2:=oa.ehi;have e3:=ob.elo;have e4:=ob.ehi;have ba:=oa.bits;have bb:=ob.bits;have hbit:bitL (natV a.m*natV b.m)<=9000:=by
   refine Nat.le_trans (qa7 (b:=bitL (natV a.m)+bitL (natV b.m)) ?_) (by omega);rw[Nat.pow_add];exact Nat.mul_lt_mul'' (qbn _) (qbn _)
  obtain⟨s1,s2,s3,s4⟩:=q0s (neg:=a.neg != b.neg) (e:=a.e+b.e) hbit (by omega) (by omega) (by omega);have xc:=q9w (a.prod b) P up s1 s2 s3 s4 (by omega);have hc:cutR (a.prod b).neg (natV (a.prod b).m) (a.prod b).e false P up=cutR (a.neg != b.neg) (natV a.m*natV b.m) (a.e+b.e) false P up:=qw0;rw[hc]at xc;simp[hf];refine qaa rfl rfl rfl (qab6 a b oa.toM ob.toM) ?_;simp;refine zq xc ?_;simp[rMul,hf,lim]
 ·simp[hf,rMul,Dy.zero,lim]
theorem qaao (a b:Dy)(p:Int)(up:Bool)(wa:a.W)(wb:b.W):CQ prog q1m [a.v,b.v,.int .i64 p,.bool up] (.tup [(rDiv a b p up).1.v,.int .i64 (rDiv a b p up).2]):=by
 refine qah rfl fun H=>?_
 have fc:=qrv a b p wa wb;simp;refine zq fc ?_;by_cases hf:qbz [a,b] p=0
 ·obtain⟨hv,hp8,hp5⟩:=qc9 hf;have va:=hv a (by simp);have vb:=hv b (by simp);have oa:=Dy.Ok.of wa.li va;have ob:=Dy.Ok.of wb.li vb;obtain⟨P,rfl⟩:∃P:Nat,p=P:=⟨p.toNat,by omega⟩
  by_cases nb:b.m=[]
  ·simp[hf,lim,nb,rDiv,Dy.zero]
  ·by_cases na:a.m=[]
   ·simp[hf,lim,na,nb,rDiv,Dy.zero]
   ·have ba:=oa.bits;have bb:=ob.bits;have h1:=oa.elo;have h2:=oa.ehi;have h3:=ob.elo;have h4:=ob.ehi;have hla:=oa.len;have hlb:=ob.len;have hA:=qeq oa.tr na;have hB:=qeq ob.tr nb;have dba:=qkp a.m (by omega) oa.li;have dbb:=qkp b.m (by omega) ob.li;have hka:bitL (natV a.m)+divK a b P 2<=4620/\divK a b P 2<=4620:=by unfold divK;omega
    obtain⟨k1,k3⟩:=hka;have hmax:(if(bitL (natV a.m):Int)<(P:Int)+2+bitL (natV b.m)then(P:Int)+2+bitL (natV b.m)-bitL (natV a.m)else 0)=(divK a b P 2:Int):=by unfold divK;split<;>omega
    have hres:rDiv a b P up=cutR (a.neg != b.neg) (natV a.m*2^divK a b P 2/natV b.m) (a.e-b.e-divK a b P 2) (decide (natV a.m*2^divK a b P 2%natV b.m≠0)) P up:=by
     rw[rDiv,if_pos hf,if_neg nb,if_neg na,Int.toNat_natCast]
    have⟨k,hk⟩:∃k,k=divK a b P 2:=⟨_,rfl⟩
    rw[<-hk]at k1 k3 hmax hres;have hsb:bitL (natV a.m*2^k)<=4620:=by
     have:=qfd (m:=natV a.m) (j:=k) (r:=0) hA (Nat.two_pow_pos k);rw[Nat.add_zero]at this;rw[this];exact k1
    have⟨La,hLa⟩:∃La,La=bitL (natV a.m):=⟨_,rfl⟩
    have⟨Lb,hLb⟩:∃Lb,Lb=bitL (natV b.m):=⟨_,rfl⟩
    rw[<-hLa]at ba dba k1 hmax;rw[<-hLb]at bb dbb hmax;have w1:IntKind.i64.wrap ((P:Int)+2)=(P:Int)+2:=by rw[wrap_i64]<;>omega
    have w2:IntKind.i64.wrap ((P:Int)+2+Lb)=(P:Int)+2+Lb:=by rw[wrap_i64]<;>omega
    have w3:IntKind.i64.wrap ((P:Int)+2+Lb-La)=(P:Int)+2+Lb-La:=by rw[wrap_i64]<;>omega
    have w4:IntKind.i64.wrap (a.e-b.e)=a.e-b.e:=by rw[wrap_i64]<;>omega
    have w5:IntKind.i64.wrap (a.e-b.e-k)=a.e-b.e-k:=by rw[wrap_i64]<;>omega
    have sc:=qxi a.m k (by omega) oa.li (by omega);have⟨W,hW⟩:∃W,W=natV a.m*2^k:=⟨_,rfl⟩
    rw[<-hW]at hsb sc hres;have hl:=qkh hsb;have dc:=qab8 (qad W) b.m (by omega) (by omega) (qaf _) ob.li (by omega);rw[qac]at dc;have hqs:bitL (W/natV b.m)<=4620:=Nat.le_trans (qat (Nat.div_le_self _ _)) hsb;have hql:=qkh hqs;have hrl:(qad (W%natV b.m)).length<=200:=Nat.le_trans (qbq (Nat.mod_le _ _) (Nat.le_refl _)) (by omega);have bc:=qkp (qad (W%natV b.m)) (by omega) (qaf _);rw[qac]at bc;have hmore:decide (W%natV b.m≠0)=decide (0<bitL (W%natV b.m)):=by
     rw[decide_eq_decide];have:=bitL_eq0 (n:=W%natV b.m);omega
    have gc:=q2q (a.neg != b.neg) (qad (W/natV b.m)) (a.e-b.e-k) (decide (W%natV b.m≠0)) P up (by omega) (qaf _) (by omega) (by omega) (by omega);rw[qac,<-hres,hmore]at gc;have⟨B0,hB0⟩:∃B0,B0=bitL (W%natV b.m):=⟨_,rfl⟩
    rw[<-hB0]at bc gc;simp[hf,lim,na,nb,w1];refine zq dbb ?_;simp[w2];refine zq dba ?_;simp[w3,hmax];refine zq sc ?_;simp;refine zq dc ?_;simp[w4,w5];refine zq bc ?_;simp;refine qaa (vs:=[.bool (a.neg != b.neg),lim (qad (W/natV b.m)),.int .i64 (a.e-b.e-k),.bool (decide (0<B0)),.int .i64 P,.bool up]) rfl rfl ?_ gc ?_
    ·refine Eq.trans (b:=frzVs _ _) rfl ?_;simp[frzVs,frzV];cases a.neg<;>cases b.neg<;>rfl
    simp[lim]
 ·simp[hf,rDiv,Dy.zero,lim]
theorem q5n (d:Dy)(p:Int)(up:Bool)(w:d.W):CQ prog qx3 [d.v,.int .i64 p,.bool up] (.tup [(rSqrt d p up).1.v,.int .i64 (rSqrt d p up).2]):=by
 refine qah rfl fun H=>?_
 have hff:qbz [d,d] p=qbz [d] p:=by simp[qbz]
 have fc:=qrv d d p w w;rw[hff]at fc;simp;refine zq fc ?_;by_cases hf:qbz [d] p=0
 ·obtain⟨hv,hp8,hp5⟩:=qc9 hf;have vd:=hv d (by simp);have od:=Dy.Ok.of w.li vd;obtain⟨P,rfl⟩:∃P:Nat,p=P:=⟨p.toNat,by omega⟩
  cases hneg:d.neg
  ·by_cases nd:d.m=[]
   ·simp[hf,hneg,lim,nd,rSqrt,Dy.zero]
   ·have hbd:=od.bits;have h1:=od.elo;have h2:=od.ehi;have hld:=od.len;have hA:=qeq od.tr nd;have db:=qkp d.m (by omega) od.li;have hres:rSqrt d P up=cutR false (isq (natV d.m*2^sqK d P)) ((d.e-sqK d P)/2) (decide (isq (natV d.m*2^sqK d P)*isq (natV d.m*2^sqK d P)≠natV d.m*2^sqK d P)) P up:=by
     rw[rSqrt,if_pos hf,hneg,if_neg (by simp),if_neg nd,Int.toNat_natCast]
    have hk:sqK d P<=1040/\bitL (natV d.m)+sqK d P<=4100/\2*P+4<=bitL (natV d.m)+sqK d P/\(d.e-sqK d P)%2=0:=by unfold sqK;split<;>omega
    obtain⟨k1,k2,k3,k4⟩:=hk;have⟨k0,hk0⟩:∃k0,k0=(max 0 (2*(P:Int)+4-bitL (natV d.m))).toNat:=⟨_,rfl⟩
    have hmax:(if(bitL (natV d.m):Int)<2*(P:Int)+4 then 2*(P:Int)+4-bitL (natV d.m)else 0)=(k0:Int):=by rw[hk0];split<;>omega
    have hkk:sqK d P=k0+(if(d.e-k0)%2=0 then 0 else 1):=by rw[sqK,hk0]
    have⟨k,hkd⟩:∃k,k=sqK d P:=⟨_,rfl⟩
    rw[<-hkd]at k1 k2 k3 k4 hkk hres;have⟨L,hL⟩:∃L,L=bitL (natV d.m):=⟨_,rfl⟩
    rw[<-hL]at hbd db k2 k3 hmax hk0;have w1:IntKind.i64.wrap (2*(P:Int))=2*(P:Int):=by rw[wrap_i64]<;>omega
    have w2:IntKind.i64.wrap (2*(P:Int)+4)=2*(P:Int)+4:=by rw[wrap_i64]<;>omega
    have w3:IntKind.i64.wrap (2*(P:Int)+4-L)=2*(P:Int)+4-L:=by rw[wrap_i64]<;>omega
    have w4:IntKind.i64.wrap (d.e-k0)=d.e-k0:=by rw[wrap_i64]<;>omega
    have w5:IntKind.i64.wrap (d.e-k)=d.e-k:=by rw[wrap_i64]<;>omega
    have w6:IntKind.i64.wrap ((k0:Int)+1)=(k0:Int)+1:=by rw[wrap_i64]<;>omega
    have⟨T,hT⟩:∃T,T=(d.e-k)/2:=⟨_,rfl⟩
    have hT2:d.e-k=2*T:=by omega
    rw[<-hT]at hres;have q1:(d.e-k).tdiv 2=T:=by rw[hT2,Int.mul_tdiv_cancel_left _ (by omega)]
    have w7:IntKind.i64.wrap T=T:=by rw[wrap_i64]<;>omega
    have hsb:bitL (natV d.m*2^k)=L+k:=by
     have:=qfd (m:=natV d.m) (j:=k) (r:=0) hA (Nat.two_pow_pos k);rw[Nat.add_zero]at this;rw[this,<-hL]
    have⟨M,hM⟩:∃M,M=natV d.m*2^k:=⟨_,rfl⟩
    rw[<-hM]at hsb hres;have hl:=qkh (q:=M) (b:=4100) (by omega);have sc:=qxi d.m k (by omega) od.li (by omega);rw[<-hM]at sc;have qc:=qaka (qad M) (by omega) (qaf _);rw[qac]at qc;have i2:=(q9e (m:=M) (c:=P+2) (by omega) (by omega)).2;have hss:=(qc2 M).1;have⟨S,hS⟩:∃S,S=isq M:=⟨_,rfl⟩
    rw[<-hS]at hres qc i2 hss;have hsl:=qkh (q:=S) (b:=4100) (by omega);have hssl:=qkh (q:=S*S) (b:=4100) (by have:=qat hss;omega);have mc:=qahc (qad S) (qad S) (by omega) (by omega) (qaf _) (qaf _);rw[qac]at mc;have cc:=q7o (qad (S*S)) (qad M) (qaf _) (qaf _) (by omega) (by omega);rw[qac,qac]at cc;have hmore:decide (S*S≠M)=!decide (cmpN (S*S) M=0):=by
     simp[qaf9]
    have gc:=q2q false (qad S) T (decide (S*S≠M)) P up (by omega) (qaf _) (by omega) (by omega) (by omega);rw[qac,<-hres,hmore]at gc;have⟨c,hc⟩:∃c,c=cmpN (S*S) M:=⟨_,rfl⟩
    rw[<-hc]at cc gc;simp[hf,lim,nd,w1,w2];refine zq db ?_;by_cases hpar:(d.e-k0)%2=0
    ·have hk0k:k=k0:=by rw[hkk,if_pos hpar,Nat.add_zero]
     have t1:(d.e-(k0:Int)).tmod 2=0:=by
      rw[<-hk0k,hT2,Int.mul_tmod_right]
     subst hk0k;simp[w3,hmax,w4,t1];refine zq sc ?_;simp;refine zq qc ?_;simp[w5,q1,w7];refine zq mc ?_;simp;refine zq cc ?_;simp;refine zq gc ?_;simp[lim]
    ·have hk0k:k=k0+1:=by rw[hkk,if_neg hpar]
     have t1:¬(d.e-(k0:Int)).tmod 2=0:=by
      intro h;have:=Int.dvd_of_tmod_eq_zero h;omega
     have w6':IntKind.i64.wrap ((k0:Int)+1)=(k:Int):=by rw[w6];omega
     simp[w3,hmax,w4,t1,w6'];refine zq sc ?_;simp;refine zq qc ?_;simp[w5,q1,w7];refine zq mc ?_;simp;refine zq cc ?_;simp;refine zq gc ?_;simp[lim]
  ·have nd:d.m≠[]:=fun h=>by have:=(od.zero h).1;rw[hneg]at this;cases this
   simp[hf,hneg,rSqrt,Dy.zero,lim]
 ·simp[hf,rSqrt,Dy.zero,lim]
end Go.Abs.W
namespace Go.Abs.W
def Iv.made (r s:Dy × Int):Iv:=if r.2=0/\s.2=0 then⟨r.1,s.1,false⟩else Iv.whole
def Iv.add (x y:Iv)(p:Int):Iv:=if(x.known&&y.known&&precB p)=true then Iv.made (rAdd x.lo y.lo p false) (rAdd x.hi y.hi p true)else Iv.whole
def Iv.neg (x:Iv):Iv:=if x.known=true then⟨x.hi.neg',x.lo.neg',false⟩else Iv.whole
def Iv.rnd (x:Iv)(p:Int):Iv:=if(x.known&&precB p)=true then Iv.made (qcd x.lo p false) (qcd x.hi p true)else Iv.whole
def Iv.scl (x:Iv)(k:Int):Iv:=if x.known=true then Iv.made (x.lo.scl k,x.lo.sclE k) (x.hi.scl k,x.hi.sclE k)else Iv.whole
def Iv.sgn (x:Iv):Int:=if x.known=true then(if 0<x.lo.sgn then 1 else if x.hi.sgn<0 then -1 else 0)else 0
def Iv.sqrt (x:Iv)(p:Int):Iv:=if(x.known&&precB p&&decide (0<x.lo.sgn))=true then Iv.made (rSqrt x.lo p false) (rSqrt x.hi p true)else Iv.whole
theorem Dy.zero_W : Dy.zero.W:=Dy.zero_ok.w
theorem Iv.whole_W : Iv.whole.W:=⟨Dy.zero_W,Dy.zero_W⟩
theorem rRound_ok {d:Dy}{p:Int}{up:Bool}:(qcd d p up).1.Ok:=by
 unfold qcd;split
 ·rename_i h;obtain⟨_,h1,h2⟩:=qc9 h;exact qsr (by omega) (by omega)
 ·exact Dy.zero_ok
theorem rAdd_ok {a b:Dy}{p:Int}{up:Bool}:(rAdd a b p up).1.Ok:=by
 unfold rAdd;split
 ·rename_i h;obtain⟨_,h1,h2⟩:=qc9 h;exact qsr (by omega) (by omega)
 ·exact Dy.zero_ok
theorem rMul_ok {a b:Dy}{p:Int}{up:Bool}:(rMul a b p up).1.Ok:=by
 unfold rMul;split
 ·rename_i h;obtain⟨_,h1,h2⟩:=qc9 h;exact qsr (by omega) (by omega)
 ·exact Dy.zero_ok
theorem qep {a b:Dy}{p:Int}{up:Bool}:(rDiv a b p up).1.Ok:=by
 unfold rDiv;split
 ·rename_i h;obtain⟨_,h1,h2⟩:=qc9 h;split
  ·exact Dy.zero_ok
  ·split
   ·exact Dy.zero_ok
   ·exact qsr (by omega) (by omega)
 ·exact Dy.zero_ok
theorem rSqrt_ok {d:Dy}{p:Int}{up:Bool}:(rSqrt d p up).1.Ok:=by
 unfold rSqrt;split
 ·rename_i h;obtain⟨_,h1,h2⟩:=qc9 h;split
  ·exact Dy.zero_ok
  ·split
   ·exact Dy.zero_ok
   ·exact qsr (by omega) (by omega)
 ·exact Dy.zero_ok
theorem qard {neg:Bool}{n:Nat}{e:Int}:(Dy.of neg n e).chk.Ok:=by
 unfold Dy.chk;split
 ·rename_i h;exact Dy.of_ok h
 ·exact Dy.zero_ok
theorem qakx {d:Dy}{k:Int}:(d.scl k).Ok:=by
 unfold Dy.scl;split
 ·exact qard
 ·exact Dy.zero_ok
theorem q33 {r s:Dy × Int}(hr:r.1.W)(hs:s.1.W):(Iv.made r s).W:=by
 unfold Iv.made;split
 ·exact⟨hr,hs⟩
 ·exact Iv.whole_W
theorem q2o (r s:Dy × Int):CQ prog qxy [r.1.v,.int .i64 r.2,s.1.v,.int .i64 s.2] (Iv.made r s).v:=by
 refine qah rfl fun H=>?_
 by_cases hr:r.2=0
 ·by_cases hs:s.2=0
  ·simp[hr,hs,Iv.made,lim]
  ·simp[hr,hs];refine zq qbi ?_;simp[Iv.made,hs,lim]
 ·simp[hr];refine zq qbi ?_;simp[Iv.made,hr,lim]
theorem q3o (p:Int):CQ prog qpr [.int .i64 p] (.bool (precB p)):=by
 refine qah rfl fun H=>?_
 simp[precB];grind
theorem qrz (p:Int):CQ prog qx2 [.int .i64 p] (.bool (precB p)):=by
 refine qah rfl fun H=>?_
 simp[precB];grind
theorem qaiy {d:Dy}(h:d.Ok):d.opp=d.neg':=by
 unfold Dy.opp Dy.neg';rw[h.valid];by_cases hm:d.m=[]
 ·obtain⟨h1,h2⟩:=h.zero hm;simp[hm,h2,Dy.zero]
 ·simp[hm]
theorem qa9 {d:Dy}(h:d.Ok):d.neg'.Ok:=by
 refine⟨h.li,h.tr,h.len,?_,h.odd,h.bits,h.elo,h.ehi,h.top⟩;intro hm;have hm':d.m=[]:=hm;exact⟨by simp[Dy.neg',hm'],(h.zero hm').2⟩
theorem neg_W {x:Iv}(w:x.W):x.neg.W:=by
 unfold Iv.neg;split
 ·rename_i h;obtain⟨h1,h2⟩:=qai w h;exact⟨(qa9 h2).w,(qa9 h1).w⟩
 ·exact Iv.whole_W
theorem add_W {x y:Iv}{p:Int}:(x.add y p).W:=by
 unfold Iv.add;split
 ·exact q33 rAdd_ok.w rAdd_ok.w
 ·exact Iv.whole_W
theorem qfe (x y:Iv)(p:Int)(wx:x.W)(wy:y.W):CQ prog qrc [x.v,y.v,.int .i64 p] (x.add y p).v:=by
 refine qah rfl fun H=>?_
 simp;refine qaa rfl rfl rfl (qrz p) ?_;cases hp:precB p
 ·simp;refine zq qbi ?_;simp[Iv.add,hp,lim]
 ·simp;refine qaa rfl rfl rfl (qe6 x wx) ?_;cases hx:x.known
  ·simp;refine zq qbi ?_;simp[Iv.add,hx,lim]
  ·simp;refine qaa rfl rfl rfl (qe6 y wy) ?_;cases hy:y.known
   ·simp;refine zq qbi ?_;simp[Iv.add,hy,lim]
   ·simp;refine qaa rfl rfl rfl (qaap x.lo y.lo p false wx.lo wy.lo) ?_;simp;refine qaa rfl rfl rfl (qaap x.hi y.hi p true wx.hi wy.hi) ?_;simp;refine qaa rfl rfl rfl (q2o (rAdd x.lo y.lo p false) (rAdd x.hi y.hi p true)) ?_;simp[Iv.add,hx,hy,hp,lim]
theorem qpn (x:Iv)(wx:x.W):CQ prog q1i [x.v] x.neg.v:=by
 refine qah rfl fun H=>?_
 simp;refine qaa rfl rfl rfl (qe6 x wx) ?_;cases hk:x.known
 ·simp;refine zq qbi ?_;simp[Iv.neg,hk,lim]
 ·simp;refine qaa rfl rfl rfl (qj6 x.hi) ?_;simp;refine qaa rfl rfl rfl (qj6 x.lo) ?_;simp[Iv.neg,hk,lim]
theorem q2p (x y:Iv)(p:Int)(wx:x.W)(wy:y.W):CQ prog qq9 [x.v,y.v,.int .i64 p] (x.add y.neg p).v:=by
 refine qah rfl fun H=>?_
 simp;refine qaa rfl rfl rfl (qpn y wy) ?_;simp;refine qaa rfl rfl rfl (qfe x y.neg p wx (neg_W wy)) ?_;simp[lim]
theorem qpm (x:Iv)(k:Int)(wx:x.W):CQ prog qix [x.v,.int .i64 k] (x.scl k).v:=by
 refine qah rfl fun H=>?_
 simp;refine qaa rfl rfl rfl (qe6 x wx) ?_;cases hx:x.known
 ·simp;refine zq qbi ?_;simp[Iv.scl,hx,lim]
 ·by_cases hk:-32768<=k/\k<=32768
  ·have h1:¬k < -32768:=by omega
   have h2:¬32768<k:=by omega
   simp[h1,h2];refine qaa rfl rfl rfl (q5o x.lo k wx.lo) ?_;simp;refine qaa rfl rfl rfl (q5o x.hi k wx.hi) ?_;simp;refine qaa rfl rfl rfl (q2o (x.lo.scl k,x.lo.sclE k) (x.hi.scl k,x.hi.sclE k)) ?_;simp[Iv.scl,hx,lim]
  ·have hs:x.scl k=Iv.whole:=by
    have:¬(x.lo.valid=true/\-32768<=k/\k<=32768):=fun h=>hk h.2
    simp[Iv.scl,hx,Iv.made,Dy.sclE,this]
   rw[hs];by_cases h1:k < -32768
   ·simp[h1];refine zq qbi ?_;simp[lim]
   ·have h2:32768<k:=by omega
    simp[h1,h2];refine zq qbi ?_;simp[lim]
theorem qake (x:Iv)(wx:x.W):CQ prog qvy [x.v] (.int .i64 x.sgn):=by
 refine qah rfl fun H=>?_
 simp;refine qau rfl rfl (H1:=H++[some ⟨7,[x.v],false,true⟩,some ⟨7,[x.v],true,false⟩]) (vs:=[ivs [x]]) (by simp[prep,frzVs,frzV];rfl) (q01 [x] (by simp) (by simpa using wx)) ?_;cases hk:x.known
 ·simp[hk,Iv.sgn]
 ·obtain⟨h1,h2⟩:=qai wx hk;have s1:=qsy x.lo wx.lo;have s2:=qsy x.hi wx.hi;rw[h1.valid]at s1;rw[h2.valid]at s2;simp[hk];refine zq s1 ?_;by_cases hp:0<x.lo.sgn
  ·simp[Iv.sgn,hk,hp]
  ·simp[hp];refine zq s2 ?_;by_cases hn:x.hi.sgn<0
   ·simp[Iv.sgn,hk,hp,hn]
   ·simp[Iv.sgn,hk,hp,hn]
theorem qxk (x:Iv)(wx:x.W):CQ prog qx1 [x.v] (.int .i64 x.sgn):=by
 refine qah rfl fun H=>?_
 simp;refine qaa rfl rfl rfl (qe6 x wx) ?_;cases hk:x.known
 ·simp[hk,Iv.sgn]
 ·simp;refine qaa rfl rfl rfl (qry x.lo) ?_;by_cases hp:0<x.lo.sgn
  ·simp[Iv.sgn,hk,hp]
  ·simp[hp];refine qaa rfl rfl rfl (qry x.hi) ?_;by_cases hn:x.hi.sgn<0
   ·simp[Iv.sgn,hk,hp,hn]
   ·simp[Iv.sgn,hk,hp,hn]
theorem sgn_pos {x:Iv}:0<x.sgn↔x.known=true/\0<x.lo.sgn:=by
 unfold Iv.sgn;cases x.known
 ·simp
 ·by_cases h:0<x.lo.sgn
  ·simp[h]
  ·simp[h];split<;>omega
theorem q5p (x:Iv)(p:Int)(wx:x.W):CQ prog qx0 [x.v,.int .i64 p] (x.sqrt p).v:=by
 refine qah rfl fun H=>?_
 simp;refine qaa rfl rfl rfl (qrz p) ?_;cases hp:precB p
 ·simp;refine zq qbi ?_;simp[Iv.sqrt,hp,lim]
 ·simp;refine qaa rfl rfl rfl (qxk x wx) ?_;by_cases hs:0<x.sgn
  ·have hs':¬x.sgn<=0:=by omega
   obtain⟨hk,hlo⟩:=sgn_pos.1 hs;simp[hs'];refine qaa rfl rfl rfl (q5n x.lo p false wx.lo) ?_;simp;refine qaa rfl rfl rfl (q5n x.hi p true wx.hi) ?_;simp;refine qaa rfl rfl rfl (q2o (rSqrt x.lo p false) (rSqrt x.hi p true)) ?_;simp[Iv.sqrt,hk,hp,hlo,lim]
  ·have hs':x.sgn<=0:=by omega
   have hw:x.sqrt p=Iv.whole:=by
    unfold Iv.sqrt;rw[if_neg];intro h;simp at h;exact hs (sgn_pos.2 ⟨h.1.1,h.2⟩)
   rw[hw];simp[hs'];refine zq qbi ?_;simp[lim]
theorem qie {a b:Dy}(ha:a.Ok)(hb:b.Ok):a.cmp b=cmpI a.val b.val:=by simp[Dy.cmp,ha.valid,hb.valid]
theorem cmpI_le {x y:Int}:cmpI x y<=0↔x<=y:=by unfold cmpI;split<;>(try split)<;>omega
theorem qaga {x y:Int}:0<=cmpI x y↔y<=x:=by unfold cmpI;split<;>(try split)<;>omega
theorem qaoa {x y:Int}:0<cmpI x y↔y<x:=by unfold cmpI;split<;>(try split)<;>omega
theorem qdv {a b:Dy}(ha:a.Ok)(hb:b.Ok):(a.lo2 b).val=min a.val b.val:=by
 unfold Dy.lo2;rw[qie ha hb];split
 ·rename_i h;rw[cmpI_le]at h;omega
 ·rename_i h;rw[cmpI_le]at h;omega
theorem qfi {a b:Dy}(ha:a.Ok)(hb:b.Ok):(a.hi2 b).val=max a.val b.val:=by
 unfold Dy.hi2;rw[qie ha hb];split
 ·rename_i h;rw[qaga]at h;omega
 ·rename_i h;rw[qaga]at h;omega
theorem qco {d:Dy}:d.neg'.val=- d.val:=by
 by_cases hm:d.m=[]
 ·have h1:d.absN=0:=Dy.absN_nil hm;have h2:d.neg'.absN=0:=Dy.absN_nil hm;simp[Dy.val,h1,h2]
 ·have h2:d.neg'.absN=d.absN:=rfl;have h3:d.neg'.neg=!d.neg:=by simp[Dy.neg',hm]
  unfold Dy.val;rw[h2,h3];cases d.neg<;>simp
theorem qr6 {d:Dy}(h:d.Ok):(0<d.sgn↔0<d.val)/\(d.sgn<0↔d.val<0):=by
 by_cases hm:d.m=[]
 ·have h1:d.absN=0:=Dy.absN_nil hm;simp[Dy.sgn,Dy.val,hm,h1]
 ·have h1:=h.absN_ne hm;unfold Dy.sgn Dy.val;rw[if_neg hm];cases d.neg<;>simp<;>omega
theorem qds {d:Dy}(h:d.Ok):d.abs.Ok:=by
 unfold Dy.abs;split
 ·rename_i h2;exact⟨h.li,h.tr,h.len,fun hm=>absurd hm h2.2,h.odd,h.bits,h.elo,h.ehi,h.top⟩
 ·exact Dy.zero_ok
theorem qgy : Dy.zero.val=0:=by
 unfold Dy.val;rw[Dy.absN_nil rfl];rfl
theorem qo4 {d:Dy}(h:d.Ok):d.abs.val=d.val.natAbs:=by
 unfold Dy.abs;rw[h.valid];by_cases hm:d.m=[]
 ·have h1:d.absN=0:=Dy.absN_nil hm;simp[hm,qgy];simp[Dy.val,h1]
 ·have h2:(⟨false,d.m,d.e⟩:Dy).absN=d.absN:=rfl;simp only[true_and,ne_eq,hm,not_false_eq_true,if_true];unfold Dy.val;rw[h2];cases d.neg<;>simp
theorem qap {x:Iv}(w:x.W)(h:x.known=true):x.lo.val<=x.hi.val:=by
 obtain⟨h1,h2⟩:=qai w h;simp[Iv.known]at h;have hv:=h.2;rw[Iv.valid,if_neg (by simp[h.1])]at hv;simp[qie h1 h2,cmpI_le]at hv;exact hv.2
def Iv.mag (x:Iv):Dy:=x.lo.abs.hi2 x.hi.abs
def Iv.mig (x:Iv):Dy:=if x.sgn=0 then Dy.zero else x.lo.abs.lo2 x.hi.abs
def Iv.abs (x:Iv):Iv:=if x.known=true then⟨x.mig,x.mag,false⟩else Iv.whole
theorem qann {x:Iv}(w:x.W)(h:x.known=true):x.lo.neg'.hi2 x.hi=x.mag:=by
 obtain⟨h1,h2⟩:=qai w h;have hle:=qap w h;refine quq (qs8 (qa9 h1) h2) (qs8 (qds h1) (qds h2)) ?_;rw[Iv.mag,qfi (qa9 h1) h2,qfi (qds h1) (qds h2),qco,qo4 h1,qo4 h2];omega
theorem qadh {x:Iv}(w:x.W)(h:x.known=true)(hs:x.sgn≠0):0<x.lo.val\/x.hi.val<0:=by
 obtain⟨h1,h2⟩:=qai w h;unfold Iv.sgn at hs;rw[if_pos h]at hs;by_cases hp:0<x.lo.sgn
 ·exact .inl ((qr6 h1).1.1 hp)
 ·rw[if_neg hp]at hs;by_cases hn:x.hi.sgn<0
  ·exact .inr ((qr6 h2).2.1 hn)
  ·rw[if_neg hn]at hs;exact absurd rfl hs
theorem qank {x:Iv}(w:x.W)(h:x.known=true)(hs:x.sgn≠0):x.lo.hi2 x.hi.neg'=x.mig:=by
 obtain⟨h1,h2⟩:=qai w h;have hle:=qap w h;have hc:=qadh w h hs;rw[Iv.mig,if_neg hs];refine quq (qs8 h1 (qa9 h2)) (qpz (qds h1) (qds h2)) ?_;rw[qfi h1 (qa9 h2),qdv (qds h1) (qds h2),qco,qo4 h1,qo4 h2];omega
theorem q32 {x:Iv}(w:x.W)(h:x.known=true):x.mag.Ok:=qs8 (qds (qai w h).1) (qds (qai w h).2)
theorem qaer {x:Iv}(w:x.W)(h:x.known=true):x.mig.Ok:=by
 unfold Iv.mig;split
 ·exact Dy.zero_ok
 ·exact qpz (qds (qai w h).1) (qds (qai w h).2)
theorem abs_W {x:Iv}(w:x.W):x.abs.W:=by
 unfold Iv.abs;split
 ·rename_i h;exact⟨(qaer w h).w,(q32 w h).w⟩
 ·exact Iv.whole_W
theorem qahb (x:Iv)(wx:x.W)(hk:x.known=true):CQ prog qrb [x.v] x.mag.v:=by
 obtain⟨h1,h2⟩:=qai wx hk;refine qah rfl fun H=>?_
 simp;refine qaa rfl rfl rfl (qj6 x.lo) ?_;simp;refine qaa rfl rfl rfl (qqa x.lo.neg' x.hi (qa9 h1) h2) ?_;rw[qann wx hk];simp[lim]
theorem qaox (x:Iv)(wx:x.W)(hk:x.known=true):CQ prog q1j [x.v] x.mig.v:=by
 obtain⟨h1,h2⟩:=qai wx hk;refine qah rfl fun H=>?_
 simp;refine qaa rfl rfl rfl (qxk x wx) ?_;by_cases hs:x.sgn=0
 ·simp[hs,Iv.mig,Dy.zero,lim]
 ·simp[hs];refine qaa rfl rfl rfl (qj6 x.hi) ?_;simp;refine qaa rfl rfl rfl (qqa x.lo x.hi.neg' h1 (qa9 h2)) ?_;rw[qank wx hk hs];simp[lim]
theorem qaan (x:Iv)(wx:x.W):CQ prog q1k [x.v] x.abs.v:=by
 refine qah rfl fun H=>?_
 simp;refine qaa rfl rfl rfl (qe6 x wx) ?_;cases hk:x.known
 ·simp;refine zq qbi ?_;simp[Iv.abs,hk,lim]
 ·simp;refine qaa rfl rfl rfl (qaox x wx hk) ?_;simp;refine qaa rfl rfl rfl (qahb x wx hk) ?_;simp[Iv.abs,hk,lim]
def pairs (x y:Iv):List (Dy × Dy):=[(x.lo,y.lo),(x.lo,y.hi),(x.hi,y.lo),(x.hi,y.hi)]
def accLo (f:Dy->Dy->Dy × Int):List (Dy × Dy)->Nat->Dy
 |_,0=>Dy.zero
 |l,i+1=>if i=0 then(f ((l.getD i (Dy.zero,Dy.zero)).1) ((l.getD i (Dy.zero,Dy.zero)).2)).1 else(accLo f l i).lo2 (f ((l.getD i (Dy.zero,Dy.zero)).1) ((l.getD i (Dy.zero,Dy.zero)).2)).1
def accHi (f:Dy->Dy->Dy × Int):List (Dy × Dy)->Nat->Dy
 |_,0=>Dy.zero
 |l,i+1=>if i=0 then(f ((l.getD i (Dy.zero,Dy.zero)).1) ((l.getD i (Dy.zero,Dy.zero)).2)).1 else(accHi f l i).hi2 (f ((l.getD i (Dy.zero,Dy.zero)).1) ((l.getD i (Dy.zero,Dy.zero)).2)).1
def Iv.four (f g:Dy->Dy->Dy × Int)(x y:Iv):Iv:=
 if(pairs x y).all (fun q=>decide ((f q.1 q.2).2=0)&&decide ((g q.1 q.2).2=0))=true then⟨accLo f (pairs x y) 4,accHi g (pairs x y) 4,false⟩else Iv.whole
def zIv : V:=.agg [.bool false,.nil,.int .i64 0,.bool false,.nil,.int .i64 0,.bool false]
def qag (x y:Iv)(i:Nat):Dy × Dy:=(pairs x y).getD i (Dy.zero,Dy.zero)
theorem q8x {x y:Iv}(wx:x.W)(wy:y.W){i:Nat}(hi:i<4):(qag x y i).1.W/\(qag x y i).2.W:=by
 obtain rfl|rfl|rfl|rfl:i=0\/i=1\/i=2\/i=3:=by omega
 all_goals simp[qag,pairs,wx.lo,wx.hi,wy.lo,wy.hi]
theorem qdb {f:Dy->Dy->Dy × Int}{x y:Iv}{i:Nat}:accLo f (pairs x y) (i+1)=if i=0 then(f (qag x y i).1 (qag x y i).2).1 else(accLo f (pairs x y) i).lo2 (f (qag x y i).1 (qag x y i).2).1:=rfl
theorem qdc {f:Dy->Dy->Dy × Int}{x y:Iv}{i:Nat}:accHi f (pairs x y) (i+1)=if i=0 then(f (qag x y i).1 (qag x y i).2).1 else(accHi f (pairs x y) i).hi2 (f (qag x y i).1 (qag x y i).2).1:=rfl
theorem qcq {f:Dy->Dy->Dy × Int}(okf:∀a b,(f a b).1.Ok){x y:Iv}:∀i,(accLo f (pairs x y) i).Ok
 |0=>Dy.zero_ok
 |i+1=>by
  rw[qdb];split
  ·exact okf _ _
  ·exact qpz (qcq okf i) (okf _ _)
theorem qcr {f:Dy->Dy->Dy × Int}(okf:∀a b,(f a b).1.Ok){x y:Iv}:∀i,(accHi f (pairs x y) i).Ok
 |0=>Dy.zero_ok
 |i+1=>by
  rw[qdc];split
  ·exact okf _ _
  ·exact qs8 (qcr okf i) (okf _ _)
def good4 (f g:Dy->Dy->Dy × Int)(x y:Iv)(i:Nat):Prop:=∀j,j<i->(f (qag x y j).1 (qag x y j).2).2=0/\(g (qag x y j).1 (qag x y j).2).2=0
theorem qd8 {f g:Dy->Dy->Dy × Int}{x y:Iv}(h:good4 f g x y 4):Iv.four f g x y=⟨accLo f (pairs x y) 4,accHi g (pairs x y) 4,false⟩:=by
 have h0:=h 0 (by omega);have h1:=h 1 (by omega);have h2:=h 2 (by omega);have h3:=h 3 (by omega);simp[qag,pairs]at h0 h1 h2 h3;unfold Iv.four;rw[if_pos];simp[pairs,h0,h1,h2,h3]
theorem q16 {f g:Dy->Dy->Dy × Int}{x y:Iv}{i:Nat}(hi:i<4)(h:(f (qag x y i).1 (qag x y i).2).2≠0\/(g (qag x y i).1 (qag x y i).2).2≠0):Iv.four f g x y=Iv.whole:=by
 unfold Iv.four;rw[if_neg];intro hc;simp[pairs]at hc;obtain rfl|rfl|rfl|rfl:i=0\/i=1\/i=2\/i=3:=by omega
 all_goals simp[qag,pairs]at h
 all_goals obtain⟨a,b,c,d⟩:=hc
 all_goals rcases h with h|h
 all_goals simp_all
def Iv.mul (x y:Iv)(p:Int):Iv:=if(x.known&&y.known&&precB p)=true then Iv.four (fun a b=>rMul a b p false) (fun a b=>rMul a b p true) x y else Iv.whole
def Iv.div (x y:Iv)(p:Int):Iv:=if(x.known&&y.known&&precB p&&decide (y.sgn≠0))=true then Iv.four (fun a b=>rDiv a b p false) (fun a b=>rDiv a b p true) x y else Iv.whole
theorem qalf {f g:Dy->Dy->Dy × Int}(okf:∀a b,(f a b).1.Ok)(okg:∀a b,(g a b).1.Ok){x y:Iv}:(Iv.four f g x y).W:=by
 unfold Iv.four;split
 ·exact⟨(qcq okf 4).w,(qcr okg 4).w⟩
 ·exact Iv.whole_W
theorem mul_W {x y:Iv}{p:Int}:(x.mul y p).W:=by
 unfold Iv.mul;split
 ·exact qalf (fun _ _=>rMul_ok) (fun _ _=>rMul_ok)
 ·exact Iv.whole_W
theorem div_W {x y:Iv}{p:Int}:(x.div y p).W:=by
 unfold Iv.div;split
 ·exact qalf (fun _ _=>qep) (fun _ _=>qep)
 ·exact Iv.whole_W
theorem q89 {a:Dy}:a.lo2 a=a:=by unfold Dy.lo2;split<;>rfl
theorem quh {a:Dy}:a.hi2 a=a:=by unfold Dy.hi2;split<;>rfl
def pair6 (q:Dy × Dy):V:=.agg [.bool q.1.neg,lim q.1.m,.int .i64 q.1.e,.bool q.2.neg,lim q.2.m,.int .i64 q.2.e]
def ps4 (x y:Iv):List V:=[pair6 (x.lo,y.lo),pair6 (x.lo,y.hi),pair6 (x.hi,y.lo),pair6 (x.hi,y.hi)]
theorem qak3 {x y:Iv}{i:Nat}(hi:i<4):(ps4 x y)[i]?=some (pair6 (qag x y i)):=by
 obtain rfl|rfl|rfl|rfl:i=0\/i=1\/i=2\/i=3:=by omega
 all_goals rfl
theorem qsc {x y:Iv}:(ps4 x y).length=4:=rfl
theorem qafn (x y:Iv):CQ prog qxz [x.v,y.v] (.sl (ps4 x y)):=by
 refine qah rfl fun H=>?_
 simp[ps4,pair6,fin]
theorem qaa9 {Q:AX->Env->Heap->Prop}(H G:Heap)(E:Env)(x y:Iv)(p:Int)(i:Nat)(hi:i<4)(wa:(qag x y i).1.W)(wb:(qag x y i).2.W)
 (lo hi2:Dy) (olo:lo.Ok) (ohi:hi2.Ok) (w:V) (hw:(i=0/\w=zIv)\/(i≠0/\w=Iv.v ⟨lo,hi2,false⟩))
 (h2:E 2=.int .i64 p) (h6:E 6=.ptr (H.length+2) 0 0) (h7:E 7=.sl (ps4 x y)) (h8:E 8=.ptr (H.length+3) 0 0) (h9:E 9=.int .i64 i)
 (hbad:((rMul (qag x y i).1 (qag x y i).2 p false).2≠0\/(rMul (qag x y i).1 (qag x y i).2 p true).2≠0)->∀E1 G1,E1 6=.ptr (H.length+2) 0 0->Q .ret E1 (H++some ⟨7,[x.v],false,true⟩ :: some ⟨7,[y.v],false,true⟩ :: some ⟨7,[Iv.whole.v],false,true⟩ :: some ⟨7,[w],false,true⟩ :: G1))
 (hgood:(rMul (qag x y i).1 (qag x y i).2 p false).2=0->(rMul (qag x y i).1 (qag x y i).2 p true).2=0->∀E1 G1,E1 2=.int .i64 p->E1 6=.ptr (H.length+2) 0 0->E1 7=.sl (ps4 x y)->E1 8=.ptr (H.length+3) 0 0->E1 9=.int .i64 ((i+1:Nat):Int) ->
  Q .normal E1 (H++some ⟨7,[x.v],false,true⟩ :: some ⟨7,[y.v],false,true⟩ :: some ⟨7,[zIv],false,true⟩ :: some ⟨7,[Iv.v ⟨if i=0 then(rMul (qag x y i).1 (qag x y i).2 p false).1 else lo.lo2 (rMul (qag x y i).1 (qag x y i).2 p false).1,if i=0 then(rMul (qag x y i).1 (qag x y i).2 p true).1 else hi2.hi2 (rMul (qag x y i).1 (qag x y i).2 p true).1,false⟩],false,true⟩ :: G1)) :
 WK prog H.length qdq [] E (H++some ⟨7,[x.v],false,true⟩ :: some ⟨7,[y.v],false,true⟩ :: some ⟨7,[zIv],false,true⟩ :: some ⟨7,[w],false,true⟩ :: G) Q:=by
 have e1:IntKind.i64.wrap ((i:Int)+1)=((i+1:Nat):Int):=by rw[wrap_i64]<;>omega
 have hi':(i:Int)<4:=by omega
 have hat:(ps4 x y)[i]'(by rw[qsc];exact hi)=pair6 (qag x y i):=by have:=qak3 (x:=x) (y:=y) hi;rw[List.getElem?_eq_getElem (by rw[qsc];exact hi)]at this;exact Option.some.inj this
 have hlen:=qsc (x:=x) (y:=y);have c1:=qaam (qag x y i).1 (qag x y i).2 p false wa wb;have c2:=qaam (qag x y i).1 (qag x y i).2 p true wa wb;have ok1:=rMul_ok (a:=(qag x y i).1) (b:=(qag x y i).2) (p:=p) (up:=false);have ok2:=rMul_ok (a:=(qag x y i).1) (b:=(qag x y i).2) (p:=p) (up:=true);generalize hq:qag x y i=q at *
 obtain⟨a,b⟩:=q;simp only at *
 generalize hr:rMul a b p false=r at *
 generalize hs:rMul a b p true=s at *
 simp[pair6]at hat;simp[qdq,h2,h7,h9,hi,hi',hat,hlen];refine zq c1 ?_;simp[h7,h9,h2,hi,hat,hlen];refine zq c2 ?_;by_cases b1:r.2=0
 ·by_cases b2:s.2=0
  ·rcases hw with ⟨rfl,rfl⟩|⟨h0,rfl⟩
   ·simp[b1,b2,zIv,h9,h8];refine qaa rfl rfl rfl (qug r.1 r.1 ok1 ok1) ?_;simp[h8];refine qaa rfl rfl rfl (qqa s.1 s.1 ok2 ok2) ?_;simp[zIv]at hgood;simp[h8,h9,q89,quh];exact hgood b1 b2 _ _ (by simp[h2]) (by simp[h6]) (by simp[h7]) (by simp[h8]) (by simpa using e1)
   ·have h0':¬(i:Int)=0:=by omega
    simp[zIv,h0]at hgood;simp[b1,b2,h0,h9,h8,zIv];refine qaa rfl rfl rfl (qug lo r.1 olo ok1) ?_;simp[h8];refine qaa rfl rfl rfl (qqa hi2 s.1 ohi ok2) ?_;simp[h8,h9];exact hgood b1 b2 _ _ (by simp[h2]) (by simp[h6]) (by simp[h7]) (by simp[h8]) (by simp[e1])
  ·simp[b1,b2];refine zq qbi ?_;simp[h6];simp at hbad;exact hbad (.inr b2) _ _ (by simp[h6])
 ·simp[b1];refine zq qbi ?_;simp[h6];simp at hbad;exact hbad (.inl b1) _ _ (by simp[h6])
theorem qadq (H:Heap)(x y:Iv)(p:Int)(wx:x.W)(wy:y.W)(E:Env){K:List Fr}{Q:AX->Env->Heap->Prop}
 (h2:E 2=.int .i64 p) (h6:E 6=.ptr (H.length+2) 0 0) (h7:E 7=.sl (ps4 x y)) (h8:E 8=.ptr (H.length+3) 0 0) (h9:E 9=.int .i64 0)
 (hbad:∀E1 w G1,E1 6=.ptr (H.length+2) 0 0->Iv.four (fun a b=>rMul a b p false) (fun a b=>rMul a b p true) x y=Iv.whole->WP prog H.length Q K .ret E1 (H++some ⟨7,[x.v],false,true⟩ :: some ⟨7,[y.v],false,true⟩ :: some ⟨7,[Iv.whole.v],false,true⟩ :: some ⟨7,[w],false,true⟩ :: G1))
 (hgood:∀E1 G1,E1 6=.ptr (H.length+2) 0 0->E1 8=.ptr (H.length+3) 0 0->WP prog H.length Q K (.exit 0) E1 (H++some ⟨7,[x.v],false,true⟩ :: some ⟨7,[y.v],false,true⟩ :: some ⟨7,[zIv],false,true⟩ :: some ⟨7,[(Iv.four (fun a b=>rMul a b p false) (fun a b=>rMul a b p true) x y).v],false,true⟩ :: G1)) :
 WK prog H.length (.loop qdq) K E (H++some ⟨7,[x.v],false,true⟩ :: some ⟨7,[y.v],false,true⟩ :: some ⟨7,[zIv],false,true⟩ :: some ⟨7,[zIv],false,true⟩ :: []) Q:=by
 refine qbw (fun k E H'=>∃i w G,k=4-i/\i<=4/\((i=0/\w=zIv)\/(i≠0/\w=Iv.v ⟨accLo (fun a b=>rMul a b p false) (pairs x y) i,accHi (fun a b=>rMul a b p true) (pairs x y) i,false⟩))/\good4 (fun a b=>rMul a b p false) (fun a b=>rMul a b p true) x y i /\
  E 2=.int .i64 p/\E 6=.ptr (H.length+2) 0 0/\E 7=.sl (ps4 x y)/\E 8=.ptr (H.length+3) 0 0/\E 9=.int .i64 i /\
  H'=H++some ⟨7,[x.v],false,true⟩ :: some ⟨7,[y.v],false,true⟩ :: some ⟨7,[zIv],false,true⟩ :: some ⟨7,[w],false,true⟩ :: G) 4 ?_ ?_
 ·exact⟨0,zIv,[],rfl,by omega,.inl ⟨rfl,rfl⟩,fun j hj=>by omega,h2,h6,h7,h8,h9,rfl⟩
 ·rintro k E H' ⟨i,w,G,hk,hi,hw,hg,h2,h6,h7,h8,h9,rfl⟩;refine qam ?_;by_cases h4':i<4
  ·obtain⟨wa,wb⟩:=q8x wx wy h4';refine qaa9 H G E x y p i h4' wa wb _ _ (qcq (f:=(fun a b=>rMul a b p false)) (fun _ _=>rMul_ok) i) (qcr (f:=(fun a b=>rMul a b p true)) (fun _ _=>rMul_ok) i) w hw h2 h6 h7 h8 h9 ?_ ?_
   ·intro hb E1 G1 e6;exact hbad E1 w G1 e6 (q16 (f:=(fun a b=>rMul a b p false)) (g:=(fun a b=>rMul a b p true)) h4' hb)
   ·intro b1 b2 E1 G1 e2 e6 e7 e8 e9;refine⟨4-(i+1),by omega,i+1,_,G1,rfl,by omega,.inr ⟨by omega,?_⟩,?_,e2,e6,e7,e8,e9,rfl⟩
    ·rw[qdb,qdc]
    ·intro j hj;by_cases h:j<i
     ·exact hg j h
     ·have:j=i:=by omega
      subst this;exact⟨b1,b2⟩
  ·have:i=4:=by omega
   subst this;rcases hw with ⟨h,_⟩|⟨_,rfl⟩
   ·omega
   ·simp[qdq,h9];rw[qd8 hg]at hgood;exact hgood _ G (by simp[h6]) (by simp[h8])
theorem qpo (x y:Iv)(p:Int)(wx:x.W)(wy:y.W):CQ prog qra [x.v,y.v,.int .i64 p] (x.mul y p).v:=by
 refine qah rfl fun H=>?_
 simp;refine qaa rfl rfl rfl (qrz p) ?_;cases hp:precB p
 ·simp;refine zq qbi ?_;simp[Iv.mul,hp,lim]
 ·simp;refine qaa rfl rfl rfl (qe6 x wx) ?_;cases hx:x.known
  ·simp;refine zq qbi ?_;simp[Iv.mul,hx,lim]
  ·simp;refine qaa rfl rfl rfl (qe6 y wy) ?_;cases hy:y.known
   ·simp;refine zq qbi ?_;simp[Iv.mul,hy,lim]
   ·simp;refine qaa rfl rfl rfl (qafn x y) ?_;simp;refine qb1 (qadq H x y p wx wy _ (by simp) (by simp) (by simp) (by simp) (by simp) ?_ ?_) (fun _ _ _ h=>h)
    ·intro E1 w G1 e6 h;simp[e6,Iv.mul,hx,hy,hp,h,lim]
    ·intro E1 G1 e6 e8;simp[e6,e8,Iv.mul,hx,hy,hp,lim,zIv]
theorem qabc {Q:AX->Env->Heap->Prop}(H G:Heap)(E:Env)(x y:Iv)(p:Int)(i:Nat)(hi:i<4)(wa:(qag x y i).1.W)(wb:(qag x y i).2.W)
 (lo hi2:Dy) (olo:lo.Ok) (ohi:hi2.Ok) (w:V) (hw:(i=0/\w=zIv)\/(i≠0/\w=Iv.v ⟨lo,hi2,false⟩))
 (h2:E 2=.int .i64 p) (h6:E 6=.ptr (H.length+2) 0 0) (h7:E 7=.sl (ps4 x y)) (h8:E 8=.ptr (H.length+3) 0 0) (h9:E 9=.int .i64 i)
 (hbad:((rDiv (qag x y i).1 (qag x y i).2 p false).2≠0\/(rDiv (qag x y i).1 (qag x y i).2 p true).2≠0)->∀E1 G1,E1 6=.ptr (H.length+2) 0 0->Q .ret E1 (H++some ⟨7,[x.v],false,true⟩ :: some ⟨7,[y.v],false,true⟩ :: some ⟨7,[Iv.whole.v],false,true⟩ :: some ⟨7,[w],false,true⟩ :: G1))
 (hgood:(rDiv (qag x y i).1 (qag x y i).2 p false).2=0->(rDiv (qag x y i).1 (qag x y i).2 p true).2=0->∀E1 G1,E1 2=.int .i64 p->E1 6=.ptr (H.length+2) 0 0->E1 7=.sl (ps4 x y)->E1 8=.ptr (H.length+3) 0 0->E1 9=.int .i64 ((i+1:Nat):Int) ->
  Q .normal E1 (H++some ⟨7,[x.v],false,true⟩ :: some ⟨7,[y.v],false,true⟩ :: some ⟨7,[zIv],false,true⟩ :: some ⟨7,[Iv.v ⟨if i=0 then(rDiv (qag x y i).1 (qag x y i).2 p false).1 else lo.lo2 (rDiv (qag x y i).1 (qag x y i).2 p false).1,if i=0 then(rDiv (qag x y i).1 (qag x y i).2 p true).1 else hi2.hi2 (rDiv (qag x y i).1 (qag x y i).2 p true).1,false⟩],false,true⟩ :: G1)) :
 WK prog H.length qdr [] E (H++some ⟨7,[x.v],false,true⟩ :: some ⟨7,[y.v],false,true⟩ :: some ⟨7,[zIv],false,true⟩ :: some ⟨7,[w],false,true⟩ :: G) Q:=by
 have e1:IntKind.i64.wrap ((i:Int)+1)=((i+1:Nat):Int):=by rw[wrap_i64]<;>omega
 have hi':(i:Int)<4:=by omega
 have hat:(ps4 x y)[i]'(by rw[qsc];exact hi)=pair6 (qag x y i):=by have:=qak3 (x:=x) (y:=y) hi;rw[List.getElem?_eq_getElem (by rw[qsc];exact hi)]at this;exact Option.some.inj this
 have hlen:=qsc (x:=x) (y:=y);have c1:=qaao (qag x y i).1 (qag x y i).2 p false wa wb;have c2:=qaao (qag x y i).1 (qag x y i).2 p true wa wb;have ok1:=qep (a:=(qag x y i).1) (b:=(qag x y i).2) (p:=p) (up:=false);have ok2:=qep (a:=(qag x y i).1) (b:=(qag x y i).2) (p:=p) (up:=true);generalize hq:qag x y i=q at *
 obtain⟨a,b⟩:=q;simp only at *
 generalize hr:rDiv a b p false=r at *
 generalize hs:rDiv a b p true=s at *
 simp[pair6]at hat;simp[qdr,h2,h7,h9,hi,hi',hat,hlen];refine zq c1 ?_;simp[h7,h9,h2,hi,hat,hlen];refine zq c2 ?_;by_cases b1:r.2=0
 ·by_cases b2:s.2=0
  ·rcases hw with ⟨rfl,rfl⟩|⟨h0,rfl⟩
   ·simp[b1,b2,zIv,h9,h8];refine qaa rfl rfl rfl (qug r.1 r.1 ok1 ok1) ?_;simp[h8];refine qaa rfl rfl rfl (qqa s.1 s.1 ok2 ok2) ?_;simp[zIv]at hgood;simp[h8,h9,q89,quh];exact hgood b1 b2 _ _ (by simp[h2]) (by simp[h6]) (by simp[h7]) (by simp[h8]) (by simpa using e1)
   ·have h0':¬(i:Int)=0:=by omega
    simp[zIv,h0]at hgood;simp[b1,b2,h0,h9,h8,zIv];refine qaa rfl rfl rfl (qug lo r.1 olo ok1) ?_;simp[h8];refine qaa rfl rfl rfl (qqa hi2 s.1 ohi ok2) ?_;simp[h8,h9];exact hgood b1 b2 _ _ (by simp[h2]) (by simp[h6]) (by simp[h7]) (by simp[h8]) (by simp[e1])
  ·simp[b1,b2];refine zq qbi ?_;simp[h6];simp at hbad;exact hbad (.inr b2) _ _ (by simp[h6])
 ·simp[b1];refine zq qbi ?_;simp[h6];simp at hbad;exact hbad (.inl b1) _ _ (by simp[h6])
theorem qadt (H:Heap)(x y:Iv)(p:Int)(wx:x.W)(wy:y.W)(E:Env){K:List Fr}{Q:AX->Env->Heap->Prop}
 (h2:E 2=.int .i64 p) (h6:E 6=.ptr (H.length+2) 0 0) (h7:E 7=.sl (ps4 x y)) (h8:E 8=.ptr (H.length+3) 0 0) (h9:E 9=.int .i64 0)
 (hbad:∀E1 w G1,E1 6=.ptr (H.length+2) 0 0->Iv.four (fun a b=>rDiv a b p false) (fun a b=>rDiv a b p true) x y=Iv.whole->WP prog H.length Q K .ret E1 (H++some ⟨7,[x.v],false,true⟩ :: some ⟨7,[y.v],false,true⟩ :: some ⟨7,[Iv.whole.v],false,true⟩ :: some ⟨7,[w],false,true⟩ :: G1))
 (hgood:∀E1 G1,E1 6=.ptr (H.length+2) 0 0->E1 8=.ptr (H.length+3) 0 0->WP prog H.length Q K (.exit 0) E1 (H++some ⟨7,[x.v],false,true⟩ :: some ⟨7,[y.v],false,true⟩ :: some ⟨7,[zIv],false,true⟩ :: some ⟨7,[(Iv.four (fun a b=>rDiv a b p false) (fun a b=>rDiv a b p true) x y).v],false,true⟩ :: G1)) :
 WK prog H.length (.loop qdr) K E (H++some ⟨7,[x.v],false,true⟩ :: some ⟨7,[y.v],false,true⟩ :: some ⟨7,[zIv],false,true⟩ :: some ⟨7,[zIv],false,true⟩ :: []) Q:=by
 refine qbw (fun k E H'=>∃i w G,k=4-i/\i<=4/\((i=0/\w=zIv)\/(i≠0/\w=Iv.v ⟨accLo (fun a b=>rDiv a b p false) (pairs x y) i,accHi (fun a b=>rDiv a b p true) (pairs x y) i,false⟩))/\good4 (fun a b=>rDiv a b p false) (fun a b=>rDiv a b p true) x y i /\
  E 2=.int .i64 p/\E 6=.ptr (H.length+2) 0 0/\E 7=.sl (ps4 x y)/\E 8=.ptr (H.length+3) 0 0/\E 9=.int .i64 i /\
  H'=H++some ⟨7,[x.v],false,true⟩ :: some ⟨7,[y.v],false,true⟩ :: some ⟨7,[zIv],false,true⟩ :: some ⟨7,[w],false,true⟩ :: G) 4 ?_ ?_
 ·exact⟨0,zIv,[],rfl,by omega,.inl ⟨rfl,rfl⟩,fun j hj=>by omega,h2,h6,h7,h8,h9,rfl⟩
 ·rintro k E H' ⟨i,w,G,hk,hi,hw,hg,h2,h6,h7,h8,h9,rfl⟩;refine qam ?_;by_cases h4':i<4
  ·obtain⟨wa,wb⟩:=q8x wx wy h4';refine qabc H G E x y p i h4' wa wb _ _ (qcq (f:=(fun a b=>rDiv a b p false)) (fun _ _=>qep) i) (qcr (f:=(fun a b=>rDiv a b p true)) (fun _ _=>qep) i) w hw h2 h6 h7 h8 h9 ?_ ?_
   ·intro hb E1 G1 e6;exact hbad E1 w G1 e6 (q16 (f:=(fun a b=>rDiv a b p false)) (g:=(fun a b=>rDiv a b p true)) h4' hb)
   ·intro b1 b2 E1 G1 e2 e6 e7 e8 e9;refine⟨4-(i+1),by omega,i+1,_,G1,rfl,by omega,.inr ⟨by omega,?_⟩,?_,e2,e6,e7,e8,e9,rfl⟩
    ·rw[qdb,qdc]
    ·intro j hj;by_cases h:j<i
     ·exact hg j h
     ·have:j=i:=by omega
      subst this;exact⟨b1,b2⟩
  ·have:i=4:=by omega
   subst this;rcases hw with ⟨h,_⟩|⟨_,rfl⟩
   ·omega
   ·simp[qdr,h9];rw[qd8 hg]at hgood;exact hgood _ G (by simp[h6]) (by simp[h8])
theorem qg7 (x y:Iv)(p:Int)(wx:x.W)(wy:y.W):CQ prog qih [x.v,y.v,.int .i64 p] (x.div y p).v:=by
 refine qah rfl fun H=>?_
 simp;refine qaa rfl rfl rfl (qrz p) ?_;cases hp:precB p
 ·simp;refine zq qbi ?_;simp[Iv.div,hp,lim]
 ·simp;refine qaa rfl rfl rfl (qe6 x wx) ?_;cases hx:x.known
  ·simp;refine zq qbi ?_;simp[Iv.div,hx,lim]
  ·simp;refine qaa rfl rfl rfl (qe6 y wy) ?_;cases hy:y.known
   ·simp;refine zq qbi ?_;simp[Iv.div,hy,lim]
   ·simp;refine qaa rfl rfl rfl (qxk y wy) ?_;by_cases hs:y.sgn=0
    ·simp[hs];refine zq qbi ?_;simp[Iv.div,hs,lim]
    ·simp[hs];refine qaa rfl rfl rfl (qafn x y) ?_;simp;refine qb1 (qadt H x y p wx wy _ (by simp) (by simp) (by simp) (by simp) (by simp) ?_ ?_) (fun _ _ _ h=>h)
     ·intro E1 w G1 e6 h;simp[e6,Iv.div,hx,hy,hp,hs,h,lim]
     ·intro E1 G1 e6 e8;simp[e6,e8,Iv.div,hx,hy,hp,hs,lim,zIv]
def Iv.sq (x:Iv)(p:Int):Iv:=if(!x.abs.all&&precB p)=true then Iv.made (rMul x.abs.lo x.abs.lo p false) (rMul x.abs.hi x.abs.hi p true)else Iv.whole
theorem sq_W {x:Iv}{p:Int}:(x.sq p).W:=by
 unfold Iv.sq;split
 ·exact q33 rMul_ok.w rMul_ok.w
 ·exact Iv.whole_W
theorem qxj (x:Iv)(p:Int)(wx:x.W):CQ prog qt0 [x.v,.int .i64 p] (x.abs.mul x.abs p).v:=by
 refine qah rfl fun H=>?_
 have wy:=abs_W wx;simp;refine qaa rfl rfl rfl (qaan x wx) ?_;simp;refine qaa rfl rfl rfl (qpo x.abs x.abs p wy wy) ?_;simp[lim]
def nD (k:Int):Dy:=Dy.of (decide (k<0)) k.natAbs 0
def nI (a b:Int):Iv:=⟨nD a,nD b,false⟩
theorem nD_ok {k:Int}(h:k.natAbs<=4611686018427387904):(nD k).Ok:=by
 unfold nD;have hb:bitL k.natAbs<=64:=qa7 (by omega);exact Dy.of_ok (Dy.of_inR (by omega) (by omega) (by omega))
theorem nI_W {a b:Int}(ha:a.natAbs<=4611686018427387904)(hb:b.natAbs<=4611686018427387904):(nI a b).W:=⟨(nD_ok ha).w,(nD_ok hb).w⟩
end Go.Abs.W
