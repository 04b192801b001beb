/- Parts of the proof: FpR03, FpR03b, FpIvA, FpIvB, FpIvC, FpIvD, FpIvE, FpIvF. -/
import Derived.Test.YtpdchdfajhbglaaGreatDoorFh
import Derived.Test.YtpdchdfajhbglaaGreatDoorFg
import Derived.Test.YtpdchdfajhbglaaGreatDoorFg
import Derived.Test.YtpdchdfajhbglaaGreatDoorFe
namespace Go.Abs.W
set_option maxHeartbeats 4000000
theorem qaj6 (p:Int):CQ prog qzs [.int .i64 p] (.bool (precB p)):=by
 refine qag rfl fun H=>?_
 simp[precB];grind
theorem qs7 (a b:Dy)(p:Int)(wa:a.W)(wb:b.W):CQ prog qxo [a.v,b.v,.int .i64 p] (.int .i64 (qbn [a,b] p)):=by
 refine qag rfl fun H=>?_
 simp;refine qaa rfl rfl rfl (qnb a wa) ?_;cases ha:a.valid
 ·simp[qbn,ha]
 ·simp;refine qaa rfl rfl rfl (qnb b wb) ?_;cases hb:b.valid
  ·simp[qbn,ha,hb]
  ·simp;refine qaa rfl rfl rfl (qaj6 p) ?_;cases hp:precB p<;>simp[qbn,ha,hb,hp]
theorem qk0 {q b:Nat}(h:bitL q<=b):(qad q).length<=b/32+1:=
 qb9 (Nat.lt_of_lt_of_le (qbe q) (Nat.pow_le_pow_right (by omega) h)) (by omega)
theorem q74 (neg:Bool)(p:Nat)(hp:p<=512):CQ prog qss [.bool neg,.int .i64 p] (Dy.of neg (2^p-1) (16384-p)).v:=by
 refine qag rfl fun H=>?_
 have l1:Li [1]:=by intro x hx;simp at hx;omega
 have v1:natV [1]=1:=rfl;have h2p:1<=2^p:=Nat.one_le_two_pow;have hpl:(qad (2^p)).length<=1000:=qb9 (B:=p+1) (Nat.pow_lt_pow_right (by omega) (by omega)) (by omega);have hp1:1<=(qad (2^p)).length:=List.length_pos_iff.2 (qcu (by omega));have sc:=qyx [1] p (by simp) l1 (by omega);rw[v1,Nat.one_mul]at sc;have dc:=qani (qad (2^p)) [1] (by omega) (by simpa using hp1) (qaf _) l1 (by rw[qac,v1];exact h2p);rw[qac,v1]at dc;have hl2:(qad (2^p-1)).length<=1000:=qbg (Nat.sub_le _ _) hpl;have e2:IntKind.i64.wrap (16384-(p:Int))=16384-(p:Int):=by rw[wrap_i64]<;>omega
 have oc:=Of_cq neg (qad (2^p-1)) (16384-p) (by omega) (qaf _) (by omega) (by omega);rw[qac]at oc;simp;refine qaj (args:=[.ref (H.length+1) 1 0 1,.int .i64 p]) (vs:=[lim [1],.int .i64 p]) (H1:=H++[some ⟨3,[.agg [.bool false,.nil,.int .i64 0]],false,true⟩,some ⟨1,[.int .u32 1],true,false⟩]) rfl (by simp) (by refine Eq.trans (b:=frzVs _ _) rfl ?_;simp[frzVs,frzV,qbj,lim,u32]) sc ?_;simp;refine qaj (args:=[lim (qad (2^p)),.ref (H.length+2) 1 0 1]) (vs:=[lim (qad (2^p)),lim [1]]) (H1:=H++[some ⟨3,[.agg [.bool false,.nil,.int .i64 0]],false,true⟩,some ⟨1,[.int .u32 1],true,false⟩,some ⟨1,[.int .u32 1],true,false⟩]) rfl (by simp) (by refine Eq.trans (b:=frzVs _ _) rfl ?_;simp[frzVs,frzV,qbj,lim,u32]) dc ?_;simp[e2];refine zq oc ?_;simp[lim]
def cutX (neg out:Bool)(Q:Nat)(e:Int)(k p:Nat):Dy × Int:=
 if Q≠0/\(16384:Int)<bitL Q+(e+k)then(if out then(Dy.zero,9)else(Dy.of neg (2^p-1) (16384-p),0))else(Dy.of neg Q (e+k),0)
theorem q0f {H:Heap}{E:Env}(G:Heap)(neg out:Bool)(Q:Nat)(e:Int)(k p:Nat)(hp:p<=512)(hQ:bitL Q<=600000)(hk:k<=600000)(he1:-400000<=e)(he2:e<=400000)
 (h0:E 0=.bool neg) (h2:E 2=.int .i64 e) (h4:E 4=.int .i64 p) (h12:E 12=.ptr H.length 0 0) (_h13:E 13=.int .i64 0) (h15:E 15=.int .i64 k) (h16:E 16=lim (qad Q)) (h17:E 17=.bool out) :
 WC prog H.length (qaz 8 c_fpref03_Cut.body) E (H++some ⟨3,[.agg [.bool false,.nil,.int .i64 0]],false,true⟩ :: G) (fun x E1 H1=>(x=.normal\/x=.ret)/\∃v0,resV E1 H1 [.cell 12 true 3,.tmp 13]=some v0 /\
  fin false H.length H1 v0=some (.tup [(cutX neg out Q e k p).1.v,.int .i64 (cutX neg out Q e k p).2],H)):=by
 have hl:=qk0 hQ;have bc:=qlb (qad Q) (by omega) (qaf Q);rw[qac]at bc;have w3:IntKind.i64.wrap (e+(k:Int))=e+k:=by rw[wrap_i64]<;>omega
 refine qg5 ?_;simp[qaz,h16];refine zq bc ?_;by_cases hq0:Q=0
 ·subst hq0;have oc:=Of_cq neg (qad 0) (e+k) (by rw[qa8];simp) (qaf _) (by omega) (by omega);rw[qac]at oc;simp[qbi,h0,h2,h15,h16,w3];refine zq oc ?_;simp[h12,cutX,lim]
 ·have hbp:=(qa3 hq0).2.2;have⟨B,hB⟩:∃B,B=bitL Q:=⟨_,rfl⟩
  rw[<-hB]at bc hQ hbp ⊢;have w1:IntKind.i64.wrap ((B:Int)+e)=B+e:=by rw[wrap_i64]<;>omega
  have w2:IntKind.i64.wrap ((B:Int)+e+k)=B+e+k:=by rw[wrap_i64]<;>omega
  simp[hbp,h16];refine zq bc ?_;by_cases hov:(16384:Int)<B+e+k
  ·have hov':(16384:Int)<B+(e+k):=by omega
   cases out
   ·have gc:=q74 neg p hp;simp[h0,h2,h4,h15,h17,w1,w2,hov];refine zq gc ?_;simp[h12,cutX,hq0,<-hB,hov',lim]
   ·simp[h2,h12,h15,h17,w1,w2,hov,cutX,hq0,<-hB,hov',Dy.zero,lim]
  ·have hov':¬(16384:Int)<B+(e+k):=by omega
   have oc:=Of_cq neg (qad Q) (e+k) (by omega) (qaf _) (by omega) (by omega);rw[qac]at oc;simp[h0,h2,h15,h16,w1,w2,w3,hov];refine zq oc ?_;simp[h12,cutX,hq0,<-hB,hov',lim]
theorem qagd {neg:Bool}{m:Nat}{e:Int}{more:Bool}{p:Nat}{up:Bool}:cutX neg (neg != up) (cutQ m e more p (neg != up)) e (cutK m e p) p=cutR neg m e more p up:=rfl
theorem q38 (neg:Bool)(m:List Nat)(e:Int)(more:Bool)(p:Nat)(up:Bool)(hm:m.length<=10000)(lm:Li m)(he1:-100000<=e)(he2:e<=100000)(hp:p<=512) :
 CQ prog q23 [.bool neg,lim m,.int .i64 e,.bool more,.int .i64 p,.bool up] (.tup [(cutR neg (natV m) e more p up).1.v,.int .i64 (cutR neg (natV m) e more p up).2]):=by
 refine CQ_of rfl fun H=>?_
 have hlen:=limbsOf_len.2 (qan lm);have hA:=qan lm;rw[pow32]at hA;have hbit:=qa0 hA;have⟨M,hM⟩:∃M,M=natV m:=⟨_,rfl⟩
 rw[<-hM]at hlen hbit ⊢;have bc:=qlb (qad M) (by omega) (qaf _);rw[qac]at bc;have w1:IntKind.i64.wrap ((bitL M:Int)-p)=bitL M-p:=by rw[wrap_i64]<;>omega
 have w2:IntKind.i64.wrap (-16384-e)=-16384-e:=by rw[wrap_i64]<;>omega
 have hmax:(if(if(bitL M:Int)-p < -16384-e then -16384-e else(bitL M:Int)-p)<0 then 0 else if(bitL M:Int)-p < -16384-e then -16384-e else(bitL M:Int)-p)=(cutK M e p:Int):=by
  unfold cutK;split<;>split<;>omega
 have hkb:cutK M e p<=500000:=by unfold cutK;omega
 have hres:=qagd (neg:=neg) (m:=M) (e:=e) (more:=more) (p:=p) (up:=up);rw[<-hres];have hQb:bitL (cutQ M e more p (neg != up))<=600:=Nat.le_trans qyj (by omega);have hcq:∀o,cutQ M e more p o=M/2^cutK M e p+(if(more ||decide (M%2^cutK M e p≠0))&&o then 1 else 0):=fun _=>rfl
 have⟨k,hk⟩:∃k,k=cutK M e p:=⟨_,rfl⟩
 rw[<-hk]at hmax hkb hcq ⊢;have sc:=qanj (qad M) k (by omega) (qaf _) (by omega);rw[qac]at sc;have hql:(qad (M/2^k)).length<=20000:=Nat.le_trans (qbg (Nat.div_le_self _ _) hlen) (by omega);have tail6:∀(E:Env) (lost:Bool),lost=(more ||decide (M%2^k≠0))->E 0=.bool neg->E 2=.int .i64 e->E 3=.bool lost->E 4=.int .i64 p->E 5=.bool up->E 12=.ptr H.length 0 0->E 13=.int .i64 0->E 15=.int .i64 k->E 16=lim (qad (M/2^k)) ->
  WC prog H.length (qaz 6 c_fpref03_Cut.body) E (H++[some ⟨3,[.agg [.bool false,.nil,.int .i64 0]],false,true⟩]) (fun x E1 H1=>(x=.normal\/x=.ret)/\∃v0,resV E1 H1 [.cell 12 true 3,.tmp 13]=some v0 /\
   fin false H.length H1 v0=some (.tup [(cutX neg (neg != up) (cutQ M e more p (neg != up)) e k p).1.v,.int .i64 (cutX neg (neg != up) (cutQ M e more p (neg != up)) e k p).2],H)):=by
  intro E lost hlost h0 h2 h3 h4 h5 h12 h13 h15 h16;rw[<-hlost]at hcq;refine qcx (b:=qaz 7 c_fpref03_Cut.body) ?_;refine qaq ?_;simp[h0,h5];refine qcx (b:=qaz 8 c_fpref03_Cut.body) ?_;refine qaq ?_;have hout:(!(neg == up))=(neg != up):=by cases neg<;>cases up<;>rfl
  by_cases hb:lost=true/\(neg != up)=true
  ·obtain⟨rfl,ho⟩:=hb;have l1:Li [1]:=by intro x hx;simp at hx;omega
   have v1:natV [1]=1:=rfl;have ac:=qahs (qad (M/2^k)) [1] (by omega) (by simp) (qaf _) l1;have hq1:cutQ M e more p (neg != up)=M/2^k+1:=by rw[hcq,ho];simp
   rw[qac,v1,<-hq1]at ac;have ho2:(neg == up)=false:=by cases neg<;>cases up<;>simp at ho ⊢
   simp[h3,ho2,h16];refine qaj (args:=[lim (qad (M/2^k)),.ref (H.length+1) 1 0 1]) (vs:=[lim (qad (M/2^k)),lim [1]]) (H1:=H++some ⟨3,[.agg [.bool false,.nil,.int .i64 0]],false,true⟩ :: [some ⟨1,[.int .u32 1],true,false⟩]) rfl ?_ ?_ ac ?_
   ·simp
   ·refine Eq.trans (b:=frzVs _ _) rfl ?_;simp[frzVs,frzV,qbj,lim,u32]
   simp;exact qbv (q0f [some ⟨1,[.int .u32 1],true,false⟩] neg (neg != up) (cutQ M e more p (neg != up)) e k p hp (by omega) (by omega) (by omega) (by omega) (by simp[h0]) (by simp[h2]) (by simp[h4]) (by simp[h12]) (by simp[h13]) (by simp[h15]) (by simp) (by rw[ho];simp)) (fun x E1 H1 h=>by simpa using h)
  ·have hq0:cutQ M e more p (neg != up)=M/2^k:=by
    rw[hcq];cases lost<;>cases h:(neg != up)<;>simp[h]at hb ⊢
   have ct:=fun(E:Env) h0 h2 h4 h12 h13 h15 h16 h17=>q0f (H:=H) (E:=E) [] neg (neg != up) (cutQ M e more p (neg != up)) e k p hp (by omega) (by omega) (by omega) (by omega) h0 h2 h4 h12 h13 h15 h16 h17
   cases lost
   ·simp[h3];exact qbv (ct _ (by simp[h0]) (by simp[h2]) (by simp[h4]) (by simp[h12]) (by simp[h13]) (by simp[h15]) (by simp[h16,hq0]) (by simp[hout])) (fun x E1 H1 h=>by simpa using h)
   ·have ho2:(neg == up)=true:=by cases neg<;>cases up<;>simp at hb ⊢
    simp[h3,ho2];exact qbv (ct _ (by simp[h0]) (by simp[h2]) (by simp[h4]) (by simp[h12]) (by simp[h13]) (by simp[h15]) (by simp[h16,hq0]) (by rw[<-hout,ho2];simp)) (fun x E1 H1 h=>by simpa using h)
 refine qcx (b:=qaz 1 c_fpref03_Cut.body) ?_;refine qaq ?_;simp;refine qcx (b:=qaz 2 c_fpref03_Cut.body) ?_;refine qaq ?_;simp;refine qaa rfl rfl rfl (qg6 m (by omega)) ?_;rw[qak lm,<-hM];simp;refine qcx (b:=qaz 3 c_fpref03_Cut.body) ?_;refine qaq ?_;simp;refine zq bc ?_;simp;refine qcx (b:=qaz 4 c_fpref03_Cut.body) ?_;refine qaq ?_;simp[w1,w2,hmax];refine qcx (b:=qaz 5 c_fpref03_Cut.body) ?_;refine qaq ?_;simp;refine zq sc ?_;simp;refine qcx (b:=qaz 6 c_fpref03_Cut.body) ?_;refine qaq ?_;by_cases hk0:k=0
 ·subst hk0;simp;exact qbv (tail6 _ more (by simp[Nat.mod_one]) (by simp) (by simp) (by simp) (by simp) (by simp) (by simp) (by simp) (by simp) (by simp)) (fun x E1 H1 h=>by simpa using h)
 ·have hkp:0<k:=by omega
  have hle:M/2^k*2^k<=M:=Nat.div_mul_le_self _ _;have lc:=qyx (qad (M/2^k)) k (by omega) (qaf _) (by omega);rw[qac]at lc;have hl2:(qad (M/2^k*2^k)).length<=20000:=Nat.le_trans (qbg hle hlen) (by omega);have cc:=q85 (qad (M/2^k*2^k)) (qad M) (qaf _) (qaf _) (by omega) (by omega);rw[qac,qac]at cc;have hne:cmpN (M/2^k*2^k) M=0↔M%2^k=0:=by
   rw[qagj];have:=Nat.div_add_mod' M (2^k);omega
  simp[hkp];refine zq lc ?_;simp;refine zq cc ?_;by_cases hz:M%2^k=0
  ·simp[hne,hz];exact qbv (tail6 _ more (by simp[hz]) (by simp) (by simp) (by simp) (by simp) (by simp) (by simp) (by simp) (by simp) (by simp)) (fun x E1 H1 h=>by simpa using h)
  ·simp[hne,hz];exact qbv (tail6 _ true (by simp[hz]) (by simp) (by simp) (by simp) (by simp) (by simp) (by simp) (by simp) (by simp) (by simp)) (fun x E1 H1 h=>by simpa using h)
end Go.Abs.W
namespace Go.Abs.W
set_option maxHeartbeats 4000000
theorem qaai (d:Dy)(p:Nat)(up:Bool)(hm:d.m.length<=10000)(lm:Li d.m)(he1:-100000<=d.e)(he2:d.e<=100000)(hp:p<=512) :
 CQ prog qxp [d.v,.int .i64 p,.bool up] (.tup [(cutR d.neg (natV d.m) d.e false p up).1.v,.int .i64 (cutR d.neg (natV d.m) d.e false p up).2]):=by
 refine qag rfl fun H=>?_
 simp;refine qaa rfl rfl rfl (q38 d.neg d.m d.e false p up hm lm he1 he2 hp) ?_;simp[lim]
theorem q15 {neg:Bool}{N:Nat}{e:Int}{b:Nat}(hb:bitL N<=b)(he1:-60000<=e)(he2:e<=60000)(hbb:b<=40000) :
 (Dy.of neg N e).m.length<=10000/\Li (Dy.of neg N e).m/\-100000<=(Dy.of neg N e).e/\(Dy.of neg N e).e<=100000:=by
 by_cases h:N=0
 ·subst h;have:Dy.of neg 0 e=⟨false,[],0⟩:=by simp[Dy.of]
  rw[this];exact⟨by simp,by intro x hx;simp at hx,by simp,by simp⟩
 ·have hd:Dy.of neg N e=⟨neg,qad (N/2^tz N),e+tz N⟩:=by simp[Dy.of,h]
  rw[hd];have h1:=qagq h;have h2:=qk0 (q:=N/2^tz N) (b:=b) (by omega);exact⟨by simp only;omega,qaf _,by simp only;omega,by simp only;omega⟩
theorem Dy.Ok.size {d:Dy}(h:d.Ok):d.m.length<=10000/\Li d.m/\-100000<=d.e/\d.e<=100000:=by
 have h1:=h.elo;have h2:=h.ehi;have h3:=h.len;exact⟨by omega,h.li,by omega,by omega⟩
theorem qah1 {a b:Dy}(oa:a.Ok)(ob:b.Ok):(a.sum b).m.length<=10000/\Li (a.sum b).m/\-100000<=(a.sum b).e/\(a.sum b).e<=100000:=by
 unfold Dy.sum;by_cases na:a.m=[]
 ·rw[if_pos na];exact ob.size
 ·by_cases nb:b.m=[]
  ·rw[if_neg na,if_pos nb];exact oa.size
  ·rw[if_neg na,if_neg nb];have e1:=oa.elo;have e2:=oa.ehi;have e3:=ob.elo;have e4:=ob.ehi;have ba:=oa.bits;have bb:=ob.bits;have⟨e,he⟩:∃e,e=min a.e b.e:=⟨_,rfl⟩
   simp only[<-he];have⟨B,hB⟩:∃B,B=37000:=⟨_,rfl⟩
   have hX:bitL (sumX a e)<=B:=by
    refine qa0 ?_;unfold sumX;refine Nat.lt_of_lt_of_le (Nat.mul_lt_mul_of_pos_right (qbe _) (Nat.two_pow_pos _)) ?_;rw[<-Nat.pow_add];exact Nat.pow_le_pow_right (by omega) (by omega)
   have hY:bitL (sumX b e)<=B:=by
    refine qa0 ?_;unfold sumX;refine Nat.lt_of_lt_of_le (Nat.mul_lt_mul_of_pos_right (qbe _) (Nat.two_pow_pos _)) ?_;rw[<-Nat.pow_add];exact Nat.pow_le_pow_right (by omega) (by omega)
   have hXY:bitL (sumX a e+sumX b e)<=B+1:=by
    refine qa0 ?_;have h1:sumX a e<2^B:=Nat.lt_of_lt_of_le (qbe _) (Nat.pow_le_pow_right (by omega) hX);have h2:sumX b e<2^B:=Nat.lt_of_lt_of_le (qbe _) (Nat.pow_le_pow_right (by omega) hY);rw[Nat.pow_succ];omega
   split
   ·exact q15 hXY (by omega) (by omega) (by omega)
   ·split
    ·exact q15 (Nat.le_trans (qau (Nat.sub_le _ _)) hX) (by omega) (by omega) (by omega)
    ·exact q15 (Nat.le_trans (qau (Nat.sub_le _ _)) hY) (by omega) (by omega) (by omega)
theorem qaa5 (a b:Dy)(p:Int)(up:Bool)(wa:a.W)(wb:b.W):CQ prog q24 [a.v,b.v,.int .i64 p,.bool up] (.tup [(rAdd a b p up).1.v,.int .i64 (rAdd a b p up).2]):=by
 refine qag rfl fun H=>?_
 have fc:=qs7 a b p wa wb;simp;refine zq fc ?_;by_cases hf:qbn [a,b] p=0
 ·obtain⟨hv,hp8,hp5⟩:=qbw hf;have oa:=Dy.Ok.of wa.li (hv a (by simp));have ob:=Dy.Ok.of wb.li (hv b (by simp));obtain⟨P,rfl⟩:∃P:Nat,p=P:=⟨p.toNat,by omega⟩
  obtain⟨s1,s2,s3,s4⟩:=qah1 oa ob;have xc:=qaai (a.sum b) P up s1 s2 s3 s4 (by omega);simp[hf];refine qaa rfl rfl rfl (qalg a b oa.toM ob.toM) ?_;simp;refine zq xc ?_;simp[rAdd,hf,lim]
 ·simp[hf,rAdd,Dy.zero,lim]
theorem qaa2 (a b:Dy)(p:Int)(up:Bool)(wa:a.W)(wb:b.W):CQ prog q21 [a.v,b.v,.int .i64 p,.bool up] (.tup [(rMul a b p up).1.v,.int .i64 (rMul a b p up).2]):=by
 refine qag rfl fun H=>?_
 have fc:=qs7 a b p wa wb;simp;refine zq fc ?_;by_cases hf:qbn [a,b] p=0
 ·obtain⟨hv,hp8,hp5⟩:=qbw hf;have oa:=Dy.Ok.of wa.li (hv a (by simp));have ob:=Dy.Ok.of wb.li (hv b (by simp));obtain⟨P,rfl⟩:∃P:Nat,p=P:=⟨p.toNat,by omega⟩
  have e1:=oa.elo;have e2:=oa.ehi;have e3:=ob.elo;have e4:=ob.ehi;have ba:=oa.bits;have bb:=ob.bits;have hbit:bitL (natV a.m*natV b.m)<=9000:=by
   refine Nat.le_trans (qa0 (b:=bitL (natV a.m)+bitL (natV b.m)) ?_) (by omega);rw[Nat.pow_add];exact Nat.mul_lt_mul'' (qbe _) (qbe _)
  obtain⟨s1,s2,s3,s4⟩:=q15 (neg:=a.neg != b.neg) (e:=a.e+b.e) hbit (by omega) (by omega) (by omega);have xc:=qaai (a.prod b) P up s1 s2 s3 s4 (by omega);have hc:cutR (a.prod b).neg (natV (a.prod b).m) (a.prod b).e false P up=cutR (a.neg != b.neg) (natV a.m*natV b.m) (a.e+b.e) false P up:=qyi;rw[hc]at xc;simp[hf];refine qaa rfl rfl rfl (qaci a b oa.toM ob.toM) ?_;simp;refine zq xc ?_;simp[rMul,hf,lim]
 ·simp[hf,rMul,Dy.zero,lim]
theorem qaa4 (a b:Dy)(p:Int)(up:Bool)(wa:a.W)(wb:b.W):CQ prog q22 [a.v,b.v,.int .i64 p,.bool up] (.tup [(rDiv a b p up).1.v,.int .i64 (rDiv a b p up).2]):=by
 refine qag rfl fun H=>?_
 have fc:=qs7 a b p wa wb;simp;refine zq fc ?_;by_cases hf:qbn [a,b] p=0
 ·obtain⟨hv,hp8,hp5⟩:=qbw hf;have va:=hv a (by simp);have vb:=hv b (by simp);have oa:=Dy.Ok.of wa.li va;have ob:=Dy.Ok.of wb.li vb;obtain⟨P,rfl⟩:∃P:Nat,p=P:=⟨p.toNat,by omega⟩
  by_cases nb:b.m=[]
  ·simp[hf,lim,nb,rDiv,Dy.zero]
  ·by_cases na:a.m=[]
   ·simp[hf,lim,na,nb,rDiv,Dy.zero]
   ·have ba:=oa.bits;have bb:=ob.bits;have h1:=oa.elo;have h2:=oa.ehi;have h3:=ob.elo;have h4:=ob.ehi;have hla:=oa.len;have hlb:=ob.len;have hA:=qcb oa.tr na;have hB:=qcb ob.tr nb;have dba:=qlb a.m (by omega) oa.li;have dbb:=qlb b.m (by omega) ob.li;have hka:bitL (natV a.m)+divK a b P 2<=4620/\divK a b P 2<=4620:=by unfold divK;omega
    obtain⟨k1,k3⟩:=hka;have hmax:(if(bitL (natV a.m):Int)<(P:Int)+2+bitL (natV b.m)then(P:Int)+2+bitL (natV b.m)-bitL (natV a.m)else 0)=(divK a b P 2:Int):=by unfold divK;split<;>omega
    have hres:rDiv a b P up=cutR (a.neg != b.neg) (natV a.m*2^divK a b P 2/natV b.m) (a.e-b.e-divK a b P 2) (decide (natV a.m*2^divK a b P 2%natV b.m≠0)) P up:=by
     rw[rDiv,if_pos hf,if_neg nb,if_neg na,Int.toNat_natCast]
    have⟨k,hk⟩:∃k,k=divK a b P 2:=⟨_,rfl⟩
    rw[<-hk]at k1 k3 hmax hres;have hsb:bitL (natV a.m*2^k)<=4620:=by
     have:=qdr (m:=natV a.m) (j:=k) (r:=0) hA (Nat.two_pow_pos k);rw[Nat.add_zero]at this;rw[this];exact k1
    have⟨La,hLa⟩:∃La,La=bitL (natV a.m):=⟨_,rfl⟩
    have⟨Lb,hLb⟩:∃Lb,Lb=bitL (natV b.m):=⟨_,rfl⟩
    rw[<-hLa]at ba dba k1 hmax;rw[<-hLb]at bb dbb hmax;have w1:IntKind.i64.wrap ((P:Int)+2)=(P:Int)+2:=by rw[wrap_i64]<;>omega
    have w2:IntKind.i64.wrap ((P:Int)+2+Lb)=(P:Int)+2+Lb:=by rw[wrap_i64]<;>omega
    have w3:IntKind.i64.wrap ((P:Int)+2+Lb-La)=(P:Int)+2+Lb-La:=by rw[wrap_i64]<;>omega
    have w4:IntKind.i64.wrap (a.e-b.e)=a.e-b.e:=by rw[wrap_i64]<;>omega
    have w5:IntKind.i64.wrap (a.e-b.e-k)=a.e-b.e-k:=by rw[wrap_i64]<;>omega
    have sc:=qyx a.m k (by omega) oa.li (by omega);have⟨W,hW⟩:∃W,W=natV a.m*2^k:=⟨_,rfl⟩
    rw[<-hW]at hsb sc hres;have hl:=qk0 hsb;have dc:=qacn (qad W) b.m (by omega) (by omega) (qaf _) ob.li (by omega);rw[qac]at dc;have hqs:bitL (W/natV b.m)<=4620:=Nat.le_trans (qau (Nat.div_le_self _ _)) hsb;have hql:=qk0 hqs;have hrl:(qad (W%natV b.m)).length<=200:=Nat.le_trans (qbg (Nat.mod_le _ _) (Nat.le_refl _)) (by omega);have bc:=qlb (qad (W%natV b.m)) (by omega) (qaf _);rw[qac]at bc;have hmore:decide (W%natV b.m≠0)=decide (0<bitL (W%natV b.m)):=by
     rw[decide_eq_decide];have:=bitL_eq0 (n:=W%natV b.m);omega
    have gc:=q38 (a.neg != b.neg) (qad (W/natV b.m)) (a.e-b.e-k) (decide (W%natV b.m≠0)) P up (by omega) (qaf _) (by omega) (by omega) (by omega);rw[qac,<-hres,hmore]at gc;have⟨B0,hB0⟩:∃B0,B0=bitL (W%natV b.m):=⟨_,rfl⟩
    rw[<-hB0]at bc gc;simp[hf,lim,na,nb,w1];refine zq dbb ?_;simp[w2];refine zq dba ?_;simp[w3,hmax];refine zq sc ?_;simp;refine zq dc ?_;simp[w4,w5];refine zq bc ?_;simp;refine qaa (vs:=[.bool (a.neg != b.neg),lim (qad (W/natV b.m)),.int .i64 (a.e-b.e-k),.bool (decide (0<B0)),.int .i64 P,.bool up]) rfl rfl ?_ gc ?_
    ·refine Eq.trans (b:=frzVs _ _) rfl ?_;simp[frzVs,frzV];cases a.neg<;>cases b.neg<;>rfl
    simp[lim]
 ·simp[hf,rDiv,Dy.zero,lim]
theorem q60 (d:Dy)(p:Int)(up:Bool)(w:d.W):CQ prog qzr [d.v,.int .i64 p,.bool up] (.tup [(rSqrt d p up).1.v,.int .i64 (rSqrt d p up).2]):=by
 refine qag rfl fun H=>?_
 have hff:qbn [d,d] p=qbn [d] p:=by simp[qbn]
 have fc:=qs7 d d p w w;rw[hff]at fc;simp;refine zq fc ?_;by_cases hf:qbn [d] p=0
 ·obtain⟨hv,hp8,hp5⟩:=qbw hf;have vd:=hv d (by simp);have od:=Dy.Ok.of w.li vd;obtain⟨P,rfl⟩:∃P:Nat,p=P:=⟨p.toNat,by omega⟩
  cases hneg:d.neg
  ·by_cases nd:d.m=[]
   ·simp[hf,hneg,lim,nd,rSqrt,Dy.zero]
   ·have hbd:=od.bits;have h1:=od.elo;have h2:=od.ehi;have hld:=od.len;have hA:=qcb od.tr nd;have db:=qlb d.m (by omega) od.li;have hres:rSqrt d P up=cutR false (isq (natV d.m*2^sqK d P)) ((d.e-sqK d P)/2) (decide (isq (natV d.m*2^sqK d P)*isq (natV d.m*2^sqK d P)≠natV d.m*2^sqK d P)) P up:=by
     rw[rSqrt,if_pos hf,hneg,if_neg (by simp),if_neg nd,Int.toNat_natCast]
    have hk:sqK d P<=1040/\bitL (natV d.m)+sqK d P<=4100/\2*P+4<=bitL (natV d.m)+sqK d P/\(d.e-sqK d P)%2=0:=by unfold sqK;split<;>omega
    obtain⟨k1,k2,k3,k4⟩:=hk;have⟨k0,hk0⟩:∃k0,k0=(max 0 (2*(P:Int)+4-bitL (natV d.m))).toNat:=⟨_,rfl⟩
    have hmax:(if(bitL (natV d.m):Int)<2*(P:Int)+4 then 2*(P:Int)+4-bitL (natV d.m)else 0)=(k0:Int):=by rw[hk0];split<;>omega
    have hkk:sqK d P=k0+(if(d.e-k0)%2=0 then 0 else 1):=by rw[sqK,hk0]
    have⟨k,hkd⟩:∃k,k=sqK d P:=⟨_,rfl⟩
    rw[<-hkd]at k1 k2 k3 k4 hkk hres;have⟨L,hL⟩:∃L,L=bitL (natV d.m):=⟨_,rfl⟩
    rw[<-hL]at hbd db k2 k3 hmax hk0;have w1:IntKind.i64.wrap (2*(P:Int))=2*(P:Int):=by rw[wrap_i64]<;>omega
    have w2:IntKind.i64.wrap (2*(P:Int)+4)=2*(P:Int)+4:=by rw[wrap_i64]<;>omega
    have w3:IntKind.i64.wrap (2*(P:Int)+4-L)=2*(P:Int)+4-L:=by rw[wrap_i64]<;>omega
    have w4:IntKind.i64.wrap (d.e-k0)=d.e-k0:=by rw[wrap_i64]<;>omega
    have w5:IntKind.i64.wrap (d.e-k)=d.e-k:=by rw[wrap_i64]<;>omega
    have w6:IntKind.i64.wrap ((k0:Int)+1)=(k0:Int)+1:=by rw[wrap_i64]<;>omega
    have⟨T,hT⟩:∃T,T=(d.e-k)/2:=⟨_,rfl⟩
    have hT2:d.e-k=2*T:=by omega
    rw[<-hT]at hres;have q1:(d.e-k).tdiv 2=T:=by rw[hT2,Int.mul_tdiv_cancel_left _ (by omega)]
    have w7:IntKind.i64.wrap T=T:=by rw[wrap_i64]<;>omega
    have hsb:bitL (natV d.m*2^k)=L+k:=by
     have:=qdr (m:=natV d.m) (j:=k) (r:=0) hA (Nat.two_pow_pos k);rw[Nat.add_zero]at this;rw[this,<-hL]
    have⟨M,hM⟩:∃M,M=natV d.m*2^k:=⟨_,rfl⟩
    rw[<-hM]at hsb hres;have hl:=qk0 (q:=M) (b:=4100) (by omega);have sc:=qyx d.m k (by omega) od.li (by omega);rw[<-hM]at sc;have qc:=qaj1 (qad M) (by omega) (qaf _);rw[qac]at qc;have i2:=(q2b (m:=M) (c:=P+2) (by omega) (by omega)).2;have hss:=(qdm M).1;have⟨S,hS⟩:∃S,S=isq M:=⟨_,rfl⟩
    rw[<-hS]at hres qc i2 hss;have hsl:=qk0 (q:=S) (b:=4100) (by omega);have hssl:=qk0 (q:=S*S) (b:=4100) (by have:=qau hss;omega);have mc:=qahk (qad S) (qad S) (by omega) (by omega) (qaf _) (qaf _);rw[qac]at mc;have cc:=q85 (qad (S*S)) (qad M) (qaf _) (qaf _) (by omega) (by omega);rw[qac,qac]at cc;have hmore:decide (S*S≠M)=!decide (cmpN (S*S) M=0):=by
     simp[qagj]
    have gc:=q38 false (qad S) T (decide (S*S≠M)) P up (by omega) (qaf _) (by omega) (by omega) (by omega);rw[qac,<-hres,hmore]at gc;have⟨c,hc⟩:∃c,c=cmpN (S*S) M:=⟨_,rfl⟩
    rw[<-hc]at cc gc;simp[hf,lim,nd,w1,w2];refine zq db ?_;by_cases hpar:(d.e-k0)%2=0
    ·have hk0k:k=k0:=by rw[hkk,if_pos hpar,Nat.add_zero]
     have t1:(d.e-(k0:Int)).tmod 2=0:=by
      rw[<-hk0k,hT2,Int.mul_tmod_right]
     subst hk0k;simp[w3,hmax,w4,t1];refine zq sc ?_;simp;refine zq qc ?_;simp[w5,q1,w7];refine zq mc ?_;simp;refine zq cc ?_;simp;refine zq gc ?_;simp[lim]
    ·have hk0k:k=k0+1:=by rw[hkk,if_neg hpar]
     have t1:¬(d.e-(k0:Int)).tmod 2=0:=by
      intro h;have:=Int.dvd_of_tmod_eq_zero h;omega
     have w6':IntKind.i64.wrap ((k0:Int)+1)=(k:Int):=by rw[w6];omega
     simp[w3,hmax,w4,t1,w6'];refine zq sc ?_;simp;refine zq qc ?_;simp[w5,q1,w7];refine zq mc ?_;simp;refine zq cc ?_;simp;refine zq gc ?_;simp[lim]
  ·have nd:d.m≠[]:=fun h=>by have:=(od.zero h).1;rw[hneg]at this;cases this
   simp[hf,hneg,rSqrt,Dy.zero,lim]
 ·simp[hf,rSqrt,Dy.zero,lim]
end Go.Abs.W
namespace Go.Abs.W
def Iv.made (r s:Dy × Int):Iv:=if r.2=0/\s.2=0 then⟨r.1,s.1,false⟩else Iv.whole
def Iv.add (x y:Iv)(p:Int):Iv:=if(x.known&&y.known&&precB p)=true then Iv.made (rAdd x.lo y.lo p false) (rAdd x.hi y.hi p true)else Iv.whole
def Iv.neg (x:Iv):Iv:=if x.known=true then⟨x.hi.neg',x.lo.neg',false⟩else Iv.whole
def Iv.rnd (x:Iv)(p:Int):Iv:=if(x.known&&precB p)=true then Iv.made (qcg x.lo p false) (qcg x.hi p true)else Iv.whole
def Iv.scl (x:Iv)(k:Int):Iv:=if x.known=true then Iv.made (x.lo.scl k,x.lo.sclE k) (x.hi.scl k,x.hi.sclE k)else Iv.whole
def Iv.sgn (x:Iv):Int:=if x.known=true then(if 0<x.lo.sgn then 1 else if x.hi.sgn<0 then -1 else 0)else 0
def Iv.sqrt (x:Iv)(p:Int):Iv:=if(x.known&&precB p&&decide (0<x.lo.sgn))=true then Iv.made (rSqrt x.lo p false) (rSqrt x.hi p true)else Iv.whole
theorem Dy.zero_W : Dy.zero.W:=Dy.zero_ok.w
theorem Iv.whole_W : Iv.whole.W:=⟨Dy.zero_W,Dy.zero_W⟩
theorem rRound_ok {d:Dy}{p:Int}{up:Bool}:(qcg d p up).1.Ok:=by
 unfold qcg;split
 ·rename_i h;obtain⟨_,h1,h2⟩:=qbw h;exact qt0 (by omega) (by omega)
 ·exact Dy.zero_ok
theorem rAdd_ok {a b:Dy}{p:Int}{up:Bool}:(rAdd a b p up).1.Ok:=by
 unfold rAdd;split
 ·rename_i h;obtain⟨_,h1,h2⟩:=qbw h;exact qt0 (by omega) (by omega)
 ·exact Dy.zero_ok
theorem rMul_ok {a b:Dy}{p:Int}{up:Bool}:(rMul a b p up).1.Ok:=by
 unfold rMul;split
 ·rename_i h;obtain⟨_,h1,h2⟩:=qbw h;exact qt0 (by omega) (by omega)
 ·exact Dy.zero_ok
theorem qhb {a b:Dy}{p:Int}{up:Bool}:(rDiv a b p up).1.Ok:=by
 unfold rDiv;split
 ·rename_i h;obtain⟨_,h1,h2⟩:=qbw h;split
  ·exact Dy.zero_ok
  ·split
   ·exact Dy.zero_ok
   ·exact qt0 (by omega) (by omega)
 ·exact Dy.zero_ok
theorem rSqrt_ok {d:Dy}{p:Int}{up:Bool}:(rSqrt d p up).1.Ok:=by
 unfold rSqrt;split
 ·rename_i h;obtain⟨_,h1,h2⟩:=qbw h;split
  ·exact Dy.zero_ok
  ·split
   ·exact Dy.zero_ok
   ·exact qt0 (by omega) (by omega)
 ·exact Dy.zero_ok
theorem qapr {neg:Bool}{n:Nat}{e:Int}:(Dy.of neg n e).chk.Ok:=by
 unfold Dy.chk;split
 ·rename_i h;exact Dy.of_ok h
 ·exact Dy.zero_ok
theorem scl_ok {d:Dy}{k:Int}:(d.scl k).Ok:=by
 unfold Dy.scl;split
 ·exact qapr
 ·exact Dy.zero_ok
theorem qsj {r s:Dy × Int}(hr:r.1.W)(hs:s.1.W):(Iv.made r s).W:=by
 unfold Iv.made;split
 ·exact⟨hr,hs⟩
 ·exact Iv.whole_W
theorem qnk (r s:Dy × Int):CQ prog qw8 [r.1.v,.int .i64 r.2,s.1.v,.int .i64 s.2] (Iv.made r s).v:=by
 refine qag rfl fun H=>?_
 by_cases hr:r.2=0
 ·by_cases hs:s.2=0
  ·simp[hr,hs,Iv.made,lim]
  ·simp[hr,hs];refine zq qap ?_;simp[Iv.made,hs,lim]
 ·simp[hr];refine zq qap ?_;simp[Iv.made,hr,lim]
theorem q35 (r s:Dy × Int):CQ prog qzm [r.1.v,.int .i64 r.2,s.1.v,.int .i64 s.2] (Iv.made r s).v:=by
 refine qag rfl fun H=>?_
 by_cases hr:r.2=0
 ·by_cases hs:s.2=0
  ·simp[hr,hs,Iv.made,lim]
  ·simp[hr,hs];refine zq qa9 ?_;simp[Iv.made,hs,lim]
 ·simp[hr];refine zq qa9 ?_;simp[Iv.made,hr,lim]
theorem qc0 (p:Int):CQ prog qq3 [.int .i64 p] (.bool (precB p)):=by
 refine qag rfl fun H=>?_
 simp[precB];grind
theorem qs9 (p:Int):CQ prog qzq [.int .i64 p] (.bool (precB p)):=by
 refine qag rfl fun H=>?_
 simp[precB];grind
theorem qqr {d:Dy}(h:d.Ok):d.opp=d.neg':=by
 unfold Dy.opp Dy.neg';rw[h.valid];by_cases hm:d.m=[]
 ·obtain⟨h1,h2⟩:=h.zero hm;simp[hm,h2,Dy.zero]
 ·simp[hm]
theorem qti {d:Dy}(h:d.Ok):d.neg'.Ok:=by
 refine⟨h.li,h.tr,h.len,?_,h.odd,h.bits,h.elo,h.ehi,h.top⟩;intro hm;have hm':d.m=[]:=hm;exact⟨by simp[Dy.neg',hm'],(h.zero hm').2⟩
theorem neg_W {x:Iv}(w:x.W):x.neg.W:=by
 unfold Iv.neg;split
 ·rename_i h;obtain⟨h1,h2⟩:=qat w h;exact⟨(qti h2).w,(qti h1).w⟩
 ·exact Iv.whole_W
theorem add_W {x y:Iv}{p:Int}:(x.add y p).W:=by
 unfold Iv.add;split
 ·exact qsj rAdd_ok.w rAdd_ok.w
 ·exact Iv.whole_W
theorem qy0 (x y:Iv)(p:Int)(wx:x.W)(wy:y.W):CQ prog qzh [x.v,y.v,.int .i64 p] (x.add y p).v:=by
 refine qag rfl fun H=>?_
 simp;refine qaj rfl rfl (H1:=H++[some ⟨7,[x.v],false,true⟩,some ⟨7,[y.v],false,true⟩,some ⟨7,[.agg [.bool false,.nil,.int .i64 0,.bool false,.nil,.int .i64 0,.bool false]],false,true⟩,some ⟨7,[x.v,y.v],true,false⟩]) (vs:=[ivs [x,y]]) (by simp[prep,frzVs,frzV];rfl) (qdl [x,y] (by simp) (by simp;exact⟨wx,wy⟩)) ?_;cases hk:x.known&&y.known
 ·have:([x,y].all Iv.known)=false:=by simpa using hk
  simp only[this];simp;refine zq qap ?_;simp[Iv.add,hk,lim]
 ·have:([x,y].all Iv.known)=true:=by simpa using hk
  simp only[this];simp;refine qaa rfl rfl rfl (qc0 p) ?_;cases hp:precB p
  ·simp;refine zq qap ?_;simp[Iv.add,hp,lim]
  ·simp;refine qaa rfl rfl rfl (qacs x.lo y.lo p wx.lo wy.lo) ?_;simp;refine qaa rfl rfl rfl (qaa9 x.hi y.hi p wx.hi wy.hi) ?_;simp;refine qaa rfl rfl rfl (qnk (rAdd x.lo y.lo p false) (rAdd x.hi y.hi p true)) ?_;simp[Iv.add,hk,hp,lim]
theorem qta (x y:Iv)(p:Int)(wx:x.W)(wy:y.W):CQ prog q20 [x.v,y.v,.int .i64 p] (x.add y p).v:=by
 refine qag rfl fun H=>?_
 simp;refine qaa rfl rfl rfl (qs9 p) ?_;cases hp:precB p
 ·simp;refine zq qa9 ?_;simp[Iv.add,hp,lim]
 ·simp;refine qaa rfl rfl rfl (qgb x wx) ?_;cases hx:x.known
  ·simp;refine zq qa9 ?_;simp[Iv.add,hx,lim]
  ·simp;refine qaa rfl rfl rfl (qgb y wy) ?_;cases hy:y.known
   ·simp;refine zq qa9 ?_;simp[Iv.add,hy,lim]
   ·simp;refine qaa rfl rfl rfl (qaa5 x.lo y.lo p false wx.lo wy.lo) ?_;simp;refine qaa rfl rfl rfl (qaa5 x.hi y.hi p true wx.hi wy.hi) ?_;simp;refine qaa rfl rfl rfl (q35 (rAdd x.lo y.lo p false) (rAdd x.hi y.hi p true)) ?_;simp[Iv.add,hx,hy,hp,lim]
theorem q82 (x:Iv)(wx:x.W):CQ prog qzc [x.v] x.neg.v:=by
 refine qag rfl fun H=>?_
 simp;refine qaj rfl rfl (H1:=H++[some ⟨7,[x.v],false,true⟩,some ⟨7,[.agg [.bool false,.nil,.int .i64 0,.bool false,.nil,.int .i64 0,.bool false]],false,true⟩,some ⟨7,[x.v],true,false⟩]) (vs:=[ivs [x]]) (by simp[prep,frzVs,frzV];rfl) (qdl [x] (by simp) (by simpa using wx)) ?_;cases hk:x.known
 ·simp[hk];refine zq qap ?_;simp[Iv.neg,hk,lim]
 ·obtain⟨h1,h2⟩:=qat wx hk;have n1:=qr6 x.lo wx.lo;have n2:=qr6 x.hi wx.hi;rw[qqr h1]at n1;rw[qqr h2]at n2;simp[hk];refine zq n2 ?_;simp;refine zq n1 ?_;simp[Iv.neg,hk,lim]
theorem q36 (x:Iv)(wx:x.W):CQ prog q2x [x.v] x.neg.v:=by
 refine qag rfl fun H=>?_
 simp;refine qaa rfl rfl rfl (qgb x wx) ?_;cases hk:x.known
 ·simp;refine zq qa9 ?_;simp[Iv.neg,hk,lim]
 ·simp;refine qaa rfl rfl rfl (qahj x.hi) ?_;simp;refine qaa rfl rfl rfl (qahj x.lo) ?_;simp[Iv.neg,hk,lim]
theorem q81 (x y:Iv)(p:Int)(wx:x.W)(wy:y.W):CQ prog qzb [x.v,y.v,.int .i64 p] (x.add y.neg p).v:=by
 refine qag rfl fun H=>?_
 simp;refine qaa rfl rfl rfl (q82 y wy) ?_;simp;refine qaa rfl rfl rfl (qy0 x y.neg p wx (neg_W wy)) ?_;simp[lim]
theorem qaa3 (x y:Iv)(p:Int)(wx:x.W)(wy:y.W):CQ prog q2w [x.v,y.v,.int .i64 p] (x.add y.neg p).v:=by
 refine qag rfl fun H=>?_
 simp;refine qaa rfl rfl rfl (q36 y wy) ?_;simp;refine qaa rfl rfl rfl (qta x y.neg p wx (neg_W wy)) ?_;simp[lim]
theorem qqm (x:Iv)(p:Int)(wx:x.W):CQ prog qu6 [x.v,.int .i64 p] (x.rnd p).v:=by
 refine qag rfl fun H=>?_
 simp;refine qaj rfl rfl (H1:=H++[some ⟨7,[x.v],false,true⟩,some ⟨7,[.agg [.bool false,.nil,.int .i64 0,.bool false,.nil,.int .i64 0,.bool false]],false,true⟩,some ⟨7,[x.v],true,false⟩]) (vs:=[ivs [x]]) (by simp[prep,frzVs,frzV];rfl) (qdl [x] (by simp) (by simpa using wx)) ?_;cases hk:x.known
 ·simp[hk];refine zq qap ?_;simp[Iv.rnd,hk,lim]
 ·simp[hk];refine qaa rfl rfl rfl (qc0 p) ?_;cases hp:precB p
  ·simp;refine zq qap ?_;simp[Iv.rnd,hp,lim]
  ·simp;refine qaa rfl rfl rfl (q84 x.lo p wx.lo) ?_;simp;refine qaa rfl rfl rfl (Up_cq x.hi p wx.hi) ?_;simp;refine qaa rfl rfl rfl (qnk (qcg x.lo p false) (qcg x.hi p true)) ?_;simp[Iv.rnd,hk,hp,lim]
theorem qnc (x:Iv)(k:Int)(wx:x.W):CQ prog qu5 [x.v,.int .i64 k] (x.scl k).v:=by
 refine qag rfl fun H=>?_
 simp;refine qaj rfl rfl (H1:=H++[some ⟨7,[x.v],false,true⟩,some ⟨7,[.agg [.bool false,.nil,.int .i64 0,.bool false,.nil,.int .i64 0,.bool false]],false,true⟩,some ⟨7,[x.v],true,false⟩]) (vs:=[ivs [x]]) (by simp[prep,frzVs,frzV];rfl) (qdl [x] (by simp) (by simpa using wx)) ?_;cases hk:x.known
 ·simp[hk];refine zq qap ?_;simp[Iv.scl,hk,lim]
 ·simp[hk];refine qaa rfl rfl rfl (q67 x.lo k wx.lo) ?_;simp;refine qaa rfl rfl rfl (q67 x.hi k wx.hi) ?_;simp;refine qaa rfl rfl rfl (qnk (x.lo.scl k,x.lo.sclE k) (x.hi.scl k,x.hi.sclE k)) ?_;simp[Iv.scl,hk,lim]
theorem qacg (x:Iv)(k:Int)(wx:x.W):CQ prog qxl [x.v,.int .i64 k] (x.scl k).v:=by
 refine qag rfl fun H=>?_
 simp;refine qaa rfl rfl rfl (qgb x wx) ?_;cases hx:x.known
 ·simp;refine zq qa9 ?_;simp[Iv.scl,hx,lim]
 ·by_cases hk:-32768<=k/\k<=32768
  ·have h1:¬k < -32768:=by omega
   have h2:¬32768<k:=by omega
   simp[h1,h2];refine qaa rfl rfl rfl (q62 x.lo k wx.lo) ?_;simp;refine qaa rfl rfl rfl (q62 x.hi k wx.hi) ?_;simp;refine qaa rfl rfl rfl (q35 (x.lo.scl k,x.lo.sclE k) (x.hi.scl k,x.hi.sclE k)) ?_;simp[Iv.scl,hx,lim]
  ·have hs:x.scl k=Iv.whole:=by
    have:¬(x.lo.valid=true/\-32768<=k/\k<=32768):=fun h=>hk h.2
    simp[Iv.scl,hx,Iv.made,Dy.sclE,this]
   rw[hs];by_cases h1:k < -32768
   ·simp[h1];refine zq qa9 ?_;simp[lim]
   ·have h2:32768<k:=by omega
    simp[h1,h2];refine zq qa9 ?_;simp[lim]
theorem qaa7 (x:Iv)(wx:x.W):CQ prog qxc [x.v] (.int .i64 x.sgn):=by
 refine qag rfl fun H=>?_
 simp;refine qaj rfl rfl (H1:=H++[some ⟨7,[x.v],false,true⟩,some ⟨7,[x.v],true,false⟩]) (vs:=[ivs [x]]) (by simp[prep,frzVs,frzV];rfl) (qdl [x] (by simp) (by simpa using wx)) ?_;cases hk:x.known
 ·simp[hk,Iv.sgn]
 ·obtain⟨h1,h2⟩:=qat wx hk;have s1:=qko x.lo wx.lo;have s2:=qko x.hi wx.hi;rw[h1.valid]at s1;rw[h2.valid]at s2;simp[hk];refine zq s1 ?_;by_cases hp:0<x.lo.sgn
  ·simp[Iv.sgn,hk,hp]
  ·simp[hp];refine zq s2 ?_;by_cases hn:x.hi.sgn<0
   ·simp[Iv.sgn,hk,hp,hn]
   ·simp[Iv.sgn,hk,hp,hn]
theorem q64 (x:Iv)(wx:x.W):CQ prog qzp [x.v] (.int .i64 x.sgn):=by
 refine qag rfl fun H=>?_
 simp;refine qaa rfl rfl rfl (qgb x wx) ?_;cases hk:x.known
 ·simp[hk,Iv.sgn]
 ·simp;refine qaa rfl rfl rfl (qs8 x.lo) ?_;by_cases hp:0<x.lo.sgn
  ·simp[Iv.sgn,hk,hp]
  ·simp[hp];refine qaa rfl rfl rfl (qs8 x.hi) ?_;by_cases hn:x.hi.sgn<0
   ·simp[Iv.sgn,hk,hp,hn]
   ·simp[Iv.sgn,hk,hp,hn]
theorem qaka (x:Iv)(p:Int)(wx:x.W):CQ prog qxb [x.v,.int .i64 p] (x.sqrt p).v:=by
 refine qag rfl fun H=>?_
 simp;refine qaj rfl rfl (H1:=H++[some ⟨7,[x.v],false,true⟩,some ⟨7,[.agg [.bool false,.nil,.int .i64 0,.bool false,.nil,.int .i64 0,.bool false]],false,true⟩,some ⟨7,[x.v],true,false⟩]) (vs:=[ivs [x]]) (by simp[prep,frzVs,frzV];rfl) (qdl [x] (by simp) (by simpa using wx)) ?_;cases hk:x.known
 ·simp[hk];refine zq qap ?_;simp[Iv.sqrt,hk,lim]
 ·obtain⟨h1,h2⟩:=qat wx hk;have s1:=qko x.lo wx.lo;rw[h1.valid]at s1;simp[hk];refine qaa rfl rfl rfl (qc0 p) ?_;cases hp:precB p
  ·simp;refine zq qap ?_;simp[Iv.sqrt,hp,lim]
  ·simp;refine zq s1 ?_;by_cases hs:0<x.lo.sgn
   ·have hs':¬x.lo.sgn<=0:=by omega
    simp[hs'];refine qaa rfl rfl rfl (q8t x.lo p wx.lo) ?_;simp;refine qaa rfl rfl rfl (qag5 x.hi p wx.hi) ?_;simp;refine qaa rfl rfl rfl (qnk (rSqrt x.lo p false) (rSqrt x.hi p true)) ?_;simp[Iv.sqrt,hk,hp,hs,lim]
   ·have hs':x.lo.sgn<=0:=by omega
    simp[hs'];refine zq qap ?_;simp[Iv.sqrt,hs,lim]
theorem sgn_pos {x:Iv}:0<x.sgn↔x.known=true/\0<x.lo.sgn:=by
 unfold Iv.sgn;cases x.known
 ·simp
 ·by_cases h:0<x.lo.sgn
  ·simp[h]
  ·simp[h];split<;>omega
theorem qahh (x:Iv)(p:Int)(wx:x.W):CQ prog qzo [x.v,.int .i64 p] (x.sqrt p).v:=by
 refine qag rfl fun H=>?_
 simp;refine qaa rfl rfl rfl (qs9 p) ?_;cases hp:precB p
 ·simp;refine zq qa9 ?_;simp[Iv.sqrt,hp,lim]
 ·simp;refine qaa rfl rfl rfl (q64 x wx) ?_;by_cases hs:0<x.sgn
  ·have hs':¬x.sgn<=0:=by omega
   obtain⟨hk,hlo⟩:=sgn_pos.1 hs;simp[hs'];refine qaa rfl rfl rfl (q60 x.lo p false wx.lo) ?_;simp;refine qaa rfl rfl rfl (q60 x.hi p true wx.hi) ?_;simp;refine qaa rfl rfl rfl (q35 (rSqrt x.lo p false) (rSqrt x.hi p true)) ?_;simp[Iv.sqrt,hk,hp,hlo,lim]
  ·have hs':x.sgn<=0:=by omega
   have hw:x.sqrt p=Iv.whole:=by
    unfold Iv.sqrt;rw[if_neg];intro h;simp at h;exact hs (sgn_pos.2 ⟨h.1.1,h.2⟩)
   rw[hw];simp[hs'];refine zq qa9 ?_;simp[lim]
theorem qri {a b:Dy}(ha:a.Ok)(hb:b.Ok):a.cmp b=cmpI a.val b.val:=by simp[Dy.cmp,ha.valid,hb.valid]
theorem cmpI_le {x y:Int}:cmpI x y<=0↔x<=y:=by unfold cmpI;split<;>(try split)<;>omega
theorem q8k {x y:Int}:0<=cmpI x y↔y<=x:=by unfold cmpI;split<;>(try split)<;>omega
theorem qam4 {x y:Int}:cmpI x y<0↔x<y:=by unfold cmpI;split<;>(try split)<;>omega
theorem qam5 {x y:Int}:0<cmpI x y↔y<x:=by unfold cmpI;split<;>(try split)<;>omega
theorem qnj {a b:Dy}(ha:a.Ok)(hb:b.Ok):(a.lo2 b).val=min a.val b.val:=by
 unfold Dy.lo2;rw[qri ha hb];split
 ·rename_i h;rw[cmpI_le]at h;omega
 ·rename_i h;rw[cmpI_le]at h;omega
theorem qnl {a b:Dy}(ha:a.Ok)(hb:b.Ok):(a.hi2 b).val=max a.val b.val:=by
 unfold Dy.hi2;rw[qri ha hb];split
 ·rename_i h;rw[q8k]at h;omega
 ·rename_i h;rw[q8k]at h;omega
theorem qte {d:Dy}(h:d.Ok):(0<d.sgn↔0<d.val)/\(d.sgn<0↔d.val<0):=by
 by_cases hm:d.m=[]
 ·have h1:d.absN=0:=Dy.absN_nil hm;simp[Dy.sgn,Dy.val,hm,h1]
 ·have h1:=h.absN_ne hm;unfold Dy.sgn Dy.val;rw[if_neg hm];cases d.neg<;>simp<;>omega
theorem qha {d:Dy}(h:d.Ok):d.abs.Ok:=by
 unfold Dy.abs;split
 ·rename_i h2;exact⟨h.li,h.tr,h.len,fun hm=>absurd hm h2.2,h.odd,h.bits,h.elo,h.ehi,h.top⟩
 ·exact Dy.zero_ok
theorem qil : Dy.zero.val=0:=by
 unfold Dy.val;rw[Dy.absN_nil rfl];rfl
theorem qyu {d:Dy}(h:d.Ok):d.abs.val=d.val.natAbs:=by
 unfold Dy.abs;rw[h.valid];by_cases hm:d.m=[]
 ·have h1:d.absN=0:=Dy.absN_nil hm;simp[hm,qil];simp[Dy.val,h1]
 ·have h2:(⟨false,d.m,d.e⟩:Dy).absN=d.absN:=rfl;simp only[true_and,ne_eq,hm,not_false_eq_true,if_true];unfold Dy.val;rw[h2];cases d.neg<;>simp
theorem qbc {x:Iv}(w:x.W)(h:x.known=true):x.lo.val<=x.hi.val:=by
 obtain⟨h1,h2⟩:=qat w h;simp[Iv.known]at h;have hv:=h.2;rw[Iv.valid,if_neg (by simp[h.1])]at hv;simp[qri h1 h2,cmpI_le]at hv;exact hv.2
def Iv.mag (x:Iv):Dy:=x.lo.abs.hi2 x.hi.abs
def Iv.mig (x:Iv):Dy:=if x.sgn=0 then Dy.zero else x.lo.abs.lo2 x.hi.abs
def Iv.abs (x:Iv):Iv:=if x.known=true then⟨x.mig,x.mag,false⟩else Iv.whole
theorem qrc {x:Iv}(w:x.W)(h:x.known=true):x.mag.Ok:=qae6 (qha (qat w h).1) (qha (qat w h).2)
theorem qaes {x:Iv}(w:x.W)(h:x.known=true):x.mig.Ok:=by
 unfold Iv.mig;split
 ·exact Dy.zero_ok
 ·exact qaey (qha (qat w h).1) (qha (qat w h).2)
theorem abs_W {x:Iv}(w:x.W):x.abs.W:=by
 unfold Iv.abs;split
 ·rename_i h;exact⟨(qaes w h).w,(qrc w h).w⟩
 ·exact Iv.whole_W
theorem q83 (x:Iv)(wx:x.W):CQ prog qzf [x.v] (.tup [(if x.known=true then x.mag else Dy.zero).v,.bool x.known]):=by
 refine qag rfl fun H=>?_
 simp;refine qaj rfl rfl (H1:=H++[some ⟨7,[x.v],false,true⟩,some ⟨3,[.agg [.bool false,.nil,.int .i64 0]],false,true⟩,some ⟨7,[x.v],true,false⟩]) (vs:=[ivs [x]]) (by simp[prep,frzVs,frzV];rfl) (qdl [x] (by simp) (by simpa using wx)) ?_;cases hk:x.known
 ·simp[hk,Dy.zero,lim]
 ·obtain⟨h1,h2⟩:=qat wx hk;simp[hk];refine qaa rfl rfl rfl (qy1 x.lo wx.lo) ?_;simp;refine qaa rfl rfl rfl (qy1 x.hi wx.hi) ?_;simp;refine qaa rfl rfl rfl (q2c x.lo.abs x.hi.abs (qha h1).w (qha h2).w) ?_;simp[Iv.mag,lim]
theorem qano (x:Iv)(wx:x.W):CQ prog qze [x.v] (.tup [(if x.known=true then x.mig else Dy.zero).v,.bool x.known]):=by
 refine qag rfl fun H=>?_
 simp;refine qaj rfl rfl (H1:=H++[some ⟨7,[x.v],false,true⟩,some ⟨3,[.agg [.bool false,.nil,.int .i64 0]],false,true⟩,some ⟨7,[x.v],true,false⟩]) (vs:=[ivs [x]]) (by simp[prep,frzVs,frzV];rfl) (qdl [x] (by simp) (by simpa using wx)) ?_;cases hk:x.known
 ·simp[hk,Dy.zero,lim]
 ·obtain⟨h1,h2⟩:=qat wx hk;simp[hk];refine qaa rfl rfl rfl (qaa7 x wx) ?_;by_cases hs:x.sgn=0
  ·simp[hs,Iv.mig,Dy.zero,lim]
  ·simp[hs];refine qaa rfl rfl rfl (qy1 x.lo wx.lo) ?_;simp;refine qaa rfl rfl rfl (qy1 x.hi wx.hi) ?_;simp;refine qaa rfl rfl rfl (q2d x.lo.abs x.hi.abs (qha h1).w (qha h2).w) ?_;simp[Iv.mig,hs,lim]
theorem qahn (x:Iv)(wx:x.W):CQ prog qzi [x.v] x.abs.v:=by
 refine qag rfl fun H=>?_
 have m1:=qano x wx;have m2:=q83 x wx;simp;refine qaj rfl rfl (H1:=H++[some ⟨7,[x.v],false,true⟩,some ⟨7,[.agg [.bool false,.nil,.int .i64 0,.bool false,.nil,.int .i64 0,.bool false]],false,true⟩,some ⟨7,[x.v],true,false⟩]) (vs:=[ivs [x]]) (by simp[prep,frzVs,frzV];rfl) (qdl [x] (by simp) (by simpa using wx)) ?_;cases hk:x.known
 ·simp[hk];refine zq qap ?_;simp[Iv.abs,hk,lim]
 ·rw[hk]at m1 m2;simp at m1 m2;simp[hk];refine zq m1 ?_;simp;refine zq m2 ?_;simp[Iv.abs,hk,lim]
def pairs (x y:Iv):List (Dy × Dy):=[(x.lo,y.lo),(x.lo,y.hi),(x.hi,y.lo),(x.hi,y.hi)]
def accLo (f:Dy->Dy->Dy × Int):List (Dy × Dy)->Nat->Dy
 |_,0=>Dy.zero
 |l,i+1=>if i=0 then(f ((l.getD i (Dy.zero,Dy.zero)).1) ((l.getD i (Dy.zero,Dy.zero)).2)).1 else(accLo f l i).lo2 (f ((l.getD i (Dy.zero,Dy.zero)).1) ((l.getD i (Dy.zero,Dy.zero)).2)).1
def accHi (f:Dy->Dy->Dy × Int):List (Dy × Dy)->Nat->Dy
 |_,0=>Dy.zero
 |l,i+1=>if i=0 then(f ((l.getD i (Dy.zero,Dy.zero)).1) ((l.getD i (Dy.zero,Dy.zero)).2)).1 else(accHi f l i).hi2 (f ((l.getD i (Dy.zero,Dy.zero)).1) ((l.getD i (Dy.zero,Dy.zero)).2)).1
def Iv.four (f g:Dy->Dy->Dy × Int)(x y:Iv):Iv:=
 if(pairs x y).all (fun q=>decide ((f q.1 q.2).2=0)&&decide ((g q.1 q.2).2=0))=true then⟨accLo f (pairs x y) 4,accHi g (pairs x y) 4,false⟩else Iv.whole
theorem qaap {a b:Dy}(ha:a.Ok)(hb:b.Ok):(b.cmp a<0↔¬a.cmp b<=0)/\(0<b.cmp a↔¬0<=a.cmp b):=by
 rw[qri ha hb,qri hb ha,qam4,qam5,cmpI_le,q8k];omega
def zIv : V:=.agg [.bool false,.nil,.int .i64 0,.bool false,.nil,.int .i64 0,.bool false]
theorem qabz {n0:Nat}{Q:AX->Env->Heap->Prop}(H G:Heap)(E:Env)(x y:Iv)(p:Int)(gd gu:Nat)(f g:Dy->Dy->Dy × Int)
 (hd:∀H args,prep prog gd H args=frzVs H args) (hu:∀H args,prep prog gu H args=frzVs H args)
 (cd:∀a b:Dy,a.W->b.W->CQ prog gd [a.v,b.v,.int .i64 p] (.tup [(f a b).1.v,.int .i64 (f a b).2])) (cu:∀a b:Dy,a.W->b.W->CQ prog gu [a.v,b.v,.int .i64 p] (.tup [(g a b).1.v,.int .i64 (g a b).2]))
 (okf:∀a b,(f a b).1.Ok) (okg:∀a b,(g a b).1.Ok) (i:Nat) (hi:i<4) (a b:Dy) (wa:a.W) (wb:b.W) (cs:List V) (A:Blk)
 (hl6:6<=cs.length-i*6) (ht6:List.take 6 (List.drop (i*6) cs)=[.bool a.neg,lim a.m,.int .i64 a.e,.bool b.neg,lim b.m,.int .i64 b.e])
 (lo hi2:Dy) (olo:lo.Ok) (ohi:hi2.Ok) (w:V) (hw:(i=0/\w=zIv)\/(i≠0/\w=Iv.v ⟨lo,hi2,false⟩))
 (h2:E 2=.int .i64 p) (h3:E 3=.fn gd []) (h4:E 4=.fn gu []) (h10:E 10=.ptr (H.length+2) 0 0) (h12:E 12=.ptr (H.length+4) 0 0) (h40:E 40=.agg cs) (h41:E 41=.int .i64 i)
 (hbad:((f a b).2≠0\/(g a b).2≠0)->∀E1 G1,E1 10=.ptr (H.length+2) 0 0->Q .ret E1 (H++some ⟨7,[x.v],false,true⟩ :: some ⟨7,[y.v],false,true⟩ :: some ⟨7,[Iv.whole.v],false,true⟩ :: some A :: some ⟨7,[w],false,true⟩ :: G1))
 (hgood:(f a b).2=0->(g a b).2=0->∀E1 G1,E1 2=.int .i64 p->E1 3=.fn gd []->E1 4=.fn gu []->E1 10=.ptr (H.length+2) 0 0->E1 12=.ptr (H.length+4) 0 0->E1 40=.agg cs->E1 41=.int .i64 ((i+1:Nat):Int) ->
  Q .normal E1 (H++some ⟨7,[x.v],false,true⟩ :: some ⟨7,[y.v],false,true⟩ :: some ⟨7,[zIv],false,true⟩ :: some A :: some ⟨7,[Iv.v ⟨if i=0 then(f a b).1 else lo.lo2 (f a b).1,if i=0 then(g a b).1 else hi2.hi2 (g a b).1,false⟩],false,true⟩ :: G1)) (hn0:n0=H.length) :
 WK prog n0 qdo [] E (H++some ⟨7,[x.v],false,true⟩ :: some ⟨7,[y.v],false,true⟩ :: some ⟨7,[zIv],false,true⟩ :: some A :: some ⟨7,[w],false,true⟩ :: G) Q:=by
 subst hn0;have e1:IntKind.i64.wrap ((i:Int)+1)=((i+1:Nat):Int):=by rw[wrap_i64]<;>omega
 have c1:=cd a b wa wb;have c2:=cu a b wa wb;have hi':(i:Int)<4:=by omega
 simp[qdo,h2,h3,h40,h41,hi,hi',hl6,ht6];refine qaa (g:=gd) (caps:=[]) (args:=[a.v,b.v,.int .i64 p]) (vs:=[a.v,b.v,.int .i64 p]) rfl rfl (by rw[hd];rfl) c1 ?_;simp[h4,h2];refine qaa (g:=gu) (caps:=[]) (args:=[a.v,b.v,.int .i64 p]) (vs:=[a.v,b.v,.int .i64 p]) rfl rfl (by rw[hu];rfl) c2 ?_;by_cases b1:(f a b).2=0
 ·by_cases b2:(g a b).2=0
  ·rcases hw with ⟨rfl,rfl⟩|⟨h0,rfl⟩
   ·simp[b1,b2,zIv,h41,h12];simp[zIv]at hgood;exact hgood b1 b2 _ _ (by simp[h2]) (by simp[h3]) (by simp[h4]) (by simp[h10]) (by simp[h12]) (by simp[h40]) (by simpa using e1)
   ·have h0':¬(i:Int)=0:=by omega
    simp[b1,b2,h0,h12,zIv];simp[zIv,h0]at hgood;obtain⟨f1,f2⟩:=qaap olo (okf a b);obtain⟨f3,f4⟩:=qaap ohi (okg a b);refine qaa rfl rfl rfl (qkr _ _ (okf a b).w olo.w) ?_;by_cases q1:(f a b).1.cmp lo<0
    ·simp[q1,h0,h12];refine qaa rfl rfl rfl (qkr _ _ (okg a b).w ohi.w) ?_;by_cases q2:0<(g a b).1.cmp hi2
     ·simp[q2,h12,h41];have q3:=f1.1 q1;have q4:=f4.1 q2;simp[Dy.lo2,Dy.hi2,q3,q4]at hgood;exact hgood b1 b2 _ _ (by simp[h2]) (by simp[h3]) (by simp[h4]) (by simp[h10]) (by simp[h12]) (by simp[h40]) (by simp[e1])
     ·simp[q2,h41];have q3:=f1.1 q1;have q4:0<=hi2.cmp (g a b).1:=Decidable.byContradiction fun h=>q2 (f4.2 h)
      simp[Dy.lo2,Dy.hi2,q3,q4]at hgood;exact hgood b1 b2 _ _ (by simp[h2]) (by simp[h3]) (by simp[h4]) (by simp[h10]) (by simp[h12]) (by simp[h40]) (by simp[e1])
    ·simp[q1,h0,h12];have q3:lo.cmp (f a b).1<=0:=Decidable.byContradiction fun h=>q1 (f1.2 h)
     refine qaa rfl rfl rfl (qkr _ _ (okg a b).w ohi.w) ?_;by_cases q2:0<(g a b).1.cmp hi2
     ·simp[q2,h12,h41];have q4:=f4.1 q2;simp[Dy.lo2,Dy.hi2,q3,q4]at hgood;exact hgood b1 b2 _ _ (by simp[h2]) (by simp[h3]) (by simp[h4]) (by simp[h10]) (by simp[h12]) (by simp[h40]) (by simp[e1])
     ·simp[q2,h41];have q4:0<=hi2.cmp (g a b).1:=Decidable.byContradiction fun h=>q2 (f4.2 h)
      simp[Dy.lo2,Dy.hi2,q3,q4]at hgood;exact hgood b1 b2 _ _ (by simp[h2]) (by simp[h3]) (by simp[h4]) (by simp[h10]) (by simp[h12]) (by simp[h40]) (by simp[e1])
  ·simp[b1,b2];refine zq qap ?_;simp[h10];simp at hbad;exact hbad (.inr b2) _ _ (by simp[h10])
 ·simp[b1];refine zq qap ?_;simp[h10];simp at hbad;exact hbad (.inl b1) _ _ (by simp[h10])
def qai (x y:Iv)(i:Nat):Dy × Dy:=(pairs x y).getD i (Dy.zero,Dy.zero)
def qyl (x y:Iv):List V:=[.bool x.lo.neg,lim x.lo.m,.int .i64 x.lo.e,.bool y.lo.neg,lim y.lo.m,.int .i64 y.lo.e,.bool x.lo.neg,lim x.lo.m,.int .i64 x.lo.e,.bool y.hi.neg,lim y.hi.m,.int .i64 y.hi.e,
 .bool x.hi.neg,lim x.hi.m,.int .i64 x.hi.e,.bool y.lo.neg,lim y.lo.m,.int .i64 y.lo.e,.bool x.hi.neg,lim x.hi.m,.int .i64 x.hi.e,.bool y.hi.neg,lim y.hi.m,.int .i64 y.hi.e]
theorem qagk {x y:Iv}{i:Nat}(hi:i<4):6<=(qyl x y).length-i*6/\List.take 6 (List.drop (i*6) (qyl x y))=[.bool (qai x y i).1.neg,lim (qai x y i).1.m,.int .i64 (qai x y i).1.e,.bool (qai x y i).2.neg,lim (qai x y i).2.m,.int .i64 (qai x y i).2.e]:=by
 obtain rfl|rfl|rfl|rfl:i=0\/i=1\/i=2\/i=3:=by omega
 all_goals simp[qyl,qai,pairs]
theorem q12 {x y:Iv}(wx:x.W)(wy:y.W){i:Nat}(hi:i<4):(qai x y i).1.W/\(qai x y i).2.W:=by
 obtain rfl|rfl|rfl|rfl:i=0\/i=1\/i=2\/i=3:=by omega
 all_goals simp[qai,pairs,wx.lo,wx.hi,wy.lo,wy.hi]
theorem qcl {f:Dy->Dy->Dy × Int}{x y:Iv}{i:Nat}:accLo f (pairs x y) (i+1)=if i=0 then(f (qai x y i).1 (qai x y i).2).1 else(accLo f (pairs x y) i).lo2 (f (qai x y i).1 (qai x y i).2).1:=rfl
theorem qcm {f:Dy->Dy->Dy × Int}{x y:Iv}{i:Nat}:accHi f (pairs x y) (i+1)=if i=0 then(f (qai x y i).1 (qai x y i).2).1 else(accHi f (pairs x y) i).hi2 (f (qai x y i).1 (qai x y i).2).1:=rfl
theorem qds {f:Dy->Dy->Dy × Int}(okf:∀a b,(f a b).1.Ok){x y:Iv}:∀i,(accLo f (pairs x y) i).Ok
 |0=>Dy.zero_ok
 |i+1=>by
  rw[qcl];split
  ·exact okf _ _
  ·exact qaey (qds okf i) (okf _ _)
theorem qdt {f:Dy->Dy->Dy × Int}(okf:∀a b,(f a b).1.Ok){x y:Iv}:∀i,(accHi f (pairs x y) i).Ok
 |0=>Dy.zero_ok
 |i+1=>by
  rw[qcm];split
  ·exact okf _ _
  ·exact qae6 (qdt okf i) (okf _ _)
def good4 (f g:Dy->Dy->Dy × Int)(x y:Iv)(i:Nat):Prop:=∀j,j<i->(f (qai x y j).1 (qai x y j).2).2=0/\(g (qai x y j).1 (qai x y j).2).2=0
theorem qg9 {f g:Dy->Dy->Dy × Int}{x y:Iv}(h:good4 f g x y 4):Iv.four f g x y=⟨accLo f (pairs x y) 4,accHi g (pairs x y) 4,false⟩:=by
 have h0:=h 0 (by omega);have h1:=h 1 (by omega);have h2:=h 2 (by omega);have h3:=h 3 (by omega);simp[qai,pairs]at h0 h1 h2 h3;unfold Iv.four;rw[if_pos];simp[pairs,h0,h1,h2,h3]
theorem qvv {f g:Dy->Dy->Dy × Int}{x y:Iv}{i:Nat}(hi:i<4)(h:(f (qai x y i).1 (qai x y i).2).2≠0\/(g (qai x y i).1 (qai x y i).2).2≠0):Iv.four f g x y=Iv.whole:=by
 unfold Iv.four;rw[if_neg];intro hc;simp[pairs]at hc;obtain rfl|rfl|rfl|rfl:i=0\/i=1\/i=2\/i=3:=by omega
 all_goals simp[qai,pairs]at h
 all_goals obtain⟨a,b,c,d⟩:=hc
 all_goals rcases h with h|h
 all_goals simp_all
theorem qafd (x y:Iv)(p:Int)(gd gu:Nat)(f g:Dy->Dy->Dy × Int)(wx:x.W)(wy:y.W)
 (hd:∀H args,prep prog gd H args=frzVs H args) (hu:∀H args,prep prog gu H args=frzVs H args)
 (cd:∀a b:Dy,a.W->b.W->CQ prog gd [a.v,b.v,.int .i64 p] (.tup [(f a b).1.v,.int .i64 (f a b).2])) (cu:∀a b:Dy,a.W->b.W->CQ prog gu [a.v,b.v,.int .i64 p] (.tup [(g a b).1.v,.int .i64 (g a b).2]))
 (okf:∀a b,(f a b).1.Ok) (okg:∀a b,(g a b).1.Ok):CQ prog qxa [x.v,y.v,.int .i64 p,.fn gd [],.fn gu []] (Iv.four f g x y).v:=by
 refine qag rfl fun H=>?_
 simp;refine qb1 (fun k E H'=>∃i w G,k=4-i/\i<=4/\((i=0/\w=zIv)\/(i≠0/\w=Iv.v ⟨accLo f (pairs x y) i,accHi g (pairs x y) i,false⟩))/\good4 f g x y i /\
  E 2=.int .i64 p/\E 3=.fn gd []/\E 4=.fn gu []/\E 10=.ptr (H.length+2) 0 0/\E 12=.ptr (H.length+4) 0 0/\E 40=.agg (qyl x y)/\E 41=.int .i64 i /\
  H'=H++some ⟨7,[x.v],false,true⟩ :: some ⟨7,[y.v],false,true⟩ :: some ⟨7,[zIv],false,true⟩ :: some ⟨24,[.agg (qyl x y)],false,true⟩ :: some ⟨7,[w],false,true⟩ :: G) 4 ?_ ?_
 ·refine⟨0,zIv,[],rfl,by omega,.inl ⟨rfl,rfl⟩,fun j hj=>by omega,?_,?_,?_,?_,?_,?_,?_,?_⟩<;>simp[qyl,zIv]
 ·rintro k E H' ⟨i,w,G,hk,hi,hw,hg,h2,h3,h4,h10,h12,h40,h41,rfl⟩;refine qaq ?_;by_cases h4':i<4
  ·obtain⟨hl,ht⟩:=qagk (x:=x) (y:=y) h4';obtain⟨wa,wb⟩:=q12 wx wy h4';refine qabz H G E x y p gd gu f g hd hu cd cu okf okg i h4' _ _ wa wb (qyl x y) _ hl ht _ _ (qds okf i) (qdt okg i) w hw h2 h3 h4 h10 h12 h40 h41 ?_ ?_ rfl
   ·intro hb E1 G1 e10;simp[e10,qvv h4' hb,Iv.whole,lim]
   ·intro b1 b2 E1 G1 e2 e3 e4 e10 e12 e40 e41;refine⟨4-(i+1),by omega,i+1,_,G1,rfl,by omega,.inr ⟨by omega,?_⟩,?_,e2,e3,e4,e10,e12,e40,e41,rfl⟩
    ·rw[qcl,qcm]
    ·intro j hj;by_cases h:j<i
     ·exact hg j h
     ·have:j=i:=by omega
      subst this;exact⟨b1,b2⟩
  ·have:i=4:=by omega
   subst this;rcases hw with ⟨h,_⟩|⟨_,rfl⟩
   ·omega
   ·simp[qdo,h41,h10,h12,qg9 hg,lim,zIv]
def Iv.mul (x y:Iv)(p:Int):Iv:=if(x.known&&y.known&&precB p)=true then Iv.four (fun a b=>rMul a b p false) (fun a b=>rMul a b p true) x y else Iv.whole
def Iv.div (x y:Iv)(p:Int):Iv:=if(x.known&&y.known&&precB p&&decide (y.sgn≠0))=true then Iv.four (fun a b=>rDiv a b p false) (fun a b=>rDiv a b p true) x y else Iv.whole
theorem qak0 {f g:Dy->Dy->Dy × Int}(okf:∀a b,(f a b).1.Ok)(okg:∀a b,(g a b).1.Ok){x y:Iv}:(Iv.four f g x y).W:=by
 unfold Iv.four;split
 ·exact⟨(qds okf 4).w,(qdt okg 4).w⟩
 ·exact Iv.whole_W
theorem mul_W {x y:Iv}{p:Int}:(x.mul y p).W:=by
 unfold Iv.mul;split
 ·exact qak0 (fun _ _=>rMul_ok) (fun _ _=>rMul_ok)
 ·exact Iv.whole_W
theorem div_W {x y:Iv}{p:Int}:(x.div y p).W:=by
 unfold Iv.div;split
 ·exact qak0 (fun _ _=>qhb) (fun _ _=>qhb)
 ·exact Iv.whole_W
theorem q95 {a:Dy}:a.lo2 a=a:=by unfold Dy.lo2;split<;>rfl
theorem q98 {a:Dy}:a.hi2 a=a:=by unfold Dy.hi2;split<;>rfl
def pair6 (q:Dy × Dy):V:=.agg [.bool q.1.neg,lim q.1.m,.int .i64 q.1.e,.bool q.2.neg,lim q.2.m,.int .i64 q.2.e]
def ps4 (x y:Iv):List V:=[pair6 (x.lo,y.lo),pair6 (x.lo,y.hi),pair6 (x.hi,y.lo),pair6 (x.hi,y.hi)]
theorem qakl {x y:Iv}{i:Nat}(hi:i<4):(ps4 x y)[i]?=some (pair6 (qai x y i)):=by
 obtain rfl|rfl|rfl|rfl:i=0\/i=1\/i=2\/i=3:=by omega
 all_goals rfl
theorem qth {x y:Iv}:(ps4 x y).length=4:=rfl
theorem qafw (x y:Iv):CQ prog qzn [x.v,y.v] (.sl (ps4 x y)):=by
 refine qag rfl fun H=>?_
 simp[ps4,pair6,fin]
theorem qo7 (x y:Iv)(p:Int)(wx:x.W)(wy:y.W):CQ prog qzd [x.v,y.v,.int .i64 p] (x.mul y p).v:=by
 refine qag rfl fun H=>?_
 simp;refine qaj rfl rfl (H1:=H++[some ⟨7,[x.v],false,true⟩,some ⟨7,[y.v],false,true⟩,some ⟨7,[.agg [.bool false,.nil,.int .i64 0,.bool false,.nil,.int .i64 0,.bool false]],false,true⟩,some ⟨7,[x.v,y.v],true,false⟩]) (vs:=[ivs [x,y]]) (by simp[prep,frzVs,frzV];rfl) (qdl [x,y] (by simp) (by simp;exact⟨wx,wy⟩)) ?_;cases hk:x.known&&y.known
 ·have:([x,y].all Iv.known)=false:=by simpa using hk
  simp only[this];simp;refine zq qap ?_;simp[Iv.mul,hk,lim]
 ·have:([x,y].all Iv.known)=true:=by simpa using hk
  simp only[this];simp;refine qaa rfl rfl rfl (qc0 p) ?_;cases hp:precB p
  ·simp;refine zq qap ?_;simp[Iv.mul,hp,lim]
  ·simp;refine qaa rfl rfl rfl (qafd x y p qi4 qnn (fun a b=>rMul a b p false) (fun a b=>rMul a b p true) wx wy (fun _ _=>rfl) (fun _ _=>rfl) (fun a b wa wb=>qt7 a b p wa wb) (fun a b wa wb=>q4a a b p wa wb) (fun _ _=>rMul_ok) (fun _ _=>rMul_ok)) ?_;simp[Iv.mul,hk,hp,lim]
theorem qr5 (x y:Iv)(p:Int)(wx:x.W)(wy:y.W):CQ prog qzg [x.v,y.v,.int .i64 p] (x.div y p).v:=by
 refine qag rfl fun H=>?_
 simp;refine qaj rfl rfl (H1:=H++[some ⟨7,[x.v],false,true⟩,some ⟨7,[y.v],false,true⟩,some ⟨7,[.agg [.bool false,.nil,.int .i64 0,.bool false,.nil,.int .i64 0,.bool false]],false,true⟩,some ⟨7,[x.v,y.v],true,false⟩]) (vs:=[ivs [x,y]]) (by simp[prep,frzVs,frzV];rfl) (qdl [x,y] (by simp) (by simp;exact⟨wx,wy⟩)) ?_;cases hk:x.known&&y.known
 ·have:([x,y].all Iv.known)=false:=by simpa using hk
  simp only[this];simp;refine zq qap ?_;simp[Iv.div,hk,lim]
 ·have:([x,y].all Iv.known)=true:=by simpa using hk
  simp only[this];simp;refine qaa rfl rfl rfl (qc0 p) ?_;cases hp:precB p
  ·simp;refine zq qap ?_;simp[Iv.div,hp,lim]
  ·simp;refine qaa rfl rfl rfl (qaa7 y wy) ?_;by_cases hs:y.sgn=0
   ·simp[hs];refine zq qap ?_;simp[Iv.div,hs,lim]
   ·simp[hs];refine qaa rfl rfl rfl (qafd x y p qpk qso (fun a b=>rDiv a b p false) (fun a b=>rDiv a b p true) wx wy (fun _ _=>rfl) (fun _ _=>rfl) (fun a b wa wb=>qaco a b p wa wb) (fun a b wa wb=>qakb a b p wa wb) (fun _ _=>qhb) (fun _ _=>qhb)) ?_;simp[Iv.div,hk,hp,hs,lim]
theorem qabk {Q:AX->Env->Heap->Prop}(H G:Heap)(E:Env)(x y:Iv)(p:Int)(i:Nat)(hi:i<4)(wa:(qai x y i).1.W)(wb:(qai x y i).2.W)
 (lo hi2:Dy) (olo:lo.Ok) (ohi:hi2.Ok) (w:V) (hw:(i=0/\w=zIv)\/(i≠0/\w=Iv.v ⟨lo,hi2,false⟩))
 (h2:E 2=.int .i64 p) (h6:E 6=.ptr (H.length+2) 0 0) (h7:E 7=.sl (ps4 x y)) (h8:E 8=.ptr (H.length+3) 0 0) (h9:E 9=.int .i64 i)
 (hbad:((rMul (qai x y i).1 (qai x y i).2 p false).2≠0\/(rMul (qai x y i).1 (qai x y i).2 p true).2≠0)->∀E1 G1,E1 6=.ptr (H.length+2) 0 0->Q .ret E1 (H++some ⟨7,[x.v],false,true⟩ :: some ⟨7,[y.v],false,true⟩ :: some ⟨7,[Iv.whole.v],false,true⟩ :: some ⟨7,[w],false,true⟩ :: G1))
 (hgood:(rMul (qai x y i).1 (qai x y i).2 p false).2=0->(rMul (qai x y i).1 (qai x y i).2 p true).2=0->∀E1 G1,E1 2=.int .i64 p->E1 6=.ptr (H.length+2) 0 0->E1 7=.sl (ps4 x y)->E1 8=.ptr (H.length+3) 0 0->E1 9=.int .i64 ((i+1:Nat):Int) ->
  Q .normal E1 (H++some ⟨7,[x.v],false,true⟩ :: some ⟨7,[y.v],false,true⟩ :: some ⟨7,[zIv],false,true⟩ :: some ⟨7,[Iv.v ⟨if i=0 then(rMul (qai x y i).1 (qai x y i).2 p false).1 else lo.lo2 (rMul (qai x y i).1 (qai x y i).2 p false).1,if i=0 then(rMul (qai x y i).1 (qai x y i).2 p true).1 else hi2.hi2 (rMul (qai x y i).1 (qai x y i).2 p true).1,false⟩],false,true⟩ :: G1)) :
 WK prog H.length qdg [] E (H++some ⟨7,[x.v],false,true⟩ :: some ⟨7,[y.v],false,true⟩ :: some ⟨7,[zIv],false,true⟩ :: some ⟨7,[w],false,true⟩ :: G) Q:=by
 have e1:IntKind.i64.wrap ((i:Int)+1)=((i+1:Nat):Int):=by rw[wrap_i64]<;>omega
 have hi':(i:Int)<4:=by omega
 have hat:(ps4 x y)[i]'(by rw[qth];exact hi)=pair6 (qai x y i):=by have:=qakl (x:=x) (y:=y) hi;rw[List.getElem?_eq_getElem (by rw[qth];exact hi)]at this;exact Option.some.inj this
 have hlen:=qth (x:=x) (y:=y);have c1:=qaa2 (qai x y i).1 (qai x y i).2 p false wa wb;have c2:=qaa2 (qai x y i).1 (qai x y i).2 p true wa wb;have ok1:=rMul_ok (a:=(qai x y i).1) (b:=(qai x y i).2) (p:=p) (up:=false);have ok2:=rMul_ok (a:=(qai x y i).1) (b:=(qai x y i).2) (p:=p) (up:=true);generalize hq:qai x y i=q at *
 obtain⟨a,b⟩:=q;simp only at *
 generalize hr:rMul a b p false=r at *
 generalize hs:rMul a b p true=s at *
 simp[pair6]at hat;simp[qdg,h2,h7,h9,hi,hi',hat,hlen];refine zq c1 ?_;simp[h7,h9,h2,hi,hat,hlen];refine zq c2 ?_;by_cases b1:r.2=0
 ·by_cases b2:s.2=0
  ·rcases hw with ⟨rfl,rfl⟩|⟨h0,rfl⟩
   ·simp[b1,b2,zIv,h9,h8];refine qaa rfl rfl rfl (qvs r.1 r.1 ok1 ok1) ?_;simp[h8];refine qaa rfl rfl rfl (q18 s.1 s.1 ok2 ok2) ?_;simp[zIv]at hgood;simp[h8,h9,q95,q98];exact hgood b1 b2 _ _ (by simp[h2]) (by simp[h6]) (by simp[h7]) (by simp[h8]) (by simpa using e1)
   ·have h0':¬(i:Int)=0:=by omega
    simp[zIv,h0]at hgood;simp[b1,b2,h0,h9,h8,zIv];refine qaa rfl rfl rfl (qvs lo r.1 olo ok1) ?_;simp[h8];refine qaa rfl rfl rfl (q18 hi2 s.1 ohi ok2) ?_;simp[h8,h9];exact hgood b1 b2 _ _ (by simp[h2]) (by simp[h6]) (by simp[h7]) (by simp[h8]) (by simp[e1])
  ·simp[b1,b2];refine zq qa9 ?_;simp[h6];simp at hbad;exact hbad (.inr b2) _ _ (by simp[h6])
 ·simp[b1];refine zq qa9 ?_;simp[h6];simp at hbad;exact hbad (.inl b1) _ _ (by simp[h6])
theorem qad0 (H:Heap)(x y:Iv)(p:Int)(wx:x.W)(wy:y.W)(E:Env){K:List Fr}{Q:AX->Env->Heap->Prop}
 (h2:E 2=.int .i64 p) (h6:E 6=.ptr (H.length+2) 0 0) (h7:E 7=.sl (ps4 x y)) (h8:E 8=.ptr (H.length+3) 0 0) (h9:E 9=.int .i64 0)
 (hbad:∀E1 w G1,E1 6=.ptr (H.length+2) 0 0->Iv.four (fun a b=>rMul a b p false) (fun a b=>rMul a b p true) x y=Iv.whole->WP prog H.length Q K .ret E1 (H++some ⟨7,[x.v],false,true⟩ :: some ⟨7,[y.v],false,true⟩ :: some ⟨7,[Iv.whole.v],false,true⟩ :: some ⟨7,[w],false,true⟩ :: G1))
 (hgood:∀E1 G1,E1 6=.ptr (H.length+2) 0 0->E1 8=.ptr (H.length+3) 0 0->WP prog H.length Q K (.exit 0) E1 (H++some ⟨7,[x.v],false,true⟩ :: some ⟨7,[y.v],false,true⟩ :: some ⟨7,[zIv],false,true⟩ :: some ⟨7,[(Iv.four (fun a b=>rMul a b p false) (fun a b=>rMul a b p true) x y).v],false,true⟩ :: G1)) :
 WK prog H.length (.loop qdg) K E (H++some ⟨7,[x.v],false,true⟩ :: some ⟨7,[y.v],false,true⟩ :: some ⟨7,[zIv],false,true⟩ :: some ⟨7,[zIv],false,true⟩ :: []) Q:=by
 refine qb1 (fun k E H'=>∃i w G,k=4-i/\i<=4/\((i=0/\w=zIv)\/(i≠0/\w=Iv.v ⟨accLo (fun a b=>rMul a b p false) (pairs x y) i,accHi (fun a b=>rMul a b p true) (pairs x y) i,false⟩))/\good4 (fun a b=>rMul a b p false) (fun a b=>rMul a b p true) x y i /\
  E 2=.int .i64 p/\E 6=.ptr (H.length+2) 0 0/\E 7=.sl (ps4 x y)/\E 8=.ptr (H.length+3) 0 0/\E 9=.int .i64 i /\
  H'=H++some ⟨7,[x.v],false,true⟩ :: some ⟨7,[y.v],false,true⟩ :: some ⟨7,[zIv],false,true⟩ :: some ⟨7,[w],false,true⟩ :: G) 4 ?_ ?_
 ·exact⟨0,zIv,[],rfl,by omega,.inl ⟨rfl,rfl⟩,fun j hj=>by omega,h2,h6,h7,h8,h9,rfl⟩
 ·rintro k E H' ⟨i,w,G,hk,hi,hw,hg,h2,h6,h7,h8,h9,rfl⟩;refine qaq ?_;by_cases h4':i<4
  ·obtain⟨wa,wb⟩:=q12 wx wy h4';refine qabk H G E x y p i h4' wa wb _ _ (qds (f:=(fun a b=>rMul a b p false)) (fun _ _=>rMul_ok) i) (qdt (f:=(fun a b=>rMul a b p true)) (fun _ _=>rMul_ok) i) w hw h2 h6 h7 h8 h9 ?_ ?_
   ·intro hb E1 G1 e6;exact hbad E1 w G1 e6 (qvv (f:=(fun a b=>rMul a b p false)) (g:=(fun a b=>rMul a b p true)) h4' hb)
   ·intro b1 b2 E1 G1 e2 e6 e7 e8 e9;refine⟨4-(i+1),by omega,i+1,_,G1,rfl,by omega,.inr ⟨by omega,?_⟩,?_,e2,e6,e7,e8,e9,rfl⟩
    ·rw[qcl,qcm]
    ·intro j hj;by_cases h:j<i
     ·exact hg j h
     ·have:j=i:=by omega
      subst this;exact⟨b1,b2⟩
  ·have:i=4:=by omega
   subst this;rcases hw with ⟨h,_⟩|⟨_,rfl⟩
   ·omega
   ·simp[qdg,h9];rw[qg9 hg]at hgood;exact hgood _ G (by simp[h6]) (by simp[h8])
theorem q37 (x y:Iv)(p:Int)(wx:x.W)(wy:y.W):CQ prog q2y [x.v,y.v,.int .i64 p] (x.mul y p).v:=by
 refine qag rfl fun H=>?_
 simp;refine qaa rfl rfl rfl (qs9 p) ?_;cases hp:precB p
 ·simp;refine zq qa9 ?_;simp[Iv.mul,hp,lim]
 ·simp;refine qaa rfl rfl rfl (qgb x wx) ?_;cases hx:x.known
  ·simp;refine zq qa9 ?_;simp[Iv.mul,hx,lim]
  ·simp;refine qaa rfl rfl rfl (qgb y wy) ?_;cases hy:y.known
   ·simp;refine zq qa9 ?_;simp[Iv.mul,hy,lim]
   ·simp;refine qaa rfl rfl rfl (qafw x y) ?_;simp;refine qbv (qad0 H x y p wx wy _ (by simp) (by simp) (by simp) (by simp) (by simp) ?_ ?_) (fun _ _ _ h=>h)
    ·intro E1 w G1 e6 h;simp[e6,Iv.mul,hx,hy,hp,h,lim]
    ·intro E1 G1 e6 e8;simp[e6,e8,Iv.mul,hx,hy,hp,lim,zIv]
theorem qabn {Q:AX->Env->Heap->Prop}(H G:Heap)(E:Env)(x y:Iv)(p:Int)(i:Nat)(hi:i<4)(wa:(qai x y i).1.W)(wb:(qai x y i).2.W)
 (lo hi2:Dy) (olo:lo.Ok) (ohi:hi2.Ok) (w:V) (hw:(i=0/\w=zIv)\/(i≠0/\w=Iv.v ⟨lo,hi2,false⟩))
 (h2:E 2=.int .i64 p) (h6:E 6=.ptr (H.length+2) 0 0) (h7:E 7=.sl (ps4 x y)) (h8:E 8=.ptr (H.length+3) 0 0) (h9:E 9=.int .i64 i)
 (hbad:((rDiv (qai x y i).1 (qai x y i).2 p false).2≠0\/(rDiv (qai x y i).1 (qai x y i).2 p true).2≠0)->∀E1 G1,E1 6=.ptr (H.length+2) 0 0->Q .ret E1 (H++some ⟨7,[x.v],false,true⟩ :: some ⟨7,[y.v],false,true⟩ :: some ⟨7,[Iv.whole.v],false,true⟩ :: some ⟨7,[w],false,true⟩ :: G1))
 (hgood:(rDiv (qai x y i).1 (qai x y i).2 p false).2=0->(rDiv (qai x y i).1 (qai x y i).2 p true).2=0->∀E1 G1,E1 2=.int .i64 p->E1 6=.ptr (H.length+2) 0 0->E1 7=.sl (ps4 x y)->E1 8=.ptr (H.length+3) 0 0->E1 9=.int .i64 ((i+1:Nat):Int) ->
  Q .normal E1 (H++some ⟨7,[x.v],false,true⟩ :: some ⟨7,[y.v],false,true⟩ :: some ⟨7,[zIv],false,true⟩ :: some ⟨7,[Iv.v ⟨if i=0 then(rDiv (qai x y i).1 (qai x y i).2 p false).1 else lo.lo2 (rDiv (qai x y i).1 (qai x y i).2 p false).1,if i=0 then(rDiv (qai x y i).1 (qai x y i).2 p true).1 else hi2.hi2 (rDiv (qai x y i).1 (qai x y i).2 p true).1,false⟩],false,true⟩ :: G1)) :
 WK prog H.length qdh [] E (H++some ⟨7,[x.v],false,true⟩ :: some ⟨7,[y.v],false,true⟩ :: some ⟨7,[zIv],false,true⟩ :: some ⟨7,[w],false,true⟩ :: G) Q:=by
 have e1:IntKind.i64.wrap ((i:Int)+1)=((i+1:Nat):Int):=by rw[wrap_i64]<;>omega
 have hi':(i:Int)<4:=by omega
 have hat:(ps4 x y)[i]'(by rw[qth];exact hi)=pair6 (qai x y i):=by have:=qakl (x:=x) (y:=y) hi;rw[List.getElem?_eq_getElem (by rw[qth];exact hi)]at this;exact Option.some.inj this
 have hlen:=qth (x:=x) (y:=y);have c1:=qaa4 (qai x y i).1 (qai x y i).2 p false wa wb;have c2:=qaa4 (qai x y i).1 (qai x y i).2 p true wa wb;have ok1:=qhb (a:=(qai x y i).1) (b:=(qai x y i).2) (p:=p) (up:=false);have ok2:=qhb (a:=(qai x y i).1) (b:=(qai x y i).2) (p:=p) (up:=true);generalize hq:qai x y i=q at *
 obtain⟨a,b⟩:=q;simp only at *
 generalize hr:rDiv a b p false=r at *
 generalize hs:rDiv a b p true=s at *
 simp[pair6]at hat;simp[qdh,h2,h7,h9,hi,hi',hat,hlen];refine zq c1 ?_;simp[h7,h9,h2,hi,hat,hlen];refine zq c2 ?_;by_cases b1:r.2=0
 ·by_cases b2:s.2=0
  ·rcases hw with ⟨rfl,rfl⟩|⟨h0,rfl⟩
   ·simp[b1,b2,zIv,h9,h8];refine qaa rfl rfl rfl (qvs r.1 r.1 ok1 ok1) ?_;simp[h8];refine qaa rfl rfl rfl (q18 s.1 s.1 ok2 ok2) ?_;simp[zIv]at hgood;simp[h8,h9,q95,q98];exact hgood b1 b2 _ _ (by simp[h2]) (by simp[h6]) (by simp[h7]) (by simp[h8]) (by simpa using e1)
   ·have h0':¬(i:Int)=0:=by omega
    simp[zIv,h0]at hgood;simp[b1,b2,h0,h9,h8,zIv];refine qaa rfl rfl rfl (qvs lo r.1 olo ok1) ?_;simp[h8];refine qaa rfl rfl rfl (q18 hi2 s.1 ohi ok2) ?_;simp[h8,h9];exact hgood b1 b2 _ _ (by simp[h2]) (by simp[h6]) (by simp[h7]) (by simp[h8]) (by simp[e1])
  ·simp[b1,b2];refine zq qa9 ?_;simp[h6];simp at hbad;exact hbad (.inr b2) _ _ (by simp[h6])
 ·simp[b1];refine zq qa9 ?_;simp[h6];simp at hbad;exact hbad (.inl b1) _ _ (by simp[h6])
theorem qad3 (H:Heap)(x y:Iv)(p:Int)(wx:x.W)(wy:y.W)(E:Env){K:List Fr}{Q:AX->Env->Heap->Prop}
 (h2:E 2=.int .i64 p) (h6:E 6=.ptr (H.length+2) 0 0) (h7:E 7=.sl (ps4 x y)) (h8:E 8=.ptr (H.length+3) 0 0) (h9:E 9=.int .i64 0)
 (hbad:∀E1 w G1,E1 6=.ptr (H.length+2) 0 0->Iv.four (fun a b=>rDiv a b p false) (fun a b=>rDiv a b p true) x y=Iv.whole->WP prog H.length Q K .ret E1 (H++some ⟨7,[x.v],false,true⟩ :: some ⟨7,[y.v],false,true⟩ :: some ⟨7,[Iv.whole.v],false,true⟩ :: some ⟨7,[w],false,true⟩ :: G1))
 (hgood:∀E1 G1,E1 6=.ptr (H.length+2) 0 0->E1 8=.ptr (H.length+3) 0 0->WP prog H.length Q K (.exit 0) E1 (H++some ⟨7,[x.v],false,true⟩ :: some ⟨7,[y.v],false,true⟩ :: some ⟨7,[zIv],false,true⟩ :: some ⟨7,[(Iv.four (fun a b=>rDiv a b p false) (fun a b=>rDiv a b p true) x y).v],false,true⟩ :: G1)) :
 WK prog H.length (.loop qdh) K E (H++some ⟨7,[x.v],false,true⟩ :: some ⟨7,[y.v],false,true⟩ :: some ⟨7,[zIv],false,true⟩ :: some ⟨7,[zIv],false,true⟩ :: []) Q:=by
 refine qb1 (fun k E H'=>∃i w G,k=4-i/\i<=4/\((i=0/\w=zIv)\/(i≠0/\w=Iv.v ⟨accLo (fun a b=>rDiv a b p false) (pairs x y) i,accHi (fun a b=>rDiv a b p true) (pairs x y) i,false⟩))/\good4 (fun a b=>rDiv a b p false) (fun a b=>rDiv a b p true) x y i /\
  E 2=.int .i64 p/\E 6=.ptr (H.length+2) 0 0/\E 7=.sl (ps4 x y)/\E 8=.ptr (H.length+3) 0 0/\E 9=.int .i64 i /\
  H'=H++some ⟨7,[x.v],false,true⟩ :: some ⟨7,[y.v],false,true⟩ :: some ⟨7,[zIv],false,true⟩ :: some ⟨7,[w],false,true⟩ :: G) 4 ?_ ?_
 ·exact⟨0,zIv,[],rfl,by omega,.inl ⟨rfl,rfl⟩,fun j hj=>by omega,h2,h6,h7,h8,h9,rfl⟩
 ·rintro k E H' ⟨i,w,G,hk,hi,hw,hg,h2,h6,h7,h8,h9,rfl⟩;refine qaq ?_;by_cases h4':i<4
  ·obtain⟨wa,wb⟩:=q12 wx wy h4';refine qabn H G E x y p i h4' wa wb _ _ (qds (f:=(fun a b=>rDiv a b p false)) (fun _ _=>qhb) i) (qdt (f:=(fun a b=>rDiv a b p true)) (fun _ _=>qhb) i) w hw h2 h6 h7 h8 h9 ?_ ?_
   ·intro hb E1 G1 e6;exact hbad E1 w G1 e6 (qvv (f:=(fun a b=>rDiv a b p false)) (g:=(fun a b=>rDiv a b p true)) h4' hb)
   ·intro b1 b2 E1 G1 e2 e6 e7 e8 e9;refine⟨4-(i+1),by omega,i+1,_,G1,rfl,by omega,.inr ⟨by omega,?_⟩,?_,e2,e6,e7,e8,e9,rfl⟩
    ·rw[qcl,qcm]
    ·intro j hj;by_cases h:j<i
     ·exact hg j h
     ·have:j=i:=by omega
      subst this;exact⟨b1,b2⟩
  ·have:i=4:=by omega
   subst this;rcases hw with ⟨h,_⟩|⟨_,rfl⟩
   ·omega
   ·simp[qdh,h9];rw[qg9 hg]at hgood;exact hgood _ G (by simp[h6]) (by simp[h8])
theorem qq0 (x y:Iv)(p:Int)(wx:x.W)(wy:y.W):CQ prog q2z [x.v,y.v,.int .i64 p] (x.div y p).v:=by
 refine qag rfl fun H=>?_
 simp;refine qaa rfl rfl rfl (qs9 p) ?_;cases hp:precB p
 ·simp;refine zq qa9 ?_;simp[Iv.div,hp,lim]
 ·simp;refine qaa rfl rfl rfl (qgb x wx) ?_;cases hx:x.known
  ·simp;refine zq qa9 ?_;simp[Iv.div,hx,lim]
  ·simp;refine qaa rfl rfl rfl (qgb y wy) ?_;cases hy:y.known
   ·simp;refine zq qa9 ?_;simp[Iv.div,hy,lim]
   ·simp;refine qaa rfl rfl rfl (q64 y wy) ?_;by_cases hs:y.sgn=0
    ·simp[hs];refine zq qa9 ?_;simp[Iv.div,hs,lim]
    ·simp[hs];refine qaa rfl rfl rfl (qafw x y) ?_;simp;refine qbv (qad3 H x y p wx wy _ (by simp) (by simp) (by simp) (by simp) (by simp) ?_ ?_) (fun _ _ _ h=>h)
     ·intro E1 w G1 e6 h;simp[e6,Iv.div,hx,hy,hp,hs,h,lim]
     ·intro E1 G1 e6 e8;simp[e6,e8,Iv.div,hx,hy,hp,hs,lim,zIv]
def Iv.sq (x:Iv)(p:Int):Iv:=if(!x.abs.all&&precB p)=true then Iv.made (rMul x.abs.lo x.abs.lo p false) (rMul x.abs.hi x.abs.hi p true)else Iv.whole
theorem sq_W {x:Iv}{p:Int}:(x.sq p).W:=by
 unfold Iv.sq;split
 ·exact qsj rMul_ok.w rMul_ok.w
 ·exact Iv.whole_W
theorem q1i (x:Iv)(p:Int)(wx:x.W):CQ prog qtq [x.v,.int .i64 p] (x.sq p).v:=by
 refine qag rfl fun H=>?_
 have wy:=abs_W wx;simp;refine qaa rfl rfl rfl (qahn x wx) ?_;generalize hy:x.abs=y at *
 cases ha:y.all
 ·simp[ha];refine qaa rfl rfl rfl (qc0 p) ?_;cases hp:precB p
  ·simp;refine zq qap ?_;simp[Iv.sq,hy,hp,lim]
  ·simp;refine qaa rfl rfl rfl (qt7 y.lo y.lo p wy.lo wy.lo) ?_;simp;refine qaa rfl rfl rfl (q4a y.hi y.hi p wy.hi wy.hi) ?_;simp;refine qaa rfl rfl rfl (qnk (rMul y.lo y.lo p false) (rMul y.hi y.hi p true)) ?_;simp[Iv.sq,hy,ha,hp,lim]
 ·simp[ha];refine zq qap ?_;simp[Iv.sq,hy,ha,lim]
def nD (k:Int):Dy:=Dy.of (decide (k<0)) k.natAbs 0
def nI (a b:Int):Iv:=⟨nD a,nD b,false⟩
theorem nD_ok {k:Int}(h:k.natAbs<=4611686018427387904):(nD k).Ok:=by
 unfold nD;have hb:bitL k.natAbs<=64:=qa0 (by omega);exact Dy.of_ok (Dy.of_inR (by omega) (by omega) (by omega))
theorem nI_W {a b:Int}(ha:a.natAbs<=4611686018427387904)(hb:b.natAbs<=4611686018427387904):(nI a b).W:=⟨(nD_ok ha).w,(nD_ok hb).w⟩
end Go.Abs.W
