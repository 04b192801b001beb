/- Parts of the proof: FpRd1, FpRd2, FpRd3, FpRd4, FpRd5, FpRd6, FpRd7, FpRd8. -/
import Derived.Test.YtpdchdfajhbglaaGreatDoorFg
import Derived.Test.YtpdchdfajhbglaaGreatDoorFf
namespace Go.Abs.W
theorem q9l (p:Int):CQ prog qu9 [.int .i64 p] (.bool (decide (8<=p)&&decide (p<=512))):=by
 refine qaf rfl fun H=>?_
 simp;grind
theorem qaox (a:List Nat)(n:Nat)(ha:a.length<=256)(la:Li a)(hn:n<=65536):CQ prog qq6 [lim a,.int .i64 n] (.tup [lim (cl (natV a*2^n)),.int .i64 (clE (natV a*2^n))]):=qae8 a n ha la hn
theorem qne (a:List Nat)(n:Nat)(ha:a.length<=256)(la:Li a)(hn:n<=65536):CQ prog q5o [lim a,.int .i64 n] (lim (cl (natV a*2^n))):=by
 refine qaf rfl fun H=>?_
 simp;refine qaa rfl rfl rfl (qaox a n ha la hn) ?_;simp
theorem qagb {M n:Nat}:M/2^min n (bitL M)=M/2^n/\(M%2^min n (bitL M)=0↔M%2^n=0):=by
 rcases Nat.le_total n (bitL M)with h|h
 ·rw[Nat.min_eq_left h];exact⟨rfl,Iff.rfl⟩
 ·rw[Nat.min_eq_right h];have h1:=qb6 M;have h2:M<2^n:=Nat.lt_of_lt_of_le h1 (Nat.pow_le_pow_right (by omega) h);rw[Nat.div_eq_of_lt h1,Nat.div_eq_of_lt h2,Nat.mod_eq_of_lt h1,Nat.mod_eq_of_lt h2];exact⟨rfl,Iff.rfl⟩
theorem q8z (a:List Nat)(n:Nat)(ha:a.length<=256)(la:Li a)(hn:n<=1000000):CQ prog q5n [lim a,.int .i64 n] (.tup [lim (qae (natV a/2^n)),.bool (decide (natV a%2^n≠0))]):=by
 refine qaf rfl fun H=>?_
 have hA:=qao la;rw[pow32]at hA;have hbit:=qbc hA;obtain⟨c1,c2⟩:=qagb (M:=natV a) (n:=n);have⟨k,hk⟩:∃k,k=min n (bitL (natV a)):=⟨_,rfl⟩
 rw[<-hk]at c1 c2;rw[<-c1,show decide (natV a%2^n≠0)=decide (natV a%2^k≠0) by rw[decide_eq_decide];exact not_congr c2.symm];have hle:natV a/2^k*2^k<=natV a:=Nat.div_mul_le_self _ _;have hcl:cl (natV a/2^k*2^k)=qae (natV a/2^k*2^k):=cl_of (Nat.le_trans (qbw hle (limbsOf_len.2 (qao la))) ha);have hl1:(qae (natV a/2^k)).length<=256:=Nat.le_trans (qbw (Nat.div_le_self _ _) (limbsOf_len.2 (qao la))) ha;have hl2:(qae (natV a/2^k*2^k)).length<=256:=Nat.le_trans (qbw hle (limbsOf_len.2 (qao la))) ha;have hne:cmpN (natV a/2^k*2^k) (natV a)=0↔natV a%2^k=0:=by
  have e:=Nat.div_add_mod' (natV a) (2^k);unfold cmpN;split
  ·constructor
   ·intro h;omega
   ·intro h;omega
  ·split
   ·omega
   ·constructor
    ·intro _;omega
    ·intro _;rfl
 have s1:=q6m a k ha la (by omega);have s2:=qne (qae (natV a/2^k)) k hl1 (qag _) (by omega);rw[qac,hcl]at s2;have s3:=qpw (qae (natV a/2^k*2^k)) a (by omega) (by omega) (qag _) la;rw[qac]at s3;simp;refine qaa rfl rfl rfl (qnh a (by omega) la) ?_;by_cases hgt:bitL (natV a)<n
 ·have hkb:bitL (natV a)=k:=by omega
  rw[hkb]at hgt ⊢;simp[i64,hgt];refine qaa rfl rfl rfl (qnh a (by omega) la) ?_;rw[hkb];simp[i64];refine zq s1 ?_;simp;refine zq s2 ?_;simp;refine zq s3 ?_;simp[i64,hne]
 ·have hkb:n=k:=by omega
  rw[hkb]at hgt ⊢;simp[i64,hgt];refine zq s1 ?_;simp;refine zq s2 ?_;simp;refine zq s3 ?_;simp[i64,hne]
set_option maxHeartbeats 4000000
def qa6 : Nat->AC->AC
 |n+1,.seq _ b=>qa6 n b
 |_,c=>c
def cutT (p:Nat)(up:Bool)(U:Int)(q:Nat):Dy × Int:=
 if(16384:Int)<bitL q+U then(if up then(Dy.zero,9)else((Dy.of false (2^p-1) (16384-p)).chk,(Dy.of false (2^p-1) (16384-p)).chkE))
 else((Dy.of false q U).chk,(Dy.of false q U).chkE)
theorem qaz {q b:Nat}(h:bitL q<=b)(hb:b<=8192):(qae q).length<=256:=
 qe1 (Nat.lt_of_lt_of_le (qb6 q) (Nat.pow_le_pow_right (by omega) h)) (by omega)
theorem q38 {H:Heap}{X:Option Blk}{E:Env}(G:Heap)(p:Nat)(up:Bool)(U:Int)(q:Nat)(hp8:8<=p)(hp:p<=512)(hU1:-16384<=U)(hU2:U<=200000)(hq:bitL q<=5000)
 (h1:E 1=.int .i64 p) (h2:E 2=.bool up) (h6:E 6=.ptr (H.length+1) 0 0) (h8:E 8=.int .i64 U) (h9:E 9=lim (qae q)) :
 WC prog H.length (qa6 5 c_round_cut.body) E (H++X :: some ⟨3,[.agg [.bool false,.nil,.int .i64 0]],false,true⟩ :: G) (fun x E1 H1=>(x=.normal\/x=.ret)/\∃v0,resV E1 H1 [.cell 6 true 3,.tmp 7]=some v0/\fin false H.length H1 v0=some (.tup [(cutT p up U q).1.v,.int .i64 (cutT p up U q).2],H)):=by
 have hl:=qaz hq (by omega);have bc:=qnh (qae q) (by omega) (qag q);rw[qac]at bc;have e1:IntKind.i64.wrap ((bitL q:Int)+U)=bitL q+U:=by rw[wrap_i64]<;>omega
 refine qj4 ?_;simp[qa6,h9];refine zq bc ?_;by_cases hov:(16384:Int)<bitL q+U
 ·cases up
  ·have l1:Li [1]:=by intro x hx;simp at hx;omega
   have v1:natV [1]=1:=rfl;have h2p:1<=2^p:=Nat.one_le_two_pow;have hpl:(qae (2^p)).length<=256:=qe1 (B:=p+1) (Nat.pow_lt_pow_right (by omega) (by omega)) (by omega);have sc:=qne [1] p (by simp) l1 (by omega);rw[v1,Nat.one_mul,cl_of hpl]at sc;have dc:=qw5 (qae (2^p)) [1] hpl (by simp) (qag _) l1 (by rw[qac,v1];exact h2p);rw[qac,v1]at dc;have hl2:(qae (2^p-1)).length<=256:=qbw (Nat.sub_le _ _) hpl;have e2:IntKind.i64.wrap (16384-(p:Int))=16384-(p:Int):=by rw[wrap_i64]<;>omega
   have mc:=q1v false (qae (2^p-1)) (16384-p) hl2 (qag _) (by omega) (by omega);rw[qac]at mc;simp[h1,h2,h8,e1,hov,i64];refine qam (args:=[.ref (H.length+(G.length+2)) 1 0 1,.int .i64 p]) (vs:=[lim [1],.int .i64 p]) (H1:=H++X :: some ⟨3,[.agg [.bool false,.nil,.int .i64 0]],false,true⟩ :: (G++[some ⟨1,[.int .u32 1],true,false⟩])) rfl ?_ ?_ sc ?_
   ·simp
   ·refine Eq.trans (b:=frzVs _ _) rfl ?_;simp[frzVs,frzV,qcd,lim,u32]
   simp;refine qam (args:=[lim (qae (2^p)),.ref (H.length+(G.length+3)) 1 0 1]) (vs:=[lim (qae (2^p)),lim [1]]) (H1:=H++X :: some ⟨3,[.agg [.bool false,.nil,.int .i64 0]],false,true⟩ :: (G++[some ⟨1,[.int .u32 1],true,false⟩,some ⟨1,[.int .u32 1],true,false⟩])) rfl ?_ ?_ dc ?_
   ·simp
   ·refine Eq.trans (b:=frzVs _ _) rfl ?_;simp[frzVs,frzV,qcd,lim,u32]
   simp[h1,e2];refine zq mc ?_;simp[h6,cutT,hov,lim]
  ·simp[h2,h6,h8,e1,hov,i64,cutT,Dy.zero,lim]
 ·have mc:=q1v false (qae q) U hl (qag _) (by omega) (by omega);rw[qac]at mc;simp[h8,h9,e1,hov,i64];refine zq mc ?_;simp[h6,cutT,hov,lim]
theorem qwj {H:Heap}{X:Option Blk}{E:Env}(p:Nat)(up lost:Bool)(U:Int)(q:Nat)(hp8:8<=p)(hp:p<=512)(hU1:-16384<=U)(hU2:U<=200000)(hq:bitL q<=4990)
 (h1:E 1=.int .i64 p) (h2:E 2=.bool up) (h6:E 6=.ptr (H.length+1) 0 0) (h8:E 8=.int .i64 U) (h9:E 9=lim (qae q)) (h10:E 10=.bool lost) :
 WC prog H.length (qa6 4 c_round_cut.body) E (H++[X,some ⟨3,[.agg [.bool false,.nil,.int .i64 0]],false,true⟩]) (fun x E1 H1=>(x=.normal\/x=.ret)/\∃v0,resV E1 H1 [.cell 6 true 3,.tmp 7]=some v0 /\
  fin false H.length H1 v0=some (.tup [(cutT p up U (q+if lost&&up then 1 else 0)).1.v,.int .i64 (cutT p up U (q+if lost&&up then 1 else 0)).2],H)):=by
 refine qfu (b:=qa6 5 c_round_cut.body) ?_;refine qas ?_;have hl:=qaz hq (by omega);have hl3:(qae q).length<=160:=qe1 (Nat.lt_of_lt_of_le (qb6 q) (Nat.pow_le_pow_right (by omega) hq)) (by omega);by_cases hb:lost=true/\up=true
 ·obtain⟨rfl,rfl⟩:=hb;have l1:Li [1]:=by intro x hx;simp at hx;omega
  have v1:natV [1]=1:=rfl;have hl2:(qae (q+1)).length<=256:=by
   have:=q21 (X:=q) (Y:=1) (k:=160) hl3 (limbsOf_len.2 (Nat.lt_of_lt_of_le (by omega) (Nat.pow_le_pow_right (by omega:0<4294967296) (show 1<=160 by omega))));omega
  have hb1:bitL (q+1)<=5000:=by
   refine Nat.le_trans (qbc (b:=bitL q+1) ?_) (by omega);have:=qb6 q;rw[Nat.pow_succ];omega
  have ac:=q1t (qae q) [1] hl (by simp) (qag q) l1;rw[qac,v1,cl_of hl2,q8n hl2]at ac;simp[h2,h9,h10];refine qam (args:=[lim (qae q),.ref (H.length+2) 1 0 1]) (vs:=[lim (qae q),lim [1]]) (H1:=H++X :: some ⟨3,[.agg [.bool false,.nil,.int .i64 0]],false,true⟩ :: [some ⟨1,[.int .u32 1],true,false⟩]) rfl ?_ ?_ ac ?_
  ·simp
  ·refine Eq.trans (b:=frzVs _ _) rfl ?_;simp[frzVs,frzV,qcd,lim,u32]
  simp;refine qdf (q38 [some ⟨1,[.int .u32 1],true,false⟩] p true U (q+1) hp8 hp hU1 hU2 hb1 (by simp[h1]) (by simp[h2]) (by simp[h6]) (by simp[h8]) (by simp)) (fun x E1 H1 h=>by simpa using h)
 ·have hc:(if(lost&&up)=true then 1 else 0)=0:=by
   cases lost<;>cases up<;>simp at hb ⊢
  rw[hc,Nat.add_zero];have ct:=fun(E:Env) h1 h2 h6 h8 h9=>q38 (H:=H) (X:=X) (E:=E) [] p up U q hp8 hp hU1 hU2 (by omega) h1 h2 h6 h8 h9
  cases up
  ·simp[h2];refine qdf (ct _ (by simp[h1]) (by simp[h2]) (by simp[h6]) (by simp[h8]) (by simp[h9])) (fun x E1 H1 h=>by simpa using h)
  ·cases lost
   ·simp[h2,h10];refine qdf (ct _ (by simp[h1]) (by simp[h2]) (by simp[h6]) (by simp[h8]) (by simp[h9])) (fun x E1 H1 h=>by simpa using h)
   ·simp at hb
def exV (m:List Nat)(e:Int)(more:Bool):V:=.agg [lim m,.int .i64 e,.bool more]
theorem qad9 (m:List Nat)(e:Int)(more:Bool)(p:Nat)(up:Bool)(hm:m.length<=256)(lm:Li m)(hb:bitL (natV m)<=8192)(he1:-50000<=e)(he2:e<=50000)(hp8:8<=p)(hp:p<=512)
 (U:Int) (hU:U=max (e+bitL (natV m)-p) (-16384)) (hmore:more=true->p<bitL (natV m)) (q:Nat) (lost:Bool)
 (hA:U<=e->q=natV m*2^(e-U).toNat/\lost=more) (hB:e<U->q=natV m/2^(U-e).toNat/\lost=(more ||decide (natV m%2^(U-e).toNat≠0))) :
 CQ prog qva [exV m e more,.int .i64 p,.bool up] (.tup [(cutT p up U (q+if lost&&up then 1 else 0)).1.v,.int .i64 (cutT p up U (q+if lost&&up then 1 else 0)).2]):=by
 refine CQ_of rfl fun H=>?_
 have bc:=qnh m (by omega) lm;have⟨b,hbd⟩:∃b,b=bitL (natV m):=⟨_,rfl⟩
 rw[<-hbd]at bc hb hU hmore;have w1:IntKind.i64.wrap (e+(b:Int))=e+b:=by rw[wrap_i64]<;>omega
 have w2:IntKind.i64.wrap (e+(b:Int)-p)=e+b-p:=by rw[wrap_i64]<;>omega
 have hU':(if e+(b:Int)-p < -16384 then -16384 else e+(b:Int)-p)=U:=by rw[hU];split<;>omega
 refine qfu (b:=qa6 1 c_round_cut.body) ?_;refine qas ?_;simp[exV];refine qfu (b:=qa6 2 c_round_cut.body) ?_;refine qas ?_;simp;refine zq bc ?_;simp[i64,w1,w2,hU'];refine qfu (b:=qa6 3 c_round_cut.body) ?_;refine qas ?_;simp;refine qfu (b:=qa6 4 c_round_cut.body) ?_;refine qas ?_;by_cases hge:U<=e
 ·obtain⟨rfl,rfl⟩:=hA hge;have⟨j,hj⟩:∃j,j=(e-U).toNat:=⟨_,rfl⟩
  rw[<-hj];have w3:IntKind.i64.wrap (e-U)=(j:Int):=by rw[wrap_i64]<;>omega
  have hbq:bitL (natV m*2^j)<=4990:=by
   by_cases h0:natV m=0
   ·rw[h0,Nat.zero_mul,qbl];omega
   ·have:=qft (m:=natV m) (j:=j) (r:=0) h0 (Nat.two_pow_pos j);rw[Nat.add_zero]at this;rw[this,<-hbd];have:0<b:=by rw[hbd];exact(qa0 h0).2.2
    omega
  have hl:=qaz hbq (by omega);have hj2:j<=65536:=by omega
  have sc:=qne m j hm lm hj2;rw[cl_of hl]at sc;simp[hge,w3];refine zq sc ?_;simp;refine qdf (qwj p up lost U _ hp8 hp (by omega) (by omega) hbq (by simp) (by simp) (by simp) (by simp) (by simp) (by simp)) (fun x E1 H1 h=>by simpa using h)
 ·have hlt:e<U:=by omega
  have hge':¬U<=e:=by omega
  obtain⟨rfl,rfl⟩:=hB hlt;have⟨j,hj⟩:∃j,j=(U-e).toNat:=⟨_,rfl⟩
  rw[<-hj];have w3:IntKind.i64.wrap (U-e)=(j:Int):=by rw[wrap_i64]<;>omega
  have hbq:bitL (natV m/2^j)<=4990:=by
   refine Nat.le_trans (qbc (b:=p) ?_) (by omega);rw[Nat.div_lt_iff_lt_mul (Nat.two_pow_pos _),<-Nat.pow_add];exact Nat.lt_of_lt_of_le (qb6 _) (Nat.pow_le_pow_right (by omega) (by omega))
  have sc:=q8z m j hm lm (by omega);have⟨L,hL⟩:∃L:Bool,L=decide (natV m%2^j≠0):=⟨_,rfl⟩
  rw[<-hL]at sc ⊢;simp[hge',w3];refine zq sc ?_;cases more
  ·simp;refine qdf (qwj p up L U _ hp8 hp (by omega) (by omega) hbq (by simp) (by simp) (by simp) (by simp) (by simp) (by simp)) (fun x E1 H1 h=>by simpa using h)
  ·simp;refine qdf (qwj p up true U _ hp8 hp (by omega) (by omega) hbq (by simp) (by simp) (by simp) (by simp) (by simp) (by simp)) (fun x E1 H1 h=>by simpa using h)
end Go.Abs.W
namespace Go.Abs.W
theorem qalb {n:Nat}(h:n≠0):bitL (n/2^tz n)+tz n=bitL n:=(qh0 (tz_le h)).symm
theorem Dy.of_inR {neg:Bool}{n:Nat}{e:Int}(h1:bitL n<=4096)(h2:-16384<=e)(h3:bitL n+e<=16384):(Dy.of neg n e).inR=true:=by
 unfold Dy.of;by_cases h:n=0
 ·rw[if_pos h];rfl
 ·rw[if_neg h];have hb:=qalb h;have hn:n/2^tz n≠0:=by
   have:=(qpl h).1;omega
  have hp:=(qa0 hn).2.2;unfold Dy.inR;simp only[qac];generalize bitL (n/2^tz n)=B at *
  simp only[Bool.or_eq_true,Bool.and_eq_true,decide_eq_true_eq];right;omega
theorem Dy.chk_of {d:Dy}(h:d.inR=true):d.chk=d/\d.chkE=0:=by simp[Dy.chk,Dy.chkE,h]
theorem q59 {m:Nat}{e:Int}{more:Bool}{p:Nat}{out:Bool}:cutQ m e more p out<=2^p:=by
 have h1:m/2^cutK m e p<2^p:=by
  rw[Nat.div_lt_iff_lt_mul (Nat.two_pow_pos _),<-Nat.pow_add];refine Nat.lt_of_lt_of_le (qb6 m) (Nat.pow_le_pow_right (by omega) ?_);unfold cutK;omega
 unfold cutQ;split<;>omega
theorem q4b {m:Nat}{e:Int}{more:Bool}{p:Nat}{out:Bool}:bitL (cutQ m e more p out)<=p+1:=
 qbc (Nat.lt_of_le_of_lt q59 (Nat.pow_lt_pow_right (by omega) (by omega)))
theorem qak4 {m:Nat}{e:Int}{p:Nat}:-16384<=e+cutK m e p:=by unfold cutK;omega
theorem q4x {neg:Bool}{p:Nat}(h1:1<=p)(h2:p<=512):(Dy.of neg (2^p-1) (16384-p)).inR=true:=by
 have hb:bitL (2^p-1)<=p:=qbc (by have:=Nat.two_pow_pos p;omega);exact Dy.of_inR (by omega) (by omega) (by omega)
theorem q8k {neg:Bool}{m:Nat}{e:Int}{more:Bool}{p:Nat}{up:Bool}(h2:p<=512)(h:¬(cutQ m e more p (neg != up)≠0/\(16384:Int)<bitL (cutQ m e more p (neg != up))+(e+cutK m e p)))(neg2:Bool) :
 (Dy.of neg2 (cutQ m e more p (neg != up)) (e+cutK m e p)).inR=true:=by
 by_cases h0:cutQ m e more p (neg != up)=0
 ·rw[h0];unfold Dy.of;rw[if_pos rfl];rfl
 ·have hb:=q4b (m:=m) (e:=e) (more:=more) (p:=p) (out:=neg != up);exact Dy.of_inR (by omega) qak4 (by
   rcases Int.lt_or_le 16384 (bitL (cutQ m e more p (neg != up))+(e+cutK m e p))with h3|h3
   ·exact absurd ⟨h0,h3⟩ h
   ·exact h3)
theorem Dy.zero_ok : Dy.zero.Ok:=Dy.Ok.of (by intro x hx;simp[Dy.zero]at hx) rfl
theorem qr9 {neg:Bool}{m:Nat}{e:Int}{more:Bool}{p:Nat}{up:Bool}(h1:1<=p)(h2:p<=512):(cutR neg m e more p up).1.Ok:=by
 unfold cutR;split
 ·split
  ·exact Dy.zero_ok
  ·exact Dy.of_ok (q4x h1 h2)
 ·rename_i h;exact Dy.of_ok (q8k h2 h neg)
theorem q4a {M:Nat}{e:Int}{more:Bool}{p:Nat}{out:Bool}{U:Int}{q:Nat}{lost:Bool}(hp1:1<=p)(hp:p<=512)(hmore:more=true->p<bitL M)(h0:M=0->e<=16384)
 (hU:U=max (e+bitL M-p) (-16384))
 (hA:U<=e->q=M*2^(e-U).toNat/\lost=more) (hB:e<U->q=M/2^(U-e).toNat/\lost=(more ||decide (M%2^(U-e).toNat≠0))) :
 cutT p out U (q+if lost&&out then 1 else 0)=cutR false M e more p out:=by
 have ht:=q4x (neg:=false) hp1 hp;by_cases hge:U<=e
 ·obtain⟨rfl,rfl⟩:=hA hge;have hm:lost=false:=by
   cases h:lost with
   |false=>rfl
   |true=>have:=hmore h;omega
  subst hm;have⟨j,hj⟩:∃j,j=(e-U).toNat:=⟨_,rfl⟩
  rw[<-hj];have hK:cutK M e p=0:=by unfold cutK;omega
  have hQ:∀o,cutQ M e false p o=M:=by intro o;simp[cutQ,hK,Nat.mod_one]
  have hUe:U=e-j:=by omega
  have hof:=Dy.of_shift (neg:=false) (n:=M) (j:=j) (e:=e);simp only[Bool.false_and,Bool.false_eq_true,if_false,Nat.add_zero];unfold cutT cutR;rw[hQ,hK,hUe,hof];by_cases hM:M=0
  ·subst hM;have:=h0 rfl;have c1:¬(16384:Int)<bitL (0*2^j)+(e-j):=by rw[Nat.zero_mul,qbl];omega
   rw[if_neg c1,if_neg (by simp)];have hin:(Dy.of false 0 e).inR=true:=rfl;rw[(Dy.chk_of hin).1,(Dy.chk_of hin).2];simp[Dy.of]
  ·have hb:=qft (m:=M) (j:=j) (r:=0) hM (Nat.two_pow_pos j);rw[Nat.add_zero]at hb;rw[hb];by_cases hov:(16384:Int)<bitL M+e
   ·have c1:(16384:Int)<(bitL M+j:Nat)+(e-j):=by omega
    have c2:M≠0/\(16384:Int)<bitL M+(e+(0:Nat)):=⟨hM,by omega⟩
    rw[if_pos c1,if_pos c2,(Dy.chk_of ht).1,(Dy.chk_of ht).2];cases out<;>rfl
   ·have c1:¬(16384:Int)<(bitL M+j:Nat)+(e-j):=by omega
    have c2:¬(M≠0/\(16384:Int)<bitL M+(e+(0:Nat))):=by omega
    rw[if_neg c1,if_neg c2];have hin:(Dy.of false M e).inR=true:=Dy.of_inR (by omega) (by omega) (by omega);rw[(Dy.chk_of hin).1,(Dy.chk_of hin).2];simp
 ·have hlt:e<U:=by omega
  obtain⟨rfl,rfl⟩:=hB hlt;have hK:cutK M e p=(U-e).toNat:=by unfold cutK;omega
  have hQ:M/2^(U-e).toNat+(if((more ||decide (M%2^(U-e).toNat≠0))&&out)=true then 1 else 0)=cutQ M e more p out:=by
   unfold cutQ;rw[hK]
  rw[hQ];have hUe:e+(cutK M e p:Int)=U:=by omega
  have hfo:(false != out)=out:=by cases out<;>rfl
  unfold cutT cutR;rw[hfo,hUe];have hz:cutQ M e more p out=0->U<=16384:=by
   intro hq0;rcases Int.lt_or_le 16384 U with h|h
   ·exfalso;have hM:M≠0:=by
     intro hM;have:=h0 hM;rw[hM,qbl]at hU;omega
    have hk:cutK M e p<bitL M:=by omega
    have:0<M/2^cutK M e p:=by
     rw[Nat.div_pos_iff];refine⟨Nat.two_pow_pos _,Nat.le_trans (Nat.pow_le_pow_right (by omega) (show cutK M e p<=bitL M-1 by omega)) (qa0 hM).1⟩
    unfold cutQ at hq0;omega
   ·exact h
  by_cases hov:(16384:Int)<bitL (cutQ M e more p out)+U
  ·have hq:cutQ M e more p out≠0:=by
    intro hq0;have:=hz hq0;rw[hq0,qbl]at hov;omega
   have c2:cutQ M e more p out≠0/\(16384:Int)<bitL (cutQ M e more p out)+U:=⟨hq,hov⟩
   rw[if_pos hov,if_pos c2,(Dy.chk_of ht).1,(Dy.chk_of ht).2]
  ·rw[if_neg hov,if_neg (fun h=>hov h.2)];have hb:=q4b (m:=M) (e:=e) (more:=more) (p:=p) (out:=out);have hin:(Dy.of false (cutQ M e more p out) U).inR=true:=Dy.of_inR (by omega) (by omega) (by omega);rw[(Dy.chk_of hin).1,(Dy.chk_of hin).2]
structure ExOk (m:List Nat)(e:Int)(more:Bool)(p:Nat):Prop where
 len:m.length<=256
 li:Li m
 bits:bitL (natV m)<=8192
 lo:-50000<=e
 hi:e<=50000
 p8:8<=p
 p512:p<=512
 more:more=true->p<bitL (natV m)
 zero:natV m=0->e<=16384
theorem qain {m:List Nat}{e:Int}{more:Bool}{p:Nat}(up:Bool)(h:ExOk m e more p):CQ prog qva [exV m e more,.int .i64 p,.bool up] (.tup [(cutR false (natV m) e more p up).1.v,.int .i64 (cutR false (natV m) e more p up).2]):=by
 have⟨U,hU⟩:∃U,U=max (e+bitL (natV m)-p) (-16384):=⟨_,rfl⟩
 by_cases hge:U<=e
 ·have h1:=qad9 m e more p up h.len h.li h.bits h.lo h.hi h.p8 h.p512 U hU h.more (natV m*2^(e-U).toNat) more (fun _=>⟨rfl,rfl⟩) (fun h=>by omega);rwa[q4a (by have:=h.p8;omega) h.p512 h.more h.zero hU (fun _=>⟨rfl,rfl⟩) (fun h=>by omega)]at h1
 ·have h1:=qad9 m e more p up h.len h.li h.bits h.lo h.hi h.p8 h.p512 U hU h.more (natV m/2^(U-e).toNat) (more ||decide (natV m%2^(U-e).toNat≠0)) (fun h=>by omega) (fun _=>⟨rfl,rfl⟩);rwa[q4a (by have:=h.p8;omega) h.p512 h.more h.zero hU (fun h=>by omega) (fun _=>⟨rfl,rfl⟩)]at h1
theorem qaie {n:Nat}{e:Int}(h:(Dy.of false n e).inR=true):(Dy.of false n e).opp=Dy.of true n e:=by
 have hv:(Dy.of false n e).valid=true:=by rw[Dy.of_valid];exact h
 unfold Dy.opp;rw[hv];by_cases h0:n=0
 ·subst h0;simp[Dy.of,Dy.zero]
 ·have hn:n/2^tz n≠0:=by
   have:=(qpl h0).1;omega
  simp[Dy.of,h0,qda hn]
theorem qaed {neg:Bool}{m:Nat}{e:Int}{more:Bool}{p:Nat}{up:Bool}(h1:1<=p)(h2:p<=512) :
 cutR neg m e more p up=if(cutR false m e more p (up != neg)).2=0/\neg=true then((cutR false m e more p (up != neg)).1.opp,0)else cutR false m e more p (up != neg):=by
 have hx:(false != (up != neg))=(neg != up):=by cases up<;>cases neg<;>rfl
 cases neg with
 |false=>
  have:(up != false)=up:=by cases up<;>rfl
  simp[this]
 |true=>
  have h3:=q4x (neg:=false) h1 h2;unfold cutR;rw[hx];by_cases hc:cutQ m e more p (true != up)≠0/\(16384:Int)<bitL (cutQ m e more p (true != up))+(e+cutK m e p)
  ·simp only[if_pos hc];cases hb:(true != up)
   ·simp[qaie h3]
   ·simp
  ·simp only[if_neg hc];have h4:=q8k h2 hc false;rw[qaie h4];simp
theorem qqu {m:List Nat}{e:Int}{more:Bool}{p:Nat}(neg up:Bool)(h:ExOk m e more p):CQ prog qxc [.bool neg,exV m e more,.int .i64 p,.bool up] (.tup [(cutR neg (natV m) e more p up).1.v,.int .i64 (cutR neg (natV m) e more p up).2]):=by
 have h1:=h.p8;have hs:=qaed (neg:=neg) (m:=natV m) (e:=e) (more:=more) (p:=p) (up:=up) (by omega) h.p512;have hc:=qain (up != neg) h;have hok:=qr9 (neg:=false) (m:=natV m) (e:=e) (more:=more) (up:=up != neg) (show 1<=p by omega) h.p512;rw[hs];have⟨⟨d,er⟩,hr⟩:∃r,r=cutR false (natV m) e more p (up != neg):=⟨_,rfl⟩
 rw[<-hr]at hc hok ⊢;have nc:=qqp d hok.w;refine qaf rfl fun H=>?_
 simp only[exV]at hc;simp[exV];refine zq hc ?_;by_cases he:er=0
 ·subst he;cases neg
  ·simp[lim]
  ·simp;refine zq nc ?_;simp[lim]
 ·simp[he,lim]
def dys (l:List Dy):V:=.sl (l.map Dy.v)
def precB (p:Int):Bool:=decide (8<=p)&&decide (p<=512)
def qcr (l:List Dy)(p:Int):Int:=if l.all Dy.valid then(if precB p then 0 else 2)else 1
set_option maxHeartbeats 1000000 in
theorem qrd (p:Int)(l:List Dy)(hl:l.length<=1000000)(w:∀d ∈ l,d.W):CQ prog q0l [.int .i64 p,dys l] (.int .i64 (qcr l p)):=by
 refine qaf rfl fun H=>?_
 have pc:=q9l p;rw[<-show precB p=(decide (8<=p)&&decide (p<=512)) from rfl]at pc;simp[dys];refine WK_up (fun i E H'=>H <+: H'/\E 0=.int .i64 p/\E 7=dys l/\E 8=.int .i64 l.length/\E 9=.int .i64 i/\(∀j x,j<i->l[j]?=some x->x.valid=true)) l.length ?_ ?_
 ·simp[dys]
 ·rintro i E H' hi ⟨hH,h0,h7,h8,h9,hp⟩;simp only[dys]at h7 ⊢;rcases Nat.lt_or_ge i l.length with hlt|hge
  ·have e2:IntKind.i64.wrap ((i:Int)+1)=((i+1:Nat):Int):=by rw[wrap_i64]<;>omega
   have wx:=w l[i] (List.getElem_mem hlt);have no:l[i].valid=false->qcr l p=1:=by
    intro h;have:l.all Dy.valid=false:=by
     rw[Bool.eq_false_iff];intro h';rw[List.all_eq_true.1 h' _ (List.getElem_mem hlt)]at h;cases h
    simp[qcr,this]
   have nx:l[i].valid=true->∀(j:Nat) (x:Dy),j<i+1->l[j]?=some x->x.valid=true:=by
    intro h j x hj hx;rcases Nat.lt_or_ge j i with hji|hji
    ·exact hp j x hji hx
    ·have:j=i:=by omega
     subst this;rw[List.getElem?_eq_getElem hlt]at hx;injection hx with hx;rw[<-hx];exact h
   have T:=qb5 (qd9 (l:=[some ⟨3,[l[i].v],false,true⟩]) hH);simp only[Dy.v]at T;have vc:=qcf l[i] wx.len wx.li;simp only[Dy.v]at vc;simp[qgr,h7,h8,h9,hlt];refine zq vc ?_;cases hv:l[i].valid
   ·rw[no hv];simp[T]
   ·simp[h0,h7,h8,h9,e2];exact⟨qd9 hH,nx hv⟩
  ·have hin:i=l.length:=by omega
   subst hin;have e1:l.all Dy.valid=true:=by
    rw[List.all_eq_true];intro x hx;obtain⟨j,hj,rfl⟩:=List.getElem_of_mem hx;exact hp j _ hj (List.getElem?_eq_getElem _)
   simp[qgr,h0,h8,h9];refine zq pc ?_;cases hpb:precB p<;>simp[qcr,e1,hpb,qb5 hH]
theorem qamw (d:Dy):CQ prog q9v [d.v] (exV d.m d.e false):=by
 refine qaf rfl fun H=>?_
 simp[exV,lim]
theorem Dy.Ok.ex {d:Dy}(h:d.Ok){p:Nat}(h8:8<=p)(h5:p<=512):ExOk d.m d.e false p:=by
 have:=h.len;have:=h.bits;have:=h.elo;have:=h.ehi;exact⟨h.len,h.li,by omega,by omega,by omega,h8,h5,by simp,by omega⟩
def qbz (d:Dy)(p:Int)(up:Bool):Dy × Int:=if qcr [d] p=0 then cutR d.neg (natV d.m) d.e false p.toNat up else(Dy.zero,qcr [d] p)
def rMul (a b:Dy)(p:Int)(up:Bool):Dy × Int:=
 if qcr [a,b] p=0 then cutR (a.neg != b.neg) (natV a.m*natV b.m) (a.e+b.e) false p.toNat up else(Dy.zero,qcr [a,b] p)
def divK (a b:Dy)(p:Int)(c:Int):Nat:=(max 0 (p+c+bitL (natV b.m)-bitL (natV a.m))).toNat
def rDiv (a b:Dy)(p:Int)(up:Bool):Dy × Int:=
 if qcr [a,b] p=0 then
  if b.m=[]then(Dy.zero,10)else if a.m=[]then(Dy.zero,0)else
  cutR (a.neg != b.neg) (natV a.m*2^divK a b p 2/natV b.m) (a.e-b.e-divK a b p 2) (decide (natV a.m*2^divK a b p 2%natV b.m≠0)) p.toNat up
 else(Dy.zero,qcr [a,b] p)
theorem qdb {l:List Dy}{p:Int}(h:qcr l p=0):(∀d ∈ l,d.valid=true)/\8<=p/\p<=512:=by
 unfold qcr precB at h;split at h
 ·rename_i ha;split at h
  ·rename_i hb;simp at hb;exact⟨by simpa using ha,hb.1,hb.2⟩
  ·omega
 ·omega
theorem qqx (d:Dy)(p:Int)(up:Bool)(w:d.W):CQ prog q0k [d.v,.int .i64 p,.bool up] (.tup [(qbz d p up).1.v,.int .i64 (qbz d p up).2]):=by
 refine qaf rfl fun H=>?_
 have fc:=qrd p [d] (by simp) (by simpa using w);simp;refine qam (args:=[.int .i64 p,.ref (H.length+2) 3 0 1]) (vs:=[.int .i64 p,dys [d]]) (H1:=H++[some ⟨3,[d.v],false,true⟩,some ⟨3,[.agg [.bool false,.nil,.int .i64 0]],false,true⟩,some ⟨3,[d.v],true,false⟩]) rfl (by simp) (by refine Eq.trans (b:=frzVs _ _) rfl ?_;simp[frzVs,frzV,qcd,dys]) fc ?_;by_cases hf:qcr [d] p=0
 ·obtain⟨hv,hp8,hp5⟩:=qdb hf;have ok:=Dy.Ok.of w.li (hv d (by simp));obtain⟨P,rfl⟩:∃P:Nat,p=P:=⟨p.toNat,by omega⟩
  have sc:=qqu d.neg up (ok.ex (p:=P) (by omega) (by omega));simp[hf];refine qaa rfl rfl rfl (qamw d) ?_;simp[exV];refine zq sc ?_;simp[qbz,hf,lim]
 ·simp[hf,qbz,Dy.zero,lim]
theorem q7p : natV []=0:=rfl
theorem q4i {a b:Nat}(_ha:a≠0)(_hb:b≠0):bitL (a*b)<=bitL a+bitL b:=by
 refine qbc ?_;rw[Nat.pow_add];exact Nat.mul_lt_mul'' (qb6 a) (qb6 b)
theorem qabq (a b:Dy)(p:Int)(up:Bool)(wa:a.W)(wb:b.W):CQ prog q5p [a.v,b.v,.int .i64 p,.bool up] (.tup [(rMul a b p up).1.v,.int .i64 (rMul a b p up).2]):=by
 refine qaf rfl fun H=>?_
 have fc:=qrd p [a,b] (by simp) (by simp;exact⟨wa,wb⟩);simp;refine qam (args:=[.int .i64 p,.ref (H.length+3) 3 0 2]) (vs:=[.int .i64 p,dys [a,b]]) (H1:=H++[some ⟨3,[a.v],false,true⟩,some ⟨3,[b.v],false,true⟩,some ⟨3,[.agg [.bool false,.nil,.int .i64 0]],false,true⟩,some ⟨3,[a.v,b.v],true,false⟩]) rfl (by simp) (by refine Eq.trans (b:=frzVs _ _) rfl ?_;simp[frzVs,frzV,qcd,dys]) fc ?_;by_cases hf:qcr [a,b] p=0
 ·obtain⟨hv,hp8,hp5⟩:=qdb hf;have oa:=Dy.Ok.of wa.li (hv a (by simp));have ob:=Dy.Ok.of wb.li (hv b (by simp));obtain⟨P,rfl⟩:∃P:Nat,p=P:=⟨p.toNat,by omega⟩
  by_cases na:a.m=[]
  ·have h0:natV a.m=0:=by rw[na];rfl
   simp[hf,lim,na,rMul,q7p,qfi,Dy.zero]
  ·have na':¬(a.m.length:Int)=0:=by intro h;exact na (List.eq_nil_of_length_eq_zero (by omega))
   by_cases nb:b.m=[]
   ·have h0:natV b.m=0:=by rw[nb];rfl
    simp[hf,lim,na,nb,rMul,q7p,qfi,Dy.zero]
   ·have nb':¬(b.m.length:Int)=0:=by intro h;exact nb (List.eq_nil_of_length_eq_zero (by omega))
    have ba:=oa.bits;have bb:=ob.bits;have h1:=oa.elo;have h2:=oa.ehi;have h3:=ob.elo;have h4:=ob.ehi;have hbits:=q4i (qcq oa.tr na) (qcq ob.tr nb);have hcl:cl (natV a.m*natV b.m)=qae (natV a.m*natV b.m):=cl_of (qaz hbits (by omega));have mc:=qw6 a.m b.m oa.len ob.len oa.li ob.li;rw[hcl]at mc;have w1:IntKind.i64.wrap (a.e+b.e)=a.e+b.e:=by rw[wrap_i64]<;>omega
    have hne:natV a.m*natV b.m≠0:=Nat.mul_ne_zero (qcq oa.tr na) (qcq ob.tr nb);have hex:ExOk (qae (natV a.m*natV b.m)) (a.e+b.e) false P:=by
     refine⟨qaz hbits (by omega),qag _,by rw[qac];omega,by omega,by omega,by omega,by omega,by simp,by rw[qac];intro h;exact absurd h hne⟩
    have sc:=qqu (a.neg != b.neg) up hex;rw[qac]at sc;simp[hf,lim,na,nb];refine zq mc ?_;simp[w1];refine zq sc ?_;simp[rMul,hf,lim]
 ·simp[hf,rMul,Dy.zero,lim]
set_option maxHeartbeats 4000000
theorem qus {A B k c:Nat}(hA:A≠0)(hB:B≠0)(hc:0<c)(h:c+bitL B<=bitL A+k):c<=bitL (A*2^k/B):=by
 have h1:2^(c-1)<=A*2^k/B:=by
  rw[Nat.le_div_iff_mul_le (by omega)];have h2:=(qa0 hA).1;have h3:=(qa0 hA).2.2;have h4:=qb6 B;have h5:2^(c-1)*B<=2^(c-1)*2^bitL B:=Nat.mul_le_mul_left _ (by omega);have h6:2^(bitL A-1)*2^k<=A*2^k:=Nat.mul_le_mul_right _ h2;rw[<-Nat.pow_add]at h5 h6;have h7:2^(c-1+bitL B)<=2^(bitL A-1+k):=Nat.pow_le_pow_right (by omega) (by omega);omega
 have h2:=qat h1;have h3:bitL (2^(c-1))=c:=by
  have:=q1q (n:=2^(c-1)) (b:=c-1) (by have:=Nat.two_pow_pos (c-1);omega) (Nat.le_refl _) (Nat.pow_lt_pow_right (by omega) (by omega));omega
 omega
theorem q1l {neg:Bool}{A B k p:Nat}{e:Int}{up:Bool}(hA:A≠0)(hB:B≠0)(hp:1<=p)(h:p+bitL B<=bitL A+k) :
 cutR neg (A*2^(k+1)/B) (e-(k+1:Nat)) (decide (A*2^(k+1)%B≠0)) p up=cutR neg (A*2^k/B) (e-k) (decide (A*2^k%B≠0)) p up:=by
 have hb:=qus hA hB hp h;have⟨W,hW⟩:∃W,W=A*2^k:=⟨_,rfl⟩
 have hW2:A*2^(k+1)=2*W:=by rw[hW,Nat.pow_succ,Nat.mul_comm 2,Nat.mul_assoc]
 rw[hW2];rw[<-hW]at hb ⊢;have hBp:0<B:=by omega
 have e1:=Nat.div_add_mod W B;have hr:=Nat.mod_lt W hBp;have⟨q,hq⟩:∃q,q=W/B:=⟨_,rfl⟩
 have⟨r,hrr⟩:∃r,r=W%B:=⟨_,rfl⟩
 rw[<-hq,<-hrr]at e1;rw[<-hrr]at hr;have hrho:=Nat.div_add_mod (2*r) B;have hr3:=Nat.mod_lt (2*r) hBp;have⟨ρ,hρ⟩:∃ρ,ρ=2*r/B:=⟨_,rfl⟩
 have⟨r3,hr3'⟩:∃r3,r3=2*r%B:=⟨_,rfl⟩
 have hρ1:ρ<2:=by rw[hρ,Nat.div_lt_iff_lt_mul hBp];omega
 rw[<-hρ,<-hr3']at hrho;have eW:2*W=B*(2*q+ρ)+r3:=by rw[Nat.mul_add,Nat.mul_left_comm];omega
 have d1:2*W/B=q*2^1+ρ:=by
  rw[eW,Nat.mul_add_div hBp,Nat.div_eq_of_lt (by omega)];omega
 have d2:2*W%B=r3:=by rw[eW,Nat.mul_add_mod,Nat.mod_eq_of_lt (by omega)]
 rw[d1,d2,<-hq,<-hrr];rw[<-hq]at hb;have hq0:q≠0:=by intro h;rw[h,qbl]at hb;omega
 have he:e-((k+1:Nat):Int)=(e-k)-(1:Nat):=by omega
 rw[he];refine qdp hq0 (by omega) ?_ (fun _=>hb);rw[Bool.eq_iff_iff];simp only[decide_eq_true_eq,Bool.or_eq_true];constructor
 ·intro h;rcases Nat.eq_zero_or_pos r3 with h0|h0
  ·right;intro hz;rw[hz,h0,Nat.mul_zero]at hrho;omega
  ·exact .inl (by omega)
 ·intro h h0;rw[h0,Nat.mul_zero]at hrho;have h4:B*ρ=0:=by omega
  have h5:ρ=0:=by
   rcases Nat.mul_eq_zero.1 h4 with h|h
   ·omega
   ·exact h
  omega
theorem qad4 {a b:Dy}{p:Nat}:(divK a b p 3=divK a b p 2+1/\p+2+bitL (natV b.m)=bitL (natV a.m)+divK a b p 2)\/(divK a b p 3=divK a b p 2/\p+3+bitL (natV b.m)<=bitL (natV a.m)+divK a b p 2)\/(divK a b p 3=divK a b p 2+1/\p+2+bitL (natV b.m)<=bitL (natV a.m)+divK a b p 2):=by
 unfold divK;omega
theorem qabs (a b:Dy)(p:Int)(up:Bool)(wa:a.W)(wb:b.W):CQ prog q5q [a.v,b.v,.int .i64 p,.bool up] (.tup [(rDiv a b p up).1.v,.int .i64 (rDiv a b p up).2]):=by
 refine qaf rfl fun H=>?_
 have fc:=qrd p [a,b] (by simp) (by simp;exact⟨wa,wb⟩);simp;refine qam (args:=[.int .i64 p,.ref (H.length+3) 3 0 2]) (vs:=[.int .i64 p,dys [a,b]]) (H1:=H++[some ⟨3,[a.v],false,true⟩,some ⟨3,[b.v],false,true⟩,some ⟨3,[.agg [.bool false,.nil,.int .i64 0]],false,true⟩,some ⟨3,[a.v,b.v],true,false⟩]) rfl (by simp) (by refine Eq.trans (b:=frzVs _ _) rfl ?_;simp[frzVs,frzV,qcd,dys]) fc ?_;by_cases hf:qcr [a,b] p=0
 ·obtain⟨hv,hp8,hp5⟩:=qdb hf;have va:=hv a (by simp);have vb:=hv b (by simp);have oa:=Dy.Ok.of wa.li va;have ob:=Dy.Ok.of wb.li vb;obtain⟨P,rfl⟩:∃P:Nat,p=P:=⟨p.toNat,by omega⟩
  by_cases nb:b.m=[]
  ·simp[hf,lim,nb,rDiv,Dy.zero]
  ·by_cases na:a.m=[]
   ·simp[hf,lim,na,nb,rDiv,Dy.zero]
   ·have ba:=oa.bits;have bb:=ob.bits;have h1:=oa.elo;have h2:=oa.ehi;have h3:=ob.elo;have h4:=ob.ehi;have hA:=qcq oa.tr na;have hB:=qcq ob.tr nb;have dba:=q1w a wa;have dbb:=q1w b wb;rw[va]at dba;rw[vb]at dbb;have hka:bitL (natV a.m)+divK a b P 3<=4620/\P+3+bitL (natV b.m)<=bitL (natV a.m)+divK a b P 3/\divK a b P 3<=4620:=by unfold divK;omega
    obtain⟨k1,k2,k3⟩:=hka;have hqb:=qus hA hB (by omega) k2;have hmax:(if(bitL (natV a.m):Int)<(P:Int)+3+bitL (natV b.m)then(P:Int)+3+bitL (natV b.m)-bitL (natV a.m)else 0)=(divK a b P 3:Int):=by unfold divK;split<;>omega
    have hres:rDiv a b P up=cutR (a.neg != b.neg) (natV a.m*2^divK a b P 3/natV b.m) (a.e-b.e-divK a b P 3) (decide (natV a.m*2^divK a b P 3%natV b.m≠0)) P up:=by
     rw[rDiv,if_pos hf,if_neg nb,if_neg na,Int.toNat_natCast];rcases qad4 (a:=a) (b:=b) (p:=P)with ⟨s1,s2⟩|⟨s1,_⟩|⟨s1,s2⟩
     ·rw[s1,q1l hA hB (by omega) (by omega)]
     ·rw[s1]
     ·rw[s1,q1l hA hB (by omega) (by omega)]
    have⟨k,hk⟩:∃k,k=divK a b P 3:=⟨_,rfl⟩
    rw[<-hk]at k1 k2 k3 hqb hmax hres;have⟨La,hLa⟩:∃La,La=bitL (natV a.m):=⟨_,rfl⟩
    have⟨Lb,hLb⟩:∃Lb,Lb=bitL (natV b.m):=⟨_,rfl⟩
    rw[<-hLa]at ba dba k1 k2 hmax;rw[<-hLb]at bb dbb k2 hmax;have w1:IntKind.i64.wrap ((P:Int)+3)=(P:Int)+3:=by rw[wrap_i64]<;>omega
    have w2:IntKind.i64.wrap ((P:Int)+3+Lb)=(P:Int)+3+Lb:=by rw[wrap_i64]<;>omega
    have w3:IntKind.i64.wrap ((P:Int)+3+Lb-La)=(P:Int)+3+Lb-La:=by rw[wrap_i64]<;>omega
    have w4:IntKind.i64.wrap (a.e-k)=a.e-k:=by rw[wrap_i64]<;>omega
    have w5:IntKind.i64.wrap (a.e-k-b.e)=a.e-b.e-k:=by rw[wrap_i64]<;>omega
    have hsb:bitL (natV a.m*2^k)<=4620:=by
     have:=qft (m:=natV a.m) (j:=k) (r:=0) hA (Nat.two_pow_pos k);rw[Nat.add_zero]at this;rw[this,<-hLa];exact k1
    have hl:=qaz hsb (by omega);have sc:=qne a.m k oa.len oa.li (by omega);rw[cl_of hl]at sc;have dc:=qpd (qae (natV a.m*2^k)) b.m hl ob.len (qag _) ob.li (by omega);rw[qac]at dc;have⟨W,hW⟩:∃W,W=natV a.m*2^k:=⟨_,rfl⟩
    rw[<-hW]at hsb hl sc dc hqb hres;have hqs:bitL (W/natV b.m)<=4620:=Nat.le_trans (qat (Nat.div_le_self _ _)) hsb;have hql:=qaz hqs (by omega);have hrl:(qae (W%natV b.m)).length<=256:=Nat.le_trans (qbw (Nat.mod_le _ _) (Nat.le_refl _)) hl;have bc:=qnh (qae (W%natV b.m)) (by omega) (qag _);rw[qac]at bc;have hmore:decide (W%natV b.m≠0)=decide (0<bitL (W%natV b.m)):=by
     rw[decide_eq_decide];have:=bitL_eq0 (n:=W%natV b.m);omega
    have hex:ExOk (qae (W/natV b.m)) (a.e-b.e-k) (decide (W%natV b.m≠0)) P:=by
     refine⟨hql,qag _,by rw[qac];omega,by omega,by omega,by omega,by omega,?_,?_⟩
     ·intro _;rw[qac];omega
     ·rw[qac];intro h;rw[h,qbl]at hqb;omega
    have gc:=qqu (a.neg != b.neg) up hex;rw[qac,<-hres,hmore]at gc;have⟨B0,hB0⟩:∃B0,B0=bitL (W%natV b.m):=⟨_,rfl⟩
    rw[<-hB0]at bc gc;simp only[exV]at gc;simp[hf,lim,na,nb,w1];refine zq dbb ?_;simp[w2];refine zq dba ?_;simp[w3,hmax];refine zq sc ?_;simp;refine zq dc ?_;simp[w4,w5];refine zq bc ?_;simp[i64];refine qaa (vs:=[.bool (a.neg != b.neg),.agg [lim (qae (W/natV b.m)),.int .i64 (a.e-b.e-k),.bool (decide (0<B0))],.int .i64 P,.bool up]) rfl rfl ?_ gc ?_
    ·refine Eq.trans (b:=frzVs _ _) rfl ?_;simp[frzVs,frzV];cases a.neg<;>cases b.neg<;>rfl
    simp[lim]
 ·simp[hf,rDiv,Dy.zero,lim]
def sqK (d:Dy)(p:Int):Nat:=
 (max 0 (2*p+4-bitL (natV d.m))).toNat+(if(d.e-(max 0 (2*p+4-bitL (natV d.m))).toNat)%2=0 then 0 else 1)
def rSqrt (d:Dy)(p:Int)(up:Bool):Dy × Int:=
 if qcr [d] p=0 then
  if d.neg then(Dy.zero,2)else if d.m=[]then(Dy.zero,0)else
  cutR false (isq (natV d.m*2^sqK d p)) ((d.e-sqK d p)/2) (decide (isq (natV d.m*2^sqK d p)*isq (natV d.m*2^sqK d p)≠natV d.m*2^sqK d p)) p.toNat up
 else(Dy.zero,qcr [d] p)
theorem q70 {m c:Nat}(h:2*c<=bitL m+1)(hc:0<c):c<=bitL (isq m)/\bitL (isq m)<=bitL m:=by
 have hm:m≠0:=by intro h0;rw[h0,qbl]at h;omega
 have h1:2^(c-1)<=isq m:=by
  refine qacz ?_;rw[<-Nat.pow_add];exact Nat.le_trans (Nat.pow_le_pow_right (by omega) (by omega)) (qa0 hm).1
 have h2:=qat h1;have h3:bitL (2^(c-1))=c:=by
  have:=q1q (n:=2^(c-1)) (b:=c-1) (by have:=Nat.two_pow_pos (c-1);omega) (Nat.le_refl _) (Nat.pow_lt_pow_right (by omega) (by omega));omega
 refine⟨by omega,qat ?_⟩;have h4:=(qeo m).1;rcases Nat.eq_zero_or_pos (isq m)with h|h
 ·omega
 ·exact Nat.le_trans (Nat.le_mul_of_pos_left _ h) h4
theorem q69 (d:Dy)(p:Int)(up:Bool)(w:d.W):CQ prog q28 [d.v,.int .i64 p,.bool up] (.tup [(rSqrt d p up).1.v,.int .i64 (rSqrt d p up).2]):=by
 refine qaf rfl fun H=>?_
 have fc:=qrd p [d] (by simp) (by simpa using w);simp;refine qam (args:=[.int .i64 p,.ref (H.length+2) 3 0 1]) (vs:=[.int .i64 p,dys [d]]) (H1:=H++[some ⟨3,[d.v],false,true⟩,some ⟨3,[.agg [.bool false,.nil,.int .i64 0]],false,true⟩,some ⟨3,[d.v],true,false⟩]) rfl (by simp) (by refine Eq.trans (b:=frzVs _ _) rfl ?_;simp[frzVs,frzV,qcd,dys]) fc ?_;by_cases hf:qcr [d] p=0
 ·obtain⟨hv,hp8,hp5⟩:=qdb hf;have vd:=hv d (by simp);have od:=Dy.Ok.of w.li vd;obtain⟨P,rfl⟩:∃P:Nat,p=P:=⟨p.toNat,by omega⟩
  cases hneg:d.neg
  ·by_cases nd:d.m=[]
   ·simp[hf,hneg,lim,nd,rSqrt,Dy.zero]
   ·have hbd:=od.bits;have h1:=od.elo;have h2:=od.ehi;have hA:=qcq od.tr nd;have db:=q1w d w;rw[vd]at db;have hres:rSqrt d P up=cutR false (isq (natV d.m*2^sqK d P)) ((d.e-sqK d P)/2) (decide (isq (natV d.m*2^sqK d P)*isq (natV d.m*2^sqK d P)≠natV d.m*2^sqK d P)) P up:=by
     rw[rSqrt,if_pos hf,hneg,if_neg (by simp),if_neg nd,Int.toNat_natCast]
    have hk:sqK d P<=1040/\bitL (natV d.m)+sqK d P<=4100/\2*P+4<=bitL (natV d.m)+sqK d P/\(d.e-sqK d P)%2=0:=by unfold sqK;split<;>omega
    obtain⟨k1,k2,k3,k4⟩:=hk;have⟨k0,hk0⟩:∃k0,k0=(max 0 (2*(P:Int)+4-bitL (natV d.m))).toNat:=⟨_,rfl⟩
    have hmax:(if(bitL (natV d.m):Int)<2*(P:Int)+4 then 2*(P:Int)+4-bitL (natV d.m)else 0)=(k0:Int):=by rw[hk0];split<;>omega
    have hkk:sqK d P=k0+(if(d.e-k0)%2=0 then 0 else 1):=by rw[sqK,hk0]
    have⟨k,hkd⟩:∃k,k=sqK d P:=⟨_,rfl⟩
    rw[<-hkd]at k1 k2 k3 k4 hkk hres;have⟨L,hL⟩:∃L,L=bitL (natV d.m):=⟨_,rfl⟩
    rw[<-hL]at hbd db k2 k3 hmax hk0;have w1:IntKind.i64.wrap (2*(P:Int))=2*(P:Int):=by rw[wrap_i64]<;>omega
    have w2:IntKind.i64.wrap (2*(P:Int)+4)=2*(P:Int)+4:=by rw[wrap_i64]<;>omega
    have w3:IntKind.i64.wrap (2*(P:Int)+4-L)=2*(P:Int)+4-L:=by rw[wrap_i64]<;>omega
    have w4:IntKind.i64.wrap (d.e-k0)=d.e-k0:=by rw[wrap_i64]<;>omega
    have w5:IntKind.i64.wrap (d.e-k)=d.e-k:=by rw[wrap_i64]<;>omega
    have w6:IntKind.i64.wrap ((k0:Int)+1)=(k0:Int)+1:=by rw[wrap_i64]<;>omega
    have⟨T,hT⟩:∃T,T=(d.e-k)/2:=⟨_,rfl⟩
    have hT2:d.e-k=2*T:=by omega
    rw[<-hT]at hres;have q1:(d.e-k).tdiv 2=T:=by rw[hT2,Int.mul_tdiv_cancel_left _ (by omega)]
    have w7:IntKind.i64.wrap T=T:=by rw[wrap_i64]<;>omega
    have hsb:bitL (natV d.m*2^k)=L+k:=by
     have:=qft (m:=natV d.m) (j:=k) (r:=0) hA (Nat.two_pow_pos k);rw[Nat.add_zero]at this;rw[this,<-hL]
    have⟨M,hM⟩:∃M,M=natV d.m*2^k:=⟨_,rfl⟩
    rw[<-hM]at hsb hres;have hl:=qaz (q:=M) (b:=4100) (by omega) (by omega);have sc:=qne d.m k od.len od.li (by omega);rw[<-hM,cl_of hl]at sc;have qc:=qah0 (qae M) hl (qag _);rw[qac]at qc;obtain⟨i1,i2⟩:=q70 (m:=M) (c:=P+2) (by omega) (by omega);have hss:=(qeo M).1;have⟨S,hS⟩:∃S,S=isq M:=⟨_,rfl⟩
    rw[<-hS]at hres qc i1 i2 hss;have hsl:=qaz (q:=S) (b:=4100) (by omega) (by omega);have hssl:=qaz (q:=S*S) (b:=4100) (by have:=qat hss;omega) (by omega);have mc:=qw6 (qae S) (qae S) hsl hsl (qag _) (qag _);rw[qac,cl_of hssl]at mc;have cc:=qpw (qae (S*S)) (qae M) (by omega) (by omega) (qag _) (qag _);rw[qac,qac]at cc;have hmore:decide (S*S≠M)=!decide (cmpN (S*S) M=0):=by
     unfold cmpN;by_cases h3:S*S<M
     ·have h4:S*S≠M:=by omega
      simp[h3,h4]
     ·have h4:S*S=M:=by omega
      simp[h4]
    have hex:ExOk (qae S) T (decide (S*S≠M)) P:=by
     refine⟨hsl,qag _,by rw[qac];omega,by omega,by omega,by omega,by omega,?_,?_⟩
     ·intro _;rw[qac];omega
     ·intro _;omega
    have gc:=qain up hex;rw[qac,<-hres,hmore]at gc;have⟨c,hc⟩:∃c,c=cmpN (S*S) M:=⟨_,rfl⟩
    rw[<-hc]at cc gc;simp only[exV]at gc;simp[hf,hneg,lim,nd,w1,w2];refine qaa (args:=[d.v]) rfl (by simp[hneg,lim]) rfl db ?_;by_cases hpar:(d.e-k0)%2=0
    ·have hk0k:k=k0:=by rw[hkk,if_pos hpar,Nat.add_zero]
     have t1:(d.e-(k0:Int)).tmod 2=0:=by
      rw[<-hk0k,hT2,Int.mul_tmod_right]
     subst hk0k;simp[w3,hmax,w4,t1];refine zq sc ?_;simp;refine zq qc ?_;simp;refine zq mc ?_;simp[w5,q1,w7];refine zq cc ?_;simp[i64];refine zq gc ?_;simp[lim]
    ·have hk0k:k=k0+1:=by rw[hkk,if_neg hpar]
     have t1:¬(d.e-(k0:Int)).tmod 2=0:=by
      intro h;have:=Int.dvd_of_tmod_eq_zero h;omega
     have w6':IntKind.i64.wrap ((k0:Int)+1)=(k:Int):=by rw[w6];omega
     simp[w3,hmax,w4,t1,w6'];refine zq sc ?_;simp;refine zq qc ?_;simp;refine zq mc ?_;simp[w5,q1,w7];refine zq cc ?_;simp[i64];refine zq gc ?_;simp[lim]
  ·have nd:d.m≠[]:=fun h=>by have:=(od.zero h).1;rw[hneg]at this;cases this
   simp[hf,hneg,rSqrt,Dy.zero,lim]
 ·simp[hf,rSqrt,Dy.zero,lim]
end Go.Abs.W
namespace Go.Abs.W
theorem q1m {neg:Bool}{N:Nat}{e:Int}{p:Nat}{up:Bool} :
 cutR (Dy.of neg N e).neg (natV (Dy.of neg N e).m) (Dy.of neg N e).e false p up=cutR neg N e false p up:=by
 by_cases h:N=0
 ·subst h;have:Dy.of neg 0 e=⟨false,[],0⟩:=by simp[Dy.of]
  rw[this];show cutR false 0 0 false p up=_;rw[qfi,qfi]
 ·have hd:Dy.of neg N e=⟨neg,qae (N/2^tz N),e+tz N⟩:=by simp[Dy.of,h]
  rw[hd];simp only[qac];obtain⟨h1,_,h3⟩:=qpl h;have e1:N=N/2^tz N*2^tz N+0:=by have:=Nat.div_add_mod' N (2^tz N);omega
  have hr:=qdp (neg:=neg) (m:=N/2^tz N) (e:=e+tz N) (more:=false) (more2:=false) (p:=p) (up:=up) (j:=tz N) (r:=0) (by omega) (Nat.two_pow_pos _) rfl (by simp);rw[<-e1,show e+(tz N:Int)-tz N=e by omega]at hr;exact hr.symm
def qfv (a b:Dy)(p:Nat):Int:=if a.top-b.top<=2 then min (min a.e (a.top-p-8)) b.e else min a.e (a.top-p-8)
structure SumR (a b:Dy)(p:Nat)(M:Nat)(lost turned:Bool):Prop where
 bits:bitL M<=4200
 more:lost=true->p<bitL M
 zero:M=0->(a.sum b)=Dy.zero
 eq:∀up,cutR (a.neg != turned) M (qfv a b p) lost p up=cutR (a.sum b).neg (natV (a.sum b).m) (a.sum b).e false p up
theorem qaaw {a:Dy}(na:a.m≠[]):a.top=bitL (natV a.m)+a.e:=if_neg na
theorem q9b {a b:Dy}{p:Nat}(na:a.m≠[])(nb:b.m≠[])(j:Nat)(hl:qfv a b p=min a.e b.e-j)(x y:Nat)(hx:x=sumX a (min a.e b.e)*2^j)(hy:y=sumX b (min a.e b.e)*2^j) :
 (a.neg=b.neg->bitL (x+y)<=4200->SumR a b p (x+y) false false)/\(a.neg≠b.neg->x<y->bitL y<=4200->SumR a b p (y-x) false true)/\(a.neg≠b.neg->¬x<y->bitL x<=4200->SumR a b p (x-y) false false):=by
 have⟨e,he⟩:∃e,e=min a.e b.e:=⟨_,rfl⟩
 rw[<-he]at hl hx hy;have⟨X,hX⟩:∃X,X=sumX a e:=⟨_,rfl⟩
 have⟨Y,hY⟩:∃Y,Y=sumX b e:=⟨_,rfl⟩
 rw[<-hX]at hx;rw[<-hY]at hy;have hp:=Nat.two_pow_pos j;have key:∀(neg:Bool) (N:Nat) (up:Bool),cutR neg (N*2^j) (e-j) false p up=cutR (Dy.of neg N e).neg (natV (Dy.of neg N e).m) (Dy.of neg N e).e false p up:=by
  intro neg N up;rw[q1m];by_cases h:N=0
  ·rw[h,Nat.zero_mul,qfi,qfi]
  ·have:=qdp (neg:=neg) (m:=N) (e:=e) (more:=false) (more2:=false) (p:=p) (up:=up) (j:=j) (r:=0) h hp rfl (by simp);rw[Nat.add_zero]at this;exact this
 have zero:∀(neg:Bool),Dy.of neg 0 e=Dy.zero:=by intro neg;simp[Dy.of,Dy.zero]
 have hs:a.sum b=if a.neg=b.neg then Dy.of a.neg (X+Y) e else if Y<=X then Dy.of a.neg (X-Y) e else Dy.of b.neg (Y-X) e:=by
  unfold Dy.sum;rw[if_neg na,if_neg nb];simp only[<-he,<-hX,<-hY]
 refine⟨fun hn hb=>?_,fun hn hlt hb=>?_,fun hn hlt hb=>?_⟩
 ·rw[if_pos hn]at hs;have hM:x+y=(X+Y)*2^j:=by rw[hx,hy,Nat.add_mul]
  refine⟨hb,by simp,?_,?_⟩
  ·intro h0;rw[hM]at h0;have:X+Y=0:=by rcases Nat.mul_eq_zero.1 h0 with h|h;exact h;omega
   rw[hs,this,zero]
  ·intro up;rw[hs,hl,hM,<-key]
   congr 1;cases a.neg<;>rfl
 ·have hXY:X<Y:=by
   rw[hx,hy]at hlt;exact Nat.lt_of_mul_lt_mul_right hlt
  rw[if_neg hn,if_neg (by omega)]at hs;have hM:y-x=(Y-X)*2^j:=by rw[hx,hy,Nat.sub_mul]
  refine⟨Nat.le_trans (qat (Nat.sub_le _ _)) hb,by simp,?_,?_⟩
  ·intro h0;rw[hM]at h0;exfalso;rcases Nat.mul_eq_zero.1 h0 with h|h<;>omega
  ·intro up;rw[hs,hl,hM,<-key]
   congr 1;cases ha:a.neg<;>cases hb:b.neg<;>simp_all
 ·have hXY:Y<=X:=by
   rcases Nat.lt_or_ge X Y with h|h
   ·exfalso;apply hlt;rw[hx,hy];exact Nat.mul_lt_mul_of_pos_right h hp
   ·exact h
  rw[if_neg hn,if_pos hXY]at hs;have hM:x-y=(X-Y)*2^j:=by rw[hx,hy,Nat.sub_mul]
  refine⟨Nat.le_trans (qat (Nat.sub_le _ _)) hb,by simp,?_,?_⟩
  ·intro h0;rw[hM]at h0;have:X-Y=0:=by rcases Nat.mul_eq_zero.1 h0 with h|h;exact h;omega
   rw[hs,this,zero]
  ·intro up;rw[hs,hl,hM,<-key]
   congr 1;cases a.neg<;>rfl
theorem qaa2 {a b:Dy}{p:Nat}(na:a.m≠[])(nb:b.m≠[])(hA:natV a.m≠0)(j i:Nat)(hl:qfv a b p=b.e+j)(hi:a.e=qfv a b p+i)(x:Nat)(hx:x=natV a.m*2^i)
 (hT:p+8<=bitL (natV a.m)+i) (hT2:bitL (natV a.m)+i<=4190) (hb:bitL (natV b.m)+3<=bitL (natV a.m)+i+j) (lost:Bool) (hlost:lost=decide (natV b.m%2^j≠0)) (y:Nat) (hy:y=natV b.m/2^j) :
 (a.neg=b.neg->SumR a b p (x+y) lost false)/\(a.neg≠b.neg->(if lost then y+1 else y)<=x/\SumR a b p (x-(if lost then y+1 else y)) lost false):=by
 have he:min a.e b.e=b.e:=by omega
 have hp:=Nat.two_pow_pos j;have⟨X,hX⟩:∃X,X=sumX a b.e:=⟨_,rfl⟩
 have⟨B,hB⟩:∃B,B=natV b.m:=⟨_,rfl⟩
 have hX2:X=x*2^j:=by
  rw[hX,hx,sumX,Nat.mul_assoc,<-Nat.pow_add];congr 2;omega
 have hY2:sumX b b.e=B:=by rw[hB];simp[sumX]
 have hs:a.sum b=if a.neg=b.neg then Dy.of a.neg (X+B) b.e else if B<=X then Dy.of a.neg (X-B) b.e else Dy.of b.neg (B-X) b.e:=by
  unfold Dy.sum;rw[if_neg na,if_neg nb];simp only[he,<-hX,hY2]
 rw[<-hB]at hb hlost hy;have hdm:=Nat.div_add_mod' B (2^j);have hrl:=Nat.mod_lt B hp;have⟨r,hr⟩:∃r,r=B%2^j:=⟨_,rfl⟩
 rw[<-hr]at hdm hrl hlost;rw[<-hy]at hdm;have⟨T,hTd⟩:∃T,T=bitL (natV a.m)+i:=⟨_,rfl⟩
 have hxb:bitL x=T:=by
  have:=qft (m:=natV a.m) (j:=i) (r:=0) hA (Nat.two_pow_pos i);rw[Nat.add_zero]at this;rw[hx,this,hTd]
 rw[<-hTd]at hT hT2 hb;have hx0:x≠0:=by intro h;rw[h,qbl]at hxb;omega
 have hxlo:=(qa0 hx0).1;rw[hxb]at hxlo;have hxhi:=qb6 x;rw[hxb]at hxhi;have hylt:y<2^(T-3):=by
  rw[hy,Nat.div_lt_iff_lt_mul hp,<-Nat.pow_add];exact Nat.lt_of_lt_of_le (qb6 B) (Nat.pow_le_pow_right (by omega) (by omega))
 have e1:2^(T-1)=4*2^(T-3):=by rw[show T-1=T-3+2 by omega,Nat.pow_add];omega
 have e2:2^T=8*2^(T-3):=by
  have:2^(T-3+3)=2^(T-3)*2^3:=Nat.pow_add ..;rw[show T-3+3=T by omega]at this;rw[this];omega
 have e3:2^(T-2)=2*2^(T-3):=by
  have:2^(T-3+1)=2^(T-3)*2^1:=Nat.pow_add ..;rw[show T-3+1=T-2 by omega]at this;rw[this];omega
 have hbig:∀M,2^(T-2)<=M->p<bitL M/\M≠0:=by
  intro M hM;have hM0:M≠0:=by have:=Nat.two_pow_pos (T-2);omega
  refine⟨?_,hM0⟩;have h1:=qat hM;have h2:bitL (2^(T-2))=T-2+1:=q1q (by have:=Nat.two_pow_pos (T-2);omega) (Nat.le_refl _) (Nat.pow_lt_pow_right (by omega) (by omega));omega
 refine⟨fun hn=>?_,fun hn=>?_⟩
 ·rw[if_pos hn]at hs;obtain⟨g1,g2⟩:=hbig (x+y) (by omega);refine⟨?_,fun _=>g1,fun h=>absurd h g2,?_⟩
  ·refine Nat.le_trans (qbc (b:=T+1) ?_) (by omega);rw[Nat.pow_succ];omega
  ·intro up;rw[hs,q1m,hl,show X+B=(x+y)*2^j+r by rw[hX2,Nat.add_mul];omega];have:=qdp (neg:=a.neg) (m:=x+y) (e:=b.e+j) (more:=lost) (more2:=false) (p:=p) (up:=up) (j:=j) (r:=r) g2 hrl (by rw[hlost];simp) (fun _=>by omega);rw[show b.e+(j:Int)-j=b.e by omega]at this;rw[this]
   congr 1;cases a.neg<;>rfl
 ·have⟨y1,hy1⟩:∃y1,y1=if lost then y+1 else y:=⟨_,rfl⟩
  rw[<-hy1];have hy1le:y1<=y+1:=by rw[hy1];split<;>omega
  have hxy:y1<=x:=by omega
  obtain⟨g1,g2⟩:=hbig (x-y1) (by omega);have hBX:B<=X:=by
   have h1:(y+1)*2^j<=x*2^j:=Nat.mul_le_mul_right _ (by omega);rw[Nat.add_mul,Nat.one_mul]at h1;rw[hX2];omega
  rw[if_neg hn,if_pos hBX]at hs;refine⟨hxy,⟨?_,fun _=>g1,fun h=>absurd h g2,?_⟩⟩
  ·exact Nat.le_trans (qat (Nat.sub_le _ _)) (by omega)
  ·intro up;by_cases hr0:r=0
   ·have hlf:lost=false:=by rw[hlost,hr0];rfl
    rw[hlf]at hy1;simp at hy1;rw[hs,q1m,hl,hlf,show X-B=(x-y1)*2^j+0 by rw[hX2,hy1,Nat.sub_mul];omega];have:=qdp (neg:=a.neg) (m:=x-y1) (e:=b.e+j) (more:=false) (more2:=false) (p:=p) (up:=up) (j:=j) (r:=0) g2 hp rfl (by simp);rw[show b.e+(j:Int)-j=b.e by omega]at this;rw[this]
    congr 1;cases a.neg<;>rfl
   ·have hlt:lost=true:=by rw[hlost];simp[hr0]
    rw[hlt]at hy1;simp at hy1;have hXB:X-B=(x-y1)*2^j+(2^j-r):=by
     rw[hX2,hy1,Nat.sub_mul,Nat.add_mul,Nat.one_mul];have h1:(y+1)*2^j<=x*2^j:=Nat.mul_le_mul_right _ (by omega);rw[Nat.add_mul,Nat.one_mul]at h1;omega
    rw[hs,q1m,hl,hlt,hXB];have hne:2^j-r≠0:=by omega
    have:=qdp (neg:=a.neg) (m:=x-y1) (e:=b.e+j) (more:=true) (more2:=false) (p:=p) (up:=up) (j:=j) (r:=2^j-r) g2 (by omega) (by simp[hne]) (fun _=>by omega);rw[show b.e+(j:Int)-j=b.e by omega]at this;rw[this]
    congr 1;cases a.neg<;>rfl
set_option maxHeartbeats 4000000
def sumT (an bn:Bool)(X Y:Nat)(lost:Bool):Nat × Bool × Bool:=
 if an=bn then(X+Y,lost,false)else
 if X<(if lost then Y+1 else Y)then((if lost then Y+1 else Y)-X,false,true)else(X-(if lost then Y+1 else Y),lost,false)
theorem q18 {H:Heap}{E:Env}(a b:Dy)(X Y:Nat)(low:Int)(lost:Bool)(hX:bitL X<=4200)(hY:bitL Y<=4200)
 (h3:E 3=.ptr H.length 0 0) (h4:E 4=.ptr (H.length+1) 0 0) (h6:E 6=.ptr (H.length+2) 0 0) (h8:E 8=.int .i64 low) (h9:E 9=lim (qae X)) (h10:E 10=lim (qae Y)) (h11:E 11=.bool lost) :
 WC prog H.length (qa6 7 c_round_sum.body) E (H++[some ⟨3,[a.v],false,true⟩,some ⟨3,[b.v],false,true⟩,some ⟨3,[.agg [.nil,.int .i64 0,.bool false]],false,true⟩]) (fun x E1 H1=>(x=.normal\/x=.ret)/\∃v0,resV E1 H1 [.cell 6 true 3,.tmp 7]=some v0 /\
  fin false H.length H1 v0=some (.tup [exV (qae (sumT a.neg b.neg X Y lost).1) low (sumT a.neg b.neg X Y lost).2.1,.bool (sumT a.neg b.neg X Y lost).2.2],H)):=by
 have lX:=qaz hX (by omega);have lY:=qaz hY (by omega);refine qj4 ?_;cases hn:(a.neg == b.neg)
 ·have hne:¬a.neg=b.neg:=by simpa using hn
  have tail:∀(E:Env) (G:Heap) (Y1:Nat),bitL Y1<=4201->E 6=.ptr (H.length+2) 0 0->E 8=.int .i64 low->E 9=lim (qae X)->E 10=lim (qae Y1)->E 11=.bool lost ->
   WC prog H.length (qa6 9 c_round_sum.body) E (H++some ⟨3,[a.v],false,true⟩ :: some ⟨3,[b.v],false,true⟩ :: some ⟨3,[.agg [.nil,.int .i64 0,.bool false]],false,true⟩ :: G) (fun x E1 H1=>(x=.normal\/x=.ret)/\∃v0,resV E1 H1 [.cell 6 true 3,.tmp 7]=some v0 /\
    fin false H.length H1 v0=some (.tup [exV (qae (if X<Y1 then Y1-X else X-Y1)) low (if X<Y1 then false else lost),.bool (decide (X<Y1))],H)):=by
   intro E G Y1 hY1 h6 h8 h9 h10 h11;have lY1:=qaz hY1 (by omega);have cc:=qpw (qae X) (qae Y1) (by omega) (by omega) (qag _) (qag _);rw[qac,qac]at cc;refine qj4 ?_;simp[qa6,h9,h10];refine zq cc ?_;by_cases hlt:X<Y1
   ·have dc:=qw5 (qae Y1) (qae X) lY1 lX (qag _) (qag _) (by rw[qac,qac];omega);rw[qac,qac]at dc;simp[i64,q8m,hlt,h9,h10];refine zq dc ?_;simp[h6,h8,exV,lim]
   ·have dc:=qw5 (qae X) (qae Y1) lX lY1 (qag _) (qag _) (by rw[qac,qac];omega);rw[qac,qac]at dc;simp[i64,q8m,hlt,h9,h10];refine zq dc ?_;simp[h6,h8,h11,exV,lim]
  have hsum:sumT a.neg b.neg X Y lost=((if X<(if lost then Y+1 else Y)then(if lost then Y+1 else Y)-X else X-(if lost then Y+1 else Y)),(if X<(if lost then Y+1 else Y)then false else lost),decide (X<(if lost then Y+1 else Y))):=by
   unfold sumT;rw[if_neg hne];clear tail;generalize (if lost=true then Y+1 else Y)=Y1;by_cases h:X<Y1<;>simp[h]
  rw[hsum];refine qfu (b:=qa6 8 c_round_sum.body) ?_;refine qas ?_;simp[h3,h4,hn];refine qfu (b:=qa6 9 c_round_sum.body) ?_;refine qas ?_;cases lost
  ·simp[h11];refine qdf (tail _ [] Y (by omega) (by simp[h6]) (by simp[h8]) (by simp[h9]) (by simp[h10]) (by simp[h11])) (fun x E1 H1 h=>by simpa using h)
  ·have l1:Li [1]:=by intro x hx;simp at hx;omega
   have v1:natV [1]=1:=rfl;have hb1:bitL (Y+1)<=4201:=by
    refine Nat.le_trans (qbc (b:=bitL Y+1) ?_) (by omega);have:=qb6 Y;rw[Nat.pow_succ];omega
   have hl1:=qaz hb1 (by omega);have ac:=q1t (qae Y) [1] lY (by simp) (qag _) l1;rw[qac,v1,cl_of hl1]at ac;simp[h11,h10];refine qam (args:=[lim (qae Y),.ref (H.length+3) 1 0 1]) (vs:=[lim (qae Y),lim [1]]) (H1:=H++some ⟨3,[a.v],false,true⟩ :: some ⟨3,[b.v],false,true⟩ :: some ⟨3,[.agg [.nil,.int .i64 0,.bool false]],false,true⟩ :: [some ⟨1,[.int .u32 1],true,false⟩]) rfl ?_ ?_ ac ?_
   ·simp
   ·refine Eq.trans (b:=frzVs _ _) rfl ?_;simp[frzVs,frzV,qcd,lim,u32]
   simp;refine qdf (tail _ [some ⟨1,[.int .u32 1],true,false⟩] (Y+1) hb1 (by simp[h6]) (by simp[h8]) (by simp[h9]) (by simp) (by simp[h11])) (fun x E1 H1 h=>by simpa using h)
 ·have heq:a.neg=b.neg:=by simpa using hn
  have hbs:bitL (X+Y)<=4201:=by
   have⟨B,hB⟩:∃B,B=4200:=⟨_,rfl⟩
   have:bitL (X+Y)<=B+1:=by
    refine qbc ?_;have h1:X<2^B:=Nat.lt_of_lt_of_le (qb6 X) (Nat.pow_le_pow_right (by omega) (by omega));have h2:Y<2^B:=Nat.lt_of_lt_of_le (qb6 Y) (Nat.pow_le_pow_right (by omega) (by omega));rw[Nat.pow_succ];omega
   omega
  have hls:=qaz hbs (by omega);have ac:=q1t (qae X) (qae Y) lX lY (qag _) (qag _);rw[qac,qac,cl_of hls]at ac;simp[qa6,h3,h4,hn,h9,h10];refine zq ac ?_;simp[h6,h8,h11,exV,sumT,heq,lim]
theorem q19 (a b:Dy)(p:Nat):qfv a b p<=a.e/\qfv a b p<=a.top-p-8:=by
 unfold qfv;split<;>omega
theorem qajo (a b:Dy)(p:Nat)(oa:a.Ok)(ob:b.Ok)(na:a.m≠[])(nb:b.m≠[])(htop:b.top<=a.top)(hp8:8<=p)(hp5:p<=512) :
 ∃M lost turned,SumR a b p M lost turned/\CQ prog qu8 [a.v,b.v,.int .i64 p] (.tup [exV (qae M) (qfv a b p) lost,.bool turned]):=by
 have hA:=qcq oa.tr na;have hB:=qcq ob.tr nb;have ta:=qaaw na;have tb:=qaaw nb;have ba:=oa.bits;have bb:=ob.bits;have e1:=oa.elo;have e2:=oa.ehi;have e3:=ob.elo;have e4:=ob.ehi;have pa:=(qa0 hA).2.2;have pb:=(qa0 hB).2.2;have⟨low,hlow⟩:∃low,low=qfv a b p:=⟨_,rfl⟩
 obtain⟨l1,l2⟩:=q19 a b p;rw[<-hlow]at l1 l2;have hrange:a.top-low<=4100:=by rw[hlow];unfold qfv;split<;>omega
 have hlo2:-17000<=low:=by rw[hlow];unfold qfv;split<;>omega
 have⟨i,hi⟩:∃i,i=(a.e-low).toNat:=⟨_,rfl⟩
 have⟨X,hX⟩:∃X,X=natV a.m*2^i:=⟨_,rfl⟩
 have hXb:bitL X=bitL (natV a.m)+i:=by
  have:=qft (m:=natV a.m) (j:=i) (r:=0) hA (Nat.two_pow_pos i);rw[Nat.add_zero]at this;rw[hX,this]
 have lXb:bitL X<=4200:=by omega
 have lX:=qaz lXb (by omega);have xc:=qne a.m i oa.len oa.li (by omega);rw[<-hX,cl_of lX]at xc;have run:∀(Y:Nat) (lost:Bool),bitL Y<=4200 ->
  (low<=b.e->Y=natV b.m*2^(b.e-low).toNat/\lost=false)->(b.e<low->Y=natV b.m/2^(low-b.e).toNat/\lost=decide (natV b.m%2^(low-b.e).toNat≠0)) ->
  CQ prog qu8 [a.v,b.v,.int .i64 p] (.tup [exV (qae (sumT a.neg b.neg X Y lost).1) low (sumT a.neg b.neg X Y lost).2.1,.bool (sumT a.neg b.neg X Y lost).2.2]):=by
  intro Y lost hYb hE hL;have lY:=qaz hYb (by omega);refine CQ_of rfl fun H=>?_
  have tca:=qj5 a oa.w;have tcb:=qj5 b ob.w;rw[oa.valid]at tca;rw[ob.valid]at tcb;have⟨t1,ht1⟩:∃t1,t1=a.top:=⟨_,rfl⟩
  have⟨t2,ht2⟩:∃t2,t2=b.top:=⟨_,rfl⟩
  rw[<-ht1]at tca ta htop l2 hrange;rw[<-ht2]at tcb tb htop;have w1:IntKind.i64.wrap (t1-p)=t1-p:=by rw[wrap_i64]<;>omega
  have w2:IntKind.i64.wrap (t1-p-8)=t1-p-8:=by rw[wrap_i64]<;>omega
  have w3:IntKind.i64.wrap (t1-t2)=t1-t2:=by rw[wrap_i64]<;>omega
  have w4:IntKind.i64.wrap (a.e-low)=(i:Int):=by rw[wrap_i64]<;>omega
  have⟨L1,hL1⟩:∃L1,L1=min a.e (t1-p-8):=⟨_,rfl⟩
  have m1:(if t1-(p:Int)-8<a.e then t1-(p:Int)-8 else a.e)=L1:=by rw[hL1];split<;>omega
  have hlow2:low=if t1-t2<=2 then min L1 b.e else L1:=by rw[hlow,qfv,<-ht1,<-ht2,<-hL1]
  have rest:∀E:Env,E 3=.ptr H.length 0 0->E 4=.ptr (H.length+1) 0 0->E 6=.ptr (H.length+2) 0 0->E 7=.bool false->E 8=.int .i64 low ->
   WC prog H.length (qa6 3 c_round_sum.body) E (H++[some ⟨3,[a.v],false,true⟩,some ⟨3,[b.v],false,true⟩,some ⟨3,[.agg [.nil,.int .i64 0,.bool false]],false,true⟩]) (fun x E1 H1=>(x=.normal\/x=.ret)/\∃v0,resV E1 H1 [.cell 6 true 3,.tmp 7]=some v0 /\
    fin false H.length H1 v0=some (.tup [exV (qae (sumT a.neg b.neg X Y lost).1) low (sumT a.neg b.neg X Y lost).2.1,.bool (sumT a.neg b.neg X Y lost).2.2],H)):=by
   intro E h3 h4 h6 h7 h8;refine qfu (b:=qa6 4 c_round_sum.body) ?_;refine qas ?_;simp[h3,h8,w4];refine zq xc ?_;simp;refine qfu (b:=qa6 5 c_round_sum.body) ?_;refine qas ?_;simp;refine qfu (b:=qa6 6 c_round_sum.body) ?_;refine qas ?_;simp;refine qfu (b:=qa6 7 c_round_sum.body) ?_;refine qas ?_;by_cases hge:low<=b.e
   ·obtain⟨rfl,rfl⟩:=hE hge;have⟨j,hj⟩:∃j,j=(b.e-low).toNat:=⟨_,rfl⟩
    rw[<-hj]at lY hYb ⊢;have w5:IntKind.i64.wrap (b.e-low)=(j:Int):=by rw[wrap_i64]<;>omega
    have yc:=qne b.m j ob.len ob.li (by omega);rw[cl_of lY]at yc;simp[h4,h8,hge,w5];refine zq yc ?_;simp;exact qdf (q18 a b X (natV b.m*2^j) low false lXb hYb (by simp[h3]) (by simp[h4]) (by simp[h6]) (by simp[h8]) (by simp) (by simp) (by simp)) (fun x E1 H1 h=>by simpa using h)
   ·obtain⟨rfl,rfl⟩:=hL (by omega);have⟨j,hj⟩:∃j,j=(low-b.e).toNat:=⟨_,rfl⟩
    rw[<-hj]at lY hYb ⊢;have w5:IntKind.i64.wrap (low-b.e)=(j:Int):=by rw[wrap_i64]<;>omega
    have yc:=q8z b.m j ob.len ob.li (by omega);have⟨lo,hlo⟩:∃lo:Bool,lo=decide (natV b.m%2^j≠0):=⟨_,rfl⟩
    rw[<-hlo]at yc ⊢;simp[h4,h8,hge,w5];refine zq yc ?_;simp;exact qdf (q18 a b X (natV b.m/2^j) low lo lXb hYb (by simp[h3]) (by simp[h4]) (by simp[h6]) (by simp[h8]) (by simp) (by simp) (by simp)) (fun x E1 H1 h=>by simpa using h)
  refine qfu (b:=qa6 1 c_round_sum.body) ?_;refine qas ?_;simp;refine qfu (b:=qa6 2 c_round_sum.body) ?_;refine qas ?_;simp;refine zq tca ?_;simp[w1,w2,m1];refine qfu (b:=qa6 3 c_round_sum.body) ?_;refine qas ?_;simp;refine zq tca ?_;simp;refine zq tcb ?_;by_cases h2:t1-t2<=2
  ·have m2:(if b.e<L1 then b.e else L1)=low:=by rw[hlow2,if_pos h2];split<;>omega
   simp[w3,h2,m2];exact qdf (rest _ (by simp) (by simp) (by simp) (by simp) (by simp)) (fun x E1 H1 h=>by simpa using h)
  ·have m2:L1=low:=by rw[hlow2,if_neg h2]
   simp[w3,h2,m2];exact qdf (rest _ (by simp) (by simp) (by simp) (by simp) (by simp)) (fun x E1 H1 h=>by simpa using h)
 rw[<-hlow];by_cases hge:low<=b.e
 ·have⟨k,hk⟩:∃k,k=(b.e-low).toNat:=⟨_,rfl⟩
  have⟨Y,hY⟩:∃Y,Y=natV b.m*2^k:=⟨_,rfl⟩
  have hYb:bitL Y=bitL (natV b.m)+k:=by
   have:=qft (m:=natV b.m) (j:=k) (r:=0) hB (Nat.two_pow_pos k);rw[Nat.add_zero]at this;rw[hY,this]
  have hYb2:bitL Y<=4199:=by omega
  have hXb2:bitL X<=4199:=by omega
  have hbs:bitL (X+Y)<=4200:=by
   have⟨B,hB⟩:∃B,B=4199:=⟨_,rfl⟩
   have:bitL (X+Y)<=B+1:=by
    refine qbc ?_;have h1:X<2^B:=Nat.lt_of_lt_of_le (qb6 X) (Nat.pow_le_pow_right (by omega) (by omega));have h2:Y<2^B:=Nat.lt_of_lt_of_le (qb6 Y) (Nat.pow_le_pow_right (by omega) (by omega));rw[Nat.pow_succ];omega
   omega
  have r:=run Y false (by omega) (fun _=>⟨by rw[hY,hk],rfl⟩) (fun h=>by omega);have⟨j,hj⟩:∃j,j=(min a.e b.e-low).toNat:=⟨_,rfl⟩
  have hx:X=sumX a (min a.e b.e)*2^j:=by
   rw[hX,sumX,Nat.mul_assoc,<-Nat.pow_add];congr 2;omega
  have hy:Y=sumX b (min a.e b.e)*2^j:=by
   rw[hY,sumX,Nat.mul_assoc,<-Nat.pow_add];congr 2;omega
  obtain⟨s1,s2,s3⟩:=q9b (p:=p) na nb j (by rw[<-hlow];omega) X Y hx hy;refine⟨_,_,_,?_,r⟩;unfold sumT;by_cases hn:a.neg=b.neg
  ·rw[if_pos hn];exact s1 hn hbs
  ·rw[if_neg hn];simp only[Bool.false_eq_true,if_false];by_cases hlt:X<Y
   ·rw[if_pos hlt];exact s2 hn hlt (by omega)
   ·rw[if_neg hlt];exact s3 hn hlt (by omega)
 ·have hbig:¬a.top-b.top<=2:=by
   intro h;have:low<=b.e:=by rw[hlow,qfv,if_pos h];omega
   exact hge this
  have⟨j,hj⟩:∃j,j=(low-b.e).toNat:=⟨_,rfl⟩
  have hYb:bitL (natV b.m/2^j)<=4200:=Nat.le_trans (qat (Nat.div_le_self _ _)) (by omega);have r:=run (natV b.m/2^j) (decide (natV b.m%2^j≠0)) hYb (fun h=>absurd h hge) (fun _=>by rw[hj];exact⟨rfl,rfl⟩);obtain⟨s1,s2⟩:=qaa2 (p:=p) na nb hA j i (by rw[<-hlow];omega) (by rw[<-hlow];omega) X hX (by omega) (by omega) (by omega) _ rfl _ rfl;refine⟨_,_,_,?_,r⟩;unfold sumT;by_cases hn:a.neg=b.neg
  ·rw[if_pos hn];exact s1 hn
  ·obtain⟨g1,g2⟩:=s2 hn;rw[if_neg hn];have hlt:¬X<(if decide (natV b.m%2^j≠0)=true then natV b.m/2^j+1 else natV b.m/2^j):=by omega
   rw[if_neg hlt];exact g2
end Go.Abs.W
namespace Go.Abs.W
def rAdd (a b:Dy)(p:Int)(up:Bool):Dy × Int:=
 if qcr [a,b] p=0 then cutR (a.sum b).neg (natV (a.sum b).m) (a.sum b).e false p.toNat up else(Dy.zero,qcr [a,b] p)
theorem qafx {a b:Dy}(na:a.m≠[])(nb:b.m≠[]):a.sum b=b.sum a:=by
 unfold Dy.sum;rw[if_neg na,if_neg nb,if_neg nb,if_neg na];have he:min b.e a.e=min a.e b.e:=by omega
 simp only[he];generalize sumX a (min a.e b.e)=X;generalize sumX b (min a.e b.e)=Y;generalize min a.e b.e=e;by_cases hn:a.neg=b.neg
 ·rw[if_pos hn,if_pos hn.symm,hn,Nat.add_comm]
 ·have hn':¬b.neg=a.neg:=fun h=>hn h.symm
  rw[if_neg hn,if_neg hn'];rcases Nat.lt_trichotomy X Y with h|h|h
  ·rw[if_neg (by omega),if_pos (by omega)]
  ·subst h;rw[if_pos (Nat.le_refl _),if_pos (Nat.le_refl _),Nat.sub_self];simp[Dy.of]
  ·rw[if_pos (by omega),if_neg (by omega)]
set_option maxHeartbeats 4000000 in
theorem qabx (a b:Dy)(p:Int)(up:Bool)(wa:a.W)(wb:b.W):CQ prog q5r [a.v,b.v,.int .i64 p,.bool up] (.tup [(rAdd a b p up).1.v,.int .i64 (rAdd a b p up).2]):=by
 have fc:=qrd p [a,b] (by simp) (by simp;exact⟨wa,wb⟩);by_cases hf:qcr [a,b] p=0
 ·obtain⟨hv,hp8,hp5⟩:=qdb hf;have va:=hv a (by simp);have vb:=hv b (by simp);have oa:=Dy.Ok.of wa.li va;have ob:=Dy.Ok.of wb.li vb;obtain⟨P,rfl⟩:∃P:Nat,p=P:=⟨p.toNat,by omega⟩
  have hpb:precB P=true:=by simp[precB];omega
  have fa:qcr [a] P=0:=by simp[qcr,va,hpb]
  have fb:qcr [b] P=0:=by simp[qcr,vb,hpb]
  have rca:=qqx a P up wa;have rcb:=qqx b P up wb;by_cases na:a.m=[]
  ·have hs:a.sum b=b:=by rw[Dy.sum,if_pos na]
   have hres:rAdd a b P up=qbz b P up:=by rw[rAdd,if_pos hf,hs,qbz,if_pos fb]
   rw[hres];refine qaf rfl fun H=>?_
   simp;refine qam (args:=[.int .i64 P,.ref (H.length+3) 3 0 2]) (vs:=[.int .i64 P,dys [a,b]]) (H1:=H++[some ⟨3,[a.v],false,true⟩,some ⟨3,[b.v],false,true⟩,some ⟨3,[.agg [.bool false,.nil,.int .i64 0]],false,true⟩,some ⟨3,[a.v,b.v],true,false⟩]) rfl (by simp) (by refine Eq.trans (b:=frzVs _ _) rfl ?_;simp[frzVs,frzV,qcd,dys]) fc ?_;simp[hf,lim,na];refine zq rcb ?_;simp[lim]
  ·by_cases nb:b.m=[]
   ·have hs:a.sum b=a:=by rw[Dy.sum,if_neg na,if_pos nb]
    have hres:rAdd a b P up=qbz a P up:=by rw[rAdd,if_pos hf,hs,qbz,if_pos fa]
    rw[hres];refine qaf rfl fun H=>?_
    simp;refine qam (args:=[.int .i64 P,.ref (H.length+3) 3 0 2]) (vs:=[.int .i64 P,dys [a,b]]) (H1:=H++[some ⟨3,[a.v],false,true⟩,some ⟨3,[b.v],false,true⟩,some ⟨3,[.agg [.bool false,.nil,.int .i64 0]],false,true⟩,some ⟨3,[a.v,b.v],true,false⟩]) rfl (by simp) (by refine Eq.trans (b:=frzVs _ _) rfl ?_;simp[frzVs,frzV,qcd,dys]) fc ?_;simp[hf,lim,na,nb];refine zq rca ?_;simp[lim]
   ·have tca:=qj5 a wa;have tcb:=qj5 b wb;rw[va]at tca;rw[vb]at tcb;have rest:∀(a b:Dy),a.Ok->b.Ok->a.m≠[]->b.m≠[]->b.top<=a.top->∀(H G:Heap) (E:Env) (t45 t47:Unit) (x0:V) (v:Dy × Int),v=cutR (a.sum b).neg (natV (a.sum b).m) (a.sum b).e false P up ->
     E 2=.int .i64 P->E 3=.bool up->E 4=.ptr H.length 0 0->E 5=.ptr (H.length+1) 0 0->E 8=.ptr (H.length+2) 0 0->E 9=.int .i64 0 ->
     WC prog H.length (qa6 4 c_round_add.body) E (H++some ⟨3,[a.v],false,true⟩ :: some ⟨3,[b.v],false,true⟩ :: some ⟨3,[.agg [.bool false,.nil,.int .i64 0]],false,true⟩ :: G) (fun x E1 H1=>(x=.normal\/x=.ret)/\∃v0,resV E1 H1 [.cell 8 true 3,.tmp 9]=some v0 /\
      fin false H.length H1 v0=some (.tup [v.1.v,.int .i64 v.2],H)):=by
     intro a b oa ob na nb ht H G E _ _ _ v hres h2 h3 h4 h5 h8 h9;obtain⟨M,lost,turned,sr,sc⟩:=qajo a b P oa ob na nb ht (by omega) (by omega);have hlM:=qaz sr.bits (by omega);refine qj4 ?_;have e1:=oa.elo;have e2:=oa.ehi;have e3:=ob.elo;have e4:=ob.ehi;have hlow:-50000<=qfv a b P/\qfv a b P<=16384:=by
      have t1:=qaaw na;have:=(qa0 (qcq oa.tr na)).2.2;unfold qfv;split<;>omega
     simp only[exV]at sc;simp[qa6,h2,h4,h5];refine zq sc ?_;by_cases hz:M=0/\lost=false
     ·obtain⟨rfl,rfl⟩:=hz;have hs0:=sr.zero rfl;have hv:v=(Dy.zero,0):=by
       rw[hres,hs0];show cutR false 0 0 false P up=_;rw[qfi]
      rw[hv];simp[h8,qa4,lim,Dy.zero]
     ·have hM:M≠0:=by
       intro h0;apply hz;refine⟨h0,?_⟩;cases hl:lost with
       |false=>rfl
       |true=>have:=sr.more hl;rw[h0,qbl]at this;omega
      have hex:ExOk (qae M) (qfv a b P) lost P:=by
       refine⟨hlM,qag _,by rw[qac];have:=sr.bits;omega,hlow.1,by omega,by omega,by omega,?_,?_⟩
       ·rw[qac];exact sr.more
       ·intro _;exact hlow.2
      have gc:=qqu (a.neg != turned) up hex;rw[qac,sr.eq up,<-hres]at gc;simp only[exV]at gc;have hne:qae M≠[]:=qda hM;have hne':¬((qae M).length:Int)=0:=by intro h;exact hne (List.eq_nil_of_length_eq_zero (by omega))
      simp[h2,h3,h4,lim,hne];refine qaa (vs:=[.bool (a.neg != turned),.agg [lim (qae M),.int .i64 (qfv a b P),.bool lost],.int .i64 P,.bool up]) rfl rfl ?_ gc ?_
      ·refine Eq.trans (b:=frzVs _ _) rfl ?_;simp[frzVs,frzV,lim];cases a.neg<;>cases turned<;>rfl
      simp[h8,lim]
    have hsum:=qafx na nb;refine CQ_of rfl fun H=>?_
    refine qfu (b:=qa6 1 c_round_add.body) ?_;refine qas ?_;simp;refine qfu (b:=qa6 2 c_round_add.body) ?_;refine qas ?_;simp;refine qam (args:=[.int .i64 P,.ref (H.length+3) 3 0 2]) (vs:=[.int .i64 P,dys [a,b]]) (H1:=H++[some ⟨3,[a.v],false,true⟩,some ⟨3,[b.v],false,true⟩,some ⟨3,[.agg [.bool false,.nil,.int .i64 0]],false,true⟩,some ⟨3,[a.v,b.v],true,false⟩]) rfl (by simp) (by refine Eq.trans (b:=frzVs _ _) rfl ?_;simp[frzVs,frzV,qcd,dys]) fc ?_;simp[hf];refine qfu (b:=qa6 3 c_round_add.body) ?_;refine qas ?_;simp[lim,na,nb];refine qfu (b:=qa6 4 c_round_add.body) ?_;refine qas ?_;simp;refine qaa (args:=[a.v]) rfl (by simp[lim]) rfl tca ?_;simp;refine qaa (args:=[b.v]) rfl (by simp[lim]) rfl tcb ?_;by_cases hlt:a.top<b.top
    ·simp[hlt];refine qdf (rest b a ob oa nb na (by omega) H [some ⟨3,[a.v,b.v],true,false⟩] _ () () .nil (rAdd a b P up) (by rw[rAdd,if_pos hf,hsum,Int.toNat_natCast]) (by simp) (by simp) (by simp) (by simp) (by simp) (by simp)) (fun x E1 H1 h=>by simpa[lim]using h)
    ·simp[hlt];refine qdf (rest a b oa ob na nb (by omega) H [some ⟨3,[a.v,b.v],true,false⟩] _ () () .nil (rAdd a b P up) (by rw[rAdd,if_pos hf,Int.toNat_natCast]) (by simp) (by simp) (by simp) (by simp) (by simp) (by simp)) (fun x E1 H1 h=>by simpa[lim]using h)
 ·refine qaf rfl fun H=>?_
  simp;refine qam (args:=[.int .i64 p,.ref (H.length+3) 3 0 2]) (vs:=[.int .i64 p,dys [a,b]]) (H1:=H++[some ⟨3,[a.v],false,true⟩,some ⟨3,[b.v],false,true⟩,some ⟨3,[.agg [.bool false,.nil,.int .i64 0]],false,true⟩,some ⟨3,[a.v,b.v],true,false⟩]) rfl (by simp) (by refine Eq.trans (b:=frzVs _ _) rfl ?_;simp[frzVs,frzV,qcd,dys]) fc ?_;simp[hf,rAdd,Dy.zero,lim]
theorem qaar (a b:Dy)(p:Int)(wa:a.W)(wb:b.W):CQ prog qvb [a.v,b.v,.int .i64 p] (.tup [(rAdd a b p false).1.v,.int .i64 (rAdd a b p false).2]):=by
 refine qaf rfl fun H=>?_
 simp;refine qaa rfl rfl rfl (qabx a b p false wa wb) ?_;simp[lim]
theorem q86 (a b:Dy)(p:Int)(wa:a.W)(wb:b.W):CQ prog q0m [a.v,b.v,.int .i64 p] (.tup [(rAdd a b p true).1.v,.int .i64 (rAdd a b p true).2]):=by
 refine qaf rfl fun H=>?_
 simp;refine qaa rfl rfl rfl (qabx a b p true wa wb) ?_;simp[lim]
theorem qsi (a b:Dy)(p:Int)(wa:a.W)(wb:b.W):CQ prog qie [a.v,b.v,.int .i64 p] (.tup [(rMul a b p false).1.v,.int .i64 (rMul a b p false).2]):=by
 refine qaf rfl fun H=>?_
 simp;refine qaa rfl rfl rfl (qabq a b p false wa wb) ?_;simp[lim]
theorem q1u (a b:Dy)(p:Int)(wa:a.W)(wb:b.W):CQ prog ql8 [a.v,b.v,.int .i64 p] (.tup [(rMul a b p true).1.v,.int .i64 (rMul a b p true).2]):=by
 refine qaf rfl fun H=>?_
 simp;refine qaa rfl rfl rfl (qabq a b p true wa wb) ?_;simp[lim]
theorem qzr (a b:Dy)(p:Int)(wa:a.W)(wb:b.W):CQ prog qny [a.v,b.v,.int .i64 p] (.tup [(rDiv a b p false).1.v,.int .i64 (rDiv a b p false).2]):=by
 refine qaf rfl fun H=>?_
 simp;refine qaa rfl rfl rfl (qabs a b p false wa wb) ?_;simp[lim]
theorem q84 (a b:Dy)(p:Int)(wa:a.W)(wb:b.W):CQ prog qq5 [a.v,b.v,.int .i64 p] (.tup [(rDiv a b p true).1.v,.int .i64 (rDiv a b p true).2]):=by
 refine qaf rfl fun H=>?_
 simp;refine qaa rfl rfl rfl (qabs a b p true wa wb) ?_;simp[lim]
theorem q6i (d:Dy)(p:Int)(w:d.W):CQ prog qs1 [d.v,.int .i64 p] (.tup [(rSqrt d p false).1.v,.int .i64 (rSqrt d p false).2]):=by
 refine qaf rfl fun H=>?_
 simp;refine qaa rfl rfl rfl (q69 d p false w) ?_;simp[lim]
theorem qae7 (d:Dy)(p:Int)(w:d.W):CQ prog qxd [d.v,.int .i64 p] (.tup [(rSqrt d p true).1.v,.int .i64 (rSqrt d p true).2]):=by
 refine qaf rfl fun H=>?_
 simp;refine qaa rfl rfl rfl (q69 d p true w) ?_;simp[lim]
theorem q6t (d:Dy)(p:Int)(w:d.W):CQ prog qsp [d.v,.int .i64 p] (.tup [(qbz d p false).1.v,.int .i64 (qbz d p false).2]):=by
 refine qaf rfl fun H=>?_
 simp;refine qaa rfl rfl rfl (qqx d p false w) ?_;simp[lim]
theorem Up_cq (d:Dy)(p:Int)(w:d.W):CQ prog qy5 [d.v,.int .i64 p] (.tup [(qbz d p true).1.v,.int .i64 (qbz d p true).2]):=by
 refine qaf rfl fun H=>?_
 simp;refine qaa rfl rfl rfl (qqx d p true w) ?_;simp[lim]
end Go.Abs.W
