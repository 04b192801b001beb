/- Parts of the proof: FpRd1, FpRd2, FpRd3, FpRd4, FpRd5, FpRd6, FpRd7, FpRd8. -/
import Derived.Test.YtfioikimlnlcbaaGreatDoorFg
import Derived.Test.YtfioikimlnlcbaaGreatDoorFf
namespace Go.Abs.W
theorem q5n (p:Int):CQ prog qr7 [.int .i64 p] (.bool (decide (8<=p)&&decide (p<=512))):=by
 refine qaf rfl fun H=>?_
 simp;grind
theorem qall (a:List Nat)(n:Nat)(ha:a.length<=256)(la:Li a)(hn:n<=65536):CQ prog qoh [lim a,.int .i64 n] (.tup [lim (cl (natV a*2^n)),.int .i64 (clE (natV a*2^n))]):=qaa6 a n ha la hn
theorem qxj (a:List Nat)(n:Nat)(ha:a.length<=256)(la:Li a)(hn:n<=65536):CQ prog q1q [lim a,.int .i64 n] (lim (cl (natV a*2^n))):=by
 refine qaf rfl fun H=>?_
 simp;refine qab rfl rfl rfl (qall a n ha la hn) ?_;simp
theorem qab9 {M n:Nat}:M/2^min n (bitL M)=M/2^n/\(M%2^min n (bitL M)=0↔M%2^n=0):=by
 rcases Nat.le_total n (bitL M)with h|h
 ·rw[Nat.min_eq_left h];exact⟨rfl,Iff.rfl⟩
 ·rw[Nat.min_eq_right h];have h1:=qbw M;have h2:M<2^n:=Nat.lt_of_lt_of_le h1 (Nat.pow_le_pow_right (by omega) h);rw[Nat.div_eq_of_lt h1,Nat.div_eq_of_lt h2,Nat.mod_eq_of_lt h1,Nat.mod_eq_of_lt h2];exact⟨rfl,Iff.rfl⟩
theorem qad6 (a:List Nat)(n:Nat)(ha:a.length<=256)(la:Li a)(hn:n<=1000000):CQ prog q1p [lim a,.int .i64 n] (.tup [lim (qae (natV a/2^n)),.bool (decide (natV a%2^n≠0))]):=by
 refine qaf rfl fun H=>?_
 have hA:=qan la;rw[pow32]at hA;have hbit:=qax hA;obtain⟨c1,c2⟩:=qab9 (M:=natV a) (n:=n);have⟨k,hk⟩:∃k,k=min n (bitL (natV a)):=⟨_,rfl⟩
 rw[<-hk]at c1 c2;rw[<-c1,show decide (natV a%2^n≠0)=decide (natV a%2^k≠0) by rw[decide_eq_decide];exact not_congr c2.symm];have hle:natV a/2^k*2^k<=natV a:=Nat.div_mul_le_self _ _;have hcl:cl (natV a/2^k*2^k)=qae (natV a/2^k*2^k):=cl_of (Nat.le_trans (qcg hle (limbsOf_len.2 (qan la))) ha);have hl1:(qae (natV a/2^k)).length<=256:=Nat.le_trans (qcg (Nat.div_le_self _ _) (limbsOf_len.2 (qan la))) ha;have hl2:(qae (natV a/2^k*2^k)).length<=256:=Nat.le_trans (qcg hle (limbsOf_len.2 (qan la))) ha;have hne:cmpN (natV a/2^k*2^k) (natV a)=0↔natV a%2^k=0:=by
  have e:=Nat.div_add_mod' (natV a) (2^k);unfold cmpN;split
  ·constructor
   ·intro h;omega
   ·intro h;omega
  ·split
   ·omega
   ·constructor
    ·intro _;omega
    ·intro _;rfl
 have s1:=qaba a k ha la (by omega);have s2:=qxj (qae (natV a/2^k)) k hl1 (qah _) (by omega);rw[qad,hcl]at s2;have s3:=qtz (qae (natV a/2^k*2^k)) a (by omega) (by omega) (qah _) la;rw[qad]at s3;simp;refine qab rfl rfl rfl (qqc a (by omega) la) ?_;by_cases hgt:bitL (natV a)<n
 ·have hkb:bitL (natV a)=k:=by omega
  rw[hkb]at hgt ⊢;simp[i64,hgt];refine qab rfl rfl rfl (qqc a (by omega) la) ?_;rw[hkb];simp[i64];refine zq s1 ?_;simp;refine zq s2 ?_;simp;refine zq s3 ?_;simp[i64,hne]
 ·have hkb:n=k:=by omega
  rw[hkb]at hgt ⊢;simp[i64,hgt];refine zq s1 ?_;simp;refine zq s2 ?_;simp;refine zq s3 ?_;simp[i64,hne]
set_option maxHeartbeats 4000000
def qjs : Nat->AC->AC
 |n+1,.seq _ b=>qjs n b
 |_,c=>c
def cutT (p:Nat)(up:Bool)(U:Int)(q:Nat):Dy × Int:=
 if(16384:Int)<bitL q+U then(if up then(Dy.zero,9)else((Dy.of false (2^p-1) (16384-p)).chk,(Dy.of false (2^p-1) (16384-p)).chkE))
 else((Dy.of false q U).chk,(Dy.of false q U).chkE)
theorem qg7 {q b:Nat}(h:bitL q<=b)(hb:b<=8192):(qae q).length<=256:=
 qeh (Nat.lt_of_lt_of_le (qbw q) (Nat.pow_le_pow_right (by omega) h)) (by omega)
theorem qz0 {H:Heap}{X:Option Blk}{E:Env}(G:Heap)(p:Nat)(up:Bool)(U:Int)(q:Nat)(hp8:8<=p)(hp:p<=512)(hU1:-16384<=U)(hU2:U<=200000)(hq:bitL q<=5000)
 (h1:E 1=.int .i64 p) (h2:E 2=.bool up) (h6:E 6=.ptr (H.length+1) 0 0) (h8:E 8=.int .i64 U) (h9:E 9=lim (qae q)) :
 WC prog H.length (qjs 5 c_round_cut.body) E (H++X :: some ⟨3,[.agg [.bool false,.nil,.int .i64 0]],false,true⟩ :: G) (fun x E1 H1=>(x=.normal\/x=.ret)/\∃v0,resV E1 H1 [.cell 6 true 3,.tmp 7]=some v0/\fin false H.length H1 v0=some (.tup [(cutT p up U q).1.v,.int .i64 (cutT p up U q).2],H)):=by
 have hl:=qg7 hq (by omega);have bc:=qqc (qae q) (by omega) (qah q);rw[qad]at bc;have e1:IntKind.i64.wrap ((bitL q:Int)+U)=bitL q+U:=by rw[wrap_i64]<;>omega
 refine qkz ?_;simp[qjs,h9];refine zq bc ?_;by_cases hov:(16384:Int)<bitL q+U
 ·cases up
  ·have l1:Li [1]:=by intro x hx;simp at hx;omega
   have v1:natV [1]=1:=rfl;have h2p:1<=2^p:=Nat.one_le_two_pow;have hpl:(qae (2^p)).length<=256:=qeh (B:=p+1) (Nat.pow_lt_pow_right (by omega) (by omega)) (by omega);have sc:=qxj [1] p (by simp) l1 (by omega);rw[v1,Nat.one_mul,cl_of hpl]at sc;have dc:=q2t (qae (2^p)) [1] hpl (by simp) (qah _) l1 (by rw[qad,v1];exact h2p);rw[qad,v1]at dc;have hl2:(qae (2^p-1)).length<=256:=qcg (Nat.sub_le _ _) hpl;have e2:IntKind.i64.wrap (16384-(p:Int))=16384-(p:Int):=by rw[wrap_i64]<;>omega
   have mc:=qxl false (qae (2^p-1)) (16384-p) hl2 (qah _) (by omega) (by omega);rw[qad]at mc;simp[h1,h2,h8,e1,hov,i64];refine qau (args:=[.ref (H.length+(G.length+2)) 1 0 1,.int .i64 p]) (vs:=[lim [1],.int .i64 p]) (H1:=H++X :: some ⟨3,[.agg [.bool false,.nil,.int .i64 0]],false,true⟩ :: (G++[some ⟨1,[.int .u32 1],true,false⟩])) rfl ?_ ?_ sc ?_
   ·simp
   ·refine Eq.trans (b:=frzVs _ _) rfl ?_;simp[frzVs,frzV,qid,lim,u32]
   simp;refine qau (args:=[lim (qae (2^p)),.ref (H.length+(G.length+3)) 1 0 1]) (vs:=[lim (qae (2^p)),lim [1]]) (H1:=H++X :: some ⟨3,[.agg [.bool false,.nil,.int .i64 0]],false,true⟩ :: (G++[some ⟨1,[.int .u32 1],true,false⟩,some ⟨1,[.int .u32 1],true,false⟩])) rfl ?_ ?_ dc ?_
   ·simp
   ·refine Eq.trans (b:=frzVs _ _) rfl ?_;simp[frzVs,frzV,qid,lim,u32]
   simp[h1,e2];refine zq mc ?_;simp[h6,cutT,hov,lim]
  ·simp[h2,h6,h8,e1,hov,i64,cutT,Dy.zero,lim]
 ·have mc:=qxl false (qae q) U hl (qah _) (by omega) (by omega);rw[qad]at mc;simp[h8,h9,e1,hov,i64];refine zq mc ?_;simp[h6,cutT,hov,lim]
theorem qs6 {H:Heap}{X:Option Blk}{E:Env}(p:Nat)(up lost:Bool)(U:Int)(q:Nat)(hp8:8<=p)(hp:p<=512)(hU1:-16384<=U)(hU2:U<=200000)(hq:bitL q<=4990)
 (h1:E 1=.int .i64 p) (h2:E 2=.bool up) (h6:E 6=.ptr (H.length+1) 0 0) (h8:E 8=.int .i64 U) (h9:E 9=lim (qae q)) (h10:E 10=.bool lost) :
 WC prog H.length (qjs 4 c_round_cut.body) E (H++[X,some ⟨3,[.agg [.bool false,.nil,.int .i64 0]],false,true⟩]) (fun x E1 H1=>(x=.normal\/x=.ret)/\∃v0,resV E1 H1 [.cell 6 true 3,.tmp 7]=some v0 /\
  fin false H.length H1 v0=some (.tup [(cutT p up U (q+if lost&&up then 1 else 0)).1.v,.int .i64 (cutT p up U (q+if lost&&up then 1 else 0)).2],H)):=by
 refine qvr (b:=qjs 5 c_round_cut.body) ?_;refine qa1 ?_;have hl:=qg7 hq (by omega);have hl3:(qae q).length<=160:=qeh (Nat.lt_of_lt_of_le (qbw q) (Nat.pow_le_pow_right (by omega) hq)) (by omega);by_cases hb:lost=true/\up=true
 ·obtain⟨rfl,rfl⟩:=hb;have l1:Li [1]:=by intro x hx;simp at hx;omega
  have v1:natV [1]=1:=rfl;have hl2:(qae (q+1)).length<=256:=by
   have:=qyz (X:=q) (Y:=1) (k:=160) hl3 (limbsOf_len.2 (Nat.lt_of_lt_of_le (by omega) (Nat.pow_le_pow_right (by omega:0<4294967296) (show 1<=160 by omega))));omega
  have hb1:bitL (q+1)<=5000:=by
   refine Nat.le_trans (qax (b:=bitL q+1) ?_) (by omega);have:=qbw q;rw[Nat.pow_succ];omega
  have ac:=qabb (qae q) [1] hl (by simp) (qah q) l1;rw[qad,v1,cl_of hl2,qaad hl2]at ac;simp[h2,h9,h10];refine qau (args:=[lim (qae q),.ref (H.length+2) 1 0 1]) (vs:=[lim (qae q),lim [1]]) (H1:=H++X :: some ⟨3,[.agg [.bool false,.nil,.int .i64 0]],false,true⟩ :: [some ⟨1,[.int .u32 1],true,false⟩]) rfl ?_ ?_ ac ?_
  ·simp
  ·refine Eq.trans (b:=frzVs _ _) rfl ?_;simp[frzVs,frzV,qid,lim,u32]
  simp;refine qjd (qz0 [some ⟨1,[.int .u32 1],true,false⟩] p true U (q+1) hp8 hp hU1 hU2 hb1 (by simp[h1]) (by simp[h2]) (by simp[h6]) (by simp[h8]) (by simp)) (fun x E1 H1 h=>by simpa using h)
 ·have hc:(if(lost&&up)=true then 1 else 0)=0:=by
   cases lost<;>cases up<;>simp at hb ⊢
  rw[hc,Nat.add_zero];have ct:=fun(E:Env) h1 h2 h6 h8 h9=>qz0 (H:=H) (X:=X) (E:=E) [] p up U q hp8 hp hU1 hU2 (by omega) h1 h2 h6 h8 h9
  cases up
  ·simp[h2];refine qjd (ct _ (by simp[h1]) (by simp[h2]) (by simp[h6]) (by simp[h8]) (by simp[h9])) (fun x E1 H1 h=>by simpa using h)
  ·cases lost
   ·simp[h2,h10];refine qjd (ct _ (by simp[h1]) (by simp[h2]) (by simp[h6]) (by simp[h8]) (by simp[h9])) (fun x E1 H1 h=>by simpa using h)
   ·simp at hb
def exV (m:List Nat)(e:Int)(more:Bool):V:=.agg [lim m,.int .i64 e,.bool more]
theorem q96 (m:List Nat)(e:Int)(more:Bool)(p:Nat)(up:Bool)(hm:m.length<=256)(lm:Li m)(hb:bitL (natV m)<=8192)(he1:-50000<=e)(he2:e<=50000)(hp8:8<=p)(hp:p<=512)
 (U:Int) (hU:U=max (e+bitL (natV m)-p) (-16384)) (hmore:more=true->p<bitL (natV m)) (q:Nat) (lost:Bool)
 (hA:U<=e->q=natV m*2^(e-U).toNat/\lost=more) (hB:e<U->q=natV m/2^(U-e).toNat/\lost=(more ||decide (natV m%2^(U-e).toNat≠0))) :
 CQ prog qr8 [exV m e more,.int .i64 p,.bool up] (.tup [(cutT p up U (q+if lost&&up then 1 else 0)).1.v,.int .i64 (cutT p up U (q+if lost&&up then 1 else 0)).2]):=by
 refine CQ_of rfl fun H=>?_
 have bc:=qqc m (by omega) lm;have⟨b,hbd⟩:∃b,b=bitL (natV m):=⟨_,rfl⟩
 rw[<-hbd]at bc hb hU hmore;have w1:IntKind.i64.wrap (e+(b:Int))=e+b:=by rw[wrap_i64]<;>omega
 have w2:IntKind.i64.wrap (e+(b:Int)-p)=e+b-p:=by rw[wrap_i64]<;>omega
 have hU':(if e+(b:Int)-p < -16384 then -16384 else e+(b:Int)-p)=U:=by rw[hU];split<;>omega
 refine qvr (b:=qjs 1 c_round_cut.body) ?_;refine qa1 ?_;simp[exV];refine qvr (b:=qjs 2 c_round_cut.body) ?_;refine qa1 ?_;simp;refine zq bc ?_;simp[i64,w1,w2,hU'];refine qvr (b:=qjs 3 c_round_cut.body) ?_;refine qa1 ?_;simp;refine qvr (b:=qjs 4 c_round_cut.body) ?_;refine qa1 ?_;by_cases hge:U<=e
 ·obtain⟨rfl,rfl⟩:=hA hge;have⟨j,hj⟩:∃j,j=(e-U).toNat:=⟨_,rfl⟩
  rw[<-hj];have w3:IntKind.i64.wrap (e-U)=(j:Int):=by rw[wrap_i64]<;>omega
  have hbq:bitL (natV m*2^j)<=4990:=by
   by_cases h0:natV m=0
   ·rw[h0,Nat.zero_mul,qaw];omega
   ·have:=qo8 (m:=natV m) (j:=j) (r:=0) h0 (Nat.two_pow_pos j);rw[Nat.add_zero]at this;rw[this,<-hbd];have:0<b:=by rw[hbd];exact(qar h0).2.2
    omega
  have hl:=qg7 hbq (by omega);have hj2:j<=65536:=by omega
  have sc:=qxj m j hm lm hj2;rw[cl_of hl]at sc;simp[hge,w3];refine zq sc ?_;simp;refine qjd (qs6 p up lost U _ hp8 hp (by omega) (by omega) hbq (by simp) (by simp) (by simp) (by simp) (by simp) (by simp)) (fun x E1 H1 h=>by simpa using h)
 ·have hlt:e<U:=by omega
  have hge':¬U<=e:=by omega
  obtain⟨rfl,rfl⟩:=hB hlt;have⟨j,hj⟩:∃j,j=(U-e).toNat:=⟨_,rfl⟩
  rw[<-hj];have w3:IntKind.i64.wrap (U-e)=(j:Int):=by rw[wrap_i64]<;>omega
  have hbq:bitL (natV m/2^j)<=4990:=by
   refine Nat.le_trans (qax (b:=p) ?_) (by omega);rw[Nat.div_lt_iff_lt_mul (Nat.two_pow_pos _),<-Nat.pow_add];exact Nat.lt_of_lt_of_le (qbw _) (Nat.pow_le_pow_right (by omega) (by omega))
  have sc:=qad6 m j hm lm (by omega);have⟨L,hL⟩:∃L:Bool,L=decide (natV m%2^j≠0):=⟨_,rfl⟩
  rw[<-hL]at sc ⊢;simp[hge',w3];refine zq sc ?_;cases more
  ·simp;refine qjd (qs6 p up L U _ hp8 hp (by omega) (by omega) hbq (by simp) (by simp) (by simp) (by simp) (by simp) (by simp)) (fun x E1 H1 h=>by simpa using h)
  ·simp;refine qjd (qs6 p up true U _ hp8 hp (by omega) (by omega) hbq (by simp) (by simp) (by simp) (by simp) (by simp) (by simp)) (fun x E1 H1 h=>by simpa using h)
end Go.Abs.W
namespace Go.Abs.W
theorem qahz {n:Nat}(h:n≠0):bitL (n/2^tz n)+tz n=bitL n:=(qei (tz_le h)).symm
theorem Dy.of_inR {neg:Bool}{n:Nat}{e:Int}(h1:bitL n<=4096)(h2:-16384<=e)(h3:bitL n+e<=16384):(Dy.of neg n e).inR=true:=by
 unfold Dy.of;by_cases h:n=0
 ·rw[if_pos h];rfl
 ·rw[if_neg h];have hb:=qahz h;have hn:n/2^tz n≠0:=by
   have:=(qmp h).1;omega
  have hp:=(qar hn).2.2;unfold Dy.inR;simp only[qad];generalize bitL (n/2^tz n)=B at *
  simp only[Bool.or_eq_true,Bool.and_eq_true,decide_eq_true_eq];right;omega
theorem Dy.chk_of {d:Dy}(h:d.inR=true):d.chk=d/\d.chkE=0:=by simp[Dy.chk,Dy.chkE,h]
theorem q2d {m:Nat}{e:Int}{more:Bool}{p:Nat}{out:Bool}:cutQ m e more p out<=2^p:=by
 have h1:m/2^cutK m e p<2^p:=by
  rw[Nat.div_lt_iff_lt_mul (Nat.two_pow_pos _),<-Nat.pow_add];refine Nat.lt_of_lt_of_le (qbw m) (Nat.pow_le_pow_right (by omega) ?_);unfold cutK;omega
 unfold cutQ;split<;>omega
theorem qz4 {m:Nat}{e:Int}{more:Bool}{p:Nat}{out:Bool}:bitL (cutQ m e more p out)<=p+1:=
 qax (Nat.lt_of_le_of_lt q2d (Nat.pow_lt_pow_right (by omega) (by omega)))
theorem qahp {m:Nat}{e:Int}{p:Nat}:-16384<=e+cutK m e p:=by unfold cutK;omega
theorem q0z {neg:Bool}{p:Nat}(h1:1<=p)(h2:p<=512):(Dy.of neg (2^p-1) (16384-p)).inR=true:=by
 have hb:bitL (2^p-1)<=p:=qax (by have:=Nat.two_pow_pos p;omega);exact Dy.of_inR (by omega) (by omega) (by omega)
theorem q4d {neg:Bool}{m:Nat}{e:Int}{more:Bool}{p:Nat}{up:Bool}(h2:p<=512)(h:¬(cutQ m e more p (neg != up)≠0/\(16384:Int)<bitL (cutQ m e more p (neg != up))+(e+cutK m e p)))(neg2:Bool) :
 (Dy.of neg2 (cutQ m e more p (neg != up)) (e+cutK m e p)).inR=true:=by
 by_cases h0:cutQ m e more p (neg != up)=0
 ·rw[h0];unfold Dy.of;rw[if_pos rfl];rfl
 ·have hb:=qz4 (m:=m) (e:=e) (more:=more) (p:=p) (out:=neg != up);exact Dy.of_inR (by omega) qahp (by
   rcases Int.lt_or_le 16384 (bitL (cutQ m e more p (neg != up))+(e+cutK m e p))with h3|h3
   ·exact absurd ⟨h0,h3⟩ h
   ·exact h3)
theorem Dy.zero_ok : Dy.zero.Ok:=Dy.Ok.of (by intro x hx;simp[Dy.zero]at hx) rfl
theorem qs8 {neg:Bool}{m:Nat}{e:Int}{more:Bool}{p:Nat}{up:Bool}(h1:1<=p)(h2:p<=512):(cutR neg m e more p up).1.Ok:=by
 unfold cutR;split
 ·split
  ·exact Dy.zero_ok
  ·exact Dy.of_ok (q0z h1 h2)
 ·rename_i h;exact Dy.of_ok (q4d h2 h neg)
theorem qz3 {M:Nat}{e:Int}{more:Bool}{p:Nat}{out:Bool}{U:Int}{q:Nat}{lost:Bool}(hp1:1<=p)(hp:p<=512)(hmore:more=true->p<bitL M)(h0:M=0->e<=16384)
 (hU:U=max (e+bitL M-p) (-16384))
 (hA:U<=e->q=M*2^(e-U).toNat/\lost=more) (hB:e<U->q=M/2^(U-e).toNat/\lost=(more ||decide (M%2^(U-e).toNat≠0))) :
 cutT p out U (q+if lost&&out then 1 else 0)=cutR false M e more p out:=by
 have ht:=q0z (neg:=false) hp1 hp;by_cases hge:U<=e
 ·obtain⟨rfl,rfl⟩:=hA hge;have hm:lost=false:=by
   cases h:lost with
   |false=>rfl
   |true=>have:=hmore h;omega
  subst hm;have⟨j,hj⟩:∃j,j=(e-U).toNat:=⟨_,rfl⟩
  rw[<-hj];have hK:cutK M e p=0:=by unfold cutK;omega
  have hQ:∀o,cutQ M e false p o=M:=by intro o;simp[cutQ,hK,Nat.mod_one]
  have hUe:U=e-j:=by omega
  have hof:=Dy.of_shift (neg:=false) (n:=M) (j:=j) (e:=e);simp only[Bool.false_and,Bool.false_eq_true,if_false,Nat.add_zero];unfold cutT cutR;rw[hQ,hK,hUe,hof];by_cases hM:M=0
  ·subst hM;have:=h0 rfl;have c1:¬(16384:Int)<bitL (0*2^j)+(e-j):=by rw[Nat.zero_mul,qaw];omega
   rw[if_neg c1,if_neg (by simp)];have hin:(Dy.of false 0 e).inR=true:=rfl;rw[(Dy.chk_of hin).1,(Dy.chk_of hin).2];simp[Dy.of]
  ·have hb:=qo8 (m:=M) (j:=j) (r:=0) hM (Nat.two_pow_pos j);rw[Nat.add_zero]at hb;rw[hb];by_cases hov:(16384:Int)<bitL M+e
   ·have c1:(16384:Int)<(bitL M+j:Nat)+(e-j):=by omega
    have c2:M≠0/\(16384:Int)<bitL M+(e+(0:Nat)):=⟨hM,by omega⟩
    rw[if_pos c1,if_pos c2,(Dy.chk_of ht).1,(Dy.chk_of ht).2];cases out<;>rfl
   ·have c1:¬(16384:Int)<(bitL M+j:Nat)+(e-j):=by omega
    have c2:¬(M≠0/\(16384:Int)<bitL M+(e+(0:Nat))):=by omega
    rw[if_neg c1,if_neg c2];have hin:(Dy.of false M e).inR=true:=Dy.of_inR (by omega) (by omega) (by omega);rw[(Dy.chk_of hin).1,(Dy.chk_of hin).2];simp
 ·have hlt:e<U:=by omega
  obtain⟨rfl,rfl⟩:=hB hlt;have hK:cutK M e p=(U-e).toNat:=by unfold cutK;omega
  have hQ:M/2^(U-e).toNat+(if((more ||decide (M%2^(U-e).toNat≠0))&&out)=true then 1 else 0)=cutQ M e more p out:=by
   unfold cutQ;rw[hK]
  rw[hQ];have hUe:e+(cutK M e p:Int)=U:=by omega
  have hfo:(false != out)=out:=by cases out<;>rfl
  unfold cutT cutR;rw[hfo,hUe];have hz:cutQ M e more p out=0->U<=16384:=by
   intro hq0;rcases Int.lt_or_le 16384 U with h|h
   ·exfalso;have hM:M≠0:=by
     intro hM;have:=h0 hM;rw[hM,qaw]at hU;omega
    have hk:cutK M e p<bitL M:=by omega
    have:0<M/2^cutK M e p:=by
     rw[Nat.div_pos_iff];refine⟨Nat.two_pow_pos _,Nat.le_trans (Nat.pow_le_pow_right (by omega) (show cutK M e p<=bitL M-1 by omega)) (qar hM).1⟩
    unfold cutQ at hq0;omega
   ·exact h
  by_cases hov:(16384:Int)<bitL (cutQ M e more p out)+U
  ·have hq:cutQ M e more p out≠0:=by
    intro hq0;have:=hz hq0;rw[hq0,qaw]at hov;omega
   have c2:cutQ M e more p out≠0/\(16384:Int)<bitL (cutQ M e more p out)+U:=⟨hq,hov⟩
   rw[if_pos hov,if_pos c2,(Dy.chk_of ht).1,(Dy.chk_of ht).2]
  ·rw[if_neg hov,if_neg (fun h=>hov h.2)];have hb:=qz4 (m:=M) (e:=e) (more:=more) (p:=p) (out:=out);have hin:(Dy.of false (cutQ M e more p out) U).inR=true:=Dy.of_inR (by omega) (by omega) (by omega);rw[(Dy.chk_of hin).1,(Dy.chk_of hin).2]
structure ExOk (m:List Nat)(e:Int)(more:Bool)(p:Nat):Prop where
 len:m.length<=256
 li:Li m
 bits:bitL (natV m)<=8192
 lo:-50000<=e
 hi:e<=50000
 p8:8<=p
 p512:p<=512
 more:more=true->p<bitL (natV m)
 zero:natV m=0->e<=16384
theorem qakv {m:List Nat}{e:Int}{more:Bool}{p:Nat}(up:Bool)(h:ExOk m e more p):CQ prog qr8 [exV m e more,.int .i64 p,.bool up] (.tup [(cutR false (natV m) e more p up).1.v,.int .i64 (cutR false (natV m) e more p up).2]):=by
 have⟨U,hU⟩:∃U,U=max (e+bitL (natV m)-p) (-16384):=⟨_,rfl⟩
 by_cases hge:U<=e
 ·have h1:=q96 m e more p up h.len h.li h.bits h.lo h.hi h.p8 h.p512 U hU h.more (natV m*2^(e-U).toNat) more (fun _=>⟨rfl,rfl⟩) (fun h=>by omega);rwa[qz3 (by have:=h.p8;omega) h.p512 h.more h.zero hU (fun _=>⟨rfl,rfl⟩) (fun h=>by omega)]at h1
 ·have h1:=q96 m e more p up h.len h.li h.bits h.lo h.hi h.p8 h.p512 U hU h.more (natV m/2^(U-e).toNat) (more ||decide (natV m%2^(U-e).toNat≠0)) (fun h=>by omega) (fun _=>⟨rfl,rfl⟩);rwa[qz3 (by have:=h.p8;omega) h.p512 h.more h.zero hU (fun h=>by omega) (fun _=>⟨rfl,rfl⟩)]at h1
theorem qae0 {n:Nat}{e:Int}(h:(Dy.of false n e).inR=true):(Dy.of false n e).opp=Dy.of true n e:=by
 have hv:(Dy.of false n e).valid=true:=by rw[Dy.of_valid];exact h
 unfold Dy.opp;rw[hv];by_cases h0:n=0
 ·subst h0;simp[Dy.of,Dy.zero]
 ·have hn:n/2^tz n≠0:=by
   have:=(qmp h0).1;omega
  simp[Dy.of,h0,qdh hn]
theorem q98 {neg:Bool}{m:Nat}{e:Int}{more:Bool}{p:Nat}{up:Bool}(h1:1<=p)(h2:p<=512) :
 cutR neg m e more p up=if(cutR false m e more p (up != neg)).2=0/\neg=true then((cutR false m e more p (up != neg)).1.opp,0)else cutR false m e more p (up != neg):=by
 have hx:(false != (up != neg))=(neg != up):=by cases up<;>cases neg<;>rfl
 cases neg with
 |false=>
  have:(up != false)=up:=by cases up<;>rfl
  simp[this]
 |true=>
  have h3:=q0z (neg:=false) h1 h2;unfold cutR;rw[hx];by_cases hc:cutQ m e more p (true != up)≠0/\(16384:Int)<bitL (cutQ m e more p (true != up))+(e+cutK m e p)
  ·simp only[if_pos hc];cases hb:(true != up)
   ·simp[qae0 h3]
   ·simp
  ·simp only[if_neg hc];have h4:=q4d h2 hc false;rw[qae0 h4];simp
theorem qyb {m:List Nat}{e:Int}{more:Bool}{p:Nat}(neg up:Bool)(h:ExOk m e more p):CQ prog qt1 [.bool neg,exV m e more,.int .i64 p,.bool up] (.tup [(cutR neg (natV m) e more p up).1.v,.int .i64 (cutR neg (natV m) e more p up).2]):=by
 have h1:=h.p8;have hs:=q98 (neg:=neg) (m:=natV m) (e:=e) (more:=more) (p:=p) (up:=up) (by omega) h.p512;have hc:=qakv (up != neg) h;have hok:=qs8 (neg:=false) (m:=natV m) (e:=e) (more:=more) (up:=up != neg) (show 1<=p by omega) h.p512;rw[hs];have⟨⟨d,er⟩,hr⟩:∃r,r=cutR false (natV m) e more p (up != neg):=⟨_,rfl⟩
 rw[<-hr]at hc hok ⊢;have nc:=qain d hok.w;refine qaf rfl fun H=>?_
 simp only[exV]at hc;simp[exV];refine zq hc ?_;by_cases he:er=0
 ·subst he;cases neg
  ·simp[lim]
  ·simp;refine zq nc ?_;simp[lim]
 ·simp[he,lim]
def dys (l:List Dy):V:=.sl (l.map Dy.v)
def precB (p:Int):Bool:=decide (8<=p)&&decide (p<=512)
def qfa (l:List Dy)(p:Int):Int:=if l.all Dy.valid then(if precB p then 0 else 2)else 1
set_option maxHeartbeats 1000000 in
theorem q36 (p:Int)(l:List Dy)(hl:l.length<=1000000)(w:∀d ∈ l,d.W):CQ prog qwf [.int .i64 p,dys l] (.int .i64 (qfa l p)):=by
 refine qaf rfl fun H=>?_
 have pc:=q5n p;rw[<-show precB p=(decide (8<=p)&&decide (p<=512)) from rfl]at pc;simp[dys];refine WK_up (fun i E H'=>H <+: H'/\E 0=.int .i64 p/\E 7=dys l/\E 8=.int .i64 l.length/\E 9=.int .i64 i/\(∀j x,j<i->l[j]?=some x->x.valid=true)) l.length ?_ ?_
 ·simp[dys]
 ·rintro i E H' hi ⟨hH,h0,h7,h8,h9,hp⟩;simp only[dys]at h7 ⊢;rcases Nat.lt_or_ge i l.length with hlt|hge
  ·have e2:IntKind.i64.wrap ((i:Int)+1)=((i+1:Nat):Int):=by rw[wrap_i64]<;>omega
   have wx:=w l[i] (List.getElem_mem hlt);have no:l[i].valid=false->qfa l p=1:=by
    intro h;have:l.all Dy.valid=false:=by
     rw[Bool.eq_false_iff];intro h';rw[List.all_eq_true.1 h' _ (List.getElem_mem hlt)]at h;cases h
    simp[qfa,this]
   have nx:l[i].valid=true->∀(j:Nat) (x:Dy),j<i+1->l[j]?=some x->x.valid=true:=by
    intro h j x hj hx;rcases Nat.lt_or_ge j i with hji|hji
    ·exact hp j x hji hx
    ·have:j=i:=by omega
     subst this;rw[List.getElem?_eq_getElem hlt]at hx;injection hx with hx;rw[<-hx];exact h
   have T:=qbe (qcx (l:=[some ⟨3,[l[i].v],false,true⟩]) hH);simp only[Dy.v]at T;have vc:=qfv l[i] wx.len wx.li;simp only[Dy.v]at vc;simp[qf4,h7,h8,h9,hlt];refine zq vc ?_;cases hv:l[i].valid
   ·rw[no hv];simp[T]
   ·simp[h0,h7,h8,h9,e2];exact⟨qcx hH,nx hv⟩
  ·have hin:i=l.length:=by omega
   subst hin;have e1:l.all Dy.valid=true:=by
    rw[List.all_eq_true];intro x hx;obtain⟨j,hj,rfl⟩:=List.getElem_of_mem hx;exact hp j _ hj (List.getElem?_eq_getElem _)
   simp[qf4,h0,h8,h9];refine zq pc ?_;cases hpb:precB p<;>simp[qfa,e1,hpb,qbe hH]
theorem qajr (d:Dy):CQ prog q5t [d.v] (exV d.m d.e false):=by
 refine qaf rfl fun H=>?_
 simp[exV,lim]
theorem Dy.Ok.ex {d:Dy}(h:d.Ok){p:Nat}(h8:8<=p)(h5:p<=512):ExOk d.m d.e false p:=by
 have:=h.len;have:=h.bits;have:=h.elo;have:=h.ehi;exact⟨h.len,h.li,by omega,by omega,by omega,h8,h5,by simp,by omega⟩
def qee (d:Dy)(p:Int)(up:Bool):Dy × Int:=if qfa [d] p=0 then cutR d.neg (natV d.m) d.e false p.toNat up else(Dy.zero,qfa [d] p)
def rMul (a b:Dy)(p:Int)(up:Bool):Dy × Int:=
 if qfa [a,b] p=0 then cutR (a.neg != b.neg) (natV a.m*natV b.m) (a.e+b.e) false p.toNat up else(Dy.zero,qfa [a,b] p)
def divK (a b:Dy)(p:Int)(c:Int):Nat:=(max 0 (p+c+bitL (natV b.m)-bitL (natV a.m))).toNat
def rDiv (a b:Dy)(p:Int)(up:Bool):Dy × Int:=
 if qfa [a,b] p=0 then
  if b.m=[]then(Dy.zero,10)else if a.m=[]then(Dy.zero,0)else
  cutR (a.neg != b.neg) (natV a.m*2^divK a b p 2/natV b.m) (a.e-b.e-divK a b p 2) (decide (natV a.m*2^divK a b p 2%natV b.m≠0)) p.toNat up
 else(Dy.zero,qfa [a,b] p)
theorem qg0 {l:List Dy}{p:Int}(h:qfa l p=0):(∀d ∈ l,d.valid=true)/\8<=p/\p<=512:=by
 unfold qfa precB at h;split at h
 ·rename_i ha;split at h
  ·rename_i hb;simp at hb;exact⟨by simpa using ha,hb.1,hb.2⟩
  ·omega
 ·omega
theorem qye (d:Dy)(p:Int)(up:Bool)(w:d.W):CQ prog qwe [d.v,.int .i64 p,.bool up] (.tup [(qee d p up).1.v,.int .i64 (qee d p up).2]):=by
 refine qaf rfl fun H=>?_
 have fc:=q36 p [d] (by simp) (by simpa using w);simp;refine qau (args:=[.int .i64 p,.ref (H.length+2) 3 0 1]) (vs:=[.int .i64 p,dys [d]]) (H1:=H++[some ⟨3,[d.v],false,true⟩,some ⟨3,[.agg [.bool false,.nil,.int .i64 0]],false,true⟩,some ⟨3,[d.v],true,false⟩]) rfl (by simp) (by refine Eq.trans (b:=frzVs _ _) rfl ?_;simp[frzVs,frzV,qid,dys]) fc ?_;by_cases hf:qfa [d] p=0
 ·obtain⟨hv,hp8,hp5⟩:=qg0 hf;have ok:=Dy.Ok.of w.li (hv d (by simp));obtain⟨P,rfl⟩:∃P:Nat,p=P:=⟨p.toNat,by omega⟩
  have sc:=qyb d.neg up (ok.ex (p:=P) (by omega) (by omega));simp[hf];refine qab rfl rfl rfl (qajr d) ?_;simp[exV];refine zq sc ?_;simp[qee,hf,lim]
 ·simp[hf,qee,Dy.zero,lim]
theorem q3n : natV []=0:=rfl
theorem q0h {a b:Nat}(_ha:a≠0)(_hb:b≠0):bitL (a*b)<=bitL a+bitL b:=by
 refine qax ?_;rw[Nat.pow_add];exact Nat.mul_lt_mul'' (qbw a) (qbw b)
theorem q73 (a b:Dy)(p:Int)(up:Bool)(wa:a.W)(wb:b.W):CQ prog q1r [a.v,b.v,.int .i64 p,.bool up] (.tup [(rMul a b p up).1.v,.int .i64 (rMul a b p up).2]):=by
 refine qaf rfl fun H=>?_
 have fc:=q36 p [a,b] (by simp) (by simp;exact⟨wa,wb⟩);simp;refine qau (args:=[.int .i64 p,.ref (H.length+3) 3 0 2]) (vs:=[.int .i64 p,dys [a,b]]) (H1:=H++[some ⟨3,[a.v],false,true⟩,some ⟨3,[b.v],false,true⟩,some ⟨3,[.agg [.bool false,.nil,.int .i64 0]],false,true⟩,some ⟨3,[a.v,b.v],true,false⟩]) rfl (by simp) (by refine Eq.trans (b:=frzVs _ _) rfl ?_;simp[frzVs,frzV,qid,dys]) fc ?_;by_cases hf:qfa [a,b] p=0
 ·obtain⟨hv,hp8,hp5⟩:=qg0 hf;have oa:=Dy.Ok.of wa.li (hv a (by simp));have ob:=Dy.Ok.of wb.li (hv b (by simp));obtain⟨P,rfl⟩:∃P:Nat,p=P:=⟨p.toNat,by omega⟩
  by_cases na:a.m=[]
  ·have h0:natV a.m=0:=by rw[na];rfl
   simp[hf,lim,na,rMul,q3n,qo3,Dy.zero]
  ·have na':¬(a.m.length:Int)=0:=by intro h;exact na (List.eq_nil_of_length_eq_zero (by omega))
   by_cases nb:b.m=[]
   ·have h0:natV b.m=0:=by rw[nb];rfl
    simp[hf,lim,na,nb,rMul,q3n,qo3,Dy.zero]
   ·have nb':¬(b.m.length:Int)=0:=by intro h;exact nb (List.eq_nil_of_length_eq_zero (by omega))
    have ba:=oa.bits;have bb:=ob.bits;have h1:=oa.elo;have h2:=oa.ehi;have h3:=ob.elo;have h4:=ob.ehi;have hbits:=q0h (qf1 oa.tr na) (qf1 ob.tr nb);have hcl:cl (natV a.m*natV b.m)=qae (natV a.m*natV b.m):=cl_of (qg7 hbits (by omega));have mc:=qaij a.m b.m oa.len ob.len oa.li ob.li;rw[hcl]at mc;have w1:IntKind.i64.wrap (a.e+b.e)=a.e+b.e:=by rw[wrap_i64]<;>omega
    have hne:natV a.m*natV b.m≠0:=Nat.mul_ne_zero (qf1 oa.tr na) (qf1 ob.tr nb);have hex:ExOk (qae (natV a.m*natV b.m)) (a.e+b.e) false P:=by
     refine⟨qg7 hbits (by omega),qah _,by rw[qad];omega,by omega,by omega,by omega,by omega,by simp,by rw[qad];intro h;exact absurd h hne⟩
    have sc:=qyb (a.neg != b.neg) up hex;rw[qad]at sc;simp[hf,lim,na,nb];refine zq mc ?_;simp[w1];refine zq sc ?_;simp[rMul,hf,lim]
 ·simp[hf,rMul,Dy.zero,lim]
theorem qyj {A B k c:Nat}(hA:A≠0)(hB:B≠0)(hc:0<c)(h:c+bitL B<=bitL A+k):c<=bitL (A*2^k/B):=by
 have h1:2^(c-1)<=A*2^k/B:=by
  rw[Nat.le_div_iff_mul_le (by omega)];have h2:=(qar hA).1;have h3:=(qar hA).2.2;have h4:=qbw B;have h5:2^(c-1)*B<=2^(c-1)*2^bitL B:=Nat.mul_le_mul_left _ (by omega);have h6:2^(bitL A-1)*2^k<=A*2^k:=Nat.mul_le_mul_right _ h2;rw[<-Nat.pow_add]at h5 h6;have h7:2^(c-1+bitL B)<=2^(bitL A-1+k):=Nat.pow_le_pow_right (by omega) (by omega);omega
 have h2:=qd1 h1;have h3:bitL (2^(c-1))=c:=by
  have:=qts (n:=2^(c-1)) (b:=c-1) (by have:=Nat.two_pow_pos (c-1);omega) (Nat.le_refl _) (Nat.pow_lt_pow_right (by omega) (by omega));omega
 omega
theorem qada {neg:Bool}{A B k p:Nat}{e:Int}{up:Bool}(hA:A≠0)(hB:B≠0)(hp:1<=p)(h:p+bitL B<=bitL A+k) :
 cutR neg (A*2^(k+1)/B) (e-(k+1:Nat)) (decide (A*2^(k+1)%B≠0)) p up=cutR neg (A*2^k/B) (e-k) (decide (A*2^k%B≠0)) p up:=by
 have hb:=qyj hA hB hp h;have⟨W,hW⟩:∃W,W=A*2^k:=⟨_,rfl⟩
 have hW2:A*2^(k+1)=2*W:=by rw[hW,Nat.pow_succ,Nat.mul_comm 2,Nat.mul_assoc]
 rw[hW2];rw[<-hW]at hb ⊢;have hBp:0<B:=by omega
 have e1:=Nat.div_add_mod W B;have hr:=Nat.mod_lt W hBp;have⟨q,hq⟩:∃q,q=W/B:=⟨_,rfl⟩
 have⟨r,hrr⟩:∃r,r=W%B:=⟨_,rfl⟩
 rw[<-hq,<-hrr]at e1;rw[<-hrr]at hr;have hrho:=Nat.div_add_mod (2*r) B;have hr3:=Nat.mod_lt (2*r) hBp;have⟨ρ,hρ⟩:∃ρ,ρ=2*r/B:=⟨_,rfl⟩
 have⟨r3,hr3'⟩:∃r3,r3=2*r%B:=⟨_,rfl⟩
 have hρ1:ρ<2:=by rw[hρ,Nat.div_lt_iff_lt_mul hBp];omega
 rw[<-hρ,<-hr3']at hrho;have eW:2*W=B*(2*q+ρ)+r3:=by rw[Nat.mul_add,Nat.mul_left_comm];omega
 have d1:2*W/B=q*2^1+ρ:=by
  rw[eW,Nat.mul_add_div hBp,Nat.div_eq_of_lt (by omega)];omega
 have d2:2*W%B=r3:=by rw[eW,Nat.mul_add_mod,Nat.mod_eq_of_lt (by omega)]
 rw[d1,d2,<-hq,<-hrr];rw[<-hq]at hb;have hq0:q≠0:=by intro h;rw[h,qaw]at hb;omega
 have he:e-((k+1:Nat):Int)=(e-k)-(1:Nat):=by omega
 rw[he];refine qs7 hq0 (by omega) ?_ (fun _=>hb);rw[Bool.eq_iff_iff];simp only[decide_eq_true_eq,Bool.or_eq_true];constructor
 ·intro h;rcases Nat.eq_zero_or_pos r3 with h0|h0
  ·right;intro hz;rw[hz,h0,Nat.mul_zero]at hrho;omega
  ·exact .inl (by omega)
 ·intro h h0;rw[h0,Nat.mul_zero]at hrho;have h4:B*ρ=0:=by omega
  have h5:ρ=0:=by
   rcases Nat.mul_eq_zero.1 h4 with h|h
   ·omega
   ·exact h
  omega
def qaja (a b:Dy)(p:Nat):Int:=if a.top-b.top<=2 then min (min a.e (a.top-p-8)) b.e else min a.e (a.top-p-8)
structure SumR (a b:Dy)(p:Nat)(M:Nat)(lost turned:Bool):Prop where
 bits:bitL M<=4200
 more:lost=true->p<bitL M
 zero:M=0->(a.sum b)=Dy.zero
 eq:∀up,cutR (a.neg != turned) M (qaja a b p) lost p up=cutR (a.sum b).neg (natV (a.sum b).m) (a.sum b).e false p up
def rAdd (a b:Dy)(p:Int)(up:Bool):Dy × Int:=
 if qfa [a,b] p=0 then cutR (a.sum b).neg (natV (a.sum b).m) (a.sum b).e false p.toNat up else(Dy.zero,qfa [a,b] p)
theorem q6v (a b:Dy)(p:Int)(wa:a.W)(wb:b.W):CQ prog qlb [a.v,b.v,.int .i64 p] (.tup [(rMul a b p false).1.v,.int .i64 (rMul a b p false).2]):=by
 refine qaf rfl fun H=>?_
 simp;refine qab rfl rfl rfl (q73 a b p false wa wb) ?_;simp[lim]
theorem qad8 (a b:Dy)(p:Int)(wa:a.W)(wb:b.W):CQ prog qog [a.v,b.v,.int .i64 p] (.tup [(rMul a b p true).1.v,.int .i64 (rMul a b p true).2]):=by
 refine qaf rfl fun H=>?_
 simp;refine qab rfl rfl rfl (q73 a b p true wa wb) ?_;simp[lim]
theorem qaim (d:Dy)(p:Int)(w:d.W):CQ prog qy5 [d.v,.int .i64 p] (.tup [(qee d p false).1.v,.int .i64 (qee d p false).2]):=by
 refine qaf rfl fun H=>?_
 simp;refine qab rfl rfl rfl (qye d p false w) ?_;simp[lim]
theorem Up_cq (d:Dy)(p:Int)(w:d.W):CQ prog q5u [d.v,.int .i64 p] (.tup [(qee d p true).1.v,.int .i64 (qee d p true).2]):=by
 refine qaf rfl fun H=>?_
 simp;refine qab rfl rfl rfl (qye d p true w) ?_;simp[lim]
end Go.Abs.W
