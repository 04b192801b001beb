/- Parts of the proof: FpDigs, FpB32, FpB32c, FpB32d, FpBlk, FpNadd, FpNsub, FpNmul, FpNshr, FpDivM, FpNdig, FpNdiv, FpNdiv2, FpNdiv3, FpNapi, FpIsq, FpRnd, FpNsqrt. -/
import Derived.Test.YtfioikimlnlcbaaGreatDoorFe
namespace Go.Abs.W
def digs : Nat->Nat->List Nat
 |0,_=>[]
 |k+1,n=>n%4294967296 :: digs k (n/4294967296)
theorem qme : ∀{k n:Nat},(digs k n).length=k
 |0,_=>rfl
 |k+1,n=>by simp[digs,qme]
theorem qpu : ∀{k n:Nat},Li (digs k n)
 |0,_=>by intro x hx;simp[digs]at hx
 |k+1,n=>by
  intro x hx;simp only[digs]at hx;rcases List.mem_cons.1 hx with rfl|hx
  ·exact Nat.mod_lt _ (by decide)
  ·exact qpu x hx
theorem qmd : ∀{k n:Nat},natV (digs k n)=n%4294967296^k
 |0,n=>by simp[digs,natV,Nat.mod_one]
 |k+1,n=>by
  simp only[digs,natV,qmd (k:=k)];rw[Nat.pow_succ,Nat.mul_comm (4294967296^k),Nat.mod_mul]
theorem q5b (x y b:Nat)(hx:x<4294967296)(hy:y<4294967296)(hb:b<=1) :
 (((~~~(BitVec.ofNat 32 x) &&& BitVec.ofNat 32 y) ||| (~~~(BitVec.ofNat 32 x ^^^ BitVec.ofNat 32 y) &&& (BitVec.ofNat 32 x-BitVec.ofNat 32 y-BitVec.ofNat 32 b))).toNat/2147483648)=if x<y+b then 1 else 0:=by
 have hm:∀v:BitVec 32,v.toNat/2147483648=v.msb.toNat:=by
  intro v;have:=v.isLt;rw[BitVec.msb_eq_decide];by_cases h:2^(32-1)<=v.toNat
  ·simp[h];simp at h;omega
  ·simp[h];simp at h;omega
 rw[hm];simp only[BitVec.msb_or,BitVec.msb_and,BitVec.msb_not,BitVec.msb_xor];have ex:(BitVec.ofNat 32 x).msb=decide (2147483648<=x):=by rw[BitVec.msb_eq_decide];simp;omega
 have ey:(BitVec.ofNat 32 y).msb=decide (2147483648<=y):=by rw[BitVec.msb_eq_decide];simp;omega
 have ed:(BitVec.ofNat 32 x-BitVec.ofNat 32 y-BitVec.ofNat 32 b).msb=decide (2147483648<=(x+(4294967296-y)+(4294967296-b))%4294967296):=by
  rw[BitVec.msb_eq_decide];simp only[BitVec.toNat_sub,BitVec.toNat_ofNat];have:x%2^32=x:=Nat.mod_eq_of_lt (by omega);have:y%2^32=y:=Nat.mod_eq_of_lt (by omega);have:b%2^32=b:=Nat.mod_eq_of_lt (by omega)
  congr 1
  simp only[*];apply propext;omega
 rw[ex,ey,ed];by_cases h1:2147483648<=x<;>by_cases h2:2147483648<=y<;>simp[h1,h2]<;>(try split)<;>(try simp)<;>omega
theorem qah6 (k m n:Nat)(h:m<2^n):(2^k*(2*m+1)) &&& (2^k*(2*(2^n-(m+1))+1))=2^k:=by
 have h0:m &&& (2^n-(m+1))=0:=by
  apply Nat.eq_of_testBit_eq;intro i;rw[Nat.testBit_and,Nat.testBit_two_pow_sub_succ h];cases m.testBit i<;>simp
 have h1:(2*m+1) &&& (2*(2^n-(m+1))+1)=1:=by
  apply Nat.eq_of_testBit_eq;intro i;cases i with
  |zero=>rw[Nat.testBit_and];simp[Nat.testBit_zero]
  |succ i=>
   rw[Nat.testBit_and,Nat.testBit_succ,Nat.testBit_succ,Nat.testBit_succ];have e1:(2*m+1)/2=m:=by omega
   have e2:(2*(2^n-(m+1))+1)/2=2^n-(m+1):=by omega
   have:=congrArg (fun t=>t.testBit i) h0;simp only[Nat.testBit_and,Nat.zero_testBit]at this;rw[e1,e2,this];simp
 rw[Nat.mul_comm (2^k) (2*m+1),Nat.mul_comm (2^k),<-Nat.shiftLeft_eq,<-Nat.shiftLeft_eq,<-Nat.shiftLeft_and_distrib,h1,Nat.shiftLeft_eq,Nat.one_mul]
def deB : List Nat:=[0,1,28,2,29,14,24,3,30,22,20,15,25,17,4,8,31,27,13,23,21,19,16,7,26,12,18,6,11,5,10,9]
theorem qakt : ∀k,k<32->deB[2^k*125613361%4294967296/134217728]?=some k:=by decide +kernel
theorem qafi (v w:BitVec 32):bitsI .and .u32 (v.toNat:Int) (w.toNat:Int)=some ((v &&& w).toNat:Int):=by
 rw[qnz _ _ v.isLt w.isLt,BitVec.toNat_and]
theorem bI_or (v w:BitVec 32):bitsI .or .u32 (v.toNat:Int) (w.toNat:Int)=some ((v |||w).toNat:Int):=by
 show some (IntKind.u32.wrap ((BitVec.ofInt 32 (v.toNat:Int) |||BitVec.ofInt 32 (w.toNat:Int)).toNat:Int))=_;have e:∀u:BitVec 32,BitVec.ofInt 32 (u.toNat:Int)=u:=fun u=>by simp
 rw[e,e,qaq _ (v |||w).isLt]
theorem qafh (v w:BitVec 32):bitsI .xor .u32 (v.toNat:Int) (w.toNat:Int)=some ((v ^^^ w).toNat:Int):=by
 show some (IntKind.u32.wrap ((BitVec.ofInt 32 (v.toNat:Int) ^^^ BitVec.ofInt 32 (w.toNat:Int)).toNat:Int))=_;have e:∀u:BitVec 32,BitVec.ofInt 32 (u.toNat:Int)=u:=fun u=>by simp
 rw[e,e,qaq _ (v ^^^ w).isLt]
theorem qaee (v:BitVec 32):bitsI .xor .u32 (if IntKind.u32.signed=true then -1 else IntKind.u32.max) (v.toNat:Int)=some ((~~~v).toNat:Int):=by
 have h:=qafh (BitVec.allOnes 32) v;show bitsI .xor .u32 4294967295 (v.toNat:Int)=_;have e:((BitVec.allOnes 32).toNat:Int)=4294967295:=by decide
 rw[e]at h;rw[h,BitVec.allOnes_xor]
theorem qaed (v w:BitVec 32):IntKind.u32.wrap ((v.toNat:Int)-(w.toNat:Int))=((v-w).toNat:Int):=by
 have hv:=v.isLt;have hw:=w.isLt;simp only[IntKind.wrap,IntKind.bits,IntKind.signed,BitVec.toNat_sub];simp;omega
theorem qxp (x y c:Nat)(hx:x<4294967296)(hy:y<4294967296)(hc:c<=1):CQ prog qpn [.int .u32 x,.int .u32 y,.int .u32 c] (.tup [.int .u32 ((x+y+c)%4294967296:Nat),.int .u32 ((x+y+c)/4294967296:Nat)]):=by
 refine qaf rfl fun H=>?_
 have e1:IntKind.u64.wrap (x:Int)=x:=qag _ (by omega);have e2:IntKind.u64.wrap (y:Int)=y:=qag _ (by omega);have e3:IntKind.u64.wrap (c:Int)=c:=qag _ (by omega);have⟨T,hT⟩:∃T,T=x+y+c:=⟨_,rfl⟩
 have e4:IntKind.u64.wrap ((x:Int)+y)=(x:Int)+y:=by rw[qbd]<;>omega
 have e5:IntKind.u64.wrap ((x:Int)+y+c)=T:=by rw[qbd]<;>omega
 have e6:IntKind.u32.wrap (T:Int)=((T%4294967296:Nat):Int):=qa7 T;have e7:qa3 .shr .u64 (T:Int) 32=some (.int .u64 ((T/4294967296:Nat):Int)):=shr64 T 32 (by omega);rw[<-hT];have⟨C,hC⟩:∃C,C=T/4294967296:=⟨_,rfl⟩
 have e8:IntKind.u32.wrap (C:Int)=C:=qaq C (by omega);rw[<-hC]at e7 ⊢;simp[e1,e2,e3,e4,e5,e6,e7,e8]
theorem q4z (x y c:Nat)(hx:x<4294967296)(hy:y<4294967296)(hc:c<=1):CQ prog qpl [.int .u32 x,.int .u32 y,.int .u32 c] (.tup [.int .u32 ((x+8589934592-y-c)%4294967296:Nat),.int .u32 ((if x<y+c then 1 else 0:Nat):Int)]):=by
 refine qaf rfl fun H=>?_
 have⟨v,hv⟩:∃v,v=BitVec.ofNat 32 x:=⟨_,rfl⟩
 have⟨w,hw⟩:∃w,w=BitVec.ofNat 32 y:=⟨_,rfl⟩
 have⟨u,hu⟩:∃u,u=BitVec.ofNat 32 c:=⟨_,rfl⟩
 have nv:v.toNat=x:=by rw[hv];simp;omega
 have nw:w.toNat=y:=by rw[hw];simp;omega
 have nu:u.toNat=c:=by rw[hu];simp;omega
 have key:=q5b x y c hx hy hc;rw[<-hv,<-hw,<-hu]at key;have k2:(v-w-u).toNat=(x+8589934592-y-c)%4294967296:=by
  simp only[BitVec.toNat_sub,nv,nw,nu];omega
 have k3:(v.toNat+8589934592-w.toNat-u.toNat)%4294967296=(v-w-u).toNat:=by rw[k2,nv,nw,nu]
 have⟨r,hr⟩:∃r,r=((~~~v &&& w) ||| (~~~(v ^^^ w) &&& (v-w-u))):=⟨_,rfl⟩
 rw[<-hr]at key;have k4:qa3 .shr .u32 (r.toNat:Int) 31=some (.int .u32 ((r.toNat/2147483648:Nat):Int)):=shr32 r.toNat 31 (by omega);rw[<-key,k2.symm,<-nv,<-nw,<-nu];have s1:=qaed v w;have s2:=qaed (v-w) u;have n1:=qaee v;have n2:=qaee (v ^^^ w);have a1:=qafi (~~~v) w;have a2:=qafi (~~~(v ^^^ w)) (v-w-u);have a3:=qafh v w;have a4:=bI_or (~~~v &&& w) (~~~(v ^^^ w) &&& (v-w-u));rw[<-hr]at a4;generalize (v-w-u).toNat=t1 at *
 generalize (v-w).toNat=t2 at *
 generalize (~~~(v ^^^ w)).toNat=t3 at *
 generalize (v ^^^ w).toNat=t4 at *
 generalize (~~~v).toNat=t5 at *
 generalize (~~~v &&& w).toNat=t6 at *
 generalize (~~~(v ^^^ w) &&& (v-w-u)).toNat=t7 at *
 generalize r.toNat=t8 at *
 clear hr hv hw hu;generalize v.toNat=t9 at *
 generalize w.toNat=t10 at *
 generalize u.toNat=t11 at *
 simp[s1,s2,n1,n2,a1,a2,a3,a4,k4]
theorem qad9 (hi lo y:Nat)(h1:hi<y)(h2:lo<4294967296)(h3:y<4294967296):CQ prog qpm [.int .u32 hi,.int .u32 lo,.int .u32 y] (.tup [.int .u32 ((hi*4294967296+lo)/y:Nat),.int .u32 ((hi*4294967296+lo)%y:Nat)]):=by
 refine qaf rfl fun H=>?_
 have e1:IntKind.u64.wrap (hi:Int)=hi:=qag _ (by omega);have e2:IntKind.u64.wrap (y:Int)=y:=qag _ (by omega);have e3:IntKind.u64.wrap (lo:Int)=lo:=qag _ (by omega);have⟨P,hP⟩:∃P,P=hi*4294967296:=⟨_,rfl⟩
 have e4:qa3 .shl .u64 (hi:Int) 32=some (.int .u64 (P:Int)):=by rw[show(32:Int)=((32:Nat):Int) from rfl,shl64 _ _ (by omega) (by omega),hP]
 have e5:bitsI .or .u64 (P:Int) (lo:Int)=some ((P+lo:Nat):Int):=by
  have:=qdd hi 32 lo (by omega) (by omega) (by omega);rw[hP];exact this
 rw[<-hP];have⟨T,hT⟩:∃T,T=P+lo:=⟨_,rfl⟩
 rw[<-hT]at e5 ⊢;have hq:T/y<4294967296:=by
  rw[Nat.div_lt_iff_lt_mul (by omega)];have:(hi+1)*4294967296<=y*4294967296:=Nat.mul_le_mul_right _ h1;omega
 have hr:=Nat.mod_lt T (show 0<y by omega);have⟨q,hqq⟩:∃q,q=T/y:=⟨_,rfl⟩
 have⟨r,hrr⟩:∃r,r=T%y:=⟨_,rfl⟩
 have e6:((T:Int).tdiv y)=q:=by rw[hqq];rfl
 have e7:((T:Int).tmod y)=r:=by rw[hrr];rfl
 rw[<-hqq]at hq ⊢;rw[<-hrr]at hr ⊢;have e8:IntKind.u64.wrap (q:Int)=q:=qag _ (by omega);have e9:IntKind.u32.wrap (q:Int)=q:=qaq _ (by omega);have e10:IntKind.u32.wrap (r:Int)=r:=qaq _ (by omega);have c1:¬((y:Int)=0):=by omega
 have c2:¬((y:Int)<=hi):=by omega
 have c3:¬(y=0):=by omega
 have c4:¬(y<=hi):=by omega
 simp[e1,e2,e3,e4,e5,e6,e7,e8,e9,e10,c2,c3]
theorem qqb (x:Nat)(hx:x<4294967296):CQ prog qh5 [.int .u32 x] (.int .i64 (32-bitL x)):=by
 refine qaf rfl fun H=>?_
 simp;refine qab rfl rfl rfl (q42 x hx) ?_;have h:=qtr hx;have e:IntKind.i64.wrap (32-(bitL x:Int))=32-(bitL x:Int):=by rw[wrap_i64]<;>omega
 simp[i64,e]
theorem q1g (x:Nat)(h0:x≠0)(hx:x<4294967296):x &&& (4294967296-x)=2^tz x/\tz x<32:=by
 obtain⟨h1,_,h3⟩:=qmp h0;have hle:=tz_le h0;have⟨k,hk⟩:∃k,k=tz x:=⟨_,rfl⟩
 rw[<-hk]at h1 h3 hle ⊢;have hk32:k<32:=by
  rcases Nat.lt_or_ge k 32 with h|h
  ·exact h
  ·have:2^32<=2^k:=Nat.pow_le_pow_right (by omega) h;omega
 refine⟨?_,hk32⟩;have⟨m,hm⟩:∃m,x/2^k=2*m+1:=⟨x/2^k/2,by omega⟩
 have e1:x=2^k*(2*m+1):=by
  have:=Nat.div_add_mod x (2^k);rw[h3,hm]at this;omega
 have hp:4294967296=2^k*(2*2^(31-k)):=by
  rw[Nat.mul_left_comm,<-Nat.pow_add,show k+(31-k)=31 by omega]
 have hmn:m<2^(31-k):=by
  have:2^k*(2*m+1)<2^k*(2*2^(31-k)):=by rw[<-e1,<-hp];exact hx
  have:=Nat.lt_of_mul_lt_mul_left this;omega
 have e2:4294967296-x=2^k*(2*(2^(31-k)-(m+1))+1):=by
  rw[e1,hp,<-Nat.mul_sub]
  congr 1
  omega
 rw[e2,e1];exact qah6 k m (31-k) hmn
def deV : List V:=deB.map fun n:Nat=>V.int .u8 (n:Int)
theorem qaks (k:Nat)(h:k<32):(deV.drop (2^k*125613361%4294967296/134217728))[0]?=some (V.int .u8 k):=by
 rw[List.getElem?_drop,Nat.add_zero,deV,List.getElem?_map,qakt k h];rfl
theorem qpa (x:Nat)(h0:x≠0)(hx:x<4294967296):CQ prog qha [.int .u32 x] (.int .i64 (tz x)):=by
 refine qaf rfl fun H=>?_
 obtain⟨h1,h2⟩:=q1g x h0 hx;have⟨k,hk⟩:∃k,k=tz x:=⟨_,rfl⟩
 rw[<-hk]at h1 h2 ⊢;have c0:¬((x:Int)=0):=by omega
 have e1:IntKind.u32.wrap (-(x:Int))=((4294967296-x:Nat):Int):=by
  simp only[IntKind.wrap,IntKind.bits,IntKind.signed];simp;omega
 have e2:bitsI .and .u32 (x:Int) ((4294967296-x:Nat):Int)=some ((2^k:Nat):Int):=by rw[qnz _ _ hx (by omega),h1]
 have⟨P,hP⟩:∃P,P=2^k:=⟨_,rfl⟩
 have⟨y,hy⟩:∃y,y=4294967296-x:=⟨_,rfl⟩
 rw[<-hP,<-hy]at e2;rw[<-hy]at e1;have e3:IntKind.u32.wrap ((P:Int)*125613361)=((P*125613361%4294967296:Nat):Int):=by
  have:=qa7 (P*125613361);rw[<-this];congr 1
 have k1:=qaks k h2;rw[<-hP]at k1;have⟨Q,hQ⟩:∃Q,Q=P*125613361%4294967296:=⟨_,rfl⟩
 rw[<-hQ]at e3 k1;have e4:qa3 .shr .u32 (Q:Int) 27=some (.int .u32 ((Q/134217728:Nat):Int)):=shr32 Q 27 (by omega);have⟨R,hR⟩:∃R,R=Q/134217728:=⟨_,rfl⟩
 rw[<-hR]at e4 k1;have hR32:R<32:=by omega
 have e5:IntKind.i64.wrap (k:Int)=k:=by rw[wrap_i64]<;>omega
 rw[List.getElem?_drop,Nat.add_zero]at k1;obtain⟨kl,k1⟩:=List.getElem?_eq_some_iff.1 k1;simp only[deV,deB,List.map_cons,List.map_nil]at k1;simp[h0,e1,e2,e3,e4,hR32];have k2:=k1;simp at k2;rw[k2];simp[e5]
theorem qw6 {l:List Nat}{i v:Nat}(h:i<l.length):dig (l.set i v) i=v:=by simp[dig,h]
theorem q6g {l:List Nat}{i j v:Nat}(h:i≠j):dig (l.set i v) j=dig l j:=by simp[dig,List.getElem?_set_ne h]
theorem q3m : ∀{l:List Nat} {i v:Nat},i<l.length->natV (l.set i v)+4294967296^i*dig l i=natV l+4294967296^i*v
 | [],i,v,h=>by simp at h
 |x :: l,0,v,h=>by simp[natV,dig];omega
 |x :: l,i+1,v,h=>by
  have:=q3m (l:=l) (i:=i) (v:=v) (by simpa using h);have e:dig (x :: l) (i+1)=dig l i:=by simp[dig]
  simp only[List.set_cons_succ,natV];rw[e,Nat.pow_succ,Nat.mul_comm (4294967296^i) 4294967296,Nat.mul_assoc,Nat.mul_assoc];omega
theorem qg5 {l:List Nat}{i n v:Nat}(h:n<=i):(l.set i v).take n=l.take n:=by
 rw[List.take_set,List.set_eq_of_length_le (by simp;omega)]
theorem qb1 {l:List Nat}{i v:Nat}(h:i<l.length):natV ((l.set i v).take (i+1))=natV (l.take i)+4294967296^i*v:=by
 rw[qal,qg5 (Nat.le_refl _),qw6 h]
theorem qqt {l:List Nat}{i n v:Nat}(h:i<l.length)(hn:i<n):natV ((l.set i v).take n)+4294967296^i*dig l i=natV (l.take n)+4294967296^i*v:=by
 rw[List.take_set];have h2:i<(l.take n).length:=by simp;omega
 have:=q3m (v:=v) h2;rwa[show dig (l.take n) i=dig l i by simp[dig,hn]]at this
theorem Li.set {l:List Nat}{i v:Nat}(h:Li l)(hv:v<4294967296):Li (l.set i v):=by
 intro y hy;rcases List.mem_or_eq_of_mem_set hy with h1|h1
 ·exact h y h1
 ·rw[h1];exact hv
theorem ql9 {n:Nat}:Li (List.replicate n 0):=by
 intro y hy;rw[(List.mem_replicate.1 hy).2];omega
theorem qpt {l:List Nat}{k n:Nat}(hl:Li l)(hk:l.length=k)(h:natV l=n):l=digs k n:=by
 refine qh9 hl qpu (by rw[qme,hk]) ?_;rw[qmd,Nat.mod_eq_of_lt,h];rw[<-h,<-hk];exact qan hl
theorem q3q (l:List Nat)(i:Nat)(v:Nat):(l.map u32).set i (.int .u32 (v:Int))=(l.set i v).map u32:=by
 rw[List.map_set];rfl
theorem qk3 (n:Nat):List.replicate n (V.int .u32 0)=(List.replicate n 0).map u32:=by simp[u32]
theorem q24 {X Y N P x y c:Nat}(h:N+P*c=X+Y):N+P*((x+y+c)%4294967296)+P*4294967296*((x+y+c)/4294967296)=(X+P*x)+(Y+P*y):=by
 have:P*((x+y+c)%4294967296)+P*4294967296*((x+y+c)/4294967296)=P*x+P*y+P*c:=by
  rw[Nat.mul_assoc,<-Nat.mul_add,Nat.mod_add_div,Nat.mul_add,Nat.mul_add]
 omega
theorem qadd {X Y N P x y c:Nat}(hx:x<4294967296)(hy:y<4294967296)(hc:c<=1)(h:N+Y=X+P*c) :
 N+P*((x+8589934592-y-c)%4294967296)+(Y+P*y)=(X+P*x)+P*4294967296*(if x<y+c then 1 else 0):=by
 have:P*((x+8589934592-y-c)%4294967296)+P*y+P*c=P*x+P*4294967296*(if x<y+c then 1 else 0):=by
  rw[Nat.mul_assoc,<-Nat.mul_add,<-Nat.mul_add,<-Nat.mul_add]
  congr 1
  split<;>omega
 omega
set_option maxHeartbeats 4000000
theorem q4v {n0:Nat}{Q:AX->Env->Heap->Prop}{K:List Fr}{E:Env}{H:Heap}(x y:List Nat)(hyx:y.length<=x.length)(hx:x.length<=1000000)(lx:Li x)(ly:Li y)
 (h0:E 0=lim x) (h1:E 1=lim y) (h5:E 5=.ref H.length 1 0 (x.length+1)) (h6:E 6=.int .u32 0) (h21:E 21=lim x) (h22:E 22=.int .i64 x.length) (h23:E 23=.int .i64 0)
 (hQ:∀E1 l c,l.length=x.length+1->Li l->c<=1->E1 0=lim x->E1 5=.ref H.length 1 0 (x.length+1)->E1 6=.int .u32 (c:Nat)->natV (l.take x.length)+4294967296^x.length*c=natV x+natV y ->
  WP prog n0 Q K (.exit 0) E1 (H++[some ⟨1,l.map u32,true,true⟩])) :
 WK prog n0 (.loop qct) K E (H++[some ⟨1,List.replicate (x.length+1) (.int .u32 0),true,true⟩]) Q:=by
 refine WK_up (fun i E H'=>∃l c,H'=H++[some ⟨1,l.map u32,true,true⟩]/\l.length=x.length+1/\Li l/\c<=1/\E 0=lim x/\E 1=lim y/\E 5=.ref H.length 1 0 (x.length+1)/\E 6=.int .u32 (c:Nat)/\E 21=lim x/\E 22=.int .i64 x.length/\E 23=.int .i64 i /\
  natV (l.take i)+4294967296^i*c=natV (x.take i)+natV (y.take i)) x.length ?_ ?_
 ·exact⟨List.replicate (x.length+1) 0,0,by rw[qk3],by simp,ql9,by omega,h0,h1,h5,h6,h21,h22,h23,by simp[natV]⟩
 ·clear h0 h1 h5 h6 h21 h22 h23;rintro i E H' hi ⟨l,c,rfl,hl,ll,hc,h0,h1,h5,h6,h21,h22,h23,hv⟩;rcases Nat.lt_or_ge i x.length with hlt|hge
  ·simp only[lim]at h0 h1 h21;have g1:IntKind.i64.wrap ((i:Int)+1)=((i+1:Nat):Int):=by rw[wrap_i64]<;>omega
   have dx:=qch lx i;have dy:=qch ly i;have hlt1:i<l.length:=by omega
   have hlt2:i<x.length+1:=by omega
   have st:=q24 (x:=dig x i) (y:=dig y i) hv;rw[<-qal,<-qal,<-Nat.pow_succ,<-qb1 hlt1]at st;have go:i<x.length/\∃l2 c2,H++[some ⟨1,(l.set i ((dig x i+dig y i+c)%4294967296)).map u32,true,true⟩]=H++[some ⟨1,l2.map u32,true,true⟩]/\l2.length=x.length+1/\Li l2/\c2<=1/\(dig x i+dig y i+c)/4294967296=c2/\natV (l2.take (i+1))+4294967296^(i+1)*c2=natV (x.take (i+1))+natV (y.take (i+1)):=
    ⟨hlt,_,_,rfl,by simp[hl],Li.set ll (by omega),by omega,rfl,st⟩
   rw[qak hlt]at dx go;by_cases hy:i<y.length
   ·rw[qak hy]at dy go;simp[qct,h1,h5,h6,h21,h22,h23,hlt,hy,u32,lim];refine qab rfl rfl rfl (qxp x[i] y[i] c dx dy hc) ?_;obtain⟨_,l2,c2,e1,e2,e3,e4,e5,e6⟩:=go;simp[h0,h1,h5,h21,h22,h23,g1,hlt2,hl,u32];refine⟨l2,?_,e2,e3,c2,e4,by omega,e6⟩;simpa[u32]using e1
   ·rw[qcy (by omega)]at dy go;simp[qct,h1,h5,h6,h21,h22,h23,hlt,hy,u32,lim];refine qab rfl rfl rfl (qxp x[i] 0 c dx dy hc) ?_;obtain⟨_,l2,c2,e1,e2,e3,e4,e5,e6⟩:=go;simp[h0,h1,h5,h21,h22,h23,g1,hlt2,hl,u32];refine⟨l2,?_,e2,e3,c2,e4,by omega,e6⟩;simpa[u32]using e1
  ·have hin:i=x.length:=by omega
   subst hin;rw[qat (l:=x) (Nat.le_refl _),qat (l:=y) hyx]at hv;simp[qct,h22,h23];exact hQ _ l c hl ll hc (by simp[h0]) (by simp[h5]) (by simp[h6]) hv
theorem qala (a b:List Nat)(ha:a.length<=1000000)(hb:b.length<=1000000)(la:Li a)(lb:Li b):CQ prog qwk [lim a,lim b] (lim (digs (max a.length b.length+1) (natV a+natV b))):=by
 refine qaf rfl fun H=>?_
 have key:∀x y:List Nat,x.length<=1000000->(∀(E1:Env) (l:List Nat) (c:Nat),l.length=x.length+1->Li l->c<=1->natV (l.take x.length)+4294967296^x.length*c=natV x+natV y->l.set x.length c=digs (x.length+1) (natV x+natV y)):=by
  intro x y hx E1 l c hl ll hc hv;refine qpt (Li.set ll (by omega)) (by simp[hl]) ?_;have:=qb1 (l:=l) (i:=x.length) (v:=c) (by omega);rw[List.take_of_length_le (by simp;omega)]at this;omega
 rcases Nat.lt_or_ge a.length b.length with hsw|hsw
 ·rw[Nat.max_eq_right (by omega),Nat.add_comm (natV a)];have f1:IntKind.i64.wrap ((b.length:Int)+1)=(b.length:Int)+1:=by rw[wrap_i64]<;>omega
  have f2:(0:Int)<=(b.length:Int)+1:=by omega
  have f3:((b.length:Int)+1).toNat=b.length+1:=by omega
  have f4:(b.length+1)*4<=281474976710656/\b.length+1<=9223372036854775807:=by omega
  simp[lim,hsw,f1,f2,f3,f4];refine q4v b a (by omega) hb lb la (by simp[lim]) (by simp[lim]) (by simp) (by simp) (by simp[lim]) (by simp) (by simp) ?_;intro E1 l c hl ll hc h0 h5 h6 hv;rw[<-key b a hb E1 l c hl ll hc hv];simp only[lim]at h0;have hlt:b.length<l.length:=by omega
  simp[h0,h5,h6,hl,u32];exact List.take_of_length_le (by simp[hl])
 ·rw[Nat.max_eq_left hsw];have hsw':¬(a.length<b.length):=by omega
  have f1:IntKind.i64.wrap ((a.length:Int)+1)=(a.length:Int)+1:=by rw[wrap_i64]<;>omega
  have f2:(0:Int)<=(a.length:Int)+1:=by omega
  have f3:((a.length:Int)+1).toNat=a.length+1:=by omega
  have f4:(a.length+1)*4<=281474976710656/\a.length+1<=9223372036854775807:=by omega
  simp[lim,hsw',f1,f2,f3,f4];refine q4v a b (by omega) ha la lb (by simp[lim]) (by simp[lim]) (by simp) (by simp) (by simp[lim]) (by simp) (by simp) ?_;intro E1 l c hl ll hc h0 h5 h6 hv;rw[<-key a b ha E1 l c hl ll hc hv];simp only[lim]at h0;have hlt:a.length<l.length:=by omega
  simp[h0,h5,h6,hl,u32];exact List.take_of_length_le (by simp[hl])
end Go.Abs.W
namespace Go.Abs.W
set_option maxHeartbeats 2000000 in
theorem qajb (a b:List Nat)(ha:a.length<=1000000)(hb:b.length<=1000000)(la:Li a)(lb:Li b)(hle:natV b<=natV a):CQ prog qwg [lim a,lim b] (lim (digs (qae (natV a)).length (natV a-natV b))):=by
 refine qaf rfl fun H=>?_
 simp;refine qab rfl rfl rfl (qcd a (by omega)) ?_;simp;refine qab rfl rfl rfl (qcd b (by omega)) ?_;have hxl:=qg4 a;have hyl:=qg4 b;rw[qao la]at hxl ⊢;rw[qao lb]at hyl ⊢;have lx:=qah (natV a);have ly:=qah (natV b);have vx:=qad (natV a);have vy:=qad (natV b);have hyx:(qae (natV b)).length<=(qae (natV a)).length:=qcg hle (Nat.le_refl _);generalize qae (natV a)=x at *
 generalize qae (natV b)=y at *
 have f4:x.length*4<=281474976710656/\x.length<=9223372036854775807:=by omega
 simp[lim,f4];refine WK_up (fun i E H'=>∃l c,H'=H++[some ⟨1,l.map u32,true,true⟩]/\l.length=x.length/\Li l/\c<=1/\E 1=lim y/\E 5=.ref H.length 1 0 x.length/\E 6=.int .u32 (c:Nat)/\E 17=lim x/\E 18=.int .i64 x.length/\E 19=.int .i64 i /\
  natV (l.take i)+natV (y.take i)=natV (x.take i)+4294967296^i*c) x.length ?_ ?_
 ·exact⟨List.replicate x.length 0,0,by rw[qk3],by simp,ql9,by omega,by simp[lim],by simp,by simp,by simp[lim],by simp,by simp,by simp[natV]⟩
 ·rintro i E H' hi ⟨l,c,rfl,hl,ll,hc,h1,h5,h6,h17,h18,h19,hv⟩;rcases Nat.lt_or_ge i x.length with hlt|hge
  ·simp only[lim]at h1 h17;have g1:IntKind.i64.wrap ((i:Int)+1)=((i+1:Nat):Int):=by rw[wrap_i64]<;>omega
   have dx:=qch lx i;have dy:=qch ly i;have hlt1:i<l.length:=by omega
   have st:=qadd (x:=dig x i) (y:=dig y i) dx dy hc hv;rw[<-qal,<-qal,<-Nat.pow_succ,<-qb1 hlt1]at st;have go:∃l2 c2,H++[some ⟨1,(l.set i ((dig x i+8589934592-dig y i-c)%4294967296)).map u32,true,true⟩]=H++[some ⟨1,l2.map u32,true,true⟩]/\l2.length=x.length/\Li l2/\c2<=1/\(if dig x i<dig y i+c then 1 else 0)=c2/\natV (l2.take (i+1))+natV (y.take (i+1))=natV (x.take (i+1))+4294967296^(i+1)*c2:=
    ⟨_,_,rfl,by simp[hl],Li.set ll (by omega),by split<;>omega,rfl,st⟩
   rw[qak hlt]at dx go;by_cases hy:i<y.length
   ·rw[qak hy]at dy go;simp[qd2,h1,h5,h6,h17,h18,h19,hlt,hy,u32,lim];refine qab rfl rfl rfl (q4z x[i] y[i] c dx dy hc) ?_;obtain⟨l2,c2,e1,e2,e3,e4,e5,e6⟩:=go;rw[e5];simp[h1,h5,h17,h18,h19,g1,hlt,hl,u32];refine⟨l2,?_,e2,e3,c2,e4,rfl,e6⟩;simpa[u32]using e1
   ·rw[qcy (by omega)]at dy go;simp[qd2,h1,h5,h6,h17,h18,h19,hlt,hy,u32,lim];refine qab rfl rfl rfl (q4z x[i] 0 c dx dy hc) ?_;obtain⟨l2,c2,e1,e2,e3,e4,e5,e6⟩:=go;rw[e5];simp[h1,h5,h17,h18,h19,g1,hlt,hl,u32];refine⟨l2,?_,e2,e3,c2,e4,rfl,e6⟩;simpa[u32]using e1
  ·have hin:i=x.length:=by omega
   subst hin;rw[qat (l:=x) (Nat.le_refl _),qat (l:=y) hyx,qat (l:=l) (by omega)]at hv;have hlv:=qan ll;rw[hl]at hlv;have hc0:c=0:=by
    rcases Nat.eq_zero_or_pos c with h|h
    ·exact h
    ·have:c=1:=by omega
     subst this;omega
   subst hc0;have e:=qpt ll hl (n:=natV a-natV b) (by omega);rw[<-e];simp[qd2,h5,h18,h19,hl,lim];exact List.take_of_length_le (by simp[hl])
set_option maxHeartbeats 4000000
theorem qacp {x y d c:Nat}(hx:x<4294967296)(hy:y<4294967296)(hd:d<4294967296)(hc:c<4294967296):x*y+d+c<18446744073709551616/\x*y<18446744073709551616/\x*y+d<18446744073709551616/\(x*y+d+c)/4294967296<4294967296:=by
 have:x*y<=4294967295*4294967295:=Nat.mul_le_mul (by omega) (by omega);omega
theorem qacd {N N2 R P x y c d T Y:Nat}(h:N+P*c=R+Y)(hN:N2+P*d=N+P*(T%4294967296))(hT:T=x*y+d+c) :
 N2+P*4294967296*(T/4294967296)=R+(Y+P*(x*y)):=by
 have:P*(T%4294967296)+P*4294967296*(T/4294967296)=P*(x*y)+P*d+P*c:=by
  rw[Nat.mul_assoc,<-Nat.mul_add,Nat.mod_add_div,hT,Nat.mul_add,Nat.mul_add]
 omega
theorem qag2 {n0:Nat}{Q:AX->Env->Heap->Prop}{K:List Fr}{E:Env}{H:Heap}(b l:List Nat)(i n x:Nat)(_hb:b.length<=1000000)(lb:Li b)(hl:l.length=n)(hn:i+b.length<n)(hn2:n<=3000000)(ll:Li l)(hx:x<4294967296)(A:List V)
 (h5:E 5=.ref H.length 1 0 n) (h6:E 6=.int .i64 i) (h7:E 7=.int .u32 (x:Nat)) (h8:E 8=.int .u64 0) (h25:E 25=lim b) (h26:E 26=.int .i64 b.length) (h27:E 27=.int .i64 0) (h1:E 1=lim b)
 (h18:E 18=.sl A) (h19:E 19=.int .i64 A.length) (h20:E 20=.int .i64 i)
 (hQ:∀E1 l2 c,l2.length=n->Li l2->c<4294967296->natV (l2.take (i+b.length))+4294967296^(i+b.length)*c=natV (l.take (i+b.length))+4294967296^i*(x*natV b) ->
  E1 1=lim b->E1 5=.ref H.length 1 0 n->E1 6=.int .i64 i->E1 8=.int .u64 (c:Nat)->E1 18=.sl A->E1 19=.int .i64 A.length->E1 20=.int .i64 i ->
  WP prog n0 Q K (.exit 2) E1 (H++[some ⟨1,l2.map u32,true,true⟩])) :
 WK prog n0 (.loop qd4) K E (H++[some ⟨1,l.map u32,true,true⟩]) Q:=by
 refine WK_up (fun k E H'=>∃l2 c,H'=H++[some ⟨1,l2.map u32,true,true⟩]/\l2.length=n/\Li l2/\c<4294967296/\E 1=lim b/\E 5=.ref H.length 1 0 n/\E 6=.int .i64 i/\E 7=.int .u32 (x:Nat)/\E 8=.int .u64 (c:Nat)/\E 18=.sl A/\E 19=.int .i64 A.length/\E 20=.int .i64 i/\E 25=lim b/\E 26=.int .i64 b.length/\E 27=.int .i64 k /\
  natV (l2.take (i+b.length))+4294967296^(i+k)*c=natV (l.take (i+b.length))+4294967296^i*(x*natV (b.take k))) b.length ?_ ?_
 ·exact⟨l,0,rfl,hl,ll,by omega,h1,h5,h6,h7,h8,h18,h19,h20,h25,h26,h27,by simp[natV]⟩
 ·clear h1 h5 h6 h7 h8 h18 h19 h20 h25 h26 h27;rintro k E H' hk ⟨l2,c,rfl,hl2,ll2,hc,h1,h5,h6,h7,h8,h18,h19,h20,h25,h26,h27,hv⟩;rcases Nat.lt_or_ge k b.length with hlt|hge
  ·simp only[lim]at h1 h25;have g1:IntKind.i64.wrap ((k:Int)+1)=((k+1:Nat):Int):=by rw[wrap_i64]<;>omega
   have g2:IntKind.i64.wrap ((i:Int)+k)=((i+k:Nat):Int):=by rw[wrap_i64]<;>omega
   have db:=qch lb k;have⟨j,hj⟩:∃j,j=i+k:=⟨_,rfl⟩
   have hlt1:j<l2.length:=by omega
   have dl:=qch ll2 j;have⟨T,hT⟩:∃T,T=x*dig b k+dig l2 j+c:=⟨_,rfl⟩
   obtain⟨m1,m2,m3,m4⟩:=qacp hx db dl hc;rw[<-hT]at m1 m4;have e1:4294967296^i*(x*natV (b.take k))+4294967296^(i+k)*(x*dig b k)=4294967296^i*(x*natV (b.take (k+1))):=by
    rw[qal,Nat.pow_add,Nat.mul_assoc,<-Nat.mul_add,Nat.mul_left_comm (4294967296^k),<-Nat.mul_add]
   rw[<-hj]at hv e1 g2;have st:=qacd hv (qqt (v:=T%4294967296) hlt1 (n:=i+b.length) (by omega)) hT;rw[e1,<-Nat.pow_succ]at st;have⟨M,hM⟩:∃M,M=x*dig b k:=⟨_,rfl⟩
   rw[<-hM]at hT m2 m3;rw[qak hlt]at db hM;rw[qak hlt1]at dl hT m3;have t1:IntKind.u64.wrap (x:Int)=x:=qag _ (by omega);have t2:IntKind.u64.wrap (b[k]:Int)=b[k]:=qag _ (by omega);have t3:IntKind.u64.wrap ((x:Int)*b[k])=M:=by
    rw[show(x:Int)*b[k]=((M:Nat):Int) by rw[hM];simp];exact qag _ m2
   have t4:IntKind.u64.wrap (l2[j]:Int)=l2[j]:=qag _ (by omega);have t5:IntKind.u64.wrap ((M:Int)+l2[j])=(M:Int)+l2[j]:=by rw[qbd]<;>omega
   have t6:IntKind.u64.wrap ((M:Int)+l2[j]+c)=T:=by rw[qbd]<;>omega
   have t7:IntKind.u32.wrap (T:Int)=((T%4294967296:Nat):Int):=qa7 T;have t8:qa3 .shr .u64 (T:Int) 32=some (.int .u64 ((T/4294967296:Nat):Int)):=shr64 T 32 (by omega);have⟨L,hL⟩:∃L,L=T%4294967296:=⟨_,rfl⟩
   have⟨C,hC⟩:∃C,C=T/4294967296:=⟨_,rfl⟩
   rw[<-hL]at t7 st;rw[<-hC]at t8 st m4;have hjn:j<n:=by omega
   simp[qd4,h1,h5,h6,h7,h8,h18,h19,h20,h25,h26,h27,hlt,hlt1,hjn,u32,lim,t1,t2,t3,t4,t5,t6,t7,t8,g1,g2];refine⟨l2.set j L,?_,by simp[hl2],Li.set ll2 (by omega),C,m4,rfl,?_⟩
   ·simp[u32]
   ·rw[hj]at st ⊢;exact st
  ·have hkn:k=b.length:=by omega
   subst hkn;rw[qat (l:=b) (Nat.le_refl _)]at hv;simp[qd4,h26,h27];exact hQ _ l2 c hl2 ll2 hc hv (by simp[h1]) (by simp[h5]) (by simp[h6]) (by simp[h8]) (by simp[h18]) (by simp[h19]) (by simp[h20])
theorem qajx (a b:List Nat)(ha:a.length<=1000000)(hb:b.length<=1000000)(la:Li a)(lb:Li b):CQ prog qwj [lim a,lim b] (lim (digs (a.length+b.length) (natV a*natV b))):=by
 refine qaf rfl fun H=>?_
 have f1:IntKind.i64.wrap ((a.length:Int)+b.length)=((a.length+b.length:Nat):Int):=by rw[wrap_i64]<;>omega
 have⟨n,hn⟩:∃n,n=a.length+b.length:=⟨_,rfl⟩
 rw[<-hn]at f1;have f4:n*4<=281474976710656/\n<=9223372036854775807:=by omega
 simp[lim,f1,f4];refine WK_up (fun i E H'=>∃l,H'=H++[some ⟨1,l.map u32,true,true⟩]/\l.length=n/\Li l/\E 1=lim b/\E 5=.ref H.length 1 0 n/\E 18=lim a/\E 19=.int .i64 a.length/\E 20=.int .i64 i /\
  natV (l.take (i+b.length))=natV (a.take i)*natV b) a.length ?_ ?_
 ·exact⟨List.replicate n 0,by rw[qk3],by simp,ql9,by simp[lim],by simp,by simp[lim],by simp,by simp,by simp[natV,List.take_replicate,qpg]⟩
 ·rintro i E H' hi ⟨l,rfl,hl,ll,h1,h5,h18,h19,h20,hv⟩;rcases Nat.lt_or_ge i a.length with hlt|hge
  ·simp only[lim]at h1 h18;have g1:IntKind.i64.wrap ((i:Int)+1)=((i+1:Nat):Int):=by rw[wrap_i64]<;>omega
   have g2:IntKind.i64.wrap ((i:Int)+b.length)=((i+b.length:Nat):Int):=by rw[wrap_i64]<;>omega
   have lx:=la _ (List.getElem_mem hlt);simp[qf6,h1,h18,h19,h20,hlt,u32,lim];refine qag2 b l i n a[i] hb lb hl (by omega) (by omega) ll lx (a.map u32) (by simp[h5]) (by simp) (by simp) (by simp) (by simp[lim]) (by simp) (by simp) (by simp[h1,lim]) (by simp[h18]) (by simp[h19]) (by simp[h20]) ?_;intro E1 l2 c hl2 ll2 hc hv2 g1' g5 g6 g8 g18 g19 g20;simp only[lim]at g1';have f6:IntKind.u32.wrap (c:Int)=c:=qaq c hc;have⟨j,hj⟩:∃j,j=i+b.length:=⟨_,rfl⟩
   rw[<-hj]at g2 hv2 hv;have hj2:j<l2.length:=by omega
   have hjn:j<n:=by omega
   have st:natV ((l2.set j c).take (j+1))=natV (a.take (i+1))*natV b:=by
    rw[qb1 hj2,qal,Nat.add_mul,<-hv,hv2,qak hlt,Nat.mul_assoc]
   have hlen:a.length=(a.map u32).length:=by simp
   simp[g1',g5,g6,g8,g18,g19,g20,g1,g2,f6,hjn,hl2,u32];refine⟨l2.set j c,by simp[u32],by simp[hl2],Li.set ll2 hc,?_⟩;rw[show i+1+b.length=j+1 by omega];exact st
  ·have hin:i=a.length:=by omega
   subst hin;rw[qat (l:=a) (Nat.le_refl _),qat (l:=l) (by omega)]at hv;rw[<-hn,<-qpt ll hl hv];simp[qf6,h5,h19,h20,hl,lim];exact List.take_of_length_le (by simp[hl])
end Go.Abs.W
namespace Go.Abs.W
set_option maxHeartbeats 4000000
theorem qaek (a:List Nat)(n:Nat)(ha:a.length<=1000000)(la:Li a)(hn:n<=100000000):CQ prog qwh [lim a,.int .i64 n] (lim (digs ((qae (natV a)).length-n/32) (natV a/2^n))):=by
 refine qaf rfl fun H=>?_
 simp;refine qab rfl rfl rfl (qcd a (by omega)) ?_;have hyl:=qg4 a;rw[qao la]at hyl ⊢;have ly:=qah (natV a);have vy:=(qad (natV a)).symm;generalize qae (natV a)=y at *
 rw[vy];have⟨q,hq'⟩:∃q,q=n/32:=⟨_,rfl⟩
 have⟨s,hs⟩:∃s,s=n%32:=⟨_,rfl⟩
 have q1:(n:Int)/32=q:=by omega
 have s1:(n:Int).tmod 32=s:=by rw[Int.tmod_eq_emod_of_nonneg (by omega)];omega
 have hs32:s<32:=by omega
 have e1:IntKind.i64.wrap (q:Int)=q:=by rw[wrap_i64]<;>omega
 have e:natV y/2^n=natV (y.drop q)/2^s:=by
  rw[show n=32*q+s by omega,Nat.pow_add,<-pow32,<-Nat.div_div_eq_div_mul,qia ly]
 rw[e,<-hq'];rcases Nat.lt_or_ge q y.length with hlt|hge
 ·have h1:¬((y.length:Int)<=q):=by omega
  have⟨x,hx⟩:∃x,x=y.drop q:=⟨_,rfl⟩
  have lx:Li x:=by rw[hx];exact ly.drop _
  have hx2:List.drop q (List.map u32 y)=List.map u32 x:=by rw[hx,List.map_drop]
  have hxl:x.length=y.length-q:=by rw[hx];simp
  rw[<-hx,<-hxl];have hho:=qu6 x;rw[<-hx2]at hho;simp only[qcc]at hho;have hq2:q<=y.length:=by omega
  have ht:List.take y.length (List.map u32 y)=List.map u32 y:=List.take_of_length_le (by simp);simp[lim,q1,e1,h1,hq2,ht];rw[if_pos (.inr hho),hx2];have f4:x.length*4<=281474976710656/\x.length<=9223372036854775807:=by omega
  simp[f4];refine WK_up (fun i E H'=>∃l,H'=H++[some ⟨1,l.map u32,true,true⟩]/\l.length=x.length/\Li l/\E 0=lim x/\E 1=.int .i64 n/\E 5=.ref H.length 1 0 x.length/\E 23=lim x/\E 24=.int .i64 x.length/\E 25=.int .i64 i /\
   natV (l.take i)=natV x/2^s%4294967296^i) x.length ?_ ?_
  ·exact⟨List.replicate x.length 0,by rw[qk3],by simp,ql9,by simp[lim],by simp,by simp,by simp[lim],by simp,by simp,by simp[natV,Nat.mod_one]⟩
  ·rintro i E H' hi ⟨l,rfl,hl,ll,g0,g1,g5,g23,g24,g25,hv⟩;rcases Nat.lt_or_ge i x.length with h2|h2
   ·simp only[lim]at g0 g23;have f1:IntKind.i64.wrap ((i:Int)+1)=((i+1:Nat):Int):=by rw[wrap_i64]<;>omega
    have f1':IntKind.i64.wrap ((i:Int)+1)=(i:Int)+1:=by rw[wrap_i64]<;>omega
    have f0:(0:Int)<=(i:Int)+1:=by omega
    have hlt1:i<l.length:=by omega
    have da:=qch lx i;have db:=qch lx (i+1);have st:natV (l.take i)+4294967296^i*(natV x/2^s/4294967296^i%4294967296)=natV x/2^s%4294967296^(i+1):=by
     rw[hv,Nat.pow_succ,Nat.mod_mul]
    rw[qur lx i s hs32]at st;have⟨T,hT⟩:∃T,T=dig x i+4294967296*dig x (i+1):=⟨_,rfl⟩
    have hT2:T<2^64:=by omega
    have f4:qa3 .shr .u64 (T:Int) (s:Int)=some (.int .u64 ((T/2^s:Nat):Int)):=shr64 T s (by omega);rw[<-hT]at st;have⟨Y,hY⟩:∃Y,Y=T/2^s:=⟨_,rfl⟩
    have hY2:Y<2^64:=by rw[hY];exact Nat.lt_of_le_of_lt (Nat.div_le_self _ _) hT2
    rw[<-hY]at f4 st;have f6:IntKind.u32.wrap (Y:Int)=((Y%4294967296:Nat):Int):=qa7 Y;have⟨L,hL⟩:∃L,L=Y%4294967296:=⟨_,rfl⟩
    rw[<-hL]at f6 st;rw[<-qb1 hlt1]at st;have go:∃l2:List Nat,H++[some ⟨1,(l.map u32).set i (.int .u32 (L:Nat)),true,true⟩]=H++[some ⟨1,l2.map u32,true,true⟩]/\l2.length=x.length/\Li l2/\natV (l2.take (i+1))=natV x/2^s%4294967296^(i+1):=
     ⟨l.set i L,by rw[q3q],by simp[hl],Li.set ll (by omega),st⟩
    obtain⟨l2,k1,k2,k3,k4⟩:=go;rw[qak h2]at da hT;have t1:IntKind.u64.wrap (x[i]:Int)=x[i]:=qag _ (by omega);rcases Nat.lt_or_ge (i+1) x.length with h3|h3
    ·rw[qak h3]at db hT;have t2:IntKind.u64.wrap (x[i+1]:Int)=x[i+1]:=qag _ (by omega);have h3':(i:Int)+1<x.length:=by omega
     have t3:qa3 .shl .u64 (x[i+1]:Int) 32=some (.int .u64 ((x[i+1]*2^32:Nat):Int)):=shl64 _ 32 (by omega) (by omega);have t4:bitsI .or .u64 (x[i]:Int) ((x[i+1]*2^32:Nat):Int)=some (T:Int):=by
      have:=qdd x[i+1] 32 x[i] (by omega) (by omega) (by omega);rw[qp9 _ _ (by omega) (by omega)]at this ⊢;rw[Nat.or_comm,this,hT]
      congr 2;omega
     have⟨P,hP⟩:∃P,P=x[i+1]*2^32:=⟨_,rfl⟩
     rw[<-hP]at t3 t4;simp[qd3,g0,g1,g5,g23,g24,g25,h2,h3,h3',hlt1,u32,t1,t2,t3,t4,s1,f0,f1',f4,f6,lim];exact⟨l2,by simpa[u32]using k1,k2,k3,k4⟩
    ·rw[qcy h3]at hT;have hT':x[i]=T:=by omega
     have h3':¬(i:Int)+1<x.length:=by omega
     rw[hT']at t1;simp[qd3,g0,g1,g5,g23,g24,g25,h2,h3',hlt1,u32,hT',t1,s1,f1',f4,f6,lim];exact⟨l2,by simpa[u32]using k1,k2,k3,k4⟩
   ·have hin:i=x.length:=by omega
    subst hin;rw[qat (l:=l) (by omega)]at hv;have hv2:natV l=natV x/2^s:=by
     have:=qan lx;rw[hv,Nat.mod_eq_of_lt];exact Nat.lt_of_le_of_lt (Nat.div_le_self _ _) this
    rw[<-qpt ll hl hv2];simp[qd3,g5,g24,g25,hl,lim];exact List.take_of_length_le (by simp[hl])
 ·have h1:((y.length:Int)<=q):=by omega
  rw[show y.length-q=0 by omega];simp[lim,q1,e1,h1,digs]
theorem qaca (a:List Nat)(d:Nat)(ha:a.length<=1000000)(la:Li a)(hd0:0<d)(hd:d<4294967296):CQ prog qr9 [lim a,.int .u32 d] (.tup [lim (digs a.length (natV a/d)),.int .u32 (natV a%d:Nat)]):=by
 refine qaf rfl fun H=>?_
 have f4:a.length*4<=281474976710656/\a.length<=9223372036854775807:=by omega
 have⟨R,hR⟩:∃R,R=natV a%d:=⟨_,rfl⟩
 have⟨Z,hZ⟩:∃Z,Z=natV a/d:=⟨_,rfl⟩
 rw[<-hR,<-hZ];simp[lim,f4];refine qbu (fun k E H'=>∃l r,H'=H++[some ⟨1,l.map u32,true,true⟩]/\l.length=a.length/\Li l/\r<d/\k<=a.length/\E 0=lim a/\E 1=.int .u32 d/\E 6=.ref H.length 1 0 a.length/\E 7=.int .u32 (r:Nat)/\E 8=.int .i64 ((k:Int)-1) /\
  natV (a.drop k)=natV (l.drop k)*d+r) a.length ?_ ?_
 ·have e1:IntKind.i64.wrap ((a.length:Int)-1)=(a.length:Int)-1:=by rw[wrap_i64]<;>omega
  exact⟨List.replicate a.length 0,0,by simp[u32],by simp,ql9,hd0,Nat.le_refl _,by simp[lim],by simp,by simp,by simp,by simp[e1],by simp[natV]⟩
 ·rintro n E H' ⟨l,r,rfl,hl,ll,hr,hn,h0,h1,h6,h7,h8,hv⟩;rcases n with _|n
  ·have e2:¬((0:Int)<=-1):=by omega
   have hv2:natV a=natV l*d+r:=by simpa using hv
   have e3:natV a/d=natV l:=by rw[hv2,Nat.mul_comm,Nat.mul_add_div hd0,Nat.div_eq_of_lt hr,Nat.add_zero]
   have e4:natV a%d=r:=by rw[hv2,Nat.mul_comm,Nat.mul_add_mod,Nat.mod_eq_of_lt hr]
   have e5:R=r:=by rw[hR,e4]
   have e6:natV l=Z:=by rw[hZ,e3]
   rw[<-qpt ll hl e6,e5];refine qa1 ?_;simp[qeu,h6,h7,h8,hl,lim];exact List.take_of_length_le (by simp[hl])
  ·have e1:(n+1:Int)-1=n:=by omega
   have hx:n<a.length:=by omega
   have hx2:n<l.length:=by omega
   have p1:((0:Int)<=n):=by omega
   have e2:IntKind.i64.wrap ((n:Int)-1)=(n:Int)-1:=by rw[wrap_i64]<;>omega
   have la':a[n]<4294967296:=la _ (List.getElem_mem hx);have hdq:=qbc a n;rw[qak hx,hv]at hdq;have⟨T,hT⟩:∃T,T=r*4294967296+a[n]:=⟨_,rfl⟩
   have hq:T/d<4294967296:=by
    rw[Nat.div_lt_iff_lt_mul hd0];have:(r+1)*4294967296<=d*4294967296:=Nat.mul_le_mul_right _ hr;omega
   have hr2:T%d<d:=Nat.mod_lt _ hd0;have st:natV (a.drop n)=natV ((l.set n (T/d)).drop n)*d+T%d:=by
    rw[qbc (l.set n (T/d)),qw6 hx2,List.drop_set_of_lt (by omega),hdq,Nat.add_mul,Nat.mul_assoc];have:=Nat.div_add_mod' T d;generalize natV (l.drop (n+1))*d=Z at *
    omega
   have go:∃(l2:List Nat),H++[some ⟨1,(l.map u32).set n (.int .u32 (T/d:Nat)),true,true⟩]=H++[some ⟨1,l2.map u32,true,true⟩]/\l2.length=a.length/\Li l2/\natV (a.drop n)=natV (l2.drop n)*d+T%d:=
    ⟨l.set n (T/d),by rw[q3q],by simp[hl],Li.set ll hq,st⟩
   obtain⟨l2,k1,k2,k3,k4⟩:=go;have hc:=qad9 r a[n] d hr la' hd;rw[<-hT]at hc;generalize T/d=qq at *
   generalize T%d=rr at *
   simp only[lim]at h0;refine qa1 ?_;simp[qeu,h0,h1,h6,h7,h8,e1,p1,hx,u32,lim];refine zq hc ?_;simp[h0,h1,h6,h8,e1,e2,p1,hx,hx2,u32];exact⟨n,by omega,l2,by simpa[u32]using k1,k2,k3,rr,by omega,by omega,rfl,rfl,k4⟩
end Go.Abs.W
namespace Go.Abs.W
def qdw (third v w:Nat):Nat->Nat->Nat
 |0,_=>0
 |q+1,rest=>if rest<4294967296/\(q+1)*w > rest*4294967296+third then qdw third v w q (rest+v)else q+1
theorem qs5 {third v w:Nat}:∀(q rest:Nat),qdw third v w q rest<=q
 |0,_=>Nat.le_refl _
 |q+1,rest=>by
  unfold qdw;split
  ·exact Nat.le_succ_of_le (qs5 q _)
  ·exact Nat.le_refl _
theorem qnb {third v w T2:Nat}(hw:w<4294967296):∀(q rest:Nat),q<=4294967296->T2=q*v+rest ->
 qdw third v w q rest*(v*4294967296+w)<=T2*4294967296+third/\∀d,d<=q->d*(v*4294967296+w)<=T2*4294967296+third->d<=qdw third v w q rest
 |0,rest,_,h=>by simp[qdw]
 |q+1,rest,hq,h=>by
  have e:(q+1)*(v*4294967296+w)=(q+1)*v*4294967296+(q+1)*w:=by rw[Nat.mul_add,Nat.mul_assoc]
  have e2:T2*4294967296+third=(q+1)*v*4294967296+(rest*4294967296+third):=by rw[h,Nat.add_mul];omega
  unfold qdw;split
  ·rename_i hc;have h':T2=q*v+(rest+v):=by rw[h,Nat.add_mul];omega
   obtain⟨i1,i2⟩:=qnb (third:=third) hw q (rest+v) (by omega) h';refine⟨i1,fun d hd hle=>i2 d ?_ hle⟩;rcases Nat.lt_or_ge d (q+1)with hlt|hge
   ·omega
   ·have:d=q+1:=by omega
    subst this;rw[e,e2]at hle;omega
  ·rename_i hc;refine⟨?_,fun d hd _=>hd⟩;rw[e,e2];rcases Nat.lt_or_ge rest 4294967296 with hr|hr
   ·have:¬(q+1)*w > rest*4294967296+third:=fun h=>hc ⟨hr,h⟩
    omega
   ·have h1:(q+1)*w<=4294967296*4294967296:=Nat.mul_le_mul hq (Nat.le_of_lt hw);have h2:4294967296*4294967296<=rest*4294967296:=Nat.mul_le_mul_right _ hr;omega
def qg9 (top next third v w:Nat):Nat:=
 if v<=top then qdw third v w (4294967296-1) ((top-v)*4294967296+next+v)
 else qdw third v w ((top*4294967296+next)/v) ((top*4294967296+next)%v)
theorem qy4 {top next third v w:Nat}(hn:next<4294967296)(hv:0<v):qg9 top next third v w<4294967296:=by
 unfold qg9;split
 ·exact Nat.lt_of_le_of_lt (qs5 _ _) (by decide)
 ·rename_i h;refine Nat.lt_of_le_of_lt (qs5 _ _) ?_;rw[Nat.div_lt_iff_lt_mul hv];have:(top+1)*4294967296<=v*4294967296:=Nat.mul_le_mul_right _ (by omega);rw[Nat.add_mul]at this;rw[Nat.mul_comm 4294967296 v];omega
theorem q1n {top next third v w:Nat}(hn:next<4294967296)(ht:third<4294967296)(hw:w<4294967296)(hv:0<v)(htop:top<=v) :
 qg9 top next third v w*(v*4294967296+w)<=(top*4294967296+next)*4294967296+third/\∀d,d<4294967296->d*(v*4294967296+w)<=(top*4294967296+next)*4294967296+third->d<=qg9 top next third v w:=by
 unfold qg9;split
 ·rename_i h;have:top=v:=by omega
  subst this;have e:top*4294967296+next=(4294967296-1)*top+((top-top)*4294967296+next+top):=by
   rw[Nat.sub_self,Nat.zero_mul,Nat.zero_add,Nat.mul_comm top 4294967296];omega
  obtain⟨i1,i2⟩:=qnb (third:=third) hw (4294967296-1) ((top-top)*4294967296+next+top) (by omega) e;exact⟨i1,fun d hd hle=>i2 d (by omega) hle⟩
 ·rename_i h;have e:top*4294967296+next=(top*4294967296+next)/v*v+(top*4294967296+next)%v:=(Nat.div_add_mod' _ _).symm;have hq:(top*4294967296+next)/v<4294967296:=by
   rw[Nat.div_lt_iff_lt_mul hv];have:(top+1)*4294967296<=v*4294967296:=Nat.mul_le_mul_right _ (by omega);rw[Nat.add_mul]at this;rw[Nat.mul_comm 4294967296 v];omega
  obtain⟨i1,i2⟩:=qnb (third:=third) hw _ _ (Nat.le_of_lt hq) e;refine⟨i1,fun d hd hle=>i2 d ?_ hle⟩;rw[Nat.le_div_iff_mul_le hv];rw[Nat.mul_add,<-Nat.mul_assoc]at hle;rcases Nat.lt_or_ge (top*4294967296+next) (d*v)with hlt|hge
  ·exfalso;have:(top*4294967296+next+1)*4294967296<=d*v*4294967296:=Nat.mul_le_mul_right _ hlt;rw[Nat.add_mul]at this;omega
  ·exact hge
theorem q5r {top next third v w k Wl Vl:Nat}(hn:next<4294967296)(ht:third<4294967296)(hw:w<4294967296)(hv:4294967296/2<=v)(hvB:v<4294967296)(hWl:Wl<4294967296^k)(hVl:Vl<4294967296^k)
 (hWV:((top*4294967296+next)*4294967296+third)*4294967296^k+Wl<((v*4294967296+w)*4294967296^k+Vl)*4294967296) :
 (((top*4294967296+next)*4294967296+third)*4294967296^k+Wl)/((v*4294967296+w)*4294967296^k+Vl)<=qg9 top next third v w /\
 qg9 top next third v w<=(((top*4294967296+next)*4294967296+third)*4294967296^k+Wl)/((v*4294967296+w)*4294967296^k+Vl)+1:=by
 have⟨V2,hV2⟩:∃V2,V2=v*4294967296+w:=⟨_,rfl⟩
 have⟨T3,hT3⟩:∃T3,T3=(top*4294967296+next)*4294967296+third:=⟨_,rfl⟩
 have⟨P,hP⟩:∃P,P=4294967296^k:=⟨_,rfl⟩
 have hPp:0<P:=by rw[hP];exact Nat.pow_pos (by omega)
 rw[<-hV2,<-hT3,<-hP]at hWV ⊢;rw[<-hP]at hWl hVl;have hV2p:4294967296<=V2:=by
  omega
 have hVpos:0<V2*P+Vl:=Nat.lt_of_lt_of_le (Nat.mul_pos (by omega) hPp) (Nat.le_add_right _ _);have htop:top<=v:=by
  rcases Nat.lt_or_ge v top with h|h
  ·exfalso;have h3:(V2+1)*4294967296<=T3:=by omega
   have h4:(V2+1)*4294967296*P<=T3*P:=Nat.mul_le_mul_right _ h3;have h5:V2*P+Vl<=(V2+1)*P:=by rw[Nat.add_mul];omega
   have h6:(V2*P+Vl)*4294967296<=(V2+1)*P*4294967296:=Nat.mul_le_mul_right _ h5;rw[Nat.mul_right_comm]at h6;omega
  ·exact h
 obtain⟨s1,s2⟩:=q1n (third:=third) hn ht hw (by omega) htop;rw[<-hV2,<-hT3]at s1 s2;have gl:=qy4 (top:=top) (third:=third) (w:=w) hn (show 0<v by omega);refine⟨s2 _ ?_ ?_,?_⟩
 ·rw[Nat.div_lt_iff_lt_mul hVpos,Nat.mul_comm 4294967296];exact hWV
 · -- d V2 P ≤ d V ≤ W < (T3 + 1) P
   have⟨d,hd⟩:∃d,d=(T3*P+Wl)/(V2*P+Vl):=⟨_,rfl⟩
   rw[<-hd];have h1:d*(V2*P+Vl)<=T3*P+Wl:=by rw[hd];exact Nat.div_mul_le_self _ _
   have h2:d*V2*P<=d*(V2*P+Vl):=by rw[Nat.mul_add,<-Nat.mul_assoc];omega
   have h3:d*V2*P<(T3+1)*P:=by rw[Nat.add_mul];omega
   have:=Nat.lt_of_mul_lt_mul_right h3;omega
 ·have⟨x,hx⟩:∃x,x=qg9 top next third v w:=⟨_,rfl⟩
  rw[<-hx]at s1 gl ⊢;rcases Nat.eq_zero_or_pos x with h0|h0
  ·rw[h0];exact Nat.zero_le _
  ·have:x-1<=(T3*P+Wl)/(V2*P+Vl):=by
    rw[Nat.le_div_iff_mul_le hVpos];have h1:(x-1)*(V2*P+Vl)<=(x-1)*((V2+1)*P):=Nat.mul_le_mul_left _ (by rw[Nat.add_mul];omega);have h2:(x-1)*((V2+1)*P)<=T3*P:=by
     rw[<-Nat.mul_assoc];refine Nat.mul_le_mul_right _ ?_;rw[Nat.mul_add,Nat.mul_one];have h3:(x-1)*V2+V2=x*V2:=by rw[<-Nat.succ_mul];congr 1;omega
     omega
    omega
   generalize (T3*P+Wl)/(V2*P+Vl)=d at *
   omega
set_option maxHeartbeats 4000000
theorem q4a (q rest third v w:Nat)(hq:q<4294967296)(hr:rest<18446744065119617024)(ht:third<4294967296)(hv:v<4294967296)(hw:w<4294967296) :
 CQ prog qlc [.int .u64 q,.int .u64 rest,.int .u32 third,.int .u32 v,.int .u32 w] (.int .u64 (qdw third v w q rest)):=by
 refine qaf rfl fun H=>?_
 simp;refine qbu (fun k E H'=>∃r:Nat,H'=H/\k<=q/\r<18446744065119617024/\E 0=.int .u64 k/\E 1=.int .u64 r/\E 2=.int .u32 third/\E 3=.int .u32 v/\E 4=.int .u32 w/\qdw third v w k r=qdw third v w q rest) q ?_ ?_
 ·simp;exact⟨rest,hr,rfl,rfl⟩
 ·rintro k E H' ⟨r,rfl,hk,hr,h0,h1,h2,h3,h4,hd⟩;have t0:IntKind.u64.wrap (w:Int)=w:=qag _ (by omega);have t1:IntKind.u64.wrap (third:Int)=third:=qag _ (by omega);have t2:IntKind.u64.wrap (v:Int)=v:=qag _ (by omega);by_cases hlt:r<4294967296
  ·have hlt':(r:Int)<4294967296:=by omega
   have m1:k*w<=4294967295*4294967295:=Nat.mul_le_mul (by omega) (by omega);have⟨M,hM⟩:∃M,M=k*w:=⟨_,rfl⟩
   have t3:IntKind.u64.wrap ((k:Int)*w)=M:=by
    rw[show(k:Int)*w=((M:Nat):Int) by rw[hM];simp];exact qag _ (by omega)
   have t4:qa3 .shl .u64 (r:Int) 32=some (.int .u64 ((r*2^32:Nat):Int)):=shl64 _ 32 (by omega) (by omega);have t5:bitsI .or .u64 ((r*2^32:Nat):Int) (third:Int)=some ((r*2^32+third:Nat):Int):=qdd _ _ _ (by omega) (by omega) (by omega);have⟨P,hP⟩:∃P,P=r*2^32:=⟨_,rfl⟩
   rw[<-hP]at t4 t5;have⟨U,hU⟩:∃U,U=P+third:=⟨_,rfl⟩
   rw[<-hU]at t5;by_cases hgt:U<M
   ·have hgt':(U:Int)<M:=by omega
    rcases k with _|k
    ·simp at hM;omega
    ·have e1:IntKind.u64.wrap (k:Int)=k:=qag _ (by omega);have e2:IntKind.u64.wrap ((r:Int)+v)=((r+v:Nat):Int):=by rw[qbd]<;>omega
     have hd2:qdw third v w k (r+v)=qdw third v w q rest:=by
      rw[<-hd,qdw,if_pos ⟨hlt,by omega⟩]
     refine qa1 ?_;simp only[Int.natCast_add,Int.natCast_one]at h0 t3;simp[qc1,h0,h1,h2,h3,h4,t0,t1,t2,t3,t4,t5,hlt',hgt',e1,e2];exact⟨k,by omega,by omega,r+v,by omega,rfl,by simp,hd2⟩
   ·have hgt':¬(U:Int)<M:=by omega
    have hd2:qdw third v w k r=k:=by
     cases k with
     |zero=>rfl
     |succ k=>rw[qdw,if_neg (by rintro⟨_,h⟩;omega)]
    refine qa1 ?_;simp[qc1,h0,h1,h2,h4,t0,t1,t3,t4,t5,hlt',hgt',<-hd,hd2]
  ·have hlt':¬(r:Int)<4294967296:=by omega
   have hd2:qdw third v w k r=k:=by
    cases k with
    |zero=>rfl
    |succ k=>rw[qdw,if_neg (by rintro⟨h,_⟩;exact hlt h)]
   refine qa1 ?_;simp[qc1,h0,h1,hlt',<-hd,hd2]
theorem qacy (top next third v w:Nat)(ht:top<=v)(hn:next<4294967296)(h3:third<4294967296)(hv0:0<v)(hv:v<4294967296)(hw:w<4294967296) :
 CQ prog qsa [.int .u32 top,.int .u32 next,.int .u32 third,.int .u32 v,.int .u32 w] (.int .u64 (qg9 top next third v w)):=by
 refine qaf rfl fun H=>?_
 have t0:IntKind.u64.wrap (top:Int)=top:=qag _ (by omega);have t1:IntKind.u64.wrap (next:Int)=next:=qag _ (by omega);have t2:IntKind.u64.wrap (v:Int)=v:=qag _ (by omega);by_cases hge:v<=top
 ·have hge':(v:Int)<=top:=by omega
  have e:top=v:=by omega
  subst e;have t3:IntKind.u32.wrap 0=0:=rfl;have t4:qa3 .shl .u64 0 32=some (.int .u64 0):=rfl;have t5:IntKind.u64.wrap 0=0:=rfl;have t6:IntKind.u64.wrap ((next:Int)+top)=((next+top:Nat):Int):=by rw[qbd]<;>omega
  have hg:qg9 top next third top w=qdw third top w 4294967295 (next+top):=by simp[qg9]
  have⟨N,hN⟩:∃N,N=next+top:=⟨_,rfl⟩
  rw[<-hN]at hg t6;have⟨G,hG⟩:∃G,G=qg9 top next third top w:=⟨_,rfl⟩
  rw[<-hG];rw[<-hG]at hg;simp[t0,t1,t3,t4,t5,t6];have dc:CQ prog qlc [.int .u64 4294967295,.int .u64 N,.int .u32 third,.int .u32 top,.int .u32 w] _:=q4a 4294967295 N third top w (by omega) (by omega) h3 hv hw;rw[<-hg]at dc;refine zq dc ?_;simp
 ·have hge':¬(v:Int)<=top:=by omega
  have t3:qa3 .shl .u64 (top:Int) 32=some (.int .u64 ((top*2^32:Nat):Int)):=shl64 _ 32 (by omega) (by omega);have t4:bitsI .or .u64 ((top*2^32:Nat):Int) (next:Int)=some ((top*2^32+next:Nat):Int):=qdd _ _ _ (by omega) (by omega) (by omega);have⟨U,hU⟩:∃U,U=top*2^32+next:=⟨_,rfl⟩
  have⟨P,hP⟩:∃P,P=top*2^32:=⟨_,rfl⟩
  have hg:qg9 top next third v w=qdw third v w (U/v) (U%v):=by rw[hU];simp[qg9,hge]
  rw[<-hU,<-hP]at t4;rw[<-hP]at t3;have hU2:U<18446744073709551616:=by omega
  have c1:¬((v:Int)=0):=by omega
  have c2:¬(v=0):=by omega
  have hq:U/v<4294967296:=by
   rw[Nat.div_lt_iff_lt_mul hv0];have:(top+1)*4294967296<=v*4294967296:=Nat.mul_le_mul_right _ (by omega);rw[Nat.mul_comm 4294967296 v];omega
  have hr:=Nat.mod_lt U hv0;rw[hg];have⟨qq,hqq⟩:∃qq,qq=U/v:=⟨_,rfl⟩
  have⟨rr,hrr⟩:∃rr,rr=U%v:=⟨_,rfl⟩
  have e6:((U:Int).tdiv v)=qq:=by rw[hqq];rfl
  have e7:((U:Int).tmod v)=rr:=by rw[hrr];rfl
  rw[<-hqq]at hq ⊢;rw[<-hrr]at hr ⊢;have e8:IntKind.u64.wrap (qq:Int)=qq:=qag _ (by omega);simp[hge,t0,t1,t2,t3,t4,c2,e6,e7,e8];refine qab rfl rfl rfl (q4a qq rr third v w hq (by omega) h3 hv hw) ?_;simp
theorem q7b {Wl Vl U P q y u c w s:Nat}(h:Wl+q*Vl=U+P*(c+w))(hs:s=q*y+c)(hu:u<4294967296)(hw:w<=1) :
 (Wl+P*((u+8589934592-s%4294967296-w)%4294967296))+q*(Vl+P*y)=(U+P*u)+P*4294967296*(s/4294967296+(if u<s%4294967296+w then 1 else 0)):=by
 have h2:P*((u+8589934592-s%4294967296-w)%4294967296)+P*(q*y)+P*(c+w)=P*u+P*4294967296*(s/4294967296+(if u<s%4294967296+w then 1 else 0)):=by
  rw[Nat.mul_assoc,<-Nat.mul_add,<-Nat.mul_add,<-Nat.mul_add]
  congr 1
  split<;>omega
 rw[Nat.mul_add,Nat.mul_left_comm q P y];omega
theorem sub64 {u s w:Nat}(hu:u<4294967296)(hs:s<4294967296)(hw:w<=4294967296) :
 IntKind.u64.wrap (IntKind.u64.wrap ((u:Int)-s)-w)=((if u<s+w then 18446744073709551616+u-s-w else u-s-w:Nat):Int):=by
 simp only[IntKind.wrap,IntKind.bits,IntKind.signed];simp;split<;>omega
theorem qx3 {u s w:Nat}(hu:u<4294967296)(hs:s<4294967296)(hw:w<=4294967296) :
 IntKind.u32.wrap (((if u<s+w then 18446744073709551616+u-s-w else u-s-w:Nat)):Int)=((u+8589934592-s-w)%4294967296:Nat):=by
 rw[qa7]
 congr 1
 split<;>omega
theorem qx2 {u s w:Nat}(hu:u<4294967296)(hs:s<4294967296)(hw:w<=4294967296) :
 qa3 .shr .u64 (((if u<s+w then 18446744073709551616+u-s-w else u-s-w:Nat)):Int) 63=some (.int .u64 ((if u<s+w then 1 else 0:Nat):Int)):=by
 have:=shr64 (if u<s+w then 18446744073709551616+u-s-w else u-s-w) 63 (by omega);rw[show((63:Nat):Int)=63 from rfl]at this;rw[this]
 congr 3
 split<;>omega
theorem qaf0 {H T:Heap}{Q:V->Heap->Prop}(u v:List Nat)(off q:Nat)(hv:v.length<=1000000)(hu:u.length<=3000000)(hoff:off+v.length<u.length)(lu:Li u)(lv:Li v)(hq:q<4294967296)
 (hQ:∀u2 neg,u2.length=u.length->Li u2->u2.take off=u.take off->u2.drop (off+v.length+1)=u.drop (off+v.length+1) ->
  natV ((u2.drop off).take (v.length+1))+q*natV v=natV ((u.drop off).take (v.length+1))+4294967296^(v.length+1)*(if neg then 1 else 0)->Q (.bool neg) (H++some ⟨1,u2.map u32,true,true⟩ :: T)) :
 CT prog qt2 [.ref H.length 1 off (v.length+1),lim v,.int .u64 q] (H++some ⟨1,u.map u32,true,true⟩ :: T) Q:=by
 refine CT_of (f:=qfq) rfl (qkz ?_);simp[lim];refine WK_up (fun i E H'=>∃l c w,H'=H++some ⟨1,l.map u32,true,true⟩ :: T/\l.length=u.length/\Li l/\c<4294967296/\w<=1/\l.take off=u.take off/\l.drop (off+i)=u.drop (off+i)/\E 0=.ref H.length 1 off (v.length+1)/\E 1=lim v/\E 2=.int .u64 q /\
  E 7=.int .u64 (c:Nat)/\E 8=.int .u64 (w:Nat)/\E 14=lim v/\E 15=.int .i64 v.length/\E 16=.int .i64 i /\
  natV ((l.drop off).take i)+q*natV (v.take i)=natV ((u.drop off).take i)+4294967296^i*(c+w)) v.length ?_ ?_
 ·exact⟨u,0,0,rfl,rfl,lu,by omega,by omega,rfl,rfl,by simp,by simp[lim],by simp,by simp,by simp,by simp[lim],by simp,by simp,by simp[natV]⟩
 ·rintro i E H' hi ⟨l,c,w,rfl,hl,ll,hc,hw,ht,hdr,h0,h1,h2,h7,h8,h14,h15,h16,hv2⟩;have hoi:off+i<l.length:=by omega
  have hoi2:off+i<u.length:=by omega
  have eu:dig (u.drop off) i=dig l (off+i):=by
   have h1:dig (u.drop off) i=dig (u.drop (off+i)) 0:=by simp[dig]
   have h2:dig l (off+i)=dig (l.drop (off+i)) 0:=by simp[dig]
   rw[h1,h2,hdr]
  have dl:=qch ll (off+i);have hset:∀z,natV (((l.set (off+i) z).drop off).take (i+1))=natV ((l.drop off).take i)+4294967296^i*z:=by
   intro z;rw[List.drop_set,if_neg (by omega),show off+i-off=i by omega,qb1 (by simp;omega)]
  have hset2:∀z,(l.set (off+i) z).take off=u.take off:=fun z=>by rw[qg5 (by omega),ht]
  have hset3:∀z,(l.set (off+i) z).drop (off+(i+1))=u.drop (off+(i+1)):=by
   intro z;rw[List.drop_set_of_lt (by omega)];have:=congrArg (List.drop 1) hdr;rwa[List.drop_drop,List.drop_drop]at this
  rcases Nat.lt_or_ge i v.length with hlt|hge
  ·simp only[lim]at h1 h14;have g1:IntKind.i64.wrap ((i:Int)+1)=((i+1:Nat):Int):=by rw[wrap_i64]<;>omega
   have dv:=qch lv i;have⟨s,hs⟩:∃s,s=q*dig v i+c:=⟨_,rfl⟩
   have hqv:q*dig v i<=4294967295*4294967295:=Nat.mul_le_mul (by omega) (by omega);have st:=q7b (u:=dig l (off+i)) hv2 hs dl hw;rw[<-qal,<-hset,<-eu,<-qal,eu,<-Nat.pow_succ]at st;have⟨M,hM⟩:∃M,M=q*dig v i:=⟨_,rfl⟩
   rw[<-hM]at hs hqv;rw[qak hlt]at dv hM;rw[qak hoi]at dl st;have t1:IntKind.u64.wrap (v[i]:Int)=v[i]:=qag _ (by omega);have t2:IntKind.u64.wrap ((q:Int)*v[i])=M:=by
    rw[show(q:Int)*v[i]=((M:Nat):Int) by rw[hM];simp];exact qag _ (by omega)
   have t3:IntKind.u64.wrap ((M:Int)+c)=s:=by rw[qbd]<;>omega
   have t4:qa3 .shr .u64 (s:Int) 32=some (.int .u64 ((s/4294967296:Nat):Int)):=shr64 s 32 (by omega);have t5:bitsI .and .u64 (s:Int) 4294967295=some ((s%4294967296:Nat):Int):=qfn s (by omega);have⟨S,hS⟩:∃S,S=s%4294967296:=⟨_,rfl⟩
   have⟨C,hC⟩:∃C,C=s/4294967296:=⟨_,rfl⟩
   rw[<-hS]at t5 st;rw[<-hC]at t4 st;have t6:IntKind.u64.wrap (l[off+i]:Int)=l[off+i]:=qag _ (by omega);have t7:=sub64 (u:=l[off+i]) (s:=S) (w:=w) dl (by omega) (by omega);have t8:=qx3 (u:=l[off+i]) (s:=S) (w:=w) dl (by omega) (by omega);have t9:=qx2 (u:=l[off+i]) (s:=S) (w:=w) dl (by omega) (by omega);have hw2:(if l[off+i]<S+w then 1 else 0)<=1:=by split<;>omega
   have⟨W,hW⟩:∃W,W=(if l[off+i]<S+w then 1 else 0):=⟨_,rfl⟩
   rw[<-hW]at t9 st hw2;have hL:(l[off+i]+8589934592-S-w)%4294967296<4294967296:=Nat.mod_lt _ (by omega);generalize (l[off+i]+8589934592-S-w)%4294967296=L at *
   generalize (if l[off+i]<S+w then 18446744073709551616+l[off+i]-S-w else l[off+i]-S-w)=Z at *
   have hi1:i<v.length+1:=by omega
   simp[qdk,h0,h1,h2,h7,h8,h14,h15,h16,hlt,hi1,hoi,u32,lim,t1,t2,t3,t4,t5,t6,t7,t8,t9,g1];refine⟨l.set (off+i) L,?_,by simp[hl],Li.set ll hL,C,by omega,W,hw2,hset2 _,hset3 _,rfl,rfl,st⟩;simp[u32]
  ·have hin:i=v.length:=by omega
   subst hin;simp only[lim]at h1;rw[qat (l:=v) (Nat.le_refl _)]at hv2;rw[qak hoi]at dl eu;have t6:IntKind.u64.wrap (l[off+v.length]:Int)=l[off+v.length]:=qag _ (by omega);have t7:=sub64 (u:=l[off+v.length]) (s:=c) (w:=w) dl (by omega) (by omega);have t8:=qx3 (u:=l[off+v.length]) (s:=c) (w:=w) dl (by omega) (by omega);have t9:=qx2 (u:=l[off+v.length]) (s:=c) (w:=w) dl (by omega) (by omega);have hL:(l[off+v.length]+8589934592-c-w)%4294967296<4294967296:=Nat.mod_lt _ (by omega);have hf:(l[off+v.length]+8589934592-c-w)%4294967296+(c+w)=l[off+v.length]+4294967296*(if l[off+v.length]<c+w then 1 else 0):=by split<;>omega
   have q1:=hQ (l.set (off+v.length) ((l[off+v.length]+8589934592-c-w)%4294967296)) (decide (l[off+v.length]<c+w)) (by simp[hl]) (Li.set ll hL) (hset2 _) (hset3 _) (by
    rw[hset,qal,eu,Nat.pow_succ,Nat.mul_assoc];have:(if decide (l[off+v.length]<c+w)=true then 1 else 0)=(if l[off+v.length]<c+w then 1 else 0):=by simp
    rw[this];have e:4294967296^v.length*((l[off+v.length]+8589934592-c-w)%4294967296)+4294967296^v.length*(c+w)=4294967296^v.length*l[off+v.length]+4294967296^v.length*(4294967296*(if l[off+v.length]<c+w then 1 else 0)):=by
     rw[<-Nat.mul_add,<-Nat.mul_add,hf]
    omega)
   have hi1:v.length<v.length+1:=by omega
   by_cases hneg:l[off+v.length]<c+w
   ·simp only[hneg,if_true]at t7 t8 t9 q1 hL;generalize (l[off+v.length]+8589934592-c-w)%4294967296=L at *
    generalize 18446744073709551616+l[off+v.length]-c-w=Z at *
    simp[qdk,h0,h1,h7,h8,h15,h16,hi1,hoi,u32,lim,t6,t7,t8,t9];refine⟨_,_,⟨rfl,List.take_of_length_le (by simp)⟩,?_⟩;simpa[u32]using q1
   ·simp only[hneg,if_false]at t7 t8 t9 q1 hL;generalize (l[off+v.length]+8589934592-c-w)%4294967296=L at *
    generalize l[off+v.length]-c-w=Z at *
    simp[qdk,h0,h1,h7,h8,h15,h16,hi1,hoi,u32,lim,t6,t7,t8,t9];refine⟨_,_,⟨rfl,List.take_of_length_le (by simp)⟩,?_⟩;simpa[u32]using q1
end Go.Abs.W
namespace Go.Abs.W
attribute [local simp] qbq
theorem q6z : CQ prog qc8 [.nil] (lim []):=by
 refine qaf rfl fun H=>?_
 simp[lim]
theorem q60 : CQ prog qc8 [.emp] (lim []):=by
 refine qaf rfl fun H=>?_
 simp[lim]
theorem qt0 (l:List Nat)(hl:l.length<=1000000000):CQ prog qc8 [lim l] (lim l):=by
 cases l with
 |nil=>exact qalq (pre:=[]) (post:=[]) q6z q60
 |cons x l=>
  refine qaf rfl fun H=>?_
  simp at hl;have e1:(l.length+1)*4<=140737488355328:=by omega
  simp[lim,e1];exact List.take_of_length_le (by simp)
theorem q07 {a:List Nat}{s:Nat}(hs:s<32)(ha:Trim a):(shlL a s).length=a.length+1:=by
 unfold shlL;rw[show s/32=0 by omega,qn5 ha];simp[qro]
theorem qv8 {l:List Nat}{n:Nat}(h:l.length=n+2):natV l=(dig l (n+1)*4294967296+dig l n)*4294967296^n+natV (l.take n):=by
 have e:=qdf l n;rw[qbc,qbc,show l.drop (n+1+1)=[] by rw[List.drop_eq_nil_iff];omega]at e;simp only[natV,Nat.mul_zero,Nat.add_zero]at e;rw[e,Nat.mul_comm (dig l (n+1)),Nat.mul_comm (4294967296^n)];rw[Nat.add_comm (dig l n)];omega
theorem q8u {l:List Nat}{n:Nat}(h:natV l<4294967296^(n+3))(hl:Li l) :
 natV l=((dig l (n+2)*4294967296+dig l (n+1))*4294967296+dig l n)*4294967296^n+natV (l.take n):=by
 have e:=qdf l n;have h0:natV (l.drop (n+2+1))=0:=by rw[<-qia hl,Nat.div_eq_of_lt h]
 rw[qbc,qbc,qbc,h0]at e;rw[e];generalize 4294967296^n=P;generalize dig l n=x;generalize dig l (n+1)=y;generalize dig l (n+2)=z;rw[Nat.mul_comm P];rw[Nat.add_comm]
 congr 2
 omega
theorem qmf (l:List Nat)(j i:Nat):dig (l.drop j) i=dig l (j+i):=by simp[dig]
theorem q72 {W V x W1 P:Nat}{neg:Bool}(hV:0<V)(_hVP:V<P)(hx1:W/V<=x)(hx2:x<=W/V+1)(hW1:W1<P)(h1:W1+x*V=W+P*(if neg then 1 else 0)) :
 (neg=false->x=W/V/\W1=W%V)/\(neg=true->x=W/V+1/\W1+V=P+W%V):=by
 have e:=Nat.div_add_mod W V;have hm:=Nat.mod_lt W hV;have⟨d,hd⟩:∃d,d=W/V:=⟨_,rfl⟩
 rw[<-hd]at hx1 hx2 e ⊢;have hx:x=d\/x=d+1:=by omega
 generalize W%V=r at *
 rw[Nat.mul_comm]at e;rcases hx with hx|hx
 ·subst hx;cases neg
  ·simp at h1 ⊢;omega
  ·simp at h1 ⊢;omega
 ·subst hx;rw[Nat.add_mul]at h1;cases neg
  ·simp at h1 ⊢;omega
  ·simp at h1 ⊢;omega
theorem qady {W1 V P R r e:Nat}(h:W1+V=P+r)(_hr:r<V)(_hVP:V<P)(hR:R<P)(he:e<=1)(h2:R+P*e=W1+V):R=r:=by
 rcases Nat.eq_zero_or_pos e with h0|h0
 ·subst h0;omega
 ·have:e=1:=by omega
  subst this;omega
set_option maxHeartbeats 4000000
theorem qrc {a b:Nat}(h:a<=b):4294967296^a<=4294967296^b:=Nat.pow_le_pow_right (by omega) h
theorem q88 {top next third v w k Wl Vl:Nat}(hw:w<4294967296)(hVl:Vl<4294967296^k)
 (hWV:((top*4294967296+next)*4294967296+third)*4294967296^k+Wl<((v*4294967296+w)*4294967296^k+Vl)*4294967296):top<=v:=by
 rcases Nat.lt_or_ge v top with h|h
 ·exfalso;have⟨V2,hV2⟩:∃V2,V2=v*4294967296+w:=⟨_,rfl⟩
  have⟨T3,hT3⟩:∃T3,T3=(top*4294967296+next)*4294967296+third:=⟨_,rfl⟩
  have⟨P,hP⟩:∃P,P=4294967296^k:=⟨_,rfl⟩
  rw[<-hV2,<-hT3,<-hP]at hWV;rw[<-hP]at hVl;have h3:(V2+1)*4294967296<=T3:=by omega
  have h4:(V2+1)*4294967296*P<=T3*P:=Nat.mul_le_mul_right _ h3;have h5:V2*P+Vl<=(V2+1)*P:=by rw[Nat.add_mul];omega
  have h6:(V2*P+Vl)*4294967296<=(V2+1)*P*4294967296:=Nat.mul_le_mul_right _ h5;rw[Nat.mul_right_comm]at h6;omega
 ·exact h
theorem qgy {l:List Nat}{n:Nat}:4294967296^(l.take n).length<=4294967296^n:=Nat.pow_le_pow_right (by omega) (by simp;omega)
theorem qk9 {l:List Nat}{i:Nat}(hl:Li l)(h:natV l<4294967296^i):natV (l.take i)=natV l/\natV (l.drop i)=0:=by
 have h0:natV (l.drop i)=0:=by rw[<-qia hl,Nat.div_eq_of_lt h]
 have:=qdf l i;rw[h0]at this;exact⟨by omega,h0⟩
theorem qaas {n0:Nat}{Q:AX->Env->Heap->Prop}{K:List Fr}{E:Env}{H T:Heap}(u v:List Nat)(j:Nat)(hv:v.length<=1000000)(hu:u.length<=3000000)(hj:j+v.length<u.length)(lu:Li u)(lv:Li v)
 (h9:E 9=.ref H.length 1 0 u.length) (h13:E 13=.int .i64 j) (h15:E 15=.int .u32 0) (h123:E 123=lim v) (h124:E 124=.int .i64 v.length) (h125:E 125=.int .i64 0)
 (hQ:∀E1 l c,l.length=u.length->Li l->c<=1->l.take j=u.take j->l.drop (j+v.length)=u.drop (j+v.length)->natV ((l.drop j).take v.length)+4294967296^v.length*c=natV ((u.drop j).take v.length)+natV v ->
  E1 15=.int .u32 (c:Nat)->E1 8=E 8->E1 9=E 9->E1 10=E 10->E1 11=E 11->E1 12=E 12->E1 13=E 13->E1 14=E 14->WP prog n0 Q K (.exit 4) E1 (H++some ⟨1,l.map u32,true,true⟩ :: T)) :
 WK prog n0 (.loop qcm) K E (H++some ⟨1,u.map u32,true,true⟩ :: T) Q:=by
 refine WK_up (fun i E' H'=>∃l c,H'=H++some ⟨1,l.map u32,true,true⟩ :: T/\l.length=u.length/\Li l/\c<=1/\l.take j=u.take j/\l.drop (j+i)=u.drop (j+i)/\E' 8=E 8/\E' 9=E 9/\E' 10=E 10/\E' 11=E 11/\E' 12=E 12/\E' 13=E 13/\E' 14=E 14 /\
  E' 15=.int .u32 (c:Nat)/\E' 123=lim v/\E' 124=.int .i64 v.length/\E' 125=.int .i64 i /\
  natV ((l.drop j).take i)+4294967296^i*c=natV ((u.drop j).take i)+natV (v.take i)) v.length ?_ ?_
 ·exact⟨u,0,rfl,rfl,lu,by omega,rfl,rfl,rfl,rfl,rfl,rfl,rfl,rfl,rfl,h15,h123,h124,h125,by simp[natV]⟩
 ·rintro i E' H' hi ⟨l,c,rfl,hl,ll,hc,ht,hdr,g8,g9,g10,g11,g12,g13,g14,g15,g123,g124,g125,hv2⟩;rcases Nat.lt_or_ge i v.length with hlt|hge
  ·have⟨J,hJ⟩:∃J,J=j+i:=⟨_,rfl⟩
   have hoi:J<l.length:=by omega
   have eu:dig (u.drop j) i=dig l J:=by
    have h1:dig (u.drop j) i=dig (u.drop (j+i)) 0:=by simp[dig]
    have h2:dig l (j+i)=dig (l.drop (j+i)) 0:=by simp[dig]
    rw[hJ,h1,h2,hdr]
   have dl:=qch ll J;have dv:=qch lv i;have st:=q24 (x:=dig l J) (y:=dig v i) hv2;have hset:∀z,natV (((l.set J z).drop j).take (i+1))=natV ((l.drop j).take i)+4294967296^i*z:=by
    intro z;rw[List.drop_set,if_neg (by omega),show J-j=i by omega,qb1 (by simp;omega)]
   rw[<-hset,<-eu,<-qal,<-qal,eu,<-Nat.pow_succ]at st;have hset2:∀z,(l.set J z).take j=u.take j:=fun z=>by rw[qg5 (by omega),ht]
   have hset3:∀z,(l.set J z).drop (j+(i+1))=u.drop (j+(i+1)):=by
    intro z;rw[List.drop_set_of_lt (by omega)];have:=congrArg (List.drop 1) hdr;rwa[List.drop_drop,List.drop_drop]at this
   rw[qak hoi]at dl st;rw[qak hlt]at dv st;have g1:IntKind.i64.wrap ((i:Int)+1)=((i+1:Nat):Int):=by rw[wrap_i64]<;>omega
   have g2:IntKind.i64.wrap ((j:Int)+i)=(J:Int):=by rw[wrap_i64]<;>omega
   have hoi2:J<u.length:=by omega
   rw[<-g9]at h9;rw[<-g13]at h13;simp only[lim]at g123;simp[qcm,h9,h13,g15,g123,g124,g125,hlt,hoi,hoi2,u32,lim,g2];have ac:=qxp l[J] v[i] c dl dv hc;have⟨L,hL⟩:∃L,L=(l[J]+v[i]+c)%4294967296:=⟨_,rfl⟩
   have⟨C,hC⟩:∃C,C=(l[J]+v[i]+c)/4294967296:=⟨_,rfl⟩
   rw[<-hL,<-hC]at ac st;refine zq ac ?_;simp[h9,h13,g123,g124,g125,hoi,hoi2,u32,g1];refine⟨l.set J L,?_,by simp[hl],Li.set ll (by omega),C,by omega,hset2 _,hset3 _,g8,by rw[<-g9,h9],g10,g11,g12,by rw[<-g13,h13],g14,rfl,st⟩;simp[u32]
  ·have hin:i=v.length:=by omega
   subst hin;rw[qat (l:=v) (Nat.le_refl _)]at hv2;simp[qcm,g124,g125];exact hQ _ l c hl ll hc ht hdr hv2 (by simp[g15]) (by simp[g8]) (by simp[g9]) (by simp[g10]) (by simp[g11]) (by simp[g12]) (by simp[g13]) (by simp[g14])
structure DivInv (U v u q:List Nat)(m k:Nat):Prop where
 lenu:u.length=U.length
 lenq:q.length=m
 lu:Li u
 lq:Li q
 low:u.take k=U.take k
 lt:natV (u.drop k)<natV v
 val:natV (q.drop k)*natV v+natV (u.drop k)=natV (U.drop k)
theorem DivInv.step {U v u q u2:List Nat}{m j x:Nat}(h:DivInv U v u q m (j+1))(hj:j<m)(_hjU:j<U.length)(hu2:u2.length=U.length)(lu2:Li u2)(ht:u2.take j=u.take j)(hx:x<4294967296)
 (h1:x=natV (u.drop j)/natV v) (h2:natV (u2.drop j)=natV (u.drop j)%natV v) (hv:0<natV v):DivInv U v u2 (q.set j x) m j:=by
 refine⟨hu2,by simp[h.lenq],lu2,Li.set h.lq hx,?_,by rw[h2];exact Nat.mod_lt _ hv,?_⟩
 ·rw[ht];have:=congrArg (List.take j) h.low;rwa[List.take_take,List.take_take,Nat.min_eq_left (by omega)]at this
 ·have hq:j<q.length:=by rw[h.lenq];exact hj
  rw[qbc (q.set j x),qw6 hq,List.drop_set_of_lt (by omega),h2];have e1:=qbc u j;have e2:=qbc U j;have e3:dig u j=dig U j:=by
   have a1:dig u j=dig (u.take (j+1)) j:=by simp[dig]
   have a2:dig U j=dig (U.take (j+1)) j:=by simp[dig]
   rw[a1,a2,h.low]
  have e4:=Nat.div_add_mod' (natV (u.drop j)) (natV v);rw[<-h1]at e4;rw[Nat.add_mul,Nat.mul_assoc];have e5:=h.val;generalize natV (q.drop (j+1))*natV v=Z at *
  omega
theorem qadb {n0:Nat}{Q:AX->Env->Heap->Prop}{K:List Fr}{E:Env}{H:Heap}(U v:List Nat)(s n m:Nat)(X:Option Blk)(hn:v.length=n+2)(hm:U.length=m+(n+2))(hU2:U.length<=1000000)(lv:Li v)(lU:Li U)
 (hv31:2147483648<=dig v (n+1)) (hU:natV (U.drop m)<natV v)
 (h8:E 8=.int .i64 s) (h9:E 9=.ref H.length 1 0 U.length) (h10:E 10=lim v) (h11:E 11=.int .i64 ((n+2:Nat):Int)) (h12:E 12=.ref (H.length+2) 1 0 m) (h13:E 13=.int .i64 ((m:Int)-1))
 (hQ:∀E1 u q,DivInv U v u q m 0->E1 8=.int .i64 s->E1 9=.ref H.length 1 0 U.length->E1 11=.int .i64 ((n+2:Nat):Int)->E1 12=.ref (H.length+2) 1 0 m ->
  WP prog n0 Q K (.exit 2) E1 (H++[some ⟨1,u.map u32,true,true⟩,X,some ⟨1,q.map u32,true,true⟩])) :
 WK prog n0 (.loop qcl) K E (H++[some ⟨1,U.map u32,true,true⟩,X,some ⟨1,List.replicate m (.int .u32 0),true,true⟩]) Q:=by
 have hVpos:0<natV v:=by omega
 have hVlt:=qan lv;rw[hn]at hVlt;refine qbu (fun k E H'=>k<=m/\∃u q,H'=H++[some ⟨1,u.map u32,true,true⟩,X,some ⟨1,q.map u32,true,true⟩]/\DivInv U v u q m k /\
  E 8=.int .i64 s/\E 9=.ref H.length 1 0 U.length/\E 10=lim v/\E 11=.int .i64 ((n+2:Nat):Int)/\E 12=.ref (H.length+2) 1 0 m/\E 13=.int .i64 ((k:Int)-1)) m ?_ ?_
 ·refine⟨Nat.le_refl _,U,List.replicate m 0,by rw[qk3],⟨rfl,by simp,lU,ql9,rfl,hU,?_⟩,h8,h9,h10,h11,h12,h13⟩;simp[natV]
 ·clear h8 h9 h10 h11 h12 h13;rintro k E H' ⟨hk,u,q,rfl,inv,h8,h9,h10,h11,h12,h13⟩;rcases k with _|j
  ·have e2:¬((0:Int)<=-1):=by omega
   refine qa1 ?_;simp[qcl,h13];exact hQ _ u q inv (by simp[h8]) (by simp[h9]) (by simp[h11]) (by simp[h12])
  ·have e1:(j+1:Int)-1=j:=by omega
   simp only[Int.natCast_add,Int.natCast_one,e1]at h13;have hju:j<u.length:=by rw[inv.lenu];omega
   have k0:j+(n+2)<u.length:=by rw[inv.lenu];omega
   have k1:j+(n+1)<u.length:=by omega
   have k2:j+n<u.length:=by omega
   have k0':j+(n+2)<U.length:=by omega
   have k1':j+(n+1)<U.length:=by omega
   have k2':j+n<U.length:=by omega
   have hW:=qbc u j;have duj:=qch inv.lu j;have hWV:natV (u.drop j)<natV v*4294967296:=by
    have:=inv.lt;have h3:(natV (u.drop (j+1))+1)*4294967296<=natV v*4294967296:=Nat.mul_le_mul_right _ this;omega
   have hWB:natV (u.drop j)<4294967296^(n+3):=by
    have h3:natV v*4294967296<=4294967296^(n+2)*4294967296:=Nat.mul_le_mul_right _ (Nat.le_of_lt hVlt);have h4:4294967296^(n+3)=4294967296^(n+2)*4294967296:=Nat.pow_succ ..;omega
   have lud:=inv.lu.drop j;have t3:=q8u hWB lud;have t2:=qv8 hn;rw[qmf,qmf,qmf]at t3;have lWl:=qan (lud.take n);have lVl:=qan (lv.take n);have lWl':=Nat.lt_of_lt_of_le lWl (qgy (l:=u.drop j) (n:=n));have lVl':=Nat.lt_of_lt_of_le lVl (qgy (l:=v) (n:=n));have hv1:=qch lv (n+1);have hw1:=qch lv n;have hd0:=qch inv.lu (j+(n+2));have hd1:=qch inv.lu (j+(n+1));have hd2:=qch inv.lu (j+n);have hWV2:=hWV;rw[t3,t2]at hWV2;have gt:=q88 hw1 lVl' hWV2;have gn:=q5r hd1 hd2 hw1 (by omega) hv1 lWl' lVl' hWV2;rw[<-t3,<-t2]at gn;have gl:=qy4 (top:=dig u (j+(n+2))) (third:=dig u (j+n)) (w:=dig v n) hd1 (show 0<dig v (n+1) by omega);have gc:=qacy _ _ _ _ _ gt hd1 hd2 (show 0<dig v (n+1) by omega) hv1 hw1;generalize qg9 (dig u (j+(n+2))) (dig u (j+(n+1))) (dig u (j+n)) (dig v (n+1)) (dig v n)=x at *
   clear t3 t2 hWV2 lWl lVl lWl' lVl' hW duj;have v1:n+1<v.length:=by omega
   have v0:n<v.length:=by omega
   rw[qak k0,qak k1,qak k2,qak v1,qak v0]at gc;have w1:IntKind.i64.wrap ((j:Int)+((n+2:Nat):Int))=((j+(n+2):Nat):Int):=by rw[wrap_i64]<;>omega
   have w2:IntKind.i64.wrap (((j+(n+2):Nat):Int)-1)=((j+(n+1):Nat):Int):=by rw[wrap_i64]<;>omega
   have w3:IntKind.i64.wrap (((j+(n+2):Nat):Int)-2)=((j+n:Nat):Int):=by rw[wrap_i64]<;>omega
   have w4:IntKind.i64.wrap (((n+2:Nat):Int)-1)=((n+1:Nat):Int):=by rw[wrap_i64]<;>omega
   have w5:IntKind.i64.wrap (((n+2:Nat):Int)-2)=((n:Nat):Int):=by rw[wrap_i64]<;>omega
   have w6:IntKind.i64.wrap (((j+(n+2):Nat):Int)+1)=((j+(n+2)+1:Nat):Int):=by rw[wrap_i64]<;>omega
   have w7:IntKind.i64.wrap ((j:Int)-1)=(j:Int)-1:=by rw[wrap_i64]<;>omega
   have⟨N2,hN2⟩:∃N2,N2=n+2:=⟨_,rfl⟩
   have⟨N1,hN1⟩:∃N1,N1=n+1:=⟨_,rfl⟩
   have⟨J2,hJ2⟩:∃J2,J2=j+(n+2):=⟨_,rfl⟩
   have⟨J1,hJ1⟩:∃J1,J1=j+(n+1):=⟨_,rfl⟩
   have⟨J0,hJ0⟩:∃J0,J0=j+n:=⟨_,rfl⟩
   simp only[<-hJ2,<-hJ1,<-hJ0]at w1 w2 w3 w4 w5 w6 h11 k0 k1 k2 k0' k1' k2' gc v1;simp only[<-hN2,<-hN1]at w1 w2 w3 w4 w5 w6 h11 k0 k1 k2 k0' k1' k2' gc v1;have p0:(0:Int)<=j:=by omega
   simp only[lim]at h10;have hlu:=inv.lenu;refine qa1 ?_;simp[qcl,h9,h10,h11,h13,p0,w1,w2,w3,w4,w5,k0',k1',k2',v1,v0,hlu,u32];refine zq gc ?_;have hsl1:j<=J2+1:=by omega
   have hsl2:J2+1<=U.length:=by omega
   have p1:(0:Int)<=(J2:Int)+1:=by omega
   have p2:((J2:Int)+1).toNat=J2+1:=by omega
   have hv3:v.length+1=n+3:=by omega
   obtain⟨hWt,hW0⟩:=qk9 lud hWB;simp[h9,h10,h11,h13,w1,w6,hsl1,hsl2,p1,p2];refine qb6 (args:=[.ref H.length 1 j (v.length+1),lim v,.int .u64 x]) rfl (by simp[lim];omega) rfl (qaf0 u v j x (by omega) (by omega) (by omega) inv.lu lv gl ?_);intro u2 neg hu2 lu2 ht hdr hval;rw[hv3,hWt]at hval;have hdr0:(u2.drop j).drop (n+3)=(u.drop j).drop (n+3):=by
    rw[List.drop_drop,List.drop_drop,show j+(n+3)=j+v.length+1 by omega];exact hdr
   have hW1:natV (u2.drop j)=natV ((u2.drop j).take (n+3)):=by
    have:=qdf (u2.drop j) (n+3);rw[hdr0,hW0,Nat.mul_zero,Nat.add_zero]at this;exact this
   rw[<-hW1]at hval;have hW1lt:natV (u2.drop j)<4294967296^(n+3):=by
    rw[hW1];exact Nat.lt_of_lt_of_le (qan ((Li.drop lu2 j).take _)) qgy
   have hVP:natV v<4294967296^(n+3):=Nat.lt_of_lt_of_le hVlt (qrc (by omega));obtain⟨r0,r1⟩:=q72 hVpos hVP gn.1 gn.2 hW1lt hval;have hjm:j<m:=by omega
   have hju2:j<U.length:=by omega
   cases neg
   ·obtain⟨e1,e2⟩:=r0 rfl;have f1:IntKind.u32.wrap (x:Int)=x:=qaq _ gl;have f2:j<q.length:=by rw[inv.lenq];exact hjm
    have iv:=inv.step hjm hju2 (by omega) lu2 ht gl e1 e2 hVpos;simp[h8,h9,h10,h11,h12,h13,f1,f2,hjm,w7,u32];exact⟨j,by omega,by omega,u2,q.set j x,⟨rfl,by simp[u32]⟩,iv,by simp[lim],by omega⟩
   ·obtain⟨e1,e2⟩:=r1 rfl;have⟨d,hd⟩:∃d,d=natV (u.drop j)/natV v:=⟨_,rfl⟩
    rw[<-hd]at e1;have w8:IntKind.u64.wrap ((x:Int)-1)=(d:Int):=by rw[qbd]<;>omega
    have f1:IntKind.u32.wrap (d:Int)=d:=qaq _ (by omega);have f2:j<q.length:=by rw[inv.lenq];exact hjm
    simp[h10,w8];refine qaas u2 v j (by omega) (by omega) (by omega) lu2 lv (by simp[h9];omega) (by simp[h13]) (by simp) (by simp[lim]) (by simp) (by simp) ?_;intro E1 l c hl ll hc ht2 hdr2 hv2 g15 g8 g9 g10 g11 g12 g13 g14;simp[h8]at g8;simp[h9]at g9;simp[h10]at g10;simp[h11]at g11;simp[h12]at g12;simp[h13]at g13;simp at g14;have hJl:J2<l.length:=by omega
    have dl:=qch ll J2;have eu:dig u2 J2=dig l J2:=by
     have h1:dig u2 J2=dig (u2.drop (j+v.length)) 0:=by rw[qmf];congr 1;omega
     have h2:dig l J2=dig (l.drop (j+v.length)) 0:=by rw[qmf];congr 1;omega
     rw[h1,h2,hdr2]
    have⟨z,hz⟩:∃z,z=(dig l J2+c)%4294967296:=⟨_,rfl⟩
    have hzl:z<4294967296:=by rw[hz];exact Nat.mod_lt _ (by omega)
    have hR:natV (((l.set J2 z).drop j).take (n+3))=natV ((l.drop j).take (n+2))+4294967296^(n+2)*z:=by
     rw[List.drop_set,if_neg (by omega),show J2-j=n+2 by omega,qb1 (by simp;omega)]
    have hR2:natV (((l.set J2 z).drop j).take (n+3))+4294967296^(n+3)*((dig l J2+c)/4294967296)=natV (u2.drop j)+natV v:=by
     rw[hR,hW1,qal (u2.drop j) (n+2),qmf,show j+(n+2)=J2 by omega,eu];rw[hn]at hv2;have h5:4294967296^(n+2)*z+4294967296^(n+3)*((dig l J2+c)/4294967296)=4294967296^(n+2)*dig l J2+4294967296^(n+2)*c:=by
      rw[show 4294967296^(n+3)=4294967296^(n+2)*4294967296 from Nat.pow_succ ..,hz,Nat.mul_assoc,<-Nat.mul_add,Nat.mod_add_div,Nat.mul_add]
     omega
    have hRlt:natV (((l.set J2 z).drop j).take (n+3))<4294967296^(n+3):=Nat.lt_of_lt_of_le (qan ((Li.drop (Li.set ll hzl) j).take _)) qgy;have hRe:=qady e2 (Nat.mod_lt _ hVpos) hVP hRlt (by omega) hR2;have hfull:natV ((l.set J2 z).drop j)=natV (u.drop j)%natV v:=by
     have h6:=qdf ((l.set J2 z).drop j) (n+3);have h7:((l.set J2 z).drop j).drop (n+3)=(u.drop j).drop (n+3):=by
      rw[<-hdr0,List.drop_drop,List.drop_drop,List.drop_set_of_lt (by omega)];have:=congrArg (List.drop 1) hdr2;rw[List.drop_drop,List.drop_drop]at this;rwa[show j+(n+3)=j+v.length+1 by omega]
     rw[h7,hW0]at h6;omega
    have iv:=inv.step (u2:=l.set J2 z) (x:=d) hjm hju2 (by simp;omega) (Li.set ll hzl) (by rw[qg5 (by omega),ht2,ht]) (by omega) hd hfull hVpos;rw[qak hJl]at dl hz;have t1:IntKind.u32.wrap ((l[J2]:Int)+c)=(z:Int):=by rw[hz,<-qa7];simp
    have hJU:J2<U.length:=by omega
    simp[g8,g9,g10,g11,g12,g13,g14,g15,w1,w7,f1,f2,t1,hjm,hJl,hJU,u32];exact⟨j,by omega,by omega,l.set J2 z,q.set j d,⟨by simp[u32],by simp[u32]⟩,iv,by simp[lim],by omega⟩
end Go.Abs.W
namespace Go.Abs.W
theorem qaic {n0:Nat}{Q:AX->Env->Heap->Prop}{c:AC}{K:List Fr}{E:Env}{H:Heap}(h:WK prog n0 c [] E H (AX.thn (fun _ _=>False) (fun x E H=>WP prog n0 Q K x E H))):WK prog n0 (.loop c) K E H Q:=by
 refine qbu (fun _ E' H'=>E'=E/\H'=H) 0 ⟨rfl,rfl⟩ ?_;rintro k E' H' ⟨rfl,rfl⟩;refine qjd h ?_;intro x E1 H1 hx;cases x with
 |normal=>exact hx.elim
 |exit id=>exact hx
 |ret=>exact hx
theorem qage {y:List Nat}{n s:Nat}(hy:y.length=n+1)(ly:Li y)(ht:dig y n≠0)(hs:s=32-bitL (dig y n)) :
 natV y*2^s<4294967296^(n+1)/\2147483648*4294967296^n<=natV y*2^s:=by
 have dl:=qch ly n;obtain⟨h1,h2,h3⟩:=qar ht;have hb:=qtr dl;have e:=qdf y n;rw[qbc,show y.drop (n+1)=[] by rw[List.drop_eq_nil_iff];omega]at e;simp only[natV,Nat.mul_zero,Nat.add_zero]at e;have hlt:=qan (ly.take n);have hle:=qgy (l:=y) (n:=n);have hP:0<4294967296^n:=Nat.pow_pos (by omega);have e2:4294967296^(n+1)=4294967296^n*4294967296:=Nat.pow_succ ..;have e3:(4294967296:Nat)=2^bitL (dig y n)*2^s:=by rw[<-Nat.pow_add,show bitL (dig y n)+s=32 by omega]
 have e4:(2147483648:Nat)=2^(bitL (dig y n)-1)*2^s:=by rw[<-Nat.pow_add,show bitL (dig y n)-1+s=31 by omega]
 constructor
 ·rw[e2];have h5:natV y<4294967296^n*(dig y n+1):=by rw[Nat.mul_add];omega
  have h6:4294967296^n*(dig y n+1)<=4294967296^n*2^bitL (dig y n):=Nat.mul_le_mul_left _ h2;have h7:natV y*2^s<4294967296^n*2^bitL (dig y n)*2^s:=Nat.mul_lt_mul_of_pos_right (by omega) (Nat.two_pow_pos s);rw[Nat.mul_assoc,<-e3]at h7;exact h7
 ·have h5:4294967296^n*2^(bitL (dig y n)-1)<=natV y:=by
   have:4294967296^n*2^(bitL (dig y n)-1)<=4294967296^n*dig y n:=Nat.mul_le_mul_left _ h1;omega
  have h6:=Nat.mul_le_mul_right (2^s) h5;rw[Nat.mul_assoc,<-e4,Nat.mul_comm]at h6;exact h6
theorem qabx {y:List Nat}{n:Nat}(hy:y.length=n+1)(ht:Trim y):dig y n≠0:=by
 have:y.getLast?=some (dig y n):=by
  rw[List.getLast?_eq_getElem?,hy];simp[dig,hy]
 exact ht _ this
set_option maxHeartbeats 4000000 in
theorem q9z (a b:List Nat)(ha:a.length<=500000)(hb:b.length<=500000)(la:Li a)(lb:Li b)(h0:0<natV b) :
 ∃q r,Li q/\Li r/\natV q=natV a/natV b/\natV r=natV a%natV b/\q.length<=a.length+1/\r.length<=a.length+b.length+1/\CQ prog qqv [lim a,lim b] (.tup [lim q,lim r]):=by
 have hxl:=limbsOf_len.2 (qan la);have hyl:=limbsOf_len.2 (qan lb);have lx:=qah (natV a);have ly:=qah (natV b);have tx:=qed (natV a);have ty:=qed (natV b);have vx:=qad (natV a);have vy:=qad (natV b);have hta:trimL a=qae (natV a):=qao la;have htb:trimL b=qae (natV b):=qao lb;have hne:qae (natV b)≠[]:=qdh (by omega);generalize qae (natV a)=x at *
 generalize qae (natV b)=y at *
 rcases Nat.lt_or_ge (natV a) (natV b)with hlt|hge
 ·refine⟨[],x,by intro z hz;simp at hz,lx,by rw[Nat.div_eq_of_lt hlt];rfl,by rw[Nat.mod_eq_of_lt hlt,vx],by simp,by omega,?_⟩;refine qaf rfl fun H=>?_
  simp;refine qab rfl rfl rfl (qcd a (by omega)) ?_;simp;refine qab rfl rfl rfl (qcd b (by omega)) ?_;rw[hta,htb];simp;refine qab rfl rfl rfl (qtz x y (by omega) (by omega) lx ly) ?_;have hc:cmpN (natV x) (natV y)=-1:=by rw[vx,vy];simp[cmpN,hlt]
  simp[i64,hc];refine qab rfl rfl rfl (qt0 x (by omega)) ?_;simp[lim]
 ·have hc:¬cmpN (natV x) (natV y)<0:=by
   rw[vx,vy];unfold cmpN;split<;>(try split)<;>omega
  have hyx:y.length<=x.length:=by
   rcases Nat.lt_or_ge x.length y.length with h|h
   ·have:=qdu lx ty h;omega
   ·exact h
  by_cases h1:y.length=1
  ·obtain⟨d,rfl⟩:∃d,y=[d]:=List.length_eq_one_iff.1 h1;have hd:d=natV b:=by rw[<-vy];simp[natV]
   have hd2:d<4294967296:=ly d (by simp);refine⟨digs x.length (natV x/d),[natV x%d],qpu,?_,?_,?_,by rw[qme];omega,by simp,?_⟩
   ·intro z hz;simp at hz;rw[hz];exact Nat.lt_trans (Nat.mod_lt _ (by omega)) hd2
   ·rw[qmd,<-vx,<-hd,Nat.mod_eq_of_lt];exact Nat.lt_of_le_of_lt (Nat.div_le_self _ _) (qan lx)
   ·simp[natV,vx,hd]
   ·have hs:=qaca x d (by omega) lx (by omega) hd2;have⟨R,hR⟩:∃R,R=natV x%d:=⟨_,rfl⟩
    rw[<-hR]at hs ⊢;refine qaf rfl fun H=>?_
    simp;refine qab rfl rfl rfl (qcd a (by omega)) ?_;simp;refine qab rfl rfl rfl (qcd b (by omega)) ?_;rw[hta,htb];simp;refine qab rfl rfl rfl (qtz x [d] (by omega) (by simp) lx ly) ?_;simp[i64,hc,lim,u32];refine zq hs ?_;simp[lim]
  ·have hyp:0<y.length:=List.length_pos_iff.2 hne;have⟨n,hn⟩:∃n,y.length=n+2:=⟨y.length-2,by omega⟩
   have htop:=qabx hn ty;have dtop:=qch ly (n+1);have hbt:=qtr dtop;have hbp:=(qar htop).2.2;have⟨s,hs⟩:∃s,s=32-bitL (dig y (n+1)):=⟨_,rfl⟩
   have hs32:s<32:=by omega
   obtain⟨st1,st2⟩:=qage hn ly htop hs;have hv:qae (natV y*2^s)=trimL (shlL y s):=by rw[qao q06,qv0 ly]
   have⟨v,hvd⟩:∃v,v=qae (natV y*2^s):=⟨_,rfl⟩
   have lv:Li v:=by rw[hvd];exact qah _
   have vv:natV v=natV y*2^s:=by rw[hvd,qad]
   have hvl:v.length=n+2:=by
    have h5:v.length<=n+2:=by rw[hvd];exact limbsOf_len.2 st1
    have h6:n+2<=v.length:=by
     have h7:=qan lv;rw[vv]at h7;have h8:4294967296^(n+1)<4294967296^v.length:=by
      have:4294967296^(n+1)<=2147483648*4294967296^(n+1):=Nat.le_mul_of_pos_left _ (by omega);omega
     have:=(Nat.pow_lt_pow_iff_right (by omega:1<4294967296)).1 h8;omega
    omega
   have hv31:2147483648<=dig v (n+1):=by
    have e:=qdf v (n+1);rw[qbc,show v.drop (n+1+1)=[] by rw[List.drop_eq_nil_iff];omega]at e;simp only[natV,Nat.mul_zero,Nat.add_zero]at e;have h5:=qan (lv.take (n+1));have h6:=qgy (l:=v) (n:=n+1);rcases Nat.lt_or_ge (dig v (n+1)) 2147483648 with h|h
    ·exfalso;have h7:4294967296^(n+1)*(dig v (n+1)+1)<=4294967296^(n+1)*2147483648:=Nat.mul_le_mul_left _ h;rw[Nat.mul_add,Nat.mul_one]at h7;rw[Nat.mul_comm 2147483648]at st2;omega
    ·exact h
   have⟨U,hU⟩:∃U,U=shlL x s:=⟨_,rfl⟩
   have lU:Li U:=by rw[hU];exact q06
   have vU:natV U=natV x*2^s:=by rw[hU,qv0 lx]
   have hUl:U.length=x.length+1:=by rw[hU];exact q07 hs32 tx
   have⟨m,hm⟩:∃m,x.length+1=m+(n+2):=⟨x.length+1-(n+2),by omega⟩
   have hUm:natV (U.drop m)<natV v:=by
    rw[<-qia lU,Nat.div_lt_iff_lt_mul (Nat.pow_pos (by omega)),vU,vv];have h5:=qan lx;have h6:natV x*2^s<4294967296^x.length*2^s:=Nat.mul_lt_mul_of_pos_right h5 (Nat.two_pow_pos s);have h7:4294967296^x.length=4294967296^(n+1)*4294967296^m:=by rw[<-Nat.pow_add];congr 1;omega
    have h8:2^s<=2147483648:=by
     have:2^s<=2^31:=Nat.pow_le_pow_right (by omega) (by omega);omega
    have h9:4294967296^(n+1)*2^s<=natV y*2^s:=by
     rw[Nat.mul_comm]at st2;have:4294967296^(n+1)*2^s<=4294967296^(n+1)*2147483648:=Nat.mul_le_mul_left _ h8;omega
    have h10:=Nat.mul_le_mul_right (4294967296^m) h9;rw[h7,Nat.mul_right_comm]at h6;omega
   have h2s:=Nat.two_pow_pos s;have hq:natV U/natV v=natV a/natV b:=by rw[vU,vv,vx,vy,Nat.mul_div_mul_right _ _ h2s]
   have hr:natV U%natV v=natV a%natV b*2^s:=by rw[vU,vv,vx,vy,Nat.mul_mod_mul_right]
   have hqm:natV a/natV b<4294967296^m:=by
    rw[<-qia lU,Nat.div_lt_iff_lt_mul (Nat.pow_pos (by omega))]at hUm;rw[<-hq];exact Nat.div_lt_of_lt_mul hUm
   have hrl:(qae (natV a%natV b*2^s)).length<=n+2:=by
    refine limbsOf_len.2 ?_;rw[<-hr,vv];exact Nat.lt_trans (Nat.mod_lt _ (by rw[<-vv];omega)) st1
   refine⟨digs m (natV a/natV b),digs ((qae (natV a%natV b*2^s)).length-s/32) (natV a%natV b),qpu,qpu,by rw[qmd,Nat.mod_eq_of_lt hqm],?_,by rw[qme];omega,by rw[qme];omega,?_⟩
   ·rw[qmd,Nat.mod_eq_of_lt];have h5:=qan (qah (natV a%natV b*2^s));rw[qad]at h5;rw[show s/32=0 by omega,Nat.sub_zero];exact Nat.lt_of_le_of_lt (Nat.le_mul_of_pos_right _ h2s) h5
   ·refine qaf rfl fun H=>?_
    simp;refine qab rfl rfl rfl (qcd a (by omega)) ?_;simp;refine qab rfl rfl rfl (qcd b (by omega)) ?_;rw[hta,htb];simp;refine qab rfl rfl rfl (qtz x y (by omega) (by omega) lx ly) ?_;have⟨k,hk⟩:∃k,k=n+1:=⟨_,rfl⟩
    have hky:k<y.length:=by omega
    have w0:IntKind.i64.wrap ((y.length:Int)-1)=(k:Int):=by rw[wrap_i64]<;>omega
    have hy1:¬(y.length:Int)=1:=by omega
    rw[<-hk,qak hky]at hs dtop hbt;have lz:=qqb y[k] dtop;rw[show(32:Int)-(bitL y[k]:Nat)=(s:Int) by omega]at lz;simp[i64,hc,lim,hy1,w0,hky,u32];refine zq lz ?_;simp;refine qb6 rfl rfl rfl (q7t x s (by omega) lx (by omega) _ _ ?_);rw[<-hU];simp;refine qb6 rfl rfl rfl (q7t y s (by omega) ly (by omega) _ _ ?_);simp;refine qau rfl rfl (H1:=H++[some ⟨1,U.map u32,true,true⟩,some ⟨1,(shlL y s).map u32,true,false⟩]) (vs:=[lim (shlL y s)]) (by refine Eq.trans (b:=frzVs _ _) rfl ?_;simp[frzVs,frzV,qid,lim,List.take_of_length_le]) (qcd (shlL y s) (by have:=q28 (a:=y) (n:=s);omega)) ?_;rw[<-hv,<-hvd];have hul:¬((U.length:Int)<=x.length):=by omega
    simp;refine qaic ?_;have w1:IntKind.i64.wrap ((U.length:Int)-v.length)=(m:Int):=by rw[wrap_i64]<;>omega
    have w2:IntKind.i64.wrap ((m:Int)-1)=(m:Int)-1:=by rw[wrap_i64]<;>omega
    have f4:m*4<=281474976710656/\m<=9223372036854775807:=by omega
    simp[qhi,hul,lim,w1,w2,f4];refine qadb U v s n m _ hvl (by omega) (by omega) lv lU hv31 hUm (by simp) (by simp) (by simp[lim]) (by rw[<-hvl];simp) (by simp) (by simp) ?_;intro E1 u q inv g8 g9 g11 g12;have hval:=inv.val;have hult:=inv.lt;have hul2:=inv.lenu;simp only[List.drop_zero]at hval hult;have⟨N,hN⟩:∃N,N=n+2:=⟨_,rfl⟩
    rw[<-hN]at g11;have hvp:0<natV v:=by omega
    have e1:natV q=natV a/natV b:=by
     rw[<-hq,<-hval,Nat.mul_comm,Nat.mul_add_div hvp,Nat.div_eq_of_lt hult,Nat.add_zero]
    have e2:natV u=natV a%natV b*2^s:=by
     rw[<-hr,<-hval,Nat.mul_comm,Nat.mul_add_mod,Nat.mod_eq_of_lt hult]
    have e3:natV (u.take N)=natV a%natV b*2^s:=by
     rw[(qk9 inv.lu (i:=N) ?_).1,e2];have:=qan lv;rw[hvl,<-hN]at this;omega
    have e4:=qpt inv.lq inv.lenq e1;have hs0:=qaek (u.take N) s (by simp;omega) (inv.lu.take _) (by omega);rw[e3,Nat.mul_div_cancel _ h2s]at hs0;have hNU:N<=U.length:=by omega
    have hNu:N<=u.length:=by omega
    simp[g8,g9,g11,g12,hNU];refine qau rfl rfl (H1:=H++[some ⟨1,u.map u32,true,false⟩,some ⟨1,(shlL y s).map u32,true,false⟩,some ⟨1,q.map u32,true,true⟩]) (vs:=[lim (u.take N),.int .i64 s]) (by refine Eq.trans (b:=frzVs _ _) rfl ?_;simp[frzVs,frzV,qid,lim,hNu]) hs0 ?_;have hqm2:q.length=m:=inv.lenq;rw[<-e4];simp[lim,hqm2];exact List.take_of_length_le (by simp;omega)
def cl (n:Nat):List Nat:=if 256<(qae n).length then []else qae n
def clE (n:Nat):Int:=if 256<(qae n).length then 9 else 0
theorem cl_of {n:Nat}(h:(qae n).length<=256):cl n=qae n:=if_neg (by omega)
theorem qaad {n:Nat}(h:(qae n).length<=256):clE n=0:=if_neg (by omega)
theorem qahm {l:List Nat}{n:Nat}(hl:l.length<=100000000)(ll:Li l)(hv:natV l=n):CQ prog qio [lim l] (.tup [lim (cl n),.int .i64 (clE n)]):=by
 have:=q9y l hl;rw[qao ll,hv]at this;exact this
theorem qoz {k n:Nat}(hk:k<=100000000)(h:n<4294967296^k):CQ prog qio [lim (digs k n)] (.tup [lim (cl n),.int .i64 (clE n)]):=
 qahm (by rw[qme];exact hk) qpu (by rw[qmd,Nat.mod_eq_of_lt h])
theorem qabb (a b:List Nat)(ha:a.length<=256)(hb:b.length<=256)(la:Li a)(lb:Li b):CQ prog qwo [lim a,lim b] (.tup [lim (cl (natV a+natV b)),.int .i64 (clE (natV a+natV b))]):=by
 refine qaf rfl fun H=>?_
 simp;refine qau rfl rfl (H1:=H++[some ⟨1,[lim a,lim b],true,false⟩]) (vs:=[lims [a,b]]) (by simp[prep,frzVs,frzV];rfl) (qm5 [a,b] (by simp)) ?_;have h1:¬(256<a.length):=by omega
 have h2:¬(256<b.length):=by omega
 simp[h1,h2];refine qab rfl rfl rfl (qala a b (by omega) (by omega) la lb) ?_;simp;refine qab rfl rfl rfl (qoz (by omega) ?_) ?_
 ·have h3:=qan la;have h4:=qan lb;have h5:=qrc (show a.length<=max a.length b.length by omega);have h6:=qrc (show b.length<=max a.length b.length by omega);rw[Nat.pow_succ];omega
 ·simp
theorem q2t (a b:List Nat)(ha:a.length<=256)(hb:b.length<=256)(la:Li a)(lb:Li b)(hle:natV b<=natV a):CQ prog qwl [lim a,lim b] (.tup [lim (qae (natV a-natV b)),.int .i64 0]):=by
 have hlen:(qae (natV a-natV b)).length<=256:=qcg (Nat.sub_le _ _) (Nat.le_trans (limbsOf_len.2 (qan la)) ha);refine qaf rfl fun H=>?_
 simp;refine qau rfl rfl (H1:=H++[some ⟨1,[lim a,lim b],true,false⟩]) (vs:=[lims [a,b]]) (by simp[prep,frzVs,frzV];rfl) (qm5 [a,b] (by simp)) ?_;have h1:¬(256<a.length):=by omega
 have h2:¬(256<b.length):=by omega
 simp[h1,h2];refine qab rfl rfl rfl (qtz a b (by omega) (by omega) la lb) ?_;have h3:¬(cmpN (natV a) (natV b)<0):=by unfold cmpN;split<;>(try split)<;>omega
 simp[i64,h3];refine qab rfl rfl rfl (qajb a b (by omega) (by omega) la lb hle) ?_;simp;refine qab rfl rfl rfl (qoz ?_ ?_) ?_
 ·have:=limbsOf_len.2 (qan la);omega
 ·have:=qan (qah (natV a));rw[qad]at this;omega
 ·simp[cl_of hlen,qaad hlen]
theorem qaij (a b:List Nat)(ha:a.length<=256)(hb:b.length<=256)(la:Li a)(lb:Li b):CQ prog qwn [lim a,lim b] (.tup [lim (cl (natV a*natV b)),.int .i64 (clE (natV a*natV b))]):=by
 refine qaf rfl fun H=>?_
 simp;refine qau rfl rfl (H1:=H++[some ⟨1,[lim a,lim b],true,false⟩]) (vs:=[lims [a,b]]) (by simp[prep,frzVs,frzV];rfl) (qm5 [a,b] (by simp)) ?_;have h1:¬(256<a.length):=by omega
 have h2:¬(256<b.length):=by omega
 simp[h1,h2];refine qab rfl rfl rfl (qcd a (by omega)) ?_;simp;refine qab rfl rfl rfl (qcd b (by omega)) ?_;have hxl:=qg4 a;have hyl:=qg4 b;rw[qao la]at hxl ⊢;rw[qao lb]at hyl ⊢;simp;refine qab rfl rfl rfl (qajx (qae (natV a)) (qae (natV b)) (by omega) (by omega) (qah _) (qah _)) ?_;simp[qad];refine qab rfl rfl rfl (qoz (by omega) ?_) ?_
 ·have h3:=qan (qah (natV a));have h4:=qan (qah (natV b));rw[qad]at h3 h4;rw[Nat.pow_add];exact Nat.mul_lt_mul'' h3 h4
 ·simp
theorem qaba (a:List Nat)(n:Nat)(ha:a.length<=256)(la:Li a)(hn:n<=65536):CQ prog qwm [lim a,.int .i64 n] (.tup [lim (qae (natV a/2^n)),.int .i64 0]):=by
 have hA:=Nat.le_trans (limbsOf_len.2 (qan la)) ha;have hlen:(qae (natV a/2^n)).length<=256:=qcg (Nat.div_le_self _ _) hA;refine qaf rfl fun H=>?_
 simp;refine qau rfl rfl (H1:=H++[some ⟨1,[lim a],true,false⟩]) (by simp[prep,frzVs,frzV];rfl) (qm5 [a] (by simp)) ?_;have h1:¬(256<a.length):=by omega
 have h3:¬((65536:Int)<n):=by omega
 have h4:¬((n:Int)<0):=by omega
 simp[h1,h3,h4];refine qab rfl rfl rfl (qaek a n (by omega) la (by omega)) ?_;simp;refine qab rfl rfl rfl (qoz (by omega) ?_) ?_
 ·have h5:=qan (qah (natV a));rw[qad]at h5;have h6:2^n=4294967296^(n/32)*2^(n%32):=by rw[pow32,<-Nat.pow_add,Nat.div_add_mod]
  have h7:natV a/2^n<=natV a/4294967296^(n/32):=by
   rw[h6,<-Nat.div_div_eq_div_mul];exact Nat.div_le_self _ _
  refine Nat.lt_of_le_of_lt h7 ?_;rw[Nat.div_lt_iff_lt_mul (Nat.pow_pos (by omega)),<-Nat.pow_add];exact Nat.lt_of_lt_of_le h5 (qrc (by omega))
 ·simp[cl_of hlen,qaad hlen]
theorem q6u (a b:List Nat)(ha:a.length<=256)(hb:b.length<=256)(la:Li a)(lb:Li b)(h0:0<natV b):CQ prog qqw [lim a,lim b] (.tup [lim (qae (natV a/natV b)),lim (qae (natV a%natV b)),.int .i64 0]):=by
 obtain⟨q,r,lq,lr,vq,vr,nq,nr,hd⟩:=q9z a b (by omega) (by omega) la lb h0;refine qaf rfl fun H=>?_
 simp;refine qau rfl rfl (H1:=H++[some ⟨1,[lim a,lim b],true,false⟩]) (vs:=[lims [a,b]]) (by simp[prep,frzVs,frzV];rfl) (qm5 [a,b] (by simp)) ?_;have h1:¬(256<a.length):=by omega
 have h2:¬(256<b.length):=by omega
 simp[h1,h2];refine qab rfl rfl rfl (qcd b (by omega)) ?_;rw[qao lb];have hne:qae (natV b)≠[]:=qdh (by omega);simp[lim,hne];refine zq hd ?_;simp;refine qab rfl rfl rfl (qcd q (by omega)) ?_;rw[qao lq,vq];simp;refine qab rfl rfl rfl (qxo _) ?_;simp;refine qab rfl rfl rfl (qcd r (by omega)) ?_;rw[qao lr,vr];simp;refine qab rfl rfl rfl (qxo _) ?_;simp[lim]
def isq : Nat->Nat
 |0=>0
 |n+1=>if(isq n+1)*(isq n+1)<=n+1 then isq n+1 else isq n
theorem qo8 {m j r:Nat}(hm:m≠0)(hr:r<2^j):bitL (m*2^j+r)=bitL m+j:=by
 have h:2^j<=m*2^j+r:=by
  have:1*2^j<=m*2^j:=Nat.mul_le_mul_right _ (by omega);omega
 rw[qei h]
 congr 2
 rw[Nat.mul_comm,Nat.mul_add_div (Nat.two_pow_pos j),Nat.div_eq_of_lt hr,Nat.add_zero]
theorem qaw : bitL 0=0:=rfl
theorem qd1 {a b:Nat}(h:a<=b):bitL a<=bitL b:=by
 by_cases ha:a=0
 ·rw[ha,qaw];omega
 ·have h1:=qar ha;have h2:=qar (n:=b) (by omega);have h3:2^(bitL a-1)<2^bitL b:=by omega
  have:=(Nat.pow_lt_pow_iff_right (by omega:1<2)).1 h3;omega
theorem qax {n b:Nat}(h:n<2^b):bitL n<=b:=by
 by_cases h0:n=0
 ·rw[h0,qaw];omega
 ·have h1:=qar h0;have h3:2^(bitL n-1)<2^b:=by omega
  have:=(Nat.pow_lt_pow_iff_right (by omega:1<2)).1 h3;omega
theorem qbw (n:Nat):n<2^bitL n:=by
 by_cases h0:n=0
 ·rw[h0];decide
 ·exact(qar h0).2.1
theorem bitL_eq0 {n:Nat}:bitL n=0↔n=0:=by
 constructor
 ·intro h;by_cases h0:n=0
  ·exact h0
  ·have:=(qar h0).2.2;omega
 ·rintro rfl;rfl
theorem q21 {n:Nat}(h:n≠0):∀j,tz (n*2^j)=tz n+j
 |0=>by simp
 |j+1=>by
  have hp:=Nat.two_pow_pos j;have h1:n*2^(j+1)=n*2^j*2:=by rw[Nat.pow_succ,Nat.mul_assoc]
  rw[h1,q68 (Nat.mul_ne_zero (Nat.mul_ne_zero h (by omega)) (by omega)) (Nat.mul_mod_left _ _),Nat.mul_div_cancel _ (by omega),q21 h j];omega
theorem Dy.of_shift {neg:Bool}{n j:Nat}{e:Int}:Dy.of neg (n*2^j) (e-j)=Dy.of neg n e:=by
 unfold Dy.of;by_cases h:n=0
 ·simp[h]
 ·have hp:=Nat.two_pow_pos j;rw[if_neg h,if_neg (Nat.mul_ne_zero h (by omega)),q21 h];rw[Nat.pow_add,Nat.mul_comm (2^tz n),Nat.mul_comm n,Nat.mul_div_mul_left _ _ hp]
  congr 1
  omega
def cutK (m:Nat)(e:Int)(p:Nat):Nat:=(max (max ((bitL m:Int)-p) (-16384-e)) 0).toNat
def cutQ (m:Nat)(e:Int)(more:Bool)(p:Nat)(out:Bool):Nat:=
 m/2^cutK m e p+(if(more ||decide (m%2^cutK m e p≠0))&&out then 1 else 0)
def cutR (neg:Bool)(m:Nat)(e:Int)(more:Bool)(p:Nat)(up:Bool):Dy × Int:=
 if cutQ m e more p (neg != up)≠0/\(16384:Int)<bitL (cutQ m e more p (neg != up))+(e+cutK m e p)then
  (if neg != up then(Dy.zero,9)else(Dy.of neg (2^p-1) (16384-p),0))
 else(Dy.of neg (cutQ m e more p (neg != up)) (e+cutK m e p),0)
theorem qw5 {m j k r:Nat}(hr:r<2^j):(m*2^j+r)/2^(k+j)=m/2^k/\((m*2^j+r)%2^(k+j)≠0↔(m%2^k≠0\/r≠0)):=by
 have hp:=Nat.two_pow_pos j;have e1:(m*2^j+r)/2^j=m:=by rw[Nat.mul_comm,Nat.mul_add_div hp,Nat.div_eq_of_lt hr,Nat.add_zero]
 have e2:(m*2^j+r)%2^j=r:=by rw[Nat.mul_comm,Nat.mul_add_mod,Nat.mod_eq_of_lt hr]
 have e3:2^(k+j)=2^j*2^k:=by rw[Nat.pow_add,Nat.mul_comm]
 refine⟨by rw[e3,<-Nat.div_div_eq_div_mul,e1],?_⟩;rw[e3,Nat.mod_mul,e1,e2];constructor
 ·intro h;by_cases h1:r=0
  ·by_cases h2:m%2^k=0
   ·rw[h1,h2]at h;simp at h
   ·exact .inl h2
  ·exact .inr h1
 ·intro h h0;rcases h with h|h
  ·have:0<2^j*(m%2^k):=Nat.mul_pos hp (by omega);omega
  ·omega
theorem qs7 {neg:Bool}{m:Nat}{e:Int}{more more2:Bool}{p:Nat}{up:Bool}{j r:Nat}(hm:m≠0)(hr:r<2^j)(hmore:more=(more2 ||decide (r≠0)))(hp:more=true->p<=bitL m) :
 cutR neg (m*2^j+r) (e-j) more2 p up=cutR neg m e more p up:=by
 have hb:=qo8 hm hr;have⟨L,hL⟩:∃L:Int,L=max ((bitL m:Int)-p) (-16384-e):=⟨_,rfl⟩
 have k1:cutK m e p=(max L 0).toNat:=by rw[cutK,hL]
 have k2:cutK (m*2^j+r) (e-j) p=(max (L+j) 0).toNat:=by rw[cutK,hb,hL];congr 1;omega
 by_cases h0:0<=L
 ·have k3:cutK (m*2^j+r) (e-j) p=cutK m e p+j:=by omega
  obtain⟨d1,d2⟩:=qw5 (m:=m) (k:=cutK m e p) hr;have hq:∀out,cutQ (m*2^j+r) (e-j) more2 p out=cutQ m e more p out:=by
   intro out;unfold cutQ;rw[k3,d1]
   congr 2
   rw[hmore];have:decide ((m*2^j+r)%2^(cutK m e p+j)≠0)=(decide (m%2^cutK m e p≠0) ||decide (r≠0)):=by
    rw[Bool.eq_iff_iff];simp only[Bool.or_eq_true,decide_eq_true_eq];exact d2
   rw[this];cases more2<;>cases decide (r≠0)<;>cases decide (m%2^cutK m e p≠0)<;>rfl
  unfold cutR;rw[hq,k3];have he:e-(j:Int)+((cutK m e p+j:Nat):Int)=e+cutK m e p:=by omega
  rw[he]
 ·have hmf:more=false:=by
   cases h:more with
   |false=>rfl
   |true=>have:=hp h;omega
  subst hmf;have h2:more2=false/\r=0:=by
   cases more2<;>simp at hmore ⊢;exact hmore
  obtain⟨rfl,rfl⟩:=h2;rw[Nat.add_zero]at *
  have k0:cutK m e p=0:=by omega
  have k3:cutK (m*2^j) (e-j) p<=j:=by omega
  have⟨i,hi⟩:∃i,j=i+cutK (m*2^j) (e-j) p:=⟨j-cutK (m*2^j) (e-j) p,by omega⟩
  generalize hK:cutK (m*2^j) (e-j) p=k at *
  have e1:m*2^j/2^k=m*2^i:=by rw[hi,Nat.pow_add,<-Nat.mul_assoc,Nat.mul_div_cancel _ (Nat.two_pow_pos k)]
  have e2:m*2^j%2^k=0:=by rw[hi,Nat.pow_add,<-Nat.mul_assoc,Nat.mul_mod_left]
  have q1:∀out,cutQ (m*2^j) (e-j) false p out=m*2^i:=by intro out;simp[cutQ,hK,e1,e2]
  have q2:∀out,cutQ m e false p out=m:=by intro out;simp[cutQ,k0,Nat.mod_one]
  have hbi:=qo8 (r:=0) hm (Nat.two_pow_pos i);rw[Nat.add_zero]at hbi;have hpi:=Nat.two_pow_pos i;have he:e-(j:Int)+(k:Int)=e-i:=by omega
  have hc:(m*2^i≠0/\(16384:Int)<(bitL m+i:Nat)+(e-i))↔(m≠0/\(16384:Int)<bitL m+(e+(0:Nat))):=by
   constructor
   ·intro h;exact⟨hm,by omega⟩
   ·intro h;exact⟨Nat.mul_ne_zero hm (by omega),by omega⟩
  unfold cutR;rw[q1,q2,hK,k0,hbi,he,Dy.of_shift];by_cases h:m≠0/\(16384:Int)<bitL m+(e+(0:Nat))
  ·rw[if_pos (hc.2 h),if_pos h]
  ·rw[if_neg (fun h2=>h (hc.1 h2)),if_neg h];simp
theorem qo3 {neg:Bool}{e:Int}{p:Nat}{up:Bool}:cutR neg 0 e false p up=(Dy.zero,0):=by
 have q:∀out,cutQ 0 e false p out=0:=by intro out;simp[cutQ]
 unfold cutR;rw[q];simp[Dy.of,Dy.zero]
end Go.Abs.W
