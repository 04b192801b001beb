import Derived.Test.YtblicjipogbhmaaGreatDoorFe
import Derived.Test.YtblicjipogbhmaaGreatDoorFb
namespace Go.Abs.W
def de : Nat->Nat->List Nat
 |0,_=>[]
 |k+1,n=>n%4294967296 :: de k (n/4294967296)
theorem pQ : ∀{k n:Nat},(de k n).length=k
 |0,_=>rfl
 |k+1,n=>by simp[de,pQ]
theorem pA : ∀{k n:Nat},Li (de k n)
 |0,_=>by intro x a;simp[de]at a
 |k+1,n=>by
  intro x a;simp only[de]at a;rcases Wz.1 a with rfl|a
  ·exact WG _ (by decide)
  ·exact pA x a
theorem pR : ∀{k n:Nat},aa (de k n)=n%4294967296^k
 |0,n=>by simp[de,aa,XO]
 |k+1,n=>by
  simp only[de,aa,pR (k:=k)];rw[VH,VE (4294967296^k),aak]
theorem QN (x y b:Nat)(i:x<4294967296)(j:y<4294967296)(g:b<=1) :
 (((~~~(BitVec.ofNat 32 x) &&& BitVec.ofNat 32 y) ||| (~~~(BitVec.ofNat 32 x ^^^ BitVec.ofNat 32 y) &&& (BitVec.ofNat 32 x-BitVec.ofNat 32 y-BitVec.ofNat 32 b))).toNat/2147483648)=if x<y+b then 1 else 0:=by
 have f:∀v:BitVec 32,v.toNat/2147483648=v.msb.toNat:=by
  intro v;have:=v.isLt;rw[X3];by_cases h:2^(32-1)<=v.toNat
  ·simp[h];simp at h;omega
  ·simp[h];simp at h;omega
 rw[f];simp only[BitVec.msb_or,BitVec.msb_and,BitVec.msb_not,BitVec.msb_xor];have ex:(BitVec.ofNat 32 x).msb=decide (2147483648<=x):=by rw[X3];simp;omega
 have c:(BitVec.ofNat 32 y).msb=decide (2147483648<=y):=by rw[X3];simp;omega
 have a:(BitVec.ofNat 32 x-BitVec.ofNat 32 y-BitVec.ofNat 32 b).msb=decide (2147483648<=(x+(4294967296-y)+(4294967296-b))%4294967296):=by
  rw[X3];simp only[aaV,BitVec.toNat_ofNat];have:x%2^32=x:=VO (by omega);have:y%2^32=y:=VO (by omega);have:b%2^32=b:=VO (by omega)
  congr 1
  simp only[*];apply propext;omega
 rw[ex,c,a];by_cases d:2147483648<=x<;>by_cases e:2147483648<=y<;>simp[d,e]<;>(try split)<;>(try simp)<;>omega
theorem KS (k m n:Nat)(h:m<2^n):(2^k*(2*m+1)) &&& (2^k*(2*(2^n-(m+1))+1))=2^k:=by
 have c:m &&& (2^n-(m+1))=0:=by
  apply abp;intro i;rw[aas,Nat.testBit_two_pow_sub_succ h];cases m.testBit i<;>simp
 have d:(2*m+1) &&& (2*(2^n-(m+1))+1)=1:=by
  apply abp;intro i;cases i with
  |zero=>rw[aas];simp[Nat.testBit_zero]
  |succ i=>
   rw[aas,aaW,aaW,aaW];have a:(2*m+1)/2=m:=by omega
   have b:(2*(2^n-(m+1))+1)/2=2^n-(m+1):=by omega
   have:=W2 (fun t=>t.testBit i) c;simp only[aas,Nat.zero_testBit]at this;rw[a,b,this];simp
 rw[VE (2^k) (2*m+1),VE (2^k),<-aaX,<-aaX,<-Nat.shiftLeft_and_distrib,d,aaX,WH]
def deB : List Nat:=[0,1,28,2,29,14,24,3,30,22,20,15,25,17,4,8,31,27,13,23,21,19,16,7,26,12,18,6,11,5,10,9]
theorem SL : ∀k,k<32->deB[2^k*125613361%4294967296/134217728]?=some k:=by decide +kernel
theorem vA (v w:BitVec 32):aR .and .u32 (v.toNat:Int) (w.toNat:Int)=some ((v &&& w).toNat:Int):=by
 rw[CD _ _ v.isLt w.isLt,aaS]
theorem BV (v w:BitVec 32):aR .or .u32 (v.toNat:Int) (w.toNat:Int)=some ((v |||w).toNat:Int):=by
 show some (IntKind.u32.wrap ((BitVec.ofInt 32 (v.toNat:Int) |||BitVec.ofInt 32 (w.toNat:Int)).toNat:Int))=_;have e:∀u:BitVec 32,BitVec.ofInt 32 (u.toNat:Int)=u:=fun u=>by simp
 rw[e,e,eN _ (v |||w).isLt]
theorem vB (v w:BitVec 32):aR .xor .u32 (v.toNat:Int) (w.toNat:Int)=some ((v ^^^ w).toNat:Int):=by
 show some (IntKind.u32.wrap ((BitVec.ofInt 32 (v.toNat:Int) ^^^ BitVec.ofInt 32 (w.toNat:Int)).toNat:Int))=_;have e:∀u:BitVec 32,BitVec.ofInt 32 (u.toNat:Int)=u:=fun u=>by simp
 rw[e,e,eN _ (v ^^^ w).isLt]
theorem wD (v:BitVec 32):aR .xor .u32 (if IntKind.u32.signed=true then -1 else IntKind.u32.max) (v.toNat:Int)=some ((~~~v).toNat:Int):=by
 have h:=vB (BitVec.allOnes 32) v;show aR .xor .u32 4294967295 (v.toNat:Int)=_;have e:((BitVec.allOnes 32).toNat:Int)=4294967295:=by decide
 rw[e]at h;rw[h,BitVec.allOnes_xor]
theorem wH (v w:BitVec 32):IntKind.u32.wrap ((v.toNat:Int)-(w.toNat:Int))=((v-w).toNat:Int):=by
 have hv:=v.isLt;have a:=w.isLt;simp only[IntKind.wrap,IntKind.bits,IntKind.signed,aaV];simp;omega
theorem Us (x y c:Nat)(k:x<4294967296)(l:y<4294967296)(j:c<=1):CQ prog qxo [.int .u32 x,.int .u32 y,.int .u32 c] (.tup [.int .u32 ((x+y+c)%4294967296:Nat),.int .u32 ((x+y+c)/4294967296:Nat)]):=by
 refine ap rfl fun H=>?_
 have b:IntKind.u64.wrap (x:Int)=x:=cJ _ (by omega);have d:IntKind.u64.wrap (y:Int)=y:=cJ _ (by omega);have e:IntKind.u64.wrap (c:Int)=c:=cJ _ (by omega);have⟨T,hT⟩:∃T,T=x+y+c:=⟨_,rfl⟩
 have f:IntKind.u64.wrap ((x:Int)+y)=(x:Int)+y:=by rw[ee]<;>omega
 have g:IntKind.u64.wrap ((x:Int)+y+c)=T:=by rw[ee]<;>omega
 have h:IntKind.u32.wrap (T:Int)=((T%4294967296:Nat):Int):=nJ T;have a:cH .shr .u64 (T:Int) 32=some (.int .u64 ((T/4294967296:Nat):Int)):=cf T 32 (by omega);rw[<-hT];have⟨C,i⟩:∃C,C=T/4294967296:=⟨_,rfl⟩
 have e8:IntKind.u32.wrap (C:Int)=C:=eN C (by omega);rw[<-i]at a ⊢;simp[b,d,e,f,g,h,a,e8]
theorem yM (x y c:Nat)(o:x<4294967296)(p:y<4294967296)(n:c<=1):CQ prog qxm [.int .u32 x,.int .u32 y,.int .u32 c] (.tup [.int .u32 ((x+8589934592-y-c)%4294967296:Nat),.int .u32 ((if x<y+c then 1 else 0:Nat):Int)]):=by
 refine ap rfl fun H=>?_
 have⟨v,hv⟩:∃v,v=BitVec.ofNat 32 x:=⟨_,rfl⟩
 have⟨w,e⟩:∃w,w=BitVec.ofNat 32 y:=⟨_,rfl⟩
 have⟨u,d⟩:∃u,u=BitVec.ofNat 32 c:=⟨_,rfl⟩
 have g:v.toNat=x:=by rw[hv];simp;omega
 have h:w.toNat=y:=by rw[e];simp;omega
 have f:u.toNat=c:=by rw[d];simp;omega
 have a:=QN x y c o p n;rw[<-hv,<-e,<-d]at a;have j:(v-w-u).toNat=(x+8589934592-y-c)%4294967296:=by
  simp only[aaV,g,h,f];omega
 have k3:(v.toNat+8589934592-w.toNat-u.toNat)%4294967296=(v-w-u).toNat:=by rw[j,g,h,f]
 have⟨r,b⟩:∃r,r=((~~~v &&& w) ||| (~~~(v ^^^ w) &&& (v-w-u))):=⟨_,rfl⟩
 rw[<-b]at a;have k4:cH .shr .u32 (r.toNat:Int) 31=some (.int .u32 ((r.toNat/2147483648:Nat):Int)):=fm r.toNat 31 (by omega);rw[<-a,j.symm,<-g,<-h,<-f];have t:=wH v w;have z:=wH (v-w) u;have q:=wD v;have s:=wD (v ^^^ w);have k:=vA (~~~v) w;have l:=vA (~~~(v ^^^ w)) (v-w-u);have m:=vB v w;have i:=BV (~~~v &&& w) (~~~(v ^^^ w) &&& (v-w-u));rw[<-b]at i;generalize (v-w-u).toNat=C at *
 generalize (v-w).toNat=D at *
 generalize (~~~(v ^^^ w)).toNat=E at *
 generalize (v ^^^ w).toNat=F at *
 generalize (~~~v).toNat=G at *
 generalize (~~~v &&& w).toNat=I at *
 generalize (~~~(v ^^^ w) &&& (v-w-u)).toNat=J at *
 generalize r.toNat=K at *
 clear b hv e d;generalize v.toNat=L at *
 generalize w.toNat=A at *
 generalize u.toNat=B at *
 simp[t,z,q,s,k,l,m,i,k4]
theorem MT (hi lo y:Nat)(o:hi<y)(u:lo<4294967296)(v:y<4294967296):CQ prog qxn [.int .u32 hi,.int .u32 lo,.int .u32 y] (.tup [.int .u32 ((hi*4294967296+lo)/y:Nat),.int .u32 ((hi*4294967296+lo)%y:Nat)]):=by
 refine ap rfl fun H=>?_
 have h:IntKind.u64.wrap (hi:Int)=hi:=cJ _ (by omega);have i:IntKind.u64.wrap (y:Int)=y:=cJ _ (by omega);have j:IntKind.u64.wrap (lo:Int)=lo:=cJ _ (by omega);have⟨P,d⟩:∃P,P=hi*4294967296:=⟨_,rfl⟩
 have k:cH .shl .u64 (hi:Int) 32=some (.int .u64 (P:Int)):=by rw[show(32:Int)=((32:Nat):Int) from rfl,eU _ _ (by omega) (by omega),d]
 have e:aR .or .u64 (P:Int) (lo:Int)=some ((P+lo:Nat):Int):=by
  have:=q9 hi 32 lo (by omega) (by omega) (by omega);rw[d];exact this
 rw[<-d];have⟨T,hT⟩:∃T,T=P+lo:=⟨_,rfl⟩
 rw[<-hT]at e ⊢;have p:T/y<4294967296:=by
  rw[VW (by omega)];have:(hi+1)*4294967296<=y*4294967296:=Vn _ o;omega
 have s:=WG T (show 0<y by omega);have⟨q,a⟩:∃q,q=T/y:=⟨_,rfl⟩
 have⟨r,b⟩:∃r,r=T%y:=⟨_,rfl⟩
 have l:((T:Int).tdiv y)=q:=by rw[a];rfl
 have m:((T:Int).tmod y)=r:=by rw[b];rfl
 rw[<-a]at p ⊢;rw[<-b]at s ⊢;have e8:IntKind.u64.wrap (q:Int)=q:=cJ _ (by omega);have n:IntKind.u32.wrap (q:Int)=q:=eN _ (by omega);have c:IntKind.u32.wrap (r:Int)=r:=eN _ (by omega);have t:¬((y:Int)=0):=by omega
 have f:¬((y:Int)<=hi):=by omega
 have g:¬(y=0):=by omega
 have c4:¬(y<=hi):=by omega
 simp[h,i,j,k,e,l,m,e8,n,c,f,g]
theorem qyb (x:Nat)(a:x<4294967296):CQ prog qmu [.int .u32 x] (.int .i64 (32-ac x)):=by
 refine ap rfl fun H=>?_
 simp;refine ak rfl rfl rfl (yE x a) ?_;have h:=tG a;have e:IntKind.i64.wrap (32-(ac x:Int))=32-(ac x:Int):=by rw[wrap_i64]<;>omega
 simp[i64,e]
theorem sL (x:Nat)(e:x≠0)(o:x<4294967296):x &&& (4294967296-x)=2^tz x/\tz x<32:=by
 obtain⟨j,_,f⟩:=mE e;have c:=gZ e;have⟨k,l⟩:∃k,k=tz x:=⟨_,rfl⟩
 rw[<-l]at j f c ⊢;have a:k<32:=by
  rcases Vm k 32 with h|h
  ·exact h
  ·have:2^32<=2^k:=Vg (by omega) h;omega
 refine⟨?_,a⟩;have⟨m,n⟩:∃m,x/2^k=2*m+1:=⟨x/2^k/2,by omega⟩
 have b:x=2^k*(2*m+1):=by
  have:=Wy x (2^k);rw[f,n]at this;omega
 have g:4294967296=2^k*(2*2^(31-k)):=by
  rw[WM,<-Vs,show k+(31-k)=31 by omega]
 have d:m<2^(31-k):=by
  have:2^k*(2*m+1)<2^k*(2*2^(31-k)):=by rw[<-b,<-g];exact o
  have:=Nat.lt_of_mul_lt_mul_left this;omega
 have i:4294967296-x=2^k*(2*(2^(31-k)-(m+1))+1):=by
  rw[b,g,<-Nat.mul_sub]
  congr 1
  omega
 rw[i,b];exact KS k m (31-k) d
def deV : List V:=deB.map fun n:Nat=>V.int .u8 (n:Int)
theorem SM (k:Nat)(h:k<32):(deV.drop (2^k*125613361%4294967296/134217728))[0]?=some (V.int .u8 k):=by
 rw[Ws,VF,deV,WE,SL k h];rfl
theorem qw4 (x:Nat)(g:x≠0)(l:x<4294967296):CQ prog qks [.int .u32 x] (.int .i64 (tz x)):=by
 refine ap rfl fun H=>?_
 obtain⟨h,i⟩:=sL x g l;have⟨k,r⟩:∃k,k=tz x:=⟨_,rfl⟩
 rw[<-r]at h i ⊢;have s:¬((x:Int)=0):=by omega
 have c:IntKind.u32.wrap (-(x:Int))=((4294967296-x:Nat):Int):=by
  simp only[IntKind.wrap,IntKind.bits,IntKind.signed];simp;omega
 have d:aR .and .u32 (x:Int) ((4294967296-x:Nat):Int)=some ((2^k:Nat):Int):=by rw[CD _ _ l (by omega),h]
 have⟨P,j⟩:∃P,P=2^k:=⟨_,rfl⟩
 have⟨y,m⟩:∃y,y=4294967296-x:=⟨_,rfl⟩
 rw[<-j,<-m]at d;rw[<-m]at c;have e:IntKind.u32.wrap ((P:Int)*125613361)=((P*125613361%4294967296:Nat):Int):=by
  have:=nJ (P*125613361);rw[<-this];congr 1
 have a:=SM k i;rw[<-j]at a;have⟨Q,p⟩:∃Q,Q=P*125613361%4294967296:=⟨_,rfl⟩
 rw[<-p]at e a;have f:cH .shr .u32 (Q:Int) 27=some (.int .u32 ((Q/134217728:Nat):Int)):=fm Q 27 (by omega);have⟨R,q⟩:∃R,R=Q/134217728:=⟨_,rfl⟩
 rw[<-q]at f a;have b:R<32:=by omega
 have o:IntKind.i64.wrap (k:Int)=k:=by rw[wrap_i64]<;>omega
 rw[Ws,VF]at a;obtain⟨t,a⟩:=Vi.1 a;simp only[deV,deB,aaM,List.map_nil]at a;simp[g,c,d,e,f,b];have n:=a;simp at n;rw[n];simp[o]
theorem Dx {l:List Nat}{i v:Nat}(h:i<l.length):aw (l.set i v) i=v:=by simp[aw,h]
theorem uL : ∀{l:List Nat} {i v:Nat},i<l.length->aa (l.set i v)+4294967296^i*aw l i=aa l+4294967296^i*v
 | [],i,v,h=>by simp at h
 |x :: l,0,v,h=>by simp[aa,aw];omega
 |x :: l,i+1,v,h=>by
  have:=uL (l:=l) (i:=i) (v:=v) (by simpa using h);have e:aw (x :: l) (i+1)=aw l i:=by simp[aw]
  simp only[List.set_cons_succ,aa];rw[e,VH,VE (4294967296^i) 4294967296,Vt,Vt];omega
theorem CI {l:List Nat}{i n v:Nat}(h:n<=i):(l.set i v).take n=l.take n:=by
 rw[List.take_set,Yh (by simp;omega)]
theorem kM {l:List Nat}{i v:Nat}(h:i<l.length):aa ((l.set i v).take (i+1))=aa (l.take i)+4294967296^i*v:=by
 rw[fI,CI (Vo _),Dx h]
theorem qyx {l:List Nat}{i n v:Nat}(h:i<l.length)(b:i<n):aa ((l.set i v).take n)+4294967296^i*aw l i=aa (l.take n)+4294967296^i*v:=by
 rw[List.take_set];have a:i<(l.take n).length:=by simp;omega
 have:=uL (v:=v) a;rwa[show aw (l.take n) i=aw l i by simp[aw,b]]at this
theorem Li.set {l:List Nat}{i v:Nat}(h:Li l)(hv:v<4294967296):Li (l.set i v):=by
 intro y b;rcases Xz b with a|a
 ·exact h y a
 ·rw[a];exact hv
theorem mO {n:Nat}:Li (List.replicate n 0):=by
 intro y a;rw[(List.mem_replicate.1 a).2];omega
theorem tI {l:List Nat}{k n:Nat}(b:Li l)(a:l.length=k)(h:aa l=n):l=de k n:=by
 refine Ez b pA (by rw[pQ,a]) ?_;rw[pR,VO,h];rw[<-h,<-a];exact bz b
theorem uK (l:List Nat)(i:Nat)(v:Nat):(l.map u32).set i (.int .u32 (v:Int))=(l.set i v).map u32:=by
 rw[List.map_set];rfl
theorem nw (n:Nat):List.replicate n (V.int .u32 0)=(List.replicate n 0).map u32:=by simp[u32]
theorem UL {X Y N P x y c:Nat}(h:N+P*c=X+Y):N+P*((x+y+c)%4294967296)+P*4294967296*((x+y+c)/4294967296)=(X+P*x)+(Y+P*y):=by
 have:P*((x+y+c)%4294967296)+P*4294967296*((x+y+c)/4294967296)=P*x+P*y+P*c:=by
  rw[Vt,<-VM,aar,VM,VM]
 omega
theorem Nx {X Y N P x y c:Nat}(b:x<4294967296)(d:y<4294967296)(a:c<=1)(h:N+Y=X+P*c) :
 N+P*((x+8589934592-y-c)%4294967296)+(Y+P*y)=(X+P*x)+P*4294967296*(if x<y+c then 1 else 0):=by
 have:P*((x+8589934592-y-c)%4294967296)+P*y+P*c=P*x+P*4294967296*(if x<y+c then 1 else 0):=by
  rw[Vt,<-VM,<-VM,<-VM]
  congr 1
  split<;>omega
 omega
set_option maxHeartbeats 4000000
theorem yP {n0:Nat}{Q:AX->aA->ab->Prop}{K:List Fr}{E:aA}{H:ab}(x y:List Nat)(F:y.length<=x.length)(P:x.length<=1000000)(N:Li x)(O:Li y)
 (m:E 0=lim x) (f:E 1=lim y) (g:E 5=.ref H.length 1 0 (x.length+1)) (n:E 6=.int .u32 0) (a:E 21=lim x) (b:E 22=.int .i64 x.length) (d:E 23=.int .i64 0)
 (L:∀q l c,l.length=x.length+1->Li l->c<=1->q 0=lim x->q 5=.ref H.length 1 0 (x.length+1)->q 6=.int .u32 (c:Nat)->aa (l.take x.length)+4294967296^x.length*c=aa x+aa y ->
  WP prog n0 Q K (.exit 0) q (H++[some ⟨1,l.map u32,true,true⟩])) :
 WK prog n0 (.loop ve) K E (H++[some ⟨1,List.replicate (x.length+1) (.int .u32 0),true,true⟩]) Q:=by
 refine aJ (fun i E G=>∃l c,G=H++[some ⟨1,l.map u32,true,true⟩]/\l.length=x.length+1/\Li l/\c<=1/\E 0=lim x/\E 1=lim y/\E 5=.ref H.length 1 0 (x.length+1)/\E 6=.int .u32 (c:Nat)/\E 21=lim x/\E 22=.int .i64 x.length/\E 23=.int .i64 i /\
  aa (l.take i)+4294967296^i*c=aa (x.take i)+aa (y.take i)) x.length ?_ ?_
 ·exact⟨List.replicate (x.length+1) 0,0,by rw[nw],by simp,mO,by omega,m,f,g,n,a,b,d,by simp[aa]⟩
 ·clear m f g n a b d;rintro i E G hi ⟨l,c,rfl,s,ll,B,m,f,g,n,a,b,d,hv⟩;rcases Vm i x.length with e|M
  ·simp only[lim]at m f a;have I:IntKind.i64.wrap ((i:Int)+1)=((i+1:Nat):Int):=by rw[wrap_i64]<;>omega
   have t:=dz N i;have r:=dz O i;have p:i<l.length:=by omega
   have h:i<x.length+1:=by omega
   have st:=UL (x:=aw x i) (y:=aw y i) hv;rw[<-fI,<-fI,<-VH,<-kM p]at st;have o:i<x.length/\∃j k,H++[some ⟨1,(l.set i ((aw x i+aw y i+c)%4294967296)).map u32,true,true⟩]=H++[some ⟨1,j.map u32,true,true⟩]/\j.length=x.length+1/\Li j/\k<=1/\(aw x i+aw y i+c)/4294967296=k/\aa (j.take (i+1))+4294967296^(i+1)*k=aa (x.take (i+1))+aa (y.take (i+1)):=
    ⟨e,_,_,rfl,by simp[s],Li.set ll (by omega),by omega,rfl,st⟩
   rw[ce e]at t o;by_cases D:i<y.length
   ·rw[ce D]at r o;simp[ve,f,g,n,a,b,d,e,D,u32,lim];refine ak rfl rfl rfl (Us x[i] y[i] c t r B) ?_;obtain⟨_,j,k,u,v,w,z,J,A⟩:=o;simp[m,f,g,a,b,d,I,h,s,u32];refine⟨j,?_,v,w,k,z,by omega,A⟩;simpa[u32]using u
   ·rw[kd (by omega)]at r o;simp[ve,f,g,n,a,b,d,e,D,u32,lim];refine ak rfl rfl rfl (Us x[i] 0 c t r B) ?_;obtain⟨_,j,k,u,v,w,z,J,A⟩:=o;simp[m,f,g,a,b,d,I,h,s,u32];refine⟨j,?_,v,w,k,z,by omega,A⟩;simpa[u32]using u
  ·have C:i=x.length:=by omega
   subst C;rw[eX (l:=x) (Vo _),eX (l:=y) F]at hv;simp[ve,b,d];exact L _ l c s ll B (by simp[m]) (by simp[g]) (by simp[n]) hv
theorem vw (a b:List Nat)(r:a.length<=1000000)(s:b.length<=1000000)(t:Li a)(u:Li b):CQ prog q74 [lim a,lim b] (lim (de (max a.length b.length+1) (aa a+aa b))):=by
 refine ap rfl fun H=>?_
 have j:∀x y:List Nat,x.length<=1000000->(∀(f:aA) (l:List Nat) (c:Nat),l.length=x.length+1->Li l->c<=1->aa (l.take x.length)+4294967296^x.length*c=aa x+aa y->l.set x.length c=de (x.length+1) (aa x+aa y)):=by
  intro x y w f l c d ll k hv;refine tI (Li.set ll (by omega)) (by simp[d]) ?_;have:=kM (l:=l) (i:=x.length) (v:=c) (by omega);rw[VC (by simp;omega)]at this;omega
 rcases Vm a.length b.length with e|e
 ·rw[Nat.max_eq_right (by omega),XP (aa a)];have m:IntKind.i64.wrap ((b.length:Int)+1)=(b.length:Int)+1:=by rw[wrap_i64]<;>omega
  have n:(0:Int)<=(b.length:Int)+1:=by omega
  have f3:((b.length:Int)+1).toNat=b.length+1:=by omega
  have f4:(b.length+1)*4<=281474976710656/\b.length+1<=9223372036854775807:=by omega
  simp[lim,e,m,n,f3,f4];refine yP b a (by omega) s u t (by simp[lim]) (by simp[lim]) (by simp) (by simp) (by simp[lim]) (by simp) (by simp) ?_;intro f l c d ll k g o p hv;rw[<-j b a s f l c d ll k hv];simp only[lim]at g;have q:b.length<l.length:=by omega
  simp[g,o,p,d,u32];exact VC (by simp[d])
 ·rw[Nat.max_eq_left e];have h:¬(a.length<b.length):=by omega
  have m:IntKind.i64.wrap ((a.length:Int)+1)=(a.length:Int)+1:=by rw[wrap_i64]<;>omega
  have n:(0:Int)<=(a.length:Int)+1:=by omega
  have f3:((a.length:Int)+1).toNat=a.length+1:=by omega
  have f4:(a.length+1)*4<=281474976710656/\a.length+1<=9223372036854775807:=by omega
  simp[lim,h,m,n,f3,f4];refine yP a b (by omega) r t u (by simp[lim]) (by simp[lim]) (by simp) (by simp) (by simp[lim]) (by simp) (by simp) ?_;intro f l c d ll k g o p hv;rw[<-j a b r f l c d ll k hv];simp only[lim]at g;have q:a.length<l.length:=by omega
  simp[g,o,p,d,u32];exact VC (by simp[d])
end Go.Abs.W
namespace Go.Abs.W
set_option maxHeartbeats 2000000 in
theorem TY (a b:List Nat)(Z:a.length<=1000000)(hb:b.length<=1000000)(T:Li a)(U:Li b)(I:aa b<=aa a):CQ prog q70 [lim a,lim b] (lim (de (aB (aa a)).length (aa a-aa b))):=by
 refine ap rfl fun H=>?_
 simp;refine ak rfl rfl rfl (gj a (by omega)) ?_;simp;refine ak rfl rfl rfl (gj b (by omega)) ?_;have K:=nu a;have M:=nu b;rw[eh T]at K ⊢;rw[eh U]at M ⊢;have W:=aY (aa a);have Y:=aY (aa b);have vx:=aP (aa a);have vy:=aP (aa b);have N:(aB (aa b)).length<=(aB (aa a)).length:=i6 I (Vo _);generalize aB (aa a)=x at *
 generalize aB (aa b)=y at *
 have f4:x.length*4<=281474976710656/\x.length<=9223372036854775807:=by omega
 simp[lim,f4];refine aJ (fun i E O=>∃l c,O=H++[some ⟨1,l.map u32,true,true⟩]/\l.length=x.length/\Li l/\c<=1/\E 1=lim y/\E 5=.ref H.length 1 0 x.length/\E 6=.int .u32 (c:Nat)/\E 17=lim x/\E 18=.int .i64 x.length/\E 19=.int .i64 i /\
  aa (l.take i)+aa (y.take i)=aa (x.take i)+4294967296^i*c) x.length ?_ ?_
 ·exact⟨List.replicate x.length 0,0,by rw[nw],by simp,mO,by omega,by simp[lim],by simp,by simp,by simp[lim],by simp,by simp,by simp[aa]⟩
 ·rintro i E O hi ⟨l,c,rfl,o,ll,D,r,s,Q,d,f,g,hv⟩;rcases Vm i x.length with j|S
  ·simp only[lim]at r d;have P:IntKind.i64.wrap ((i:Int)+1)=((i+1:Nat):Int):=by rw[wrap_i64]<;>omega
   have u:=dz W i;have p:=dz Y i;have t:i<l.length:=by omega
   have st:=Nx (x:=aw x i) (y:=aw y i) u p D hv;rw[<-fI,<-fI,<-VH,<-kM t]at st;have q:∃k m,H++[some ⟨1,(l.set i ((aw x i+8589934592-aw y i-c)%4294967296)).map u32,true,true⟩]=H++[some ⟨1,k.map u32,true,true⟩]/\k.length=x.length/\Li k/\m<=1/\(if aw x i<aw y i+c then 1 else 0)=m/\aa (k.take (i+1))+aa (y.take (i+1))=aa (x.take (i+1))+4294967296^(i+1)*m:=
    ⟨_,_,rfl,by simp[o],Li.set ll (by omega),by split<;>omega,rfl,st⟩
   rw[ce j]at u q;by_cases L:i<y.length
   ·rw[ce L]at p q;simp[C5,r,s,Q,d,f,g,j,L,u32,lim];refine ak rfl rfl rfl (yM x[i] y[i] c u p D) ?_;obtain⟨k,m,v,w,z,A,B,C⟩:=q;rw[B];simp[r,s,d,f,g,P,j,o,u32];refine⟨k,?_,w,z,m,A,rfl,C⟩;simpa[u32]using v
   ·rw[kd (by omega)]at p q;simp[C5,r,s,Q,d,f,g,j,L,u32,lim];refine ak rfl rfl rfl (yM x[i] 0 c u p D) ?_;obtain⟨k,m,v,w,z,A,B,C⟩:=q;rw[B];simp[r,s,d,f,g,P,j,o,u32];refine⟨k,?_,w,z,m,A,rfl,C⟩;simpa[u32]using v
  ·have G:i=x.length:=by omega
   subst G;rw[eX (l:=x) (Vo _),eX (l:=y) N,eX (l:=l) (by omega)]at hv;have J:=bz ll;rw[o]at J;have F:c=0:=by
    rcases Wu c with h|h
    ·exact h
    ·have:c=1:=by omega
     subst this;omega
   subst F;have e:=tI ll o (n:=aa a-aa b) (by omega);rw[<-e];simp[C5,s,f,g,o,lim];exact VC (by simp[o])
set_option maxHeartbeats 4000000
theorem zs {x y d c:Nat}(e:x<4294967296)(f:y<4294967296)(b:d<4294967296)(a:c<4294967296):x*y+d+c<18446744073709551616/\x*y<18446744073709551616/\x*y+d<18446744073709551616/\(x*y+d+c)/4294967296<4294967296:=by
 have:x*y<=4294967295*4294967295:=Wi (by omega) (by omega);omega
theorem Aa {N a R P x y c d T Y:Nat}(h:N+P*c=R+Y)(b:a+P*d=N+P*(T%4294967296))(hT:T=x*y+d+c) :
 a+P*4294967296*(T/4294967296)=R+(Y+P*(x*y)):=by
 have:P*(T%4294967296)+P*4294967296*(T/4294967296)=P*(x*y)+P*d+P*c:=by
  rw[Vt,<-VM,aar,hT,VM,VM]
 omega
theorem K9 {n0:Nat}{Q:AX->aA->ab->Prop}{K:List Fr}{E:aA}{H:ab}(b l:List Nat)(i n x:Nat)(_hb:b.length<=1000000)(lb:Li b)(hl:l.length=n)(hn:i+b.length<n)(hn2:n<=3000000)(ll:Li l)(hx:x<4294967296)(A:List V)
 (s:E 5=.ref H.length 1 0 n) (t:E 6=.int .i64 i) (z:E 7=.int .u32 (x:Nat)) (u:E 8=.int .u64 0) (g:E 25=lim b) (h:E 26=.int .i64 b.length) (m:E 27=.int .i64 0) (r:E 1=lim b)
 (d:E 18=.sl A) (e:E 19=.int .i64 A.length) (f:E 20=.int .i64 i)
 (hQ:∀p a c,a.length=n->Li a->c<4294967296->aa (a.take (i+b.length))+4294967296^(i+b.length)*c=aa (l.take (i+b.length))+4294967296^i*(x*aa b) ->
  p 1=lim b->p 5=.ref H.length 1 0 n->p 6=.int .i64 i->p 8=.int .u64 (c:Nat)->p 18=.sl A->p 19=.int .i64 A.length->p 20=.int .i64 i ->
  WP prog n0 Q K (.exit 2) p (H++[some ⟨1,a.map u32,true,true⟩])) :
 WK prog n0 (.loop C3) K E (H++[some ⟨1,l.map u32,true,true⟩]) Q:=by
 refine aJ (fun k E G=>∃a c,G=H++[some ⟨1,a.map u32,true,true⟩]/\a.length=n/\Li a/\c<4294967296/\E 1=lim b/\E 5=.ref H.length 1 0 n/\E 6=.int .i64 i/\E 7=.int .u32 (x:Nat)/\E 8=.int .u64 (c:Nat)/\E 18=.sl A/\E 19=.int .i64 A.length/\E 20=.int .i64 i/\E 25=lim b/\E 26=.int .i64 b.length/\E 27=.int .i64 k /\
  aa (a.take (i+b.length))+4294967296^(i+k)*c=aa (l.take (i+b.length))+4294967296^i*(x*aa (b.take k))) b.length ?_ ?_
 ·exact⟨l,0,rfl,hl,ll,by omega,r,s,t,z,u,d,e,f,g,h,m,by simp[aa]⟩
 ·clear r s t z u d e f g h m;rintro k E G hk ⟨a,c,rfl,w,q,O,r,s,t,z,u,d,e,f,g,h,m,hv⟩;rcases Vm k b.length with y|hge
  ·simp only[lim]at r g;have Z:IntKind.i64.wrap ((k:Int)+1)=((k+1:Nat):Int):=by rw[wrap_i64]<;>omega
   have N:IntKind.i64.wrap ((i:Int)+k)=((i+k:Nat):Int):=by rw[wrap_i64]<;>omega
   have I:=dz lb k;have⟨j,P⟩:∃j,j=i+k:=⟨_,rfl⟩
   have o:j<a.length:=by omega
   have dl:=dz q j;have⟨T,hT⟩:∃T,T=x*aw b k+aw a j+c:=⟨_,rfl⟩
   obtain⟨m1,S,U,F⟩:=zs hx I dl O;rw[<-hT]at m1 F;have J:4294967296^i*(x*aa (b.take k))+4294967296^(i+k)*(x*aw b k)=4294967296^i*(x*aa (b.take (k+1))):=by
    rw[fI,Vs,Vt,<-VM,WM (4294967296^k),<-VM]
   rw[<-P]at hv J N;have st:=Aa hv (qyx (v:=T%4294967296) o (n:=i+b.length) (by omega)) hT;rw[J,<-VH]at st;have⟨M,hM⟩:∃M,M=x*aw b k:=⟨_,rfl⟩
   rw[<-hM]at hT S U;rw[ce y]at I hM;rw[ce o]at dl hT U;have t1:IntKind.u64.wrap (x:Int)=x:=cJ _ (by omega);have t2:IntKind.u64.wrap (b[k]:Int)=b[k]:=cJ _ (by omega);have t3:IntKind.u64.wrap ((x:Int)*b[k])=M:=by
    rw[show(x:Int)*b[k]=((M:Nat):Int) by rw[hM];simp];exact cJ _ S
   have t4:IntKind.u64.wrap (a[j]:Int)=a[j]:=cJ _ (by omega);have t5:IntKind.u64.wrap ((M:Int)+a[j])=(M:Int)+a[j]:=by rw[ee]<;>omega
   have t6:IntKind.u64.wrap ((M:Int)+a[j]+c)=T:=by rw[ee]<;>omega
   have W:IntKind.u32.wrap (T:Int)=((T%4294967296:Nat):Int):=nJ T;have Y:cH .shr .u64 (T:Int) 32=some (.int .u64 ((T/4294967296:Nat):Int)):=cf T 32 (by omega);have⟨L,hL⟩:∃L,L=T%4294967296:=⟨_,rfl⟩
   have⟨C,hC⟩:∃C,C=T/4294967296:=⟨_,rfl⟩
   rw[<-hL]at W st;rw[<-hC]at Y st F;have B:j<n:=by omega
   simp[C3,r,s,t,z,u,d,e,f,g,h,m,y,o,B,u32,lim,t1,t2,t3,t4,t5,t6,W,Y,Z,N];refine⟨a.set j L,?_,by simp[w],Li.set q (by omega),C,F,rfl,?_⟩
   ·simp[u32]
   ·rw[P]at st ⊢;exact st
  ·have D:k=b.length:=by omega
   subst D;rw[eX (l:=b) (Vo _)]at hv;simp[C3,h,m];exact hQ _ a c w q O hv (by simp[r]) (by simp[s]) (by simp[t]) (by simp[u]) (by simp[d]) (by simp[e]) (by simp[f])
theorem Tw (a b:List Nat)(T:a.length<=1000000)(L:b.length<=1000000)(O:Li a)(P:Li b):CQ prog q73 [lim a,lim b] (lim (de (a.length+b.length) (aa a*aa b))):=by
 refine ap rfl fun H=>?_
 have z:IntKind.i64.wrap ((a.length:Int)+b.length)=((a.length+b.length:Nat):Int):=by rw[wrap_i64]<;>omega
 have⟨n,F⟩:∃n,n=a.length+b.length:=⟨_,rfl⟩
 rw[<-F]at z;have f4:n*4<=281474976710656/\n<=9223372036854775807:=by omega
 simp[lim,z,f4];refine aJ (fun i E y=>∃l,y=H++[some ⟨1,l.map u32,true,true⟩]/\l.length=n/\Li l/\E 1=lim b/\E 5=.ref H.length 1 0 n/\E 18=lim a/\E 19=.int .i64 a.length/\E 20=.int .i64 i /\
  aa (l.take (i+b.length))=aa (a.take i)*aa b) a.length ?_ ?_
 ·exact⟨List.replicate n 0,by rw[nw],by simp,mO,by simp[lim],by simp,by simp[lim],by simp,by simp,by simp[aa,qW]⟩
 ·rintro i E y hi ⟨l,rfl,o,ll,s,B,d,e,f,hv⟩;rcases Vm i a.length with g|M
  ·simp only[lim]at s d;have G:IntKind.i64.wrap ((i:Int)+1)=((i+1:Nat):Int):=by rw[wrap_i64]<;>omega
   have A:IntKind.i64.wrap ((i:Int)+b.length)=((i+b.length:Nat):Int):=by rw[wrap_i64]<;>omega
   have Q:=O _ (Vy g);simp[Io,s,d,e,f,g,u32,lim];refine K9 b l i n a[i] L P o (by omega) (by omega) ll Q (a.map u32) (by simp[B]) (by simp) (by simp) (by simp) (by simp[lim]) (by simp) (by simp) (by simp[s,lim]) (by simp[d]) (by simp[e]) (by simp[f]) ?_;intro S w c k x C m h I J K p q r;simp only[lim]at h;have f6:IntKind.u32.wrap (c:Int)=c:=eN c C;have⟨j,N⟩:∃j,j=i+b.length:=⟨_,rfl⟩
   rw[<-N]at A m hv;have u:j<w.length:=by omega
   have v:j<n:=by omega
   have st:aa ((w.set j c).take (j+1))=aa (a.take (i+1))*aa b:=by
    rw[kM u,fI,VI,<-hv,m,ce g,Vt]
   have D:a.length=(a.map u32).length:=by simp
   simp[h,I,J,K,p,q,r,G,A,f6,v,k,u32];refine⟨w.set j c,by simp[u32],by simp[k],Li.set x C,?_⟩;rw[show i+1+b.length=j+1 by omega];exact st
  ·have t:i=a.length:=by omega
   subst t;rw[eX (l:=a) (Vo _),eX (l:=l) (by omega)]at hv;rw[<-F,<-tI ll o hv];simp[Io,B,e,f,o,lim];exact VC (by simp[o])
end Go.Abs.W
namespace Go.Abs.W
set_option maxHeartbeats 4000000
theorem rW (a:List Nat)(n:Nat)(ha:a.length<=1000000)(la:Li a)(hn:n<=100000000):CQ prog q71 [lim a,.int .i64 n] (lim (de ((aB (aa a)).length-n/32) (aa a/2^n))):=by
 refine ap rfl fun H=>?_
 simp;refine ak rfl rfl rfl (gj a (by omega)) ?_;have K:=nu a;rw[eh la]at K ⊢;have Z:=aY (aa a);have vy:=(aP (aa a)).symm;generalize aB (aa a)=y at *
 rw[vy];have⟨q,F⟩:∃q,q=n/32:=⟨_,rfl⟩
 have⟨s,hs⟩:∃s,s=n%32:=⟨_,rfl⟩
 have q1:(n:Int)/32=q:=by omega
 have s1:(n:Int).tmod 32=s:=by rw[VZ (by omega)];omega
 have o:s<32:=by omega
 have O:IntKind.i64.wrap (q:Int)=q:=by rw[wrap_i64]<;>omega
 have e:aa y/2^n=aa (y.drop q)/2^s:=by
  rw[show n=32*q+s by omega,Vs,<-bB,<-Ww,mP Z]
 rw[e,<-F];rcases Vm q y.length with hlt|hge
 ·have B:¬((y.length:Int)<=q):=by omega
  have⟨x,v⟩:∃x,x=y.drop q:=⟨_,rfl⟩
  have w:Li x:=by rw[v];exact Z.drop _
  have p:List.drop q (List.map u32 y)=List.map u32 x:=by rw[v,List.map_drop]
  have J:x.length=y.length-q:=by rw[v];simp
  rw[<-v,<-J];have h:=Z6 x;rw[<-p]at h;simp only[fF]at h;have G:q<=y.length:=by omega
  have ht:List.take y.length (List.map u32 y)=List.map u32 y:=VC (by simp);simp[lim,q1,O,B,G,ht];rw[Vh (.inr h),p];have f4:x.length*4<=281474976710656/\x.length<=9223372036854775807:=by omega
  simp[f4];refine aJ (fun i E N=>∃l,N=H++[some ⟨1,l.map u32,true,true⟩]/\l.length=x.length/\Li l/\E 0=lim x/\E 1=.int .i64 n/\E 5=.ref H.length 1 0 x.length/\E 23=lim x/\E 24=.int .i64 x.length/\E 25=.int .i64 i /\
   aa (l.take i)=aa x/2^s%4294967296^i) x.length ?_ ?_
  ·exact⟨List.replicate x.length 0,by rw[nw],by simp,mO,by simp[lim],by simp,by simp,by simp[lim],by simp,by simp,by simp[aa,XO]⟩
  ·rintro i E N hi ⟨l,rfl,u,ll,z,Q,A,c,d,f,hv⟩;rcases Vm i x.length with r|r
   ·simp only[lim]at z c;have f1:IntKind.i64.wrap ((i:Int)+1)=((i+1:Nat):Int):=by rw[wrap_i64]<;>omega
    have k:IntKind.i64.wrap ((i:Int)+1)=(i:Int)+1:=by rw[wrap_i64]<;>omega
    have f0:(0:Int)<=(i:Int)+1:=by omega
    have b:i<l.length:=by omega
    have da:=dz w i;have db:=dz w (i+1);have st:aa (l.take i)+4294967296^i*(aa x/2^s/4294967296^i%4294967296)=aa x/2^s%4294967296^(i+1):=by
     rw[hv,VH,aak]
    rw[DW w i s o]at st;have⟨T,hT⟩:∃T,T=aw x i+4294967296*aw x (i+1):=⟨_,rfl⟩
    have C:T<2^64:=by omega
    have f4:cH .shr .u64 (T:Int) (s:Int)=some (.int .u64 ((T/2^s:Nat):Int)):=cf T s (by omega);rw[<-hT]at st;have⟨Y,S⟩:∃Y,Y=T/2^s:=⟨_,rfl⟩
    have hY2:Y<2^64:=by rw[S];exact V4 (VY _ _) C
    rw[<-S]at f4 st;have f6:IntKind.u32.wrap (Y:Int)=((Y%4294967296:Nat):Int):=nJ Y;have⟨L,hL⟩:∃L,L=Y%4294967296:=⟨_,rfl⟩
    rw[<-hL]at f6 st;rw[<-kM b]at st;have go:∃j:List Nat,H++[some ⟨1,(l.map u32).set i (.int .u32 (L:Nat)),true,true⟩]=H++[some ⟨1,j.map u32,true,true⟩]/\j.length=x.length/\Li j/\aa (j.take (i+1))=aa x/2^s%4294967296^(i+1):=
     ⟨l.set i L,by rw[uK],by simp[u],Li.set ll (by omega),st⟩
    obtain⟨j,U,W,k3,k4⟩:=go;rw[ce r]at da hT;have M:IntKind.u64.wrap (x[i]:Int)=x[i]:=cJ _ (by omega);rcases Vm (i+1) x.length with t|t
    ·rw[ce t]at db hT;have t2:IntKind.u64.wrap (x[i+1]:Int)=x[i+1]:=cJ _ (by omega);have g:(i:Int)+1<x.length:=by omega
     have t3:cH .shl .u64 (x[i+1]:Int) 32=some (.int .u64 ((x[i+1]*2^32:Nat):Int)):=eU _ 32 (by omega) (by omega);have t4:aR .or .u64 (x[i]:Int) ((x[i+1]*2^32:Nat):Int)=some (T:Int):=by
      have:=q9 x[i+1] 32 x[i] (by omega) (by omega) (by omega);rw[D3 _ _ (by omega) (by omega)]at this ⊢;rw[abQ,this,hT]
      congr 2;omega
     have⟨P,hP⟩:∃P,P=x[i+1]*2^32:=⟨_,rfl⟩
     rw[<-hP]at t3 t4;simp[C4,z,Q,A,c,d,f,r,t,g,b,u32,M,t2,t3,t4,s1,f0,k,f4,f6,lim];exact⟨j,by simpa[u32]using U,W,k3,k4⟩
    ·rw[kd t]at hT;have m:x[i]=T:=by omega
     have g:¬(i:Int)+1<x.length:=by omega
     rw[m]at M;simp[C4,z,Q,A,c,d,f,r,g,b,u32,m,M,s1,k,f4,f6,lim];exact⟨j,by simpa[u32]using U,W,k3,k4⟩
   ·have D:i=x.length:=by omega
    subst D;rw[eX (l:=l) (by omega)]at hv;have I:aa l=aa x/2^s:=by
     have:=bz w;rw[hv,VO];exact V4 (VY _ _) this
    rw[<-tI ll u I];simp[C4,A,d,f,u,lim];exact VC (by simp[u])
 ·have B:((y.length:Int)<=q):=by omega
  rw[show y.length-q=0 by omega];simp[lim,q1,O,B,de]
theorem NQ (a:List Nat)(d:Nat)(O:a.length<=1000000)(N:Li a)(b:0<d)(I:d<4294967296):CQ prog q1p [lim a,.int .u32 d] (.tup [lim (de a.length (aa a/d)),.int .u32 (aa a%d:Nat)]):=by
 refine ap rfl fun H=>?_
 have f4:a.length*4<=281474976710656/\a.length<=9223372036854775807:=by omega
 have⟨R,x⟩:∃R,R=aa a%d:=⟨_,rfl⟩
 have⟨Z,y⟩:∃Z,Z=aa a/d:=⟨_,rfl⟩
 rw[<-x,<-y];simp[lim,f4];refine e9 (fun k E t=>∃l r,t=H++[some ⟨1,l.map u32,true,true⟩]/\l.length=a.length/\Li l/\r<d/\k<=a.length/\E 0=lim a/\E 1=.int .u32 d/\E 6=.ref H.length 1 0 a.length/\E 7=.int .u32 (r:Nat)/\E 8=.int .i64 ((k:Int)-1) /\
  aa (a.drop k)=aa (l.drop k)*d+r) a.length ?_ ?_
 ·have h:IntKind.i64.wrap ((a.length:Int)-1)=(a.length:Int)-1:=by rw[wrap_i64]<;>omega
  exact⟨List.replicate a.length 0,0,by simp[u32],by simp,mO,b,Vo _,by simp[lim],by simp,by simp,by simp,by simp[h],by simp[aa]⟩
 ·rintro n E t ⟨l,r,rfl,i,ll,j,P,o,v,p,w,q,hv⟩;rcases n with _|n
  ·have u:¬((0:Int)<=-1):=by omega
   have f:aa a=aa l*d+r:=by simpa using hv
   have B:aa a/d=aa l:=by rw[f,VE,XE b,We j,VF]
   have C:aa a%d=r:=by rw[f,VE,XT,VO j]
   have D:R=r:=by rw[x,C]
   have F:aa l=Z:=by rw[y,B]
   rw[<-tI ll i F,D];refine b9 ?_;simp[Ja,p,w,q,i,lim];exact VC (by simp[i])
  ·have h:(n+1:Int)-1=n:=by omega
   have m:n<a.length:=by omega
   have g:n<l.length:=by omega
   have A:((0:Int)<=n):=by omega
   have u:IntKind.i64.wrap ((n:Int)-1)=(n:Int)-1:=by rw[wrap_i64]<;>omega
   have s:a[n]<4294967296:=N _ (Vy m);have e:=fH a n;rw[ce m,hv]at e;have⟨T,hT⟩:∃T,T=r*4294967296+a[n]:=⟨_,rfl⟩
   have J:T/d<4294967296:=by
    rw[VW b];have:(r+1)*4294967296<=d*4294967296:=Vn _ j;omega
   have K:T%d<d:=WG _ b;have st:aa (a.drop n)=aa ((l.set n (T/d)).drop n)*d+T%d:=by
    rw[fH (l.set n (T/d)),Dx g,WU (by omega),e,VI,Vt];have:=WY T d;generalize aa (l.drop (n+1))*d=Z at *
    omega
   have G:∃(c:List Nat),H++[some ⟨1,(l.map u32).set n (.int .u32 (T/d:Nat)),true,true⟩]=H++[some ⟨1,c.map u32,true,true⟩]/\c.length=a.length/\Li c/\aa (a.drop n)=aa (c.drop n)*d+T%d:=
    ⟨l.set n (T/d),by rw[uK],by simp[i],Li.set ll J,st⟩
   obtain⟨c,L,M,k3,k4⟩:=G;have z:=MT r a[n] d j s I;rw[<-hT]at z;generalize T/d=Q at *
   generalize T%d=rr at *
   simp only[lim]at o;refine b9 ?_;simp[Ja,o,v,p,w,q,h,A,m,u32,lim];refine zq z ?_;simp[o,v,p,q,h,u,A,m,g,u32];exact⟨n,by omega,c,by simpa[u32]using L,M,k3,rr,by omega,by omega,rfl,rfl,k4⟩
end Go.Abs.W
namespace Go.Abs.W
def gK (third v w:Nat):Nat->Nat->Nat
 |0,_=>0
 |q+1,rest=>if rest<4294967296/\(q+1)*w > rest*4294967296+third then gK third v w q (rest+v)else q+1
theorem UV {third v w:Nat}:∀(q rest:Nat),gK third v w q rest<=q
 |0,_=>Vo _
 |q+1,rest=>by
  unfold gK;split
  ·exact abF (UV q _)
  ·exact Vo _
theorem Ee {third v w a:Nat}(j:w<4294967296):∀(q rest:Nat),q<=4294967296->a=q*v+rest ->
 gK third v w q rest*(v*4294967296+w)<=a*4294967296+third/\∀d,d<=q->d*(v*4294967296+w)<=a*4294967296+third->d<=gK third v w q rest
 |0,rest,_,h=>by simp[gK]
 |q+1,rest,n,h=>by
  have e:(q+1)*(v*4294967296+w)=(q+1)*v*4294967296+(q+1)*w:=by rw[VM,Vt]
  have f:a*4294967296+third=(q+1)*v*4294967296+(rest*4294967296+third):=by rw[h,VI];omega
  unfold gK;split
  ·rename_i g;have k:a=q*v+(rest+v):=by rw[h,VI];omega
   obtain⟨o,p⟩:=Ee (third:=third) j q (rest+v) (by omega) k;refine⟨o,fun d i b=>p d ?_ b⟩;rcases Vm d (q+1)with m|l
   ·omega
   ·have:d=q+1:=by omega
    subst this;rw[e,f]at b;omega
  ·rename_i g;refine⟨?_,fun d i _=>i⟩;rw[e,f];rcases Vm rest 4294967296 with c|c
   ·have:¬(q+1)*w > rest*4294967296+third:=fun h=>g ⟨c,h⟩
    omega
   ·have r:(q+1)*w<=4294967296*4294967296:=Wi n (W6 j);have s:4294967296*4294967296<=rest*4294967296:=Vn _ c;omega
def jt (top next third v w:Nat):Nat:=
 if v<=top then gK third v w (4294967296-1) ((top-v)*4294967296+next+v)
 else gK third v w ((top*4294967296+next)/v) ((top*4294967296+next)%v)
theorem AJ {top next third v w:Nat}(a:next<4294967296)(hv:0<v):jt top next third v w<4294967296:=by
 unfold jt;split
 ·exact V4 (UV _ _) (by decide)
 ·rename_i h;refine V4 (UV _ _) ?_;rw[VW hv];have:(top+1)*4294967296<=v*4294967296:=Vn _ (by omega);rw[VI]at this;rw[VE 4294967296 v];omega
theorem RH {top next third v w:Nat}(m:next<4294967296)(n:third<4294967296)(j:w<4294967296)(hv:0<v)(i:top<=v) :
 jt top next third v w*(v*4294967296+w)<=(top*4294967296+next)*4294967296+third/\∀d,d<4294967296->d*(v*4294967296+w)<=(top*4294967296+next)*4294967296+third->d<=jt top next third v w:=by
 unfold jt;split
 ·rename_i h;have:top=v:=by omega
  subst this;have e:top*4294967296+next=(4294967296-1)*top+((top-top)*4294967296+next+top):=by
   rw[aau,WR,W1,VE top 4294967296];omega
  obtain⟨f,g⟩:=Ee (third:=third) j (4294967296-1) ((top-top)*4294967296+next+top) (by omega) e;exact⟨f,fun d k a=>g d (by omega) a⟩
 ·rename_i h;have e:top*4294967296+next=(top*4294967296+next)/v*v+(top*4294967296+next)%v:=(WY _ _).symm;have l:(top*4294967296+next)/v<4294967296:=by
   rw[VW hv];have:(top+1)*4294967296<=v*4294967296:=Vn _ (by omega);rw[VI]at this;rw[VE 4294967296 v];omega
  obtain⟨f,g⟩:=Ee (third:=third) j _ _ (W6 l) e;refine⟨f,fun d k a=>g d ?_ a⟩;rw[Wq hv];rw[VM,<-Vt]at a;rcases Vm (top*4294967296+next) (d*v)with c|b
  ·exfalso;have:(top*4294967296+next+1)*4294967296<=d*v*4294967296:=Vn _ c;rw[VI]at this;omega
  ·exact b
theorem Qv {top next third v w k f b:Nat}(u:next<4294967296)(F:third<4294967296)(H:w<4294967296)(hv:4294967296/2<=v)(G:v<4294967296)(q:f<4294967296^k)(p:b<4294967296^k)
 (j:((top*4294967296+next)*4294967296+third)*4294967296^k+f<((v*4294967296+w)*4294967296^k+b)*4294967296) :
 (((top*4294967296+next)*4294967296+third)*4294967296^k+f)/((v*4294967296+w)*4294967296^k+b)<=jt top next third v w /\
 jt top next third v w<=(((top*4294967296+next)*4294967296+third)*4294967296^k+f)/((v*4294967296+w)*4294967296^k+b)+1:=by
 have⟨a,i⟩:∃a,a=v*4294967296+w:=⟨_,rfl⟩
 have⟨c,g⟩:∃c,c=(top*4294967296+next)*4294967296+third:=⟨_,rfl⟩
 have⟨P,n⟩:∃P,P=4294967296^k:=⟨_,rfl⟩
 have o:0<P:=by rw[n];exact Xs (by omega)
 rw[<-i,<-g,<-n]at j ⊢;rw[<-n]at q p;have s:4294967296<=a:=by
  omega
 have e:0<a*P+b:=Vx (Xj (by omega) o) (X9 _ _);have l:top<=v:=by
  rcases Vm v top with h|h
  ·exfalso;have m:(a+1)*4294967296<=c:=by omega
   have J:(a+1)*4294967296*P<=c*P:=Vn _ m;have D:a*P+b<=(a+1)*P:=by rw[VI];omega
   have E:(a*P+b)*4294967296<=(a+1)*P*4294967296:=Vn _ D;rw[Ym]at E;omega
  ·exact h
 obtain⟨y,z⟩:=RH (third:=third) u F H (by omega) l;rw[<-i,<-g]at y z;have A:=AJ (top:=top) (third:=third) (w:=w) u (show 0<v by omega);refine⟨z _ ?_ ?_,?_⟩
 ·rw[VW e,VE 4294967296];exact j
 · -- d a P ≤ d V ≤ W < (c + 1) P
   have⟨d,t⟩:∃d,d=(c*P+f)/(a*P+b):=⟨_,rfl⟩
   rw[<-t];have B:d*(a*P+b)<=c*P+f:=by rw[t];exact WT _ _
   have C:d*a*P<=d*(a*P+b):=by rw[VM,<-Vt];omega
   have m:d*a*P<(c+1)*P:=by rw[VI];omega
   have:=Xv m;omega
 ·have⟨x,I⟩:∃x,x=jt top next third v w:=⟨_,rfl⟩
  rw[<-I]at y A ⊢;rcases Wu x with r|r
  ·rw[r];exact Xa _
  ·have:x-1<=(c*P+f)/(a*P+b):=by
    rw[Wq e];have B:(x-1)*(a*P+b)<=(x-1)*((a+1)*P):=VN _ (by rw[VI];omega);have C:(x-1)*((a+1)*P)<=c*P:=by
     rw[<-Vt];refine Vn _ ?_;rw[VM,XN];have m:(x-1)*a+a=x*a:=by rw[<-Nat.succ_mul];congr 1;omega
     omega
    omega
   generalize (c*P+f)/(a*P+b)=d at *
   omega
set_option maxHeartbeats 4000000
theorem yR (q rest third v w:Nat)(F:q<4294967296)(p:rest<18446744065119617024)(G:third<4294967296)(hv:v<4294967296)(I:w<4294967296) :
 CQ prog Zk [.int .u64 q,.int .u64 rest,.int .u32 third,.int .u32 v,.int .u32 w] (.int .u64 (gK third v w q rest)):=by
 refine ap rfl fun H=>?_
 simp;refine e9 (fun k E m=>∃r:Nat,m=H/\k<=q/\r<18446744065119617024/\E 0=.int .u64 k/\E 1=.int .u64 r/\E 2=.int .u32 third/\E 3=.int .u32 v/\E 4=.int .u32 w/\gK third v w k r=gK third v w q rest) q ?_ ?_
 ·simp;exact⟨rest,p,rfl,rfl⟩
 ·rintro k E m ⟨r,rfl,D,p,e,g,n,y,o,i⟩;have s:IntKind.u64.wrap (w:Int)=w:=cJ _ (by omega);have t:IntKind.u64.wrap (third:Int)=third:=cJ _ (by omega);have C:IntKind.u64.wrap (v:Int)=v:=cJ _ (by omega);by_cases d:r<4294967296
  ·have a:(r:Int)<4294967296:=by omega
   have J:k*w<=4294967295*4294967295:=Wi (by omega) (by omega);have⟨M,hM⟩:∃M,M=k*w:=⟨_,rfl⟩
   have j:IntKind.u64.wrap ((k:Int)*w)=M:=by
    rw[show(k:Int)*w=((M:Nat):Int) by rw[hM];simp];exact cJ _ (by omega)
   have l:cH .shl .u64 (r:Int) 32=some (.int .u64 ((r*2^32:Nat):Int)):=eU _ 32 (by omega) (by omega);have f:aR .or .u64 ((r*2^32:Nat):Int) (third:Int)=some ((r*2^32+third:Nat):Int):=q9 _ _ _ (by omega) (by omega) (by omega);have⟨P,z⟩:∃P,P=r*2^32:=⟨_,rfl⟩
   rw[<-z]at l f;have⟨U,A⟩:∃U,U=P+third:=⟨_,rfl⟩
   rw[<-A]at f;by_cases B:U<M
   ·have c:(U:Int)<M:=by omega
    rcases k with _|k
    ·simp at hM;omega
    ·have u:IntKind.u64.wrap (k:Int)=k:=cJ _ (by omega);have x:IntKind.u64.wrap ((r:Int)+v)=((r+v:Nat):Int):=by rw[ee]<;>omega
     have b:gK third v w k (r+v)=gK third v w q rest:=by
      rw[<-i,gK,Vh ⟨d,by omega⟩]
     refine b9 ?_;simp only[abi,abj]at e j;simp[Da,e,g,n,y,o,s,t,C,j,l,f,a,c,u,x];exact⟨k,by omega,by omega,r+v,by omega,rfl,by simp,b⟩
   ·have c:¬(U:Int)<M:=by omega
    have b:gK third v w k r=k:=by
     cases k with
     |zero=>rfl
     |succ k=>rw[gK,Vk (by rintro⟨_,h⟩;omega)]
    refine b9 ?_;simp[Da,e,g,n,o,s,t,j,l,f,a,c,<-i,b]
  ·have a:¬(r:Int)<4294967296:=by omega
   have b:gK third v w k r=k:=by
    cases k with
    |zero=>rfl
    |succ k=>rw[gK,Vk (by rintro⟨h,_⟩;exact d h)]
   refine b9 ?_;simp[Da,e,g,a,<-i,b]
theorem M7 (top next third v w:Nat)(I:top<=v)(F:next<4294967296)(l:third<4294967296)(h:0<v)(hv:v<4294967296)(q:w<4294967296) :
 CQ prog q1q [.int .u32 top,.int .u32 next,.int .u32 third,.int .u32 v,.int .u32 w] (.int .u64 (jt top next third v w)):=by
 refine ap rfl fun H=>?_
 have r:IntKind.u64.wrap (top:Int)=top:=cJ _ (by omega);have s:IntKind.u64.wrap (next:Int)=next:=cJ _ (by omega);have C:IntKind.u64.wrap (v:Int)=v:=cJ _ (by omega);by_cases c:v<=top
 ·have d:(v:Int)<=top:=by omega
  have e:top=v:=by omega
  subst e;have i:IntKind.u32.wrap 0=0:=rfl;have j:cH .shl .u64 0 32=some (.int .u64 0):=rfl;have D:IntKind.u64.wrap 0=0:=rfl;have t:IntKind.u64.wrap ((next:Int)+top)=((next+top:Nat):Int):=by rw[ee]<;>omega
  have b:jt top next third top w=gK third top w 4294967295 (next+top):=by simp[jt]
  have⟨N,z⟩:∃N,N=next+top:=⟨_,rfl⟩
  rw[<-z]at b t;have⟨G,m⟩:∃G,G=jt top next third top w:=⟨_,rfl⟩
  rw[<-m];rw[<-m]at b;simp[r,s,i,j,D,t];have k:CQ prog Zk [.int .u64 4294967295,.int .u64 N,.int .u32 third,.int .u32 top,.int .u32 w] _:=yR 4294967295 N third top w (by omega) (by omega) l hv q;rw[<-b]at k;refine zq k ?_;simp
 ·have d:¬(v:Int)<=top:=by omega
  have i:cH .shl .u64 (top:Int) 32=some (.int .u64 ((top*2^32:Nat):Int)):=eU _ 32 (by omega) (by omega);have j:aR .or .u64 ((top*2^32:Nat):Int) (next:Int)=some ((top*2^32+next:Nat):Int):=q9 _ _ _ (by omega) (by omega) (by omega);have⟨U,o⟩:∃U,U=top*2^32+next:=⟨_,rfl⟩
  have⟨P,n⟩:∃P,P=top*2^32:=⟨_,rfl⟩
  have b:jt top next third v w=gK third v w (U/v) (U%v):=by rw[o];simp[jt,c]
  rw[<-o,<-n]at j;rw[<-n]at i;have A:U<18446744073709551616:=by omega
  have E:¬((v:Int)=0):=by omega
  have u:¬(v=0):=by omega
  have p:U/v<4294967296:=by
   rw[VW h];have:(top+1)*4294967296<=v*4294967296:=Vn _ (by omega);rw[VE 4294967296 v];omega
  have B:=WG U h;rw[b];have⟨a,f⟩:∃a,a=U/v:=⟨_,rfl⟩
  have⟨rr,g⟩:∃rr,rr=U%v:=⟨_,rfl⟩
  have x:((U:Int).tdiv v)=a:=by rw[f];rfl
  have y:((U:Int).tmod v)=rr:=by rw[g];rfl
  rw[<-f]at p ⊢;rw[<-g]at B ⊢;have e8:IntKind.u64.wrap (a:Int)=a:=cJ _ (by omega);simp[c,r,s,C,i,j,u,x,y,e8];refine ak rfl rfl rfl (yR a rr third v w p (by omega) l hv q) ?_;simp
theorem PX {b a U P q y u c w s:Nat}(h:b+q*a=U+P*(c+w))(e:s=q*y+c)(f:u<4294967296)(g:w<=1) :
 (b+P*((u+8589934592-s%4294967296-w)%4294967296))+q*(a+P*y)=(U+P*u)+P*4294967296*(s/4294967296+(if u<s%4294967296+w then 1 else 0)):=by
 have d:P*((u+8589934592-s%4294967296-w)%4294967296)+P*(q*y)+P*(c+w)=P*u+P*4294967296*(s/4294967296+(if u<s%4294967296+w then 1 else 0)):=by
  rw[Vt,<-VM,<-VM,<-VM]
  congr 1
  split<;>omega
 rw[VM,WM q P y];omega
theorem o9 {u s w:Nat}(b:u<4294967296)(a:s<4294967296)(c:w<=4294967296) :
 IntKind.u64.wrap (IntKind.u64.wrap ((u:Int)-s)-w)=((if u<s+w then 18446744073709551616+u-s-w else u-s-w:Nat):Int):=by
 simp only[IntKind.wrap,IntKind.bits,IntKind.signed];simp;split<;>omega
theorem A7 {u s w:Nat}(b:u<4294967296)(a:s<4294967296)(c:w<=4294967296) :
 IntKind.u32.wrap (((if u<s+w then 18446744073709551616+u-s-w else u-s-w:Nat)):Int)=((u+8589934592-s-w)%4294967296:Nat):=by
 rw[nJ]
 congr 1
 split<;>omega
theorem A8 {u s w:Nat}(b:u<4294967296)(a:s<4294967296)(c:w<=4294967296) :
 cH .shr .u64 (((if u<s+w then 18446744073709551616+u-s-w else u-s-w:Nat)):Int) 63=some (.int .u64 ((if u<s+w then 1 else 0:Nat):Int)):=by
 have:=cf (if u<s+w then 18446744073709551616+u-s-w else u-s-w) 63 (by omega);rw[show((63:Nat):Int)=63 from rfl]at this;rw[this]
 congr 3
 split<;>omega
theorem Mq {H T:ab}{Q:V->ab->Prop}(u v:List Nat)(off q:Nat)(hv:v.length<=1000000)(hu:u.length<=3000000)(hoff:off+v.length<u.length)(lu:Li u)(lv:Li v)(hq:q<4294967296)
 (hQ:∀t neg,t.length=u.length->Li t->t.take off=u.take off->t.drop (off+v.length+1)=u.drop (off+v.length+1) ->
  aa ((t.drop off).take (v.length+1))+q*aa v=aa ((u.drop off).take (v.length+1))+4294967296^(v.length+1)*(if neg then 1 else 0)->Q (.bool neg) (H++some ⟨1,t.map u32,true,true⟩ :: T)) :
 CT prog q36 [.ref H.length 1 off (v.length+1),lim v,.int .u64 q] (H++some ⟨1,u.map u32,true,true⟩ :: T) Q:=by
 refine ms (f:=CU) rfl (pK ?_);simp[lim];refine aJ (fun i E H'=>∃l c w,H'=H++some ⟨1,l.map u32,true,true⟩ :: T/\l.length=u.length/\Li l/\c<4294967296/\w<=1/\l.take off=u.take off/\l.drop (off+i)=u.drop (off+i)/\E 0=.ref H.length 1 off (v.length+1)/\E 1=lim v/\E 2=.int .u64 q /\
  E 7=.int .u64 (c:Nat)/\E 8=.int .u64 (w:Nat)/\E 14=lim v/\E 15=.int .i64 v.length/\E 16=.int .i64 i /\
  aa ((l.drop off).take i)+q*aa (v.take i)=aa ((u.drop off).take i)+4294967296^i*(c+w)) v.length ?_ ?_
 ·exact⟨u,0,0,rfl,rfl,lu,by omega,by omega,rfl,rfl,by simp,by simp[lim],by simp,by simp,by simp,by simp[lim],by simp,by simp,by simp[aa]⟩
 ·rintro i E H' hi ⟨l,c,w,rfl,hl,ll,hc,hw,ht,A,K,k,N,O,P,x,m,n,D⟩;have a:off+i<l.length:=by omega
  have hoi2:off+i<u.length:=by omega
  have G:aw (u.drop off) i=aw l (off+i):=by
   have k:aw (u.drop off) i=aw (u.drop (off+i)) 0:=by simp[aw]
   have N:aw l (off+i)=aw (l.drop (off+i)) 0:=by simp[aw]
   rw[k,N,A]
  have dl:=dz ll (off+i);have j:∀z,aa (((l.set (off+i) z).drop off).take (i+1))=aa ((l.drop off).take i)+4294967296^i*z:=by
   intro z;rw[aby,Vk (by omega),show off+i-off=i by omega,kM (by simp;omega)]
  have b:∀z,(l.set (off+i) z).take off=u.take off:=fun z=>by rw[CI (by omega),ht]
  have d:∀z,(l.set (off+i) z).drop (off+(i+1))=u.drop (off+(i+1)):=by
   intro z;rw[WU (by omega)];have:=W2 (List.drop 1) A;rwa[Wj,Wj]at this
  rcases Vm i v.length with B|hge
  ·simp only[lim]at k x;have g1:IntKind.i64.wrap ((i:Int)+1)=((i+1:Nat):Int):=by rw[wrap_i64]<;>omega
   have dv:=dz lv i;have⟨s,hs⟩:∃s,s=q*aw v i+c:=⟨_,rfl⟩
   have Y:q*aw v i<=4294967295*4294967295:=Wi (by omega) (by omega);have st:=PX (u:=aw l (off+i)) D hs dl hw;rw[<-fI,<-j,<-G,<-fI,G,<-VH]at st;have⟨M,hM⟩:∃M,M=q*aw v i:=⟨_,rfl⟩
   rw[<-hM]at hs Y;rw[ce B]at dv hM;rw[ce a]at dl st;have t1:IntKind.u64.wrap (v[i]:Int)=v[i]:=cJ _ (by omega);have t2:IntKind.u64.wrap ((q:Int)*v[i])=M:=by
    rw[show(q:Int)*v[i]=((M:Nat):Int) by rw[hM];simp];exact cJ _ (by omega)
   have t3:IntKind.u64.wrap ((M:Int)+c)=s:=by rw[ee]<;>omega
   have t4:cH .shr .u64 (s:Int) 32=some (.int .u64 ((s/4294967296:Nat):Int)):=cf s 32 (by omega);have t5:aR .and .u64 (s:Int) 4294967295=some ((s%4294967296:Nat):Int):=kh s (by omega);have⟨S,hS⟩:∃S,S=s%4294967296:=⟨_,rfl⟩
   have⟨C,hC⟩:∃C,C=s/4294967296:=⟨_,rfl⟩
   rw[<-hS]at t5 st;rw[<-hC]at t4 st;have J:IntKind.u64.wrap (l[off+i]:Int)=l[off+i]:=cJ _ (by omega);have p:=o9 (u:=l[off+i]) (s:=S) (w:=w) dl (by omega) (by omega);have r:=A7 (u:=l[off+i]) (s:=S) (w:=w) dl (by omega) (by omega);have o:=A8 (u:=l[off+i]) (s:=S) (w:=w) dl (by omega) (by omega);have F:(if l[off+i]<S+w then 1 else 0)<=1:=by split<;>omega
   have⟨W,hW⟩:∃W,W=(if l[off+i]<S+w then 1 else 0):=⟨_,rfl⟩
   rw[<-hW]at o st F;have y:(l[off+i]+8589934592-S-w)%4294967296<4294967296:=WG _ (by omega);generalize (l[off+i]+8589934592-S-w)%4294967296=L at *
   generalize (if l[off+i]<S+w then 18446744073709551616+l[off+i]-S-w else l[off+i]-S-w)=Z at *
   have g:i<v.length+1:=by omega
   simp[Df,K,k,N,O,P,x,m,n,B,g,a,u32,lim,t1,t2,t3,t4,t5,J,p,r,o,g1];refine⟨l.set (off+i) L,?_,by simp[hl],Li.set ll y,C,by omega,W,F,b _,d _,rfl,rfl,st⟩;simp[u32]
  ·have U:i=v.length:=by omega
   subst U;simp only[lim]at k;rw[eX (l:=v) (Vo _)]at D;rw[ce a]at dl G;have J:IntKind.u64.wrap (l[off+v.length]:Int)=l[off+v.length]:=cJ _ (by omega);have p:=o9 (u:=l[off+v.length]) (s:=c) (w:=w) dl (by omega) (by omega);have r:=A7 (u:=l[off+v.length]) (s:=c) (w:=w) dl (by omega) (by omega);have o:=A8 (u:=l[off+v.length]) (s:=c) (w:=w) dl (by omega) (by omega);have y:(l[off+v.length]+8589934592-c-w)%4294967296<4294967296:=WG _ (by omega);have hf:(l[off+v.length]+8589934592-c-w)%4294967296+(c+w)=l[off+v.length]+4294967296*(if l[off+v.length]<c+w then 1 else 0):=by split<;>omega
   have I:=hQ (l.set (off+v.length) ((l[off+v.length]+8589934592-c-w)%4294967296)) (decide (l[off+v.length]<c+w)) (by simp[hl]) (Li.set ll y) (b _) (d _) (by
    rw[j,fI,G,VH,Vt];have:(if decide (l[off+v.length]<c+w)=true then 1 else 0)=(if l[off+v.length]<c+w then 1 else 0):=by simp
    rw[this];have e:4294967296^v.length*((l[off+v.length]+8589934592-c-w)%4294967296)+4294967296^v.length*(c+w)=4294967296^v.length*l[off+v.length]+4294967296^v.length*(4294967296*(if l[off+v.length]<c+w then 1 else 0)):=by
     rw[<-VM,<-VM,hf]
    omega)
   have g:v.length<v.length+1:=by omega
   by_cases h:l[off+v.length]<c+w
   ·simp only[h,Wm]at p r o I y;generalize (l[off+v.length]+8589934592-c-w)%4294967296=L at *
    generalize 18446744073709551616+l[off+v.length]-c-w=Z at *
    simp[Df,K,k,O,P,m,n,g,a,u32,lim,J,p,r,o];refine⟨_,_,⟨rfl,VC (by simp)⟩,?_⟩;simpa[u32]using I
   ·simp only[h,V8]at p r o I y;generalize (l[off+v.length]+8589934592-c-w)%4294967296=L at *
    generalize l[off+v.length]-c-w=Z at *
    simp[Df,K,k,O,P,m,n,g,a,u32,lim,J,p,r,o];refine⟨_,_,⟨rfl,VC (by simp)⟩,?_⟩;simpa[u32]using I
end Go.Abs.W
namespace Go.Abs.W
attribute [local simp] fP
theorem P5 : CQ prog JF [.nil] (lim []):=by
 refine ap rfl fun H=>?_
 simp[lim]
theorem P4 : CQ prog JF [.emp] (lim []):=by
 refine ap rfl fun H=>?_
 simp[lim]
theorem Cm (l:List Nat)(b:l.length<=1000000000):CQ prog JF [lim l] (lim l):=by
 cases l with
 |nil=>exact Sk (pre:=[]) (post:=[]) P5 P4
 |cons x l=>
  refine ap rfl fun H=>?_
  simp at b;have a:(l.length+1)*4<=140737488355328:=by omega
  simp[lim,a];exact VC (by simp)
theorem Rx {a:List Nat}{s:Nat}(c:s<32)(b:Trim a):(df a s).length=a.length+1:=by
 unfold df;rw[show s/32=0 by omega,q61 b];simp[U6]
theorem q7p {l:List Nat}{n:Nat}(h:l.length=n+2):aa l=(aw l (n+1)*4294967296+aw l n)*4294967296^n+aa (l.take n):=by
 have e:=kJ l n;rw[fH,fH,show l.drop (n+1+1)=[] by rw[aal];omega]at e;simp only[aa,WS,VF]at e;rw[e,VE (aw l (n+1)),VE (4294967296^n)];rw[XP (aw l n)];omega
theorem PC {l:List Nat}{n:Nat}(h:aa l<4294967296^(n+3))(b:Li l) :
 aa l=((aw l (n+2)*4294967296+aw l (n+1))*4294967296+aw l n)*4294967296^n+aa (l.take n):=by
 have e:=kJ l n;have a:aa (l.drop (n+2+1))=0:=by rw[<-mP b,We h]
 rw[fH,fH,fH,a]at e;rw[e];generalize 4294967296^n=P;generalize aw l n=x;generalize aw l (n+1)=y;generalize aw l (n+2)=z;rw[VE P];rw[XP]
 congr 2
 omega
theorem pP (l:List Nat)(j i:Nat):aw (l.drop j) i=aw l (j+i):=by simp[aw]
theorem R9 {W V x c P:Nat}{neg:Bool}(h:0<V)(_hVP:V<P)(f:W/V<=x)(g:x<=W/V+1)(i:c<P)(a:c+x*V=W+P*(if neg then 1 else 0)) :
 (neg=false->x=W/V/\c=W%V)/\(neg=true->x=W/V+1/\c+V=P+W%V):=by
 have e:=Wy W V;have k:=WG W h;have⟨d,j⟩:∃d,d=W/V:=⟨_,rfl⟩
 rw[<-j]at f g e ⊢;have b:x=d\/x=d+1:=by omega
 generalize W%V=r at *
 rw[VE]at e;rcases b with b|b
 ·subst b;cases neg
  ·simp at a ⊢;omega
  ·simp at a ⊢;omega
 ·subst b;rw[VI]at a;cases neg
  ·simp at a ⊢;omega
  ·simp at a ⊢;omega
theorem MN {a V P R r e:Nat}(h:a+V=P+r)(_hr:r<V)(_hVP:V<P)(d:R<P)(f:e<=1)(c:R+P*e=a+V):R=r:=by
 rcases Wu e with b|b
 ·subst b;omega
 ·have:e=1:=by omega
  subst this;omega
set_option maxHeartbeats 4000000
theorem tK {a b:Nat}(h:a<=b):4294967296^a<=4294967296^b:=Vg (by omega) h
theorem Pr {top next third v w k j c:Nat}(p:w<4294967296)(f:c<4294967296^k)
 (g:((top*4294967296+next)*4294967296+third)*4294967296^k+j<((v*4294967296+w)*4294967296^k+c)*4294967296):top<=v:=by
 rcases Vm v top with h|h
 ·exfalso;have⟨a,e⟩:∃a,a=v*4294967296+w:=⟨_,rfl⟩
  have⟨b,d⟩:∃b,b=(top*4294967296+next)*4294967296+third:=⟨_,rfl⟩
  have⟨P,i⟩:∃P,P=4294967296^k:=⟨_,rfl⟩
  rw[<-e,<-d,<-i]at g;rw[<-i]at f;have l:(a+1)*4294967296<=b:=by omega
  have o:(a+1)*4294967296*P<=b*P:=Vn _ l;have m:a*P+c<=(a+1)*P:=by rw[VI];omega
  have n:(a*P+c)*4294967296<=(a+1)*P*4294967296:=Vn _ m;rw[Ym]at n;omega
 ·exact h
theorem ud {l:List Nat}{n:Nat}:4294967296^(l.take n).length<=4294967296^n:=Vg (by omega) (by simp;omega)
theorem HC {l:List Nat}{i:Nat}(b:Li l)(h:aa l<4294967296^i):aa (l.take i)=aa l/\aa (l.drop i)=0:=by
 have a:aa (l.drop i)=0:=by rw[<-mP b,We h]
 have:=kJ l i;rw[a]at this;exact⟨by omega,a⟩
theorem OM {n0:Nat}{Q:AX->aA->ab->Prop}{K:List Fr}{E:aA}{H T:ab}(u v:List Nat)(j:Nat)(hv:v.length<=1000000)(hu:u.length<=3000000)(hj:j+v.length<u.length)(lu:Li u)(lv:Li v)
 (M:E 9=.ref H.length 1 0 u.length) (g:E 13=.int .i64 j) (O:E 15=.int .u32 0) (B:E 123=lim v) (D:E 124=.int .i64 v.length) (F:E 125=.int .i64 0)
 (hQ:∀f l c,l.length=u.length->Li l->c<=1->l.take j=u.take j->l.drop (j+v.length)=u.drop (j+v.length)->aa ((l.drop j).take v.length)+4294967296^v.length*c=aa ((u.drop j).take v.length)+aa v ->
  f 15=.int .u32 (c:Nat)->f 8=E 8->f 9=E 9->f 10=E 10->f 11=E 11->f 12=E 12->f 13=E 13->f 14=E 14->WP prog n0 Q K (.exit 4) f (H++some ⟨1,l.map u32,true,true⟩ :: T)) :
 WK prog n0 (.loop Dl) K E (H++some ⟨1,u.map u32,true,true⟩ :: T) Q:=by
 refine aJ (fun i a S=>∃l c,S=H++some ⟨1,l.map u32,true,true⟩ :: T/\l.length=u.length/\Li l/\c<=1/\l.take j=u.take j/\l.drop (j+i)=u.drop (j+i)/\a 8=E 8/\a 9=E 9/\a 10=E 10/\a 11=E 11/\a 12=E 12/\a 13=E 13/\a 14=E 14 /\
  a 15=.int .u32 (c:Nat)/\a 123=lim v/\a 124=.int .i64 v.length/\a 125=.int .i64 i /\
  aa ((l.drop j).take i)+4294967296^i*c=aa ((u.drop j).take i)+aa (v.take i)) v.length ?_ ?_
 ·exact⟨u,0,rfl,rfl,lu,by omega,rfl,rfl,rfl,rfl,rfl,rfl,rfl,rfl,rfl,O,B,D,F,by simp[aa]⟩
 ·rintro i a S hi ⟨l,c,rfl,hl,ll,hc,ht,m,Z,N,r,s,t,k,w,A,b,d,e,q⟩;rcases Vm i v.length with G|hge
  ·have⟨J,hJ⟩:∃J,J=j+i:=⟨_,rfl⟩
   have n:J<l.length:=by omega
   have Y:aw (u.drop j) i=aw l J:=by
    have h1:aw (u.drop j) i=aw (u.drop (j+i)) 0:=by simp[aw]
    have h2:aw l (j+i)=aw (l.drop (j+i)) 0:=by simp[aw]
    rw[hJ,h1,h2,m]
   have dl:=dz ll J;have W:=dz lv i;have st:=UL (x:=aw l J) (y:=aw v i) q;have I:∀z,aa (((l.set J z).drop j).take (i+1))=aa ((l.drop j).take i)+4294967296^i*z:=by
    intro z;rw[aby,Vk (by omega),show J-j=i by omega,kM (by simp;omega)]
   rw[<-I,<-Y,<-fI,<-fI,Y,<-VH]at st;have o:∀z,(l.set J z).take j=u.take j:=fun z=>by rw[CI (by omega),ht]
   have p:∀z,(l.set J z).drop (j+(i+1))=u.drop (j+(i+1)):=by
    intro z;rw[WU (by omega)];have:=W2 (List.drop 1) m;rwa[Wj,Wj]at this
   rw[ce n]at dl st;rw[ce G]at W st;have g1:IntKind.i64.wrap ((i:Int)+1)=((i+1:Nat):Int):=by rw[wrap_i64]<;>omega
   have g2:IntKind.i64.wrap ((j:Int)+i)=(J:Int):=by rw[wrap_i64]<;>omega
   have h:J<u.length:=by omega
   rw[<-N]at M;rw[<-k]at g;simp only[lim]at b;simp[Dl,M,g,A,b,d,e,G,n,h,u32,lim,g2];have U:=Us l[J] v[i] c dl W hc;have⟨L,hL⟩:∃L,L=(l[J]+v[i]+c)%4294967296:=⟨_,rfl⟩
   have⟨C,hC⟩:∃C,C=(l[J]+v[i]+c)/4294967296:=⟨_,rfl⟩
   rw[<-hL,<-hC]at U st;refine zq U ?_;simp[M,g,b,d,e,n,h,u32,g1];refine⟨l.set J L,?_,by simp[hl],Li.set ll (by omega),C,by omega,o _,p _,Z,by rw[<-N,M],r,s,t,by rw[<-k,g],w,rfl,st⟩;simp[u32]
  ·have P:i=v.length:=by omega
   subst P;rw[eX (l:=v) (Vo _)]at q;simp[Dl,d,e];exact hQ _ l c hl ll hc ht m q (by simp[A]) (by simp[Z]) (by simp[N]) (by simp[r]) (by simp[s]) (by simp[t]) (by simp[k]) (by simp[w])
structure DivInv (U v u q:List Nat)(m k:Nat):Prop where
 lenu:u.length=U.length
 lenq:q.length=m
 lu:Li u
 lq:Li q
 low:u.take k=U.take k
 lt:aa (u.drop k)<aa v
 val:aa (q.drop k)*aa v+aa (u.drop k)=aa (U.drop k)
theorem DivInv.step {U v u q u2:List Nat}{m j x:Nat}(h:DivInv U v u q m (j+1))(i:j<m)(_hjU:j<U.length)(a:u2.length=U.length)(b:Li u2)(l:u2.take j=u.take j)(n:x<4294967296)
 (g:x=aa (u.drop j)/aa v) (c:aa (u2.drop j)=aa (u.drop j)%aa v) (hv:0<aa v):DivInv U v u2 (q.set j x) m j:=by
 refine⟨a,by simp[h.lenq],b,Li.set h.lq n,?_,by rw[c];exact WG _ hv,?_⟩
 ·rw[l];have:=W2 (List.take j) h.low;rwa[List.take_take,List.take_take,WW (by omega)]at this
 ·have k:j<q.length:=by rw[h.lenq];exact i
  rw[fH (q.set j x),Dx k,WU (by omega),c];have o:=fH u j;have p:=fH U j;have r:aw u j=aw U j:=by
   have d:aw u j=aw (u.take (j+1)) j:=by simp[aw]
   have e:aw U j=aw (U.take (j+1)) j:=by simp[aw]
   rw[d,e,h.low]
  have f:=WY (aa (u.drop j)) (aa v);rw[<-g]at f;rw[VI,Vt];have s:=h.val;generalize aa (q.drop (j+1))*aa v=Z at *
  omega
theorem Ny {n0:Nat}{Q:AX->aA->ab->Prop}{K:List Fr}{E:aA}{H:ab}(U v:List Nat)(s n m:Nat)(X:Option Blk)(hn:v.length=n+2)(hm:U.length=m+(n+2))(hU2:U.length<=1000000)(Z:Li v)(lU:Li U)
 (hv31:2147483648<=aw v (n+1)) (hU:aa (U.drop m)<aa v)
 (Y:E 8=.int .i64 s) (A:E 9=.ref H.length 1 0 U.length) (f:E 10=lim v) (b:E 11=.int .i64 ((n+2:Nat):Int)) (i:E 12=.ref (H.length+2) 1 0 m) (e:E 13=.int .i64 ((m:Int)-1))
 (hQ:∀W u q,DivInv U v u q m 0->W 8=.int .i64 s->W 9=.ref H.length 1 0 U.length->W 11=.int .i64 ((n+2:Nat):Int)->W 12=.ref (H.length+2) 1 0 m ->
  WP prog n0 Q K (.exit 2) W (H++[some ⟨1,u.map u32,true,true⟩,X,some ⟨1,q.map u32,true,true⟩])) :
 WK prog n0 (.loop Dm) K E (H++[some ⟨1,U.map u32,true,true⟩,X,some ⟨1,List.replicate m (.int .u32 0),true,true⟩]) Q:=by
 have g:0<aa v:=by omega
 have r:=bz Z;rw[hn]at r;refine e9 (fun k E H'=>k<=m/\∃u q,H'=H++[some ⟨1,u.map u32,true,true⟩,X,some ⟨1,q.map u32,true,true⟩]/\DivInv U v u q m k /\
  E 8=.int .i64 s/\E 9=.ref H.length 1 0 U.length/\E 10=lim v/\E 11=.int .i64 ((n+2:Nat):Int)/\E 12=.ref (H.length+2) 1 0 m/\E 13=.int .i64 ((k:Int)-1)) m ?_ ?_
 ·refine⟨Vo _,U,List.replicate m 0,by rw[nw],⟨rfl,by simp,lU,mO,rfl,hU,?_⟩,Y,A,f,b,i,e⟩;simp[aa]
 ·clear Y A f b i e;rintro k E H' ⟨hk,u,q,rfl,inv,Y,A,f,b,i,e⟩;rcases k with _|j
  ·have e2:¬((0:Int)<=-1):=by omega
   refine b9 ?_;simp[Dm,e];exact hQ _ u q inv (by simp[Y]) (by simp[A]) (by simp[b]) (by simp[i])
  ·have e1:(j+1:Int)-1=j:=by omega
   simp only[abi,abj,e1]at e;have hju:j<u.length:=by rw[inv.lenu];omega
   have k0:j+(n+2)<u.length:=by rw[inv.lenu];omega
   have k1:j+(n+1)<u.length:=by omega
   have k2:j+n<u.length:=by omega
   have N:j+(n+2)<U.length:=by omega
   have O:j+(n+1)<U.length:=by omega
   have P:j+n<U.length:=by omega
   have hW:=fH u j;have duj:=dz inv.lu j;have hWV:aa (u.drop j)<aa v*4294967296:=by
    have:=inv.lt;have h3:(aa (u.drop (j+1))+1)*4294967296<=aa v*4294967296:=Vn _ this;omega
   have hWB:aa (u.drop j)<4294967296^(n+3):=by
    have h3:aa v*4294967296<=4294967296^(n+2)*4294967296:=Vn _ (W6 r);have h4:4294967296^(n+3)=4294967296^(n+2)*4294967296:=VH ..;omega
   have T:=inv.lu.drop j;have t3:=PC hWB T;have t2:=q7p hn;rw[pP,pP,pP]at t3;have lWl:=bz (T.take n);have lVl:=bz (Z.take n);have F:=Vx lWl (ud (l:=u.drop j) (n:=n));have y:=Vx lVl (ud (l:=v) (n:=n));have hv1:=dz Z (n+1);have M:=dz Z n;have hd0:=dz inv.lu (j+(n+2));have J:=dz inv.lu (j+(n+1));have hd2:=dz inv.lu (j+n);have h:=hWV;rw[t3,t2]at h;have gt:=Pr M y h;have gn:=Qv J hd2 M (by omega) hv1 F y h;rw[<-t3,<-t2]at gn;have gl:=AJ (top:=aw u (j+(n+2))) (third:=aw u (j+n)) (w:=aw v n) J (show 0<aw v (n+1) by omega);have gc:=M7 _ _ _ _ _ gt J hd2 (show 0<aw v (n+1) by omega) hv1 M;generalize jt (aw u (j+(n+2))) (aw u (j+(n+1))) (aw u (j+n)) (aw v (n+1)) (aw v n)=x at *
   clear t3 t2 h lWl lVl F y hW duj;have v1:n+1<v.length:=by omega
   have v0:n<v.length:=by omega
   rw[ce k0,ce k1,ce k2,ce v1,ce v0]at gc;have w1:IntKind.i64.wrap ((j:Int)+((n+2:Nat):Int))=((j+(n+2):Nat):Int):=by rw[wrap_i64]<;>omega
   have w2:IntKind.i64.wrap (((j+(n+2):Nat):Int)-1)=((j+(n+1):Nat):Int):=by rw[wrap_i64]<;>omega
   have w3:IntKind.i64.wrap (((j+(n+2):Nat):Int)-2)=((j+n:Nat):Int):=by rw[wrap_i64]<;>omega
   have w4:IntKind.i64.wrap (((n+2:Nat):Int)-1)=((n+1:Nat):Int):=by rw[wrap_i64]<;>omega
   have w5:IntKind.i64.wrap (((n+2:Nat):Int)-2)=((n:Nat):Int):=by rw[wrap_i64]<;>omega
   have w6:IntKind.i64.wrap (((j+(n+2):Nat):Int)+1)=((j+(n+2)+1:Nat):Int):=by rw[wrap_i64]<;>omega
   have w7:IntKind.i64.wrap ((j:Int)-1)=(j:Int)-1:=by rw[wrap_i64]<;>omega
   have⟨N2,hN2⟩:∃N2,N2=n+2:=⟨_,rfl⟩
   have⟨N1,hN1⟩:∃N1,N1=n+1:=⟨_,rfl⟩
   have⟨a,hJ2⟩:∃a,a=j+(n+2):=⟨_,rfl⟩
   have⟨J1,hJ1⟩:∃J1,J1=j+(n+1):=⟨_,rfl⟩
   have⟨J0,hJ0⟩:∃J0,J0=j+n:=⟨_,rfl⟩
   simp only[<-hJ2,<-hJ1,<-hJ0]at w1 w2 w3 w4 w5 w6 b k0 k1 k2 N O P gc v1;simp only[<-hN2,<-hN1]at w1 w2 w3 w4 w5 w6 b k0 k1 k2 N O P gc v1;have p0:(0:Int)<=j:=by omega
   simp only[lim]at f;have hlu:=inv.lenu;refine b9 ?_;simp[Dm,A,f,b,e,p0,w1,w2,w3,w4,w5,N,O,P,v1,v0,hlu,u32];refine zq gc ?_;have hsl1:j<=a+1:=by omega
   have hsl2:a+1<=U.length:=by omega
   have p1:(0:Int)<=(a:Int)+1:=by omega
   have p2:((a:Int)+1).toNat=a+1:=by omega
   have hv3:v.length+1=n+3:=by omega
   obtain⟨hWt,hW0⟩:=HC T hWB;simp[A,f,b,e,w1,w6,hsl1,hsl2,p1,p2];refine pL (args:=[.ref H.length 1 j (v.length+1),lim v,.int .u64 x]) rfl (by simp[lim];omega) rfl (Mq u v j x (by omega) (by omega) (by omega) inv.lu Z gl ?_);intro p neg hu2 S ht hdr t;rw[hv3,hWt]at t;have B:(p.drop j).drop (n+3)=(u.drop j).drop (n+3):=by
    rw[Wj,Wj,show j+(n+3)=j+v.length+1 by omega];exact hdr
   have G:aa (p.drop j)=aa ((p.drop j).take (n+3)):=by
    have:=kJ (p.drop j) (n+3);rw[B,hW0,WS,VF]at this;exact this
   rw[<-G]at t;have I:aa (p.drop j)<4294967296^(n+3):=by
    rw[G];exact Vx (bz ((Li.drop S j).take _)) ud
   have hVP:aa v<4294967296^(n+3):=Vx r (tK (by omega));obtain⟨r0,r1⟩:=R9 g hVP gn.1 gn.2 I t;have o:j<m:=by omega
   have D:j<U.length:=by omega
   cases neg
   ·obtain⟨e1,e2⟩:=r0 rfl;have f1:IntKind.u32.wrap (x:Int)=x:=eN _ gl;have f2:j<q.length:=by rw[inv.lenq];exact o
    have iv:=inv.step o D (by omega) S ht gl e1 e2 g;simp[Y,A,f,b,i,e,f1,f2,o,w7,u32];exact⟨j,by omega,by omega,p,q.set j x,⟨rfl,by simp[u32]⟩,iv,by simp[lim],by omega⟩
   ·obtain⟨e1,e2⟩:=r1 rfl;have⟨d,hd⟩:∃d,d=aa (u.drop j)/aa v:=⟨_,rfl⟩
    rw[<-hd]at e1;have w8:IntKind.u64.wrap ((x:Int)-1)=(d:Int):=by rw[ee]<;>omega
    have f1:IntKind.u32.wrap (d:Int)=d:=eN _ (by omega);have f2:j<q.length:=by rw[inv.lenq];exact o
    simp[f,w8];refine OM p v j (by omega) (by omega) (by omega) S Z (by simp[A];omega) (by simp[e]) (by simp) (by simp[lim]) (by simp) (by simp) ?_;intro W l c hl ll hc ht2 C hv2 g15 g8 g9 g10 g11 g12 g13 g14;simp[Y]at g8;simp[A]at g9;simp[f]at g10;simp[b]at g11;simp[i]at g12;simp[e]at g13;simp at g14;have hJl:a<l.length:=by omega
    have dl:=dz ll a;have eu:aw p a=aw l a:=by
     have h1:aw p a=aw (p.drop (j+v.length)) 0:=by rw[pP];congr 1;omega
     have h2:aw l a=aw (l.drop (j+v.length)) 0:=by rw[pP];congr 1;omega
     rw[h1,h2,C]
    have⟨z,hz⟩:∃z,z=(aw l a+c)%4294967296:=⟨_,rfl⟩
    have hzl:z<4294967296:=by rw[hz];exact WG _ (by omega)
    have hR:aa (((l.set a z).drop j).take (n+3))=aa ((l.drop j).take (n+2))+4294967296^(n+2)*z:=by
     rw[aby,Vk (by omega),show a-j=n+2 by omega,kM (by simp;omega)]
    have hR2:aa (((l.set a z).drop j).take (n+3))+4294967296^(n+3)*((aw l a+c)/4294967296)=aa (p.drop j)+aa v:=by
     rw[hR,G,fI (p.drop j) (n+2),pP,show j+(n+2)=a by omega,eu];rw[hn]at hv2;have h5:4294967296^(n+2)*z+4294967296^(n+3)*((aw l a+c)/4294967296)=4294967296^(n+2)*aw l a+4294967296^(n+2)*c:=by
      rw[show 4294967296^(n+3)=4294967296^(n+2)*4294967296 from VH ..,hz,Vt,<-VM,aar,VM]
     omega
    have hRlt:aa (((l.set a z).drop j).take (n+3))<4294967296^(n+3):=Vx (bz ((Li.drop (Li.set ll hzl) j).take _)) ud;have hRe:=MN e2 (WG _ g) hVP hRlt (by omega) hR2;have L:aa ((l.set a z).drop j)=aa (u.drop j)%aa v:=by
     have h6:=kJ ((l.set a z).drop j) (n+3);have h7:((l.set a z).drop j).drop (n+3)=(u.drop j).drop (n+3):=by
      rw[<-B,Wj,Wj,WU (by omega)];have:=W2 (List.drop 1) C;rw[Wj,Wj]at this;rwa[show j+(n+3)=j+v.length+1 by omega]
     rw[h7,hW0]at h6;omega
    have iv:=inv.step (u2:=l.set a z) (x:=d) o D (by simp;omega) (Li.set ll hzl) (by rw[CI (by omega),ht2,ht]) (by omega) hd L g;rw[ce hJl]at dl hz;have t1:IntKind.u32.wrap ((l[a]:Int)+c)=(z:Int):=by rw[hz,<-nJ];simp
    have hJU:a<U.length:=by omega
    simp[g8,g9,g10,g11,g12,g13,g14,g15,w1,w7,f1,f2,t1,o,hJl,hJU,u32];exact⟨j,by omega,by omega,l.set a z,q.set j d,⟨by simp[u32],by simp[u32]⟩,iv,by simp[lim],by omega⟩
end Go.Abs.W
namespace Go.Abs.W
theorem KK {n0:Nat}{Q:AX->aA->ab->Prop}{c:AC}{K:List Fr}{E:aA}{H:ab}(h:WK prog n0 c [] E H (AX.thn (fun _ _=>False) (fun x E H=>WP prog n0 Q K x E H))):WK prog n0 (.loop c) K E H Q:=by
 refine e9 (fun _ b d=>b=E/\d=H) 0 ⟨rfl,rfl⟩ ?_;rintro k b d ⟨rfl,rfl⟩;refine fw h ?_;intro x e f a;cases x with
 |normal=>exact a.elim
 |exit id=>exact a
 |ret=>exact a
theorem LR {y:List Nat}{n s:Nat}(u:y.length=n+1)(d:Li y)(o:aw y n≠0)(t:s=32-ac (aw y n)) :
 aa y*2^s<4294967296^(n+1)/\2147483648*4294967296^n<=aa y*2^s:=by
 have dl:=dz d n;obtain⟨i,j,p⟩:=eF o;have r:=tG dl;have e:=kJ y n;rw[fH,show y.drop (n+1)=[] by rw[aal];omega]at e;simp only[aa,WS,VF]at e;have m:=bz (d.take n);have k:=ud (l:=y) (n:=n);have q:0<4294967296^n:=Xs (by omega);have f:4294967296^(n+1)=4294967296^n*4294967296:=VH ..;have g:(4294967296:Nat)=2^ac (aw y n)*2^s:=by rw[<-Vs,show ac (aw y n)+s=32 by omega]
 have h:(2147483648:Nat)=2^(ac (aw y n)-1)*2^s:=by rw[<-Vs,show ac (aw y n)-1+s=31 by omega]
 constructor
 ·rw[f];have b:aa y<4294967296^n*(aw y n+1):=by rw[VM];omega
  have a:4294967296^n*(aw y n+1)<=4294967296^n*2^ac (aw y n):=VN _ j;have c:aa y*2^s<4294967296^n*2^ac (aw y n)*2^s:=V7 (by omega) (Vl s);rw[Vt,<-g]at c;exact c
 ·have b:4294967296^n*2^(ac (aw y n)-1)<=aa y:=by
   have:4294967296^n*2^(ac (aw y n)-1)<=4294967296^n*aw y n:=VN _ i;omega
  have a:=Vn (2^s) b;rw[Vt,<-h,VE]at a;exact a
theorem Oh {y:List Nat}{n:Nat}(a:y.length=n+1)(b:Trim y):aw y n≠0:=by
 have:y.getLast?=some (aw y n):=by
  rw[Yd,a];simp[aw,a]
 exact b _ this
set_option maxHeartbeats 4000000 in
theorem Ax (a b:List Nat)(ha:a.length<=500000)(hb:b.length<=500000)(la:Li a)(lb:Li b)(h0:0<aa b) :
 ∃q r,Li q/\Li r/\aa q=aa a/aa b/\aa r=aa a%aa b/\q.length<=a.length+1/\r.length<=a.length+b.length+1/\CQ prog qy0 [lim a,lim b] (.tup [lim q,lim r]):=by
 have hxl:=limbsOf_len.2 (bz la);have hyl:=limbsOf_len.2 (bz lb);have j:=aY (aa a);have t:=aY (aa b);have tx:=uf (aa a);have ty:=uf (aa b);have F:=aP (aa a);have Z:=aP (aa b);have C:trimL a=aB (aa a):=eh la;have D:trimL b=aB (aa b):=eh lb;have hne:aB (aa b)≠[]:=lE (by omega);generalize aB (aa a)=x at *
 generalize aB (aa b)=y at *
 rcases Vm (aa a) (aa b)with B|hge
 ·refine⟨[],x,by intro z hz;simp at hz,j,by rw[We B];rfl,by rw[VO B,F],by simp,by omega,?_⟩;refine ap rfl fun H=>?_
  simp;refine ak rfl rfl rfl (gj a (by omega)) ?_;simp;refine ak rfl rfl rfl (gj b (by omega)) ?_;rw[C,D];simp;refine ak rfl rfl rfl (my x y (by omega) (by omega) j t) ?_;have hc:aL (aa x) (aa y)=-1:=by rw[F,Z];simp[aL,B]
  simp[i64,hc];refine ak rfl rfl rfl (Cm x (by omega)) ?_;simp[lim]
 ·have hc:¬aL (aa x) (aa y)<0:=by
   rw[F,Z];unfold aL;split<;>(try split)<;>omega
  have hyx:y.length<=x.length:=by
   rcases Vm x.length y.length with h|h
   ·have:=u9 j ty h;omega
   ·exact h
  by_cases h1:y.length=1
  ·obtain⟨d,rfl⟩:∃d,y=[d]:=List.length_eq_one_iff.1 h1;have hd:d=aa b:=by rw[<-Z];simp[aa]
   have L:d<4294967296:=t d (by simp);refine⟨de x.length (aa x/d),[aa x%d],pA,?_,?_,?_,by rw[pQ];omega,by simp,?_⟩
   ·intro z hz;simp at hz;rw[hz];exact Nat.lt_trans (WG _ (by omega)) L
   ·rw[pR,<-F,<-hd,VO];exact V4 (VY _ _) (bz j)
   ·simp[aa,F,hd]
   ·have P:=NQ x d (by omega) j (by omega) L;have⟨R,hR⟩:∃R,R=aa x%d:=⟨_,rfl⟩
    rw[<-hR]at P ⊢;refine ap rfl fun H=>?_
    simp;refine ak rfl rfl rfl (gj a (by omega)) ?_;simp;refine ak rfl rfl rfl (gj b (by omega)) ?_;rw[C,D];simp;refine ak rfl rfl rfl (my x [d] (by omega) (by simp) j t) ?_;simp[i64,hc,lim,u32];refine zq P ?_;simp[lim]
  ·have hyp:0<y.length:=List.length_pos_iff.2 hne;have⟨n,hn⟩:∃n,y.length=n+2:=⟨y.length-2,by omega⟩
   have p:=Oh hn ty;have c:=dz t (n+1);have hbt:=tG c;have hbp:=(eF p).2.2;have⟨s,P⟩:∃s,s=32-ac (aw y (n+1)):=⟨_,rfl⟩
   have S:s<32:=by omega
   obtain⟨W,Y⟩:=LR hn t p P;have hv:aB (aa y*2^s)=trimL (df y s):=by rw[eh DK,B5 t]
   have⟨v,o⟩:∃v,v=aB (aa y*2^s):=⟨_,rfl⟩
   have lv:Li v:=by rw[o];exact aY _
   have I:aa v=aa y*2^s:=by rw[o,aP]
   have E:v.length=n+2:=by
    have G:v.length<=n+2:=by rw[o];exact limbsOf_len.2 W
    have h6:n+2<=v.length:=by
     have K:=bz lv;rw[I]at K;have h8:4294967296^(n+1)<4294967296^v.length:=by
      have:4294967296^(n+1)<=2147483648*4294967296^(n+1):=aaZ _ (by omega);omega
     have:=(Xb (by omega:1<4294967296)).1 h8;omega
    omega
   have T:2147483648<=aw v (n+1):=by
    have e:=kJ v (n+1);rw[fH,show v.drop (n+1+1)=[] by rw[aal];omega]at e;simp only[aa,WS,VF]at e;have G:=bz (lv.take (n+1));have h6:=ud (l:=v) (n:=n+1);rcases Vm (aw v (n+1)) 2147483648 with h|h
    ·exfalso;have K:4294967296^(n+1)*(aw v (n+1)+1)<=4294967296^(n+1)*2147483648:=VN _ h;rw[VM,XN]at K;rw[VE 2147483648]at Y;omega
    ·exact h
   have⟨U,hU⟩:∃U,U=df x s:=⟨_,rfl⟩
   have lU:Li U:=by rw[hU];exact DK
   have vU:aa U=aa x*2^s:=by rw[hU,B5 j]
   have hUl:U.length=x.length+1:=by rw[hU];exact Rx S tx
   have⟨m,hm⟩:∃m,x.length+1=m+(n+2):=⟨x.length+1-(n+2),by omega⟩
   have A:aa (U.drop m)<aa v:=by
    rw[<-mP lU,VW (Xs (by omega)),vU,I];have G:=bz j;have h6:aa x*2^s<4294967296^x.length*2^s:=V7 G (Vl s);have K:4294967296^x.length=4294967296^(n+1)*4294967296^m:=by rw[<-Vs];congr 1;omega
    have h8:2^s<=2147483648:=by
     have:2^s<=2^31:=Vg (by omega) (by omega);omega
    have h9:4294967296^(n+1)*2^s<=aa y*2^s:=by
     rw[VE]at Y;have:4294967296^(n+1)*2^s<=4294967296^(n+1)*2147483648:=VN _ h8;omega
    have h10:=Vn (4294967296^m) h9;rw[K,Ym]at h6;omega
   have w:=Vl s;have hq:aa U/aa v=aa a/aa b:=by rw[vU,I,F,Z,Nat.mul_div_mul_right _ _ w]
   have hr:aa U%aa v=aa a%aa b*2^s:=by rw[vU,I,F,Z,Nat.mul_mod_mul_right]
   have hqm:aa a/aa b<4294967296^m:=by
    rw[<-mP lU,VW (Xs (by omega))]at A;rw[<-hq];exact abq A
   have hrl:(aB (aa a%aa b*2^s)).length<=n+2:=by
    refine limbsOf_len.2 ?_;rw[<-hr,I];exact Nat.lt_trans (WG _ (by rw[<-I];omega)) W
   refine⟨de m (aa a/aa b),de ((aB (aa a%aa b*2^s)).length-s/32) (aa a%aa b),pA,pA,by rw[pR,VO hqm],?_,by rw[pQ];omega,by rw[pQ];omega,?_⟩
   ·rw[pR,VO];have G:=bz (aY (aa a%aa b*2^s));rw[aP]at G;rw[show s/32=0 by omega,aba];exact V4 (Xn _ w) G
   ·refine ap rfl fun H=>?_
    simp;refine ak rfl rfl rfl (gj a (by omega)) ?_;simp;refine ak rfl rfl rfl (gj b (by omega)) ?_;rw[C,D];simp;refine ak rfl rfl rfl (my x y (by omega) (by omega) j t) ?_;have⟨k,hk⟩:∃k,k=n+1:=⟨_,rfl⟩
    have M:k<y.length:=by omega
    have w0:IntKind.i64.wrap ((y.length:Int)-1)=(k:Int):=by rw[wrap_i64]<;>omega
    have hy1:¬(y.length:Int)=1:=by omega
    rw[<-hk,ce M]at P c hbt;have lz:=qyb y[k] c;rw[show(32:Int)-(ac y[k]:Nat)=(s:Int) by omega]at lz;simp[i64,hc,lim,hy1,w0,M,u32];refine zq lz ?_;simp;refine pL rfl rfl rfl (o6 x s (by omega) j (by omega) _ _ ?_);rw[<-hU];simp;refine pL rfl rfl rfl (o6 y s (by omega) t (by omega) _ _ ?_);simp;refine bt rfl rfl (H1:=H++[some ⟨1,U.map u32,true,true⟩,some ⟨1,(df y s).map u32,true,false⟩]) (vs:=[lim (df y s)]) (by refine WZ (b:=ah _ _) rfl ?_;simp[ah,aF,gk,lim,VC]) (gj (df y s) (by have:=UK (a:=y) (n:=s);omega)) ?_;rw[<-hv,<-o];have hul:¬((U.length:Int)<=x.length):=by omega
    simp;refine KK ?_;have w1:IntKind.i64.wrap ((U.length:Int)-v.length)=(m:Int):=by rw[wrap_i64]<;>omega
    have w2:IntKind.i64.wrap ((m:Int)-1)=(m:Int)-1:=by rw[wrap_i64]<;>omega
    have f4:m*4<=281474976710656/\m<=9223372036854775807:=by omega
    simp[ZA,hul,lim,w1,w2,f4];refine Ny U v s n m _ E (by omega) (by omega) lv lU T A (by simp) (by simp) (by simp[lim]) (by rw[<-E];simp) (by simp) (by simp) ?_;intro E1 u q inv g8 g9 J g12;have g:=inv.val;have f:=inv.lt;have hul2:=inv.lenu;simp only[aaA]at g f;have⟨N,hN⟩:∃N,N=n+2:=⟨_,rfl⟩
    rw[<-hN]at J;have hvp:0<aa v:=by omega
    have e1:aa q=aa a/aa b:=by
     rw[<-hq,<-g,VE,XE hvp,We f,VF]
    have e2:aa u=aa a%aa b*2^s:=by
     rw[<-hr,<-g,VE,XT,VO f]
    have e3:aa (u.take N)=aa a%aa b*2^s:=by
     rw[(HC inv.lu (i:=N) ?_).1,e2];have:=bz lv;rw[E,<-hN]at this;omega
    have e4:=tI inv.lq inv.lenq e1;have Q:=rW (u.take N) s (by simp;omega) (inv.lu.take _) (by omega);rw[e3,Yn _ w]at Q;have hNU:N<=U.length:=by omega
    have hNu:N<=u.length:=by omega
    simp[g8,g9,J,g12,hNU];refine bt rfl rfl (H1:=H++[some ⟨1,u.map u32,true,false⟩,some ⟨1,(df y s).map u32,true,false⟩,some ⟨1,q.map u32,true,true⟩]) (vs:=[lim (u.take N),.int .i64 s]) (by refine WZ (b:=ah _ _) rfl ?_;simp[ah,aF,gk,lim,hNu]) Q ?_;have O:q.length=m:=inv.lenq;rw[<-e4];simp[lim,O];exact VC (by simp;omega)
def cl (n:Nat):List Nat:=if 256<(aB n).length then []else aB n
def ut (n:Nat):Int:=if 256<(aB n).length then 9 else 0
theorem cR {n:Nat}(h:(aB n).length<=256):cl n=aB n:=Vk (by omega)
theorem oa {n:Nat}(h:(aB n).length<=256):ut n=0:=Vk (by omega)
theorem xl {l:List Nat}{n:Nat}(a:l.length<=100000000)(ll:Li l)(hv:aa l=n):CQ prog Gu [lim l] (.tup [lim (cl n),.int .i64 (ut n)]):=by
 have:=xC l a;rw[eh ll,hv]at this;exact this
theorem Cj {k n:Nat}(a:k<=100000000)(h:n<4294967296^k):CQ prog Gu [lim (de k n)] (.tup [lim (cl n),.int .i64 (ut n)]):=
 xl (by rw[pQ];exact a) pA (by rw[pR,VO h])
theorem Dq (a b:List Nat)(k:a.length<=256)(l:b.length<=256)(c:Li a)(d:Li b):CQ prog q78 [lim a,lim b] (.tup [lim (cl (aa a+aa b)),.int .i64 (ut (aa a+aa b))]):=by
 refine ap rfl fun H=>?_
 simp;refine bt rfl rfl (H1:=H++[some ⟨1,[lim a,lim b],true,false⟩]) (vs:=[fM [a,b]]) (by simp[prep,ah,aF];rfl) (pC [a,b] (by simp)) ?_;have e:¬(256<a.length):=by omega
 have f:¬(256<b.length):=by omega
 simp[e,f];refine ak rfl rfl rfl (vw a b (by omega) (by omega) c d) ?_;simp;refine ak rfl rfl rfl (Cj (by omega) ?_) ?_
 ·have g:=bz c;have h:=bz d;have i:=tK (show a.length<=max a.length b.length by omega);have j:=tK (show b.length<=max a.length b.length by omega);rw[VH];omega
 ·simp
theorem Bk (a b:List Nat)(j:a.length<=256)(k:b.length<=256)(d:Li a)(f:Li b)(e:aa b<=aa a):CQ prog q75 [lim a,lim b] (.tup [lim (aB (aa a-aa b)),.int .i64 0]):=by
 have c:(aB (aa a-aa b)).length<=256:=i6 (Xq _ _) (Vp (limbsOf_len.2 (bz d)) j);refine ap rfl fun H=>?_
 simp;refine bt rfl rfl (H1:=H++[some ⟨1,[lim a,lim b],true,false⟩]) (vs:=[fM [a,b]]) (by simp[prep,ah,aF];rfl) (pC [a,b] (by simp)) ?_;have g:¬(256<a.length):=by omega
 have h:¬(256<b.length):=by omega
 simp[g,h];refine ak rfl rfl rfl (my a b (by omega) (by omega) d f) ?_;have i:¬(aL (aa a) (aa b)<0):=by unfold aL;split<;>(try split)<;>omega
 simp[i64,i];refine ak rfl rfl rfl (TY a b (by omega) (by omega) d f e) ?_;simp;refine ak rfl rfl rfl (Cj ?_ ?_) ?_
 ·have:=limbsOf_len.2 (bz d);omega
 ·have:=bz (aY (aa a));rw[aP]at this;omega
 ·simp[cR c,oa c]
theorem Dr (a b:List Nat)(k:a.length<=256)(l:b.length<=256)(i:Li a)(j:Li b):CQ prog q77 [lim a,lim b] (.tup [lim (cl (aa a*aa b)),.int .i64 (ut (aa a*aa b))]):=by
 refine ap rfl fun H=>?_
 simp;refine bt rfl rfl (H1:=H++[some ⟨1,[lim a,lim b],true,false⟩]) (vs:=[fM [a,b]]) (by simp[prep,ah,aF];rfl) (pC [a,b] (by simp)) ?_;have g:¬(256<a.length):=by omega
 have h:¬(256<b.length):=by omega
 simp[g,h];refine ak rfl rfl rfl (gj a (by omega)) ?_;simp;refine ak rfl rfl rfl (gj b (by omega)) ?_;have c:=nu a;have d:=nu b;rw[eh i]at c ⊢;rw[eh j]at d ⊢;simp;refine ak rfl rfl rfl (Tw (aB (aa a)) (aB (aa b)) (by omega) (by omega) (aY _) (aY _)) ?_;simp[aP];refine ak rfl rfl rfl (Cj (by omega) ?_) ?_
 ·have e:=bz (aY (aa a));have f:=bz (aY (aa b));rw[aP]at e f;rw[Vs];exact Ya e f
 ·simp
theorem sj (a:List Nat)(n:Nat)(k:a.length<=256)(d:Li a)(l:n<=65536):CQ prog q76 [lim a,.int .i64 n] (.tup [lim (aB (aa a/2^n)),.int .i64 0]):=by
 have j:=Vp (limbsOf_len.2 (bz d)) k;have b:(aB (aa a/2^n)).length<=256:=i6 (VY _ _) j;refine ap rfl fun H=>?_
 simp;refine bt rfl rfl (H1:=H++[some ⟨1,[lim a],true,false⟩]) (by simp[prep,ah,aF];rfl) (pC [a] (by simp)) ?_;have e:¬(256<a.length):=by omega
 have f:¬((65536:Int)<n):=by omega
 have g:¬((n:Int)<0):=by omega
 simp[e,f,g];refine ak rfl rfl rfl (rW a n (by omega) d (by omega)) ?_;simp;refine ak rfl rfl rfl (Cj (by omega) ?_) ?_
 ·have c:=bz (aY (aa a));rw[aP]at c;have h:2^n=4294967296^(n/32)*2^(n%32):=by rw[bB,<-Vs,Wy]
  have i:aa a/2^n<=aa a/4294967296^(n/32):=by
   rw[h,<-Ww];exact VY _ _
  refine V4 i ?_;rw[VW (Xs (by omega)),<-Vs];exact Vx c (tK (by omega))
 ·simp[cR b,oa b]
theorem DR (a b:List Nat)(k:a.length<=256)(l:b.length<=256)(i:Li a)(d:Li b)(e:0<aa b):CQ prog qy1 [lim a,lim b] (.tup [lim (aB (aa a/aa b)),lim (aB (aa a%aa b)),.int .i64 0]):=by
 obtain⟨q,r,lq,lr,j,vr,m,n,h⟩:=Ax a b (by omega) (by omega) i d e;refine ap rfl fun H=>?_
 simp;refine bt rfl rfl (H1:=H++[some ⟨1,[lim a,lim b],true,false⟩]) (vs:=[fM [a,b]]) (by simp[prep,ah,aF];rfl) (pC [a,b] (by simp)) ?_;have f:¬(256<a.length):=by omega
 have g:¬(256<b.length):=by omega
 simp[f,g];refine ak rfl rfl rfl (gj b (by omega)) ?_;rw[eh d];have c:aB (aa b)≠[]:=lE (by omega);simp[lim,c];refine zq h ?_;simp;refine ak rfl rfl rfl (gj q (by omega)) ?_;rw[eh lq,j];simp;refine ak rfl rfl rfl (DB _) ?_;simp;refine ak rfl rfl rfl (gj r (by omega)) ?_;rw[eh lr,vr];simp;refine ak rfl rfl rfl (DB _) ?_;simp[lim]
def a5 : Nat->Nat
 |0=>0
 |n+1=>if(a5 n+1)*(a5 n+1)<=n+1 then a5 n+1 else a5 n
theorem kF : ∀n,a5 n*a5 n<=n/\n<(a5 n+1)*(a5 n+1)
 |0=>by simp[a5]
 |n+1=>by
  obtain⟨a,b⟩:=kF n;unfold a5;split
  ·rename_i h;refine⟨h,?_⟩;have:(a5 n+1+1)*(a5 n+1+1)=(a5 n+1)*(a5 n+1)+2*(a5 n+1)+1:=by rw[VI,VM];omega
   omega
  ·rename_i h;omega
theorem rA {n s:Nat}(a:s*s<=n):s<=a5 n:=by
 obtain⟨b,c⟩:=kF n;rcases Vm (a5 n) s with h|h
 ·have:=Wi h h;simp only[Nat.succ_eq_add_one]at this;omega
 ·exact h
theorem Pt {a x:Nat}(f:0<x):a5 a<=(x+a/x)/2:=by
 obtain⟨g,_⟩:=kF a;generalize a5 a=s at *
 rw[Wq (by omega)];have hz:=Xa (a/x);rcases Vm (s*2) x with h|h
 ·omega
 ·have:s*2-x<=a/x:=by
   rw[Wq f];refine Vp ?_ g;rcases Nat.le_total x s with c|c
   ·obtain⟨t,rfl⟩:=Wb c;have e:(x+t)*2-x=x+2*t:=by omega
    rw[e];have b:(x+2*t)*x=x*x+2*(t*x):=by rw[VI,Vt]
    have d:(x+t)*(x+t)=x*x+2*(t*x)+t*t:=by rw[VM,VI,VI,VE x t];omega
    rw[b,d];omega
   ·obtain⟨t,rfl⟩:=Wb c;have e:s*2-(s+t)=s-t:=by omega
    rw[e];have b:(s-t)*(s+t)<=s*s:=by
     rw[VM,X4,X4];have i:t*t<=s*t:=Vn _ (by omega);have j:t*s<=s*s:=Vn _ (by omega);rw[VE t s]at *
     omega
    exact b
  omega
theorem Rr {a x:Nat}(c:0<x)(d:a5 a<=x)(h:x<=(x+a/x)/2):a5 a=x:=by
 obtain⟨e,f⟩:=kF a;rw[Wq (by omega)]at h;have b:x<=a/x:=by omega
 rw[Wq c]at b;have:=rA b;omega
theorem kg {m j r:Nat}(b:m≠0)(a:r<2^j):ac (m*2^j+r)=ac m+j:=by
 have h:2^j<=m*2^j+r:=by
  have:1*2^j<=m*2^j:=Vn _ (by omega);omega
 rw[uc h]
 congr 2
 rw[VE,XE (Vl j),We a,VF]
theorem iG : ac 0=0:=rfl
theorem dW {a b:Nat}(h:a<=b):ac a<=ac b:=by
 by_cases c:a=0
 ·rw[c,iG];omega
 ·have e:=eF c;have f:=eF (n:=b) (by omega);have d:2^(ac a-1)<2^ac b:=by omega
  have:=(Xb (by omega:1<2)).1 d;omega
theorem gD {n b:Nat}(h:n<2^b):ac n<=b:=by
 by_cases a:n=0
 ·rw[a,iG];omega
 ·have d:=eF a;have c:2^(ac n-1)<2^b:=by omega
  have:=(Xb (by omega:1<2)).1 c;omega
theorem eM (n:Nat):n<2^ac n:=by
 by_cases a:n=0
 ·rw[a];decide
 ·exact(eF a).2.1
theorem bitL_eq0 {n:Nat}:ac n=0↔n=0:=by
 constructor
 ·intro h;by_cases a:n=0
  ·exact a
  ·have:=(eF a).2.2;omega
 ·rintro rfl;rfl
theorem oC {n:Nat}(h:n≠0):∀j,tz (n*2^j)=tz n+j
 |0=>by simp
 |j+1=>by
  have b:=Vl j;have a:n*2^(j+1)=n*2^j*2:=by rw[VH,Vt]
  rw[a,yv (XD (XD h (by omega)) (by omega)) (Yb _ _),Yn _ (by omega),oC h j];omega
theorem Dy.of_shift {neg:Bool}{n j:Nat}{e:Int}:Dy.of neg (n*2^j) (e-j)=Dy.of neg n e:=by
 unfold Dy.of;by_cases h:n=0
 ·simp[h]
 ·have a:=Vl j;rw[Vk h,Vk (XD h (by omega)),oC h];rw[Vs,VE (2^tz n),VE n,Nat.mul_div_mul_left _ _ a]
  congr 1
  omega
def a8 (m:Nat)(e:Int)(p:Nat):Nat:=(max (max ((ac m:Int)-p) (-16384-e)) 0).toNat
def be (m:Nat)(e:Int)(more:Bool)(p:Nat)(out:Bool):Nat:=
 m/2^a8 m e p+(if(more ||decide (m%2^a8 m e p≠0))&&out then 1 else 0)
def aN (neg:Bool)(m:Nat)(e:Int)(more:Bool)(p:Nat)(up:Bool):Dy × Int:=
 if be m e more p (neg != up)≠0/\(16384:Int)<ac (be m e more p (neg != up))+(e+a8 m e p)then
  (if neg != up then(Dy.zero,9)else(Dy.of neg (2^p-1) (16384-p),0))
 else(Dy.of neg (be m e more p (neg != up)) (e+a8 m e p),0)
theorem q9f {m j k r:Nat}(f:r<2^j):(m*2^j+r)/2^(k+j)=m/2^k/\((m*2^j+r)%2^(k+j)≠0↔(m%2^k≠0\/r≠0)):=by
 have e:=Vl j;have a:(m*2^j+r)/2^j=m:=by rw[VE,XE e,We f,VF]
 have g:(m*2^j+r)%2^j=r:=by rw[VE,XT,VO f]
 have b:2^(k+j)=2^j*2^k:=by rw[Vs,VE]
 refine⟨by rw[b,<-Ww,a],?_⟩;rw[b,aak,a,g];constructor
 ·intro h;by_cases c:r=0
  ·by_cases d:m%2^k=0
   ·rw[c,d]at h;simp at h
   ·exact .inl d
  ·exact .inr c
 ·intro h i;rcases h with h|h
  ·have:0<2^j*(m%2^k):=Xj e (by omega);omega
  ·omega
theorem pY {neg:Bool}{m:Nat}{e:Int}{more more2:Bool}{p:Nat}{up:Bool}{j r:Nat}(d:m≠0)(s:r<2^j)(b:more=(more2 ||decide (r≠0)))(z:more=true->p<=ac m) :
 aN neg (m*2^j+r) (e-j) more2 p up=aN neg m e more p up:=by
 have y:=kg d s;have⟨L,o⟩:∃L:Int,L=max ((ac m:Int)-p) (-16384-e):=⟨_,rfl⟩
 have E:a8 m e p=(max L 0).toNat:=by rw[a8,o]
 have F:a8 (m*2^j+r) (e-j) p=(max (L+j) 0).toNat:=by rw[a8,y,o];congr 1;omega
 by_cases D:0<=L
 ·have k3:a8 (m*2^j+r) (e-j) p=a8 m e p+j:=by omega
  obtain⟨u,v⟩:=q9f (m:=m) (k:=a8 m e p) s;have A:∀a,be (m*2^j+r) (e-j) more2 p a=be m e more p a:=by
   intro a;unfold be;rw[k3,u]
   congr 2
   rw[b];have:decide ((m*2^j+r)%2^(a8 m e p+j)≠0)=(decide (m%2^a8 m e p≠0) ||decide (r≠0)):=by
    rw[aaq];simp only[WF,VT];exact v
   rw[this];cases more2<;>cases decide (r≠0)<;>cases decide (m%2^a8 m e p≠0)<;>rfl
  unfold aN;rw[A,k3];have g:e-(j:Int)+((a8 m e p+j:Nat):Int)=e+a8 m e p:=by omega
  rw[g]
 ·have l:more=false:=by
   cases h:more with
   |false=>rfl
   |true=>have:=z h;omega
  subst l;have f:more2=false/\r=0:=by
   cases more2<;>simp at b ⊢;exact b
  obtain⟨rfl,rfl⟩:=f;rw[VF]at *
  have t:a8 m e p=0:=by omega
  have k3:a8 (m*2^j) (e-j) p<=j:=by omega
  have⟨i,hi⟩:∃i,j=i+a8 (m*2^j) (e-j) p:=⟨j-a8 (m*2^j) (e-j) p,by omega⟩
  generalize n:a8 (m*2^j) (e-j) p=k at *
  have w:m*2^j/2^k=m*2^i:=by rw[hi,Vs,<-Vt,Yn _ (Vl k)]
  have x:m*2^j%2^k=0:=by rw[hi,Vs,<-Vt,Yb]
  have B:∀a,be (m*2^j) (e-j) false p a=m*2^i:=by intro a;simp[be,n,w,x]
  have C:∀a,be m e false p a=m:=by intro a;simp[be,t,XO]
  have c:=kg (r:=0) d (Vl i);rw[VF]at c;have cz:=Vl i;have g:e-(j:Int)+(k:Int)=e-i:=by omega
  have q:(m*2^i≠0/\(16384:Int)<(ac m+i:Nat)+(e-i))↔(m≠0/\(16384:Int)<ac m+(e+(0:Nat))):=by
   constructor
   ·intro h;exact⟨d,by omega⟩
   ·intro h;exact⟨XD d (by omega),by omega⟩
  unfold aN;rw[B,C,n,t,c,g,Dy.of_shift];by_cases h:m≠0/\(16384:Int)<ac m+(e+(0:Nat))
  ·rw[Vh (q.2 h),Vh h]
  ·rw[Vk (fun f=>h (q.1 f)),Vk h];simp
theorem nj {neg:Bool}{e:Int}{p:Nat}{up:Bool}:aN neg 0 e false p up=(Dy.zero,0):=by
 have q:∀a,be 0 e false p a=0:=by intro a;simp[be]
 unfold aN;rw[q];simp[Dy.of,Dy.zero]
theorem Ti {a n:Nat}(h:a<2^(2*n)):a5 a<2^n:=by
 obtain⟨c,_⟩:=kF a;rcases Vm (a5 a) (2^n)with b|b
 ·exact b
 ·have:=Wi b b;rw[<-Vs,<-Nat.two_mul]at this;omega
set_option maxHeartbeats 4000000 in
theorem Mw (a:List Nat)(ha:a.length<=256)(C:Li a):CQ prog q38 [lim a] (.tup [lim (aB (a5 (aa a))),.int .i64 0]):=by
 refine ap rfl fun H=>?_
 simp;refine bt rfl rfl (H1:=H++[some ⟨1,[lim a],true,false⟩]) (by simp[prep,ah,aF];rfl) (pC [a] (by simp)) ?_;have U:¬(256<a.length):=by omega
 simp[U];refine ak rfl rfl rfl (po a (by omega) C) ?_;by_cases g:aa a=0
 ·simp[g,i64,ac,a5,kr,lim]
 ·have l:=bz C;rw[bB]at l;have W:=gD l;have⟨b,i⟩:∃b,b=ac (aa a):=⟨_,rfl⟩
  have Y:¬(b:Int)=0:=by
   have:=(eF g).2.2;omega
  rw[<-i]at W;have⟨k,hk⟩:∃k,k=(b+1)/2:=⟨_,rfl⟩
  have G:IntKind.i64.wrap ((b:Int)+1)=((b+1:Nat):Int):=by rw[wrap_i64]<;>omega
  have I:((b+1:Nat):Int).tdiv 2=(k:Int):=by rw[Int.tdiv_eq_ediv_of_nonneg (by omega)];omega
  have T:IntKind.i64.wrap (k:Int)=k:=by rw[wrap_i64]<;>omega
  have⟨t,u⟩:∃t,t=b+1:=⟨_,rfl⟩
  rw[<-u]at G I;have Q:(t:Int)/2=(k:Int):=by omega
  have L:Li [1]:=by intro x hx;simp at hx;omega
  have v1:aa [1]=1:=rfl;rw[<-i];have h:¬b=0:=by omega
  simp[i64,h,G,I,T];refine pL (args:=[.ref (H.length+1) 1 0 1,.int .i64 k]) (vs:=[lim [1],.int .i64 k]) (H1:=H++[some ⟨1,[lim a],true,false⟩,some ⟨1,[.int .u32 1],true,false⟩]) rfl (by simp) (by refine WZ (b:=ah _ _) rfl ?_;simp[ah,aF,gk,lim,u32]) (o6 [1] k (by simp) L (by omega) _ _ ?_);simp;refine bt rfl rfl (H1:=H++[some ⟨1,[lim a],true,false⟩,some ⟨1,[.int .u32 1],true,false⟩,some ⟨1,(df [1] k).map u32,true,false⟩]) (vs:=[lim (df [1] k)]) (by refine WZ (b:=ah _ _) rfl ?_;simp[ah,aF,gk,lim,VC]) (gj (df [1] k) (by have:=UK (a:=[1]) (n:=k);simp at this;omega)) ?_;rw[eh DK,B5 L,v1,WH];have hp2:a5 (aa a)<2^k:=Ti (Vx (eM _) (Vg (by omega) (by omega)));simp;refine e9 (fun n E F=>H <+: F/\∃x,n=aa x/\Li x/\x.length<=200/\a5 (aa a)<=aa x/\0<aa x/\E 0=lim a/\E 5=lim x) (2^k) ?_ ?_
  ·refine⟨by simp,aB (2^k),by rw[aP],aY _,?_,by rw[aP];omega,by rw[aP];exact Vl k,by simp,by simp⟩;exact ny (B:=k+1) (by have:=Vl k;rw[VH];omega) (by omega)
  ·rintro n E F ⟨J,x,rfl,e,z,w,d,g,m⟩;obtain⟨q,r,lq,lr,D,vr,nq,nr,hd⟩:=Ax a x (by omega) (by omega) C e d;have⟨y,A⟩:∃y,y=(aa x+aa a/aa x)/2:=⟨_,rfl⟩
   have O:=Pt (a:=aa a) d;rw[<-A]at O;have hql:=limbsOf_len.2 (bz lq);refine b9 ?_;simp[Zq,g,m];refine zq hd ?_;simp[m];refine ak rfl rfl rfl (gj q (by omega)) ?_;rw[eh lq];simp;refine ak rfl rfl rfl (vw x (aB (aa q)) (by omega) (by omega) e (aY _)) ?_;have⟨S,p⟩:∃S,S=de (max x.length (aB (aa q)).length+1) (aa x+aa (aB (aa q))):=⟨_,rfl⟩
   have M:Li S:=by rw[p];exact pA
   have nS:S.length<=500:=by rw[p,pQ];omega
   have vS:aa S=aa x+aa a/aa x:=by
    rw[p,pR,aP,D,VO];have f:=bz e;have o:=bz (aY (aa q));rw[aP,D]at o;have h8:=tK (show x.length<=max x.length (aB (aa q)).length by omega);have h9:=tK (show(aB (aa q)).length<=max x.length (aB (aa q)).length by omega);rw[VH];rw[D]at *;omega
   rw[<-p];simp;refine ak rfl rfl rfl (rW S 1 (by omega) M (by omega)) ?_;have⟨Z,s⟩:∃Z,Z=de ((aB (aa S)).length-1/32) (aa S/2^1):=⟨_,rfl⟩
   have N:Li Z:=by rw[s];exact pA
   have nZ:Z.length<=500:=by rw[s,pQ];have:=limbsOf_len.2 (bz M);omega
   have P:aa Z=y:=by
    rw[s,pR,VO,vS,A];have f:=bz (aY (aa S));rw[aP]at f;exact V4 (VY _ _) f
   rw[<-s];simp;refine ak rfl rfl rfl (gj Z (by omega)) ?_;rw[eh N,P];simp[m];have hyl:(aB y).length<=500:=by rw[<-P];exact Vp (limbsOf_len.2 (bz N)) nZ
   refine ak rfl rfl rfl (my (aB y) x (by omega) (by omega) (aY _) e) ?_;rw[aP];rcases Vm y (aa x)with c|j
   ·have K:aL y (aa x)=-1:=by simp[aL,c]
    simp[i64,K];refine⟨y,c,J,aB y,by rw[aP],aY _,?_,by rw[aP];exact O,?_,g,rfl⟩
    ·have f:=bz e;exact Vp (i6 (W6 c) (limbsOf_len.2 f)) z
    ·rw[aP];have f:1<=a5 (aa a):=rA (by omega);omega
   ·have K:¬aL y (aa x)<0:=by unfold aL;split<;>(try split)<;>omega
    have hs:=Rr d w (by rw[<-A];exact j);have v:(0:Int)<=aL y (aa x):=by omega
    simp[i64,v,m];refine ak rfl rfl rfl (xl (by omega) e rfl) ?_;have o:(aB (aa x)).length<=256:=Vp (limbsOf_len.2 (bz e)) (by omega);rw[cR o,oa o,hs];simp[jn J]
