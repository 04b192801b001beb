/- Parts of the proof: FpNum, FpNat, FpLen, FpLen2, FpBits, FpDy, FpSlcU, FpBop, FpLimb, FpN2, FpDyC, FpVal, FpCmp, FpOut, FpRef2, FpRef2b, FpRef2c, FpRef2d, FpRef2e, FpRef2f, FpIv0, FpRef50, FpHull, FpIMeet. -/
import Derived.Test.YtfioikimlnlcbaaGreatDoorFa
namespace Go.Abs
def natV : List Nat->Nat
 | []=>0
 |x :: l=>x+4294967296*natV l
def Li (l:List Nat):Prop:=∀x ∈ l,x<4294967296
theorem Li.cons {x:Nat}{l:List Nat}(h:Li (x :: l)):x<4294967296/\Li l:=⟨h x (by simp),fun y hy=>h y (by simp[hy])⟩
theorem Li.take {l:List Nat}(h:Li l)(n:Nat):Li (l.take n):=fun x hx=>h x (List.mem_of_mem_take hx)
theorem Li.drop {l:List Nat}(h:Li l)(n:Nat):Li (l.drop n):=fun x hx=>h x (List.mem_of_mem_drop hx)
theorem Li.append {l m:List Nat}(h:Li l)(k:Li m):Li (l++m):=fun x hx=>(List.mem_append.1 hx).elim (h x) (k x)
theorem qbr : ∀(l m:List Nat),natV (l++m)=natV l+4294967296^l.length*natV m
 | [],m=>by simp[natV]
 |x :: l,m=>by
  simp only[List.cons_append,natV,qbr l m,List.length_cons,Nat.pow_succ];rw[Nat.mul_add,<-Nat.mul_assoc,Nat.mul_comm 4294967296 (4294967296^l.length)];omega
theorem qan : ∀{l:List Nat},Li l->natV l<4294967296^l.length
 | [],_=>by simp[natV]
 |x :: l,h=>by
  have h1:=qan h.cons.2;have h2:=h.cons.1;simp only[natV,List.length_cons,Nat.pow_succ];omega
theorem qpg (n:Nat):natV (List.replicate n 0)=0:=by
 induction n with
 |zero=>rfl
 |succ n ih=>simp[List.replicate_succ,natV,ih]
def trimN (l:List Nat):Nat->Nat
 |0=>0
 |n+1=>if l[n]?=some 0 then trimN l n else n+1
def trimL (l:List Nat):List Nat:=l.take (trimN l l.length)
theorem qvw (l:List Nat):∀n,trimN l n<=n
 |0=>Nat.le_refl _
 |n+1=>by unfold trimN;split;exact Nat.le_succ_of_le (qvw l n);exact Nat.le_refl _
theorem qu0 (l:List Nat):∀n,n<=l.length->natV (l.take (trimN l n))=natV (l.take n)
 |0,_=>by simp[trimN]
 |n+1,h=>by
  unfold trimN;split
  ·rename_i h0;rw[qu0 l n (by omega),List.take_add_one,h0,qbr];simp[natV]
  ·rfl
theorem qjj (l:List Nat):natV (trimL l)=natV l:=by rw[trimL,qu0 l _ (Nat.le_refl _),List.take_length]
theorem Li.trimL {l:List Nat}(h:Li l):Li (trimL l):=h.take _
def Trim (l:List Nat):Prop:=∀x,l.getLast?=some x->x≠0
theorem qxz (l:List Nat):∀n,n<=l.length->∀m,trimN l n=m+1->l[m]?≠some 0
 |0,_,m,h=>by simp[trimN]at h
 |n+1,hn,m,h=>by
  unfold trimN at h;split at h
  ·exact qxz l n (by omega) m h
  ·rename_i h0;have:n=m:=by omega
   subst this;exact h0
theorem qgx (l:List Nat):Trim (trimL l):=by
 intro x hx;unfold trimL at hx;have hle:=qvw l l.length;rw[List.getLast?_eq_getElem?,List.length_take,Nat.min_eq_left hle]at hx;cases hq:trimN l l.length with
 |zero=>rw[hq]at hx;simp at hx
 |succ m=>
  rw[hq]at hx;have h1:=qxz l l.length (Nat.le_refl _) m hq;have h2:(l.take (m+1))[m+1-1]?=l[m]?:=by rw[List.getElem?_take];simp
  rw[h2]at hx;intro h0;subst h0;exact h1 hx
theorem qn5 {l:List Nat}(h:Trim l):trimL l=l:=by
 unfold trimL;cases hl:l.length with
 |zero=>rw[List.eq_nil_of_length_eq_zero hl];rfl
 |succ n=>
  have h1:l[n]?≠some 0:=by
   intro h0;exact h 0 (by rw[List.getLast?_eq_getElem?,hl];exact h0) rfl
  unfold trimN;rw[if_neg h1,<-hl,List.take_length]
theorem q8v {l:List Nat}(h:Trim l)(hn:l≠[]):4294967296^(l.length-1)<=natV l:=by
 have⟨x,hx⟩:∃x,l.getLast?=some x:=by
  cases hq:l.getLast? with
  |none=>exact absurd (List.getLast?_eq_none_iff.1 hq) hn
  |some x=>exact⟨x,rfl⟩
 have hx0:=h x hx;have:l=l.dropLast++[x]:=by
  have:=List.dropLast_concat_getLast hn;rw[List.getLast?_eq_some_getLast hn]at hx;injection hx with hx
  rw[hx]at this;exact this.symm
 rw[this,qbr];simp only[natV,List.length_append,List.length_dropLast,List.length_singleton,Nat.mul_zero,Nat.add_zero];have e:l.length-1+1-1=l.length-1:=by omega
 rw[e];have:4294967296^(l.length-1)*1<=4294967296^(l.length-1)*x:=Nat.mul_le_mul_left _ (by omega);omega
theorem qdu {a b:List Nat}(ha:Li a)(hb:Trim b)(h:a.length<b.length):natV a<natV b:=by
 have h1:=qan ha;have h2:=q8v hb (fun e=>by rw[e]at h;simp at h);have h3:4294967296^a.length<=4294967296^(b.length-1):=Nat.pow_le_pow_right (by omega) (by omega);omega
theorem qfp {a b:List Nat}(ha:Li a){k:Nat}(hka:k<a.length)(hkb:k<b.length)(hd:a.drop (k+1)=b.drop (k+1))(h:a[k]<b[k]):natV a<natV b:=by
 have ea:a=a.take k++(a[k] :: a.drop (k+1)):=by rw[<-List.drop_eq_getElem_cons hka,List.take_append_drop]
 have eb:b=b.take k++(b[k] :: b.drop (k+1)):=by rw[<-List.drop_eq_getElem_cons hkb,List.take_append_drop]
 have h1:=qan (ha.take k);rw[ea,eb,qbr,qbr];simp only[List.length_take,Nat.min_eq_left (Nat.le_of_lt hka),Nat.min_eq_left (Nat.le_of_lt hkb),natV]at h1 ⊢;rw[hd];have h2:4294967296^k*(a[k]+4294967296*natV (b.drop (k+1)))+4294967296^k<=4294967296^k*(b[k]+4294967296*natV (b.drop (k+1))):=by
  rw[<-Nat.mul_succ];exact Nat.mul_le_mul_left _ (by omega)
 omega
def cmpN (x y:Nat):Int:=if x<y then -1 else if y<x then 1 else 0
set_option maxHeartbeats 4000000
attribute [local simp] qky qh3 stepL gd
def u32 (x:Nat):V:=.int .u32 (x:Int)
def lim (l:List Nat):V:=.sl (l.map u32)
def i64 (n:Int):V:=.int .i64 n
@[simp] theorem qakx {x:Nat}:(u32 x).cells=[u32 x]:=rfl
@[simp] theorem qakz {l:List Nat}:(lim l).cells=[lim l]:=rfl
@[simp] theorem qak1 {n:Int}:(i64 n).cells=[i64 n]:=rfl
@[simp] theorem qaj2 {x:Nat}:(u32 x).isTup=false:=rfl
@[simp] theorem qaj4 {l:List Nat}:(lim l).isTup=false:=rfl
@[simp] theorem qaj6 {n:Int}:(i64 n).isTup=false:=rfl
theorem qsu : prog.fn qms=some qdx:=by rfl
theorem qcd (l:List Nat)(hl:l.length<=9223372036854775807):CQ prog qms [lim l] (lim (trimL l)):=by
 refine qaf qsu fun H=>?_
 simp[qdx,lim];refine qbu (fun k E H'=>H'=H/\E 0=lim l/\k<=l.length/\E 3=.int .i64 k/\trimN l k=trimN l l.length) l.length ?_ ?_
 ·simp[lim]
 ·rintro n E H' ⟨rfl,h0,hn,h3,ht⟩;refine qa1 ?_;simp only[lim]at h0;rcases n with _|n
  ·simp[qdj,h0,h3,trimL,<-ht,trimN]
  ·have e1:IntKind.i64.wrap (n:Int)=n:=by rw[wrap_i64]<;>omega
   have hlt:n<l.length:=by omega
   have p1:(0:Int)<=(n:Int)+1:=by omega
   by_cases hx:l[n]=0
   ·simp[qdj,h0,h3,e1,hlt,hx,u32];refine⟨n,by omega,rfl,by omega,rfl,?_⟩;rw[<-ht,trimN,if_pos (by rw[List.getElem?_eq_getElem hlt,hx])]
   ·simp[qdj,h0,h3,e1,hlt,hx,u32,p1,hn];rw[trimL,<-ht,trimN,if_neg (by rw[List.getElem?_eq_getElem hlt];simpa using hx),List.map_take]
@[simp] theorem qakh (H:Heap)(l:List Nat)(vs:List V):frzVs H (lim l :: vs)=(frzVs H vs).bind fun p=>some (lim l :: p.1,p.2):=rfl
@[simp] theorem qaki (H:Heap)(k:IntKind)(n:Int)(vs:List V):frzVs H (.int k n :: vs)=(frzVs H vs).bind fun p=>some (.int k n :: p.1,p.2):=rfl
@[simp] theorem qai0 (H:Heap)(b:Bool)(vs:List V):frzVs H (.bool b :: vs)=(frzVs H vs).bind fun p=>some (.bool b :: p.1,p.2):=rfl
@[simp] theorem qakg (H:Heap):frzVs H []=some ([],H):=rfl
theorem quh : prog.fn qoi=some qgw:=by rfl
theorem qdt (H:Heap)(l:List Nat):prep prog 111 H [lim l]=some ([lim l],H):=rfl
theorem qtz (a b:List Nat)(ha:a.length<=9223372036854775807)(hb:b.length<=9223372036854775807)(la:Li a)(lb:Li b):CQ prog qoi [lim a,lim b] (i64 (cmpN (natV a) (natV b))):=by
 refine qaf quh fun H=>?_
 simp;refine qab rfl rfl (qdt H a) (qcd a ha) ?_;simp;refine qab rfl rfl (qdt H b) (qcd b hb) ?_;rw[<-qjj a,<-qjj b];have ta:=qgx a;have tb:=qgx b;have la':=la.trimL;have lb':=lb.trimL;have hla:(trimL a).length<=9223372036854775807:=by unfold trimL;simp;omega
 generalize trimL a=x at *
 generalize trimL b=y at *
 by_cases hlt:x.length<y.length
 ·have h1:¬((x.length:Int)=(y.length:Int)):=by omega
  have h2:=qdu la' tb hlt;simp[lim,hlt,h1,cmpN,h2,i64]
 ·by_cases hgt:y.length<x.length
  ·have h1:¬((x.length:Int)=(y.length:Int)):=by omega
   have h2:=qdu lb' ta hgt;have h3:¬natV x<natV y:=by omega
   simp[lim,hlt,h1,cmpN,h2,h3,i64]
  ·have heq:x.length=y.length:=by omega
   simp[lim,heq];refine qbu (fun k E H'=>H'=H/\E 0=lim x/\E 1=lim y/\k<=x.length/\E 5=.int .i64 ((k:Int)-1)/\x.drop k=y.drop k) x.length ?_ ?_
   ·have e1:IntKind.i64.wrap ((y.length:Int)-1)=(y.length:Int)-1:=by rw[wrap_i64]<;>omega
    have e2:y.drop x.length=[]:=by rw[heq];exact List.drop_length
    simp[lim,e1,heq]
   ·rintro n E H' ⟨rfl,h0,h1,hn,h5,hd⟩;refine qa1 ?_;simp only[lim]at h0 h1;rcases n with _|n
    ·have e1:x=y:=by simpa using hd
     have e2:¬((0:Int)<=-1):=by omega
     simp[qcu,h5,e1,cmpN,i64]
    ·have e1:(n+1:Int)-1=n:=by omega
     have hx:n<x.length:=by omega
     have hy:n<y.length:=by omega
     have p1:((0:Int)<=n):=by omega
     by_cases hlt:x[n]<y[n]
     ·have h2:=qfp la' hx hy hd hlt;have h3:((x[n]:Int)<(y[n]:Int)):=by omega
      simp[qcu,h0,h1,h5,e1,p1,hx,hy,u32,hlt,cmpN,h2,i64]
     ·by_cases hgt:y[n]<x[n]
      ·have h2:=qfp lb' hy hx hd.symm hgt;have h3:¬natV x<natV y:=by omega
       simp[qcu,h0,h1,h5,e1,p1,hx,hy,u32,hlt,hgt,cmpN,h2,h3,i64]
      ·have e2:IntKind.i64.wrap ((n:Int)-1)=(n:Int)-1:=by rw[wrap_i64]<;>omega
       simp[qcu,h0,h1,h5,e1,p1,hx,hy,u32,hlt,hgt,e2];refine⟨n,by omega,rfl,rfl,by omega,rfl,?_⟩;rw[List.drop_eq_getElem_cons hx,List.drop_eq_getElem_cons hy,hd]
       congr 1
       omega
end Go.Abs
namespace Go.Abs
theorem qac4 : prog.fn qjm=some qdl:=by rfl
def bitL (n:Nat):Nat:=if n=0 then 0 else Nat.log2 n+1
theorem qaf1 : ∀i:Fin 256,str_0[i.val]?=some (UInt8.ofNat (bitL i.val)):=by decide +kernel
theorem q23 {i:Nat}(h:i<256):str_0[i]?=some (UInt8.ofNat (bitL i)):=qaf1 ⟨i,h⟩
theorem qaap {i:Nat}(h:i<256):bitL i<=8:=by
 have:∀i:Fin 256,bitL i.val<=8:=by decide +kernel
 exact this ⟨i,h⟩
theorem qei {n k:Nat}(h:2^k<=n):bitL n=bitL (n/2^k)+k:=by
 have h0:0<2^k:=Nat.two_pow_pos k;have h1:n≠0:=by omega
 have h2:n/2^k≠0:=by
  have:=(Nat.le_div_iff_mul_le h0 (x:=1) (y:=n)).2 (by omega);omega
 unfold bitL;rw[if_neg h1,if_neg h2];have:Nat.log2 n=Nat.log2 (n/2^k)+k:=by
  rw[Nat.log2_eq_iff h1];have h3:=(Nat.log2_eq_iff h2).1 rfl;rw[Nat.pow_add,show Nat.log2 (n/2^k)+k+1=(Nat.log2 (n/2^k)+1)+k by omega,Nat.pow_add];exact⟨(Nat.le_div_iff_mul_le h0).1 h3.1,(Nat.div_lt_iff_lt_mul h0).1 h3.2⟩
 omega
theorem qts {n b:Nat}(h0:n≠0)(h1:2^b<=n)(h2:n<2^(b+1)):bitL n=b+1:=by
 unfold bitL;rw[if_neg h0,(Nat.log2_eq_iff h0).2 ⟨h1,h2⟩]
theorem qar {n:Nat}(h:n≠0):2^(bitL n-1)<=n/\n<2^bitL n/\0<bitL n:=by
 unfold bitL;rw[if_neg h];have:=(Nat.log2_eq_iff h).1 rfl;exact⟨this.1,this.2,by omega⟩
theorem pow32 (n:Nat):4294967296^n=2^(32*n):=by rw[Nat.pow_mul]
theorem q4s {l:List Nat}{t:Nat}(hl:Li l)(ht:t≠0):bitL (natV (l++[t]))=32*l.length+bitL t:=by
 have h1:=qan hl;obtain⟨h2,h3,h4⟩:=qar ht;rw[qbr];simp only[natV,Nat.mul_zero,Nat.add_zero];rw[pow32]at h1 ⊢;have e1:2^(32*l.length)*t ≥ 2^(32*l.length)*2^(bitL t-1):=Nat.mul_le_mul_left _ h2;have e2:2^(32*l.length)*(t+1)<=2^(32*l.length)*2^bitL t:=Nat.mul_le_mul_left _ h3;rw[<-Nat.pow_add]at e1 e2;rw[Nat.mul_add,Nat.mul_one]at e2;have hp:=Nat.two_pow_pos (32*l.length+(bitL t-1));have:=qts (n:=natV l+2^(32*l.length)*t) (b:=32*l.length+(bitL t-1)) (by omega) (by omega) (by rw[show 32*l.length+(bitL t-1)+1=32*l.length+bitL t by omega];omega);omega
theorem qtr {t:Nat}(h:t<4294967296):bitL t<=32:=by
 unfold bitL;split
 ·omega
 ·rename_i h0;have:=(Nat.log2_lt h0 (k:=32)).2 (by omega);omega
attribute [local simp] qky qh3 stepL gd qa3
theorem qow (x k:Nat):Int.fdiv (x:Int) (k:Int)=((x/k:Nat):Int):=by
 rw[Int.fdiv_eq_ediv_of_nonneg _ (by omega)];rfl
theorem q59 (x:Nat):Int.fdiv (x:Int) 65536=((x/65536:Nat):Int):=qow x 65536
theorem q35 (x:Nat):Int.fdiv (x:Int) 256=((x/256:Nat):Int):=qow x 256
theorem qafs {n:Int}(h1:0<=n)(h2:n<256):IntKind.wrap .u8 n=n:=by
 simp only[IntKind.wrap,IntKind.bits,IntKind.signed];simp;omega
theorem qacv {y:Nat}(h:y<256):((UInt8.ofNat (bitL y)).toNat:Int)=bitL y:=by
 have:=qaap h;simp;omega
@[simp] theorem qadv : IntKind.u32.bits=32:=rfl
@[simp] theorem q4q : IntKind.u64.bits=64:=rfl
@[simp] theorem q4r : IntKind.i64.bits=64:=rfl
theorem w8 : IntKind.i64.wrap 8=8:=by decide
theorem w24 : IntKind.i64.wrap 24=24:=by decide
set_option maxHeartbeats 1000000 in
theorem q42 (x:Nat)(hx:x<4294967296):CQ prog qjm [u32 x] (i64 (bitL x)):=by
 refine qaf qac4 fun H=>?_
 have fin':∀(y k:Nat),y<256->k<=24->bitL x=bitL y+k->IntKind.i64.wrap ((k:Int)+IntKind.i64.wrap (((UInt8.ofNat (bitL y)).toNat:Nat):Int))=bitL x:=by
  intro y k hy hk he;have:=qaap hy;rw[qacv hy,wrap_i64 (n:=(bitL y:Int)) (by omega) (by omega),wrap_i64 (by omega) (by omega),he];omega
 have u8':∀y:Nat,y<256->IntKind.u8.wrap (y:Int)=y:=fun y hy=>qafs (by omega) (by omega)
 by_cases h1:x<65536
 ·have e1:¬((65536:Int)<=x):=by omega
  by_cases h2:x<256
  ·have e2:¬((256:Int)<=x):=by omega
   have:=fin' x 0 h2 (by omega) rfl;simp[u32,e1,e2,u8' x h2,q23 h2,i64];simpa using this
  ·have e2:((256:Int)<=x):=by omega
   have⟨y,hy⟩:∃y,y=x/256:=⟨_,rfl⟩
   have f1:Int.fdiv (x:Int) 256=(y:Int):=by rw[hy];exact q35 x
   have h3:y<256:=by omega
   have:=fin' y 8 h3 (by omega) (by rw[hy];exact qei (k:=8) (by omega));simp[u32,e1,e2,f1,w8,u8' _ h3,q23 h3,i64];simpa using this
 ·have e1:((65536:Int)<=x):=by omega
  have⟨y,hy⟩:∃y,y=x/65536:=⟨_,rfl⟩
  have f1:Int.fdiv (x:Int) 65536=(y:Int):=by rw[hy];exact q59 x
  have he:bitL x=bitL y+16:=by rw[hy];exact qei (k:=16) (by omega)
  by_cases h2:y<256
  ·have e2:¬((256:Int)<=y):=by omega
   have:=fin' y 16 h2 (by omega) he;simp[u32,e1,e2,f1,u8' _ h2,q23 h2,i64];simpa using this
  ·have e2:((256:Int)<=y):=by omega
   have⟨z,hz⟩:∃z,z=y/256:=⟨_,rfl⟩
   have f2:Int.fdiv (y:Int) 256=(z:Int):=by rw[hz];exact q35 y
   have h3:z<256:=by omega
   have he2:bitL y=bitL z+8:=by rw[hz];exact qei (k:=8) (by omega)
   have:=fin' z 24 h3 (by omega) (by rw[he,he2]);simp[u32,e1,e2,f1,f2,w24,u8' _ h3,q23 h3,i64];simpa using this
attribute [local simp] qky qh3 stepL gd
theorem qsv : prog.fn qmt=some qfr:=by rfl
@[simp] theorem qalx (g:Nat)(hg:(prog.fn g).elim true (fun f=>!f.raw)=true)(H:Heap)(l:List Nat):prep prog g H [lim l]=some ([lim l],H):=by
 unfold prep;cases hq:prog.fn g with
 |none=>rfl
 |some f=>rw[hq]at hg;simp at hg;simp[hg]
theorem qul (l:List Nat):l=[]\/∃k t,l=k++[t]:=by
 cases l with
 |nil=>exact .inl rfl
 |cons x xs=>exact .inr ⟨(x :: xs).dropLast,(x :: xs).getLast (by simp),(List.dropLast_concat_getLast (by simp)).symm⟩
set_option maxHeartbeats 1000000 in
theorem qqc (a:List Nat)(ha:a.length<=100000000)(la:Li a):CQ prog qmt [lim a] (i64 (bitL (natV a))):=by
 refine qaf qsv fun H=>?_
 simp;refine qab rfl rfl (qdt H a) (qcd a (by omega)) ?_;rw[<-qjj a];have ta:=qgx a;have la':=la.trimL;have hla:(trimL a).length<=100000000:=by unfold trimL;simp;omega
 generalize trimL a=x at *
 rcases qul x with rfl|⟨k,t,rfl⟩
 ·simp[lim,natV,bitL,i64]
 ·have hk:k.length<=100000000:=by simp at hla;omega
  have ht:t≠0:=ta t (by simp);have ht2:t<4294967296:=la' t (by simp);have lk:Li k:=fun y hy=>la' y (by simp[hy])
  have e1:¬((k.length:Int)+1=0):=by omega
  have e2:IntKind.i64.wrap (k.length:Int)=k.length:=by rw[wrap_i64]<;>omega
  have e3:IntKind.i64.wrap (32*(k.length:Int))=32*k.length:=by rw[wrap_i64]<;>omega
  simp[lim,e1,e2,e3];refine qab rfl rfl (vs:=[u32 t]) rfl (q42 t ht2) ?_;have e4:IntKind.i64.wrap (32*(k.length:Int)+bitL t)=bitL (natV (k++[t])):=by
   have:=qtr ht2;rw[q4s lk ht,wrap_i64]<;>omega
  simp[i64,e4]
end Go.Abs
namespace Go.Abs.W
structure Dy where
 neg:Bool
 m:List Nat
 e:Int
 deriving DecidableEq
structure Iv where
 lo:Dy
 hi:Dy
 all:Bool
 deriving DecidableEq
structure Sg where
 fr:Dy
 to:Dy
 tube:List Iv
 en:List Iv
 deriving DecidableEq
structure Pp where
 start:List Iv
 segs:List Sg
 deriving DecidableEq
@[simp] def Dy.v (d:Dy):V:=.agg [.bool d.neg,lim d.m,.int .i64 d.e]
@[simp] def Iv.v (x:Iv):V:=.agg [.bool x.lo.neg,lim x.lo.m,.int .i64 x.lo.e,.bool x.hi.neg,lim x.hi.m,.int .i64 x.hi.e,.bool x.all]
def ivs (l:List Iv):V:=.sl (l.map Iv.v)
@[simp] def Sg.v (s:Sg):V:=.agg [.bool s.fr.neg,lim s.fr.m,.int .i64 s.fr.e,.bool s.to.neg,lim s.to.m,.int .i64 s.to.e,ivs s.tube,ivs s.en]
def sgs (l:List Sg):V:=.sl (l.map Sg.v)
@[simp] def Pp.v (p:Pp):V:=.agg [ivs p.start,sgs p.segs]
def lims (l:List (List Nat)):V:=.sl (l.map lim)
@[simp] theorem qak0 {l:List Iv}:(ivs l).cells=[ivs l]:=rfl
@[simp] theorem qaky {l:List Sg}:(sgs l).cells=[sgs l]:=rfl
@[simp] theorem qaj5 {l:List Iv}:(ivs l).isTup=false:=rfl
@[simp] theorem qaj3 {l:List Sg}:(sgs l).isTup=false:=rfl
structure Dy.wt (d:Dy):Prop where
 li:Li d.m
 len:d.m.length<=9223372036854775807
 lo:-9223372036854775808<=d.e
 hi:d.e<9223372036854775808
@[simp] theorem qakj {H:Heap}{b:Bool}:frzC H (.bool b)=some (.bool b,H):=rfl
@[simp] theorem qal6 {H:Heap}{k:IntKind}{n:Int}:frzC H (.int k n)=some (.int k n,H):=rfl
@[simp] theorem qami {H:Heap}{l:List V}:frzC H (.sl l)=some (.sl l,H):=rfl
@[simp] theorem qal4 {H:Heap}{l:List Nat}:frzC H (lim l)=some (lim l,H):=rfl
@[simp] theorem qal5 {H:Heap}{l:List Iv}:frzC H (ivs l)=some (ivs l,H):=rfl
@[simp] theorem qal3 {H:Heap}{l:List Sg}:frzC H (sgs l)=some (sgs l,H):=rfl
@[simp] theorem qw1 {H:Heap}:frzC H .nil=some (.sl [],H):=rfl
@[simp] theorem qamr {b:Bool}:(V.bool b).cellPure=true:=rfl
@[simp] theorem qamx {k:IntKind}{n:Int}:(V.int k n).cellPure=true:=rfl
@[simp] theorem cp_sl {l:List V}:(V.sl l).cellPure=true:=rfl
@[simp] theorem qamv {l:List Nat}:(lim l).cellPure=true:=rfl
@[simp] theorem qamw {l:List Iv}:(ivs l).cellPure=true:=rfl
@[simp] theorem qamt {l:List Sg}:(sgs l).cellPure=true:=rfl
@[simp] theorem qamu : V.nil.cellPure=true:=rfl
@[simp] theorem qamk {n:Nat}{H:Heap}{vs:List V}:fin false n H (.tup vs)=(qce H vs).bind fun(vs',H1)=>some (.tup vs',H1.take n):=rfl
@[simp] theorem qamq {n:Nat}{H:Heap}{cs:List V}:fin false n H (.agg cs)=(qbv H (.agg cs)).bind fun(v',H1)=>some (v',H1.take n):=rfl
@[simp] theorem qamn {n:Nat}{H:Heap}:fin false n H .nil=some (.sl [],H.take n):=rfl
@[simp] theorem qamm {n:Nat}{H:Heap}{b z off len:Nat}:fin false n H (.ref b z off len)=(qbv H (.ref b z off len)).bind fun(v',H1)=>some (v',H1.take n):=rfl
@[simp] theorem qaml {n:Nat}{H:Heap}{l:List Sg}:fin false n H (sgs l)=some (sgs l,H.take n):=rfl
@[simp] theorem qaiw {H:Heap}{l:List Nat}:qbv H (lim l)=some (lim l,H):=rfl
@[simp] theorem qaix {H:Heap}{l:List Iv}:qbv H (ivs l)=some (ivs l,H):=rfl
@[simp] theorem qaiu {H:Heap}{l:List Sg}:qbv H (sgs l)=some (sgs l,H):=rfl
@[simp] theorem qagp {H:Heap}{b:Bool}:qbv H (.bool b)=some (.bool b,H):=rfl
@[simp] theorem qaiy {H:Heap}{k:IntKind}{n:Int}:qbv H (.int k n)=some (.int k n,H):=rfl
@[simp] theorem qajl {H:Heap}{l:List V}:qbv H (.sl l)=some (.sl l,H):=rfl
@[simp] theorem quv {H:Heap}:qbv H .nil=some (.sl [],H):=rfl
@[simp] theorem qaiz {H:Heap}{cs:List V}:qbv H (.agg cs)=(frzCs H cs).bind fun(cs',H1)=>if(V.agg cs').pure=true then some (.agg cs',H1)else none:=by
 unfold qbv frzV;simp only[];generalize frzCs H cs=o;cases o<;>rfl
@[simp] theorem qamo {n:Nat}{H:Heap}{l:List Nat}:fin false n H (lim l)=some (lim l,H.take n):=rfl
@[simp] theorem qamp {n:Nat}{H:Heap}{l:List Iv}:fin false n H (ivs l)=some (ivs l,H.take n):=rfl
@[simp] theorem qaiv {H:Heap}{b z off len:Nat}:qbv H (.ref b z off len)=frzC H (.ref b z off len):=by
 show(frzC H (.ref b z off len)).bind _=_;unfold frzC;simp only[];split
 ·split
  ·rfl
  ·rfl
 ·rfl
@[simp] theorem qid {H:Heap}{b z off len:Nat}:frzC H (.ref b z off len)=match H[b]? with
 |some (some k)=>if k.arr=true/\k.z=z/\off+len<=k.el.length then some (.sl ((k.el.drop off).take len),if k.wr then H.set b (some { k with wr:=false })else H)else none
 |_=>none:=rfl
theorem qtv {n b:Nat}:qaz n b=true↔n*b<=140737488355328:=by simp[qaz]
attribute [simp] qtv
attribute [simp] qce frzCs V.pure V.withCells qcq fillC fillE elems qcc
theorem qbe {α:Type}{H H':List α}(h:H <+: H'):H'.take H.length=H:=by
 obtain⟨t,rfl⟩:=h;simp
theorem qcx {α:Type}{H H' l:List α}(h:H <+: H'):H <+: H'++l:=h.trans (List.prefix_append _ _)
@[simp] theorem qaew {α:Type}{H l:List α}:H <+: H++l:=List.prefix_append _ _
def Cb (H:Heap)(g:Nat)(caps args:List V)(v:V):Prop:=
 ∀H',H <+: H'->prep prog g H' (args++caps)=some (args++caps,H')/\Ev prog (.call g (args++caps) H') (.ret v H')
theorem Cb.mono {H H':Heap}{g:Nat}{caps args:List V}{v:V}(h:Cb H g caps args v)(hp:H <+: H'):Cb H' g caps args v:=fun K hK=>h K (hp.trans hK)
def idxV (o:Option Nat):V:=match o with
 |some i=>.int .i64 i
 |none=>.int .i64 (-1)
theorem WL_cb {n0:Nat}{Q:AX->Env->Heap->Prop}{d:Bool}{dst:Option Nat}{sy:Bool}{l:List AOper}{K:List Fr}{E:Env}{H H0:Heap}{x:X}{caps args:List V}{xs:List X}{g:Nat}{v:V}(h:Cb H0 g caps args v)(hp:H0 <+: H)
 (hx:getX E x=.fn g caps) (ha:xs.map (getX E)=args) (k:WL prog n0 d l K (put E dst v) H Q):qty prog n0 d dst x xs sy l K E H Q:=
 qtx hx (by rw[ha]) (h H hp).1 ⟨_,_,(h H hp).2,fun _=>List.prefix_refl H,k⟩
theorem WL_ev {n0:Nat}{Q:AX->Env->Heap->Prop}{d:Bool}{dst:Option Nat}{sy:Bool}{l:List AOper}{K:List Fr}{E:Env}{H:Heap}{x:X}{caps args vs:List V}{xs:List X}{g:Nat}{v:V}
 (hx:getX E x=.fn g caps) (ha:xs.map (getX E)++caps=args) (hp:prep prog g H args=some (vs,H)) (h:Ev prog (.call g vs H) (.ret v H)) (k:WL prog n0 d l K (put E dst v) H Q):qty prog n0 d dst x xs sy l K E H Q:=
 qtx hx ha hp ⟨_,_,h,fun _=>List.prefix_refl H,k⟩
theorem qej {g:Nat}{f:AFn}{args:List V}{v:V}{H:Heap}(hf:prog.fn g=some f)
 (h:WK prog H.length f.body [] (E0 args) H (fun x E1 H1=>(x=.normal\/x=.ret)/\∃v0,resV E1 H1 f.results=some v0/\fin f.own H.length H1 v0=some (v,H))):Ev prog (.call g args H) (.ret v H):=by
 obtain⟨x,E1,H1,e,hx,v0,hr,hfin⟩:=h;exact .call hf e hx hr hfin
set_option maxHeartbeats 1000000 in
theorem q6x {H:Heap}{g:Nat}{caps:List V}{p:(List Nat)->Bool}(l:List (List Nat))(hl:l.length<=9223372036854775807)(h:∀x ∈ l,Cb H g caps [lim x] (.bool (p x))) :
 Ev prog (.call qh4 [lims l,.fn g caps] H) (.ret (idxV (l.findIdx? p)) H):=by
 refine qej rfl ?_;simp[lims];refine WK_up (fun i E H'=>H'=H/\E 0=lims l/\E 1=.fn g caps/\E 7=.int .i64 l.length/\E 8=.int .i64 i/\(∀j x,j<i->l[j]?=some x->p x=false)) l.length ?_ ?_
 ·simp[lims]
 ·rintro i E H' hi ⟨rfl,h0,h1,h7,h8,hp⟩;simp only[lims]at h0 ⊢;rcases Nat.lt_or_ge i l.length with hlt|hge
  ·have e2:IntKind.i64.wrap ((i:Int)+1)=((i+1:Nat):Int):=by rw[wrap_i64]<;>omega
   simp[qbg,h7,h8,h0,h1,hlt];refine WL_cb (h l[i] (List.getElem_mem hlt)) (List.prefix_refl _) rfl rfl ?_;simp[h0,h1,h7,h8,e2];refine⟨fun hpx=>?_,fun hpx=>?_⟩
   ·rw[show l.findIdx? p=some i from ?_]
    ·simp[idxV]
    ·rw[List.findIdx?_eq_some_iff_getElem];refine⟨hlt,hpx,?_⟩
     ·intro j hj;have:=hp j l[j] hj (List.getElem?_eq_getElem _);simp[this]
   ·intro j y hj hy;rcases Nat.lt_or_ge j i with hji|hji
    ·exact hp j y hji hy
    ·have:j=i:=by omega
     subst this;rw[List.getElem?_eq_getElem hlt]at hy;injection hy with hy;rw[<-hy];exact hpx
  ·have hin:i=l.length:=by omega
   subst hin;have e1:l.findIdx? p=none:=by
    simp only[List.findIdx?_eq_none_iff];intro x hx;obtain⟨j,hj,rfl⟩:=List.getElem_of_mem hx;exact hp j _ hj (List.getElem?_eq_getElem _)
   simp[qbg,h7,h8,e1,idxV]
theorem qxn {H:Heap}{g:Nat}{caps:List V}{p:(List Nat)->Bool}(l:List (List Nat))(hl:l.length<=9223372036854775807)(h:∀x ∈ l,Cb H g caps [lim x] (.bool (p x))) :
 Ev prog (.call qf2 [lims l,.fn g caps] H) (.ret (.bool (l.any p)) H):=by
 refine qej rfl ?_;simp[lims];refine WL_ev rfl rfl rfl (q6x l hl h) ?_;rcases hq:l.findIdx? p with _|i
 ·have e1:l.any p=false:=by simpa[List.findIdx?_eq_none_iff]using hq
  simp[idxV,e1]
 ·have e1:l.any p=true:=by
   rw[List.findIdx?_eq_some_iff_getElem]at hq;obtain⟨h1,h2,_⟩:=hq;exact List.any_eq_true.2 ⟨_,List.getElem_mem h1,h2⟩
  simp[idxV,e1]
theorem qfx (w n:Nat):(BitVec.ofInt w (n:Int)).toNat=n%2^w:=by
 simp
theorem qag (n:Nat)(h:n<18446744073709551616):IntKind.u64.wrap (n:Int)=n:=qbd (by omega) (by omega)
theorem qaq (n:Nat)(h:n<4294967296):IntKind.u32.wrap (n:Int)=n:=qabp (by omega) (by omega)
theorem qqd (n:Nat)(h:n<9223372036854775808):IntKind.i64.wrap (n:Int)=n:=wrap_i64 (by omega) (by omega)
theorem qa7 (n:Nat):IntKind.u32.wrap (n:Int)=((n%4294967296:Nat):Int):=by
 simp only[IntKind.wrap,IntKind.bits,IntKind.signed];simp
theorem qp9 (a b:Nat)(ha:a<2^64)(hb:b<2^64):bitsI .or .u64 (a:Int) (b:Int)=some (((a |||b:Nat)):Int):=by
 show some (IntKind.u64.wrap ((BitVec.ofInt 64 (a:Int) |||BitVec.ofInt 64 (b:Int)).toNat:Int))=_;rw[BitVec.toNat_or,qfx,qfx,Nat.mod_eq_of_lt ha,Nat.mod_eq_of_lt hb];rw[qag _ (Nat.or_lt_two_pow ha hb)]
theorem q2h (a b:Nat)(ha:a<2^64)(hb:b<2^64):bitsI .and .u64 (a:Int) (b:Int)=some (((a &&& b:Nat)):Int):=by
 show some (IntKind.u64.wrap ((BitVec.ofInt 64 (a:Int) &&& BitVec.ofInt 64 (b:Int)).toNat:Int))=_;rw[BitVec.toNat_and,qfx,qfx,Nat.mod_eq_of_lt ha,Nat.mod_eq_of_lt hb];rw[qag _ (Nat.lt_of_le_of_lt Nat.and_le_left ha)]
theorem qnz (a b:Nat)(ha:a<2^32)(hb:b<2^32):bitsI .and .u32 (a:Int) (b:Int)=some (((a &&& b:Nat)):Int):=by
 show some (IntKind.u32.wrap ((BitVec.ofInt 32 (a:Int) &&& BitVec.ofInt 32 (b:Int)).toNat:Int))=_;rw[BitVec.toNat_and,qfx,qfx,Nat.mod_eq_of_lt ha,Nat.mod_eq_of_lt hb];rw[qaq _ (Nat.lt_of_le_of_lt Nat.and_le_left ha)]
theorem qfn (a:Nat)(ha:a<2^64):bitsI .and .u64 (a:Int) 4294967295=some ((a%4294967296:Nat):Int):=by
 have:=q2h a 4294967295 ha (by decide);rw[show((4294967295:Nat):Int)=4294967295 from rfl]at this;rw[this,show 4294967295=2^32-1 from rfl,Nat.and_two_pow_sub_one_eq_mod]
theorem qny (a:Nat)(ha:a<2^32):bitsI .and .u32 (a:Int) 1=some ((a%2:Nat):Int):=by
 have:=qnz a 1 ha (by decide);rw[show((1:Nat):Int)=1 from rfl]at this;rw[this,show(1:Nat)=2^1-1 from rfl,Nat.and_two_pow_sub_one_eq_mod]
theorem qdd (x s c:Nat)(hx:x*2^s<2^64)(hc:c<2^s)(hs:s<=64):bitsI .or .u64 ((x*2^s:Nat):Int) (c:Int)=some ((x*2^s+c:Nat):Int):=by
 have h2:2^s<=2^64:=Nat.pow_le_pow_right (by omega) hs;rw[qp9 _ _ hx (by omega),Nat.mul_comm,Nat.two_pow_add_eq_or_of_lt hc]
theorem shl64 (x s:Nat)(hs:s<64)(h:x*2^s<2^64):qa3 .shl .u64 (x:Int) (s:Int)=some (.int .u64 ((x*2^s:Nat):Int)):=by
 have e1:¬((s:Int)<0):=by omega
 have e2:Nat.min s 64=s:=Nat.min_eq_left (by omega);have e3:(x:Int)*2^s=((x*2^s:Nat):Int):=by simp
 simp only[qa3,if_neg e1,q4q,Int.toNat_natCast,e2,e3];rw[qag _ h]
theorem shr64 (x s:Nat)(hs:s<64):qa3 .shr .u64 (x:Int) (s:Int)=some (.int .u64 ((x/2^s:Nat):Int)):=by
 have e1:¬((s:Int)<0):=by omega
 have e2:Nat.min s 64=s:=Nat.min_eq_left (by omega);have e3:(2:Int)^s=((2^s:Nat):Int):=by simp
 simp only[qa3,if_neg e1,q4q,Int.toNat_natCast,e2,e3,qow]
theorem shr32 (x s:Nat)(hs:s<32):qa3 .shr .u32 (x:Int) (s:Int)=some (.int .u32 ((x/2^s:Nat):Int)):=by
 have e1:¬((s:Int)<0):=by omega
 have e2:Nat.min s 32=s:=Nat.min_eq_left (by omega);have e3:(2:Int)^s=((2^s:Nat):Int):=by simp
 simp only[qa3,if_neg e1,qadv,Int.toNat_natCast,e2,e3,qow]
end Go.Abs.W
namespace Go.Abs
def qoe : Nat->Nat->List Nat
 |0,_=>[]
 |f+1,n=>if n=0 then []else(n%4294967296) :: qoe f (n/4294967296)
def qae (n:Nat):List Nat:=qoe (Nat.log2 n/32+1) n
theorem qy0 : ∀{f g n:Nat},n<4294967296^f->n<4294967296^g->qoe f n=qoe g n
 |0,0,_,_,_=>rfl
 |0,g+1,n,h,_=>by
  have:n=0:=by simpa using h
  simp[qoe,this]
 |f+1,0,n,_,h=>by
  have:n=0:=by simpa using h
  simp[qoe,this]
 |f+1,g+1,n,h1,h2=>by
  rw[Nat.pow_succ]at h1 h2;simp only[qoe];rw[qy0 (f:=f) (g:=g) (by omega) (by omega)]
theorem qu4 (n:Nat):n<4294967296^(Nat.log2 n/32+1):=by
 rw[show 4294967296=2^32 from rfl,<-Nat.pow_mul];exact Nat.lt_of_lt_of_le Nat.lt_log2_self (Nat.pow_le_pow_right (by omega) (by omega))
theorem qb2 : qae 0=[]:=rfl
theorem qg8 {n:Nat}(h:n≠0):qae n=(n%4294967296) :: qae (n/4294967296):=by
 have h1:=qu4 n;rw[Nat.pow_succ]at h1;show qoe (Nat.log2 n/32+1) n=_;simp only[qoe,h,if_false];rw[qy0 (by omega) (qu4 (n/4294967296))];rfl
theorem qad (n:Nat):natV (qae n)=n:=by
 induction n using Nat.strongRecOn with
 |_ n ih=>
  by_cases h:n=0
  ·subst h;rw[qb2];rfl
  ·rw[qg8 h,natV,ih _ (by omega)];omega
theorem qah (n:Nat):Li (qae n):=by
 induction n using Nat.strongRecOn with
 |_ n ih=>
  by_cases h:n=0
  ·subst h;rw[qb2];intro x hx;simp at hx
  ·rw[qg8 h];intro x hx;rcases List.mem_cons.1 hx with rfl|hx
   ·omega
   ·exact ih _ (by omega) x hx
theorem qdh {n:Nat}(h:n≠0):qae n≠[]:=by rw[qg8 h];simp
theorem qed (n:Nat):Trim (qae n):=by
 induction n using Nat.strongRecOn with
 |_ n ih=>
  by_cases h:n=0
  ·subst h;rw[qb2];intro x hx;simp at hx
  ·rw[qg8 h];intro x hx;by_cases h1:n/4294967296=0
   ·rw[h1,qb2]at hx;simp at hx;omega
   ·obtain⟨y,l,hl⟩:=List.exists_cons_of_ne_nil (qdh h1);rw[hl,List.getLast?_cons_cons,<-hl]at hx;exact ih _ (by omega) x hx
theorem Trim.tail {x:Nat}{l:List Nat}(h:Trim (x :: l)):Trim l:=by
 intro y hy;cases l with
 |nil=>simp at hy
 |cons z l=>exact h y (by rw[List.getLast?_cons_cons];exact hy)
theorem qyt {l:List Nat}(h:Trim l)(h0:natV l=0):l=[]:=by
 induction l with
 |nil=>rfl
 |cons x l ih=>
  simp only[natV]at h0;have hx:x=0:=by omega
  have hl:=ih h.tail (by omega);subst hl;subst hx;exact absurd rfl (h 0 (by simp))
theorem qla {l:List Nat}(hl:Li l)(ht:Trim l):qae (natV l)=l:=by
 induction l with
 |nil=>exact qb2
 |cons x l ih=>
  have h0:natV (x :: l)≠0:=fun h=>by simpa using qyt ht h
  rw[qg8 h0];have:=hl.cons.1;simp only[natV];rw[show(x+4294967296*natV l)%4294967296=x by omega,show(x+4294967296*natV l)/4294967296=natV l by omega,ih hl.cons.2 ht.tail]
theorem qao {l:List Nat}(hl:Li l):trimL l=qae (natV l):=by
 rw[<-qjj l,qla hl.trimL (qgx l)]
theorem qacn {a b:List Nat}(ha:Li a)(hb:Li b)(ta:Trim a)(tb:Trim b)(h:natV a=natV b):a=b:=by
 rw[<-qla ha ta,<-qla hb tb,h]
theorem limbsOf_len {n k:Nat}:(qae n).length<=k↔n<4294967296^k:=by
 constructor
 ·intro h;have:=qan (qah n);rw[qad]at this;exact Nat.lt_of_lt_of_le this (Nat.pow_le_pow_right (by omega) h)
 ·intro h;by_cases h0:n=0
  ·rw[h0,qb2];simp
  ·have:=q8v (qed n) (qdh h0);rw[qad]at this;have h2:4294967296^((qae n).length-1)<4294967296^k:=by omega
   have:=(Nat.pow_lt_pow_iff_right (by omega)).1 h2;omega
theorem qeh {N B k:Nat}(h:N<2^B)(hk:B<=32*k):(qae N).length<=k:=by
 refine limbsOf_len.2 ?_;rw[show(4294967296:Nat)=2^32 from rfl,<-Nat.pow_mul];exact Nat.lt_of_lt_of_le h (Nat.pow_le_pow_right (by omega) hk)
theorem qcg {X Y k:Nat}(h:X<=Y)(hl:(qae Y).length<=k):(qae X).length<=k:=by
 have:=limbsOf_len.1 hl;exact limbsOf_len.2 (by omega)
theorem qyz {X Y k:Nat}(h1:(qae X).length<=k)(h2:(qae Y).length<=k):(qae (X+Y)).length<=k+1:=by
 have h3:=limbsOf_len.1 h1;have h4:=limbsOf_len.1 h2;refine limbsOf_len.2 ?_;rw[Nat.pow_succ];omega
theorem qef (l:List Nat)(t:Nat):natV (l++[t])=natV l+4294967296^l.length*t:=by rw[qbr];simp[natV]
end Go.Abs
namespace Go.Abs.W
attribute [local simp] qbq
theorem Cb_of {H:Heap}{g:Nat}{args:List V}{v:V}(hp:∀H,prep prog g H args=some (args,H))(h:CQ prog g args v):Cb H g [] args v:=by
 intro H' _;rw[List.append_nil];exact⟨hp H',h H'⟩
theorem qau {n0:Nat}{Q:AX->Env->Heap->Prop}{d:Bool}{dst:Option Nat}{sy:Bool}{l:List AOper}{K:List Fr}{E:Env}{H H1:Heap}{x:X}{args caps vs:List V}{xs:List X}{g:Nat}{v:V}(hx:getX E x=.fn g caps)
 (ha:xs.map (getX E)++caps=args) (hp:prep prog g H args=some (vs,H1)) (h:CQ prog g vs v) (k:WL prog n0 d l K (put E dst v) H1 Q) (hd:(d&&!sy)=true->H <+: H1:=by simp):qty prog n0 d dst x xs sy l K E H Q:=
 qtx hx ha hp (h.ct ⟨hd,k⟩)
theorem qact (a:List Nat):CQ prog qqu [lim a] (.bool (decide (256<a.length))):=by
 refine qaf rfl fun H=>?_
 simp[lim];omega
theorem qm5 (l:List (List Nat))(hl:l.length<=9223372036854775807):CQ prog qt3 [lims l] (.bool (l.any fun a=>decide (256<a.length))):=by
 refine qaf rfl fun H=>?_
 simp;refine WL_ev rfl rfl rfl (qxn l hl fun x _=>Cb_of (fun _=>rfl) (qact x)) ?_;simp
theorem qxo (a:List Nat):CQ prog qmj [lim a] (lim a):=by
 refine qaf rfl fun H=>?_
 simp[lim,List.take_of_length_le]
theorem q9y (a:List Nat)(ha:a.length<=100000000):CQ prog qio [lim a] (.tup [lim (if 256<(trimL a).length then []else trimL a),.int .i64 (if 256<(trimL a).length then 9 else 0)]):=by
 refine qaf rfl fun H=>?_
 simp;refine qab rfl rfl rfl (qcd a (by omega)) ?_;simp;refine qau rfl rfl (H1:=H++[some ⟨1,[lim (trimL a)],true,false⟩]) (by simp[prep,frzVs,frzV];rfl) (qm5 [trimL a] (by simp)) ?_;simp;refine⟨fun h=>?_,fun h=>?_⟩
 ·simp[h];rfl
 ·refine qab rfl rfl rfl (qxo (trimL a)) ?_;have:¬(256<(trimL a).length):=by omega
  simp[this]
def shlGo (s:Nat):Nat->List Nat->List Nat
 |c,[]=>[c%4294967296]
 |c,x :: l=>((x*2^s+c)%4294967296) :: shlGo s ((x*2^s+c)/4294967296) l
theorem qro {s:Nat}:∀{c:Nat} {l:List Nat},(shlGo s c l).length=l.length+1
 |_,[]=>rfl
 |c,x :: l=>by simp[shlGo,qro]
theorem q29 {s:Nat}:∀{c:Nat} {l:List Nat},Li (shlGo s c l)
 |c,[]=>by intro x hx;simp[shlGo]at hx;omega
 |c,x :: l=>by
  intro y hy;rcases List.mem_cons.1 hy with rfl|hy
  ·omega
  ·exact q29 y hy
theorem qv1 {s x c:Nat}(hs:s<32)(hx:x<4294967296)(hc:c<2^s):x*2^s+c<18446744073709551616/\(x*2^s+c)/4294967296<2^s:=by
 have h1:x*2^s+c<4294967296*2^s:=by
  have:(x+1)*2^s<=4294967296*2^s:=Nat.mul_le_mul_right _ (by omega);rw[Nat.add_mul]at this;omega
 have h2:2^s<=2^31:=Nat.pow_le_pow_right (by omega) (by omega);exact⟨by omega,(Nat.div_lt_iff_lt_mul (by omega)).2 (by omega)⟩
theorem qrn {s:Nat}(hs:s<32):∀{c:Nat} {l:List Nat},Li l->c<2^s->natV (shlGo s c l)=natV l*2^s+c
 |c,[],_,hc=>by
  have h2:2^s<=2^31:=Nat.pow_le_pow_right (by omega) (by omega);simp[shlGo,natV];omega
 |c,x :: l,hl,hc=>by
  obtain⟨h1,h2⟩:=qv1 hs hl.cons.1 hc;simp only[shlGo,natV];rw[qrn hs hl.cons.2 h2,Nat.add_mul,Nat.mul_add,Nat.mul_assoc];omega
def shlL (a:List Nat)(n:Nat):List Nat:=List.replicate (n/32) 0++shlGo (n%32) 0 (trimL a)
theorem qv0 {a:List Nat}{n:Nat}(la:Li a):natV (shlL a n)=natV a*2^n:=by
 unfold shlL;rw[qbr,qpg,List.length_replicate,qrn (by omega) la.trimL (Nat.two_pow_pos _),qjj,pow32];rw[Nat.zero_add,Nat.add_zero,Nat.mul_left_comm,<-Nat.pow_add,Nat.div_add_mod]
theorem q06 {a:List Nat}{n:Nat}:Li (shlL a n):=by
 refine Li.append ?_ q29;intro x hx;rw[(List.mem_replicate.1 hx).2];omega
theorem qg4 (a:List Nat):(trimL a).length<=a.length:=by unfold trimL;simp;omega
theorem q28 {a:List Nat}{n:Nat}:(shlL a n).length<=n/32+a.length+1:=by
 unfold shlL;have:=qg4 a;simp[qro];omega
theorem qacl {n0:Nat}{H acc:Heap}{b z off len:Nat}:ownC n0 H acc (.ref b z off len)=match H[b]? with
 |some (some k)=>if n0<=b/\k.arr=true/\k.wr=true/\k.z=z/\off+len<=k.el.length then some (.ref (n0+acc.length) z 0 len,H.set b none,acc++[some { k with el:=(k.el.drop off).take len }])else if b<n0 then some (.ref b z off len,H,acc)else none
 |_=>none:=rfl
set_option maxHeartbeats 2000000 in
theorem q7t (a:List Nat)(n:Nat)(ha:a.length<=100000000)(la:Li a)(hn:n<=1000000000)(H:Heap)(Q:V->Heap->Prop)
 (hQ:Q (.ref H.length 1 0 (shlL a n).length) (H++[some ⟨1,(shlL a n).map u32,true,true⟩])):CT prog qwi [lim a,.int .i64 n] H Q:=by
 refine CT_of (f:=qgv) rfl (qkz ?_);simp;refine qab rfl rfl rfl (qcd a (by omega)) ?_;have hx:=qg4 a;have lx:=la.trimL;unfold shlL at hQ;generalize trimL a=x at *
 have⟨q,hq⟩:∃q,q=n/32:=⟨_,rfl⟩
 have⟨s,hs⟩:∃s,s=n%32:=⟨_,rfl⟩
 rw[<-hq,<-hs]at hQ;have q1:(n:Int)/32=q:=by omega
 have s1:(n:Int)%32=s:=by omega
 have hs32:s<32:=by omega
 have e1:IntKind.i64.wrap (q:Int)=q:=by rw[wrap_i64]<;>omega
 have e2:IntKind.i64.wrap ((q:Int)+(x.length:Int))=q+x.length:=by rw[wrap_i64]<;>omega
 have e3:IntKind.i64.wrap ((q:Int)+(x.length:Int)+1)=q+x.length+1:=by rw[wrap_i64]<;>omega
 have e4:(0:Int)<=q+x.length+1:=by omega
 have e5:((q:Int)+x.length+1).toNat=q+x.length+1:=by omega
 have e6:q<=q+x.length+1/\(q+x.length+1)*4<=281474976710656/\q+x.length+1<=9223372036854775807:=by omega
 simp[lim,q1,e1,e2,e3,e4,e5,e6];refine WK_up (fun i E H'=>E 0=lim x/\E 1=.int .i64 n/\E 21=lim x/\E 22=.int .i64 x.length/\E 23=.int .i64 i /\
  ∃c o G g blk,H'=H++G/\c<2^s/\Li o/\E 6=.int .u64 (c:Nat)/\E 5=.ref (H.length+g) 1 0 (q+i)/\G[g]?=some (some ⟨1,blk,true,true⟩)/\blk.take (q+i)=o.map u32/\o.length=q+i/\q+i<=blk.length /\
   o++shlGo s c (x.drop i)=List.replicate q 0++shlGo s 0 x) x.length ?_ ?_
 ·simp[lim];refine⟨0,Nat.two_pow_pos s,List.replicate q 0,?_,rfl,?_,by simp,by omega,rfl⟩
  ·intro y hy;rw[(List.mem_replicate.1 hy).2];omega
  ·rw[Nat.min_eq_left (by omega)];simp[u32]
 ·rintro i E H' hi ⟨h0,h1,h21,h22,h23,c,o,G,g,blk,rfl,hc,lo,h6,h5,hg,hb,ho,hbl,ht⟩;simp only[lim]at h0 h21;have hgl:=(List.getElem?_eq_some_iff.1 hg).1;rcases Nat.lt_or_ge i x.length with hlt|hge
  ·have f1:IntKind.i64.wrap ((i:Int)+1)=((i+1:Nat):Int):=by rw[wrap_i64]<;>omega
   have f2:(n:Int).tmod 32=s:=by rw[Int.tmod_eq_emod_of_nonneg (by omega)];exact s1
   have lxi:x[i]<4294967296:=lx _ (List.getElem_mem hlt);have f3:IntKind.u64.wrap (x[i]:Int)=x[i]:=qag _ (by omega);obtain⟨g1,g2⟩:=qv1 hs32 lxi hc;rw[List.drop_eq_getElem_cons hlt,shlGo]at ht;have⟨P,hP⟩:∃P,P=x[i]*2^s:=⟨_,rfl⟩
   have f4:qa3 .shl .u64 (x[i]:Int) (s:Int)=some (.int .u64 (P:Int)):=by rw[shl64 _ _ (by omega) (by omega),hP]
   have f5:bitsI .or .u64 (P:Int) (c:Int)=some ((P+c:Nat):Int):=by rw[hP];exact qdd _ _ _ (by omega) hc (by omega)
   rw[<-hP]at g1 g2 ht;have⟨T,hT⟩:∃T,T=P+c:=⟨_,rfl⟩
   rw[<-hT]at f5 g1 g2 ht;have f6:IntKind.u32.wrap (T:Int)=((T%4294967296:Nat):Int):=qa7 T;have f7:qa3 .shr .u64 (T:Int) 32=some (.int .u64 ((T/4294967296:Nat):Int)):=shr64 T 32 (by omega);have⟨L,hL⟩:∃L,L=T%4294967296:=⟨_,rfl⟩
   have⟨C,hC⟩:∃C,C=T/4294967296:=⟨_,rfl⟩
   rw[<-hL]at f6 ht;rw[<-hC]at f7 ht g2;have f8:(q+i+1)*4<=140737488355328:=by omega
   have f9:(G++[some ⟨1,[V.int IntKind.u32 L],true,true⟩])[g]?=some (some ⟨1,blk,true,true⟩):=by rw[List.getElem?_append_left hgl];exact hg
   simp[qf5,h0,h1,h21,h22,h23,h5,h6,hlt,u32,f1,f2,f3,f4,f5,f6,f7,f8,hbl,f9,lim];refine⟨C,g2,o++[L],lo.append (by intro y hy;simp at hy;omega),rfl,G.length+1,⟨rfl,by omega⟩,List.take (q+i) blk++[V.int IntKind.u32 ↑L],?_,?_,by simp;omega,by simp;omega,by simpa using ht⟩
   ·rw[List.getElem?_append_right (by simp)];simp
   ·rw[hb,List.take_of_length_le (by simp;omega)];simp[u32]
  ·have hin:i=x.length:=by omega
   subst hin;have g1:2^s<=2^31:=Nat.pow_le_pow_right (by omega) (by omega);have f6:IntKind.u32.wrap (c:Int)=c:=qaq c (by omega);have f8:(q+x.length+1)*4<=140737488355328:=by omega
   have f9:(G++[some ⟨1,[V.int IntKind.u32 c],true,true⟩])[g]?=some (some ⟨1,blk,true,true⟩):=by rw[List.getElem?_append_left hgl];exact hg
   simp[qf5,h22,h23,h5,h6,f6,f8,f9,hbl,fin,ownV,qacl];simp[shlGo]at ht;have hc32:c%4294967296=c:=by omega
   rw[hc32]at ht;rw[<-ht]at hQ;rw[List.take_of_length_le (l:=List.take _ blk++_) (by simp;omega),hb];have hl:(o++[c]).length=q+x.length+1:=by simp[ho]
   rw[hl]at hQ;refine⟨_,_,⟨rfl,rfl⟩,?_⟩;simpa[u32]using hQ
def shN (a:List Nat)(n:Nat):List Nat:=if 256<(qae (natV a*2^n)).length then []else qae (natV a*2^n)
theorem qaa6 (a:List Nat)(n:Nat)(ha:a.length<=256)(la:Li a)(hn:n<=65536):CQ prog qoh [lim a,.int .i64 n] (.tup [lim (shN a n),.int .i64 (if 256<(qae (natV a*2^n)).length then 9 else 0)]):=by
 refine qaf rfl fun H=>?_
 simp;refine qau rfl rfl (H1:=H++[some ⟨1,[lim a],true,false⟩]) (by simp[prep,frzVs,frzV];rfl) (qm5 [a] (by simp)) ?_;have h1:¬(256<a.length):=by omega
 have h2:(n:Int)<=65536:=by omega
 have h3:¬((65536:Int)<n):=by omega
 have h4:¬((n:Int)<0):=by omega
 simp[h1,h3,h4];refine qb6 rfl rfl rfl (q7t a n (by omega) la (by omega) _ _ ?_);simp;refine qau rfl rfl (H1:=H++[some ⟨1,[lim a],true,false⟩,some ⟨1,(shlL a n).map u32,true,false⟩]) (vs:=[lim (shlL a n)]) (by refine Eq.trans (b:=frzVs _ _) rfl ?_;simp[frzVs,frzV,qid,lim,List.take_of_length_le]) (q9y (shlL a n) (by have:=q28 (a:=a) (n:=n);omega)) ?_;rw[qao q06,qv0 la];simp[shN]
theorem qun (a:List Nat)(n:Nat)(ha:a.length<=256)(la:Li a)(hn:n<=65536):CQ prog qq3 [lim a,.int .i64 n] (lim (shN a n)):=by
 refine qaf rfl fun H=>?_
 simp;refine qab rfl rfl rfl (qaa6 a n ha la hn) ?_;simp
theorem q7q (a:List Nat)(ha:a.length<=100000000)(la:Li a):CQ prog qws [lim a] (.int .i64 (bitL (natV a))):=by
 refine qaf rfl fun H=>?_
 simp;refine qab rfl rfl rfl (qqc a ha la) ?_;simp[i64]
def Dy.inR (d:Dy):Bool:=
 bitL (natV d.m) == 0 || (decide (bitL (natV d.m)<=4096)&&decide (-16384<=d.e)&&decide (d.e<=16384)&&decide (bitL (natV d.m)+d.e<=16384))
theorem qu5 (d:Dy)(ha:d.m.length<=100000000)(la:Li d.m):CQ prog qq4 [d.v] (.bool d.inR):=by
 refine qaf rfl fun H=>?_
 simp;refine qab rfl rfl rfl (q7q _ ha la) ?_;have e1:bitL (natV d.m)<=4096->-16384<=d.e->d.e<=16384->IntKind.i64.wrap ((bitL (natV d.m):Int)+d.e)=bitL (natV d.m)+d.e:=by intros;rw[wrap_i64]<;>omega
 simp[Dy.inR];grind
def Dy.valid (d:Dy):Bool:=
 match d.m with
 | []=>!d.neg&&decide (d.e=0)
 |x :: l=>decide ((x :: l).length<=256)&&decide (x%2=1)&&decide ((x :: l).getLast (by simp)≠0)&&d.inR
set_option maxHeartbeats 1000000 in
theorem qfv (d:Dy)(ha:d.m.length<=100000000)(la:Li d.m):CQ prog quc [d.v] (.bool d.valid):=by
 refine qaf rfl fun H=>?_
 rcases d with ⟨neg,m,e⟩;rcases m with _|⟨x,l⟩
 ·simp[lim,Dy.valid];grind
 ·have hx:x<4294967296:=la x (by simp);have e1:((l.length:Int)+1≠0):=by omega
  have e2:(x:Int).tmod 2=((x%2:Nat):Int):=by rw[Int.tmod_eq_emod_of_nonneg (by omega)];omega
  have⟨y,hy⟩:∃y,y=x%2:=⟨_,rfl⟩
  have⟨t,ht⟩:∃t,t=(x :: l).getLast (by simp):=⟨_,rfl⟩
  have e3:IntKind.i64.wrap (l.length:Int)=l.length:=by rw[wrap_i64]<;>(simp at ha;omega)
  have e4:(x :: l)[l.length]?=some t:=by rw[ht,List.getLast_eq_getElem];simp
  have e5:((V.int IntKind.u32 (x:Int)) :: List.map u32 l)[l.length]?=some (.int .u32 t):=by
   have:=congrArg (Option.map u32) e4;rw[<-List.getElem?_map]at this;exact this
  have e7:((V.int IntKind.u32 (x:Int)) :: List.map u32 l)[l.length]'(by simp)=.int .u32 t:=by
   rw[List.getElem?_eq_getElem (by simp)]at e5;injection e5
  rw[<-hy]at e2;have hv:Dy.valid ⟨neg,x :: l,e⟩=(decide (l.length+1<=256)&&decide (y=1)&&decide (t≠0)&&Dy.inR ⟨neg,x :: l,e⟩):=by
   simp[Dy.valid,hy,ht]
  rw[hv];simp[lim,u32,e1,e2,e3,e7];refine⟨fun h1=>⟨fun h2=>⟨fun h3=>?_,fun h3=>?_⟩,fun h2=>?_⟩,fun h1=>?_⟩
  ·refine qab rfl rfl rfl (qu5 ⟨neg,x :: l,e⟩ ha la) ?_;simp;grind
  all_goals grind
def Dy.absN (d:Dy):Nat:=natV d.m*2^(d.e+16384).toNat
def Dy.val (d:Dy):Int:=if d.neg then -(d.absN:Int)else d.absN
def Dy.top (d:Dy):Int:=if d.m=[]then 0 else bitL (natV d.m)+d.e
def Dy.sgn (d:Dy):Int:=if d.m=[]then 0 else if d.neg then -1 else 1
def cmpI (a b:Int):Int:=if a<b then -1 else if b<a then 1 else 0
structure Dy.Ok (d:Dy):Prop where
 li:Li d.m
 tr:Trim d.m
 len:d.m.length<=256
 zero:d.m=[]->d.neg=false/\d.e=0
 odd:d.m≠[]->natV d.m%2=1
 bits:bitL (natV d.m)<=4096
 elo:-16384<=d.e
 ehi:d.e<=16384
 top:bitL (natV d.m)+d.e<=16384
theorem qf1 {l:List Nat}(h:Trim l)(hn:l≠[]):natV l≠0:=fun h0=>hn (qyt h h0)
theorem Dy.Ok.of {d:Dy}(li:Li d.m)(h:d.valid=true):d.Ok:=by
 rcases d with ⟨neg,m,e⟩;rcases m with _|⟨x,l⟩
 ·simp[Dy.valid]at h;obtain⟨h1,h2⟩:=h;subst h1;subst h2;exact⟨li,by intro x hx;simp at hx,by simp,by simp,by simp,by decide,by decide,by decide,by decide⟩
 ·simp only[Dy.valid,Bool.and_eq_true,decide_eq_true_eq]at h;obtain⟨⟨⟨h1,h2⟩,h3⟩,h4⟩:=h;have tr:Trim (x :: l):=by
   intro y hy;rw[List.getLast?_eq_some_getLast (by simp)]at hy;injection hy with hy
   rw[<-hy];exact h3
  have hn:=qf1 tr (by simp);have hb:bitL (natV (x :: l))≠0:=by
   have:=(qar hn).2.2;omega
  simp only[Dy.inR,Bool.or_eq_true,Bool.and_eq_true,decide_eq_true_eq,beq_iff_eq,hb,false_or]at h4;obtain⟨⟨⟨g1,g2⟩,g3⟩,g4⟩:=h4;exact⟨li,tr,h1,by simp,fun _=>by simp only[natV];omega,g1,g2,g3,g4⟩
theorem Dy.Ok.valid {d:Dy}(h:d.Ok):d.valid=true:=by
 rcases d with ⟨neg,m,e⟩;rcases m with _|⟨x,l⟩
 ·have:=h.zero rfl;simp only at this;simp[Dy.valid,this.1,this.2]
 ·simp only[Dy.valid,Bool.and_eq_true,decide_eq_true_eq];refine⟨⟨⟨h.len,?_⟩,?_⟩,?_⟩
  ·have:=h.odd (by simp);simp only[natV]at this;omega
  ·exact h.tr _ (List.getLast?_eq_some_getLast (by simp))
  ·simp[Dy.inR,h.bits,h.elo,h.ehi,h.top]
structure Dy.G (d:Dy):Prop where
 li:Li d.m
 tr:Trim d.m
 zero:d.m=[]->d.neg=false/\d.e=0
 elo:-16384<=d.e
theorem Dy.Ok.toG {d:Dy}(h:d.Ok):d.G:=⟨h.li,h.tr,h.zero,h.elo⟩
theorem Dy.G.absN_ne {d:Dy}(h:d.G)(hm:d.m≠[]):d.absN≠0:=by
 unfold Dy.absN;exact Nat.mul_ne_zero (qf1 h.tr hm) (Nat.ne_of_gt (Nat.two_pow_pos _))
theorem Dy.absN_nil {d:Dy}(hm:d.m=[]):d.absN=0:=by simp[Dy.absN,hm,natV]
theorem Dy.Ok.absN_ne {d:Dy}(h:d.Ok)(hm:d.m≠[]):d.absN≠0:=h.toG.absN_ne hm
theorem Dy.G.absN_bounds {d:Dy}(h:d.G)(hm:d.m≠[]):2^(d.top+16383).toNat<=d.absN/\d.absN<2^(d.top+16384).toNat:=by
 obtain⟨h1,h2,h3⟩:=qar (qf1 h.tr hm);have he:=h.elo;unfold Dy.top Dy.absN;rw[if_neg hm];rw[show((bitL (natV d.m):Int)+d.e+16383).toNat=(bitL (natV d.m)-1)+(d.e+16384).toNat by omega,show((bitL (natV d.m):Int)+d.e+16384).toNat=bitL (natV d.m)+(d.e+16384).toNat by omega,Nat.pow_add,Nat.pow_add];exact⟨Nat.mul_le_mul_right _ h1,Nat.mul_lt_mul_of_pos_right h2 (Nat.two_pow_pos _)⟩
theorem Dy.Ok.absN_bounds {d:Dy}(h:d.Ok)(hm:d.m≠[]):2^(d.top+16383).toNat<=d.absN/\d.absN<2^(d.top+16384).toNat:=h.toG.absN_bounds hm
theorem Dy.G.top_pos {d:Dy}(h:d.G)(hm:d.m≠[]):1<=d.top+16384:=by
 obtain⟨_,_,h3⟩:=qar (qf1 h.tr hm);have:=h.elo;unfold Dy.top;rw[if_neg hm];omega
theorem Dy.Ok.top_pos {d:Dy}(h:d.Ok)(hm:d.m≠[]):1<=d.top+16384:=h.toG.top_pos hm
theorem ql5 {a b:Dy}(ha:a.G)(hb:b.G)(na:a.m≠[])(nb:b.m≠[])(h:a.top<b.top):a.absN<b.absN:=by
 have h1:=(ha.absN_bounds na).2;have h2:=(hb.absN_bounds nb).1;have h3:=ha.top_pos na;have:2^(a.top+16384).toNat<=2^(b.top+16383).toNat:=Nat.pow_le_pow_right (by omega) (by omega);omega
theorem qtw {a b:Dy}(ha:a.Ok)(hb:b.Ok)(na:a.m≠[])(nb:b.m≠[])(h:a.top<b.top):a.absN<b.absN:=ql5 ha.toG hb.toG na nb h
theorem qg3 {d:Dy}{e:Int}(h1:-16384<=e)(h2:e<=d.e):d.absN=natV d.m*2^(d.e-e).toNat*2^(e+16384).toNat:=by
 unfold Dy.absN;rw[Nat.mul_assoc,<-Nat.pow_add]
 congr 2;omega
theorem qvh {x y k:Nat}(hk:0<k):cmpN (x*k) (y*k)=cmpN x y:=by
 unfold cmpN;simp only[Nat.mul_lt_mul_right hk]
theorem qadl {x y:Nat}:cmpI x y=cmpN x y:=by
 unfold cmpI cmpN;split<;>split<;>(try split)<;>omega
theorem qadk {x y:Nat}:cmpI (-(x:Int)) (-(y:Int))=- cmpN x y:=by
 unfold cmpI cmpN;repeat' split
 all_goals omega
theorem q20 {a b:Dy}(ha:a.G)(hb:b.G):cmpI a.val b.val=if a.sgn<b.sgn then -1 else if b.sgn<a.sgn then 1 else if a.sgn=0 then 0 else a.sgn*cmpN a.absN b.absN:=by
 have za:=ha.zero;have zb:=hb.zero;by_cases na:a.m=[]
 ·have h1:=Dy.absN_nil na;have h2:=(za na).1;by_cases nb:b.m=[]
  ·have h3:=Dy.absN_nil nb;simp[Dy.val,Dy.sgn,na,nb,h1,h3,cmpI]
  ·have h3:=hb.absN_ne nb;cases hn:b.neg<;>simp[Dy.val,Dy.sgn,na,nb,h1,h2,hn,cmpI]<;>omega
 ·have h1:=ha.absN_ne na;by_cases nb:b.m=[]
  ·have h3:=Dy.absN_nil nb;have h2:=(zb nb).1;cases hn:a.neg<;>simp[Dy.val,Dy.sgn,na,nb,h3,h2,hn,cmpI]<;>omega
  ·have h3:=hb.absN_ne nb;cases hn:a.neg<;>cases hn2:b.neg<;>simp[Dy.val,Dy.sgn,na,nb,hn,hn2,qadl,qadk]<;>simp[cmpI]<;>omega
theorem qafv {a b:Dy}(ha:a.Ok)(hb:b.Ok):cmpI a.val b.val=if a.sgn<b.sgn then -1 else if b.sgn<a.sgn then 1 else if a.sgn=0 then 0 else a.sgn*cmpN a.absN b.absN:=q20 ha.toG hb.toG
theorem qad0 {a b:Dy}(ha:a.Ok)(hb:b.Ok)(na:a.m≠[])(nb:b.m≠[])(h:a.absN=b.absN):a.m=b.m/\a.e=b.e:=by
 have key:∀{a b:Dy},a.Ok->b.Ok->a.m≠[]->b.m≠[]->a.absN=b.absN->¬a.e<b.e:=by
  intro a b ha hb na nb h hlt;have h1:=qg3 (d:=b) (e:=a.e) ha.elo (by omega);unfold Dy.absN at h h1;rw[h1]at h;have h2:=Nat.eq_of_mul_eq_mul_right (Nat.two_pow_pos _) h;have h3:=ha.odd na;rw[h2,show(b.e-a.e).toNat=(b.e-a.e).toNat-1+1 by omega,Nat.pow_succ,<-Nat.mul_assoc]at h3;omega
 have he:a.e=b.e:=by
  have:=key ha hb na nb h;have:=key hb ha nb na h.symm;omega
 refine⟨?_,he⟩;unfold Dy.absN at h;rw[he]at h;exact qacn ha.li hb.li ha.tr hb.tr (Nat.eq_of_mul_eq_mul_right (Nat.two_pow_pos _) h)
theorem qafu {a b:Dy}(ha:a.Ok)(hb:b.Ok)(h:a.val=b.val):a=b:=by
 have za:=ha.zero;have zb:=hb.zero;by_cases na:a.m=[]
 ·by_cases nb:b.m=[]
  ·obtain⟨h1,h2⟩:=za na;obtain⟨h3,h4⟩:=zb nb;cases a;cases b;simp_all
  ·have h3:=hb.absN_ne nb;have h1:=Dy.absN_nil na;simp[Dy.val,h1]at h;split at h<;>omega
 ·have h1:=ha.absN_ne na;by_cases nb:b.m=[]
  ·have h3:=Dy.absN_nil nb;simp[Dy.val,h3]at h;split at h<;>omega
  ·have h3:=hb.absN_ne nb;have hab:a.absN=b.absN/\a.neg=b.neg:=by
    cases hn:a.neg<;>cases hn2:b.neg<;>simp[Dy.val,hn,hn2]at h ⊢<;>omega
   obtain⟨h4,h5⟩:=qad0 ha hb na nb hab.1;cases a;cases b;simp_all
set_option maxHeartbeats 4000000
def Dy.cmp (a b:Dy):Int:=if a.valid&&b.valid then cmpI a.val b.val else 0
structure Dy.W (d:Dy):Prop where
 li:Li d.m
 len:d.m.length<=100000000
theorem Dy.Ok.w {d:Dy}(h:d.Ok):d.W:=⟨h.li,Nat.le_trans h.len (by omega)⟩
theorem qaa5 (d:Dy)(w:d.W):CQ prog qwt [d.v] (.int .i64 (if d.valid then d.sgn else 0)):=by
 refine qaf rfl fun H=>?_
 simp;refine qab rfl rfl rfl (qfv d w.len w.li) ?_;have e:(d.m=[])↔(d.m.length:Int)=0:=by simp
 simp[lim,Dy.sgn];grind
theorem qafl (d:Dy)(w:d.W):CQ prog qy8 [d.v] (.int .i64 (if d.valid then d.top else 0)):=by
 refine qaf rfl fun H=>?_
 simp;refine qab rfl rfl rfl (qfv d w.len w.li) ?_;have e:(d.m=[])↔(d.m.length:Int)=0:=by simp
 simp[lim,Dy.top];refine⟨fun h=>by simp[h],fun h=>?_⟩;have ok:=Dy.Ok.of w.li h;refine⟨fun h1 _ h2=>absurd h1 h2,fun hm=>?_⟩;refine qab rfl rfl rfl (q7q d.m w.len w.li) ?_;have e1:IntKind.i64.wrap ((bitL (natV d.m):Int)+d.e)=bitL (natV d.m)+d.e:=by
  have:=ok.bits;have:=ok.elo;have:=ok.ehi;rw[wrap_i64]<;>omega
 simp[h,hm,e1]
theorem qael {a:List Nat}{n B:Nat}(h:natV a*2^n<2^B)(hB:B<=8192):natV (shN a n)=natV a*2^n:=by
 have:(qae (natV a*2^n)).length<=256:=qeh h (by omega);unfold shN;rw[if_neg (by omega),qad]
theorem qaem {a:List Nat}{n:Nat}:Li (shN a n):=by
 unfold shN;split
 ·intro x hx;simp at hx
 ·exact qah _
theorem q7u {a:List Nat}{n:Nat}:(shN a n).length<=256:=by
 unfold shN;split
 ·simp
 ·omega
theorem q6h (a b:Dy)(oa:a.Ok)(ob:b.Ok)(na:a.m≠[])(nb:b.m≠[]):CQ prog qq5 [a.v,b.v] (.int .i64 (cmpN a.absN b.absN)):=by
 refine qaf rfl fun H=>?_
 have va:=oa.valid;have vb:=ob.valid;simp;refine qab rfl rfl rfl (qafl a oa.w) ?_;simp;refine qab rfl rfl rfl (qafl b ob.w) ?_;simp[va,vb];refine⟨fun h=>?_,fun h=>⟨fun h2=>?_,fun h2=>?_⟩⟩
 ·have:=qtw oa ob na nb h;simp[cmpN,this]
 ·have:=qtw ob oa nb na h2;have h3:¬a.absN<b.absN:=by omega
  simp[cmpN,this,h3]
 ·have ht:a.top=b.top:=by omega
  have⟨e,he⟩:∃e,e=min a.e b.e:=⟨_,rfl⟩
  have he':(if b.e<a.e then b.e else a.e)=e:=by rw[he];split<;>omega
  have h3:=oa.elo;have h4:=oa.ehi;have h5:=ob.elo;have h6:=ob.ehi;have h7:=oa.bits;have h8:=ob.bits;have⟨i,hi⟩:∃i,i=(a.e-e).toNat:=⟨_,rfl⟩
  have⟨j,hj⟩:∃j,j=(b.e-e).toNat:=⟨_,rfl⟩
  have f1:IntKind.i64.wrap (a.e-e)=i:=by rw[wrap_i64]<;>omega
  have f2:IntKind.i64.wrap (b.e-e)=j:=by rw[wrap_i64]<;>omega
  simp[he',f1];refine qab rfl rfl rfl (qun a.m i oa.len oa.li (by omega)) ?_;simp[f2];refine qab rfl rfl rfl (qun b.m j ob.len ob.li (by omega)) ?_;simp;refine qab rfl rfl rfl (qtz _ _ (by have:=q7u (a:=a.m) (n:=i);omega) (by have:=q7u (a:=b.m) (n:=j);omega) qaem qaem) ?_;have key:∀{d:Dy} {k:Nat},d.Ok->d.m≠[]->natV d.m*2^k<2^(bitL (natV d.m)+k):=by
   intro d k od nd;have:=(qar (qf1 od.tr nd)).2.1;rw[Nat.pow_add];exact Nat.mul_lt_mul_of_pos_right this (Nat.two_pow_pos k)
  unfold Dy.top at ht;rw[if_neg na,if_neg nb]at ht;rw[qael (key oa na) (by omega),qael (key ob nb) (by omega)];rw[qg3 (d:=a) (e:=e) (by omega) (by omega),qg3 (d:=b) (e:=e) (by omega) (by omega),<-hi,<-hj,qvh (Nat.two_pow_pos _)];simp[i64]
theorem ql6 (a b:Dy)(wa:a.W)(wb:b.W):CQ prog qzb [a.v,b.v] (.int .i64 (a.cmp b)):=by
 refine qaf rfl fun H=>?_
 simp;refine qab rfl rfl rfl (qfv a wa.len wa.li) ?_;simp;refine⟨fun h1=>by simp[Dy.cmp,h1],fun h1=>?_⟩;refine qab rfl rfl rfl (qfv b wb.len wb.li) ?_;simp;refine⟨fun h2=>by simp[Dy.cmp,h2],fun h2=>?_⟩;refine qab rfl rfl rfl (qaa5 a wa) ?_;simp;refine qab rfl rfl rfl (qaa5 b wb) ?_;have oa:=Dy.Ok.of wa.li h1;have ob:=Dy.Ok.of wb.li h2;simp[h1,h2,Dy.cmp,qafv oa ob];refine⟨fun h3=>by grind,fun h3=>⟨fun h4=>?_,fun h4=>?_⟩⟩
 ·have e1:¬a.sgn<b.sgn:=by omega
  simp[e1,h4]
 have e1:¬a.sgn<b.sgn:=by omega
 have e2:¬b.sgn<a.sgn:=by omega
 simp[e1,e2];refine⟨fun h5=>by simp[h5],fun h5=>?_⟩;have na:a.m≠[]:=fun h=>h5 (by simp[Dy.sgn,h])
 have nb:b.m≠[]:=fun h=>by
  have:b.sgn=0:=by simp[Dy.sgn,h]
  omega
 refine qab rfl rfl rfl (q6h a b oa ob na nb) ?_;have e3:IntKind.i64.wrap (a.sgn*cmpN a.absN b.absN)=a.sgn*cmpN a.absN b.absN:=by
  have h6:a.sgn=1\/a.sgn=-1:=by unfold Dy.sgn;rw[if_neg na];split<;>simp
  have h7:cmpN a.absN b.absN=1\/cmpN a.absN b.absN=-1\/cmpN a.absN b.absN=0:=by unfold cmpN;split<;>(try split)<;>simp
  rcases h6 with h6|h6<;>rcases h7 with h7|h7|h7<;>rw[h6,h7]<;>decide
 simp[e3,h5]
end Go.Abs.W
namespace Go.Abs.W
structure Out (H0 H:Heap)(v:V)(z:Nat)(l:List V):Prop where
 pre:H0 <+: H
 val:(l=[]/\v=.nil)\/∃b blk,H0.length<=b/\v=.ref b z 0 l.length/\H[b]?=some (some ⟨z,blk,true,true⟩)/\blk.take l.length=l/\l.length<=blk.length
theorem Out.nil {H:Heap}{z:Nat}:Out H H .nil z []:=⟨List.prefix_refl _,.inl ⟨rfl,rfl⟩⟩
theorem Out.grow {H0 H:Heap}{v:V}{z:Nat}{l:List V}(h:Out H0 H v z l)(t:Heap):Out H0 (H++t) v z l:=by
 refine⟨qcx h.pre,?_⟩;rcases h.val with h1|⟨b,blk,h1,h2,h3,h4⟩
 ·exact .inl h1
 ·exact .inr ⟨b,blk,h1,h2,by rw[List.getElem?_append_left (List.getElem?_eq_some_iff.1 h3).1];exact h3,h4⟩
theorem qa5 {H0 H:Heap}{b:Nat}{x:Option Blk}(h:H0 <+: H)(hb:H0.length<=b):H0 <+: H.set b x:=by
 obtain⟨t,rfl⟩:=h;rw[List.set_append_right _ _ hb];exact List.prefix_append _ _
theorem Out.app {H0 H:Heap}{v y:V}{z bytes:Nat}{l ys:List V}(h:Out H0 H v z l)(hy:elems H y=some ys)(hz:qcc z ys=true)(hn:ys≠[])(hb:(l.length+ys.length)*bytes<=140737488355328) :
 ∃v' H',qbq z bytes v y H=some (v',H')/\Out H0 H' v' z (l++ys):=by
 unfold qbq;rw[hy];simp only[Option.bind_some,hz,if_true];rcases h.val with ⟨h1,h2⟩|⟨b,blk,h1,h2,h3,h4,h5⟩
 ·subst h1;subst h2;have:qaz ys.length bytes=true:=by simp[qaz];simpa using hb
  simp only[hn,if_false,this,if_true];refine⟨_,_,rfl,qcx h.pre,.inr ⟨H.length,ys,h.pre.length_le,by simp,by simp,by simp,by simp⟩⟩
 ·subst h2;have:qaz (l.length+ys.length) bytes=true:=by simp[qaz];simpa using hb
  simp only[h3,hn,if_false,this];simp only[Nat.zero_add,h5,and_self,if_true,List.drop_zero,h4];refine⟨_,_,rfl,qcx (qa5 h.pre h1),.inr ⟨H.length,l++ys,h.pre.length_le,by simp,?_,by rw[List.take_of_length_le];simp,by simp⟩⟩;rw[List.getElem?_append_right (by simp)];simp
theorem Out.frz {H0 H:Heap}{v:V}{z:Nat}{l:List V}(h:Out H0 H v z l):∃H',H0 <+: H'/\frzC H v=some (.sl l,H')/\qbv H v=some (.sl l,H'):=by
 rcases h.val with ⟨h1,h2⟩|⟨b,blk,h1,h2,h3,h4,h5⟩
 ·subst h1;subst h2;exact⟨H,h.pre,rfl,rfl⟩
 ·subst h2;refine⟨H.set b (some ⟨z,blk,true,false⟩),qa5 h.pre h1,?_,?_⟩
  ·simp[h3,h4,h5]
  ·simp[h3,h4,h5]
theorem Out.fin {H0 H1 H:Heap}{v:V}{z:Nat}{l:List V}(h:Out H0 H v z l)(hp:H1 <+: H0):Go.Abs.fin false H1.length H v=some (.sl l,H1):=by
 obtain⟨H',h1,h2,h3⟩:=h.frz;have:Go.Abs.fin false H1.length H v=(qbv H v).bind fun(v',H1')=>some (v',H1'.take H1.length):=by
  rcases h.val with ⟨_,e⟩|⟨b,blk,_,e,_⟩<;>subst e<;>rfl
 rw[this,h3];simp[qbe (hp.trans h1)]
theorem Out.prep {H0 H:Heap}{v:V}{z g:Nat}{l:List V}(h:Out H0 H v z l)(hg:(prog.fn g).elim true (fun f=>!f.raw)=true):∃H',H0 <+: H'/\prep prog g H [v]=some ([.sl l],H'):=by
 obtain⟨H',h1,h2,h3⟩:=h.frz;refine⟨H',h1,?_⟩;have e:frzVs H [v]=some ([.sl l],H'):=by
  have:frzV H v=frzC H v:=by
   rcases h.val with ⟨_,e⟩|⟨b,blk,_,e,_⟩<;>subst e<;>rfl
  simp[frzVs,this,h2]
 unfold Go.Abs.prep;cases hq:prog.fn g with
 |none=>exact e
 |some f=>
  rw[hq]at hg;simp at hg;simp[hg,e]
set_option maxHeartbeats 4000000
theorem q0i {k:Nat}(h:k≠0):bitL k=bitL (k/2)+1:=by
 by_cases h1:k=1
 ·subst h1;decide
 ·have:=qei (n:=k) (k:=1) (by omega);simpa using this
theorem qn8 (l:List Nat)(hl:l.length<=1000000000):CQ prog qdv [lim l] (lim (trimL l)):=by
 refine qaf rfl fun H=>?_
 simp[lim];refine qbu (fun k E H'=>H'=H/\E 0=lim l/\k<=l.length/\E 3=.int .i64 k/\trimN l k=trimN l l.length) l.length ?_ ?_
 ·simp[lim]
 ·rintro n E H' ⟨rfl,h0,hn,h3,ht⟩;refine qa1 ?_;simp only[lim]at h0;have hlim:∀k,k<=l.length->k*4<=140737488355328:=by omega
  have fin':∀k,k=trimN l l.length->k<=l.length->(List.take k (List.map u32 l))=List.map u32 (trimL l):=by
   intro k hk _;rw[trimL,hk,List.map_take]
  rcases n with _|n
  ·have ft:=fin' 0 (by rw[<-ht];rfl) (by omega);simp[qdm,h0,h3,qbq,<-ft]
  ·have e1:IntKind.i64.wrap (n:Int)=n:=by rw[wrap_i64]<;>omega
   have hlt:n<l.length:=by omega
   have p1:(0:Int)<=(n:Int)+1:=by omega
   have p2:(0:Int)<(n:Int)+1:=by omega
   by_cases hx:l[n]=0
   ·simp[qdm,h0,h3,e1,hlt,hx,u32,p2];refine⟨n,by omega,rfl,by omega,rfl,?_⟩;rw[<-ht,trimN,if_pos (by rw[List.getElem?_eq_getElem hlt,hx])]
   ·have hx':¬((l[n]:Int)=0):=by omega
    have ft:=fin' (n+1) (by rw[<-ht,trimN,if_neg (by rw[List.getElem?_eq_getElem hlt];simpa using hx)]) (by omega);have f8:=hlim (n+1) (by omega);have hne:l≠[]:=by intro h;rw[h]at hlt;simp at hlt
    have hhd:qcc 1 (List.take (n+1) (List.map u32 l))=true:=by
     cases l with
     |nil=>exact absurd rfl hne
     |cons x l=>simp[qcc]
    have⟨ys,hys⟩:∃ys,ys=List.take (n+1) (List.map u32 l):=⟨_,rfl⟩
    rw[<-hys]at hhd ft;have hyl:ys.length=n+1:=by rw[hys];simp;omega
    have hyn:ys≠[]:=by intro h;rw[h]at hyl;simp at hyl
    simp only[qcc]at hhd;simp[qdm,h0,h3,e1,hlt,hx,u32,p1,p2,hn,qbq,<-hys];rw[if_pos hhd];simp[hyl,f8,hyn];rw[<-ft,List.take_of_length_le (by omega)]
theorem q75 : CQ prog qip [lim []] (.int .i64 0):=by
 refine qaf rfl fun H=>?_
 simp[lim]
theorem qacg (l:List Nat)(t:Nat)(hl:l.length<=1000000)(ht:t<4294967296):CQ prog qip [lim (l++[t])] (.int .i64 ((32*l.length+bitL t:Nat))):=by
 refine qaf rfl fun H=>?_
 have e2:IntKind.i64.wrap (l.length:Int)=l.length:=by rw[wrap_i64]<;>omega
 have e3:IntKind.i64.wrap (32*(l.length:Int))=32*l.length:=by rw[wrap_i64]<;>omega
 have e4:¬((l.length:Int)+1=0):=by omega
 simp[lim,e2,e3,e4,u32];have hb:=qtr ht;refine qbu (fun k E H'=>H'=H/\E 4=.int .u32 k/\k<=t/\bitL k<=bitL t/\E 3=.int .i64 ((32*l.length+(bitL t-bitL k):Nat))) t ?_ ?_
 ·simp
 ·rintro k E H' ⟨rfl,h4,hk,hbk,h3⟩;refine qa1 ?_;rcases Nat.eq_zero_or_pos k with rfl|hp
  ·simp[qfj,h4,h3,bitL]
  ·have f1:qa3 .shr .u32 (k:Int) 1=some (.int .u32 ((k/2:Nat):Int)):=by have:=shr32 k 1 (by omega);simpa using this
   have⟨j,hj⟩:∃j,j=k/2:=⟨_,rfl⟩
   have hh:=q0i (k:=k) (by omega);rw[<-hj]at f1 hh;have⟨c,hc⟩:∃c,c=32*l.length+(bitL t-bitL k):=⟨_,rfl⟩
   rw[<-hc]at h3;have f2:IntKind.i64.wrap ((c:Int)+1)=((32*l.length+(bitL t-bitL j):Nat):Int):=by rw[wrap_i64]<;>omega
   simp[qfj,h4,h3,hp,f1,f2];exact⟨j,by omega,rfl,by omega,by omega,rfl⟩
theorem qrs (x y:List Nat)(ha:x.length<=9223372036854775807)(lx:Li x)(ly:Li y)(ht:x.length=y.length\/(Trim x/\Trim y)):CQ prog qpp [lim x,lim y] (.int .i64 (cmpN (natV x) (natV y))):=by
 refine qaf rfl fun H=>?_
 by_cases hlt:x.length<y.length
 ·have h1:¬((x.length:Int)=(y.length:Int)):=by omega
  have h2:=qdu lx (by rcases ht with h|h;omega;exact h.2) hlt;simp[lim,hlt,h1,cmpN,h2]
 ·by_cases hgt:y.length<x.length
  ·have h1:¬((x.length:Int)=(y.length:Int)):=by omega
   have h2:=qdu ly (by rcases ht with h|h;omega;exact h.1) hgt;have h3:¬natV x<natV y:=by omega
   simp[lim,hlt,h1,cmpN,h2,h3]
  ·have heq:x.length=y.length:=by omega
   simp[lim,heq];refine qbu (fun k E H'=>H'=H/\E 0=lim x/\E 1=lim y/\k<=x.length/\E 5=.int .i64 ((k:Int)-1)/\x.drop k=y.drop k) x.length ?_ ?_
   ·have e1:IntKind.i64.wrap ((y.length:Int)-1)=(y.length:Int)-1:=by rw[wrap_i64]<;>omega
    have e2:y.drop x.length=[]:=by rw[heq];exact List.drop_length
    simp[lim,e1,heq]
   ·rintro n E H' ⟨rfl,h0,h1,hn,h5,hd⟩;refine qa1 ?_;simp only[lim]at h0 h1;rcases n with _|n
    ·have e1:x=y:=by simpa using hd
     have e2:¬((0:Int)<=-1):=by omega
     simp[qbj,h5,e1,cmpN]
    ·have e1:(n+1:Int)-1=n:=by omega
     have hx:n<x.length:=by omega
     have hy:n<y.length:=by omega
     have p1:((0:Int)<=n):=by omega
     by_cases hlt:x[n]<y[n]
     ·have h2:=qfp lx hx hy hd hlt;simp[qbj,h0,h1,h5,e1,p1,hx,hy,u32,hlt,cmpN,h2]
     ·by_cases hgt:y[n]<x[n]
      ·have h2:=qfp ly hy hx hd.symm hgt;have h3:¬natV x<natV y:=by omega
       simp[qbj,h0,h1,h5,e1,p1,hx,hy,u32,hlt,hgt,cmpN,h2,h3]
      ·have e2:IntKind.i64.wrap ((n:Int)-1)=(n:Int)-1:=by rw[wrap_i64]<;>omega
       simp[qbj,h0,h1,h5,e1,p1,hx,hy,u32,hlt,hgt,e2];refine⟨n,by omega,rfl,rfl,by omega,rfl,?_⟩;rw[List.drop_eq_getElem_cons hx,List.drop_eq_getElem_cons hy,hd]
       congr 1
       omega
theorem qaac {a b:Nat}:cmpN a b=0↔a=b:=by unfold cmpN;split<;>(try split)<;>omega
end Go.Abs.W
namespace Go.Abs.W
theorem Out.one {H0 H:Heap}{v:V}{l:List Nat}(h:Out H0 H v 1 (l.map u32))(x:Nat)(hb:l.length+1<=1000000000) :
 ∃v' H',qbq 1 4 v (.ref H.length 1 0 1) (H++[some ⟨1,[.int .u32 x],true,true⟩])=some (v',H')/\Out H0 H' v' 1 ((l++[x]).map u32):=by
 have:=(h.grow [some ⟨1,[.int .u32 x],true,true⟩]).app (y:=.ref H.length 1 0 1) (ys:=[.int .u32 x]) (bytes:=4) (by simp) (by simp) (by simp) (by simp;omega);simpa[u32]using this
set_option maxHeartbeats 2000000 in
theorem q83 (x:List Nat)(n:Nat)(hx:x.length<=1000000)(lx:Li x)(hn:n<=10000000):CQ prog qt9 [lim x,.int .i64 n] (lim (qae (natV x*2^n))):=by
 refine qaf rfl fun H=>?_
 have⟨q,hq⟩:∃q,q=n/32:=⟨_,rfl⟩
 have⟨s,hs⟩:∃s,s=n%32:=⟨_,rfl⟩
 have q1:(n:Int)/32=q:=by omega
 have s1:(n:Int).tmod 32=s:=by rw[Int.tmod_eq_emod_of_nonneg (by omega)];omega
 have hs32:s<32:=by omega
 have e1:IntKind.i64.wrap (q:Int)=q:=by rw[wrap_i64]<;>omega
 have e6:q*4<=281474976710656/\q<=9223372036854775807:=by omega
 have e7:IntKind.u64.wrap (s:Int)=s:=qag _ (by omega);simp[lim,q1,e1,e6];refine WK_up (fun i E H'=>E 0=lim x/\E 1=.int .i64 n/\E 7=.int .i64 i/\∃c o,c<2^s/\E 6=.int .u64 (c:Nat)/\Out H H' (E 5) 1 (o.map u32)/\o.length=q+i/\Li o /\
  o++shlGo s c (x.drop i)=List.replicate q 0++shlGo s 0 x) x.length ?_ ?_
 ·simp[lim];refine⟨0,Nat.two_pow_pos s,rfl,List.replicate q 0,⟨by simp,.inr ⟨H.length,List.replicate q (V.int IntKind.u32 0),by simp,by simp,by simp,by simp[u32],by simp⟩⟩,by simp,?_,rfl⟩;intro y hy;rw[(List.mem_replicate.1 hy).2];omega
 ·rintro i E H' hi ⟨h0,h1,h7,c,o,hc,h6,h5,ho,lo,ht⟩;simp only[lim]at h0;rcases Nat.lt_or_ge i x.length with hlt|hge
  ·have f1:IntKind.i64.wrap ((i:Int)+1)=((i+1:Nat):Int):=by rw[wrap_i64]<;>omega
   have lxi:x[i]<4294967296:=lx _ (List.getElem_mem hlt);have f3:IntKind.u64.wrap (x[i]:Int)=x[i]:=qag _ (by omega);obtain⟨g1,g2⟩:=qv1 hs32 lxi hc;rw[List.drop_eq_getElem_cons hlt,shlGo]at ht;have⟨P,hP⟩:∃P,P=x[i]*2^s:=⟨_,rfl⟩
   have f4:qa3 .shl .u64 (x[i]:Int) (s:Int)=some (.int .u64 (P:Int)):=by rw[shl64 _ _ (by omega) (by omega),hP]
   have f5:bitsI .or .u64 (P:Int) (c:Int)=some ((P+c:Nat):Int):=by rw[hP];exact qdd _ _ _ (by omega) hc (by omega)
   rw[<-hP]at g1 g2 ht;have⟨T,hT⟩:∃T,T=P+c:=⟨_,rfl⟩
   rw[<-hT]at f5 g1 g2 ht;have f6:bitsI .and .u64 (T:Int) 4294967295=some ((T%4294967296:Nat):Int):=qfn T (by omega);have f7:qa3 .shr .u64 (T:Int) 32=some (.int .u64 ((T/4294967296:Nat):Int)):=shr64 T 32 (by omega);have⟨L,hL⟩:∃L,L=T%4294967296:=⟨_,rfl⟩
   have⟨C,hC⟩:∃C,C=T/4294967296:=⟨_,rfl⟩
   rw[<-hL]at f6 ht;rw[<-hC]at f7 ht g2;have f8:IntKind.u32.wrap (L:Int)=L:=qaq _ (by omega);obtain⟨v',H'',e',ho'⟩:=h5.one L (by omega);simp[qfh,h0,h1,h6,h7,hlt,u32,f1,s1,f3,f4,f5,f6,f7,f8,e7,e',lim];exact⟨C,g2,rfl,o++[L],ho',by simp;omega,lo.append (by intro y hy;simp at hy;omega),by simpa using ht⟩
  ·have hin:i=x.length:=by omega
   subst hin;have g1:2^s<=2^31:=Nat.pow_le_pow_right (by omega) (by omega);have f6:IntKind.u32.wrap (c:Int)=c:=qaq c (by omega);obtain⟨v',H'',e',ho'⟩:=h5.one c (by omega);simp[qfh,h0,h6,h7,f6,e'];obtain⟨H3,hp3,e3⟩:=ho'.prep (g:=qdv) rfl;refine qau rfl rfl e3 (qn8 (o++[c]) (by simp;omega)) ?_;have hv:natV (o++[c])=natV x*2^n:=by
    simp[shlGo]at ht;have:c%4294967296=c:=by omega
    rw[this]at ht;rw[ht,qbr,qpg,List.length_replicate,qrn hs32 lx (Nat.two_pow_pos _),pow32,Nat.zero_add,Nat.add_zero,Nat.mul_left_comm,<-Nat.pow_add,hq,hs,Nat.div_add_mod]
   rw[qao (lo.append (by intro y hy;simp at hy;omega)),hv];simp[qbe hp3,lim]
set_option maxHeartbeats 4000000
def dig (l:List Nat)(i:Nat):Nat:=(l[i]?).getD 0
theorem qch {l:List Nat}(h:Li l)(i:Nat):dig l i<4294967296:=by
 unfold dig;cases hq:l[i]? with
 |none=>simp
 |some x=>exact h x (List.mem_of_getElem? hq)
theorem qak {l:List Nat}{i:Nat}(h:i<l.length):dig l i=l[i]:=by simp[dig,h]
theorem qcy {l:List Nat}{i:Nat}(h:l.length<=i):dig l i=0:=by simp[dig,h]
theorem qal (l:List Nat)(i:Nat):natV (l.take (i+1))=natV (l.take i)+4294967296^i*dig l i:=by
 rcases Nat.lt_or_ge i l.length with h|h
 ·rw[List.take_add_one,List.getElem?_eq_getElem h,qak h,qbr,List.length_take,Nat.min_eq_left (by omega)];simp[natV]
 ·rw[List.take_of_length_le (by omega),List.take_of_length_le h,qcy h];simp
theorem qat {l:List Nat}{i:Nat}(h:l.length<=i):natV (l.take i)=natV l:=by rw[List.take_of_length_le h]
theorem q8k {o a b:List Nat}{i c T:Nat}(ho:o.length=i)(h:natV o+4294967296^i*c=natV (a.take i)+natV (b.take i))(hT:T=c+dig a i+dig b i) :
 natV (o++[T%4294967296])+4294967296^(i+1)*(T/4294967296)=natV (a.take (i+1))+natV (b.take (i+1)):=by
 rw[qal,qal,qef,ho,Nat.pow_succ,Nat.mul_assoc];have:4294967296^i*(T%4294967296)+4294967296^i*(4294967296*(T/4294967296))=4294967296^i*c+4294967296^i*dig a i+4294967296^i*dig b i:=by
  rw[<-Nat.mul_add,Nat.mod_add_div,hT,Nat.mul_add,Nat.mul_add]
 omega
theorem qagr (a b:List Nat)(ha:a.length<=1000000)(hb:b.length<=1000000)(la:Li a)(lb:Li b):CQ prog qt8 [lim a,lim b] (lim (qae (natV a+natV b))):=by
 refine qaf rfl fun H=>?_
 simp[lim];refine WK_up (fun i E H'=>E 0=lim a/\E 1=lim b/\E 7=.int .i64 i/\∃c o,c<2/\E 6=.int .u64 (c:Nat)/\Out H H' (E 5) 1 (o.map u32)/\o.length=i/\Li o /\
  natV o+4294967296^i*c=natV (a.take i)+natV (b.take i)) (max a.length b.length) ?_ ?_
 ·simp[lim];exact⟨0,by omega,rfl,[],.nil,rfl,by intro x hx;simp at hx,by simp[natV]⟩
 ·rintro i E H' hi ⟨h0,h1,h7,c,o,hc,h6,h5,ho,lo,ht⟩;simp only[lim]at h0 h1;have⟨T,hT⟩:∃T,T=c+dig a i+dig b i:=⟨_,rfl⟩
  have da:=qch la i;have db:=qch lb i;have st:=q8k ho ht hT;have⟨L,hL⟩:∃L,L=T%4294967296:=⟨_,rfl⟩
  have⟨C,hC⟩:∃C,C=T/4294967296:=⟨_,rfl⟩
  have f6:bitsI .and .u64 (T:Int) 4294967295=some ((T%4294967296:Nat):Int):=qfn T (by omega);have f7:qa3 .shr .u64 (T:Int) 32=some (.int .u64 ((T/4294967296:Nat):Int)):=shr64 T 32 (by omega);rw[<-hL]at f6 st;rw[<-hC]at f7 st;have f8:IntKind.u32.wrap (L:Int)=L:=qaq _ (by omega);obtain⟨v',H'',e',ho'⟩:=h5.one L (by omega);have f1:IntKind.i64.wrap ((i:Int)+1)=((i+1:Nat):Int):=by rw[wrap_i64]<;>omega
  have go:i<max a.length b.length->∃c,c<2/\(C:Int)=(c:Nat)/\∃o,Out H H'' v' 1 (List.map u32 o)/\o.length=i+1/\Li o/\natV o+4294967296^(i+1)*c=natV (a.take (i+1))+natV (b.take (i+1)):=
   fun _=>⟨C,by omega,rfl,o++[L],ho',by simp;omega,lo.append (by intro y hy;simp at hy;omega),st⟩
  rcases Nat.lt_or_ge i a.length with h2|h2<;>rcases Nat.lt_or_ge i b.length with h3|h3
  ·have t1:IntKind.u64.wrap (a[i]:Int)=a[i]:=qag _ (by rw[qak h2]at da;omega);have t2:IntKind.u64.wrap (b[i]:Int)=b[i]:=qag _ (by rw[qak h3]at db;omega);have t3:IntKind.u64.wrap ((c:Int)+a[i])=(c:Int)+a[i]:=by rw[qak h2]at da;rw[qbd]<;>omega
   have t4:IntKind.u64.wrap ((c:Int)+a[i]+b[i])=T:=by rw[hT,qak h2,qak h3];rw[qak h2]at da;rw[qak h3]at db;rw[qbd]<;>omega
   simp[qci,h0,h1,h6,h7,h2,h3,u32,t1,t2,t3,t4,f1,f6,f7,f8,e',lim];exact⟨by omega,go (by omega)⟩
  ·have t1:IntKind.u64.wrap (a[i]:Int)=a[i]:=qag _ (by rw[qak h2]at da;omega);have t3:IntKind.u64.wrap ((c:Int)+a[i])=T:=by rw[hT,qak h2,qcy h3];rw[qak h2]at da;rw[qbd]<;>omega
   have h3':¬i<b.length:=by omega
   simp[qci,h0,h1,h6,h7,h2,h3',u32,t1,t3,f1,f6,f7,f8,e',lim];exact⟨by omega,go (by omega)⟩
  ·have t2:IntKind.u64.wrap (b[i]:Int)=b[i]:=qag _ (by rw[qak h3]at db;omega);have t4:IntKind.u64.wrap ((c:Int)+b[i])=T:=by rw[hT,qcy h2,qak h3];rw[qak h3]at db;rw[qbd]<;>omega
   have h2':¬i<a.length:=by omega
   simp[qci,h0,h1,h6,h7,h2',h3,u32,t2,t4,f1,f6,f7,f8,e',lim];exact⟨by omega,go (by omega)⟩
  ·have h2':¬i<a.length:=by omega
   have h3':¬i<b.length:=by omega
   have k6:IntKind.u32.wrap (c:Int)=c:=qaq c (by omega);obtain⟨v',H'',e',ho'⟩:=h5.one c (by omega);simp[qci,h0,h1,h6,h7,h2',h3',k6,e'];obtain⟨H3,hp3,e3⟩:=ho'.prep (g:=qdv) rfl;refine qau rfl rfl e3 (qn8 (o++[c]) (by simp;omega)) ?_;rw[qao (lo.append (by intro y hy;simp at hy;omega)),qef,ho,ht,qat h2,qat h3];simp[qbe hp3,lim]
theorem q5q {o a b:List Nat}{i c T:Nat}(ho:o.length=i)(h:natV o+natV (b.take i)=natV (a.take i)+4294967296^i*c)(hc:c<2)(da:dig a i<4294967296)(db:dig b i<4294967296)(hT:T+(c+dig b i)=dig a i+4294967296) :
 natV (o++[T%4294967296])+natV (b.take (i+1))=natV (a.take (i+1))+4294967296^(i+1)*(1-T/4294967296)/\T/4294967296<=1:=by
 have hT2:T/4294967296<=1:=by omega
 refine⟨?_,hT2⟩;rw[qal,qal,qef,ho,Nat.pow_succ,Nat.mul_assoc];have:4294967296^i*(T%4294967296)+4294967296^i*(c+dig b i)=4294967296^i*dig a i+4294967296^i*(4294967296*(1-T/4294967296)):=by
  rw[<-Nat.mul_add,<-Nat.mul_add]
  congr 1;omega
 rw[Nat.mul_add]at this;omega
theorem q3p (a b:List Nat)(ha:a.length<=1000000)(hb:b.length<=a.length)(la:Li a)(lb:Li b)(hle:natV b<=natV a):CQ prog qsh [lim a,lim b] (lim (qae (natV a-natV b))):=by
 refine qaf rfl fun H=>?_
 simp[lim];refine WK_up (fun i E H'=>E 0=lim a/\E 1=lim b/\E 7=.int .i64 i/\∃c o,c<2/\E 6=.int .u64 (c:Nat)/\Out H H' (E 5) 1 (o.map u32)/\o.length=i/\Li o /\
  natV o+natV (b.take i)=natV (a.take i)+4294967296^i*c) a.length ?_ ?_
 ·simp[lim];exact⟨0,by omega,rfl,[],.nil,rfl,by intro x hx;simp at hx,by simp[natV]⟩
 ·rintro i E H' hi ⟨h0,h1,h7,c,o,hc,h6,h5,ho,lo,ht⟩;simp only[lim]at h0 h1;rcases Nat.lt_or_ge i a.length with h2|h2
  ·have da:=qch la i;have db:=qch lb i;have⟨T,hT⟩:∃T,T=dig a i+4294967296-(c+dig b i):=⟨_,rfl⟩
   have hT':T+(c+dig b i)=dig a i+4294967296:=by omega
   obtain⟨st,hC1⟩:=q5q ho ht hc da db hT';have⟨L,hL⟩:∃L,L=T%4294967296:=⟨_,rfl⟩
   have⟨C,hC⟩:∃C,C=T/4294967296:=⟨_,rfl⟩
   have f6:bitsI .and .u64 (T:Int) 4294967295=some ((T%4294967296:Nat):Int):=qfn T (by omega);have f7:qa3 .shr .u64 (T:Int) 32=some (.int .u64 ((T/4294967296:Nat):Int)):=shr64 T 32 (by omega);rw[<-hL]at f6 st;rw[<-hC]at f7 st hC1;have f8:IntKind.u32.wrap (L:Int)=L:=qaq _ (by omega);have f9:IntKind.u64.wrap (1-(C:Int))=((1-C:Nat):Int):=by rw[qbd]<;>omega
   have⟨D,hD⟩:∃D,D=1-C:=⟨_,rfl⟩
   rw[<-hD]at f9 st;obtain⟨v',H'',e',ho'⟩:=h5.one L (by omega);have f1:IntKind.i64.wrap ((i:Int)+1)=((i+1:Nat):Int):=by rw[wrap_i64]<;>omega
   have go:∃c,c<2/\(D:Int)=(c:Nat)/\∃o,Out H H'' v' 1 (List.map u32 o)/\o.length=i+1/\Li o/\natV o+natV (b.take (i+1))=natV (a.take (i+1))+4294967296^(i+1)*c:=
    ⟨D,by omega,rfl,o++[L],ho',by simp;omega,lo.append (by intro y hy;simp at hy;omega),st⟩
   rw[qak h2]at da hT';have t1:IntKind.u64.wrap (a[i]:Int)=a[i]:=qag _ (by omega);have t2:IntKind.u64.wrap ((a[i]:Int)+4294967296)=(a[i]:Int)+4294967296:=by rw[qbd]<;>omega
   rcases Nat.lt_or_ge i b.length with h3|h3
   ·rw[qak h3]at db hT';have t3:IntKind.u64.wrap (b[i]:Int)=b[i]:=qag _ (by omega);have t4:IntKind.u64.wrap ((c:Int)+b[i])=(c:Int)+b[i]:=by rw[qbd]<;>omega
    have t5:IntKind.u64.wrap ((a[i]:Int)+4294967296-((c:Int)+b[i]))=T:=by rw[qbd]<;>omega
    simp[qc4,h0,h1,h6,h7,h2,h3,u32,t1,t2,t3,t4,t5,f1,f6,f7,f8,f9,e',lim];exact go
   ·rw[qcy h3]at db hT';have h3':¬i<b.length:=by omega
    have t5:IntKind.u64.wrap ((a[i]:Int)+4294967296-(c:Int))=T:=by rw[qbd]<;>omega
    simp[qc4,h0,h1,h6,h7,h2,h3',u32,t1,t2,t5,f1,f6,f7,f8,f9,e',lim];exact go
  ·have h2':¬i<a.length:=by omega
   have hin:i=a.length:=by omega
   simp[qc4,h0,h7,h2'];obtain⟨H3,hp3,e3⟩:=h5.prep (g:=qdv) rfl;refine qau rfl rfl e3 (qn8 o (by omega)) ?_;have hlt:=qan lo;rw[qat h2,qat (l:=b) (by omega)]at ht;rw[ho]at hlt;have hv:natV o=natV a-natV b:=by
    rcases Nat.eq_zero_or_pos c with h0|h0
    ·subst h0;omega
    ·have:c=1:=by omega
     subst this;omega
   rw[qao lo,hv];simp[qbe hp3,lim]
end Go.Abs.W
namespace Go.Abs.W
set_option maxHeartbeats 4000000
def tzF : Nat->Nat->Nat
 |0,_=>0
 |f+1,n=>if n%2=1 then 0 else tzF f (n/2)+1
def tz (n:Nat):Nat:=tzF (Nat.log2 n) n
theorem q67 {n:Nat}(h:n%2=1):tz n=0:=by
 unfold tz;cases Nat.log2 n<;>simp[tzF,h]
theorem q68 {n:Nat}(h0:n≠0)(h:n%2=0):tz n=tz (n/2)+1:=by
 have e:Nat.log2 n=Nat.log2 (n/2)+1:=by rw[Nat.log2_def,if_pos (by omega)]
 unfold tz;rw[e,tzF,if_neg (by omega)]
theorem qmp {n:Nat}(h0:n≠0):n/2^tz n%2=1/\(∀i,i<tz n->n/2^i%2=0)/\n%2^tz n=0:=by
 induction n using Nat.strongRecOn with
 |_ n ih=>
  by_cases h:n%2=1
  ·rw[q67 h];simp[h,Nat.mod_one]
  ·have h1:n%2=0:=by omega
   obtain⟨i1,i2,i3⟩:=ih (n/2) (by omega) (by omega);rw[q68 h0 h1];have e:∀k,n/2^(k+1)=n/2/2^k:=by intro k;rw[Nat.pow_succ,Nat.mul_comm,Nat.div_div_eq_div_mul]
   refine⟨by rw[e];exact i1,?_,?_⟩
   ·intro i hi;cases i with
    |zero=>simpa using h1
    |succ i=>rw[e];exact i2 i (by omega)
   ·rw[Nat.pow_succ,Nat.mul_comm,Nat.mod_mul,i3,h1]
theorem tz_le {n:Nat}(h0:n≠0):2^tz n<=n:=by
 obtain⟨h1,_,h3⟩:=qmp h0;rcases Nat.lt_or_ge n (2^tz n)with h|h
 ·rw[Nat.div_eq_of_lt h]at h1;simp at h1
 ·exact h
theorem qbc (l:List Nat)(i:Nat):natV (l.drop i)=dig l i+4294967296*natV (l.drop (i+1)):=by
 rcases Nat.lt_or_ge i l.length with h|h
 ·rw[List.drop_eq_getElem_cons h,qak h];rfl
 ·rw[List.drop_of_length_le h,List.drop_of_length_le (by omega),qcy h];rfl
theorem qdf (l:List Nat)(i:Nat):natV l=natV (l.take i)+4294967296^i*natV (l.drop i):=by
 rcases Nat.lt_or_ge i l.length with h|h
 ·have:=qbr (l.take i) (l.drop i);rw[List.take_append_drop,List.length_take,Nat.min_eq_left (by omega)]at this;exact this
 ·rw[List.drop_of_length_le h,List.take_of_length_le h];simp[natV]
theorem qia {l:List Nat}(hl:Li l)(i:Nat):natV l/4294967296^i=natV (l.drop i):=by
 have h1:=qan (hl.take i);have h2:4294967296^(l.take i).length<=4294967296^i:=Nat.pow_le_pow_right (by omega) (by simp;omega);rw[qdf l i,Nat.add_mul_div_left _ _ (Nat.pow_pos (by omega)),Nat.div_eq_of_lt (by omega),Nat.zero_add]
theorem qak6 {l:List Nat}(hl:Li l)(n:Nat):natV l/2^n%2=dig l (n/32)/2^(n%32)%2:=by
 have⟨q,hq⟩:∃q,q=n/32:=⟨_,rfl⟩
 have⟨s,hs⟩:∃s,s=n%32:=⟨_,rfl⟩
 have e:2^n=4294967296^q*2^s:=by rw[pow32,<-Nat.pow_add,hq,hs,Nat.div_add_mod]
 rw[<-hq,<-hs,e,<-Nat.div_div_eq_div_mul,qia hl,qbc];have e2:4294967296=2^s*(2^(31-s)*2):=by rw[<-Nat.pow_succ,<-Nat.pow_add,show s+(31-s+1)=32 by omega]
 rw[e2,Nat.mul_assoc,Nat.add_mul_div_left _ _ (Nat.two_pow_pos s),Nat.mul_comm (2^(31-s)) 2,Nat.mul_assoc,Nat.add_mul_mod_self_left]
theorem qabo (m:List Nat)(hm:m.length<=1000000)(lm:Li m)(h0:natV m≠0):CQ prog qsf [lim m] (.int .i64 (tz (natV m))):=by
 refine qaf rfl fun H=>?_
 obtain⟨b1,b2,b3⟩:=qmp h0;have hlen:∀i,i<=tz (natV m)->i/32<m.length:=by
  intro i hi;have h1:=tz_le h0;have h2:=qan lm;rw[pow32]at h2;have h3:2^tz (natV m)<2^(32*m.length):=by omega
  have:=(Nat.pow_lt_pow_iff_right (by omega)).1 h3;omega
 simp[lim];refine WK_up (fun i E H'=>H'=H/\E 0=lim m/\E 3=.int .i64 i) (tz (natV m)) ?_ ?_
 ·simp[lim]
 ·rintro i E H' hi ⟨rfl,h0,h3⟩;simp only[lim]at h0;have hq:=hlen i hi;have hlast:=hlen _ (Nat.le_refl _);have hb:=qak6 lm i;rw[qak hq]at hb;have lq:m[i/32]<4294967296:=lm _ (List.getElem_mem hq);have⟨q,hq'⟩:∃q,q=i/32:=⟨_,rfl⟩
  have⟨s,hs⟩:∃s,s=i%32:=⟨_,rfl⟩
  have q1:(i:Int)/32=q:=by omega
  have s1:(i:Int).tmod 32=s:=by rw[Int.tmod_eq_emod_of_nonneg (by omega)];omega
  have e1:IntKind.i64.wrap (q:Int)=q:=by rw[wrap_i64]<;>omega
  have e2:IntKind.u64.wrap (s:Int)=s:=qag _ (by omega);simp only[<-hq',<-hs]at hb hq lq;have f1:qa3 .shr .u32 (m[q]:Int) (s:Int)=some (.int .u32 ((m[q]/2^s:Nat):Int)):=shr32 _ _ (by omega);have⟨y,hy⟩:∃y,y=m[q]/2^s:=⟨_,rfl⟩
  have hy2:y<2^32:=by rw[hy];exact Nat.lt_of_le_of_lt (Nat.div_le_self _ _) lq
  rw[<-hy]at f1 hb;have f2:=qny y hy2;have⟨z,hz⟩:∃z,z=y%2:=⟨_,rfl⟩
  rw[<-hz]at f2 hb;have f3:IntKind.i64.wrap ((i:Int)+1)=((i+1:Nat):Int):=by rw[wrap_i64]<;>omega
  rcases Nat.lt_or_ge i (tz (natV m))with hlt|hge
  ·have:z=0:=by rw[<-hb];exact b2 i hlt
   subst this;simp[qey,h0,h3,q1,s1,e1,e2,hq,u32,f1,f2,f3,hlt,lim]
  ·have hin:i=tz (natV m):=by omega
   have:z=1:=by rw[<-hb,hin];exact b1
   subst this;simp[qey,h0,h3,q1,s1,e1,e2,hq,u32,f1,f2,<-hin]
theorem q5j {M i s:Nat}(o:List Nat)(ho:o.length=i)(h:natV o=M/2^s%4294967296^i):natV (o++[M/2^s/4294967296^i%4294967296])=M/2^s%4294967296^(i+1):=by
 rw[qef,ho,h,Nat.pow_succ,Nat.mod_mul]
theorem qur {l:List Nat}(hl:Li l)(i s:Nat)(hs:s<32):natV l/2^s/4294967296^i%4294967296=(dig l i+4294967296*dig l (i+1))/2^s%4294967296:=by
 rw[Nat.div_div_eq_div_mul,Nat.mul_comm,<-Nat.div_div_eq_div_mul,qia hl,qbc,qbc l (i+1),Nat.mul_add,<-Nat.add_assoc,<-Nat.mul_assoc];have e2:4294967296*4294967296=2^s*(2^(32-s)*4294967296):=by
  rw[<-Nat.mul_assoc,<-Nat.pow_add,show s+(32-s)=32 by omega]
 rw[e2,Nat.mul_assoc,Nat.add_mul_div_left _ _ (Nat.two_pow_pos s),Nat.mul_comm (2^(32-s)) 4294967296,Nat.mul_assoc,Nat.add_mul_mod_self_left]
theorem qu6 (l:List Nat):qcc 1 (l.map u32)=true:=by
 cases l with
 |nil=>rfl
 |cons x l=>simp[qcc]
theorem qace (m:List Nat)(n:Nat)(hm:m.length<=1000000)(lm:Li m)(hn:n<=100000000):CQ prog qsg [lim m,.int .i64 n] (lim (qae (natV m/2^n))):=by
 refine qaf rfl fun H=>?_
 have⟨q,hq'⟩:∃q,q=n/32:=⟨_,rfl⟩
 have⟨s,hs⟩:∃s,s=n%32:=⟨_,rfl⟩
 have q1:(n:Int)/32=q:=by omega
 have s1:(n:Int).tmod 32=s:=by rw[Int.tmod_eq_emod_of_nonneg (by omega)];omega
 have hs32:s<32:=by omega
 have e1:IntKind.i64.wrap (q:Int)=q:=by rw[wrap_i64]<;>omega
 have e2:IntKind.u64.wrap (s:Int)=s:=qag _ (by omega);have e:natV m/2^n=natV (m.drop q)/2^s:=by
  rw[show n=32*q+s by omega,Nat.pow_add,<-pow32,<-Nat.div_div_eq_div_mul,qia lm]
 rw[e];rcases Nat.lt_or_ge q m.length with hlt|hge
 ·have h1:¬((m.length:Int)<=q):=by omega
  have⟨x,hx⟩:∃x,x=m.drop q:=⟨_,rfl⟩
  have lx:Li x:=by rw[hx];exact lm.drop _
  have hx2:List.drop q (List.map u32 m)=List.map u32 x:=by rw[hx,List.map_drop]
  have hxl:x.length<=1000000:=by rw[hx];simp;omega
  rw[<-hx];have hho:=qu6 x;rw[<-hx2]at hho;simp only[qcc]at hho;have hq2:q<=m.length:=by omega
  have ht:List.take m.length (List.map u32 m)=List.map u32 m:=List.take_of_length_le (by simp);simp[lim,q1,e1,h1,hq2,ht];rw[if_pos (.inr hho),hx2];simp;refine WK_up (fun i E H'=>E 0=lim x/\E 1=.int .i64 n/\E 6=.int .i64 i/\∃o,Out H H' (E 5) 1 (o.map u32)/\o.length=i/\Li o/\natV o=natV x/2^s%4294967296^i) x.length ?_ ?_
  ·simp[lim];exact⟨[],.nil,rfl,by intro x hx;simp at hx,by simp[natV,Nat.mod_one]⟩
  ·rintro i E H' hi ⟨g0,g1,g6,o,g5,ho,lo,hv⟩;simp only[lim]at g0;rcases Nat.lt_or_ge i x.length with h2|h2
   ·have f1:IntKind.i64.wrap ((i:Int)+1)=((i+1:Nat):Int):=by rw[wrap_i64]<;>omega
    have f1':IntKind.i64.wrap ((i:Int)+1)=(i:Int)+1:=by rw[wrap_i64]<;>omega
    have f0:(0:Int)<=(i:Int)+1:=by omega
    have da:=qch lx i;have db:=qch lx (i+1);have st:=q5j (M:=natV x) (s:=s) o ho hv;rw[qur lx i s hs32]at st;have⟨T,hT⟩:∃T,T=dig x i+4294967296*dig x (i+1):=⟨_,rfl⟩
    have hT2:T<2^64:=by omega
    have f4:qa3 .shr .u64 (T:Int) (s:Int)=some (.int .u64 ((T/2^s:Nat):Int)):=shr64 T s (by omega);rw[<-hT]at st;have⟨Y,hY⟩:∃Y,Y=T/2^s:=⟨_,rfl⟩
    have hY2:Y<2^64:=by rw[hY];exact Nat.lt_of_le_of_lt (Nat.div_le_self _ _) hT2
    rw[<-hY]at f4 st;have f5:=qfn Y hY2;have⟨L,hL⟩:∃L,L=Y%4294967296:=⟨_,rfl⟩
    rw[<-hL]at f5 st;have f6:IntKind.u32.wrap (L:Int)=L:=qaq _ (by omega);obtain⟨v',H'',e',ho'⟩:=g5.one L (by omega);have go:∃o,Out H H'' v' 1 (List.map u32 o)/\o.length=i+1/\Li o/\natV o=natV x/2^s%4294967296^(i+1):=
     ⟨o++[L],ho',by simp;omega,lo.append (by intro y hy;simp at hy;omega),st⟩
    rw[qak h2]at da hT;have t1:IntKind.u64.wrap (x[i]:Int)=x[i]:=qag _ (by omega);rcases Nat.lt_or_ge (i+1) x.length with h3|h3
    ·rw[qak h3]at db hT;have t2:IntKind.u64.wrap (x[i+1]:Int)=x[i+1]:=qag _ (by omega);have h3':(i:Int)+1<x.length:=by omega
     have t3:qa3 .shl .u64 (x[i+1]:Int) 32=some (.int .u64 ((x[i+1]*2^32:Nat):Int)):=shl64 _ 32 (by omega) (by omega);have t4:bitsI .or .u64 (x[i]:Int) ((x[i+1]*2^32:Nat):Int)=some (T:Int):=by
      have:=qdd x[i+1] 32 x[i] (by omega) (by omega) (by omega);rw[qp9 _ _ (by omega) (by omega)]at this ⊢;rw[Nat.or_comm,this,hT]
      congr 2;omega
     have⟨P,hP⟩:∃P,P=x[i+1]*2^32:=⟨_,rfl⟩
     rw[<-hP]at t3 t4;simp[qc3,g0,g1,g6,h2,h3,h3',u32,t1,t2,t3,t4,s1,e2,f0,f1',f4,f5,f6,e',lim];exact go
    ·rw[qcy h3]at hT;have hT':x[i]=T:=by omega
     have h3':¬(i:Int)+1<x.length:=by omega
     rw[hT']at t1;simp[qc3,g0,g1,g6,h2,h3',u32,hT',t1,s1,e2,f1',f4,f5,f6,e',lim];exact go
   ·have h2':¬i<x.length:=by omega
    simp[qc3,g0,g6,h2'];obtain⟨H3,hp3,e3⟩:=g5.prep (g:=qdv) rfl;refine qau rfl rfl e3 (qn8 o (by omega)) ?_;have hv2:natV o=natV x/2^s:=by
     have:=qan lx;rw[hv,Nat.mod_eq_of_lt];rw[show i=x.length by omega];exact Nat.lt_of_le_of_lt (Nat.div_le_self _ _) this
    rw[qao lo,hv2];simp[qbe hp3,lim]
 ·have h1:((m.length:Int)<=q):=by omega
  rw[List.drop_of_length_le hge];simp[lim,q1,e1,h1,natV,qb2]
end Go.Abs.W
namespace Go.Abs.W
set_option maxHeartbeats 4000000
def Dy.of (neg:Bool)(n:Nat)(e:Int):Dy:=if n=0 then⟨false,[],0⟩else⟨neg,qae (n/2^tz n),e+tz n⟩
theorem qu1 {m:List Nat}(lm:Li m)(h:natV m≠0):tz (natV m)<32*m.length:=by
 have h1:=tz_le h;have h2:=qan lm;rw[pow32]at h2;exact(Nat.pow_lt_pow_iff_right (by omega:1<2)).1 (Nat.lt_of_le_of_lt h1 h2)
theorem Of_cq (neg:Bool)(m:List Nat)(e:Int)(hm:m.length<=100000)(lm:Li m)(he1:-1000000<=e)(he2:e<=1000000):CQ prog qy6 [.bool neg,lim m,.int .i64 e] (Dy.of neg (natV m) e).v:=by
 refine qaf rfl fun H=>?_
 simp;refine qab rfl rfl rfl (qn8 m (by omega)) ?_;rw[qao lm];by_cases h0:natV m=0
 ·simp[h0,qb2,lim,Dy.of]
 ·have⟨x,hx⟩:∃x,x=qae (natV m):=⟨_,rfl⟩
  have hxv:natV x=natV m:=by rw[hx,qad]
  have lx:Li x:=by rw[hx];exact qah _
  have hxl:x.length<=m.length:=by rw[hx];exact limbsOf_len.2 (qan lm)
  have hne:x≠[]:=by rw[hx];exact qdh h0
  have hl:¬(x.length:Int)=0:=by
   intro h;exact hne (List.eq_nil_of_length_eq_zero (by omega))
  have hb:=qu1 lx (by rw[hxv];exact h0);have f1:IntKind.i64.wrap (e+(tz (natV m):Int))=e+tz (natV m):=by rw[hxv]at hb;rw[wrap_i64]<;>omega
  rw[<-hx];simp[lim,hne];refine qab rfl rfl rfl (qabo x (by omega) lx (by rw[hxv];exact h0)) ?_;simp;refine qab rfl rfl rfl (qace x (tz (natV x)) (by omega) lx (by omega)) ?_;rw[hxv];simp[f1,Dy.of,h0,lim]
def Dy.neg' (d:Dy):Dy:=⟨!d.neg&&decide (d.m≠[]),d.m,d.e⟩
theorem qaln (d:Dy):CQ prog qwr [d.v] d.neg'.v:=by
 refine qaf rfl fun H=>?_
 simp[lim,Dy.neg'];all_goals first|done|grind
theorem qxk (d:Dy):CQ prog qua [d.v] (.int .i64 d.sgn):=by
 refine qaf rfl fun H=>?_
 simp[lim,Dy.sgn];grind
def sumX (d:Dy)(e:Int):Nat:=natV d.m*2^(d.e-e).toNat
def Dy.sum (a b:Dy):Dy:=
 if a.m=[]then b else if b.m=[]then a else
 let e:=min a.e b.e
 if a.neg=b.neg then Dy.of a.neg (sumX a e+sumX b e) e
 else if sumX b e<=sumX a e then Dy.of a.neg (sumX a e-sumX b e) e else Dy.of b.neg (sumX b e-sumX a e) e
theorem qyy {d:Dy}(h:d.m.length<=600){k:Nat}(hk:k<=100000)(li:Li d.m):(qae (natV d.m*2^k)).length<=4000:=by
 have h1:=qan li;rw[pow32]at h1;refine qeh (B:=32*d.m.length+k) ?_ (by omega);rw[Nat.pow_add];exact Nat.mul_lt_mul_of_pos_right h1 (Nat.two_pow_pos k)
structure Dy.M (d:Dy):Prop where
 li:Li d.m
 len:d.m.length<=600
 lo:-20000<=d.e
 hi:d.e<=20000
theorem Dy.Ok.toM {d:Dy}(h:d.Ok):d.M:=⟨h.li,by have:=h.len;omega,by have:=h.elo;omega,by have:=h.ehi;omega⟩
theorem qalk (a b:Dy)(ma:a.M)(mb:b.M):CQ prog qwq [a.v,b.v] (a.sum b).v:=by
 refine qaf rfl fun H=>?_
 by_cases na:a.m=[]
 ·simp[lim,na,Dy.sum]
 by_cases nb:b.m=[]
 ·have h1:¬(a.m.length:Int)=0:=by intro h;exact na (List.eq_nil_of_length_eq_zero (by omega))
  simp[lim,na,nb,Dy.sum]
 have h1:¬(a.m.length:Int)=0:=by intro h;exact na (List.eq_nil_of_length_eq_zero (by omega))
 have h2:¬(b.m.length:Int)=0:=by intro h;exact nb (List.eq_nil_of_length_eq_zero (by omega))
 have h3:=ma.lo;have h4:=ma.hi;have h5:=mb.lo;have h6:=mb.hi;have⟨e,he⟩:∃e,e=min a.e b.e:=⟨_,rfl⟩
 have he':(if b.e<a.e then b.e else a.e)=e:=by rw[he];split<;>omega
 have⟨i,hi⟩:∃i,i=(a.e-e).toNat:=⟨_,rfl⟩
 have⟨j,hj⟩:∃j,j=(b.e-e).toNat:=⟨_,rfl⟩
 have f1:IntKind.i64.wrap (a.e-e)=i:=by rw[wrap_i64]<;>omega
 have f2:IntKind.i64.wrap (b.e-e)=j:=by rw[wrap_i64]<;>omega
 have hX:sumX a e=natV a.m*2^i:=by rw[sumX,<-hi]
 have hY:sumX b e=natV b.m*2^j:=by rw[sumX,<-hj]
 unfold Dy.sum;rw[if_neg na,if_neg nb];simp only[<-he,hX,hY];have lX:=qyy (d:=a) ma.len (k:=i) (by omega) ma.li;have lY:=qyy (d:=b) mb.len (k:=j) (by omega) mb.li;simp[lim,na,nb,he',f1];refine qab rfl rfl rfl (q83 a.m i (by have:=ma.len;omega) ma.li (by omega)) ?_;simp[f2];refine qab rfl rfl rfl (q83 b.m j (by have:=mb.len;omega) mb.li (by omega)) ?_;generalize natV a.m*2^i=X at *
 generalize natV b.m*2^j=Y at *
 simp;refine⟨fun hs=>?_,fun hs=>?_⟩
 ·refine qab rfl rfl rfl (qagr (qae X) (qae Y) (by omega) (by omega) (qah _) (qah _)) ?_;simp[qad];refine qab rfl rfl rfl (Of_cq a.neg (qae (X+Y)) e ?_ (qah _) (by omega) (by omega)) ?_
  ·have:=qyz lX lY;omega
  ·simp[hs,qad,lim]
 ·refine qab rfl rfl rfl (qrs (qae X) (qae Y) (by omega) (qah _) (qah _) (.inr ⟨qed _,qed _⟩)) ?_;simp[qad,hs];have hc:(0:Int)<=cmpN X Y↔Y<=X:=by unfold cmpN;split<;>(try split)<;>omega
  refine⟨fun h=>?_,fun h=>?_⟩
  ·have h':Y<=X:=hc.1 h;have hlen:(qae Y).length<=(qae X).length:=by
    refine limbsOf_len.2 (Nat.lt_of_le_of_lt h' ?_);have:=qan (qah X);rwa[qad]at this
   refine qab rfl rfl rfl (q3p (qae X) (qae Y) (by omega) hlen (qah _) (qah _) (by rw[qad,qad];exact h')) ?_;simp[qad];refine qab rfl rfl rfl (Of_cq a.neg (qae (X-Y)) e ?_ (qah _) (by omega) (by omega)) ?_
   ·have:(qae (X-Y)).length<=4000:=qcg (Nat.sub_le X Y) lX;omega
   ·simp[qad,h',lim]
  ·have h':¬Y<=X:=fun h'=>by have:=hc.2 h';omega
   have hlen:(qae X).length<=(qae Y).length:=by
    have:=qan (qah Y);rw[qad]at this;exact limbsOf_len.2 (by omega)
   refine qab rfl rfl rfl (q3p (qae Y) (qae X) (by omega) hlen (qah _) (qah _) (by rw[qad,qad];omega)) ?_;simp[qad];refine qab rfl rfl rfl (Of_cq b.neg (qae (Y-X)) e ?_ (qah _) (by omega) (by omega)) ?_
   ·have:(qae (Y-X)).length<=4000:=qcg (Nat.sub_le Y X) lY;omega
   ·simp[qad,h',lim]
end Go.Abs.W
namespace Go.Abs.W
set_option maxHeartbeats 4000000
theorem qus (m:List Nat)(hm:m.length<=1000000)(lm:Li m)(tm:Trim m):CQ prog qip [lim m] (.int .i64 (bitL (natV m))):=by
 rcases qul m with rfl|⟨l,t,rfl⟩
 ·exact q75
 ·have:=qacg l t (by simp at hm;omega) (lm t (by simp));rwa[<-q4s (fun y hy=>lm y (by simp[hy])) (tm t (by simp))]at this
theorem qrg (d:Dy)(h:d.G)(m:d.M):CQ prog qwp [d.v] (.int .i64 d.top):=by
 refine qaf rfl fun H=>?_
 by_cases hm:d.m=[]
 ·simp[lim,hm,Dy.top]
 ·have h1:¬(d.m.length:Int)=0:=by intro h;exact hm (List.eq_nil_of_length_eq_zero (by omega))
  have h2:=m.len;have h3:=m.lo;have h4:=m.hi;have h5:bitL (natV d.m)<=32*d.m.length:=by
   have hl:=qan h.li;rw[pow32]at hl;rcases Nat.lt_or_ge (32*d.m.length) (bitL (natV d.m))with h6|h6
   ·exfalso;by_cases h0:natV d.m=0
    ·rw[h0]at h6;have z:bitL 0=0:=rfl;omega
    ·have hp:=(qar h0).1;have:=Nat.pow_le_pow_right (n:=2) (by omega) (show 32*d.m.length<=bitL (natV d.m)-1 by omega);omega
   ·exact h6
  have e1:IntKind.i64.wrap ((bitL (natV d.m):Int)+d.e)=bitL (natV d.m)+d.e:=by rw[wrap_i64]<;>omega
  simp[lim,hm];refine qab rfl rfl rfl (qus d.m (by omega) h.li h.tr) ?_;simp[Dy.top,hm,e1]
theorem q0r (d:Dy)(w:d.W):CQ prog qsi [d.v] (.bool d.valid):=by
 refine qaf rfl fun H=>?_
 rcases d with ⟨neg,m,e⟩;have la:=w.li;have ha:=w.len;simp only at la ha;rcases m with _|⟨x,l⟩
 ·simp[lim,Dy.valid];grind
 ·have hx:x<4294967296:=la x (by simp);have e1:((l.length:Int)+1≠0):=by omega
  have e2:=qny x hx;have⟨y,hy⟩:∃y,y=x%2:=⟨_,rfl⟩
  have⟨t,ht⟩:∃t,t=(x :: l).getLast (by simp):=⟨_,rfl⟩
  simp at ha;have e3:IntKind.i64.wrap (l.length:Int)=l.length:=by rw[wrap_i64]<;>omega
  have e4:(x :: l)[l.length]?=some t:=by rw[ht,List.getLast_eq_getElem];simp
  have e7:((V.int IntKind.u32 (x:Int)) :: List.map u32 l)[l.length]'(by simp)=.int .u32 t:=by
   have:=congrArg (Option.map u32) e4;rw[<-List.getElem?_map]at this;have e5:((V.int IntKind.u32 (x:Int)) :: List.map u32 l)[l.length]?=some (.int .u32 t):=this;rw[List.getElem?_eq_getElem (by simp)]at e5;injection e5
  rw[<-hy]at e2;have hv:Dy.valid ⟨neg,x :: l,e⟩=(decide (l.length+1<=256)&&decide (y=1)&&decide (t≠0)&&Dy.inR ⟨neg,x :: l,e⟩):=by
   simp[Dy.valid,hy,ht]
  rw[hv];have hy1:y=0\/y=1:=by omega
  by_cases h256:256<l.length+1
  ·have h256':(256:Int)<(l.length:Int)+1:=by omega
   have h256'':¬l.length+1<=256:=by omega
   have h3:¬l.length<=255:=by omega
   simp[lim,u32,e1,h256',h256'']
  by_cases ht0:t=0
  ·subst ht0;simp[lim,u32,e1,e3,e7]
  ·have ht0':¬(t:Int)=0:=by omega
   have tr:Trim (x :: l):=by
    intro z hz;rw[List.getLast?_eq_some_getLast (by simp)]at hz;injection hz with hz
    rw[<-hz,<-ht];exact ht0
   have hb0:bitL (natV (x :: l))≠0:=by
    have:=(qar (qf1 tr (by simp))).2.2;omega
   simp[lim,u32,e1,e2,e3,e7,ht0];have hin:Dy.inR ⟨neg,x :: l,e⟩=(decide (bitL (natV (x :: l))<=4096)&&decide (-16384<=e)&&decide (e<=16384)&&decide (bitL (natV (x :: l))+e<=16384)):=by
    simp[Dy.inR,hb0]
   rw[hin];have e8:bitL (natV (x :: l))<=4096->-16384<=e->e<=16384->IntKind.i64.wrap ((bitL (natV (x :: l)):Int)+e)=bitL (natV (x :: l))+e:=by intros;rw[wrap_i64]<;>omega
   have hr:=qus (x :: l) (by simp;omega) la tr;generalize bitL (natV (x :: l))=B at *
   repeat' first
    | (refine zq hr ?_;simp)
    |refine And.intro ?_ ?_
    |intro _
   all_goals first| (simp[*];done)|grind
theorem q8q {neg:Bool}{n:Nat}{e:Int}:(Dy.of neg n e).sgn=if n=0 then 0 else if neg then -1 else 1:=by
 unfold Dy.of;by_cases h:n=0
 ·simp[h,Dy.sgn]
 ·have h1:=tz_le h;have h2:n/2^tz n≠0:=by
   have:=(Nat.le_div_iff_mul_le (Nat.two_pow_pos (tz n)) (x:=1) (y:=n)).2 (by omega);omega
  simp[h,Dy.sgn,qdh h2]
theorem qaf3 {a b:Dy}(oa:a.G)(ob:b.G)(na:a.m≠[])(nb:b.m≠[])(hneg:a.neg=b.neg):(a.sum b.neg').sgn=b.sgn*cmpN a.absN b.absN:=by
 have h3:=oa.elo;have h5:=ob.elo;have⟨e,he⟩:∃e,e=min a.e b.e:=⟨_,rfl⟩
 have hA:a.absN=sumX a e*2^(e+16384).toNat:=qg3 (by omega) (by omega);have hB:b.absN=sumX b e*2^(e+16384).toNat:=qg3 (by omega) (by omega);have hB':sumX b.neg' e=sumX b e:=rfl;rw[hA,hB,qvh (Nat.two_pow_pos _)];have hne:¬a.neg=b.neg'.neg:=by simp[Dy.neg',nb,hneg]
 unfold Dy.sum;rw[if_neg na,if_neg (show ¬b.neg'.m=[] from nb)];simp only[show b.neg'.e=b.e from rfl,<-he,if_neg hne,hB'];have hbn:b.neg'.neg=!b.neg:=by simp[Dy.neg',nb]
 have hs:b.sgn=if b.neg then -1 else 1:=by simp[Dy.sgn,nb]
 rw[hs];generalize sumX a e=X at *
 generalize sumX b e=Y at *
 rcases Nat.lt_trichotomy X Y with h|h|h
 ·have h1:¬Y<=X:=by omega
  have h2:¬Y-X=0:=by omega
  rw[if_neg h1,q8q,hbn,if_neg h2];simp only[cmpN,if_pos h];cases b.neg<;>simp
 ·subst h;rw[if_pos (Nat.le_refl _),q8q,if_pos (by omega)];simp[cmpN]
 ·have h1:Y<=X:=by omega
  have h2:¬X-Y=0:=by omega
  have h3:¬X<Y:=by omega
  rw[if_pos h1,q8q,hneg,if_neg h2];simp[cmpN,if_neg h3,h]
theorem qad7 (a b:Dy)(oa:a.G)(ob:b.G)(ma:a.M)(mb:b.M):CQ prog qon [a.v,b.v] (.int .i64 (cmpI a.val b.val)):=by
 refine qaf rfl fun H=>?_
 rw[q20 oa ob];simp;refine qab rfl rfl rfl (qxk a) ?_;simp;refine qab rfl rfl rfl (qxk b) ?_;by_cases hne:a.sgn=b.sgn
 ·have n1:¬a.sgn<b.sgn:=by omega
  have n2:¬b.sgn<a.sgn:=by omega
  simp[hne];by_cases h0:b.sgn=0
  ·simp[h0]
  ·have na:a.m≠[]:=fun h=>h0 (by rw[<-hne];simp[Dy.sgn,h])
   have nb:b.m≠[]:=fun h=>h0 (by simp[Dy.sgn,h])
   have hneg:a.neg=b.neg:=by
    unfold Dy.sgn at hne;rw[if_neg na,if_neg nb]at hne;cases ha:a.neg<;>cases hb:b.neg<;>simp[ha,hb]at hne ⊢
   simp[h0];refine qab rfl rfl rfl (qrg a oa ma) ?_;simp;refine qab rfl rfl rfl (qrg b ob mb) ?_;simp;by_cases ht:a.top=b.top
   ·simp[ht];refine qab rfl rfl rfl (qaln b) ?_;simp;refine qab rfl rfl rfl (qalk a b.neg' ma ⟨mb.li,mb.len,mb.lo,mb.hi⟩) ?_;simp;refine qab rfl rfl rfl (qxk _) ?_;simp;exact qaf3 oa ob na nb hneg
   ·simp[ht];refine qab rfl rfl rfl (qrg a oa ma) ?_;simp;refine qab rfl rfl rfl (qrg b ob mb) ?_;simp;have hs:b.sgn=1\/b.sgn=-1:=by unfold Dy.sgn;rw[if_neg nb];split<;>simp
    have key:(a.top<b.top/\cmpN a.absN b.absN=-1)\/(¬a.top<b.top/\cmpN a.absN b.absN=1):=by
     rcases Int.lt_or_gt_of_ne ht with h|h
     ·have:=ql5 oa ob na nb h;exact .inl ⟨h,by simp[cmpN,this]⟩
     ·have:=ql5 ob oa nb na h;exact .inr ⟨by omega,by simp[cmpN,this];omega⟩
    rcases hs with hs|hs<;>rcases key with ⟨k1,k2⟩|⟨k1,k2⟩<;>simp[hs,k1,k2]
 ·simp[hne];grind
theorem q2s (a b:Dy)(oa:a.Ok)(ob:b.Ok):CQ prog qon [a.v,b.v] (.int .i64 (a.cmp b)):=by
 have hcmp:a.cmp b=cmpI a.val b.val:=by simp[Dy.cmp,oa.valid,ob.valid]
 rw[hcmp];exact qad7 a b oa.toG ob.toG oa.toM ob.toM
theorem qh9 : ∀{a b:List Nat},Li a->Li b->a.length=b.length->natV a=natV b->a=b
 | [],[],_,_,_,_=>rfl
 | [],_ :: _,_,_,h,_=>by simp at h
 |_ :: _,[],_,_,h,_=>by simp at h
 |x :: l,y :: m,la,lb,h,e=>by
  simp only[natV]at e;have h1:=la.cons.1;have h2:=lb.cons.1;have:x=y:=by omega
  rw[this,qh9 la.cons.2 lb.cons.2 (by simpa using h) (by omega)]
theorem q0s (a b:Dy)(wa:a.W)(wb:b.W):CQ prog qsj [a.v,b.v] (.bool (decide (a=b))):=by
 refine qaf rfl fun H=>?_
 have e:decide (a=b)=(decide (a.neg=b.neg)&&decide (a.e=b.e)&&decide (a.m=b.m)):=by
  cases a;cases b;simp[and_comm];grind
 rw[e];have hl:(a.m.length:Int)=b.m.length↔a.m.length=b.m.length:=by omega
 by_cases hn:a.neg=b.neg
 ·by_cases he:a.e=b.e
  ·by_cases hm:a.m.length=b.m.length
   ·simp[lim,hn,he,hm];refine qab rfl rfl rfl (qrs a.m b.m (by have:=wa.len;omega) wa.li wb.li (.inl hm)) ?_;simp[qaac];constructor
    ·intro h;exact qh9 wa.li wb.li hm h
    ·intro h;rw[h]
   ·have hm':¬(a.m.length:Int)=b.m.length:=by omega
    have hm2:¬a.m=b.m:=fun h=>hm (by rw[h])
    simp[lim,hn,he,hm',hm2]
  ·simp[lim,hn,he]
 ·simp[lim,hn]
end Go.Abs.W
namespace Go.Abs.W
def Dy.zero : Dy:=⟨false,[],0⟩
def Dy.isZ (d:Dy):Bool:=!d.neg&&decide (d.m=[])&&decide (d.e=0)
def Iv.valid (x:Iv):Bool:=if x.all then x.lo.isZ&&x.hi.isZ else x.lo.valid&&x.hi.valid&&decide (x.lo.cmp x.hi<=0)
structure Iv.W (x:Iv):Prop where
 lo:x.lo.W
 hi:x.hi.W
def Iv.ins (x y:Iv):Bool:=x.valid&&y.valid&&(y.all || (!x.all&&decide (y.lo.cmp x.lo<=0)&&decide (x.hi.cmp y.hi<=0)))
theorem qae5 (d:Dy):CQ prog qoj [d.v] (.bool d.isZ):=by
 refine qaf rfl fun H=>?_
 simp[lim,Dy.isZ];grind
theorem qpb (x:Iv)(w:x.W):CQ prog qqz [x.v] (.bool x.valid):=by
 refine qaf rfl fun H=>?_
 simp;repeat' first
  | (refine qab rfl rfl rfl (qae5 x.lo) ?_;simp)
  | (refine qab rfl rfl rfl (qae5 x.hi) ?_;simp)
  | (refine qab rfl rfl rfl (qfv x.lo w.lo.len w.lo.li) ?_;simp)
  | (refine qab rfl rfl rfl (qfv x.hi w.hi.len w.hi.li) ?_;simp)
  | (refine qab rfl rfl rfl (ql6 x.lo x.hi w.lo w.hi) ?_;simp)
  |refine And.intro ?_ ?_
  |intro _
 all_goals first| (simp[Iv.valid, *];done)| (simp[Iv.valid, *];grind)|grind [Iv.valid]
set_option maxHeartbeats 1000000 in
theorem q6y (x y:Iv)(wx:x.W)(wy:y.W):CQ prog qpo [x.v,y.v] (.bool (x.ins y)):=by
 refine qaf rfl fun H=>?_
 simp;repeat' first
  | (refine qab rfl rfl rfl (qpb x wx) ?_;simp)
  | (refine qab rfl rfl rfl (qpb y wy) ?_;simp)
  | (refine qab rfl rfl rfl (ql6 y.lo x.lo wy.lo wx.lo) ?_;simp)
  | (refine qab rfl rfl rfl (ql6 x.hi y.hi wx.hi wy.hi) ?_;simp)
  |refine And.intro ?_ ?_
  |intro _
 all_goals first| (simp[Iv.ins, *];done)| (simp[Iv.ins, *];grind)|grind [Iv.ins]
theorem qpv {a b:Dy}(ha:a.valid=true)(hb:b.valid=true):a.cmp b=cmpI a.val b.val:=by simp[Dy.cmp,ha,hb]
theorem qhd {a b:Int}:cmpI a b<=0↔a<=b:=by
 unfold cmpI;repeat' split
 all_goals omega
theorem qw8 {a b:Int}:cmpI a b=0↔a=b:=by
 unfold cmpI;repeat' split
 all_goals omega
theorem qadj {a b:Dy}(oa:a.Ok)(ob:b.Ok):a.cmp b=0↔a=b:=by
 rw[qpv oa.valid ob.valid,qw8];exact⟨qafu oa ob,fun h=>by rw[h]⟩
theorem Iv.W.okLo {x:Iv}(w:x.W)(hv:x.valid=true)(ha:x.all=false):x.lo.Ok:=by
 simp[Iv.valid,ha]at hv;exact Dy.Ok.of w.lo.li hv.1.1
theorem Iv.W.okHi {x:Iv}(w:x.W)(hv:x.valid=true)(ha:x.all=false):x.hi.Ok:=by
 simp[Iv.valid,ha]at hv;exact Dy.Ok.of w.hi.li hv.1.2
theorem qaa7 (d:Dy):CQ prog qt6 [d.v] (.bool d.isZ):=by
 refine qaf rfl fun H=>?_
 simp[lim,Dy.isZ];grind
theorem qvt (x:Iv)(w:x.W):CQ prog qsd [x.v] (.bool x.valid):=by
 refine qaf rfl fun H=>?_
 simp;repeat' first
  | (refine qab rfl rfl rfl (qaa7 x.lo) ?_;simp)
  | (refine qab rfl rfl rfl (qaa7 x.hi) ?_;simp)
  | (refine qab rfl rfl rfl (q0r x.lo w.lo) ?_;simp)
  | (refine qab rfl rfl rfl (q0r x.hi w.hi) ?_;simp)
  | (refine qab rfl rfl rfl (q2s x.lo x.hi (Dy.Ok.of w.lo.li (by assumption)) (Dy.Ok.of w.hi.li (by assumption))) ?_;simp)
  |refine And.intro ?_ ?_
  |intro _
 all_goals first| (simp[Iv.valid, *];done)| (simp[Iv.valid, *];grind)|grind [Iv.valid]
theorem q6t (x y:Iv)(wx:x.W)(wy:y.W):CQ prog qse [x.v,y.v] (.bool (decide (x=y))):=by
 refine qaf rfl fun H=>?_
 have e:decide (x=y)=(decide (x.all=y.all)&&decide (x.lo=y.lo)&&decide (x.hi=y.hi)):=by
  cases x;cases y;simp;grind
 rw[e];simp;repeat' first
  | (refine qab rfl rfl rfl (q0s x.lo y.lo wx.lo wy.lo) ?_;simp[*])
  | (refine qab rfl rfl rfl (q0s x.hi y.hi wx.hi wy.hi) ?_;simp[*])
  |refine And.intro ?_ ?_
  |intro _
 all_goals first| (simp[*];done)| (simp[*];grind)|grind
def Dy.lo2 (a b:Dy):Dy:=if a.cmp b<=0 then a else b
def Dy.hi2 (a b:Dy):Dy:=if 0<=a.cmp b then a else b
def Iv.known (x:Iv):Bool:=!x.all&&x.valid
def Iv.whole : Iv:=⟨⟨false,[],0⟩,⟨false,[],0⟩,true⟩
theorem Dy.W.lo2 {a b:Dy}(ha:a.W)(hb:b.W):(a.lo2 b).W:=by unfold Dy.lo2;split<;>assumption
theorem Dy.W.hi2 {a b:Dy}(ha:a.W)(hb:b.W):(a.hi2 b).W:=by unfold Dy.hi2;split<;>assumption
theorem qcs : CQ prog qqy [] Iv.whole.v:=by
 refine qaf rfl fun H=>?_
 simp[Iv.whole,lim]
set_option maxHeartbeats 1000000 in
theorem q3t (l:List Iv)(hl:l.length<=1000000)(w:∀x ∈ l,x.W):CQ prog qqx [ivs l] (.bool (l.all Iv.known)):=by
 refine qaf rfl fun H=>?_
 simp[ivs];refine WK_up (fun i E H'=>H <+: H'/\E 5=ivs l/\E 6=.int .i64 l.length/\E 7=.int .i64 i/\(∀j x,j<i->l[j]?=some x->x.known=true)) l.length ?_ ?_
 ·simp[ivs]
 ·rintro i E H' hi ⟨hH,h5,h6,h7,hp⟩;simp only[ivs]at h5 ⊢;rcases Nat.lt_or_ge i l.length with hlt|hge
  ·have e2:IntKind.i64.wrap ((i:Int)+1)=((i+1:Nat):Int):=by rw[wrap_i64]<;>omega
   have wx:=w l[i] (List.getElem_mem hlt);have no:l[i].known=false->l.all Iv.known=false:=by
    intro h;rw[Bool.eq_false_iff];intro h';rw[List.all_eq_true.1 h' _ (List.getElem_mem hlt)]at h;cases h
   have nx:l[i].known=true->∀(j:Nat) (x:Iv),j<i+1->l[j]?=some x->x.known=true:=by
    intro h j x hj hx;rcases Nat.lt_or_ge j i with hji|hji
    ·exact hp j x hji hx
    ·have:j=i:=by omega
     subst this;rw[List.getElem?_eq_getElem hlt]at hx;injection hx with hx;rw[<-hx];exact h
   have T:=qbe (qcx (l:=[some ⟨7,[l[i].v],false,true⟩]) hH);simp only[Iv.v]at T;cases ha:l[i].all
   ·simp[qcn,h5,h6,h7,hlt,ha];rw[ha]at T;have hr:=qpb l[i] wx;simp only[Iv.v,ha]at hr;refine zq hr ?_;cases hv:l[i].valid
    ·simp[T];simpa using no (by simp[Iv.known,hv])
    ·simp[h5,h6,h7,e2];exact⟨qcx hH,nx (by simp[Iv.known,hv,ha])⟩
   ·rw[ha]at T;simp[qcn,h5,h6,h7,hlt,ha,T];simpa using no (by simp[Iv.known,ha])
  ·have hin:i=l.length:=by omega
   subst hin;have e1:l.all Iv.known=true:=by
    rw[List.all_eq_true];intro x hx;obtain⟨j,hj,rfl⟩:=List.getElem_of_mem hx;exact hp j _ hj (List.getElem?_eq_getElem _)
   simp[qcn,h6,h7,e1,qbe hH]
theorem qb3 {x:Iv}(w:x.W)(h:x.known=true):x.lo.Ok/\x.hi.Ok:=by
 simp[Iv.known]at h;exact⟨w.okLo h.2 h.1,w.okHi h.2 h.1⟩
@[simp] theorem qaly (n k:Nat):¬(n+k<n):=by omega
def Iv.zero : Iv:=⟨⟨false,[],0⟩,⟨false,[],0⟩,false⟩
theorem qaj1 {a b:Dy}(ha:a.Ok)(hb:b.Ok):(a.lo2 b).Ok:=by unfold Dy.lo2;split<;>assumption
theorem qaka {a b:Dy}(ha:a.Ok)(hb:b.Ok):(a.hi2 b).Ok:=by unfold Dy.hi2;split<;>assumption
end Go.Abs.W
