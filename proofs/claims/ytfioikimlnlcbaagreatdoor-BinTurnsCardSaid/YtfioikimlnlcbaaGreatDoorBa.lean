/- Parts of the proof: FpBr1, FpBa, FpBn, FpBq, FpBf, FpBc, FpBd, FpBe, FpBg, FpBh. -/
import Derived.Test.YtfioikimlnlcbaaGreatDoorFg
import Derived.Test.YtfioikimlnlcbaaGreatDoorFe
import Derived.Test.YtfioikimlnlcbaaGreatDoorFf
namespace Go.Abs.W
set_option maxRecDepth 20000
theorem q38 {l:List Nat}{n:Nat}(ll:Li l)(h:natV l=n)(hn:l=[]\/4294967296^(l.length-1)<=n):l=qae n:=by
 have h1:(qae n).length<=l.length:=limbsOf_len.2 (by rw[<-h];exact qan ll);have h2:l.length<=(qae n).length:=by
  rcases hn with rfl|hn
  ·simp
  ·rcases Nat.lt_or_ge (qae n).length l.length with h3|h3
   ·have:(qae n).length<=l.length-1:=by omega
    have:=limbsOf_len.1 this;omega
   ·exact h3
 exact qh9 ll (qah n) (by omega) (by rw[h,qad])
end Go.Abs.W
namespace Go.Abs.W
def natB : List Nat->Nat
 | []=>0
 |x :: l=>x+32768*natB l
def LiB (l:List Nat):Prop:=∀x ∈ l,x<32768
theorem LiB.cons {x:Nat}{l:List Nat}(h:LiB (x :: l)):x<32768/\LiB l:=⟨h x (by simp),fun y hy=>h y (by simp[hy])⟩
theorem LiB.take {l:List Nat}(h:LiB l)(n:Nat):LiB (l.take n):=fun x hx=>h x (List.mem_of_mem_take hx)
theorem LiB.drop {l:List Nat}(h:LiB l)(n:Nat):LiB (l.drop n):=fun x hx=>h x (List.mem_of_mem_drop hx)
theorem LiB.append {l m:List Nat}(h:LiB l)(k:LiB m):LiB (l++m):=fun x hx=>(List.mem_append.1 hx).elim (h x) (k x)
theorem qd7 : ∀(l m:List Nat),natB (l++m)=natB l+32768^l.length*natB m
 | [],m=>by simp[natB]
 |x :: l,m=>by
  simp only[List.cons_append,natB,qd7 l m,List.length_cons,Nat.pow_succ];rw[Nat.mul_add,<-Nat.mul_assoc,Nat.mul_comm 32768 (32768^l.length)];omega
theorem qcf : ∀{l:List Nat},LiB l->natB l<32768^l.length
 | [],_=>by simp[natB]
 |x :: l,h=>by
  have h1:=qcf h.cons.2;have h2:=h.cons.1;simp only[natB,List.length_cons,Nat.pow_succ];omega
theorem qjk (n:Nat):natB (List.replicate n 0)=0:=by
 induction n with
 |zero=>rfl
 |succ n ih=>simp[List.replicate_succ,natB,ih]
theorem qu2 (l:List Nat):∀n,n<=l.length->natB (l.take (trimN l n))=natB (l.take n)
 |0,_=>by simp[trimN]
 |n+1,h=>by
  unfold trimN;split
  ·rename_i h0;rw[qu2 l n (by omega),List.take_add_one,h0,qd7];simp[natB]
  ·rfl
theorem qph (l:List Nat):natB (trimL l)=natB l:=by rw[trimL,qu2 l _ (Nat.le_refl _),List.take_length]
theorem LiB.trimL {l:List Nat}(h:LiB l):LiB (trimL l):=h.take _
theorem qr1 {l:List Nat}(h:Trim l)(hn:l≠[]):32768^(l.length-1)<=natB l:=by
 have⟨x,hx⟩:∃x,l.getLast?=some x:=by
  cases hq:l.getLast? with
  |none=>exact absurd (List.getLast?_eq_none_iff.1 hq) hn
  |some x=>exact⟨x,rfl⟩
 have hx0:=h x hx;have:l=l.dropLast++[x]:=by
  have:=List.dropLast_concat_getLast hn;rw[List.getLast?_eq_some_getLast hn]at hx;injection hx with hx
  rw[hx]at this;exact this.symm
 rw[this,qd7];simp only[natB,List.length_append,List.length_dropLast,List.length_singleton,Nat.mul_zero,Nat.add_zero];have e:l.length-1+1-1=l.length-1:=by omega
 rw[e];have:32768^(l.length-1)*1<=32768^(l.length-1)*x:=Nat.mul_le_mul_left _ (by omega);omega
theorem qim {a b:List Nat}(ha:LiB a)(hb:Trim b)(h:a.length<b.length):natB a<natB b:=by
 have h1:=qcf ha;have h2:=qr1 hb (fun e=>by rw[e]at h;simp at h);have h3:32768^a.length<=32768^(b.length-1):=Nat.pow_le_pow_right (by omega) (by omega);omega
def dgsF : Nat->Nat->List Nat
 |0,_=>[]
 |f+1,n=>if n=0 then []else(n%32768) :: dgsF f (n/32768)
def dgs (n:Nat):List Nat:=dgsF (Nat.log2 n/15+1) n
theorem q92 : ∀{f g n:Nat},n<32768^f->n<32768^g->dgsF f n=dgsF g n
 |0,0,_,_,_=>rfl
 |0,g+1,n,h,_=>by
  have:n=0:=by simpa using h
  simp[dgsF,this]
 |f+1,0,n,_,h=>by
  have:n=0:=by simpa using h
  simp[dgsF,this]
 |f+1,g+1,n,h1,h2=>by
  rw[Nat.pow_succ]at h1 h2;simp only[dgsF];rw[q92 (f:=f) (g:=g) (by omega) (by omega)]
theorem q4b (n:Nat):n<32768^(Nat.log2 n/15+1):=by
 rw[show 32768=2^15 from rfl,<-Nat.pow_mul];exact Nat.lt_of_lt_of_le Nat.lt_log2_self (Nat.pow_le_pow_right (by omega) (by omega))
theorem qbf : dgs 0=[]:=rfl
theorem qnc {n:Nat}(h:n≠0):dgs n=(n%32768) :: dgs (n/32768):=by
 have h1:=q4b n;rw[Nat.pow_succ]at h1;show dgsF (Nat.log2 n/15+1) n=_;simp only[dgsF,h,if_false];rw[q92 (by omega) (q4b (n/32768))];rfl
theorem qay (n:Nat):natB (dgs n)=n:=by
 induction n using Nat.strongRecOn with
 |_ n ih=>
  by_cases h:n=0
  ·subst h;rw[qbf];rfl
  ·rw[qnc h,natB,ih _ (by omega)];omega
theorem qa9 (n:Nat):LiB (dgs n):=by
 induction n using Nat.strongRecOn with
 |_ n ih=>
  by_cases h:n=0
  ·subst h;rw[qbf];intro x hx;simp at hx
  ·rw[qnc h];intro x hx;rcases List.mem_cons.1 hx with rfl|hx
   ·omega
   ·exact ih _ (by omega) x hx
theorem qes {n:Nat}(h:n≠0):dgs n≠[]:=by rw[qnc h];simp
theorem qvd {n:Nat}:dgs n=[]↔n=0:=⟨fun h=>Classical.byContradiction fun h0=>qes h0 h,fun h=>by rw[h,qbf]⟩
theorem qfo (n:Nat):Trim (dgs n):=by
 induction n using Nat.strongRecOn with
 |_ n ih=>
  by_cases h:n=0
  ·subst h;rw[qbf];intro x hx;simp at hx
  ·rw[qnc h];intro x hx;by_cases h1:n/32768=0
   ·rw[h1,qbf]at hx;simp at hx;omega
   ·obtain⟨y,l,hl⟩:=List.exists_cons_of_ne_nil (qes h1);rw[hl,List.getLast?_cons_cons,<-hl]at hx;exact ih _ (by omega) x hx
theorem qrz {l:List Nat}(h:Trim l)(h0:natB l=0):l=[]:=by
 induction l with
 |nil=>rfl
 |cons x l ih=>
  simp only[natB]at h0;have hx:x=0:=by omega
  have hl:=ih h.tail (by omega);subst hl;subst hx;exact absurd rfl (h 0 (by simp))
theorem qade {l:List Nat}(hl:LiB l)(ht:Trim l):dgs (natB l)=l:=by
 induction l with
 |nil=>exact qbf
 |cons x l ih=>
  have h0:natB (x :: l)≠0:=fun h=>by simpa using qrz ht h
  rw[qnc h0];have:=hl.cons.1;simp only[natB];rw[show(x+32768*natB l)%32768=x by omega,show(x+32768*natB l)/32768=natB l by omega,ih hl.cons.2 ht.tail]
theorem qbp {l:List Nat}(hl:LiB l):trimL l=dgs (natB l):=by
 rw[<-qph l,qade hl.trimL (qgx l)]
theorem dgs_len {n k:Nat}:(dgs n).length<=k↔n<32768^k:=by
 constructor
 ·intro h;have:=qcf (qa9 n);rw[qay]at this;exact Nat.lt_of_lt_of_le this (Nat.pow_le_pow_right (by omega) h)
 ·intro h;by_cases h0:n=0
  ·rw[h0,qbf];simp
  ·have:=qr1 (qfo n) (qes h0);rw[qay]at this;have h2:32768^((dgs n).length-1)<32768^k:=by omega
   have:=(Nat.pow_lt_pow_iff_right (by omega)).1 h2;omega
theorem qo2 {N B k:Nat}(h:N<2^B)(hk:B<=15*k):(dgs N).length<=k:=by
 refine dgs_len.2 ?_;rw[show(32768:Nat)=2^15 from rfl,<-Nat.pow_mul];exact Nat.lt_of_lt_of_le h (Nat.pow_le_pow_right (by omega) hk)
theorem qre {X Y k:Nat}(h:X<=Y)(hl:(dgs Y).length<=k):(dgs X).length<=k:=by
 have:=dgs_len.1 hl;exact dgs_len.2 (by omega)
theorem qaho {X Y k:Nat}(h1:(dgs X).length<=k)(h2:(dgs Y).length<=k):(dgs (X+Y)).length<=k+1:=by
 have h3:=dgs_len.1 h1;have h4:=dgs_len.1 h2;refine dgs_len.2 ?_;rw[Nat.pow_succ];omega
theorem qeg (l:List Nat)(t:Nat):natB (l++[t])=natB l+32768^l.length*t:=by rw[qd7];simp[natB]
theorem qld {l:List Nat}(h:LiB l)(i:Nat):dig l i<32768:=by
 unfold dig;cases hq:l[i]? with
 |none=>simp
 |some x=>exact h x (List.mem_of_getElem? hq)
theorem qa6 (l:List Nat)(i:Nat):natB (l.take (i+1))=natB (l.take i)+32768^i*dig l i:=by
 rcases Nat.lt_or_ge i l.length with h|h
 ·rw[List.take_add_one,List.getElem?_eq_getElem h,qak h,qd7,List.length_take,Nat.min_eq_left (by omega)];simp[natB]
 ·rw[List.take_of_length_le (by omega),List.take_of_length_le h,qcy h];simp
theorem qbk {l:List Nat}{i:Nat}(h:l.length<=i):natB (l.take i)=natB l:=by rw[List.take_of_length_le h]
theorem qbs (l:List Nat)(i:Nat):natB (l.drop i)=dig l i+32768*natB (l.drop (i+1)):=by
 rcases Nat.lt_or_ge i l.length with h|h
 ·rw[List.drop_eq_getElem_cons h,qak h];rfl
 ·rw[List.drop_of_length_le h,List.drop_of_length_le (by omega),qcy h];rfl
theorem qcv (l:List Nat)(i:Nat):natB l=natB (l.take i)+32768^i*natB (l.drop i):=by
 rcases Nat.lt_or_ge i l.length with h|h
 ·have:=qd7 (l.take i) (l.drop i);rw[List.take_append_drop,List.length_take,Nat.min_eq_left (by omega)]at this;exact this
 ·rw[List.drop_of_length_le h,List.take_of_length_le h];simp[natB]
theorem qoc {l:List Nat}(hl:LiB l)(i:Nat):natB l/32768^i=natB (l.drop i):=by
 have h1:=qcf (hl.take i);have h2:32768^(l.take i).length<=32768^i:=Nat.pow_le_pow_right (by omega) (by simp;omega);rw[qcv l i,Nat.add_mul_div_left _ _ (Nat.pow_pos (by omega)),Nat.div_eq_of_lt (by omega),Nat.zero_add]
theorem qym {a b:Nat}(h:a<=b):32768^a<=32768^b:=Nat.pow_le_pow_right (by omega) h
theorem qjw {l:List Nat}{n:Nat}:32768^(l.take n).length<=32768^n:=Nat.pow_le_pow_right (by omega) (by simp;omega)
theorem qg6 {l:List Nat}{i:Nat}(hl:LiB l)(h:natB l<32768^i):natB (l.take i)=natB l/\natB (l.drop i)=0:=by
 have h0:natB (l.drop i)=0:=by rw[<-qoc hl,Nat.div_eq_of_lt h]
 have:=qcv l i;rw[h0]at this;exact⟨by omega,h0⟩
def dgk : Nat->Nat->List Nat
 |0,_=>[]
 |k+1,n=>n%32768 :: dgk k (n/32768)
theorem q2a : ∀{k n:Nat},(dgk k n).length=k
 |0,_=>rfl
 |k+1,n=>by simp[dgk,q2a]
theorem qafa : ∀{k n:Nat},LiB (dgk k n)
 |0,_=>by intro x hx;simp[dgk]at hx
 |k+1,n=>by
  intro x hx;simp only[dgk]at hx;rcases List.mem_cons.1 hx with rfl|hx
  ·exact Nat.mod_lt _ (by decide)
  ·exact qafa x hx
theorem q93 : ∀{k n:Nat},natB (dgk k n)=n%32768^k
 |0,n=>by simp[dgk,natB,Nat.mod_one]
 |k+1,n=>by
  simp only[dgk,natB,q93 (k:=k)];rw[Nat.pow_succ,Nat.mul_comm (32768^k),Nat.mod_mul]
theorem q4c : ∀{k n:Nat},dgk (k+1) n=dgk k n++[n/32768^k%32768]
 |0,n=>by simp[dgk]
 |k+1,n=>by
  rw[dgk,q4c (k:=k),dgk,List.cons_append,Nat.div_div_eq_div_mul,Nat.pow_succ,Nat.mul_comm (32768^k)]
theorem ql8 : ∀{l:List Nat} {i v:Nat},i<l.length->natB (l.set i v)+32768^i*dig l i=natB l+32768^i*v
 | [],i,v,h=>by simp at h
 |x :: l,0,v,h=>by simp[natB,dig];omega
 |x :: l,i+1,v,h=>by
  have:=ql8 (l:=l) (i:=i) (v:=v) (by simpa using h);have e:dig (x :: l) (i+1)=dig l i:=by simp[dig]
  simp only[List.set_cons_succ,natB];rw[e,Nat.pow_succ,Nat.mul_comm (32768^i) 32768,Nat.mul_assoc,Nat.mul_assoc];omega
theorem qv9 {l:List Nat}{i v:Nat}(h:i<l.length):natB ((l.set i v).take (i+1))=natB (l.take i)+32768^i*v:=by
 rw[qa6,qg5 (Nat.le_refl _),qw6 h]
theorem LiB.set {l:List Nat}{i v:Nat}(h:LiB l)(hv:v<32768):LiB (l.set i v):=by
 intro y hy;rcases List.mem_or_eq_of_mem_set hy with h1|h1
 ·exact h y h1
 ·rw[h1];exact hv
theorem liB_zeros {n:Nat}:LiB (List.replicate n 0):=by
 intro y hy;rw[(List.mem_replicate.1 hy).2];omega
theorem q7e {X Y N P x y c:Nat}(h:N+P*c=X+Y):N+P*((x+y+c)%32768)+P*32768*((x+y+c)/32768)=(X+P*x)+(Y+P*y):=by
 have:P*((x+y+c)%32768)+P*32768*((x+y+c)/32768)=P*x+P*y+P*c:=by
  rw[Nat.mul_assoc,<-Nat.mul_add,Nat.mod_add_div,Nat.mul_add,Nat.mul_add]
 omega
theorem q91 {X Y N P x y c:Nat}(hx:x<32768)(hy:y<32768)(hc:c<=1)(h:N+Y=X+P*c) :
 N+P*((x+65536-y-c)%32768)+(Y+P*y)=(X+P*x)+P*32768*(if x<y+c then 1 else 0):=by
 have:P*((x+65536-y-c)%32768)+P*y+P*c=P*x+P*32768*(if x<y+c then 1 else 0):=by
  rw[Nat.mul_assoc,<-Nat.mul_add,<-Nat.mul_add,<-Nat.mul_add]
  congr 1
  split<;>omega
 omega
theorem qfw (n:Nat):32768^n=2^(15*n):=by rw[Nat.pow_mul]
theorem qag1 {l:List Nat}(h:Trim l)(hn:l≠[]):natB l≠0:=fun h0=>hn (qrz h h0)
def bdg (x:Nat):V:=.int .i64 (x:Int)
def bl (l:List Nat):V:=.sl (l.map bdg)
@[simp] theorem qak2 {x:Nat}:(bdg x).cells=[bdg x]:=rfl
@[simp] theorem qal9 {l:List Nat}:(bl l).cells=[bl l]:=rfl
@[simp] theorem qaj7 {x:Nat}:(bdg x).isTup=false:=rfl
@[simp] theorem qal0 {l:List Nat}:(bl l).isTup=false:=rfl
@[simp] theorem qal2 (H:Heap)(l:List Nat)(vs:List V):frzVs H (bl l :: vs)=(frzVs H vs).bind fun p=>some (bl l :: p.1,p.2):=rfl
theorem qpj (l:List Nat):qcc 1 (l.map bdg)=true:=by cases l<;>rfl
def SeesB (v:V)(l:List Nat)(H:Heap):Prop:=
 v=bl l\/(v=.nil/\l=[])\/∃b off blk w,v=.ref b 1 off l.length/\H[b]?=some (some ⟨1,blk,true,w⟩)/\off+l.length<=blk.length/\∀i x,l[i]?=some x->blk[off+i]?=some (bdg x)
theorem SeesB.bl {l:List Nat}{H:Heap}:SeesB (Go.Abs.W.bl l) l H:=.inl rfl
theorem SeesB.ref {H:Heap}{b off:Nat}{l:List Nat}{blk:List V}{w:Bool}(h:H[b]?=some (some ⟨1,blk,true,w⟩))(h2:off+l.length<=blk.length)(h3:∀i x,l[i]?=some x->blk[off+i]?=some (bdg x)):SeesB (.ref b 1 off l.length) l H:=.inr (.inr ⟨b,off,blk,w,rfl,h,h2,h3⟩)
theorem SeesB.blk {H:Heap}{b:Nat}{l:List Nat}{w:Bool}(h:H[b]?=some (some ⟨1,l.map bdg,true,w⟩)):SeesB (.ref b 1 0 l.length) l H:=
 .ref h (by simp) (fun i x hi=>by simp[hi])
theorem SeesB.grow {v:V}{l:List Nat}{H:Heap}(h:SeesB v l H)(t:Heap):SeesB v l (H++t):=by
 rcases h with h|h|⟨b,off,blk,w,h1,h2,h3⟩
 ·exact .inl h
 ·exact .inr (.inl h)
 ·exact .inr (.inr ⟨b,off,blk,w,h1,by rw[List.getElem?_append_left (List.getElem?_eq_some_iff.1 h2).1];exact h2,h3⟩)
theorem SeesB.pre {v:V}{l:List Nat}{H H2:Heap}(h:SeesB v l H)(p:H <+: H2):SeesB v l H2:=by
 obtain⟨t,rfl⟩:=p;exact h.grow t
theorem SeesB.elems {v:V}{l:List Nat}{H:Heap}(h:SeesB v l H):Go.Abs.elems H v=some (l.map bdg):=by
 rcases h with h|⟨h,h2⟩|⟨b,off,blk,w,h1,h2,h3,h4⟩
 ·subst h;rfl
 ·subst h;subst h2;rfl
 ·subst h1;simp only[Go.Abs.elems,h2,h3,and_self,if_true]
  congr 1
  apply List.ext_getElem?;intro i;rw[List.getElem?_take,List.getElem?_drop,List.getElem?_map];by_cases hi:i<l.length
  ·rw[if_pos hi,List.getElem?_eq_getElem hi,h4 i l[i] (List.getElem?_eq_getElem hi)];rfl
  ·rw[if_neg hi,List.getElem?_eq_none (by omega)];rfl
def cutV (n:Nat):V->V
 | .sl l=>.sl (l.take n)
 | .ref b z off _=>.ref b z off n
 |v=>v
theorem SeesB.cut {v:V}{l:List Nat}{H:Heap}(h:SeesB v l H){n:Nat}(hn:n<=l.length):SeesB (cutV n v) (l.take n) H:=by
 rcases h with rfl|⟨rfl,rfl⟩|⟨b,off,blk,w,h1,h2,h3,h4⟩
 ·exact .inl (by simp[cutV,Go.Abs.W.bl,List.map_take])
 ·exact .inr (.inl ⟨rfl,by simp⟩)
 ·refine .inr (.inr ⟨b,off,blk,w,by simp[cutV,h1,Nat.min_eq_left hn],h2,by simp;omega,fun i x hi=>?_⟩);rw[List.getElem?_take]at hi;split at hi
  ·exact h4 i x hi
  ·cases hi
theorem qaao {l:List Nat}{t:Nat}(hl:LiB l)(ht:t≠0):bitL (natB (l++[t]))=15*l.length+bitL t:=by
 have h1:=qcf hl;rw[qfw]at h1;obtain⟨h2,h3,h4⟩:=qar ht;rw[qeg,qfw];have e:15*l.length+bitL t=15*l.length+(bitL t-1)+1:=by omega
 rw[e];have hP:=Nat.two_pow_pos (15*l.length);refine qts ?_ ?_ ?_
 ·have:2^(15*l.length)*1<=2^(15*l.length)*t:=Nat.mul_le_mul_left _ (by omega);omega
 ·rw[Nat.pow_add];have:2^(15*l.length)*2^(bitL t-1)<=2^(15*l.length)*t:=Nat.mul_le_mul_left _ h2;omega
 ·rw[<-e,Nat.pow_add];have:2^(15*l.length)*(t+1)<=2^(15*l.length)*2^bitL t:=Nat.mul_le_mul_left _ h3;rw[Nat.mul_add]at this;omega
theorem q5k {l:List Nat}(hl:LiB l)(i s:Nat)(hs:s<15):natB l/2^s/32768^i%32768=(dig l i+32768*dig l (i+1))/2^s%32768:=by
 rw[Nat.div_div_eq_div_mul,Nat.mul_comm,<-Nat.div_div_eq_div_mul,qoc hl,qbs,qbs l (i+1)];have e1:dig l i+32768*(dig l (i+1)+32768*natB (l.drop (i+1+1)))=(dig l i+32768*dig l (i+1))+2^s*(32768*(2^(15-s)*natB (l.drop (i+1+1)))):=by
  have:(32768:Nat)=2^s*2^(15-s):=by rw[<-Nat.pow_add,show s+(15-s)=15 by omega]
  have e:2^s*(32768*(2^(15-s)*natB (l.drop (i+1+1))))=32768*(2^s*2^(15-s))*natB (l.drop (i+1+1)):=by
   rw[Nat.mul_left_comm,<-Nat.mul_assoc (2^s),<-Nat.mul_assoc 32768]
  rw[e,<-this,Nat.mul_add,Nat.mul_assoc];omega
 rw[e1,Nat.add_mul_div_left _ _ (Nat.two_pow_pos s),Nat.add_mul_mod_self_left]
def bn (n:Nat):V:=bl (dgs n)
structure Nm where
 neg:Bool
 n:Nat
 e:Int
 deriving DecidableEq
structure Sp where
 lo:Nm
 hi:Nm
@[simp] def Nm.v (x:Nm):V:=.agg [.bool x.neg,bn x.n,.int .i64 x.e]
@[simp] def Sp.v (x:Sp):V:=.agg [.bool x.lo.neg,bn x.lo.n,.int .i64 x.lo.e,.bool x.hi.neg,bn x.hi.n,.int .i64 x.hi.e,.bool false]
def Nm.zero : Nm:=⟨false,0,0⟩
def Nm.opp (x:Nm):Nm:=⟨!x.neg,x.n,x.e⟩
def Nm.sgn (x:Nm):Int:=if x.n=0 then 0 else if x.neg then -1 else 1
def Nm.at_ (x:Nm)(e:Int):Nat:=x.n*2^(x.e-e).toNat
def Nm.add (a b:Nm):Nm:=
 if a.n=0 then b else if b.n=0 then a else
 if a.neg=b.neg then⟨a.neg,a.at_ (min a.e b.e)+b.at_ (min a.e b.e),min a.e b.e⟩
 else if b.at_ (min a.e b.e)<=a.at_ (min a.e b.e)then⟨a.neg,a.at_ (min a.e b.e)-b.at_ (min a.e b.e),min a.e b.e⟩
 else⟨b.neg,b.at_ (min a.e b.e)-a.at_ (min a.e b.e),min a.e b.e⟩
def Nm.ord (a b:Nm):Int:=(a.add b.opp).sgn
def Nm.whole (n:Int):Nm:=⟨decide (n<0),n.natAbs,0⟩
def Nm.dy (x:Nm):Dy:=Dy.of x.neg x.n x.e
def Dy.nm (d:Dy):Nm:=⟨d.neg,natV d.m,d.e⟩
def Nm.val (x:Nm)(K:Int):Int:=if x.neg then -(x.at_ (-K):Int)else x.at_ (-K)
theorem Nm.at_shift {x:Nm}{e K:Int}(h1:-K<=e)(h2:e<=x.e):x.at_ (-K)=x.at_ e*2^(e+K).toNat:=by
 unfold Nm.at_;rw[Nat.mul_assoc,<-Nat.pow_add]
 congr 2
 omega
theorem Nm.add_val {a b:Nm}{K:Int}(ha:-K<=a.e)(hb:-K<=b.e):(a.add b).val K=a.val K+b.val K/\-K<=(a.add b).e:=by
 unfold Nm.add;by_cases h1:a.n=0
 ·rw[if_pos h1];simp[Nm.val,Nm.at_,h1,hb]
 rw[if_neg h1];by_cases h2:b.n=0
 ·rw[if_pos h2];simp[Nm.val,Nm.at_,h2,ha]
 rw[if_neg h2];have⟨m,hm⟩:∃m,m=min a.e b.e:=⟨_,rfl⟩
 rw[<-hm];have m1:-K<=m:=by omega
 have ea:=Nm.at_shift (x:=a) m1 (by omega);have eb:=Nm.at_shift (x:=b) m1 (by omega);have ec:∀s n,Nm.at_ ⟨s,n,m⟩ (-K)=n*2^(m+K).toNat:=by
  intro s n;unfold Nm.at_;congr 2;simp
 have⟨P,hP⟩:∃P,P=2^(m+K).toNat:=⟨_,rfl⟩
 rw[<-hP]at ea eb ec;generalize a.at_ m=x at *
 generalize b.at_ m=y at *
 by_cases h3:a.neg=b.neg
 ·rw[if_pos h3];refine⟨?_,m1⟩;simp only[Nm.val,ec,ea,eb,h3,Nat.add_mul];split<;>push_cast<;>omega
 ·rw[if_neg h3];by_cases h4:y<=x
  ·rw[if_pos h4];refine⟨?_,m1⟩;have h5:y*P<=x*P:=Nat.mul_le_mul_right _ h4;simp only[Nm.val,ec,ea,eb,Nat.sub_mul];cases hs:a.neg<;>cases ht:b.neg<;>rw[hs,ht]at h3<;>simp at h3 ⊢<;>push_cast [h5]<;>omega
  ·rw[if_neg h4];refine⟨?_,m1⟩;have h5:x*P<=y*P:=Nat.mul_le_mul_right _ (by omega);simp only[Nm.val,ec,ea,eb,Nat.sub_mul];cases hs:a.neg<;>cases ht:b.neg<;>rw[hs,ht]at h3<;>simp at h3 ⊢<;>push_cast [h5]<;>omega
theorem Nm.opp_val {x:Nm}{K:Int}:x.opp.val K=-x.val K:=by
 unfold Nm.val Nm.opp Nm.at_;cases x.neg<;>simp
theorem Nm.sgn_val {x:Nm}{K:Int}:x.sgn=cmpI (x.val K) 0:=by
 unfold Nm.sgn Nm.val cmpI Nm.at_;have hp:=Nat.two_pow_pos (x.e - -K).toNat;by_cases h:x.n=0
 ·simp[h]
 ·have:0<x.n*2^(x.e - -K).toNat:=Nat.mul_pos (by omega) hp;generalize x.n*2^(x.e - -K).toNat=t at *
  rw[if_neg h];cases x.neg<;>simp<;>omega
theorem Nm.ord_val {a b:Nm}{K:Int}(ha:-K<=a.e)(hb:-K<=b.e):a.ord b=cmpI (a.val K) (b.val K):=by
 unfold Nm.ord;rw[Nm.sgn_val (K:=K),(Nm.add_val (b:=b.opp) ha hb).1,Nm.opp_val];generalize a.val K=x;generalize b.val K=y;unfold cmpI;rcases Int.lt_trichotomy x y with h|h|h
 ·rw[if_pos (by omega),if_pos h]
 ·subst h;rw[if_neg (by omega),if_neg (by omega),if_neg (by omega),if_neg (by omega)]
 ·rw[if_neg (by omega),if_pos (by omega),if_neg (by omega),if_pos h]
theorem Dy.val_nm (d:Dy):d.val=d.nm.val 16384:=by
 unfold Dy.val Dy.absN Nm.val Nm.at_ Dy.nm;have:d.e+16384=d.e - -16384:=by omega
 simp only[this]
theorem Nm.ord_self (a:Nm):a.ord a=0:=by
 rw[Nm.ord_val (K:=-a.e) (by omega) (by omega)];simp[cmpI]
def Nm.cut (x:Nm)(more:Bool)(p:Nat)(up:Bool):Nm × Bool:=
 if x.n=0 then(Nm.zero,true)else
 if cutQ x.n x.e more p (x.neg != up)≠0/\(16384:Int)<bitL (cutQ x.n x.e more p (x.neg != up))+(x.e+cutK x.n x.e p)then
  (if x.neg != up then(Nm.zero,false)else(⟨x.neg,2^p-1,16384-p⟩,true))
 else(⟨x.neg,cutQ x.n x.e more p (x.neg != up),x.e+cutK x.n x.e p⟩,true)
def fracK (a b:Nm)(p:Nat):Nat:=p+3+bitL b.n-bitL a.n
def Nm.frac (a b:Nm)(p:Nat):Nm:=⟨a.neg != b.neg,a.n*2^fracK a b p/b.n,a.e-b.e-fracK a b p⟩
def Nm.rest (a b:Nm)(p:Nat):Bool:=decide (a.n*2^fracK a b p%b.n≠0)
theorem qst {a b:Nm}{p:Nat}(ha:a.n≠0)(hb:b.n≠0):p+2<bitL (a.n*2^fracK a b p/b.n):=by
 have h1:=(qar ha).1;have h2:=(qar ha).2.2;have h3:=(qar hb).2.1;have hk:p+3+bitL b.n<=bitL a.n+fracK a b p:=by unfold fracK;omega
 have h4:2^(p+2)*b.n<=a.n*2^fracK a b p:=by
  have:2^(p+2)*2^bitL b.n<=2^(bitL a.n-1)*2^fracK a b p:=by
   rw[<-Nat.pow_add,<-Nat.pow_add];exact Nat.pow_le_pow_right (by omega) (by omega)
  exact Nat.le_trans (Nat.mul_le_mul_left _ (by omega)) (Nat.le_trans this (Nat.mul_le_mul_right _ h1))
 have h5:2^(p+2)<=a.n*2^fracK a b p/b.n:=by rw[Nat.le_div_iff_mul_le (by omega)];exact h4
 have h6:=qd1 h5;have h7:bitL (2^(p+2))=p+2+1:=qts (by have:=Nat.two_pow_pos (p+2);omega) (Nat.le_refl _) (Nat.pow_lt_pow_right (by omega) (by omega));omega
set_option maxRecDepth 20000
structure Fld (H0 H:Heap)(k b:Nat)(a c:V)(l:List V)(v:V):Prop where
 pre:H0 <+: H
 low:H0.length<=b
 bk:b<k
 kl:k<=H.length
 at_:H[b]?=some (some ⟨3,[.agg [a,v,c]],false,true⟩)
 val:(l=[]/\v=.nil)\/∃r blk,k<=r/\v=.ref r 1 0 l.length/\H[r]?=some (some ⟨1,blk,true,true⟩)/\blk.take l.length=l/\l.length<=blk.length
theorem Fld.app {H0 H:Heap}{k b bytes:Nat}{a c v x:V}{l:List V}(h:Fld H0 H k b a c l v)(hx:x.cells.length=1)(hb:(l.length+1)*bytes<=140737488355328) :
 ∃v' H2,qbq 1 bytes v (.ref H.length 1 0 1) (H++[some ⟨1,[x],true,true⟩])=some (v',H2)/\H2[b]?=some (some ⟨3,[.agg [a,v,c]],false,true⟩)/\v'.isTup=false/\v'.cells=[v']/\(∀i,i<k->H2[i]?=H[i]?) /\
  Fld H0 (H2.set b (some ⟨3,[.agg [a,v',c]],false,true⟩)) k b a c (l++[x]) v':=by
 have hbl:b<H.length:=by have:=h.bk;have:=h.kl;omega
 have hk:=h.bk;have hkl:=h.kl;unfold qbq;have hy:elems (H++[some ⟨1,[x],true,true⟩]) (.ref H.length 1 0 1)=some [x]:=by simp[elems]
 have hz:qcc 1 [x]=true:=by simp[qcc,hx]
 rw[hy];simp only[Option.bind_some,hz,if_true];rcases h.val with ⟨h1,h2⟩|⟨r,blk,h1,h2,h3,h4,h5⟩
 ·subst h1;subst h2;have:qaz 1 bytes=true:=by simp[qaz];simpa using hb
  have l1:([x]:List V).length=1:=rfl;simp only[l1,this,if_true];refine⟨_,_,rfl,?_,rfl,rfl,?_,?_⟩
  ·rw[List.getElem?_append_left (by simp;omega),List.getElem?_append_left hbl];exact h.at_
  ·intro i hi;rw[List.getElem?_append_left (by simp;omega),List.getElem?_append_left (by omega)]
  ·refine⟨?_,h.low,hk,by simp;omega,?_,.inr ⟨H.length+1,[x],by omega,by simp,?_,by simp,by simp⟩⟩
   ·exact qa5 (qcx (qcx h.pre)) h.low
   ·rw[List.getElem?_set_self (by simp;omega)]
   ·rw[List.getElem?_set_ne (by omega),List.getElem?_append_right (by simp)];simp
 ·subst h2;have hrb:b≠r:=by omega
  have hrl:r<H.length:=(List.getElem?_eq_some_iff.1 h3).1;have:qaz (l.length+1) bytes=true:=by simp[qaz];simpa using hb
  have l1:([x]:List V).length=1:=rfl;have h3':(H++[some ⟨1,[x],true,true⟩])[r]?=some (some ⟨1,blk,true,true⟩):=by rw[List.getElem?_append_left hrl];exact h3
  have hne:¬([x]:List V)=[]:=by simp
  simp only[h3',hne,if_false,l1,this,Nat.zero_add,h5,and_self,if_true,List.drop_zero,h4];refine⟨_,_,rfl,?_,rfl,rfl,?_,?_⟩
  ·rw[List.getElem?_append_left (by simp;omega),List.getElem?_set_ne (by omega),List.getElem?_append_left hbl];exact h.at_
  ·intro i hi;rw[List.getElem?_append_left (by simp;omega),List.getElem?_set_ne (by omega),List.getElem?_append_left (by omega)]
  ·refine⟨?_,h.low,hk,by simp;omega,?_,.inr ⟨H.length+1,l++[x],by omega,by simp,?_,by rw[List.take_of_length_le];simp,by simp⟩⟩
   ·refine qa5 (qcx (qa5 (qcx h.pre) ?_)) h.low;have:=h.low;omega
   ·rw[List.getElem?_set_self (by simp;omega)]
   ·rw[List.getElem?_set_ne (by omega),List.getElem?_append_right (by simp)];simp
theorem Fld.frz {H0 H:Heap}{k b b6:Nat}{a c v:V}{l:List V}{X:Option Blk}(h:Fld H0 H k b a c l v)(h6:H0.length<=b6)(hk6:b6<k):∃H',frzC (H.set b6 X) v=some (.sl l,H')/\H0 <+: H':=by
 rcases h.val with ⟨h1,h2⟩|⟨r,blk,h1,h2,h3,h4,h5⟩
 ·subst h1;subst h2;exact⟨_,rfl,qa5 h.pre h6⟩
 ·subst h2;refine⟨(H.set b6 X).set r (some ⟨1,blk,true,false⟩),?_,qa5 (qa5 h.pre h6) (by have:=h.low;have:=h.bk;omega)⟩;have:(H.set b6 X)[r]?=some (some ⟨1,blk,true,true⟩):=by rw[List.getElem?_set_ne (by omega)];exact h3
  simp[this,h4,h5]
end Go.Abs.W
namespace Go.Abs.W
theorem shlI (x s:Nat)(hs:s<64)(h:x*2^s<9223372036854775808):qa3 .shl .i64 (x:Int) (s:Int)=some (.int .i64 ((x*2^s:Nat):Int)):=by
 have e1:¬((s:Int)<0):=by omega
 have e2:Nat.min s 64=s:=Nat.min_eq_left (by omega);have e3:(x:Int)*2^s=((x*2^s:Nat):Int):=by simp
 simp only[qa3,if_neg e1,q4r,Int.toNat_natCast,e2,e3];rw[qqd _ h]
theorem shrI (x s:Nat)(hs:s<64):qa3 .shr .i64 (x:Int) (s:Int)=some (.int .i64 ((x/2^s:Nat):Int)):=by
 have e1:¬((s:Int)<0):=by omega
 have e2:Nat.min s 64=s:=Nat.min_eq_left (by omega);have e3:(2:Int)^s=((2^s:Nat):Int):=by simp
 simp only[qa3,if_neg e1,q4r,Int.toNat_natCast,e2,e3,qow]
theorem q6j (a b:Nat)(ha:a<2^62)(hb:b<2^62):bitsI .and .i64 (a:Int) (b:Int)=some (((a &&& b:Nat)):Int):=by
 show some (IntKind.i64.wrap ((BitVec.ofInt 64 (a:Int) &&& BitVec.ofInt 64 (b:Int)).toNat:Int))=_;have h1:a<2^64:=by omega
 have h2:b<2^64:=by omega
 rw[BitVec.toNat_and,qfx,qfx,Nat.mod_eq_of_lt h1,Nat.mod_eq_of_lt h2];have h3:a &&& b<=a:=Nat.and_le_left;rw[qqd _ (by omega)]
theorem maskI (a s:Nat)(ha:a<2^62)(hs:s<=62):bitsI .and .i64 (a:Int) ((2^s-1:Nat):Int)=some ((a%2^s:Nat):Int):=by
 have h:2^s<=2^62:=Nat.pow_le_pow_right (by omega) hs;have h2:=Nat.two_pow_pos s;rw[q6j a _ ha (by omega),Nat.and_two_pow_sub_one_eq_mod]
theorem oneI (a:Nat)(ha:a<2^62):bitsI .and .i64 (a:Int) 1=some ((a%2:Nat):Int):=maskI a 1 ha (by omega)
theorem tmodN (a b:Nat):Int.tmod (a:Int) (b:Int)=((a%b:Nat):Int):=rfl
theorem tdivN (a b:Nat):Int.tdiv (a:Int) (b:Int)=((a/b:Nat):Int):=rfl
theorem tmodB (a:Nat):Int.tmod (a:Int) 32768=((a%32768:Nat):Int):=rfl
theorem tdivB (a:Nat):Int.tdiv (a:Int) 32768=((a/32768:Nat):Int):=rfl
theorem Out.seesB {H0 H:Heap}{v:V}{l:List Nat}(h:Out H0 H v 1 (l.map bdg)):SeesB v l H:=by
 rcases h.val with ⟨h1,h2⟩|⟨b,blk,h1,h2,h3,h4,h5⟩
 ·exact .inr (.inl ⟨h2,by simpa using h1⟩)
 ·rw[List.length_map]at h2 h4 h5;refine .inr (.inr ⟨b,0,blk,true,h2,h3,by omega,fun i x hi=>?_⟩);have hl:=(List.getElem?_eq_some_iff.1 hi).1;have:(blk.take l.length)[i]?=(l.map bdg)[i]?:=by rw[h4]
  rw[List.getElem?_take,if_pos hl,List.getElem?_map,hi]at this;simpa using this
set_option maxHeartbeats 4000000
set_option maxRecDepth 20000
theorem qfb (l:List Nat):l.take (trimL l).length=trimL l:=by
 unfold trimL;rw[List.length_take,Nat.min_eq_left (qvw l _)]
theorem qac5 {H:Heap}{b off len:Nat}{k:Blk}(h:H[b]?=some (some k)):fin true H.length H (.ref b 1 off len)=some (.ref b 1 off len,H):=by
 have hb:=(List.getElem?_eq_some_iff.1 h).1;have h1:¬(H.length<=b):=by omega
 simp only[fin,if_true,ownV,ownC,h,h1,false_and,if_false,hb];simp
theorem qfu {H:Heap}{v:V}{l:List Nat}(h:SeesB v l H)(hl:l.length<=1000000000):Ev prog (.call qmb [v] H) (.ret (cutV (trimL l).length v) H):=by
 have hn:∀n,trimN l n=trimN l l.length->n<=l.length->(n=0\/∃m,n=m+1/\¬l[m]?=some 0)->(trimL l).length=n:=by
  intro n h1 h2 h3;have:trimN l n=n:=by
   rcases h3 with rfl|⟨m,rfl,h3⟩
   ·rfl
   ·rw[trimN,if_neg h3]
  unfold trimL;rw[<-h1,this,List.length_take,Nat.min_eq_left h2]
 refine qej rfl ?_;rcases h with rfl|⟨rfl,rfl⟩|⟨b,off,blk,w,rfl,h2,h3,h4⟩
 ·simp[bl];refine qbu (fun k E H'=>H'=H/\E 0=bl l/\k<=l.length/\E 3=.int .i64 k/\trimN l k=trimN l l.length) l.length ?_ ?_
  ·simp[bl]
  ·rintro n E H' ⟨rfl,g0,hk,g3,ht⟩;refine qa1 ?_;simp only[bl]at g0;rcases n with _|n
   ·rw[hn 0 ht (by omega) (.inl rfl)];simp[qb5,g0,g3,fin,ownV,ownC,cutV]
   ·have e1:IntKind.i64.wrap (n:Int)=n:=by rw[wrap_i64]<;>omega
    have hlt:n<l.length:=by omega
    have p1:(0:Int)<=(n:Int)+1:=by omega
    have p2:(0:Int)<(n:Int)+1:=by omega
    by_cases hx:l[n]=0
    ·simp[qb5,g0,g3,e1,hlt,hx,bdg,p2];refine⟨n,by omega,rfl,by omega,rfl,?_⟩;rw[<-ht,trimN,if_pos (by rw[List.getElem?_eq_getElem hlt,hx])]
    ·rw[hn (n+1) ht (by omega) (.inr ⟨n,rfl,by rw[List.getElem?_eq_getElem hlt];simpa using hx⟩)];simp[qb5,g0,g3,e1,hlt,hx,bdg,p1,p2,hk,fin,ownV,ownC,cutV]
 ·simp;refine qbu (fun k E H'=>H'=H/\E 0=.nil/\k=0/\E 3=.int .i64 0) 0 ?_ ?_
  ·simp
  ·rintro n E H' ⟨rfl,g0,rfl,g3⟩;refine qa1 ?_;simp[qb5,g0,g3,fin,ownV,ownC,cutV]
 ·have hf:∀n,fin true H.length H (.ref b 1 off n)=some (.ref b 1 off n,H):=fun n=>qac5 h2
  simp;refine qbu (fun k E H'=>H'=H/\E 0=.ref b 1 off l.length/\k<=l.length/\E 3=.int .i64 k/\trimN l k=trimN l l.length) l.length ?_ ?_
  ·simp
  ·rintro n E H' ⟨rfl,g0,hk,g3,ht⟩;refine qa1 ?_;rcases n with _|n
   ·rw[hn 0 ht (by omega) (.inl rfl)];simp[qb5,g0,g3,cutV,hf]
   ·have e1:IntKind.i64.wrap (n:Int)=n:=by rw[wrap_i64]<;>omega
    have hlt:n<l.length:=by omega
    have p1:(0:Int)<=(n:Int)+1:=by omega
    have p2:(0:Int)<(n:Int)+1:=by omega
    have hd:=h4 n l[n] (List.getElem?_eq_getElem hlt);by_cases hx:l[n]=0
    ·rw[hx]at hd;simp[qb5,g0,g3,e1,hlt,hd,h2,bdg,p2];refine⟨n,by omega,by omega,rfl,?_⟩;rw[<-ht,trimN,if_pos (by rw[List.getElem?_eq_getElem hlt,hx])]
    ·rw[hn (n+1) ht (by omega) (.inr ⟨n,rfl,by rw[List.getElem?_eq_getElem hlt];simpa using hx⟩)];simp[qb5,g0,g3,e1,hlt,hd,hx,h2,bdg,p1,p2,hk,cutV,hf]
theorem qr0 {a b:List Nat}(ha:LiB a){k:Nat}(hd:natB (a.drop (k+1))=natB (b.drop (k+1)))(h:dig a k<dig b k):natB a<natB b:=by
 rw[qcv a k,qcv b k,qbs,qbs b,hd];have h1:=qcf (ha.take k);have h0:32768^(a.take k).length<=32768^k:=qjw;have h2:32768^k*(dig a k+32768*natB (b.drop (k+1)))+32768^k<=32768^k*(dig b k+32768*natB (b.drop (k+1))):=by
  rw[<-Nat.mul_succ];exact Nat.mul_le_mul_left _ (by omega)
 omega
def cmpB (a b:List Nat):Nat->Int
 |0=>0
 |k+1=>if dig a k=dig b k then cmpB a b k else(dig a k:Int)-dig b k
def cmpD (a b:List Nat):Int:=if a.length=b.length then cmpB a b b.length else(a.length:Int)-b.length
theorem q4i {a b:List Nat}(la:LiB a)(lb:LiB b):∀k,natB (a.drop k)=natB (b.drop k)->(cmpB a b k<0↔natB a<natB b)/\(cmpB a b k=0↔natB a=natB b)
 |0,h=>by simp at h;simp[cmpB,h]
 |k+1,h=>by
  unfold cmpB;by_cases hd:dig a k=dig b k
  ·rw[if_pos hd];exact q4i la lb k (by rw[qbs,qbs b,h,hd])
  ·rw[if_neg hd];rcases Nat.lt_or_ge (dig a k) (dig b k)with h1|h1
   ·have:=qr0 la h h1;omega
   ·have:=qr0 lb h.symm (by omega);omega
theorem q4g {a b:List Nat}(la:LiB a)(lb:LiB b)(ta:Trim a)(tb:Trim b):(cmpD a b<0↔natB a<natB b)/\(cmpD a b=0↔natB a=natB b):=by
 unfold cmpD;by_cases h:a.length=b.length
 ·rw[if_pos h];exact q4i la lb _ (by rw[List.drop_of_length_le (by omega),List.drop_of_length_le (by omega)])
 ·rw[if_neg h];rcases Nat.lt_or_ge a.length b.length with h2|h2
  ·have:=qim la tb h2;omega
  ·have:=qim lb ta (by omega);omega
theorem qn1 {H:Heap}{va vb:V}{a b:List Nat}(sa:SeesB va a H)(sb:SeesB vb b H)(na:va≠.nil)(nb:vb≠.nil)(la:LiB a)(lb:LiB b)(ha:a.length<=1000000000)(hb:b.length<=1000000000) :
 Ev prog (.call qor [va,vb] H) (.ret (.int .i64 (cmpD a b)) H):=by
 have e1:IntKind.i64.wrap ((a.length:Int)-b.length)=(a.length:Int)-b.length:=by rw[wrap_i64]<;>omega
 have e0:IntKind.i64.wrap ((b.length:Int)-1)=(b.length:Int)-1:=by rw[wrap_i64]<;>omega
 refine qej rfl ?_;by_cases hlt:a.length=b.length
 case neg=>
  have h1:¬((a.length:Int)=b.length):=by omega
  simp only[cmpD,hlt,if_false];rcases sa with rfl|⟨rfl,rfl⟩|⟨ba,oa,ka,wa,rfl,_⟩<;>rcases sb with rfl|⟨rfl,rfl⟩|⟨bb,ob,kb,wb,rfl,_⟩<;>first|exact absurd rfl na|exact absurd rfl nb|simp[bl,h1,e1]
 case pos=>
  have go:∀E:Env,E 0=va->E 1=vb->E 5=.int .i64 ((b.length:Int)-1)->WK prog H.length (.loop qa0) [.blk 0,.seq (.seq (.region false [⟨some 4,.mv (.c (.int .i64 0)),none,false⟩]) .ret)] E H
   (fun x E1 H1=>(x=.normal\/x=.ret)/\fin false H.length H1 (E1 4)=some (.int .i64 (cmpB a b b.length),H)):=by
   intro E g0 g1 g5;refine qbu (fun k E H'=>H'=H/\E 0=va/\E 1=vb/\k<=b.length/\E 5=.int .i64 ((k:Int)-1)/\cmpB a b k=cmpB a b b.length) b.length ?_ ?_
   ·exact⟨rfl,g0,g1,Nat.le_refl _,g5,rfl⟩
   ·rintro k E H' ⟨rfl,h0,h1,hk,h5,hd⟩;refine qa1 ?_;rcases k with _|k
    ·have h7:¬((0:Int)<=-1):=by omega
     simp[qa0,h5,<-hd,cmpB]
    ·have e2:(k+1:Int)-1=k:=by omega
     have p1:(0:Int)<=k:=by omega
     have e3:IntKind.i64.wrap ((k:Int)-1)=(k:Int)-1:=by rw[wrap_i64]<;>omega
     have la1:k<a.length:=by omega
     have lb1:k<b.length:=by omega
     have xa:=qld la k;have xb:=qld lb k;rw[cmpB,qak la1,qak lb1]at hd;rw[qak la1]at xa;rw[qak lb1]at xb;have e4:IntKind.i64.wrap ((a[k]:Int)-b[k])=(a[k]:Int)-b[k]:=by rw[wrap_i64]<;>omega
     have ya:=List.getElem?_eq_getElem la1;have yb:=List.getElem?_eq_getElem lb1;simp only[Int.natCast_add,Int.natCast_one,e2]at h5;have⟨x,hx⟩:∃x,x=a[k]:=⟨_,rfl⟩
     have⟨y,hy⟩:∃y,y=b[k]:=⟨_,rfl⟩
     rw[<-hx,<-hy]at hd e4;by_cases hab:x=y
     ·rw[if_pos hab]at hd;rcases sa with rfl|⟨rfl,rfl⟩|⟨ba,oa,ka,wa,rfl,sa2,sa3,sa4⟩<;>rcases sb with rfl|⟨rfl,rfl⟩|⟨bb,ob,kb,wb,rfl,sb2,sb3,sb4⟩
      ·simp[qa0,h0,h1,h5,p1,la1,lb1,bl,bdg,<-hx,<-hy,hab,e3];exact⟨k,by omega,by omega,rfl,hd⟩
      ·simp at lb1
      ·have zb:=sb4 _ _ yb;simp[qa0,h0,h1,h5,p1,la1,lb1,bl,bdg,<-hx,<-hy,hab,e3,sb2,zb];exact⟨k,by omega,by omega,rfl,hd⟩
      ·simp at la1
      ·simp at la1
      ·simp at la1
      ·have za:=sa4 _ _ ya;simp[qa0,h0,h1,h5,p1,lb1,la1,bl,bdg,<-hx,<-hy,hab,e3,sa2,za];exact⟨k,by omega,by omega,rfl,hd⟩
      ·simp at lb1
      ·have za:=sa4 _ _ ya;have zb:=sb4 _ _ yb;simp[qa0,h0,h1,h5,p1,la1,lb1,bdg,<-hx,<-hy,hab,e3,sa2,za,sb2,zb];exact⟨k,by omega,by omega,rfl,hd⟩
     ·rw[if_neg hab]at hd;have hab':¬((x:Int)=y):=by omega
      rw[<-hd];rcases sa with rfl|⟨rfl,rfl⟩|⟨ba,oa,ka,wa,rfl,sa2,sa3,sa4⟩<;>rcases sb with rfl|⟨rfl,rfl⟩|⟨bb,ob,kb,wb,rfl,sb2,sb3,sb4⟩
      ·simp[qa0,h0,h1,h5,p1,la1,lb1,bl,bdg,<-hx,<-hy,hab',e4]
      ·simp at lb1
      ·have zb:=sb4 _ _ yb;simp[qa0,h0,h1,h5,p1,la1,lb1,bl,bdg,<-hx,<-hy,hab',e4,sb2,zb]
      ·simp at la1
      ·simp at la1
      ·simp at la1
      ·have za:=sa4 _ _ ya;simp[qa0,h0,h1,h5,p1,lb1,la1,bl,bdg,<-hx,<-hy,hab',e4,sa2,za]
      ·simp at lb1
      ·have za:=sa4 _ _ ya;have zb:=sb4 _ _ yb;simp[qa0,h0,h1,h5,p1,la1,lb1,bdg,<-hx,<-hy,hab',e4,sa2,za,sb2,zb]
  simp only[cmpD,hlt,if_true];rcases sa with rfl|⟨rfl,rfl⟩|⟨ba,oa,ka,wa,rfl,_⟩<;>rcases sb with rfl|⟨rfl,rfl⟩|⟨bb,ob,kb,wb,rfl,_⟩<;>first|exact absurd rfl na|exact absurd rfl nb| (simp[bl,hlt,e0];exact go _ (by simp[bl,hlt]) (by simp[bl]) (by simp))
theorem q2l (x y:Nat)(hx:(dgs x).length<=1000000000)(hy:(dgs y).length<=1000000000):CQ prog qor [bn x,bn y] (.int .i64 (cmpD (dgs x) (dgs y))):=
 fun _=>qn1 .bl .bl (by simp[bn,bl]) (by simp[bn,bl]) (qa9 x) (qa9 y) hx hy
theorem q4h (x y:Nat):(cmpD (dgs x) (dgs y)<0↔x<y)/\(cmpD (dgs x) (dgs y)=0↔x=y):=by
 have:=q4g (qa9 x) (qa9 y) (qfo x) (qfo y);rwa[qay,qay]at this
theorem qig (n:Nat)(hn:(dgs n).length<=1000000):CQ prog qzh [bn n] (.int .i64 (bitL n)):=by
 have ll:=qa9 n;have tl:=qfo n;have vl:=qay n;unfold bn;generalize dgs n=l at *
 subst vl;refine qaf rfl fun H=>?_
 rcases List.eq_nil_or_concat l with rfl|⟨k,t,rfl⟩
 ·simp[bl,natB,qaw]
 ·rw[List.concat_eq_append]at *
  have ht:t≠0:=tl t (by simp);have lt2:=ll t (by simp);rw[qaao (fun x hx=>ll x (by simp[hx])) ht];simp only[List.length_append,List.length_singleton]at hn;have e0:¬((k.length:Int)+1=0):=by omega
  have e1:IntKind.i64.wrap (k.length:Int)=k.length:=by rw[wrap_i64]<;>omega
  have e2:IntKind.i64.wrap (15*(k.length:Int))=((15*k.length:Nat):Int):=by rw[wrap_i64]<;>omega
  simp[bl,e0,e1,e2];refine qbu (fun x E H'=>H'=H/\x<32768/\E 4=.int .i64 x/\∃n:Nat,E 3=.int .i64 n/\n+bitL x=15*k.length+bitL t) t ?_ ?_
  ·simp[bdg,lt2]
  ·rintro x E H' ⟨rfl,hx,h4,n,h3,hnx⟩;refine qa1 ?_;by_cases h0:x=0
   ·subst h0;rw[qaw]at hnx;simp[qh2,h3,h4];omega
   ·have hp:(0:Int)<x:=by omega
    have hb:=q0i h0;have hb2:=qax (n:=x) (b:=15) (by omega);have t1:qa3 .shr .i64 (x:Int) 1=some (.int .i64 ((x/2:Nat):Int)):=shrI x 1 (by omega);have hb3:=qax (n:=t) (b:=15) (by omega);have w1:IntKind.i64.wrap ((n:Int)+1)=((n+1:Nat):Int):=by rw[wrap_i64]<;>omega
    have⟨y,hy⟩:∃y,y=x/2:=⟨_,rfl⟩
    rw[<-hy]at t1 hb;simp[qh2,h3,h4,t1,w1,h0];exact fun _=>⟨y,by omega,by omega,rfl,n+1,rfl,by omega⟩
end Go.Abs.W
namespace Go.Abs.W
set_option maxRecDepth 20000
theorem Out.cut {H0 H:Heap}{v:V}{z:Nat}{l:List V}(h:Out H0 H v z l){k:Nat}(hk:k<=l.length):Out H0 H (cutV k v) z (l.take k):=by
 refine⟨h.pre,?_⟩;rcases h.val with ⟨h1,h2⟩|⟨b,blk,h1,h2,h3,h4,h5⟩
 ·subst h1;subst h2;exact .inl ⟨by simp,rfl⟩
 ·refine .inr ⟨b,blk,h1,by rw[h2,List.length_take,Nat.min_eq_left hk];rfl,h3,?_,by simp;omega⟩;rw[List.length_take,Nat.min_eq_left hk,<-h4,List.take_take,Nat.min_eq_left hk]
theorem Out.oneB {H0 H:Heap}{v:V}{l:List Nat}(h:Out H0 H v 1 (l.map bdg))(x:Nat)(hb:l.length+1<=1000000000) :
 ∃v' H',qbq 1 8 v (.ref H.length 1 0 1) (H++[some ⟨1,[.int .i64 (x:Int)],true,true⟩])=some (v',H')/\Out H0 H' v' 1 ((l++[x]).map bdg):=by
 have:=(h.grow [some ⟨1,[bdg x],true,true⟩]).app (y:=.ref H.length 1 0 1) (ys:=[bdg x]) (bytes:=8) (by simp) (by simp[qcc]) (by simp) (by simp;omega);simpa[bdg]using this
theorem qdt (H:Heap)(v:V):prep prog qmb H [v]=some ([v],H):=rfl
theorem Out.trim {H0 H:Heap}{v:V}{l:List Nat}(h:Out H0 H v 1 (l.map bdg))(ll:LiB l)(hl:l.length<=1000000000) :
 Ev prog (.call qmb [v] H) (.ret (cutV (trimL l).length v) H)/\Out H0 H (cutV (trimL l).length v) 1 ((dgs (natB l)).map bdg):=by
 refine⟨qfu h.seesB hl,?_⟩;have hk:(trimL l).length<=(l.map bdg).length:=by
  rw[List.length_map];unfold trimL;rw[List.length_take];omega
 have:=h.cut hk;rw[<-List.map_take,qfb]at this;rw[<-qbp ll];exact this
theorem getP2 {H H':Heap}{b:Nat}{x:Option Blk}(hp:H <+: H')(hb:H[b]?=some x):H'[b]?=some x:=by
 obtain⟨G,rfl⟩:=hp;rw[List.getElem?_append_left (List.getElem?_eq_some_iff.1 hb).1];exact hb
set_option maxHeartbeats 4000000 in
theorem q4p {H:Heap}{va vb:V}{a b:List Nat}(sa:SeesB va a H)(sb:SeesB vb b H)(nna:va≠.nil)(nnb:vb≠.nil)(la:LiB a)(lb:LiB b)(hx:a.length<=1000000)(hy:b.length<=1000000) :
 Ev prog (.call q51 [va,vb] H) (.ret (bn (natB a+natB b)) H):=by
 refine qej rfl ?_;have⟨n,hn⟩:∃n,n=max a.length b.length:=⟨_,rfl⟩
 simp;refine WK_up (fun i E H'=>E 0=va/\E 1=vb/\E 7=.int .i64 i/\∃c o,c<=1/\(n<i->c=0)/\E 6=.int .i64 (c:Nat)/\Out H H' (E 5) 1 (o.map bdg)/\o.length=i/\LiB o/\natB o+32768^i*c=natB (a.take i)+natB (b.take i)) (n+1) ?_ ?_
 ·exact⟨by simp,by simp,by simp,0,[],by omega,by simp,by simp,by simpa using Out.nil,rfl,by intro x hx;simp at hx,by simp[natB]⟩
 ·rintro i E H' hi ⟨h0,h1,h7,c,o,hc,hc0,h6,h5,ho,lo,hv⟩;have f1:IntKind.i64.wrap ((i:Int)+1)=((i+1:Nat):Int):=by rw[wrap_i64]<;>omega
  have da:=qld la i;have db:=qld lb i;have st:=q7e (x:=dig a i) (y:=dig b i) hv;rw[<-qa6,<-qa6,<-Nat.pow_succ]at st;by_cases hgo:i<a.length\/i<b.length\/0<c
  ·have fin':∀s,dig a i+dig b i+c=s->∃v' H'',qbq 1 8 (E 5) (.ref H'.length 1 0 1) (H'++[some ⟨1,[.int .i64 ((s%32768:Nat):Int)],true,true⟩])=some (v',H'') /\
    ∃c2 o2,c2<=1/\(n<i+1->c2=0)/\s/32768=c2/\Out H H'' v' 1 (o2.map bdg)/\o2.length=i+1/\LiB o2/\natB o2+32768^(i+1)*c2=natB (a.take (i+1))+natB (b.take (i+1)):=by
    intro s hs;obtain⟨v',H'',e',ho'⟩:=h5.oneB (s%32768) (by omega);refine⟨v',H'',e',s/32768,o++[s%32768],by omega,fun h=>?_,rfl,ho',by simp[ho],lo.append (by intro y hy;simp at hy;omega),?_⟩
    ·rw[qcy (by omega),qcy (by omega)]at hs;omega
    ·rw[qeg,ho,<-hs];exact st
   rcases Nat.lt_or_ge i a.length with ha|ha
   ·rw[qak ha]at da fin';have ya:=List.getElem?_eq_getElem ha;have⟨x,hx⟩:∃x,x=a[i]:=⟨_,rfl⟩
    rw[<-hx]at da fin' ya;rcases Nat.lt_or_ge i b.length with hb|hb
    ·rw[qak hb]at db fin';have yb:=List.getElem?_eq_getElem hb;have⟨y,hy⟩:∃y,y=b[i]:=⟨_,rfl⟩
     rw[<-hy]at db fin' yb;obtain⟨v',H'',e',c2,o2,g1,g2,g3,g4⟩:=fin' (x+y+c) rfl;have w1:IntKind.i64.wrap ((c:Int)+x)=((c+x:Nat):Int):=by rw[wrap_i64]<;>omega
     have w2:IntKind.i64.wrap ((c:Int)+x+y)=((x+y+c:Nat):Int):=by rw[wrap_i64]<;>omega
     have⟨s,hs⟩:∃s,s=x+y+c:=⟨_,rfl⟩
     rw[<-hs]at w2 e' g3;have w3:=tmodB s;have w4:=tdivB s;rw[g3]at w4;have⟨t,ht⟩:∃t,t=s%32768:=⟨_,rfl⟩
     rw[<-ht]at w3 e';have w5:IntKind.i64.wrap (c2:Int)=c2:=by rw[wrap_i64]<;>omega
     simp only[Int.natCast_add]at w1;rcases sa with rfl|⟨rfl,rfl⟩|⟨ba,oa,ka,wa,rfl,sa2,sa3,sa4⟩<;>rcases sb with rfl|⟨rfl,rfl⟩|⟨bb,ob,kb,wb,rfl,sb2,sb3,sb4⟩
     ·simp[qam,h0,h1,h6,h7,bl,<-hx,<-hy,bdg,ha,hb,w1,w2,w3,w4,w5,e',f1];exact⟨by omega,c2,g1,g2,rfl,o2,g4⟩
     ·exact absurd rfl nnb
     ·have zb:=sb4 _ _ yb;have sb2':=getP2 h5.pre sb2;simp[qam,h0,h1,h6,h7,bl,<-hx,sb2',zb,bdg,ha,hb,w1,w2,w3,w4,w5,e',f1];exact⟨by omega,c2,g1,g2,rfl,o2,g4⟩
     ·exact absurd rfl nna
     ·exact absurd rfl nna
     ·exact absurd rfl nna
     ·have za:=sa4 _ _ ya;have sa2':=getP2 h5.pre sa2;simp[qam,h0,h1,h6,h7,sa2',za,bl,<-hy,bdg,ha,hb,w1,w2,w3,w4,w5,e',f1];exact⟨by omega,c2,g1,g2,rfl,o2,g4⟩
     ·exact absurd rfl nnb
     ·have za:=sa4 _ _ ya;have sa2':=getP2 h5.pre sa2;have zb:=sb4 _ _ yb;have sb2':=getP2 h5.pre sb2;simp[qam,h0,h1,h6,h7,sa2',za,sb2',zb,bdg,ha,hb,w1,w2,w3,w4,w5,e',f1];exact⟨by omega,c2,g1,g2,rfl,o2,g4⟩
    ·rw[qcy hb]at db fin';have nb:¬i<b.length:=by omega
     obtain⟨v',H'',e',c2,o2,g1,g2,g3,g4⟩:=fin' (x+0+c) rfl;have w2:IntKind.i64.wrap ((c:Int)+x)=((x+0+c:Nat):Int):=by rw[wrap_i64]<;>omega
     have⟨s,hs⟩:∃s,s=x+0+c:=⟨_,rfl⟩
     rw[<-hs]at w2 e' g3;have w3:=tmodB s;have w4:=tdivB s;rw[g3]at w4;have⟨t,ht⟩:∃t,t=s%32768:=⟨_,rfl⟩
     rw[<-ht]at w3 e';have w5:IntKind.i64.wrap (c2:Int)=c2:=by rw[wrap_i64]<;>omega
     rcases sa with rfl|⟨rfl,rfl⟩|⟨ba,oa,ka,wa,rfl,sa2,sa3,sa4⟩<;>rcases sb with rfl|⟨rfl,rfl⟩|⟨bb,ob,kb,wb,rfl,sb2,sb3,sb4⟩
     ·simp[qam,h0,h1,h6,h7,bl,<-hx,bdg,ha,nb,w2,w3,w4,w5,e',f1];exact⟨by omega,c2,g1,g2,rfl,o2,g4⟩
     ·exact absurd rfl nnb
     ·simp[qam,h0,h1,h6,h7,bl,<-hx,bdg,ha,nb,w2,w3,w4,w5,e',f1];exact⟨by omega,c2,g1,g2,rfl,o2,g4⟩
     ·exact absurd rfl nna
     ·exact absurd rfl nna
     ·exact absurd rfl nna
     ·have za:=sa4 _ _ ya;have sa2':=getP2 h5.pre sa2;simp[qam,h0,h1,h6,h7,sa2',za,bl,bdg,ha,nb,w2,w3,w4,w5,e',f1];exact⟨by omega,c2,g1,g2,rfl,o2,g4⟩
     ·exact absurd rfl nnb
     ·have za:=sa4 _ _ ya;have sa2':=getP2 h5.pre sa2;simp[qam,h0,h1,h6,h7,sa2',za,bdg,ha,nb,w2,w3,w4,w5,e',f1];exact⟨by omega,c2,g1,g2,rfl,o2,g4⟩
   ·have na:¬i<a.length:=by omega
    rw[qcy ha]at da fin';rcases Nat.lt_or_ge i b.length with hb|hb
    ·rw[qak hb]at db fin';have yb:=List.getElem?_eq_getElem hb;have⟨y,hy⟩:∃y,y=b[i]:=⟨_,rfl⟩
     rw[<-hy]at db fin' yb;obtain⟨v',H'',e',c2,o2,g1,g2,g3,g4⟩:=fin' (0+y+c) rfl;have w2:IntKind.i64.wrap ((c:Int)+y)=((0+y+c:Nat):Int):=by rw[wrap_i64]<;>omega
     have⟨s,hs⟩:∃s,s=0+y+c:=⟨_,rfl⟩
     rw[<-hs]at w2 e' g3;have w3:=tmodB s;have w4:=tdivB s;rw[g3]at w4;have⟨t,ht⟩:∃t,t=s%32768:=⟨_,rfl⟩
     rw[<-ht]at w3 e';have w5:IntKind.i64.wrap (c2:Int)=c2:=by rw[wrap_i64]<;>omega
     rcases sa with rfl|⟨rfl,rfl⟩|⟨ba,oa,ka,wa,rfl,sa2,sa3,sa4⟩<;>rcases sb with rfl|⟨rfl,rfl⟩|⟨bb,ob,kb,wb,rfl,sb2,sb3,sb4⟩
     ·simp[qam,h0,h1,h6,h7,bl,<-hy,bdg,na,hb,w2,w3,w4,w5,e',f1];exact⟨by omega,c2,g1,g2,rfl,o2,g4⟩
     ·exact absurd rfl nnb
     ·have zb:=sb4 _ _ yb;have sb2':=getP2 h5.pre sb2;simp[qam,h0,h1,h6,h7,bl,sb2',zb,bdg,na,hb,w2,w3,w4,w5,e',f1];exact⟨by omega,c2,g1,g2,rfl,o2,g4⟩
     ·exact absurd rfl nna
     ·exact absurd rfl nna
     ·exact absurd rfl nna
     ·simp[qam,h0,h1,h6,h7,bl,<-hy,bdg,na,hb,w2,w3,w4,w5,e',f1];exact⟨by omega,c2,g1,g2,rfl,o2,g4⟩
     ·exact absurd rfl nnb
     ·have zb:=sb4 _ _ yb;have sb2':=getP2 h5.pre sb2;simp[qam,h0,h1,h6,h7,sb2',zb,bdg,na,hb,w2,w3,w4,w5,e',f1];exact⟨by omega,c2,g1,g2,rfl,o2,g4⟩
    ·have nb:¬i<b.length:=by omega
     rw[qcy hb]at db fin';have hc1:0<c:=by omega
     obtain⟨v',H'',e',c2,o2,g1,g2,g3,g4⟩:=fin' (0+0+c) rfl;have w2:(c:Int)=((0+0+c:Nat):Int):=by omega
     rw[w2]at h6;have⟨s,hs⟩:∃s,s=0+0+c:=⟨_,rfl⟩
     rw[<-hs]at h6 e' g3;have w3:=tmodB s;have w4:=tdivB s;rw[g3]at w4;have⟨t,ht⟩:∃t,t=s%32768:=⟨_,rfl⟩
     rw[<-ht]at w3 e';have w5:IntKind.i64.wrap (c2:Int)=c2:=by rw[wrap_i64]<;>omega
     have hs1:0<s:=by omega
     have hs2:¬s=0:=by omega
     rcases sa with rfl|⟨rfl,rfl⟩|⟨ba,oa,ka,wa,rfl,sa2,sa3,sa4⟩<;>rcases sb with rfl|⟨rfl,rfl⟩|⟨bb,ob,kb,wb,rfl,sb2,sb3,sb4⟩
     ·simp[qam,h0,h1,h6,h7,bl,hs1,na,nb,w3,w4,w5,e',f1];exact⟨by omega,c2,g1,g2,rfl,o2,g4⟩
     ·exact absurd rfl nnb
     ·simp[qam,h0,h1,h6,h7,bl,hs1,na,nb,w3,w4,w5,e',f1];exact⟨by omega,c2,g1,g2,rfl,o2,g4⟩
     ·exact absurd rfl nna
     ·exact absurd rfl nna
     ·exact absurd rfl nna
     ·simp[qam,h0,h1,h6,h7,bl,hs1,na,nb,w3,w4,w5,e',f1];exact⟨by omega,c2,g1,g2,rfl,o2,g4⟩
     ·exact absurd rfl nnb
     ·simp[qam,h0,h1,h6,h7,hs1,na,nb,w3,w4,w5,e',f1];exact⟨by omega,c2,g1,g2,rfl,o2,g4⟩
  ·have na:¬i<a.length:=by omega
   have nb:¬i<b.length:=by omega
   have hc1:c=0:=by omega
   subst hc1;rw[List.take_of_length_le (by omega),List.take_of_length_le (by omega),Nat.mul_zero,Nat.add_zero]at hv;obtain⟨t1,t2⟩:=h5.trim lo (by omega);rw[hv]at t2;rcases sa with rfl|⟨rfl,rfl⟩|⟨ba,oa,ka,wa,rfl,sa2,sa3,sa4⟩<;>rcases sb with rfl|⟨rfl,rfl⟩|⟨bb,ob,kb,wb,rfl,sb2,sb3,sb4⟩
   ·simp[qam,h0,h1,h6,h7,bl,na,nb];refine WL_ev rfl rfl (qdt H' (E 5)) t1 ?_;simp[bn,bl,t2.fin (List.prefix_refl H)]
   ·exact absurd rfl nnb
   ·simp[qam,h0,h1,h6,h7,bl,na,nb];refine WL_ev rfl rfl (qdt H' (E 5)) t1 ?_;simp[bn,bl,t2.fin (List.prefix_refl H)]
   ·exact absurd rfl nna
   ·exact absurd rfl nna
   ·exact absurd rfl nna
   ·simp[qam,h0,h1,h6,h7,bl,na,nb];refine WL_ev rfl rfl (qdt H' (E 5)) t1 ?_;simp[bn,bl,t2.fin (List.prefix_refl H)]
   ·exact absurd rfl nnb
   ·simp[qam,h0,h1,h6,h7,na,nb];refine WL_ev rfl rfl (qdt H' (E 5)) t1 ?_;simp[bn,bl,t2.fin (List.prefix_refl H)]
end Go.Abs.W
namespace Go.Abs.W
set_option maxHeartbeats 4000000
set_option maxRecDepth 20000
theorem qabc {H:Heap}{g:Nat}{caps:List V}{p:Nat->Bool}(l:List Nat)(hl:l.length<=9223372036854775807)(h:∀x ∈ l,Cb H g caps [bdg x] (.bool (p x))) :
 Ev prog (.call qk2 [bl l,.fn g caps] H) (.ret (idxV (l.findIdx? p)) H):=by
 refine qej rfl ?_;simp[bl];refine WK_up (fun i E H'=>H'=H/\E 0=bl l/\E 1=.fn g caps/\E 7=.int .i64 l.length/\E 8=.int .i64 i/\(∀j x,j<i->l[j]?=some x->p x=false)) l.length ?_ ?_
 ·simp[bl]
 ·rintro i E H' hi ⟨rfl,h0,h1,h7,h8,hp⟩;simp only[bl]at h0 ⊢;rcases Nat.lt_or_ge i l.length with hlt|hge
  ·have e2:IntKind.i64.wrap ((i:Int)+1)=((i+1:Nat):Int):=by rw[wrap_i64]<;>omega
   simp[qb9,h7,h8,h0,h1,hlt];refine WL_cb (h l[i] (List.getElem_mem hlt)) (List.prefix_refl _) rfl rfl ?_;simp[h0,h1,h7,h8,e2];refine⟨fun hpx=>?_,fun hpx=>?_⟩
   ·rw[show l.findIdx? p=some i from ?_]
    ·simp[idxV]
    ·rw[List.findIdx?_eq_some_iff_getElem];refine⟨hlt,hpx,?_⟩
     ·intro j hj;have:=hp j l[j] hj (List.getElem?_eq_getElem _);simp[this]
   ·intro j y hj hy;rcases Nat.lt_or_ge j i with hji|hji
    ·exact hp j y hji hy
    ·have:j=i:=by omega
     subst this;rw[List.getElem?_eq_getElem hlt]at hy;injection hy with hy;rw[<-hy];exact hpx
  ·have hin:i=l.length:=by omega
   subst hin;have e1:l.findIdx? p=none:=by
    simp only[List.findIdx?_eq_none_iff];intro x hx;obtain⟨j,hj,rfl⟩:=List.getElem_of_mem hx;exact hp j _ hj (List.getElem?_eq_getElem _)
   simp[qb9,h7,h8,e1,idxV]
theorem q0u {H:Heap}{g:Nat}{caps:List V}{p:Nat->Bool}(l:List Nat)(hl:l.length<=9223372036854775807)(h:∀x ∈ l,Cb H g caps [bdg x] (.bool (p x))) :
 Ev prog (.call qin [bl l,.fn g caps] H) (.ret (.bool (l.any p)) H):=by
 refine qej rfl ?_;simp[bl];refine WL_ev rfl rfl rfl (qabc l hl h) ?_;rcases hq:l.findIdx? p with _|i
 ·have e1:l.any p=false:=by simpa[List.findIdx?_eq_none_iff]using hq
  simp[idxV,e1]
 ·have e1:l.any p=true:=by
   rw[List.findIdx?_eq_some_iff_getElem]at hq;obtain⟨h1,h2,_⟩:=hq;exact List.any_eq_true.2 ⟨_,List.getElem_mem h1,h2⟩
  simp[idxV,e1]
theorem Out.finOwn {H H':Heap}{v:V}{l:List V}(h:Out H H' v 1 l)(hn:l≠[]):Go.Abs.fin true H.length H' v=some (.ref H.length 1 0 l.length,H++[some ⟨1,l,true,true⟩]):=by
 rcases h.val with ⟨h1,_⟩|⟨b,blk,h1,h2,h3,h4,h5⟩
 ·exact absurd h1 hn
 ·subst h2;have hp:(H'.set b none).take H.length=H:=qbe (qa5 h.pre h1);have e:b<H'.length:=(List.getElem?_eq_some_iff.1 h3).1;simp only[Go.Abs.fin,if_true,ownV,ownC,h3];have hb:0+l.length<=blk.length:=by omega
  simp only[h1,hb,and_self,if_true,Option.bind_some];simp[hp,h4]
theorem qafw {x c s P Q R:Nat}(hc:c<2^s)(hs:s<=15)(hx:x<32768)(h:P+Q*c=R) :
 P+Q*((c+x*2^s)%32768)+Q*32768*((c+x*2^s)/32768)=R+Q*(x*2^s)/\(c+x*2^s)/32768<2^s/\c+x*2^s<1073741824:=by
 have hp:2^s<=32768:=Nat.pow_le_pow_right (j:=15) (by omega) hs;have h1:(x+1)*2^s<=32768*2^s:=Nat.mul_le_mul_right _ (by omega);rw[Nat.add_mul]at h1;refine⟨?_,?_,by omega⟩
 ·have e:=Nat.mod_add_div (c+x*2^s) 32768;have e2:Q*((c+x*2^s)%32768)+Q*32768*((c+x*2^s)/32768)=Q*c+Q*(x*2^s):=by
   rw[Nat.mul_assoc,<-Nat.mul_add,e,Nat.mul_add]
  omega
 ·rw[Nat.div_lt_iff_lt_mul (by omega)];omega
theorem q0c {H:Heap}{Q:V->Heap->Prop}(x n:Nat)(hx:(dgs x).length<=1000000)(hn:n<=10000000)(h0:x≠0)
 (hQ:Q (.ref H.length 1 0 (dgs (x*2^n)).length) (H++[some ⟨1,(dgs (x*2^n)).map bdg,true,true⟩])):CT prog q3y [bn x,.int .i64 n] H Q:=by
 have hz:=qes h0;have la:=qa9 x;have va:=qay x;unfold bn;generalize dgs x=a at *
 subst va;have hne:dgs (natB a*2^n)≠[]:=qes (Nat.mul_ne_zero h0 (by have:=Nat.two_pow_pos n;omega));have⟨q,hq⟩:∃q,q=n/15:=⟨_,rfl⟩
 have⟨s,hs⟩:∃s,s=n%15:=⟨_,rfl⟩
 have e2n:2^n=32768^q*2^s:=by rw[qfw,<-Nat.pow_add,hq,hs,Nat.div_add_mod]
 have q1:Int.tdiv (n:Int) 15=q:=by rw[hq];exact tdivN n 15
 have s1:Int.tmod (n:Int) 15=s:=by rw[hs];exact tmodN n 15
 have w1:IntKind.i64.wrap (q:Int)=q:=by rw[wrap_i64]<;>omega
 have w2:IntKind.i64.wrap ((q:Int)+a.length)=((q+a.length:Nat):Int):=by rw[wrap_i64]<;>omega
 have w3:IntKind.i64.wrap (((q+a.length:Nat):Int)+1)=((q+a.length+1:Nat):Int):=by rw[wrap_i64]<;>omega
 have f1:q<=q+a.length+1/\(q+a.length+1)*8<=281474976710656/\q+a.length+1<=9223372036854775807:=by omega
 have⟨m,hm⟩:∃m,m=q+a.length+1:=⟨_,rfl⟩
 have⟨m0,hm0⟩:∃m0,m0=q+a.length:=⟨_,rfl⟩
 rw[<-hm]at w3 f1;rw[<-hm0]at w2 w3;have hs15:s<=14:=by omega
 refine CT_of (f:=qo5) rfl (qkz ?_);have hla:¬(a.length:Int)=0:=by
  intro h;exact hz (List.eq_nil_of_length_eq_zero (by omega))
 simp[bl,hz,q1,w1,w2,w3,f1];refine WK_up (fun i E H'=>E 1=.int .i64 n/\E 21=bl a/\E 22=.int .i64 a.length/\E 23=.int .i64 i/\∃c o,c<2^s/\E 6=.int .i64 (c:Nat)/\Out H H' (E 5) 1 (o.map bdg)/\o.length=q+i/\LiB o/\natB o+32768^(q+i)*c=natB (a.take i)*2^n) a.length ?_ ?_
 ·refine⟨by simp,by simp[bl],by simp,by simp,0,List.replicate q 0,Nat.two_pow_pos s,by simp,⟨?_,.inr ⟨H.length,List.replicate m (.int .i64 0),Nat.le_refl _,by simp,by simp,?_,by simp;omega⟩⟩,by simp,liB_zeros,by simp[qjk,natB]⟩
  ·simp
  ·simp[bdg,Nat.min_eq_left (show q<=m by omega)]
 ·rintro i E H' hi ⟨h1,h21,h22,h23,c,o,hc,h6,h5,ho,lo,hv⟩;simp only[bl]at h21;rcases Nat.lt_or_ge i a.length with hlt|hge
  ·have f1:IntKind.i64.wrap ((i:Int)+1)=((i+1:Nat):Int):=by rw[wrap_i64]<;>omega
   have lx:a[i]<32768:=la _ (List.getElem_mem hlt);obtain⟨g1,g2,g3⟩:=qafw hc (by omega) lx hv;have hts:natB (a.take (i+1))*2^n=natB (a.take i)*2^n+32768^(q+i)*(a[i]*2^s):=by
    rw[qa6,qak hlt,Nat.add_mul,e2n,Nat.pow_add]
    congr 1
    rw[Nat.mul_mul_mul_comm,Nat.mul_comm (32768^i) (32768^q)]
   rw[<-hts,<-Nat.pow_succ]at g1;have t1:qa3 .shl .i64 (a[i]:Int) (s:Int)=some (.int .i64 ((a[i]*2^s:Nat):Int)):=shlI _ _ (by omega) (by omega);have⟨y,hy⟩:∃y,y=a[i]*2^s:=⟨_,rfl⟩
   rw[<-hy]at t1 g1 g2 g3;have t2:IntKind.i64.wrap ((c:Int)+y)=((c+y:Nat):Int):=by rw[wrap_i64]<;>omega
   have⟨z,hz2⟩:∃z,z=c+y:=⟨_,rfl⟩
   rw[<-hz2]at t2 g1 g2 g3;have t3:=tmodB z;have t4:=tdivB z;have⟨d,hd⟩:∃d,d=z%32768:=⟨_,rfl⟩
   have⟨c2,hc2⟩:∃c2,c2=z/32768:=⟨_,rfl⟩
   rw[<-hd]at t3 g1;rw[<-hc2]at t4 g1 g2;have t5:IntKind.i64.wrap (c2:Int)=c2:=by rw[wrap_i64]<;>omega
   obtain⟨v',H'',e',ho'⟩:=h5.oneB d (by omega);simp[qno,h1,h21,h22,h23,h6,hlt,bl,bdg,s1,t1,t2,t3,t4,t5,f1,e'];refine⟨c2,g2,rfl,o++[d],ho',by simp[ho];omega,lo.append (by intro y hy;simp at hy;omega),?_⟩;rw[qeg,ho,<-Nat.add_assoc];exact g1
  ·have hin:i=a.length:=by omega
   subst hin;have hc1:2^s<=2^15:=Nat.pow_le_pow_right (by omega) (by omega);rw[qbk (Nat.le_refl _)]at hv;obtain⟨v',H'',e',ho'⟩:=h5.oneB c (by omega);have lo2:LiB (o++[c]):=lo.append (by intro y hy;simp at hy;omega);obtain⟨t1,t2⟩:=ho'.trim lo2 (by simp[ho];omega);have hv2:natB (o++[c])=natB a*2^n:=by rw[qeg,ho];exact hv
   rw[hv2]at t2;simp[qno,h22,h23,h6,e'];refine WL_ev rfl rfl (qdt H'' v') t1 ?_;have hfin:=t2.finOwn (by simpa using hne);rw[List.length_map]at hfin;simp[hfin];exact⟨_,_,⟨rfl,rfl⟩,hQ⟩
theorem q4o {H:Heap}{Q:V->Heap->Prop}(n:Int)(hQ:Q .nil H):CT prog q3y [bn 0,.int .i64 n] H Q:=by
 refine CT_of (f:=qo5) rfl (qkz ?_);simp[bn,qbf,bl];refine⟨.nil,H,?_,hQ⟩;simp[Go.Abs.fin,ownV,ownC]
theorem qac8 (H:Heap)(x:Nat):Cb H qzf [] [bdg x] (.bool (decide (x≠0))):=by
 intro H' _;refine⟨rfl,?_⟩;refine qej rfl ?_;simp[bdg]
theorem q4t : ∀{l:List Nat},(l.any fun x=>decide (x≠0))=decide (natB l≠0)
 | []=>rfl
 |x :: l=>by
  rw[List.any_cons,q4t,natB];by_cases h1:x=0<;>by_cases h2:natB l=0<;>simp[h1,h2]<;>omega
theorem qxe (x n:Nat)(hx:(dgs x).length<=1000000)(hn:n<=10000000):CQ prog q55 [bn x,.int .i64 n] (.tup [bn (x/2^n),.bool (decide (x%2^n≠0))]):=by
 have la:=qa9 x;have tl:=qfo x;have va:=qay x;unfold bn;generalize dgs x=a at *
 subst va;have⟨q,hq⟩:∃q,q=n/15:=⟨_,rfl⟩
 have⟨s,hs⟩:∃s,s=n%15:=⟨_,rfl⟩
 have e2n:2^n=32768^q*2^s:=by rw[qfw,<-Nat.pow_add,hq,hs,Nat.div_add_mod]
 have q1:Int.tdiv (n:Int) 15=q:=by rw[hq];exact tdivN n 15
 have s1:Int.tmod (n:Int) 15=s:=by rw[hs];exact tmodN n 15
 have w1:IntKind.i64.wrap (q:Int)=q:=by rw[wrap_i64]<;>omega
 have hs15:s<=14:=by omega
 refine qaf rfl fun H=>?_
 rcases Nat.lt_or_ge q a.length with hqa|hqa
 ·have dr:=qoc la q;have ed:natB a/2^n=natB (a.drop q)/2^s:=by rw[e2n,<-Nat.div_div_eq_div_mul,dr]
  have em:natB a%2^n=natB (a.take q)+32768^q*(a[q]%2^s):=by
   have h1:=qcv a q;have h2:natB (a.drop q)%2^s=a[q]%2^s:=by
    rw[qbs,qak hqa,show(32768:Nat)=2^s*2^(15-s) by rw[<-Nat.pow_add,show s+(15-s)=15 by omega],Nat.mul_assoc,Nat.add_mul_mod_self_left]
   have h3:=qcf (la.take q);have h4:32768^(a.take q).length<=32768^q:=qjw;rw[e2n,Nat.mod_mul,dr,h2]
   congr 1
   rw[h1,Nat.add_mul_mod_self_left,Nat.mod_eq_of_lt (by omega)]
  have lq:a[q]<32768:=la _ (List.getElem_mem hqa);have n1:¬(a.length:Int)<=q:=by omega
  have hsl:qcc 1 ((a.map bdg).take q)=true:=by rw[<-List.map_take];exact qpj _
  have p1:=Nat.two_pow_pos s;have p2:2^s<=2^14:=Nat.pow_le_pow_right (by omega) hs15;have t1:qa3 .shl .i64 1 (s:Int)=some (.int .i64 ((2^s:Nat):Int)):=by
   have:=shlI 1 s (by omega) (by omega);simpa using this
  have t2:IntKind.i64.wrap (((2^s:Nat):Int)-1)=((2^s-1:Nat):Int):=by rw[wrap_i64]<;>omega
  have t3:=maskI a[q] s (by omega) (by omega);have hmod:(decide (natB (a.take q)≠0) ||decide (a[q]%2^s≠0))=decide (natB a%2^n≠0):=by
   rw[em];have:=Nat.pow_pos (n:=q) (show 0<32768 by omega);by_cases h1:natB (a.take q)=0<;>by_cases h2:a[q]%2^s=0
   ·simp[h1,h2]
   ·have:0<32768^q*(a[q]%2^s):=Nat.mul_pos this (by omega);simp[h1,h2];omega
   ·simp[h1,h2]
   ·simp[h1,h2]
  have⟨P,hP⟩:∃P,P=2^s:=⟨_,rfl⟩
  have⟨M,hM⟩:∃M,M=2^s-1:=⟨_,rfl⟩
  have⟨A,hA⟩:∃A,A=a[q]%2^s:=⟨_,rfl⟩
  rw[<-hP]at t1 t2;rw[<-hM]at t3;rw[show P-1=M by rw[hP,hM]]at t2;rw[<-hA]at t3 hmod;have⟨T,hT⟩:∃T,T=decide (natB a%2^n≠0):=⟨_,rfl⟩
  rw[<-hT]at hmod ⊢;clear hT;simp[bl,q1,w1,n1,Nat.le_of_lt hqa];simp only[<-List.map_take];refine WL_ev rfl rfl rfl (q0u (a.take q) (by simp;omega) (fun x _=>qac8 H x)) ?_;rw[q4t];have go:∀E:Env,E 0=bl a->E 1=.int .i64 n->E 6=.int .i64 q->E 7=.bool (T)->E 8=.nil->E 9=.int .i64 q->WK prog H.length (.loop qe4)
   [.blk 0,.seq (.seq (.region false qmw) .ret)] E H (fun x E1 H1=>(x=.normal\/x=.ret)/\(((qbv H1 (E1 4)).bind fun x=>
    ((qbv x.snd (E1 5)).bind fun x=>some ([x.fst],x.snd)).bind fun x_1=>
      some (x.fst :: x_1.fst,x_1.snd)).bind
    fun x=>some (V.tup x.fst,List.take (List.length H) x.snd)) =
    some (V.tup [bl (dgs (natB a/2^n)),V.bool (T)],H)):=by
   intro E g0 g1 g6 g7 g8 g9;have⟨N,hN⟩:∃N,N=natB a/2^n:=⟨_,rfl⟩
   rw[<-hN];have⟨L,hL⟩:∃L,L=a.length-q:=⟨_,rfl⟩
   have hNlt:N<32768^L:=by
    have h1:=qcf (la.drop q);rw[List.length_drop,<-hL,<-dr]at h1;rw[hN,e2n,<-Nat.div_div_eq_div_mul];exact Nat.lt_of_le_of_lt (Nat.div_le_self _ _) h1
   refine WK_up (fun j E H'=>E 0=bl a/\E 1=.int .i64 n/\E 7=.bool (T)/\E 9=.int .i64 ((q+j:Nat):Int)/\Out H H' (E 8) 1 ((dgk j N).map bdg)) L ?_ ?_
   ·exact⟨g0,g1,g7,g9,by rw[g8];exact Out.nil⟩
   ·rintro j E H' hj ⟨h0,h1,h7,h9,h8⟩;simp only[bl]at h0;have⟨i,hi⟩:∃i,i=q+j:=⟨_,rfl⟩
    rw[<-hi]at h9;rcases Nat.lt_or_ge i a.length with hlt|hge
    ·have v1:IntKind.i64.wrap ((i:Int)+1)=((i+1:Nat):Int):=by rw[wrap_i64]<;>omega
     have lx:a[i]<32768:=la _ (List.getElem_mem hlt);have hd:(dig a i+32768*dig a (i+1))/2^s%32768=N/32768^j%32768:=by
      rw[<-q5k la i s (by omega),hN,hi,e2n,Nat.div_div_eq_div_mul,Nat.div_div_eq_div_mul,Nat.pow_add]
      congr 2
      rw[Nat.mul_comm (2^s),Nat.mul_assoc,Nat.mul_assoc,Nat.mul_comm (2^s)]
     obtain⟨v',H'',e',ho'⟩:=h8.oneB (N/32768^j%32768) (by rw[q2a];omega);rw[<-q4c]at ho';have w2:IntKind.i64.wrap ((i:Int)+1)=((q+(j+1):Nat):Int):=by rw[wrap_i64]<;>omega
     rcases Nat.lt_or_ge (i+1) a.length with hlt1|hge1
     ·have ly:a[i+1]<32768:=la _ (List.getElem_mem hlt1);rw[qak hlt,qak hlt1]at hd;have t4:qa3 .shl .i64 (a[i+1]:Int) 15=some (.int .i64 ((a[i+1]*2^15:Nat):Int)):=shlI _ 15 (by omega) (by omega);have⟨y,hy⟩:∃y,y=a[i+1]*2^15:=⟨_,rfl⟩
      rw[<-hy]at t4;have t5:IntKind.i64.wrap ((a[i]:Int)+y)=((a[i]+y:Nat):Int):=by rw[wrap_i64]<;>omega
      rw[show 32768*a[i+1]=y by omega]at hd;have⟨z,hz⟩:∃z,z=a[i]+y:=⟨_,rfl⟩
      rw[<-hz]at t5 hd;have t6:=shrI z s (by omega);have⟨r,hr⟩:∃r,r=z/2^s:=⟨_,rfl⟩
      rw[<-hr]at t6 hd;have t7:=tmodB r;rw[hd]at t7;have⟨d,hd2⟩:∃d,d=N/32768^j%32768:=⟨_,rfl⟩
      rw[<-hd2]at t7 e';have hlt1':((i+1:Nat):Int)<a.length:=by omega
      have⟨i1,hi1⟩:∃i1,i1=i+1:=⟨_,rfl⟩
      simp only[<-hi1]at v1 hlt1 hlt1' t4;have hge2:=List.getElem?_eq_getElem hlt1;simp[qe4,h0,h1,h7,h9,hlt,hlt1,bl,bdg,s1,v1,t4,t5,t6,t7,e'];exact⟨by omega,by omega,ho'⟩
     ·rw[qak hlt,qcy hge1,Nat.mul_zero,Nat.add_zero]at hd;have⟨z,hz⟩:∃z,z=a[i]:=⟨_,rfl⟩
      rw[<-hz]at hd;have t6:=shrI z s (by omega);have⟨r,hr⟩:∃r,r=z/2^s:=⟨_,rfl⟩
      rw[<-hr]at t6 hd;have t7:=tmodB r;rw[hd]at t7;have⟨d,hd2⟩:∃d,d=N/32768^j%32768:=⟨_,rfl⟩
      rw[<-hd2]at t7 e';have⟨i1,hi1⟩:∃i1,i1=i+1:=⟨_,rfl⟩
      simp only[<-hi1]at v1 hge1;have hge2:¬i1<a.length:=by omega
      simp[qe4,h0,h1,h7,h9,hlt,hge2,bl,bdg,s1,v1,<-hz,t6,t7,e'];exact⟨by omega,by omega,ho'⟩
    ·have hjL:j=L:=by omega
     subst hjL;have n2:¬i<a.length:=by omega
     obtain⟨u1,u2⟩:=h8.trim qafa (by rw[q2a];omega);rw[q93,Nat.mod_eq_of_lt hNlt]at u2;obtain⟨H3,u3,u4,u5⟩:=u2.frz;simp[qe4,h0,h9,n2];refine WL_ev rfl rfl (qdt H' (E 8)) u1 ?_;simp[h7,u5,bl,qbe u3]
  by_cases hl0:natB (a.take q)=0
  ·have hm:T=decide (A≠0):=by rw[<-hmod];simp[hl0]
   subst hm;simp[hl0,hqa,bdg,s1,t1,t2,t3];simp[bl]at go;exact go _ (by simp) (by simp) (by simp) (by simp) (by simp) (by simp)
  ·have hm:T=true:=by rw[<-hmod];simp[hl0]
   subst hm;simp[hl0];simp[bl]at go;exact go _ (by simp) (by simp) (by simp) (by simp) (by simp) (by simp)
 ·have n1:(a.length:Int)<=q:=by omega
  have h1:=qcf la;have h2:32768^a.length<=32768^q:=qym hqa;have p1:=Nat.two_pow_pos s;have h3:32768^q*1<=32768^q*2^s:=Nat.mul_le_mul_left _ p1;have h4:natB a<2^n:=by rw[e2n];omega
  rw[Nat.div_eq_of_lt h4,Nat.mod_eq_of_lt h4,qbf];have h5:decide (natB a≠0)=decide (0<a.length):=by
   rw[decide_eq_decide];constructor
   ·intro h;rcases a with _|⟨x,l⟩
    ·exact absurd rfl h
    ·simp
   ·intro h h6;have:=qrz tl h6;subst this;simp at h
  rw[h5];simp[bl,q1,w1,n1]
end Go.Abs.W
namespace Go.Abs.W
set_option maxRecDepth 20000
theorem qadm {H:Heap}{Q:V->Heap->Prop}{v:V}{l:List Nat}(h:SeesB v l H)(hn:l≠[])(hl:l.length<=1000000000)
 (hQ:Q (.ref H.length 1 0 l.length) (H++[some ⟨1,l.map bdg,true,true⟩])):CT prog qof [v] H Q:=by
 have he:=h.elems;have hh:=qpj l;have e8:l.length*8<=140737488355328:=by omega
 have fin':Go.Abs.fin true H.length (H++[none,some ⟨1,l.map bdg,true,true⟩]) (.ref (H.length+1) 1 0 l.length)=some (.ref H.length 1 0 l.length,H++[some ⟨1,l.map bdg,true,true⟩]):=by
  simp[Go.Abs.fin,ownV,ownC,List.take_of_length_le]
 have hel:elems (H++[some ⟨1,[],true,true⟩]) v=some (l.map bdg):=(h.grow _).elems;refine CT_of (f:=qc0) rfl (qkz ?_);rcases h with rfl|⟨rfl,rfl⟩|⟨b,off,blk,w,rfl,h2,h3,h4⟩
 ·obtain⟨x,k,rfl⟩:=List.exists_cons_of_ne_nil hn;simp at fin' hh hel e8;simp[bl,qbq,qaz,e8];rw[fin'];exact⟨_,_,rfl,hQ⟩
 ·exact absurd rfl hn
 ·have h2':∀G:Heap,(H++G)[b]?=some (some ⟨1,blk,true,w⟩):=fun G=>by rw[List.getElem?_append_left (List.getElem?_eq_some_iff.1 h2).1];exact h2
  simp[Go.Abs.elems,h2,h3]at he;simp only[qcc]at hh;simp[qbq,h2',h3,he,qaz,e8,hn];rw[if_pos hh];simp[fin'];exact⟨_,_,⟨rfl,rfl⟩,hQ⟩
theorem qjz (l:List Nat)(i:Nat)(v:Nat):(l.map bdg).set i (.int .i64 (v:Int))=(l.set i v).map bdg:=by
 rw[List.map_set];rfl
set_option maxHeartbeats 4000000 in
theorem qtp {H:Heap}{va vb:V}{a b:List Nat}(sa:SeesB va a H)(sb:SeesB vb b H)(la:LiB a)(lb:LiB b)(ha:a.length<=1000000)(hb:b.length<=a.length)(hn:a≠[])(hle:natB b<=natB a) :
 Ev prog (.call q11 [va,vb] H) (.ret (bn (natB a-natB b)) H):=by
 refine qej rfl ?_;simp;refine qb6 rfl rfl rfl (qadm sa hn (by omega) ⟨fun h=>by simp at h,?_⟩);simp;refine WK_up (fun i E H'=>∃o c,H'=H++[some ⟨1,o.map bdg,true,true⟩]/\o.length=a.length/\LiB o/\c<=1/\o.drop i=a.drop i/\E 1=vb/\E 5=.ref H.length 1 0 a.length/\E 6=.int .i64 (c:Nat)/\E 12=.int .i64 a.length/\E 13=.int .i64 i /\
  natB (o.take i)+natB (b.take i)=natB (a.take i)+32768^i*c) a.length ?_ ?_
 ·exact⟨a,0,rfl,rfl,la,by omega,rfl,by simp,by simp,by simp,by simp,by simp,by simp[natB]⟩
 ·rintro i E H' hi ⟨o,c,rfl,hl,lo,hc,hdr,h1,h5,h6,h12,h13,hv⟩;rcases Nat.lt_or_ge i a.length with hlt|hge
  ·have g1:IntKind.i64.wrap ((i:Int)+1)=((i+1:Nat):Int):=by rw[wrap_i64]<;>omega
   have hio:i<o.length:=by omega
   have eo:o[i]=a[i]:=by
    have:=hdr;rw[List.drop_eq_getElem_cons hio,List.drop_eq_getElem_cons hlt]at this;injection this
   have dx:=qld la i;have dy:=qld lb i;have st:=q91 (x:=dig a i) (y:=dig b i) dx dy hc hv;rw[<-qa6,<-qa6,<-Nat.pow_succ,<-qv9 hio]at st;have go:∀d,d=(dig a i+65536-dig b i-c)%32768->∃o2 c2,(o.map bdg).set i (.int .i64 (d:Nat))=o2.map bdg/\o2.length=a.length/\LiB o2/\c2<=1/\o2.drop (i+1)=a.drop (i+1)/\(if dig a i<dig b i+c then 1 else 0)=c2/\natB (o2.take (i+1))+natB (b.take (i+1))=natB (a.take (i+1))+32768^(i+1)*c2:=by
    intro d hd;rw[<-hd]at st;refine⟨o.set i d,_,qjz o i d,by simp[hl],LiB.set lo (by omega),by split<;>omega,?_,rfl,st⟩;rw[List.drop_set_of_lt (by omega)];have:=congrArg (List.drop 1) hdr;rwa[List.drop_drop,List.drop_drop]at this
   rw[qak hlt]at dx go;have⟨x,hx⟩:∃x,x=a[i]:=⟨_,rfl⟩
   rw[<-hx]at dx go eo;have w1:IntKind.i64.wrap ((x:Int)-c)=(x:Int)-c:=by rw[wrap_i64]<;>omega
   rcases Nat.lt_or_ge i b.length with hib|hib
   ·rw[qak hib]at dy go;have⟨y,hy⟩:∃y,y=b[i]:=⟨_,rfl⟩
    rw[<-hy]at dy go;have w2:IntKind.i64.wrap ((x:Int)-c-y)=(x:Int)-c-y:=by rw[wrap_i64]<;>omega
    have yb:b[i]?=some y:=by rw[hy];exact List.getElem?_eq_getElem hib
    by_cases hneg:x<y+c
    ·skip
     have hneg':(x:Int)-c-y<0:=by omega
     have⟨d,hd⟩:∃d,d=(x+65536-y-c)%32768:=⟨_,rfl⟩
     obtain⟨o2,c2,q1,q2,q3,q4,q5,q6,q7⟩:=go d hd;rw[if_pos hneg]at q6;have w3:IntKind.i64.wrap ((x:Int)-c-y+32768)=(d:Nat):=by rw[wrap_i64]<;>omega
     rcases sb with rfl|⟨rfl,rfl⟩|⟨bb,off,blk,w,rfl,sb2,sb3,sb4⟩
     ·simp[qa4,h1,h5,h6,h12,h13,hlt,hib,eo,<-hy,bl,bdg,w1,w2,w3,hneg',g1,hl];exact⟨o2,q1,q2,q3,1,by omega,q5,rfl,by rw[<-q6]at q7;simpa using q7⟩
     ·simp at hib
     ·have sb2':∀G:Heap,(H++G)[bb]?=some (some ⟨1,blk,true,w⟩):=fun G=>by rw[List.getElem?_append_left (List.getElem?_eq_some_iff.1 sb2).1];exact sb2
      have zb:=sb4 _ _ yb;simp[qa4,h1,h5,h6,h12,h13,hlt,hib,eo,sb2',zb,bdg,w1,w2,w3,hneg',g1,hl];exact⟨o2,q1,q2,q3,1,by omega,q5,rfl,by rw[<-q6]at q7;simpa using q7⟩
    ·skip
     have hneg':¬(x:Int)-c-y<0:=by omega
     have⟨d,hd⟩:∃d,d=(x+65536-y-c)%32768:=⟨_,rfl⟩
     obtain⟨o2,c2,q1,q2,q3,q4,q5,q6,q7⟩:=go d hd;rw[if_neg hneg]at q6;have w3:(x:Int)-c-y=(d:Nat):=by omega
     have w4:¬((d:Nat):Int)<0:=by omega
     have w5:IntKind.i64.wrap ((d:Nat):Int)=d:=by rw[wrap_i64]<;>omega
     rcases sb with rfl|⟨rfl,rfl⟩|⟨bb,off,blk,w,rfl,sb2,sb3,sb4⟩
     ·simp[qa4,h1,h5,h6,h12,h13,hlt,hib,eo,<-hy,bl,bdg,w1,w3,w4,w5,g1,hl];exact⟨o2,q1,q2,q3,0,by omega,q5,rfl,by rw[<-q6]at q7;simpa using q7⟩
     ·simp at hib
     ·have sb2':∀G:Heap,(H++G)[bb]?=some (some ⟨1,blk,true,w⟩):=fun G=>by rw[List.getElem?_append_left (List.getElem?_eq_some_iff.1 sb2).1];exact sb2
      have zb:=sb4 _ _ yb;simp[qa4,h1,h5,h6,h12,h13,hlt,hib,eo,sb2',zb,bdg,w1,w3,w4,w5,g1,hl];exact⟨o2,q1,q2,q3,0,by omega,q5,rfl,by rw[<-q6]at q7;simpa using q7⟩
   ·have nib:¬i<b.length:=by omega
    rw[qcy hib]at dy go;by_cases hneg:x<0+c
    ·skip
     have hneg':(x:Int)-c<0:=by omega
     have⟨d,hd⟩:∃d,d=(x+65536-0-c)%32768:=⟨_,rfl⟩
     obtain⟨o2,c2,q1,q2,q3,q4,q5,q6,q7⟩:=go d hd;rw[if_pos hneg]at q6;have w3:IntKind.i64.wrap ((x:Int)-c+32768)=(d:Nat):=by rw[wrap_i64]<;>omega
     rcases sb with rfl|⟨rfl,rfl⟩|⟨bb,off,blk,w,rfl,sb2,sb3,sb4⟩
     ·simp[qa4,h1,h5,h6,h12,h13,hlt,nib,eo,bl,bdg,w1,w3,hneg',g1,hl];exact⟨o2,q1,q2,q3,1,by omega,q5,rfl,by rw[<-q6]at q7;simpa using q7⟩
     ·simp[qa4,h1,h5,h6,h12,h13,hlt,eo,bdg,w1,w3,hneg',g1,hl];exact⟨o2,q1,q2,q3,1,by omega,q5,rfl,by rw[<-q6]at q7;simpa using q7⟩
     ·simp[qa4,h1,h5,h6,h12,h13,hlt,nib,eo,bdg,w1,w3,hneg',g1,hl];exact⟨o2,q1,q2,q3,1,by omega,q5,rfl,by rw[<-q6]at q7;simpa using q7⟩
    ·skip
     have hneg':¬(x:Int)-c<0:=by omega
     have⟨d,hd⟩:∃d,d=(x+65536-0-c)%32768:=⟨_,rfl⟩
     obtain⟨o2,c2,q1,q2,q3,q4,q5,q6,q7⟩:=go d hd;rw[if_neg hneg]at q6;have w3:(x:Int)-c=(d:Nat):=by omega
     have w4:¬((d:Nat):Int)<0:=by omega
     have w5:IntKind.i64.wrap ((d:Nat):Int)=d:=by rw[wrap_i64]<;>omega
     rcases sb with rfl|⟨rfl,rfl⟩|⟨bb,off,blk,w,rfl,sb2,sb3,sb4⟩
     ·simp[qa4,h1,h5,h6,h12,h13,hlt,nib,eo,bl,bdg,w3,w4,w5,g1,hl];exact⟨o2,q1,q2,q3,0,by omega,q5,rfl,by rw[<-q6]at q7;simpa using q7⟩
     ·simp[qa4,h1,h5,h6,h12,h13,hlt,eo,bdg,w3,w4,w5,g1,hl];exact⟨o2,q1,q2,q3,0,by omega,q5,rfl,by rw[<-q6]at q7;simpa using q7⟩
     ·simp[qa4,h1,h5,h6,h12,h13,hlt,nib,eo,bdg,w3,w4,w5,g1,hl];exact⟨o2,q1,q2,q3,0,by omega,q5,rfl,by rw[<-q6]at q7;simpa using q7⟩
  ·have hin:i=a.length:=by omega
   subst hin;rw[qbk (l:=a) (Nat.le_refl _),qbk (l:=b) hb,qbk (l:=o) (by omega)]at hv;have hlv:=qcf lo;rw[hl]at hlv;have hc0:c=0:=by
    rcases Nat.eq_zero_or_pos c with h|h
    ·exact h
    ·have:c=1:=by omega
     subst this;omega
   subst hc0;have hv2:natB o=natB a-natB b:=by omega
   have so:SeesB (.ref H.length 1 0 a.length) o (H++[some ⟨1,o.map bdg,true,true⟩]):=by
    rw[<-hl];exact .blk (w:=true) (by simp)
   have t1:=qfu so (by omega);simp[qa4,h5,h12,h13];refine WL_ev rfl rfl rfl t1 ?_;rw[qbp lo,hv2]at t1 ⊢;have hk:(dgs (natB a-natB b)).length<=o.length:=by rw[<-hv2,<-qbp lo];unfold trimL;rw[List.length_take];omega
   have hf:=qfb o;rw[qbp lo,hv2]at hf;simp[cutV,hk,bn,bl];rw[<-List.map_take,hf]
   done
end Go.Abs.W
