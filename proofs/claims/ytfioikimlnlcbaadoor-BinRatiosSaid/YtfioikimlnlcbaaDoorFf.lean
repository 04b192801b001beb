/- Parts of the proof: FpNadd, FpNsub, FpNmul, FpNshr, FpDivM, FpNdig, FpNdiv, FpNdiv2, FpNdiv3, FpNapi, FpDyR, FpR01a, FpR01b, FpR01c, FpR01d. -/
import Derived.Test.YtfioikimlnlcbaaDoorFe
namespace Go.Abs.W
attribute [local simp] qat
structure DivInv (U v u q:List Nat)(m k:Nat):Prop where
 lenu:u.length=U.length
 lenq:q.length=m
 lu:Li u
 lq:Li q
 low:u.take k=U.take k
 lt:natV (u.drop k)<natV v
 val:natV (q.drop k)*natV v+natV (u.drop k)=natV (U.drop k)
theorem DivInv.step {U v u q u2:List Nat}{m j x:Nat}(h:DivInv U v u q m (j+1))(hj:j<m)(_hjU:j<U.length)(hu2:u2.length=U.length)(lu2:Li u2)(ht:u2.take j=u.take j)(hx:x<4294967296)
 (h1:x=natV (u.drop j)/natV v) (h2:natV (u2.drop j)=natV (u.drop j)%natV v) (hv:0<natV v):DivInv U v u2 (q.set j x) m j:=by
 refine⟨hu2,by simp[h.lenq],lu2,Li.set h.lq hx,?_,by rw[h2];exact Nat.mod_lt _ hv,?_⟩
 ·rw[ht];have:=congrArg (List.take j) h.low;rwa[List.take_take,List.take_take,Nat.min_eq_left (by omega)]at this
 ·have hq:j<q.length:=by rw[h.lenq];exact hj
  rw[qdg (q.set j x),qt5 hq,List.drop_set_of_lt (by omega),h2];have e1:=qdg u j;have e2:=qdg U j;have e3:dig u j=dig U j:=by
   have a1:dig u j=dig (u.take (j+1)) j:=by simp[dig]
   have a2:dig U j=dig (U.take (j+1)) j:=by simp[dig]
   rw[a1,a2,h.low]
  have e4:=Nat.div_add_mod' (natV (u.drop j)) (natV v);rw[<-h1]at e4;rw[Nat.add_mul,Nat.mul_assoc];have e5:=h.val;generalize natV (q.drop (j+1))*natV v=Z at *
  omega
def cl (n:Nat):List Nat:=if 256<(qad n).length then []else qad n
@[simp] theorem qz9 (n k:Nat):¬(n+k<n):=by omega
theorem Dy.of_W {neg:Bool}{n:Nat}{e:Int}(h:(qad n).length<=1000000):(Dy.of neg n e).W:=by
 unfold Dy.of;split
 ·exact⟨by intro x hx;simp at hx,by simp⟩
 ·exact⟨qal _,Nat.le_trans (qig (Nat.div_le_self _ _) h) (by omega)⟩
def Dy.opp (d:Dy):Dy:=if d.valid=true/\d.m≠[]then⟨!d.neg,d.m,d.e⟩else Dy.zero
def Sees (v:V)(l:List Nat)(H:Heap):Prop:=v=lim l\/∃b w,v=.ref b 1 0 l.length/\H[b]?=some (some ⟨1,l.map u32,true,w⟩)
theorem Sees.lim {l:List Nat}{H:Heap}:Sees (Go.Abs.lim l) l H:=.inl rfl
theorem Sees.len {H:Heap}{v:V}{l:List Nat}(h:Sees v l H):(v=.sl (l.map u32))\/∃b,v=.ref b 1 0 l.length:=by
 rcases h with h|⟨b,w,h,_⟩
 ·exact .inl h
 ·exact .inr ⟨b,h⟩
theorem qis (a c s:Nat)(ha:a%2^s=0)(hc:c<2^s)(ha2:a<2^32)(hc2:c<2^32):bitsI .or .u32 (a:Int) (c:Int)=some ((a+c:Nat):Int)/\bitsI .or .u32 (c:Int) (a:Int)=some ((a+c:Nat):Int):=by
 have e:a |||c=a+c:=by
  have:=Nat.two_pow_add_eq_or_of_lt hc (a/2^s);rw[show 2^s*(a/2^s)=a by have:=Nat.div_add_mod a (2^s);omega]at this;exact this.symm
 have hlt:a |||c<2^32:=Nat.or_lt_two_pow ha2 hc2;constructor
 ·show some (IntKind.u32.wrap ((BitVec.ofInt 32 (a:Int) |||BitVec.ofInt 32 (c:Int)).toNat:Int))=_;rw[BitVec.toNat_or,qby,qby,Nat.mod_eq_of_lt ha2,Nat.mod_eq_of_lt hc2,qas _ hlt,e]
 ·show some (IntKind.u32.wrap ((BitVec.ofInt 32 (c:Int) |||BitVec.ofInt 32 (a:Int)).toNat:Int))=_;rw[BitVec.toNat_or,qby,qby,Nat.mod_eq_of_lt ha2,Nat.mod_eq_of_lt hc2,Nat.or_comm,qas _ hlt,e]
theorem qxi {M N B b:Nat}(hB:0<B)(hM:M=2*N+b)(hb:b<=1) :
 (2*(N%B)+b<B->M%B=2*(N%B)+b/\M/B=2*(N/B))/\(B<=2*(N%B)+b->M%B=2*(N%B)+b-B/\M/B=2*(N/B)+1):=by
 have e:=Nat.div_add_mod N B;have hm:=Nat.mod_lt N hB;have⟨q,hq⟩:∃q,q=N/B:=⟨_,rfl⟩
 have⟨r,hr⟩:∃r,r=N%B:=⟨_,rfl⟩
 rw[<-hq,<-hr]at e;rw[<-hr]at hm;rw[<-hq,<-hr];constructor
 ·intro h;have e2:M=B*(2*q)+(2*r+b):=by rw[Nat.mul_left_comm];omega
  rw[e2];exact⟨by rw[Nat.mul_add_mod,Nat.mod_eq_of_lt h],by rw[Nat.mul_add_div hB,Nat.div_eq_of_lt h,Nat.add_zero]⟩
 ·intro h;have e2:M=B*(2*q+1)+(2*r+b-B):=by rw[Nat.mul_add,Nat.mul_left_comm];omega
  rw[e2];have h3:2*r+b-B<B:=by omega
  exact⟨by rw[Nat.mul_add_mod,Nat.mod_eq_of_lt h3],by rw[Nat.mul_add_div hB,Nat.div_eq_of_lt h3,Nat.add_zero]⟩
theorem qs4 (x:Nat):qaw .shl .u32 (x:Int) 1=some (.int .u32 ((2*x%4294967296:Nat):Int)):=by
 have e3:(x:Int)*2^(Nat.min (Int.toNat 1) 32)=((2*x:Nat):Int):=by
  show(x:Int)*2^1=_;omega
 simp only[qaw,qm8];rw[if_neg (by omega),e3,qga]
end Go.Abs.W
