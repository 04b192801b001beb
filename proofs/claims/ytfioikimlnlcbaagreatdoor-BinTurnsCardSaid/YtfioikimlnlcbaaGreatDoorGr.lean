/- Parts of the proof: FpRead0. -/
import Derived.Test.YtfioikimlnlcbaaGreatDoorFd
import Derived.Test.YtfioikimlnlcbaaGreatDoorFe
namespace Go.Abs.W
open Go.ChangeShapes Go.RowKit
structure Dy.T (d:Dy):Prop where
 li:Li d.m
 len:d.m.length<=9223372036854775807
structure Iv.T (x:Iv):Prop where
 lo:x.lo.T
 hi:x.hi.T
structure BxT (l:List Iv):Prop where
 len:l.length<=9223372036854775807
 all:∀x ∈ l,x.T
section
variable {H : Type} {enc : TypeId × Value → H} {P : Program} {w : World} {gid : Gid}
theorem q82 {α:Type}{f:α->V}{Q:V->Prop}{T:α->Prop}(h:∀v,Q v->∃a,v=f a/\T a):∀{l:List V},(∀x ∈ l,Q x)->∃m:List α,l=m.map f/\∀a ∈ m,T a
 | [],_=>⟨[],rfl,by simp⟩
 |x :: l,hl=>by
  obtain⟨m,h1,h2⟩:=q82 h (l:=l) (fun y hy=>hl y (by simp[hy]));obtain⟨a,h3,h4⟩:=h x (hl x (by simp));refine⟨a :: m,by rw[h1,h3];rfl,fun b hb=>?_⟩;rcases List.mem_cons.1 hb with rfl|hb
  ·exact h4
  ·exact h2 b hb
theorem qagh {t e:TypeId}(ht:P.underlying t=some (.slice e))(he:P.underlying e=some (.int .u32))(hz:P.cellsOf e=1) :
 Rd enc P w gid t (fun v=>∃l:List Nat,v=lim l/\Li l/\l.length<=maxLen):=
 (qacf ht hz (by omega) (q3f he) (by rintro v ⟨n,rfl,_⟩;rfl)).mono fun v=>by
  rintro⟨l,rfl,hl,hlen⟩;obtain⟨m,h1,h2⟩:=q82 (f:=u32) (T:=fun n=>n<4294967296) (by
   rintro v ⟨n,rfl,h1,h2⟩;have h1':0<=n:=h1;have h2':n<=4294967295:=h2;refine⟨n.toNat,?_,by omega⟩;show V.int .u32 n=V.int .u32 (n.toNat:Int)
   congr 1;omega) hl
  exact⟨m,by rw[h1];rfl,h2,by rw[h1]at hlen;simpa using hlen⟩
theorem Qs3 {Q0 Q1 Q2:V->Prop}{vs:List V}(h:vs.length=3)(hq:∀(i:Nat) (v:V) (Q:V->Prop),vs[i]?=some v->[Q0,Q1,Q2][i]?=some Q->Q v):∃a b c,vs=[a,b,c]/\Q0 a/\Q1 b/\Q2 c:=by
 match vs,h with
 | [a,b,c],_=>exact⟨a,b,c,rfl,hq 0 a Q0 rfl rfl,hq 1 b Q1 rfl rfl,hq 2 c Q2 rfl rfl⟩
theorem rd_dy {t:TypeId}{f0 f1 f2:Field}(ht:P.underlying t=some (.struct #[f0,f1,f2]))(hz:P.cellsOf t=3)
 (h0:P.underlying f0.type=some .bool) (h1:Rd enc P w gid f1.type (fun v=>∃l:List Nat,v=lim l/\Li l/\l.length<=maxLen)) (h2:P.underlying f2.type=some (.int .i64))
 (hoff:[f0,f1,f2].foldl (fun(o:Option Nat) f=>o.bind fun o=>if f.offset=o then some (o+P.cellsOf f.type)else none) (some 0)=some 3) :
 Rd enc P w gid t (fun v=>∃d:Dy,v=d.v/\d.T):=
 (qyf [fun v=>∃b,v=.bool b,fun v=>∃l:List Nat,v=lim l/\Li l/\l.length<=maxLen,fun v=>∃n,v=.int .i64 n/\IntKind.i64.min<=n/\n<=IntKind.i64.max] ht hz rfl (by
  intro i f Q hf hQ
  match i with
  |0=>cases hf;cases hQ;exact q74 h0
  |1=>cases hf;cases hQ;exact h1
  |2=>cases hf;cases hQ;exact q3f h2
  |i+3=>simp at hf) hoff).mono fun v=>by
  rintro⟨vs,rfl,hl,hq⟩;obtain⟨a,b,c,rfl,⟨x,rfl⟩,⟨l,rfl,g1,g2⟩,⟨n,rfl,_⟩⟩:=Qs3 hl hq;exact⟨⟨x,l,n⟩,rfl,⟨g1,g2⟩⟩
theorem rd_iv {t:TypeId}{f0 f1 f2:Field}(ht:P.underlying t=some (.struct #[f0,f1,f2]))(hz:P.cellsOf t=7)
 (h0:Rd enc P w gid f0.type (fun v=>∃d:Dy,v=d.v/\d.T)) (h1:Rd enc P w gid f1.type (fun v=>∃d:Dy,v=d.v/\d.T)) (h2:P.underlying f2.type=some .bool)
 (hoff:[f0,f1,f2].foldl (fun(o:Option Nat) f=>o.bind fun o=>if f.offset=o then some (o+P.cellsOf f.type)else none) (some 0)=some 7) :
 Rd enc P w gid t (fun v=>∃x:Iv,v=x.v/\x.T):=
 (qyf [fun v=>∃d:Dy,v=d.v/\d.T,fun v=>∃d:Dy,v=d.v/\d.T,fun v=>∃b,v=.bool b] ht hz rfl (by
  intro i f Q hf hQ
  match i with
  |0=>cases hf;cases hQ;exact h0
  |1=>cases hf;cases hQ;exact h1
  |2=>cases hf;cases hQ;exact q74 h2
  |i+3=>simp at hf) hoff).mono fun v=>by
  rintro⟨vs,rfl,hl,hq⟩;obtain⟨a,b,c,rfl,⟨x,rfl,tx⟩,⟨y,rfl,ty⟩,⟨z,rfl⟩⟩:=Qs3 hl hq;exact⟨⟨x,y,z⟩,rfl,⟨tx,ty⟩⟩
end
end Go.Abs.W
