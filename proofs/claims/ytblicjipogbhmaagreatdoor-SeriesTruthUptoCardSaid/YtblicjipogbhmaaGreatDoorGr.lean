import Derived.Test.YtblicjipogbhmaaGreatDoorFd
import Derived.Test.YtblicjipogbhmaaGreatDoorFe
namespace Go.Abs.W
open Go.ChangeShapes Go.RowKit
structure Dy.T (d:Dy):Prop where
 li:Li d.m
 len:d.m.length<=9223372036854775807
structure Iv.T (x:Iv):Prop where
 lo:x.lo.T
 hi:x.hi.T
structure BxT (l:List Iv):Prop where
 len:l.length<=9223372036854775807
 all:∀x ∈ l,x.T
section
variable {H : Type} {enc : TypeId × Value → H} {P : Program} {w : World} {gid : Gid}
theorem s8 {d:Type}{f:d->V}{Q:V->Prop}{T:d->Prop}(h:∀v,Q v->∃a,v=f a/\T a):∀{l:List V},(∀x ∈ l,Q x)->∃m:List d,l=m.map f/\∀a ∈ m,T a
 | [],_=>⟨[],rfl,by simp⟩
 |x :: l,e=>by
  obtain⟨m,g,i⟩:=s8 h (l:=l) (fun y n=>e y (by simp[n]));obtain⟨a,j,k⟩:=h x (e x (by simp));refine⟨a :: m,by rw[g,j];rfl,fun b c=>?_⟩;rcases Wz.1 c with rfl|c
  ·exact k
  ·exact i b c
theorem LB {t e:TypeId}(j:P.underlying t=some (.slice e))(h:P.underlying e=some (.int .u32))(hz:P.cellsOf e=1) :
 Rd enc P w gid t (fun v=>∃l:List Nat,v=lim l/\Li l/\l.length<=maxLen):=
 (zN j hz (by omega) (rZ h) (by rintro v ⟨n,rfl,_⟩;rfl)).mono fun v=>by
  rintro⟨l,rfl,i,a⟩;obtain⟨m,b,c⟩:=s8 (f:=u32) (T:=fun n=>n<4294967296) (by
   rintro v ⟨n,rfl,b,c⟩;have d:0<=n:=b;have g:n<=4294967295:=c;refine⟨n.toNat,?_,by omega⟩;show V.int .u32 n=V.int .u32 (n.toNat:Int)
   congr 1;omega) i
  exact⟨m,by rw[b];rfl,c,by rw[b]at a;simpa using a⟩
theorem Qs3 {d e f:V->Prop}{vs:List V}(h:vs.length=3)(g:∀(i:Nat) (v:V) (Q:V->Prop),vs[i]?=some v->[d,e,f][i]?=some Q->Q v):∃a b c,vs=[a,b,c]/\d a/\e b/\f c:=by
 match vs,h with
 | [a,b,c],_=>exact⟨a,b,c,rfl,g 0 a d rfl rfl,g 1 b e rfl rfl,g 2 c f rfl rfl⟩
theorem uC {t:TypeId}{h j k:Field}(A:P.underlying t=some (.struct #[h,j,k]))(hz:P.cellsOf t=3)
 (r:P.underlying h.type=some .bool) (s:Rd enc P w gid j.type (fun v=>∃l:List Nat,v=lim l/\Li l/\l.length<=maxLen)) (u:P.underlying k.type=some (.int .i64))
 (e:[h,j,k].foldl (fun(o:Option Nat) f=>o.bind fun o=>if f.offset=o then some (o+P.cellsOf f.type)else none) (some 0)=some 3) :
 Rd enc P w gid t (fun v=>∃d:Dy,v=d.v/\d.T):=
 (PD [fun v=>∃b,v=.bool b,fun v=>∃l:List Nat,v=lim l/\Li l/\l.length<=maxLen,fun v=>∃n,v=.int .i64 n/\IntKind.i64.min<=n/\n<=IntKind.i64.max] A hz rfl (by
  intro i f Q g m
  match i with
  |0=>cases g;cases m;exact LA r
  |1=>cases g;cases m;exact s
  |2=>cases g;cases m;exact rZ u
  |i+3=>simp at g) e).mono fun v=>by
  rintro⟨B,rfl,y,z⟩;obtain⟨a,b,c,rfl,⟨x,rfl⟩,⟨l,rfl,p,q⟩,⟨n,rfl,_⟩⟩:=Qs3 y z;exact⟨⟨x,l,n⟩,rfl,⟨p,q⟩⟩
end
