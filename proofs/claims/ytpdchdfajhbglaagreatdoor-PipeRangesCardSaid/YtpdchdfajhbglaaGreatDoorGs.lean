/- Parts of the proof: FpReadP, FpReadT. -/
import Derived.Test.YtpdchdfajhbglaaGreatDoorGr
import Derived.Test.YtpdchdfajhbglaaGreatDoorPa
import Derived.Test.YtpdchdfajhbglaaGreatDoorPt
namespace Go.Abs.W
open Go.ChangeShapes Go.RowKit
section
variable {H : Type} {enc : TypeId × Value → H} {P : Program} {w : World} {gid : Gid}
theorem rd_sg {t:TypeId}{f0 f1 f2 f3:Field}(ht:P.underlying t=some (.struct #[f0,f1,f2,f3]))(hz:P.cellsOf t=8)
 (h0:Rd enc P w gid f0.type (fun v=>∃d:Dy,v=d.v/\d.T)) (h1:Rd enc P w gid f1.type (fun v=>∃d:Dy,v=d.v/\d.T))
 (h2:Rd enc P w gid f2.type (fun v=>∃l:List Iv,v=ivs l/\BxT l)) (h3:Rd enc P w gid f3.type (fun v=>∃l:List Iv,v=ivs l/\BxT l))
 (hoff:[f0,f1,f2,f3].foldl (fun(o:Option Nat) f=>o.bind fun o=>if f.offset=o then some (o+P.cellsOf f.type)else none) (some 0)=some 8) :
 Rd enc P w gid t (fun v=>∃s:Sg,v=s.v/\s.T):=
 (qh6 [fun v=>∃d:Dy,v=d.v/\d.T,fun v=>∃d:Dy,v=d.v/\d.T,fun v=>∃l:List Iv,v=ivs l/\BxT l,fun v=>∃l:List Iv,v=ivs l/\BxT l] ht hz rfl (by
  intro i f Q hf hQ
  match i with
  |0=>cases hf;cases hQ;exact h0
  |1=>cases hf;cases hQ;exact h1
  |2=>cases hf;cases hQ;exact h2
  |3=>cases hf;cases hQ;exact h3
  |i+4=>simp at hf) hoff).mono fun v=>by
  rintro⟨vs,rfl,hl,hq⟩;obtain⟨a,b,c,d,rfl,⟨x,rfl,tx⟩,⟨y,rfl,ty⟩,⟨z,rfl,tz⟩,⟨u,rfl,tu⟩⟩:=Qs4 hl hq;exact⟨⟨x,y,z,u⟩,rfl,⟨tx,ty,tz,tu⟩⟩
theorem qamn {t e:TypeId}(ht:P.underlying t=some (.slice e))(hz:P.cellsOf e=8)(he:Rd enc P w gid e (fun v=>∃x:Sg,v=x.v/\x.T)) :
 Rd enc P w gid t (fun v=>∃l:List Sg,v=sgs l/\(∀s ∈ l,s.T)/\l.length<=maxLen):=
 (qqy ht hz (by omega) he (by rintro v ⟨n,rfl,_⟩;rfl)).mono fun v=>by
  rintro⟨l,rfl,hl,hlen⟩;obtain⟨m,h1,h2⟩:=qrv (f:=Sg.v) (T:=Sg.T) (fun v h=>h) hl;exact⟨m,by rw[h1];rfl,h2,by rw[h1]at hlen;simpa using hlen⟩
theorem rd_pp {t:TypeId}{f0 f1:Field}(ht:P.underlying t=some (.struct #[f0,f1]))(hz:P.cellsOf t=2)
 (h0:Rd enc P w gid f0.type (fun v=>∃l:List Iv,v=ivs l/\BxT l)) (h1:Rd enc P w gid f1.type (fun v=>∃l:List Sg,v=sgs l/\(∀s ∈ l,s.T)/\l.length<=maxLen))
 (hoff:[f0,f1].foldl (fun(o:Option Nat) f=>o.bind fun o=>if f.offset=o then some (o+P.cellsOf f.type)else none) (some 0)=some 2) :
 Rd enc P w gid t (fun v=>∃p:Pp,v=p.v/\p.T):=
 (qh6 [fun v=>∃l:List Iv,v=ivs l/\BxT l,fun v=>∃l:List Sg,v=sgs l/\(∀s ∈ l,s.T)/\l.length<=maxLen] ht hz rfl (by
  intro i f Q hf hQ
  match i with
  |0=>cases hf;cases hQ;exact h0
  |1=>cases hf;cases hQ;exact h1
  |i+2=>simp at hf) hoff).mono fun v=>by
  rintro⟨vs,rfl,hl,hq⟩;obtain⟨a,b,rfl,⟨x,rfl,tx⟩,⟨y,rfl,ty,tl⟩⟩:=Qs2 hl hq;exact⟨⟨x,y⟩,rfl,⟨tx,tl,ty⟩⟩
end
end Go.Abs.W
namespace Go.Abs.W
open Go.ChangeShapes Go.RowKit
section
variable {H : Type} {enc : TypeId × Value → H} {P : Program} {w : World} {gid : Gid}
theorem Qs5 {Q0 Q1 Q2 Q3 Q4:V->Prop}{vs:List V}(h:vs.length=5)(hq:∀(i:Nat) (v:V) (Q:V->Prop),vs[i]?=some v->[Q0,Q1,Q2,Q3,Q4][i]?=some Q->Q v):∃a b c d e,vs=[a,b,c,d,e]/\Q0 a/\Q1 b/\Q2 c/\Q3 d/\Q4 e:=by
 match vs,h with
 | [a,b,c,d,e],_=>exact⟨a,b,c,d,e,rfl,hq 0 a Q0 rfl rfl,hq 1 b Q1 rfl rfl,hq 2 c Q2 rfl rfl,hq 3 d Q3 rfl rfl,hq 4 e Q4 rfl rfl⟩
abbrev isI (v:V):Prop:=∃n,v=.int .i64 n/\IntKind.i64.min<=n/\n<=IntKind.i64.max
theorem rd_rt {t:TypeId}{f0 f1:Field}(ht:P.underlying t=some (.struct #[f0,f1]))(hz:P.cellsOf t=2)(h0:P.underlying f0.type=some (.int .i64))(h1:P.underlying f1.type=some (.int .i64))
 (hoff:[f0,f1].foldl (fun(o:Option Nat) f=>o.bind fun o=>if f.offset=o then some (o+P.cellsOf f.type)else none) (some 0)=some 2) :
 Rd enc P w gid t (fun v=>∃n d:Int,v=.agg [.int .i64 n,.int .i64 d]):=
 (qh6 [isI,isI] ht hz rfl (by
  intro i f Q hf hQ
  match i with
  |0=>cases hf;cases hQ;exact qnq h0
  |1=>cases hf;cases hQ;exact qnq h1
  |i+2=>simp at hf) hoff).mono fun v=>by
  rintro⟨vs,rfl,hl,hq⟩;obtain⟨a,b,rfl,⟨x,rfl,_⟩,⟨y,rfl,_⟩⟩:=Qs2 hl hq;exact⟨x,y,rfl⟩
theorem rd_op {t:TypeId}{f0 f1 f2 f3 f4:Field}(ht:P.underlying t=some (.struct #[f0,f1,f2,f3,f4]))(hz:P.cellsOf t=6)
 (h0:P.underlying f0.type=some (.int .i64)) (h1:P.underlying f1.type=some (.int .i64)) (h2:P.underlying f2.type=some (.int .i64)) (h3:P.underlying f3.type=some (.int .i64))
 (h4:Rd enc P w gid f4.type (fun v=>∃n d:Int,v=.agg [.int .i64 n,.int .i64 d]))
 (hoff:[f0,f1,f2,f3,f4].foldl (fun(o:Option Nat) f=>o.bind fun o=>if f.offset=o then some (o+P.cellsOf f.type)else none) (some 0)=some 6) :
 Rd enc P w gid t (fun v=>∃o:Op6,v=o.v/\True):=
 (qh6 [isI,isI,isI,isI,fun v=>∃n d:Int,v=.agg [.int .i64 n,.int .i64 d]] ht hz rfl (by
  intro i f Q hf hQ
  match i with
  |0=>cases hf;cases hQ;exact qnq h0
  |1=>cases hf;cases hQ;exact qnq h1
  |2=>cases hf;cases hQ;exact qnq h2
  |3=>cases hf;cases hQ;exact qnq h3
  |4=>cases hf;cases hQ;exact h4
  |i+5=>simp at hf) hoff).mono fun v=>by
  rintro⟨vs,rfl,hl,hq⟩;obtain⟨a,b,c,d,e,rfl,⟨x,rfl,_⟩,⟨y,rfl,_⟩,⟨z,rfl,_⟩,⟨u,rfl,_⟩,⟨n,m,rfl⟩⟩:=Qs5 hl hq;exact⟨⟨x,y,z,u,n,m⟩,rfl,trivial⟩
theorem qamo {t e:TypeId}(ht:P.underlying t=some (.slice e))(hz:P.cellsOf e=6)(he:Rd enc P w gid e (fun v=>∃o:Op6,v=o.v/\True)) :
 Rd enc P w gid t (fun v=>∃l:List Op6,v=.sl (l.map Op6.v)/\l.length<=maxLen):=
 (qqy ht hz (by omega) he (by rintro v ⟨n,rfl,_⟩;rfl)).mono fun v=>by
  rintro⟨l,rfl,hl,hlen⟩;obtain⟨m,h1,_⟩:=qrv (f:=Op6.v) (T:=fun _=>True) (fun v h=>h) hl;exact⟨m,by rw[h1],by rw[h1]at hlen;simpa using hlen⟩
theorem qaju {t e:TypeId}(ht:P.underlying t=some (.slice e))(hz:P.cellsOf e=1)(he:P.underlying e=some (.int .i64)) :
 Rd enc P w gid t (fun v=>∃l:List Int,v=.sl (l.map iv64)/\l.length<=maxLen):=
 (qqy ht hz (by omega) (qnq he) (by rintro v ⟨n,rfl,_⟩;rfl)).mono fun v=>by
  rintro⟨l,rfl,hl,hlen⟩;obtain⟨m,h1,_⟩:=qrv (f:=iv64) (T:=fun _=>True) (by rintro v ⟨n,rfl,_⟩;exact⟨n,rfl,trivial⟩) hl;exact⟨m,by rw[h1],by rw[h1]at hlen;simpa using hlen⟩
structure Tp.T (t:Tp):Prop where
 ops:t.ops.length<=9223372036854775807
 outs:t.outs.length<=9223372036854775807
theorem rd_tp {t:TypeId}{f0 f1 f2:Field}(ht:P.underlying t=some (.struct #[f0,f1,f2]))(hz:P.cellsOf t=3)
 (h0:P.underlying f0.type=some (.int .i64)) (h1:Rd enc P w gid f1.type (fun v=>∃l:List Op6,v=.sl (l.map Op6.v)/\l.length<=maxLen)) (h2:Rd enc P w gid f2.type (fun v=>∃l:List Int,v=.sl (l.map iv64)/\l.length<=maxLen))
 (hoff:[f0,f1,f2].foldl (fun(o:Option Nat) f=>o.bind fun o=>if f.offset=o then some (o+P.cellsOf f.type)else none) (some 0)=some 3) :
 Rd enc P w gid t (fun v=>∃x:Tp,v=x.v/\x.T):=
 (qh6 [isI,fun v=>∃l:List Op6,v=.sl (l.map Op6.v)/\l.length<=maxLen,fun v=>∃l:List Int,v=.sl (l.map iv64)/\l.length<=maxLen] ht hz rfl (by
  intro i f Q hf hQ
  match i with
  |0=>cases hf;cases hQ;exact qnq h0
  |1=>cases hf;cases hQ;exact h1
  |2=>cases hf;cases hQ;exact h2
  |i+3=>simp at hf) hoff).mono fun v=>by
  rintro⟨vs,rfl,hl,hq⟩;obtain⟨a,b,c,rfl,⟨x,rfl,_⟩,⟨y,rfl,ly⟩,⟨z,rfl,lz⟩⟩:=Qs3 hl hq;exact⟨⟨x,y,z⟩,rfl,⟨ly,lz⟩⟩
end
end Go.Abs.W
