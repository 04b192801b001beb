/- Parts of the proof: FpSe0, FpSe1, FpSe2, FpSe3, FpSe4, FpSe5, FpSe6, FpSe7, FpSe8, FpSe9, FpSeA, FpSeB, FpSeC, FpSeD, FpSeE, FpSeF. -/
import Derived.Test.YtpdchdfajhbglaaGreatDoorHm
import Derived.Test.YtpdchdfajhbglaaGreatDoorFi
import Derived.Test.YtpdchdfajhbglaaGreatDoorFe
import Derived.Test.YtpdchdfajhbglaaGreatDoorHy
import Derived.Test.YtpdchdfajhbglaaGreatDoorHp
namespace Go.Abs.W
@[simp] theorem qane {l:List Iv}:(ivs l).cells=[ivs l]:=rfl
theorem Out.new {H X:Heap}{blk:List V}{z:Nat}:Out H (H++X++[some ⟨z,blk,true,true⟩]) (.ref (H++X).length z 0 0) z []:=
 ⟨by rw[List.append_assoc];exact List.prefix_append _ _,.inr ⟨_,blk,by simp,rfl,by rw[List.getElem?_append_right (by simp)];simp,rfl,by simp⟩⟩
def bld (f:List Iv->Nat->Iv):Nat->List Iv
 |0=>[]
 |n+1=>bld f n++[f (bld f n) n]
@[simp] theorem qala {f:List Iv->Nat->Iv}:∀n,(bld f n).length=n
 |0=>rfl
 |n+1=>by simp[bld,qala n]
def at0 (a:List Iv)(k:Nat):Iv:=a[k]?.getD Iv.whole
theorem qair {a:List Iv}{k:Nat}(h:k<a.length):at0 a k=a[k]:=by simp[at0,h]
theorem at0_W {a:List Iv}{k:Nat}(w:∀x ∈ a,x.W):(at0 a k).W:=by
 unfold at0;cases h:a[k]? with
 |none=>exact Iv.whole_W
 |some x=>exact w _ (List.mem_of_getElem? h)
theorem qfy {H H':Heap}{b:Nat}{x:Option Blk}(hp:H <+: H')(hb:H[b]?=some x):H'[b]?=some x/\∀G:Heap,(H'++G)[b]?=some x:=by
 obtain⟨G,rfl⟩:=hp;have h:(H++G)[b]?=some x:=by rw[List.getElem?_append_left (List.getElem?_eq_some_iff.1 hb).1];exact hb
 exact⟨h,fun G'=>by rw[List.getElem?_append_left (List.getElem?_eq_some_iff.1 h).1];exact h⟩
theorem Out.get {H0 H:Heap}{l:List V}{z:Nat}{v:V}(h:Out H0 H v z l){i:Nat}(hi:i<l.length):∃b blk,v=.ref b z 0 l.length/\H[b]?=some (some ⟨z,blk,true,true⟩)/\blk[i]?=some l[i]:=by
 rcases h.val with ⟨e,_⟩|⟨b,blk,h1,h2,h3,h4,h5⟩
 ·rw[e]at hi;simp at hi
 ·refine⟨b,blk,h2,h3,?_⟩;have:(blk.take l.length)[i]?=l[i]?:=by rw[h4]
  rw[List.getElem?_take_of_lt hi]at this;rw[this,List.getElem?_eq_getElem hi]
@[simp] theorem qait {n k:Nat}:(n+k<n)=False:=by simp
theorem Out.cell {H0 H:Heap}{v:V}{z:Nat}{l:List V}(h:Out H0 H v z l):v.isTup=false/\v.cells=[v]/\∀w,v.withCells [w]=w:=by
 rcases h.val with ⟨_,e⟩|⟨b,blk,_,e,_⟩<;>subst e<;>exact⟨rfl,rfl,fun _=>rfl⟩
theorem Iv.sqrt_W' {x:Iv}{p:Int}:(x.sqrt p).W:=by
 unfold Iv.sqrt;split
 ·exact qq1 rSqrt_ok.w rSqrt_ok.w
 ·exact Iv.whole_W
structure LL (a:List Iv):Prop where
 len:a.length<=9223372036854775807
 lm:∀x ∈ a,x.Lm
theorem qen (a:List Iv)(ha:a≠[])(hl:a.length<=1000000)(H:Heap) :
 Ev prog (.call qe3 [ivs a] H) (.ret (.ref H.length 7 0 a.length) (H++[some ⟨7,a.map Iv.v,true,true⟩])):=by
 suffices CT prog qe3 [ivs a] H (fun v H'=>v=.ref H.length 7 0 a.length/\H'=H++[some ⟨7,a.map Iv.v,true,true⟩]) by
  obtain⟨v,H',e,rfl,rfl⟩:=this;exact e
 refine CT_of (f:=qbm) rfl (qj4 ?_);cases a with
 |nil=>exact absurd rfl ha
 |cons x t=>
  simp at hl;have e1:(t.length+1)*88<=140737488355328:=by omega
  simp[ivs,e1,qby,qbd,fin,ownV,qz8];exact List.take_of_length_le (by simp)
end Go.Abs.W
