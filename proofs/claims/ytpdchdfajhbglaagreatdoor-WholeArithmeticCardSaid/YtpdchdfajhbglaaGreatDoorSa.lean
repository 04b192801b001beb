/- Parts of the proof: FpSe0, FpSe1, FpSe2. -/
import Derived.Test.YtpdchdfajhbglaaGreatDoorHh
import Derived.Test.YtpdchdfajhbglaaGreatDoorFi
import Derived.Test.YtpdchdfajhbglaaGreatDoorFe
namespace Go.Abs.W
@[simp] theorem qakr {l:List Iv}:(ivs l).cells=[ivs l]:=rfl
theorem Out.new {H X:Heap}{blk:List V}{z:Nat}:Out H (H++X++[some ⟨z,blk,true,true⟩]) (.ref (H++X).length z 0 0) z []:=
 ⟨by rw[List.append_assoc];exact List.prefix_append _ _,.inr ⟨_,blk,by simp,rfl,by rw[List.getElem?_append_right (by simp)];simp,rfl,by simp⟩⟩
def bld (f:List Iv->Nat->Iv):Nat->List Iv
 |0=>[]
 |n+1=>bld f n++[f (bld f n) n]
@[simp] theorem qain {f:List Iv->Nat->Iv}:∀n,(bld f n).length=n
 |0=>rfl
 |n+1=>by simp[bld,qain n]
theorem qeh {H H':Heap}{b:Nat}{x:Option Blk}(hp:H <+: H')(hb:H[b]?=some x):H'[b]?=some x/\∀G:Heap,(H'++G)[b]?=some x:=by
 obtain⟨G,rfl⟩:=hp;have h:(H++G)[b]?=some x:=by rw[List.getElem?_append_left (List.getElem?_eq_some_iff.1 hb).1];exact hb
 exact⟨h,fun G'=>by rw[List.getElem?_append_left (List.getElem?_eq_some_iff.1 h).1];exact h⟩
end Go.Abs.W
