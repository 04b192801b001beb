/- Parts of the proof: FpCat, FpSeG, FpSeH, FpSeI. -/
import Derived.Test.YtpdchdfajhbglaaGreatDoorSc
import Derived.Test.YtpdchdfajhbglaaGreatDoorHz
import Derived.Test.YtpdchdfajhbglaaGreatDoorHk
namespace Go.Abs.W
theorem Iv.Le.whole {x:Iv}:x.Le Iv.whole:=.inl rfl
theorem q71 {d:Dy}(h:d.isZ=true):d=Dy.zero:=by
 rcases d with ⟨n,m,e⟩;simp[Dy.isZ]at h;simp[Dy.zero,h]
theorem qanm {x a:Iv}(wx:x.W)(wa:a.W)(h:x.ins a=true):x.Le a:=by
 simp only[Iv.ins,Bool.and_eq_true,Bool.or_eq_true,Bool.not_eq_true',decide_eq_true_eq]at h;obtain⟨⟨hx,ha⟩,h⟩:=h;rcases h with h|⟨⟨h1,h2⟩,h3⟩
 ·left;rw[Iv.valid,if_pos h]at ha;simp only[Bool.and_eq_true]at ha;rcases a with ⟨l,u,b⟩;simp only at h ha;rw[q71 ha.1,q71 ha.2,h];rfl
 ·cases hb:a.all
  ·right;have k1:x.known=true:=by simp[Iv.known,h1,hx]
   have k2:a.known=true:=by simp[Iv.known,hb,ha]
   obtain⟨o1,o2⟩:=qai wx k1;obtain⟨o3,o4⟩:=qai wa k2;rw[qj1 o3 o1,cmpI_le]at h2;rw[qj1 o2 o4,cmpI_le]at h3;exact⟨k1,k2,h2,h3⟩
  ·left;rw[Iv.valid,if_pos hb]at ha;simp only[Bool.and_eq_true]at ha;rcases a with ⟨l,u,b⟩;simp only at hb ha;rw[q71 ha.1,q71 ha.2,hb];rfl
def LeL (a x:List Iv):Prop:=a.length=x.length/\∀i,(at0 a i).Le (at0 x i)
def InL (a x:List Iv):Prop:=a.length=x.length/\∀i,i<a.length->(at0 a i).ins (at0 x i)=true
theorem qaog {a:List Iv}{i:Nat}(h:a.length<=i):at0 a i=Iv.whole:=by simp[at0,List.getElem?_eq_none h]
theorem InL.le {a x:List Iv}(wa:∀y ∈ a,y.W)(wx:∀y ∈ x,y.W)(h:InL a x):LeL a x:=by
 refine⟨h.1,fun i=>?_⟩;rcases Nat.lt_or_ge i a.length with h1|h1
 ·exact qanm (at0_W wa) (at0_W wx) (h.2 i h1)
 ·rw[qaog (a:=x) (by have:=h.1;omega)];exact .inl rfl
theorem InL.allB {a x:List Iv}(h:InL a x):(decide (a.length=x.length)&&Go.Abs.W.allB Iv.ins a x)=true:=by
 simp only[Bool.and_eq_true,decide_eq_true_eq];refine⟨h.1,?_⟩;rw[qo9];intro i u v hu hv;have hi:=(List.getElem?_eq_some_iff.1 hu).1;have:=h.2 i hi;simp only[at0,hu,hv,Option.getD_some]at this;exact this
variable {a b x y : List Iv} {p : Int}
end Go.Abs.W
namespace Go.Abs.W
@[simp] theorem qams {H:Heap}{g:Nat}:qck H (.fn g [])=some (.fn g [],H):=rfl
@[simp] theorem qaj4 : V.nilfn.cells=[.nilfn]:=rfl
@[simp] theorem qal3 : V.nilfn.cellPure=true:=rfl
def Iv.pick (x:Iv):Rat:=if x.known=true then(x.lo.val:Rat)/sc else 0
end Go.Abs.W
