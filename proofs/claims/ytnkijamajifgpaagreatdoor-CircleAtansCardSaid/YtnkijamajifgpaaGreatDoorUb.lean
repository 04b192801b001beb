/- Parts of the proof: FpUd, FpUe, FpUf, FpUg. -/
import Derived.Test.YtnkijamajifgpaaGreatDoorUa
import Derived.Test.YtnkijamajifgpaaGreatDoorXf
import Derived.Test.YtnkijamajifgpaaGreatDoorCf
namespace Go.Abs.W
theorem q0r {a:Fx} {b:Nat} {p:Int} (hp:precB p=true) (ha:bitL a.n≤4000) (hb:b≤8000):Iv.near a b p=(Iv.mk (nearL a b) (nearH a b) false).rnd p∧(nearL a b).Ok∧(nearH a b).Ok:=by
 obtain ⟨r1,r2⟩:=q49 ha hb
 obtain ⟨v1,v2⟩:=q5a (a:=a) (b:=b) (by omega)
 have o1:(nearL a b).Ok:=Dy.of_ok r1
 have o2:(nearH a b).Ok:=Dy.of_ok r2
 have k:(Iv.mk (nearL a b) (nearH a b) false).known=true:=by
   refine qbx o1 o2 ?_
   rw [v1,v2]
   exact Int.mul_le_mul_of_nonneg_right (by omega) (Int.le_of_lt (qa3 _))
 refine ⟨?_,o1,o2⟩
 unfold Iv.near Iv.rnd
 rw [r1,r2,k,hp]
theorem qair {a:Fx} {b:Nat} {p:Int} {q:Rat} (hp:precB p=true) (ha:bitL a.n≤4000) (hb:b≤8000) (h:Bd ((a.int:Rat)-q*p2 b) 16777216):(Iv.near a b p).In q:=by
 obtain ⟨e,o1,o2⟩:=q0r hp ha hb
 rw [e]
 refine qak7 ⟨o1.w,o2.w⟩ fun _=>?_
 obtain ⟨v1,v2⟩:=q5a (a:=a) (b:=b) (by omega)
 show (((nearL a b).val:Int):Rat)≤_∧_≤(((nearH a b).val:Int):Rat)
 have e24:((2^24:Int):Rat)=16777216:=rfl
 rw [v1,v2,Rat.intCast_mul,Rat.intCast_mul,Rat.intCast_sub,Rat.intCast_add,e24,pwq]
 have es:sc=p2 b*p2 (16384-b):=(pwq 16384).trans ((congrArg p2 (show 16384=b+(16384-b) by omega)).trans (q0m _ _))
 rw [es]
 have P:=qe1 (16384-b)
 obtain ⟨u,v⟩:=h
 have m1:=mul_nn (show 0≤16777216+((a.int:Rat)-q*p2 b) by grind) (Rat.le_of_lt P)
 have m2:=mul_nn (show 0≤16777216-((a.int:Rat)-q*p2 b) by grind) (Rat.le_of_lt P)
 generalize p2 (16384-b)=W at *
 constructor<;>grind
theorem qaen {a:Fx} {b:Nat} {p:Int} {s:Nat→Rat} (hp:precB p=true) (ha:bitL a.n≤4000) (hb:b≤8000) (h:∃ N,∀ n,N≤n→Bd ((a.int:Rat)-s n*p2 b) 16777216):(Iv.near a b p).Has s:=by
 obtain ⟨N,hN⟩:=h
 exact Iv.Has.of_ev N fun n hn=>qair hp ha hb (hN n hn)
theorem qait:(nD 1).rat=1:=qali 1
def pis:Nat→Rat:=fun n=>2*hpi n
end Go.Abs.W
namespace Go.Abs.W
end Go.Abs.W
namespace Go.Abs.W
end Go.Abs.W
namespace Go.Abs.W
theorem qwt {x y:Iv} (wx:x.W) (wy:y.W) (kx:x.known=true) (ky:y.known=true):(x.hull y).known=true∧(x.hull y).lo.val=min x.lo.val y.lo.val∧(x.hull y).hi.val=max x.hi.val y.hi.val:=by
 obtain ⟨a1,a2⟩:=qak wx kx
 obtain ⟨b1,b2⟩:=qak wy ky
 have l1:=qaw wx kx
 have e:x.hull y=⟨x.lo.lo2 y.lo,x.hi.hi2 y.hi,false⟩:=by unfold Iv.hull; rw [kx,ky]; rfl
 have v1:=qe3 a1 b1
 have v2:=qdx a2 b2
 rw [e]
 exact ⟨qbx (qqw a1 b1) (qn4 a2 b2) (by rw [v1,v2]; omega),v1,v2⟩
end Go.Abs.W
