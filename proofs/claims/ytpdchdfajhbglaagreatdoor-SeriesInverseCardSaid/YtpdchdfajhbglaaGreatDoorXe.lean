/- Parts of the proof: FpXj, FpXk. -/
import Derived.Test.YtpdchdfajhbglaaGreatDoorXd
namespace Go.Abs.W
def Iv.Gd (x:Iv):Prop:=x=Iv.whole\/x.known=true
theorem qtt {r s:Iv}(h:r.ins s=true):r.valid=true:=by
 simp only[Iv.ins,Bool.and_eq_true]at h;exact h.1.1
theorem Gd.of_valid {r:Iv}(h:r.valid=true)(hw:r.all=true->r=Iv.whole):r.Gd:=by
 cases ha:r.all
 ·right;simp[Iv.known,ha,h]
 ·exact .inl (hw ha)
theorem q74 {r s:Dy × Int}(h:(Iv.made r s).all=true):Iv.made r s=Iv.whole:=by
 unfold Iv.made at h ⊢;split at h
 ·cases h
 ·rename_i h2;rw[if_neg h2]
theorem q8k {f g:Dy->Dy->Dy × Int}{x y:Iv}(h:(Iv.four f g x y).all=true):Iv.four f g x y=Iv.whole:=by
 by_cases hg:good4 f g x y 4
 ·rw[qfo hg]at h;cases h
 ·exact q0v hg
theorem qajo {x y:Iv}{p:Int}(wx:x.W)(wy:y.W):(x.mul y p).Gd:=by
 unfold Iv.mul;split
 ·rename_i h;have h2:=h;simp only[Bool.and_eq_true]at h2;have v:=qtt (qalp (p:=p) wx wy wx wy (.inr ⟨h2.1.1,h2.1.1,Int.le_refl _,Int.le_refl _⟩) (.inr ⟨h2.1.2,h2.1.2,Int.le_refl _,Int.le_refl _⟩));unfold Iv.mul at v;rw[if_pos h]at v;exact Gd.of_valid v q8k
 ·exact .inl rfl
theorem qap5 {x y:Iv}{p:Int}(wx:x.W)(wy:y.W):(x.div y p).Gd:=by
 unfold Iv.div;split
 ·rename_i h;have h2:=h;simp only[Bool.and_eq_true]at h2;have v:=qtt (qamo (p:=p) wx wy wx wy (.inr ⟨h2.1.1.1,h2.1.1.1,Int.le_refl _,Int.le_refl _⟩) (.inr ⟨h2.1.1.2,h2.1.1.2,Int.le_refl _,Int.le_refl _⟩));unfold Iv.div at v;rw[if_pos h]at v;exact Gd.of_valid v q8k
 ·exact .inl rfl
end Go.Abs.W
