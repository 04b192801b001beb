/- Parts of the proof: FpXj, FpXk. -/
import Derived.Test.YtnkijamajifgpaaGreatDoorXd
namespace Go.Abs.W
def Iv.Gd (x : Iv) : Prop := x = Iv.whole ∨ x.known = true
theorem q8e {r s : Iv} (h : r.ins s = true) : r.valid = true := by
 simp only [Iv.ins, Bool.and_eq_true] at h
 exact h.1.1
theorem Gd.of_valid {r : Iv} (h : r.valid = true) (hw : r.all = true → r = Iv.whole) : r.Gd := by
 cases ha : r.all
 · right; simp [Iv.known, ha, h]
 · exact .inl (hw ha)
theorem q77 {r s : Dy × Int} (h : (Iv.made r s).all = true) : Iv.made r s = Iv.whole := by
 unfold Iv.made at h ⊢
 split at h
 · cases h
 · rename_i h2; rw [if_neg h2]
end Go.Abs.W
namespace Go.Abs.W
def meetB (x y : Iv) : Bool := (x.meet y).isSome
end Go.Abs.W
