/- Parts of the proof: FpQ2, FpQ3, FpXa, FpXb, FpXc, FpXd. -/
import Derived.Test.YtnkijamajifgpaaGreatDoorHk
import Derived.Test.YtnkijamajifgpaaGreatDoorXa
import Derived.Test.YtnkijamajifgpaaGreatDoorHp
import Derived.Test.YtnkijamajifgpaaGreatDoorFe
import Derived.Test.YtnkijamajifgpaaGreatDoorHy
namespace Go.Abs.W
def Iv.Has (x : Iv) (s : Nat → Rat) : Prop := ∃ c : Nat → Rat, (∀ n, x.In (c n)) ∧ Near s c
theorem Iv.Has.near {x : Iv} {s t : Nat → Rat} (h : x.Has s) (k : Near t s) : x.Has t := by
 obtain ⟨c, h1, h2⟩ := h
 exact ⟨c, h1, k.trans h2⟩
theorem Iv.In.has {x : Iv} {q : Rat} (h : x.In q) : x.Has (fun _ => q) := ⟨_, fun _ => h, Near.refl _⟩
theorem Iv.Has.whole {s : Nat → Rat} : Iv.whole.Has s := ⟨s, fun _ => .whole, Near.refl s⟩
end Go.Abs.W
namespace Go.Abs.W
end Go.Abs.W
namespace Go.Abs.W
end Go.Abs.W
namespace Go.Abs.W
end Go.Abs.W
namespace Go.Abs.W
def Dy.rat (d : Dy) : Rat := (d.val : Rat) * sc⁻¹
theorem q2w (d : Dy) : d.rat * sc = (d.val : Rat) := by
 unfold Dy.rat
 have hs := q2t
 rw [Rat.mul_assoc, Rat.inv_mul_cancel sc (by grind), Rat.mul_one]
end Go.Abs.W
namespace Go.Abs.W
def Iv.HasLog (x : Iv) (d : Rat) : Prop := x.known = true → ELo x.lo.rat d ∧ EHi d x.hi.rat
theorem HasLog.meet {x y : Iv} {d : Rat} (kx : x.known = true) (ky : y.known = true) (hx : x.HasLog d) (hy : y.HasLog d) : x.lo.val ≤ y.hi.val ∧ y.lo.val ≤ x.hi.val := by
 obtain ⟨a, b⟩ := hx kx
 obtain ⟨c, e⟩ := hy ky
 have key : ∀ {u v : Dy}, u.rat ≤ v.rat → u.val ≤ v.val := by
   intro u v h
   have := Rat.mul_le_mul_of_nonneg_right h (Rat.le_of_lt q2t)
   rw [q2w, q2w] at this
   exact Rat.intCast_le_intCast.1 this
 exact ⟨key (a.le e), key (c.le b)⟩
end Go.Abs.W
