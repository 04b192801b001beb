/- Parts of the proof: FpIvK, FpIvL, FpQ. -/
import Derived.Test.YtnkijamajifgpaaGreatDoorHz
import Derived.Test.YtnkijamajifgpaaGreatDoorHh
import Derived.Test.YtnkijamajifgpaaGreatDoorFe
namespace Go.Abs.W
def Dy.ex (d : Dy) : Dy × Int := (if d.valid then d else Dy.zero, if d.valid then 0 else 9)
end Go.Abs.W
namespace Go.Abs.W
theorem IsDn.at {p : Nat} {r : Dy × Int} {le : Int → Prop} (h : IsDn p r le) (h0 : r.2 = 0) : le r.1.val := by
 rcases h with ⟨_, b, c⟩ | ⟨a, _⟩
 · exact (c _ b).1 (Int.le_refl _)
 · exact absurd h0 a
end Go.Abs.W
namespace Go.Abs.W
def sc : Rat := (pw 16384 : Int)
theorem q2t : 0 < sc := by
 have := Rat.intCast_lt_intCast.2 (qmz 16384)
 simpa [sc] using this
def Iv.In (x : Iv) (q : Rat) : Prop := x.known = true → (x.lo.val : Rat) ≤ q * sc ∧ q * sc ≤ (x.hi.val : Rat)
theorem Iv.In.whole {q : Rat} : Iv.whole.In q := fun h => by cases h
theorem In.meet {x y : Iv} {q : Rat} (kx : x.known = true) (ky : y.known = true) (hx : x.In q) (hy : y.In q) : x.lo.val ≤ y.hi.val ∧ y.lo.val ≤ x.hi.val := by
 obtain ⟨a, b⟩ := hx kx
 obtain ⟨c, d⟩ := hy ky
 exact ⟨Rat.intCast_le_intCast.1 (Rat.le_trans a d), Rat.intCast_le_intCast.1 (Rat.le_trans c b)⟩
end Go.Abs.W
