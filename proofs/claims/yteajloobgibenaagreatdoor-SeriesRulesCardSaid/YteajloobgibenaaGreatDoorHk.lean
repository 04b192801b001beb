/- Parts of the proof: FpIvK, FpIvL. -/
import Derived.Test.YteajloobgibenaaGreatDoorHz
import Derived.Test.YteajloobgibenaaGreatDoorHh
/- The reference's exact sums and products. -/
namespace Go.Abs.W

def Dy.ex (d : Dy) : Dy × Int := (if d.valid then d else Dy.zero, if d.valid then 0 else 9)
end Go.Abs.W

/- The exact value is inside. -/
namespace Go.Abs.W

theorem IsDn.at {p : Nat} {r : Dy × Int} {le : Int → Prop} (h : IsDn p r le) (h0 : r.2 = 0) : le r.1.val := by
 rcases h with ⟨_, b, c⟩ | ⟨a, _⟩
 · exact (c _ b).1 (Int.le_refl _)
 · exact absurd h0 a

end Go.Abs.W

