/- Parts of the proof: FpGal, FpGalO, FpGalP, FpIvR. -/
import Derived.Test.YtmhloagengcelaaGreatDoorHm
import Derived.Test.YtmhloagengcelaaGreatDoorFh
import Derived.Test.YtmhloagengcelaaGreatDoorFi
/- Rounding, as the nearest number of p bits below and above. -/
namespace Go.Abs.W

/-- The bound of all numbers, times 2^16384. -/
def capE : Nat := 32768
def capN : Nat := 2 ^ capE

def Gr (p g : Nat) : Prop := ∃ q k, g = q * 2 ^ k ∧ q ≤ 2 ^ p

/-- A number of p bits, below the bound, times 2^16384. -/
def Grid (p g : Nat) : Prop := Gr p g ∧ g < capN
end Go.Abs.W

/- Rounding of signed numbers; sums and products. -/
namespace Go.Abs.W

def GridI (p : Nat) (g : Int) : Prop := Grid p g.natAbs
/-- The greatest number of p bits with le; an error if there is none. -/
def IsDn (p : Nat) (r : Dy × Int) (le : Int → Prop) : Prop := (r.2 = 0 ∧ GridI p r.1.val ∧ ∀ g, GridI p g → (g ≤ r.1.val ↔ le g)) ∨ (r.2 ≠ 0 ∧ ∀ g, GridI p g → ¬ le g)
def IsUp (p : Nat) (r : Dy × Int) (ge : Int → Prop) : Prop := (r.2 = 0 ∧ GridI p r.1.val ∧ ∀ g, GridI p g → (r.1.val ≤ g ↔ ge g)) ∨ (r.2 ≠ 0 ∧ ∀ g, GridI p g → ¬ ge g)

theorem IsDn.congr {p : Nat} {r : Dy × Int} {le le2 : Int → Prop} (h : IsDn p r le) (he : ∀ g, le g ↔ le2 g) : IsDn p r le2 := by
  rcases h with ⟨h1, h2, h3⟩ | ⟨h1, h2⟩
  · exact .inl ⟨h1, h2, fun g hg => (h3 g hg).trans (he g)⟩
  · exact .inr ⟨h1, fun g hg h => h2 g hg ((he g).2 h)⟩
theorem IsUp.congr {p : Nat} {r : Dy × Int} {le le2 : Int → Prop} (h : IsUp p r le) (he : ∀ g, le g ↔ le2 g) : IsUp p r le2 := by
  rcases h with ⟨h1, h2, h3⟩ | ⟨h1, h2⟩
  · exact .inl ⟨h1, h2, fun g hg => (h3 g hg).trans (he g)⟩
  · exact .inr ⟨h1, fun g hg h => h2 g hg ((he g).2 h)⟩

/-- Greater exact values have greater results. -/
theorem IsDn.mono {p : Nat} {r s : Dy × Int} {le le2 : Int → Prop} (h : IsDn p r le) (h2 : IsDn p s le2) (hle : ∀ g, le g → le2 g) (h0 : r.2 = 0) : s.2 = 0 ∧ r.1.val ≤ s.1.val := by
  rcases h with ⟨_, b, c⟩ | ⟨a, _⟩
  · have := hle _ ((c _ b).1 (Int.le_refl _))
    rcases h2 with ⟨x, y, z⟩ | ⟨x, y⟩
    · exact ⟨x, (z _ b).2 this⟩
    · exact absurd this (y _ b)
  · exact absurd h0 a
theorem IsUp.mono {p : Nat} {r s : Dy × Int} {ge ge2 : Int → Prop} (h : IsUp p r ge) (h2 : IsUp p s ge2) (hle : ∀ g, ge2 g → ge g) (h0 : s.2 = 0) : r.2 = 0 ∧ r.1.val ≤ s.1.val := by
  rcases h2 with ⟨_, b, c⟩ | ⟨a, _⟩
  · have := hle _ ((c _ b).1 (Int.le_refl _))
    rcases h with ⟨x, y, z⟩ | ⟨x, y⟩
    · exact ⟨x, (z _ b).2 this⟩
    · exact absurd this (y _ b)
  · exact absurd h0 a

end Go.Abs.W

/- What rounding, sums and products return, by their exact values. -/
namespace Go.Abs.W

end Go.Abs.W

/- A square is a product; the law IntervalProducts. -/
namespace Go.Abs.W

end Go.Abs.W

