/- Parts of the proof: FpGalQ, FpGalS, FpIvX. -/
import Derived.Test.YtnkijamajifgpaaGreatDoorHr
import Derived.Test.YtnkijamajifgpaaGreatDoorHp
namespace Go.Abs.W
end Go.Abs.W
namespace Go.Abs.W
end Go.Abs.W
namespace Go.Abs.W
theorem IsDn.exact {p : Nat} {r : Dy × Int} {le : Int → Prop} (h : IsDn p r le) {V : Int} (hV : GridI p V) (hle : ∀ g, le g ↔ g ≤ V) : r.2 = 0 ∧ r.1.val = V := by
 rcases h with ⟨a, b, c⟩ | ⟨_, c⟩
 · have h1 := (c V hV).2 ((hle V).2 (Int.le_refl _))
   have h2 := (hle _).1 ((c _ b).1 (Int.le_refl _))
   exact ⟨a, by omega⟩
 · exact absurd ((hle V).2 (Int.le_refl _)) (c V hV)
theorem IsUp.exact {p : Nat} {r : Dy × Int} {ge : Int → Prop} (h : IsUp p r ge) {V : Int} (hV : GridI p V) (hge : ∀ g, ge g ↔ V ≤ g) : r.2 = 0 ∧ r.1.val = V := by
 rcases h with ⟨a, b, c⟩ | ⟨_, c⟩
 · have h1 := (c V hV).2 ((hge V).2 (Int.le_refl _))
   have h2 := (hge _).1 ((c _ b).1 (Int.le_refl _))
   exact ⟨a, by omega⟩
 · exact absurd ((hge V).2 (Int.le_refl _)) (c V hV)
theorem qrz {k : Int} : (nD k).val = k * pw 16384 := by
 unfold nD
 have hA : ((0 : Int) + 16384).toNat = 16384 := rfl
 rw [qrx (by omega), ← qdb, hA]
 obtain ⟨n, rfl | rfl⟩ := k.eq_nat_or_neg
 · rw [if_neg (by simp)]
   simp
 · by_cases h : n = 0
   · subst h; simp
   · rw [if_pos (by simp; omega), Int.neg_mul]
     simp
theorem qyp {k : Int} {a : Nat} : (k * pw a).natAbs = k.natAbs * 2 ^ a := by
 rw [Int.natAbs_mul]; rfl
end Go.Abs.W
