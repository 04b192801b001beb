/- Parts of the proof: FpIso, FpIso2, FpIso3, FpIso4. -/
import Derived.Test.YtnkijamajifgpaaGreatDoorHy
import Derived.Test.YtnkijamajifgpaaGreatDoorHr
import Derived.Test.YtnkijamajifgpaaGreatDoorHp
namespace Go.Abs.W
theorem q0s {l h : Dy} (ol : l.Ok) (oh : h.Ok) (hle : l.val ≤ h.val) : (Iv.mk l h false).valid = true := by
 have : l.cmp h ≤ 0 := by rw [qlt ol oh, cmpI_le]; exact hle
 simp [Iv.valid, ol.valid, oh.valid, this]
theorem qkq {l h : Dy} (ol : l.Ok) (oh : h.Ok) (hle : l.val ≤ h.val) : (Iv.mk l h false).known = true := by
 have := q0s ol oh hle
 simp [Iv.known, this]
theorem qm6 {x : Iv} (h : x.known = true) : x.valid = true ∧ x.all = false := by
 simp [Iv.known] at h; exact ⟨h.2, h.1⟩
theorem q25 {r s : Iv} (wr : r.W) (ws : s.W) (kr : r.known = true) (ks : s.known = true) (h1 : s.lo.val ≤ r.lo.val) (h2 : r.hi.val ≤ s.hi.val) : r.ins s = true := by
 obtain ⟨a1, a2⟩ := qb8 wr kr
 obtain ⟨b1, b2⟩ := qb8 ws ks
 obtain ⟨v1, l1⟩ := qm6 kr
 obtain ⟨v2, l2⟩ := qm6 ks
 have c1 : s.lo.cmp r.lo ≤ 0 := by rw [qlt b1 a1, cmpI_le]; exact h1
 have c2 : r.hi.cmp s.hi ≤ 0 := by rw [qlt a2 b2, cmpI_le]; exact h2
 simp [Iv.ins, v1, v2, l1, l2, c1, c2]
theorem IsDn.le_up {p : Nat} {r s : Dy × Int} {le ge : Int → Prop} (h : IsDn p r le) (h2 : IsUp p s ge) (hlg : ∀ g g2, le g → ge g2 → g ≤ g2) (h0 : r.2 = 0) (h1 : s.2 = 0) : r.1.val ≤ s.1.val := by
 rcases h with ⟨_, b, c⟩ | ⟨a, _⟩
 · rcases h2 with ⟨_, y, z⟩ | ⟨x, _⟩
   · exact hlg _ _ ((c _ b).1 (Int.le_refl _)) ((z _ y).1 (Int.le_refl _))
   · exact absurd h1 x
 · exact absurd h0 a
end Go.Abs.W
namespace Go.Abs.W
section
variable {P : Nat} {f g : Dy → Dy → Dy × Int} {x y a b : Iv} {le ge : Dy → Dy → Int → Prop}
end
end Go.Abs.W
namespace Go.Abs.W
end Go.Abs.W
namespace Go.Abs.W
theorem IsUp.at {p : Nat} {r : Dy × Int} {ge : Int → Prop} (h : IsUp p r ge) (h0 : r.2 = 0) : ge r.1.val := by
 rcases h with ⟨_, b, c⟩ | ⟨a, _⟩
 · exact (c _ b).1 (Int.le_refl _)
 · exact absurd h0 a
section
variable {d e : Dy} {p : Int}
end
end Go.Abs.W
