/- Parts of the proof: FpXl, FpXm, FpXn, FpXo. -/
import Derived.Test.YtnkijamajifgpaaGreatDoorXe
import Derived.Test.YtnkijamajifgpaaGreatDoorHs
import Derived.Test.YtnkijamajifgpaaGreatDoorHx
namespace Go.Abs.W
theorem Near.le_right {s t : Nat → Rat} (h : Near s t) : SLe t s := h.symm.le_left
theorem rat_le {u v : Dy} : u.rat ≤ v.rat ↔ u.val ≤ v.val := by
 constructor
 · intro h
   have := Rat.mul_le_mul_of_nonneg_right h (Rat.le_of_lt qic)
   rw [qnt, qnt] at this
   exact Rat.intCast_le_intCast.1 this
 · intro h
   have := qcb h
   rw [← qnt u, ← qnt v] at this
   exact Rat.le_of_mul_le_mul_right this qic
theorem qae6 {x : Iv} {s : Nat → Rat} (k : x.known = true) (h : x.Has s) : SLe (fun _ => x.lo.rat) s ∧ SLe s (fun _ => x.hi.rat) := by
 obtain ⟨c, h1, h2⟩ := h
 exact ⟨(SLe.of_le 0 fun n _ => (qacr (h1 n) k).1).trans h2.le_right, h2.le_left.trans (SLe.of_le 0 fun n _ => (qacr (h1 n) k).2)⟩
end Go.Abs.W
namespace Go.Abs.W
def sh (q : Rat) (n : Nat) : Rat := (es q n - es (-q) n) / 2
def ch (q : Rat) (n : Nat) : Rat := (es q n + es (-q) n) / 2
theorem q9y {d : Dy} : d.neg'.rat = -d.rat := by
 unfold Dy.rat
 rw [qgp, Rat.intCast_neg, Rat.neg_mul]
theorem qac4 {x y : Iv} {p : Int} {s t : Nat → Rat} (wx : x.W) (wy : y.W) (hs : x.Has s) (ht : y.Has t) : (x.add y.neg p).Has (fun n => s n - t n) := by
 have := q1d (p := p) wx (neg_W wy) hs (q6l wy ht)
 rwa [show (fun n => s n + -t n) = fun n => s n - t n from funext fun n => by grind] at this
end Go.Abs.W
namespace Go.Abs.W
end Go.Abs.W
namespace Go.Abs.W
theorem qacl {x y : Iv} {p : Int} (wx : x.W) (wy : y.W) : (x.add y p).Gd := by
 unfold Iv.add
 split
 · rename_i h
   have h2 := h
   simp only [Bool.and_eq_true] at h2
   have v := q2n (qaen (p := p) wx wy wx wy (.inr ⟨h2.1.1, h2.1.1, Int.le_refl _, Int.le_refl _⟩) (.inr ⟨h2.1.2, h2.1.2, Int.le_refl _, Int.le_refl _⟩))
   unfold Iv.add at v
   rw [if_pos h] at v
   exact Gd.of_valid v q95
 · exact .inl rfl
theorem qxm {x : Iv} (g : x.Gd) : x.valid = true := by
 rcases g with rfl | h
 · rfl
 · exact (qcz h).1
theorem q0o {x y : Iv} (wx : x.W) (wy : y.W) (kx : x.known = true) (ky : y.known = true) (h : x.lo.val ≤ y.hi.val ∧ y.lo.val ≤ x.hi.val) : meetB x y = true := by
 obtain ⟨a1, a2⟩ := qao wx kx
 obtain ⟨b1, b2⟩ := qao wy ky
 obtain ⟨v1, l1⟩ := qcz kx
 obtain ⟨v2, l2⟩ := qcz ky
 have le1 := qa1 wx kx
 have le2 := qa1 wy ky
 have c : ¬ 0 < (x.lo.hi2 y.lo).cmp (x.hi.lo2 y.hi) := by
   rw [qjw (qpi a1 b1) (quv a2 b2), qaek, qe5 a1 b1, qg4 a2 b2]
   omega
 unfold meetB Iv.meet
 rw [v1, v2, l1, l2]
 simp [c]
theorem qrk {x y : Iv} (vx : x.valid = true) (vy : y.valid = true) (h : x.all = true ∨ y.all = true) : meetB x y = true := by
 unfold meetB Iv.meet
 rw [vx, vy]
 rcases h with h | h
 · simp [h]
 · cases ha : x.all <;> simp [h]
theorem q93 {x y : Iv} (wx : x.W) (wy : y.W) (gx : x.Gd) (gy : y.Gd) (h : x.known = true → y.known = true → x.lo.val ≤ y.hi.val ∧ y.lo.val ≤ x.hi.val) : meetB x y = true := by
 rcases gx with rfl | kx
 · exact qrk rfl (qxm gy) (.inl rfl)
 · rcases gy with rfl | ky
   · exact qrk (qcz kx).1 rfl (.inr rfl)
   · exact q0o wx wy kx ky (h kx ky)
theorem qyi {x y : Iv} {s : Nat → Rat} (wx : x.W) (wy : y.W) (gx : x.Gd) (gy : y.Gd) (hx : x.Has s) (hy : y.Has s) : meetB x y = true :=
 q93 wx wy gx gy fun kx ky => qabh kx ky hx hy
end Go.Abs.W
