/- Parts of the proof: FpIvK, FpIvL, FpQ. -/
import Derived.Test.YtnkijamajifgpaaGreatDoorHz
import Derived.Test.YtnkijamajifgpaaGreatDoorHh
import Derived.Test.YtnkijamajifgpaaGreatDoorFe
namespace Go.Abs.W
def Dy.ex (d : Dy) : Dy × Int := (if d.valid then d else Dy.zero, if d.valid then 0 else 9)
end Go.Abs.W
namespace Go.Abs.W
theorem IsDn.at {p : Nat} {r : Dy × Int} {le : Int → Prop} (h : IsDn p r le) (h0 : r.2 = 0) : le r.1.val := by
 rcases h with ⟨_, b, c⟩ | ⟨a, _⟩
 · exact (c _ b).1 (Int.le_refl _)
 · exact absurd h0 a
end Go.Abs.W
namespace Go.Abs.W
def sc : Rat := (pw 16384 : Int)
theorem qfy : 0 < sc := by
 have := Rat.intCast_lt_intCast.2 (qb1 16384)
 simpa [sc] using this
def Iv.In (x : Iv) (q : Rat) : Prop := x.known = true → (x.lo.val : Rat) ≤ q * sc ∧ q * sc ≤ (x.hi.val : Rat)
theorem Iv.In.whole {q : Rat} : Iv.whole.In q := fun h => by cases h
theorem qcl {a b : Int} (h : a ≤ b) : (a : Rat) ≤ (b : Rat) := Rat.intCast_le_intCast.2 h
theorem qafm {x y : Iv} {p : Int} {q r : Rat} (wx : x.W) (wy : y.W) (hq : x.In q) (hr : y.In r) : (x.add y p).In (q + r) := by
 unfold Iv.add
 split
 · rename_i h
   simp only [Bool.and_eq_true] at h
   obtain ⟨⟨k1, k2⟩, hp⟩ := h
   obtain ⟨a1, a2⟩ := qaj wx k1
   obtain ⟨b1, b2⟩ := qaj wy k2
   obtain ⟨q1, q2⟩ := hq k1
   obtain ⟨r1, r2⟩ := hr k2
   unfold Iv.made
   split
   · rename_i h0
     intro _
     have u := qcl ((qni a1 b1 hp).at h0.1)
     have v := qcl ((qnh a2 b2 hp).at h0.2)
     rw [Rat.intCast_add] at u v
     refine ⟨?_, ?_⟩
     · show (((rAdd x.lo y.lo p false).1.val : Int) : Rat) ≤ _
       rw [Rat.add_mul]; grind
     · show _ ≤ (((rAdd x.hi y.hi p true).1.val : Int) : Rat)
       rw [Rat.add_mul]; grind
   · exact .whole
 · exact .whole
theorem qaeg {y : Iv} {r : Rat} (wy : y.W) (hr : y.In r) : y.neg.In (-r) := by
 unfold Iv.neg
 split
 · rename_i k
   obtain ⟨b1, b2⟩ := qaj wy k
   obtain ⟨r1, r2⟩ := hr k
   intro _
   refine ⟨?_, ?_⟩
   · show ((y.hi.neg'.val : Int) : Rat) ≤ _
     rw [qtq, Rat.intCast_neg, Rat.neg_mul]; grind
   · show _ ≤ ((y.lo.neg'.val : Int) : Rat)
     rw [qtq, Rat.intCast_neg, Rat.neg_mul]; grind
 · exact .whole
theorem rmulR {a b c : Rat} (h : a ≤ b) (hc : 0 ≤ c) : a * c ≤ b * c := Rat.mul_le_mul_of_nonneg_right h hc
theorem rmulL {a b c : Rat} (h : a ≤ b) (hc : 0 ≤ c) : c * a ≤ c * b := Rat.mul_le_mul_of_nonneg_left h hc
theorem q9p {a b c : Rat} (h : a ≤ b) (hc : c ≤ 0) : b * c ≤ a * c := by
 have := rmulR (c := -c) h (by grind)
 grind
theorem q0e {a b c : Rat} (h : a ≤ b) (hc : c ≤ 0) : c * b ≤ c * a := by
 have := rmulL (c := -c) h (by grind)
 grind
theorem qyl {a0 a1 b0 b1 U V : Rat} (h1 : a0 ≤ U) (h2 : U ≤ a1) (h3 : b0 ≤ V) (h4 : V ≤ b1) : a0 * b0 ≤ U * V ∨ a0 * b1 ≤ U * V ∨ a1 * b0 ≤ U * V ∨ a1 * b1 ≤ U * V := by
 by_cases hV : V ≤ 0
 · have t := q9p h2 hV
   by_cases ha : a1 ≤ 0
   · have := q0e h4 ha; grind
   · have := rmulL h3 (show 0 ≤ a1 by grind); grind
 · have t := rmulR h1 (show 0 ≤ V by grind)
   by_cases ha : a0 ≤ 0
   · have := q0e h4 ha; grind
   · have := rmulL h3 (show 0 ≤ a0 by grind); grind
theorem qym {a0 a1 b0 b1 U V : Rat} (h1 : a0 ≤ U) (h2 : U ≤ a1) (h3 : b0 ≤ V) (h4 : V ≤ b1) : U * V ≤ a0 * b0 ∨ U * V ≤ a0 * b1 ∨ U * V ≤ a1 * b0 ∨ U * V ≤ a1 * b1 := by
 by_cases hV : V ≤ 0
 · have t := q9p h1 hV
   by_cases ha : a0 ≤ 0
   · have := q0e h3 ha; grind
   · have := rmulL h4 (show 0 ≤ a0 by grind); grind
 · have t := rmulR h2 (show 0 ≤ V by grind)
   by_cases ha : a1 ≤ 0
   · have := q0e h3 ha; grind
   · have := rmulL h4 (show 0 ≤ a1 by grind); grind
theorem q8l {f g : Dy → Dy → Dy × Int} {x y : Iv} (hg : ¬ good4 f g x y 4) : Iv.four f g x y = Iv.whole := by
 unfold Iv.four
 split
 · rename_i hc
   exfalso
   apply hg
   intro j hj
   simp [pairs] at hc
   obtain rfl | rfl | rfl | rfl : j = 0 ∨ j = 1 ∨ j = 2 ∨ j = 3 := by omega
   all_goals simp [qai, pairs, hc]
 · rfl
theorem q9x {x y : Iv} {p : Int} {q r : Rat} (wx : x.W) (wy : y.W) (hq : x.In q) (hr : y.In r) : (x.mul y p).In (q * r) := by
 unfold Iv.mul
 split
 · rename_i h
   simp only [Bool.and_eq_true] at h
   obtain ⟨⟨k1, k2⟩, hp⟩ := h
   have ox := qaj wx k1
   have oy := qaj wy k2
   obtain ⟨r1, r2⟩ := hq k1
   obtain ⟨r3, r4⟩ := hr k2
   by_cases hg : good4 (fun a b => rMul a b p false) (fun a b => rMul a b p true) x y 4
   · rw [qkt hg]
     intro _
     have okf : ∀ a b : Dy, (rMul a b p false).1.Ok := fun _ _ => rMul_ok
     have okg : ∀ a b : Dy, (rMul a b p true).1.Ok := fun _ _ => rMul_ok
     obtain ⟨j, hj, hq⟩ := q6d (a := x) (b := y) (Q := fun u v => (u.val : Rat) * v.val ≤ q * sc * (r * sc)) (qyl r1 r2 r3 r4)
     obtain ⟨j2, hj2, hq2⟩ := q6d (a := x) (b := y) (Q := fun u v => q * sc * (r * sc) ≤ (u.val : Rat) * v.val) (qym r1 r2 r3 r4)
     have o1 := qiy hj ox oy
     have o2 := qiy hj2 ox oy
     have d1 := qcl ((qyo o1.1 o1.2 hp).at (hg j hj).1)
     have d2 := qcl ((qyn o2.1 o2.2 hp).at (hg j2 hj2).2)
     have l1 := qcl (q1q okf (x := x) (y := y) hj)
     have l2 := qcl (q1r okg (x := x) (y := y) hj2)
     rw [Rat.intCast_mul, Rat.intCast_mul] at d1 d2
     rw [show ((pw 16384 : Int) : Rat) = sc from rfl] at d1 d2
     have e : q * sc * (r * sc) = (q * r * sc) * sc := by grind
     rw [e] at hq hq2
     refine ⟨Rat.le_trans l1 ?_, Rat.le_trans ?_ l2⟩
     · exact Rat.le_of_mul_le_mul_right (Rat.le_trans d1 hq) qfy
     · exact Rat.le_of_mul_le_mul_right (Rat.le_trans hq2 d2) qfy
   · rw [q8l hg]; exact .whole
 · exact .whole
theorem In.meet {x y : Iv} {q : Rat} (kx : x.known = true) (ky : y.known = true) (hx : x.In q) (hy : y.In q) : x.lo.val ≤ y.hi.val ∧ y.lo.val ≤ x.hi.val := by
 obtain ⟨a, b⟩ := hx kx
 obtain ⟨c, d⟩ := hy ky
 exact ⟨Rat.intCast_le_intCast.1 (Rat.le_trans a d), Rat.intCast_le_intCast.1 (Rat.le_trans c b)⟩
theorem qvd {a b : Int} (h : a < b) : (a : Rat) < (b : Rat) := Rat.intCast_lt_intCast.2 h
end Go.Abs.W
