/- Parts of the proof: FpQ, FpSeI, FpSeJ. -/
import Derived.Test.YteajloobgibenaaGreatDoorSd
import Derived.Test.YteajloobgibenaaGreatDoorHk
import Derived.Test.YteajloobgibenaaGreatDoorFe
/- Rational numbers in intervals: what the operations enclose. -/
namespace Go.Abs.W

/-- The scale of 'val', as a rational number. -/
def sc : Rat := (pw 16384 : Int)
theorem sc_pos : 0 < sc := by
 have := Rat.intCast_lt_intCast.2 (pw_pos 16384)
 simpa [sc] using this

/-- The interval contains q, or it is All, or not valid. -/
def Iv.In (x : Iv) (q : Rat) : Prop := x.known = true → (x.lo.val : Rat) ≤ q * sc ∧ q * sc ≤ (x.hi.val : Rat)

theorem Iv.In.whole {q : Rat} : Iv.whole.In q := fun h => by cases h
theorem cast_le {a b : Int} (h : a ≤ b) : (a : Rat) ≤ (b : Rat) := Rat.intCast_le_intCast.2 h

theorem add_In {x y : Iv} {p : Int} {q r : Rat} (wx : x.W) (wy : y.W) (hq : x.In q) (hr : y.In r) : (x.add y p).In (q + r) := by
 unfold Iv.add
 split
 · rename_i h
   simp only [Bool.and_eq_true] at h
   obtain ⟨⟨k1, k2⟩, hp⟩ := h
   obtain ⟨a1, a2⟩ := known_ok wx k1
   obtain ⟨b1, b2⟩ := known_ok wy k2
   obtain ⟨q1, q2⟩ := hq k1
   obtain ⟨r1, r2⟩ := hr k2
   unfold Iv.made
   split
   · rename_i h0
     intro _
     have u := cast_le ((rAdd_dn a1 b1 hp).at h0.1)
     have v := cast_le ((rAdd_up a2 b2 hp).at h0.2)
     rw [Rat.intCast_add] at u v
     refine ⟨?_, ?_⟩
     · show (((rAdd x.lo y.lo p false).1.val : Int) : Rat) ≤ _
       rw [Rat.add_mul]; grind
     · show _ ≤ (((rAdd x.hi y.hi p true).1.val : Int) : Rat)
       rw [Rat.add_mul]; grind
   · exact .whole
 · exact .whole

theorem rmulR {a b c : Rat} (h : a ≤ b) (hc : 0 ≤ c) : a * c ≤ b * c := Rat.mul_le_mul_of_nonneg_right h hc
theorem rmulL {a b c : Rat} (h : a ≤ b) (hc : 0 ≤ c) : c * a ≤ c * b := Rat.mul_le_mul_of_nonneg_left h hc
theorem rmulRn {a b c : Rat} (h : a ≤ b) (hc : c ≤ 0) : b * c ≤ a * c := by
 have := rmulR (c := -c) h (by grind)
 grind
theorem rmulLn {a b c : Rat} (h : a ≤ b) (hc : c ≤ 0) : c * b ≤ c * a := by
 have := rmulL (c := -c) h (by grind)
 grind
theorem rcorner_min {a0 a1 b0 b1 U V : Rat} (h1 : a0 ≤ U) (h2 : U ≤ a1) (h3 : b0 ≤ V) (h4 : V ≤ b1) : a0 * b0 ≤ U * V ∨ a0 * b1 ≤ U * V ∨ a1 * b0 ≤ U * V ∨ a1 * b1 ≤ U * V := by
 by_cases hV : V ≤ 0
 · have t := rmulRn h2 hV
   by_cases ha : a1 ≤ 0
   · have := rmulLn h4 ha; grind
   · have := rmulL h3 (show 0 ≤ a1 by grind); grind
 · have t := rmulR h1 (show 0 ≤ V by grind)
   by_cases ha : a0 ≤ 0
   · have := rmulLn h4 ha; grind
   · have := rmulL h3 (show 0 ≤ a0 by grind); grind
theorem rcorner_max {a0 a1 b0 b1 U V : Rat} (h1 : a0 ≤ U) (h2 : U ≤ a1) (h3 : b0 ≤ V) (h4 : V ≤ b1) : U * V ≤ a0 * b0 ∨ U * V ≤ a0 * b1 ∨ U * V ≤ a1 * b0 ∨ U * V ≤ a1 * b1 := by
 by_cases hV : V ≤ 0
 · have t := rmulRn h1 hV
   by_cases ha : a0 ≤ 0
   · have := rmulLn h3 ha; grind
   · have := rmulL h4 (show 0 ≤ a0 by grind); grind
 · have t := rmulR h2 (show 0 ≤ V by grind)
   by_cases ha : a1 ≤ 0
   · have := rmulLn h3 ha; grind
   · have := rmulL h4 (show 0 ≤ a1 by grind); grind

theorem four_not {f g : Dy → Dy → Dy × Int} {x y : Iv} (hg : ¬ good4 f g x y 4) : Iv.four f g x y = Iv.whole := by
 unfold Iv.four
 split
 · rename_i hc
   exfalso
   apply hg
   intro j hj
   simp [pairs] at hc
   obtain rfl | rfl | rfl | rfl : j = 0 ∨ j = 1 ∨ j = 2 ∨ j = 3 := by omega
   all_goals simp [pairAt, pairs, hc]
 · rfl

theorem mul_In {x y : Iv} {p : Int} {q r : Rat} (wx : x.W) (wy : y.W) (hq : x.In q) (hr : y.In r) : (x.mul y p).In (q * r) := by
 unfold Iv.mul
 split
 · rename_i h
   simp only [Bool.and_eq_true] at h
   obtain ⟨⟨k1, k2⟩, hp⟩ := h
   have ox := known_ok wx k1
   have oy := known_ok wy k2
   obtain ⟨r1, r2⟩ := hq k1
   obtain ⟨r3, r4⟩ := hr k2
   by_cases hg : good4 (fun a b => rMul a b p false) (fun a b => rMul a b p true) x y 4
   · rw [four_good hg]
     intro _
     have okf : ∀ a b : Dy, (rMul a b p false).1.Ok := fun _ _ => rMul_ok
     have okg : ∀ a b : Dy, (rMul a b p true).1.Ok := fun _ _ => rMul_ok
     obtain ⟨j, hj, hq⟩ := at_some (a := x) (b := y) (Q := fun u v => (u.val : Rat) * v.val ≤ q * sc * (r * sc)) (rcorner_min r1 r2 r3 r4)
     obtain ⟨j2, hj2, hq2⟩ := at_some (a := x) (b := y) (Q := fun u v => q * sc * (r * sc) ≤ (u.val : Rat) * v.val) (rcorner_max r1 r2 r3 r4)
     have o1 := pairAt_ok hj ox oy
     have o2 := pairAt_ok hj2 ox oy
     have d1 := cast_le ((rMul_dn o1.1 o1.2 hp).at (hg j hj).1)
     have d2 := cast_le ((rMul_up o2.1 o2.2 hp).at (hg j2 hj2).2)
     have l1 := cast_le (accLo_le okf (x := x) (y := y) hj)
     have l2 := cast_le (accHi_ge okg (x := x) (y := y) hj2)
     rw [Rat.intCast_mul, Rat.intCast_mul] at d1 d2
     rw [show ((pw 16384 : Int) : Rat) = sc from rfl] at d1 d2
     have e : q * sc * (r * sc) = (q * r * sc) * sc := by grind
     rw [e] at hq hq2
     refine ⟨Rat.le_trans l1 ?_, Rat.le_trans ?_ l2⟩
     · exact Rat.le_of_mul_le_mul_right (Rat.le_trans d1 hq) sc_pos
     · exact Rat.le_of_mul_le_mul_right (Rat.le_trans hq2 d2) sc_pos
   · rw [four_not hg]; exact .whole
 · exact .whole

/-- Intervals that contain a common number meet. -/
theorem In.meet {x y : Iv} {q : Rat} (kx : x.known = true) (ky : y.known = true) (hx : x.In q) (hy : y.In q) : x.lo.val ≤ y.hi.val ∧ y.lo.val ≤ x.hi.val := by
 obtain ⟨a, b⟩ := hx kx
 obtain ⟨c, d⟩ := hy ky
 exact ⟨Rat.intCast_le_intCast.1 (Rat.le_trans a d), Rat.intCast_le_intCast.1 (Rat.le_trans c b)⟩

theorem rinv_le {a b : Rat} (ha : 0 < a) (h : a ≤ b) : b⁻¹ ≤ a⁻¹ := by
 have hb : 0 < b := by grind
 have h1 := Rat.inv_pos.2 ha
 have h2 := Rat.inv_pos.2 hb
 have h3 := rmulR (rmulL h (Rat.le_of_lt h1)) (Rat.le_of_lt h2)
 have e1 : a⁻¹ * a * b⁻¹ = b⁻¹ := by rw [Rat.inv_mul_cancel a (by grind), Rat.one_mul]
 have e2 : a⁻¹ * b * b⁻¹ = a⁻¹ := by rw [Rat.mul_assoc, Rat.mul_inv_cancel b (by grind), Rat.mul_one]
 rw [e1, e2] at h3
 exact h3
theorem rinv_neg (a : Rat) : (-a)⁻¹ = -(a⁻¹) := by
 by_cases h : a = 0
 · subst h; simp
 · grind
theorem rinv_le_neg {a b : Rat} (hb : b < 0) (h : a ≤ b) : b⁻¹ ≤ a⁻¹ := by
 have := rinv_le (a := -b) (b := -a) (by grind) (by grind)
 rw [rinv_neg, rinv_neg] at this
 grind

theorem rinv_neg_lt {a : Rat} (h : a < 0) : a⁻¹ < 0 := by
 have := Rat.inv_pos.2 (show 0 < -a by grind)
 rw [rinv_neg] at this
 grind
theorem cast_lt {a b : Int} (h : a < b) : (a : Rat) < (b : Rat) := Rat.intCast_lt_intCast.2 h

theorem divLe_rat {u v g : Int} (hv : v ≠ 0) (h : divLe u v g) : (g : Rat) ≤ (u : Rat) * (v : Rat)⁻¹ * sc := by
 rcases Int.lt_or_le 0 v with h0 | h0
 · rw [divLe_pos h0] at h
   have c := cast_le h
   rw [Rat.intCast_mul, Rat.intCast_mul, show ((pw 16384 : Int) : Rat) = sc from rfl] at c
   have v0 : (0 : Rat) < v := cast_lt h0
   have := rmulR c (Rat.le_of_lt (Rat.inv_pos.2 v0))
   rw [Rat.mul_assoc, Rat.mul_inv_cancel _ (by grind), Rat.mul_one] at this
   grind
 · have hneg : v < 0 := by omega
   rw [divLe_neg (by omega)] at h
   have c := cast_le h
   rw [Rat.intCast_mul, Rat.intCast_mul, show ((pw 16384 : Int) : Rat) = sc from rfl] at c
   have v0 : (v : Rat) < 0 := cast_lt hneg
   have := rmulRn c (Rat.le_of_lt (rinv_neg_lt v0))
   rw [Rat.mul_assoc (g : Rat), Rat.mul_inv_cancel _ (by grind), Rat.mul_one] at this
   grind
theorem divGe_rat {u v g : Int} (hv : v ≠ 0) (h : divGe u v g) : (u : Rat) * (v : Rat)⁻¹ * sc ≤ (g : Rat) := by
 rcases Int.lt_or_le 0 v with h0 | h0
 · rw [divGe_pos h0] at h
   have c := cast_le h
   rw [Rat.intCast_mul, Rat.intCast_mul, show ((pw 16384 : Int) : Rat) = sc from rfl] at c
   have v0 : (0 : Rat) < v := cast_lt h0
   have := rmulR c (Rat.le_of_lt (Rat.inv_pos.2 v0))
   rw [Rat.mul_assoc (g : Rat), Rat.mul_inv_cancel _ (by grind), Rat.mul_one] at this
   grind
 · have hneg : v < 0 := by omega
   rw [divGe_neg (by omega)] at h
   have c := cast_le h
   rw [Rat.intCast_mul, Rat.intCast_mul, show ((pw 16384 : Int) : Rat) = sc from rfl] at c
   have v0 : (v : Rat) < 0 := cast_lt hneg
   have := rmulRn c (Rat.le_of_lt (rinv_neg_lt v0))
   rw [Rat.mul_assoc (g : Rat), Rat.mul_inv_cancel _ (by grind), Rat.mul_one] at this
   grind

theorem div_In {x y : Iv} {p : Int} {q r : Rat} (wx : x.W) (wy : y.W) (hq : x.In q) (hr : y.In r) : (x.div y p).In (q / r) := by
 unfold Iv.div
 split
 · rename_i h
   simp only [Bool.and_eq_true, decide_eq_true_eq] at h
   obtain ⟨⟨⟨k1, k2⟩, hp⟩, hs⟩ := h
   have ox := known_ok wx k1
   have oy := known_ok wy k2
   obtain ⟨r1, r2⟩ := hq k1
   obtain ⟨r3, r4⟩ := hr k2
   have rs := (sgn_range wy k2).1 hs
   have q2 := known_le wy k2
   have q1 := known_le wx k1
   have hV : (y.hi.val : Rat)⁻¹ ≤ (r * sc)⁻¹ ∧ (r * sc)⁻¹ ≤ (y.lo.val : Rat)⁻¹ := by
     rcases rs with rs | rs
     · have h0 := cast_lt rs
       rw [show ((0 : Int) : Rat) = 0 from rfl] at h0
       exact ⟨rinv_le (by grind) r4, rinv_le h0 r3⟩
     · have h0 := cast_lt rs
       rw [show ((0 : Int) : Rat) = 0 from rfl] at h0
       exact ⟨rinv_le_neg h0 r4, rinv_le_neg (by grind) r3⟩
   have hr0 : r * sc ≠ 0 := by
     rcases rs with rs | rs
     · have h0 := cast_lt rs
       rw [show ((0 : Int) : Rat) = 0 from rfl] at h0
       grind
     · have h0 := cast_lt rs
       rw [show ((0 : Int) : Rat) = 0 from rfl] at h0
       grind
   have e : q * sc * (r * sc)⁻¹ = q / r := by
     have hsc := sc_pos
     have : r ≠ 0 := by intro h; rw [h] at hr0; simp at hr0
     grind
   by_cases hg : good4 (fun a b => rDiv a b p false) (fun a b => rDiv a b p true) x y 4
   · rw [four_good hg]
     intro _
     have okf : ∀ a b : Dy, (rDiv a b p false).1.Ok := fun _ _ => rDiv_ok
     have okg : ∀ a b : Dy, (rDiv a b p true).1.Ok := fun _ _ => rDiv_ok
     obtain ⟨j, hj, hq⟩ := at_some (a := x) (b := y) (Q := fun u v => (u.val : Rat) * (v.val : Rat)⁻¹ ≤ q / r) (by
       have := rcorner_min r1 r2 hV.1 hV.2
       rw [e] at this
       rcases this with h | h | h | h
       · exact .inr (.inl h)
       · exact .inl h
       · exact .inr (.inr (.inr h))
       · exact .inr (.inr (.inl h)))
     obtain ⟨j2, hj2, hq2⟩ := at_some (a := x) (b := y) (Q := fun u v => q / r ≤ (u.val : Rat) * (v.val : Rat)⁻¹) (by
       have := rcorner_max r1 r2 hV.1 hV.2
       rw [e] at this
       rcases this with h | h | h | h
       · exact .inr (.inl h)
       · exact .inl h
       · exact .inr (.inr (.inr h))
       · exact .inr (.inr (.inl h)))
     have o1 := pairAt_ok hj ox oy
     have o2 := pairAt_ok hj2 ox oy
     have n1 : (pairAt x y j).2.val ≠ 0 := by have := pairAt_in hj q1 q2; omega
     have n2 : (pairAt x y j2).2.val ≠ 0 := by have := pairAt_in hj2 q1 q2; omega
     have d1 := divLe_rat n1 ((rDiv_dn o1.1 o1.2 hp (ne_nil n1)).at (hg j hj).1)
     have d2 := divGe_rat n2 ((rDiv_up o2.1 o2.2 hp (ne_nil n2)).at (hg j2 hj2).2)
     have l1 := cast_le (accLo_le okf (x := x) (y := y) hj)
     have l2 := cast_le (accHi_ge okg (x := x) (y := y) hj2)
     have s0 := Rat.le_of_lt sc_pos
     exact ⟨Rat.le_trans l1 (Rat.le_trans d1 (rmulR hq s0)), Rat.le_trans (rmulR hq2 s0) (Rat.le_trans d2 l2)⟩
   · rw [four_not hg]; exact .whole
 · exact .whole

end Go.Abs.W

/- The product rule, in rational numbers. -/
namespace Go.Abs.W

theorem ins_valid {x y : Iv} (h : x.ins y = true) : x.valid = true := by
 simp only [Iv.ins, Bool.and_eq_true] at h
 exact h.1.1
theorem known_Le {x : Iv} (k : x.known = true) : x.Le x := .inr ⟨k, k, Int.le_refl _, Int.le_refl _⟩
theorem add_valid {x y : Iv} {p : Int} (wx : x.W) (wy : y.W) : (x.add y p).valid = true := by
 by_cases h : x.known = true ∧ y.known = true
 · exact ins_valid (add_iso (p := p) wx wy wx wy (known_Le h.1) (known_Le h.2))
 · have : x.add y p = Iv.whole := by
     unfold Iv.add; rw [if_neg]; simp only [Bool.and_eq_true]; exact fun g => h ⟨g.1.1, g.1.2⟩
   rw [this]; rfl
theorem mul_valid {x y : Iv} {p : Int} (wx : x.W) (wy : y.W) : (x.mul y p).valid = true := by
 by_cases h : x.known = true ∧ y.known = true
 · exact ins_valid (mul_iso (p := p) wx wy wx wy (known_Le h.1) (known_Le h.2))
 · have : x.mul y p = Iv.whole := by
     unfold Iv.mul; rw [if_neg]; simp only [Bool.and_eq_true]; exact fun g => h ⟨g.1.1, g.1.2⟩
   rw [this]; rfl
theorem meet_some {x y : Iv} {q : Rat} (wx : x.W) (wy : y.W) (vx : x.valid = true) (vy : y.valid = true) (hx : x.In q) (hy : y.In q) : (x.meet y).isSome = true := by
 unfold Iv.meet
 rw [vx, vy]
 simp only [Bool.and_self, if_true]
 cases ax : x.all
 · cases ay : y.all
   · have kx : x.known = true := by simp [Iv.known, ax, vx]
     have ky : y.known = true := by simp [Iv.known, ay, vy]
     obtain ⟨m1, m2⟩ := In.meet kx ky hx hy
     obtain ⟨o1, o2⟩ := known_ok wx kx
     obtain ⟨o3, o4⟩ := known_ok wy ky
     have l1 := known_le wx kx
     have l2 := known_le wy ky
     have : (x.lo.hi2 y.lo).cmp (x.hi.lo2 y.hi) ≤ 0 := by
       rw [cmp_ok (hi2_ok o1 o3) (lo2_ok o2 o4), cmpI_le, hi2_max o1 o3, lo2_min o2 o4]
       omega
     have h2 : ¬ 0 < (x.lo.hi2 y.lo).cmp (x.hi.lo2 y.hi) := by omega
     simp [h2]
   · simp
 · simp

/-- A number of an interval. -/
def Iv.pick (x : Iv) : Rat := if x.known = true then (x.lo.val : Rat) / sc else 0
theorem pick_In {x : Iv} (w : x.W) : x.In x.pick := by
 intro k
 have hs := sc_pos
 have l := cast_le (known_le w k)
 unfold Iv.pick
 rw [if_pos k, Rat.div_mul_cancel (by grind)]
 exact ⟨Rat.le_refl, l⟩
theorem nI_In {k : Int} : (nI k k).In (k : Rat) := by
 intro _
 have : ((nD k).val : Rat) = (k : Rat) * sc := by rw [nD_val, Rat.intCast_mul]; rfl
 exact ⟨by show ((nD k).val : Rat) ≤ _; rw [this]; exact Rat.le_refl, by show _ ≤ ((nD k).val : Rat); rw [this]; exact Rat.le_refl⟩

def sumQ (f : Nat → Rat) : Nat → Rat
 | 0 => f 0
 | n + 1 => sumQ f n + f (n + 1)
theorem sumI_In' {p : Int} {f : Nat → Iv} {q : Nat → Rat} (wf : ∀ i, (f i).W) : ∀ n, (∀ i, i ≤ n → (f i).In (q i)) → (sumI p f n).In (sumQ q n)
 | 0, h => h 0 (Nat.le_refl _)
 | n + 1, h => add_In (sumI_W (wf 0) n) (wf _) (sumI_In' wf n fun i hi => h i (by omega)) (h _ (Nat.le_refl _))
theorem sumQ_congr {f g : Nat → Rat} : ∀ n, (∀ i, i ≤ n → f i = g i) → sumQ f n = sumQ g n
 | 0, h => h 0 (Nat.le_refl _)
 | n + 1, h => by rw [sumQ, sumQ, sumQ_congr n fun i hi => h i (by omega), h _ (Nat.le_refl _)]
theorem sumQ_add {f g : Nat → Rat} : ∀ n, sumQ (fun i => f i + g i) n = sumQ f n + sumQ g n
 | 0 => rfl
 | n + 1 => by rw [sumQ, sumQ, sumQ, sumQ_add n]; grind
theorem sumQ_mul {f : Nat → Rat} {c : Rat} : ∀ n, sumQ (fun i => c * f i) n = c * sumQ f n
 | 0 => rfl
 | n + 1 => by rw [sumQ, sumQ, sumQ_mul n]; grind
theorem sumQ_shift {f : Nat → Rat} : ∀ n, sumQ f (n + 1) = f 0 + sumQ (fun i => f (i + 1)) n
 | 0 => rfl
 | n + 1 => by rw [sumQ, sumQ_shift n, sumQ]; grind

theorem mulC_Q {a b : List Iv} {p : Int} {A B : Nat → Rat} {k : Nat} (wa : ∀ x ∈ a, x.W) (wb : ∀ x ∈ b, x.W) (ha : ∀ i, i ≤ k → (at0 a i).In (A i)) (hb : ∀ i, i ≤ k → (at0 b i).In (B i)) : (mulC a b p k).In (sumQ (fun i => A i * B (k - i)) k) :=
 sumI_In' (fun _ => mul_W) k fun i hi => mul_In (at0_W wa) (at0_W wb) (ha i hi) (hb (k - i) (by omega))

/-- The product rule, coefficient by coefficient. -/
theorem leibniz (A B : Nat → Rat) (k : Nat) : (((k : Int) + 1 : Int) : Rat) * sumQ (fun i => A i * B (k + 1 - i)) (k + 1) =
   sumQ (fun i => ((((i : Int) + 1 : Int) : Rat) * A (i + 1)) * B (k - i)) k + sumQ (fun i => A i * (((((k - i : Nat) : Int) + 1 : Int) : Rat) * B (k - i + 1))) k := by
 rw [← sumQ_mul]
 have e1 : sumQ (fun i => (((k : Int) + 1 : Int) : Rat) * (A i * B (k + 1 - i))) (k + 1) = sumQ (fun i => ((i : Int) : Rat) * (A i * B (k + 1 - i)) + (((k + 1 - i : Nat) : Int) : Rat) * (A i * B (k + 1 - i))) (k + 1) := by
   refine sumQ_congr _ fun i hi => ?_
   have h : ((k : Int) + 1 : Int) = (i : Int) + ((k + 1 - i : Nat) : Int) := by omega
   rw [h, Rat.intCast_add]; grind
 rw [e1, sumQ_add]
 congr 1
 · rw [sumQ_shift]
   have z : ((((0 : Nat) : Int) : Rat)) = 0 := rfl
   rw [z, Rat.zero_mul, Rat.zero_add]
   refine sumQ_congr _ fun i hi => ?_
   rw [show k + 1 - (i + 1) = k - i by omega, show (((i + 1 : Nat) : Int)) = (i : Int) + 1 by omega]
   grind
 · rw [sumQ]
   have z : (((k + 1 - (k + 1) : Nat) : Int) : Rat) = 0 := by rw [Nat.sub_self]; rfl
   rw [z, Rat.zero_mul, Rat.add_zero]
   refine sumQ_congr _ fun i hi => ?_
   rw [show k + 1 - i = k - i + 1 by omega, show (((k - i + 1 : Nat) : Int)) = ((k - i : Nat) : Int) + 1 by omega]
   grind

end Go.Abs.W

/- The law SeriesRules. -/
namespace Go.Abs.W

theorem rul1_cq (x : Iv) (w : x.W) : CQ prog g_fplaw21_SeriesRules_1 [x.v] (.bool !x.valid) := by
 refine CQ_run rfl fun H => ?_
 simp
 refine WL_call rfl rfl rfl (IValid_cq x w) ?_
 simp
theorem rul21_cq (x y : Iv) (wx : x.W) (wy : y.W) : CQ prog g_fplaw21_SeriesRules_2_1 [x.v, y.v] (.bool (x.meet y).isSome) := by
 refine CQ_run rfl fun H => ?_
 have c := iMeet_cq x y wx wy
 unfold meetV at c
 simp
 refine WL_call rfl rfl rfl c ?_
 simp
/-- Coefficient by coefficient, something in common. -/
def Met (x y : List Iv) : Prop := x.length = y.length ∧ ∀ i, i < x.length → ((at0 x i).meet (at0 y i)).isSome = true
theorem rul2_t {x y : List Iv} (wx : SW x) (wy : SW y) (h : Met x y) : CQ prog g_fplaw21_SeriesRules_2 [ivs x, ivs y] (.bool true) := by
 refine CQ_run rfl fun H => ?_
 have e : (decide (x.length = y.length) && allB (fun u v => (u.meet v).isSome) x y) = true := by
   simp only [Bool.and_eq_true, decide_eq_true_eq]
   refine ⟨h.1, ?_⟩
   rw [allB_iff]
   intro i u v hu hv
   have hi := (List.getElem?_eq_some_iff.1 hu).1
   have := h.2 i hi
   simp only [at0, hu, hv, Option.getD_some] at this
   exact this
 have c := EqualIv_ev (H := H) (g := g_fplaw21_SeriesRules_2_1) (caps := []) (p := fun u v => (u.meet v).isSome) x y (by have := wx.1; omega) fun u hu v hv => Cb_of (fun _ => rfl) (rul21_cq u v (wx.2 u hu) (wy.2 v hv))
 rw [e] at c
 simp
 refine WL_ev rfl rfl rfl c ?_
 simp

theorem at0_take {a : List Iv} {k i : Nat} (h : i < k) : at0 (a.take k) i = at0 a i := by
 unfold at0; rw [List.getElem?_take_of_lt h]
theorem take_SW {a : List Iv} {k : Nat} (w : SW a) : SW (a.take k) := ⟨by rw [List.length_take]; have := w.1; omega, fun x hx => w.2 x (List.mem_of_mem_take hx)⟩
theorem derL_len {a : List Iv} {p : Int} : (derL a p).length = a.length - 1 := by simp [derL]

theorem rules_met1 {a b : List Iv} {p : Int} (wa : SW a) (wb : SW b) (hl : b.length = a.length) (h2 : 2 ≤ a.length) (h17 : a.length ≤ 17) :
   Met (derL (mulS a b p) p) (zipI (fun x y => x.add y p) (mulS (derL a p) (b.take (a.length - 1)) p) (mulS (a.take (a.length - 1)) (derL b p) p)) := by
 obtain ⟨k, hk⟩ : ∃ k, k = a.length - 1 := ⟨_, rfl⟩
 rw [← hk]
 have l1 : (mulS (derL a p) (b.take k) p).length = k := by rw [mulL_len, derL_len, hk]
 have l2 : (mulS (a.take k) (derL b p) p).length = k := by rw [mulL_len, List.length_take]; omega
 have ar : areB [mulS (derL a p) (b.take k) p, mulS (a.take k) (derL b p) p] = true := are2.2 (by omega)
 unfold zipI
 rw [if_pos ar, l1]
 refine ⟨by rw [derL_len, mulL_len, bld_len, hk], fun i hi => ?_⟩
 rw [derL_len, mulL_len, ← hk] at hi
 rw [at0_bld hi]
 have wDa := derL_W (p := p) wa.1
 have wDb := derL_W (p := p) wb.1
 have wtb := take_SW (k := k) wb
 have wta := take_SW (k := k) wa
 have eL : at0 (derL (mulS a b p) p) i = (nI (i + 1) (i + 1)).mul (mulC a b p (i + 1)) p := by
   unfold derL
   rw [mulL_len, ← hk, at0_bld hi]
   unfold derC mulS
   rw [at0_bld (by omega)]
 have eM : at0 (mulS (derL a p) (b.take k) p) i = mulC (derL a p) (b.take k) p i := by
   unfold mulS; rw [at0_bld (by rw [derL_len]; omega)]
 have eN : at0 (mulS (a.take k) (derL b p) p) i = mulC (a.take k) (derL b p) p i := by
   unfold mulS; rw [at0_bld (by rw [List.length_take]; omega)]
 have wI : (nI ((i : Int) + 1) ((i : Int) + 1)).W := nI_W (by omega) (by omega)
 rw [eL, eM, eN]
 have dA : ∀ j, j < k → (at0 (derL a p) j).In ((((j : Int) + 1 : Int) : Rat) * (at0 a (j + 1)).pick) := by
   intro j hj
   unfold derL
   rw [at0_bld (by omega)]
   exact mul_In (nI_W (by omega) (by omega)) (at0_W wa.2) nI_In (pick_In (at0_W wa.2))
 have dB : ∀ j, j < k → (at0 (derL b p) j).In ((((j : Int) + 1 : Int) : Rat) * (at0 b (j + 1)).pick) := by
   intro j hj
   unfold derL
   rw [at0_bld (by omega)]
   exact mul_In (nI_W (by omega) (by omega)) (at0_W wb.2) nI_In (pick_In (at0_W wb.2))
 have L := mul_In (p := p) wI mulC_W (nI_In (k := (i : Int) + 1)) (mulC_Q (p := p) (k := i + 1) wa.2 wb.2 (fun j _ => pick_In (at0_W wa.2 (k := j))) (fun j _ => pick_In (at0_W wb.2 (k := j))))
 have R1 := mulC_Q (p := p) (k := i) (A := fun j => (((j : Int) + 1 : Int) : Rat) * (at0 a (j + 1)).pick) (B := fun j => (at0 b j).pick) wDa.2 wtb.2 (fun j hj => dA j (by omega)) (fun j hj => by rw [at0_take (by omega)]; exact pick_In (at0_W wb.2))
 have R2 := mulC_Q (p := p) (k := i) (A := fun j => (at0 a j).pick) (B := fun j => (((j : Int) + 1 : Int) : Rat) * (at0 b (j + 1)).pick) wta.2 wDb.2 (fun j hj => by rw [at0_take (by omega)]; exact pick_In (at0_W wa.2)) (fun j hj => dB j (by omega))
 have R := add_In (p := p) mulC_W mulC_W R1 R2
 rw [leibniz (fun j => (at0 a j).pick) (fun j => (at0 b j).pick) i] at L
 exact meet_some mul_W add_W (mul_valid wI mulC_W) (add_valid mulC_W mulC_W) L R

theorem rules_met2 {a : List Iv} {c : Iv} {p : Int} (wa : SW a) (wc : c.W) (h17 : a.length ≤ 17) (va : ∀ x ∈ a, x.valid = true) : Met (derL (intL a c p) p) a := by
 have li : (intL a c p).length = a.length + 1 := by simp [intL]
 refine ⟨by rw [derL_len, li]; omega, fun i hi => ?_⟩
 rw [derL_len, li] at hi
 have hi2 : i < a.length := by omega
 have e : at0 (derL (intL a c p) p) i = (nI (i + 1) (i + 1)).mul ((at0 a i).div (nI (i + 1) (i + 1)) p) p := by
   unfold derL
   rw [li, at0_bld (by omega)]
   unfold derC intL
   rw [at0_bld (by omega)]
   rfl
 rw [e]
 have wI : (nI ((i : Int) + 1) ((i : Int) + 1)).W := nI_W (by omega) (by omega)
 have wi := at0_W wa.2 (k := i)
 have pI := pick_In wi
 have D := mul_In (p := p) wI div_W (nI_In (k := (i : Int) + 1)) (div_In (p := p) wi wI pI (nI_In (k := (i : Int) + 1)))
 have n0 : (((i : Int) + 1 : Int) : Rat) ≠ 0 := by
   have := cast_lt (show (0 : Int) < (i : Int) + 1 by omega)
   rw [show ((0 : Int) : Rat) = 0 from rfl] at this
   grind
 have eq : (((i : Int) + 1 : Int) : Rat) * ((at0 a i).pick / (((i : Int) + 1 : Int) : Rat)) = (at0 a i).pick := by grind
 rw [eq] at D
 exact meet_some mul_W wi (mul_valid wI div_W) (at0_valid va) D pI

set_option maxHeartbeats 1000000 in
theorem rules_cq (a b : List Iv) (p : Int) (la : LL a) (lb : LL b) : CQ prog g_fplaw21_SeriesRules [ivs a, ivs b, .int .i64 p] (.bool true) := by
 refine CQ_run rfl fun H => ?_
 have g := gr21_cq p [a, b] (by simp) (by simp; exact ⟨la.len, lb.len⟩)
 simp
 refine WL_call rfl rfl rfl awake21_cq ?_
 simp
 refine WL_callH (vs := [.int .i64 p, ivss [a, b]]) rfl rfl (by simp [prep, frzVs, frzV, ivs, ivss]; rfl) g ?_
 cases hg : gr21 p [a, b]
 · obtain ⟨hl, wa⟩ := gr21_false hg (by simp) la
   obtain ⟨hlb, wb⟩ := gr21_false hg (by simp) lb
   simp
   refine WL_call rfl rfl rfl (pair_cq a b) ?_
   cases hab : areB [a, b]
   · simp
   obtain ⟨a1, a2, a3⟩ := are2.1 hab
   by_cases h2 : a.length < 2
   · have : (a.length : Int) < 2 := by omega
     simp [ivs, this]
   have h2' : ¬ (a.length : Int) < 2 := by omega
   simp [ivs, h2']
   have cc := ConcatI_ev (H := H ++ [some ⟨1, [ivs a, ivs b], true, false⟩, some ⟨1, [ivs a, ivs b], true, true⟩]) (q := H.length + 1) [a, b] (by simp; omega) (by simp; omega) (by simp) (by simp)
   obtain ⟨L, hL⟩ : ∃ L, L = [a, b].flatten := ⟨_, rfl⟩
   have hmem : ∀ x, x ∈ L ↔ x ∈ a ∨ x ∈ b := by intro x; rw [hL]; simp
   have hlen : L.length ≤ 1000000 := by rw [hL]; simp; omega
   rw [← hL] at cc
   refine WL_ev rfl rfl rfl cc ?_
   simp
   have wcat : ∀ x ∈ L, x.W := by
     intro x hx
     rcases (hmem x).1 hx with h | h
     · exact wa.2 x h
     · exact wb.2 x h
   refine WL_ev rfl rfl rfl (ContainsIv_ev (p := fun x => !x.valid) L (by omega) fun x hx => Cb_of (fun _ => rfl) (rul1_cq x (wcat x hx))) ?_
   cases hv : (L.any fun x => !x.valid)
   case true => simp
   have vall : ∀ x ∈ L, x.valid = true := by
     intro x hx
     have := List.any_eq_false.1 hv x hx
     simpa using this
   have va : ∀ x ∈ a, x.valid = true := fun x hx => vall x ((hmem x).2 (.inl hx))
   obtain ⟨k, hk⟩ : ∃ k, k = a.length - 1 := ⟨_, rfl⟩
   have k1 : IntKind.i64.wrap ((a.length : Int) - 1) = (k : Int) := by rw [wrap_i64] <;> omega
   have m1 := rules_met1 (p := p) wa wb a3 (by omega) a2
   have ha0 : 0 < a.length := by omega
   have wa0 := wa.2 _ (List.getElem_mem ha0)
   have m2 := rules_met2 (p := p) (take_SW (k := k) wa) wa0 (by rw [List.length_take]; omega) (fun x hx => va x (List.mem_of_mem_take hx))
   rw [← hk] at m1
   have wM : SW (mulS a b p) := mulL_SW wa.1
   have lM : (mulS a b p).length = a.length := mulL_len
   have M1 := SMul_ev a b p wa wb
   simp only [hab, if_true] at M1
   have dM := SDer_cq (mulS a b p) p wM
   rw [if_pos (are1.2 (by omega))] at dM
   have wDM := derL_W (p := p) wM.1
   have dA := SDer_cq a p wa
   rw [if_pos (are1.2 (by omega))] at dA
   have dB := SDer_cq b p wb
   rw [if_pos (are1.2 (by omega))] at dB
   have wDa := derL_W (p := p) wa.1
   have wDb := derL_W (p := p) wb.1
   have lDa : (derL a p).length = k := by rw [derL_len, hk]
   have lDb : (derL b p).length = k := by rw [derL_len, a3, hk]
   have wta := take_SW (k := k) wa
   have wtb := take_SW (k := k) wb
   have lta : (a.take k).length = k := by rw [List.length_take]; omega
   have ltb : (b.take k).length = k := by rw [List.length_take]; omega
   have M2 := SMul_ev (derL a p) (b.take k) p wDa wtb
   have M3 := SMul_ev (a.take k) (derL b p) p wta wDb
   have ar2 : areB [derL a p, b.take k] = true := are2.2 (by omega)
   have ar3 : areB [a.take k, derL b p] = true := are2.2 (by omega)
   simp only [ar2, ar3, if_true] at M2 M3
   have wM2 : SW (mulS (derL a p) (b.take k) p) := mulL_SW wDa.1
   have wM3 : SW (mulS (a.take k) (derL b p) p) := mulL_SW wta.1
   have lM2 : (mulS (derL a p) (b.take k) p).length = k := by rw [mulL_len, lDa]
   have lM3 : (mulS (a.take k) (derL b p) p).length = k := by rw [mulL_len, lta]
   have ad := SAdd_cq (mulS (derL a p) (b.take k) p) (mulS (a.take k) (derL b p) p) p wM2 wM3
   have wAd : SW (zipI (fun x y => x.add y p) (mulS (derL a p) (b.take k) p) (mulS (a.take k) (derL b p) p)) := ⟨by unfold zipI; rw [if_pos (are2.2 (by omega)), bld_len]; omega, zipI_W fun _ _ _ _ => add_W⟩
   have iA := SInt_cq (a.take k) a[0] p wta wa0
   rw [if_pos ⟨are1.2 (by omega), by omega⟩] at iA
   have wI := intL_W (p := p) (show (a.take k).length ≤ 100000 by omega) wa0
   have lI : (intL (a.take k) a[0] p).length = k + 1 := by unfold intL; rw [bld_len, lta]
   have dI := SDer_cq (intL (a.take k) a[0] p) p wI
   rw [if_pos (are1.2 (by omega))] at dI
   have wDI := derL_W (p := p) wI.1
   have r1 := rul2_t wDM wAd m1
   have r2 := rul2_t wDI wta m2
   have q1 : (0 : Int) ≤ k := by omega
   have q2 : k ≤ a.length := by omega
   have q3 : k ≤ b.length := by omega
   simp only [ivs, List.map_take] at M2 M3 iA r2
   generalize zipI (fun x y => x.add y p) (mulS (derL a p) (b.take k) p) (mulS (a.take k) (derL b p) p) = Ad at *
   generalize mulS (derL a p) (b.take k) p = m2' at *
   generalize mulS (a.take k) (derL b p) p = m3' at *
   generalize derL (mulS a b p) p = dm at *
   generalize mulS a b p = m at *
   generalize derL (intL (a.take k) a[0] p) p = di at *
   generalize intL (a.take k) a[0] p = ia at *
   generalize derL a p = da at *
   generalize derL b p = db at *
   have tM : List.take a.length (List.map Iv.v m) = List.map Iv.v m := List.take_of_length_le (by simp [lM])
   have tM2 : List.take k (List.map Iv.v m2') = List.map Iv.v m2' := List.take_of_length_le (by simp [lM2])
   have tM3 : List.take k (List.map Iv.v m3') = List.map Iv.v m3' := List.take_of_length_le (by simp [lM3])
   simp [k1]
   refine WL_callT rfl rfl rfl ⟨_, _, M1 _, ?_⟩
   simp
   refine WL_callH (vs := [ivs m, .int .i64 p]) rfl rfl (by simp [prep, frzVs, frzV, ivs, tM, lM]; rfl) dM ?_
   simp
   refine WL_call rfl rfl rfl dA ?_
   simp [q3]
   simp only [lDa] at M2
   simp only [lta] at M3
   refine WL_callO (args := [ivs da, .sl (List.take k (List.map Iv.v b)), .int .i64 p]) rfl rfl rfl (M2 _) ?_
   simp [q2]
   refine WL_call rfl rfl rfl dB ?_
   simp
   refine WL_callO (args := [.sl (List.take k (List.map Iv.v a)), ivs db, .int .i64 p]) rfl rfl rfl (M3 _) ?_
   simp
   refine WL_callH (vs := [ivs m2', ivs m3', .int .i64 p]) rfl rfl (by simp [prep, frzVs, frzV, ivs, tM2, tM3, lM2, lM3]; rfl) ad ?_
   simp
   refine WL_call rfl rfl rfl r1 ?_
   simp [q2, ha0]
   refine WL_call rfl rfl rfl iA ?_
   simp
   refine WL_call rfl rfl rfl dI ?_
   simp [q2]
   refine WL_call rfl rfl rfl r2 ?_
   simp
 · simp

end Go.Abs.W

