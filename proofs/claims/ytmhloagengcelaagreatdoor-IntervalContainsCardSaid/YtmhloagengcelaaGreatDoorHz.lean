/- Parts of the proof: FpIso, FpIso2, FpIso3, FpIso4. -/
import Derived.Test.YtmhloagengcelaaGreatDoorHy
import Derived.Test.YtmhloagengcelaaGreatDoorHr
import Derived.Test.YtmhloagengcelaaGreatDoorHp
/- Larger arguments have larger results. -/
namespace Go.Abs.W

theorem valid_mk {l h : Dy} (ol : l.Ok) (oh : h.Ok) (hle : l.val ≤ h.val) : (Iv.mk l h false).valid = true := by
 have : l.cmp h ≤ 0 := by rw [cmp_ok ol oh, cmpI_le]; exact hle
 simp [Iv.valid, ol.valid, oh.valid, this]
theorem known_mk {l h : Dy} (ol : l.Ok) (oh : h.Ok) (hle : l.val ≤ h.val) : (Iv.mk l h false).known = true := by
 have := valid_mk ol oh hle
 simp [Iv.known, this]
theorem known_valid {x : Iv} (h : x.known = true) : x.valid = true ∧ x.all = false := by
 simp [Iv.known] at h; exact ⟨h.2, h.1⟩
end Go.Abs.W

/- Larger arguments have larger results: products and quotients. -/
namespace Go.Abs.W

theorem accLo_val {f : Dy → Dy → Dy × Int} (okf : ∀ a b, (f a b).1.Ok) {x y : Iv} :
   (accLo f (pairs x y) 4).val = min (min (min (f (pairAt x y 0).1 (pairAt x y 0).2).1.val (f (pairAt x y 1).1 (pairAt x y 1).2).1.val) (f (pairAt x y 2).1 (pairAt x y 2).2).1.val) (f (pairAt x y 3).1 (pairAt x y 3).2).1.val := by
 rw [accLo_step, if_neg (by omega), lo2_min (accLo_ok okf 3) (okf _ _), accLo_step, if_neg (by omega), lo2_min (accLo_ok okf 2) (okf _ _), accLo_step, if_neg (by omega), lo2_min (accLo_ok okf 1) (okf _ _), accLo_step, if_pos rfl]
theorem accHi_val {f : Dy → Dy → Dy × Int} (okf : ∀ a b, (f a b).1.Ok) {x y : Iv} :
   (accHi f (pairs x y) 4).val = max (max (max (f (pairAt x y 0).1 (pairAt x y 0).2).1.val (f (pairAt x y 1).1 (pairAt x y 1).2).1.val) (f (pairAt x y 2).1 (pairAt x y 2).2).1.val) (f (pairAt x y 3).1 (pairAt x y 3).2).1.val := by
 rw [accHi_step, if_neg (by omega), hi2_max (accHi_ok okf 3) (okf _ _), accHi_step, if_neg (by omega), hi2_max (accHi_ok okf 2) (okf _ _), accHi_step, if_neg (by omega), hi2_max (accHi_ok okf 1) (okf _ _), accHi_step, if_pos rfl]
theorem accLo_le {f : Dy → Dy → Dy × Int} (okf : ∀ a b, (f a b).1.Ok) {x y : Iv} {i : Nat} (hi : i < 4) : (accLo f (pairs x y) 4).val ≤ (f (pairAt x y i).1 (pairAt x y i).2).1.val := by
 rw [accLo_val okf]
 obtain rfl | rfl | rfl | rfl : i = 0 ∨ i = 1 ∨ i = 2 ∨ i = 3 := by omega
 all_goals omega
theorem accHi_ge {f : Dy → Dy → Dy × Int} (okf : ∀ a b, (f a b).1.Ok) {x y : Iv} {i : Nat} (hi : i < 4) : (f (pairAt x y i).1 (pairAt x y i).2).1.val ≤ (accHi f (pairs x y) 4).val := by
 rw [accHi_val okf]
 obtain rfl | rfl | rfl | rfl : i = 0 ∨ i = 1 ∨ i = 2 ∨ i = 3 := by omega
 all_goals omega
section
variable {P : Nat} {f g : Dy → Dy → Dy × Int} {x y a b : Iv} {le ge : Dy → Dy → Int → Prop}

end

theorem mulL {a b c : Int} (h : a ≤ b) (hc : 0 ≤ c) : c * a ≤ c * b := Int.mul_le_mul_of_nonneg_left h hc
theorem mulLn {a b c : Int} (h : a ≤ b) (hc : c ≤ 0) : c * b ≤ c * a := by
 have := mulL h (show 0 ≤ -c by omega)
 rw [Int.neg_mul, Int.neg_mul] at this; omega
theorem mulR {a b c : Int} (h : a ≤ b) (hc : 0 ≤ c) : a * c ≤ b * c := Int.mul_le_mul_of_nonneg_right h hc
theorem mulRn {a b c : Int} (h : a ≤ b) (hc : c ≤ 0) : b * c ≤ a * c := by
 have := mulR h (show 0 ≤ -c by omega)
 rw [Int.mul_neg, Int.mul_neg] at this; omega

theorem corner_min {a0 a1 b0 b1 U V : Int} (h1 : a0 ≤ U) (h2 : U ≤ a1) (h3 : b0 ≤ V) (h4 : V ≤ b1) : a0 * b0 ≤ U * V ∨ a0 * b1 ≤ U * V ∨ a1 * b0 ≤ U * V ∨ a1 * b1 ≤ U * V := by
 rcases Int.lt_or_le V 0 with hV | hV
 · have := mulRn h2 (Int.le_of_lt hV)
   rcases Int.lt_or_le a1 0 with ha | ha
   · have := mulLn h4 (Int.le_of_lt ha); omega
   · have := mulL h3 ha; omega
 · have := mulR h1 hV
   rcases Int.lt_or_le a0 0 with ha | ha
   · have := mulLn h4 (Int.le_of_lt ha); omega
   · have := mulL h3 ha; omega
theorem corner_max {a0 a1 b0 b1 U V : Int} (h1 : a0 ≤ U) (h2 : U ≤ a1) (h3 : b0 ≤ V) (h4 : V ≤ b1) : U * V ≤ a0 * b0 ∨ U * V ≤ a0 * b1 ∨ U * V ≤ a1 * b0 ∨ U * V ≤ a1 * b1 := by
 rcases Int.lt_or_le V 0 with hV | hV
 · have := mulRn h1 (Int.le_of_lt hV)
   rcases Int.lt_or_le a0 0 with ha | ha
   · have := mulLn h3 (Int.le_of_lt ha); omega
   · have := mulL h4 ha; omega
 · have := mulR h2 hV
   rcases Int.lt_or_le a1 0 with ha | ha
   · have := mulLn h3 (Int.le_of_lt ha); omega
   · have := mulL h4 ha; omega

theorem pairAt_in {x y : Iv} {i : Nat} (hi : i < 4) (hx : x.lo.val ≤ x.hi.val) (hy : y.lo.val ≤ y.hi.val) : x.lo.val ≤ (pairAt x y i).1.val ∧ (pairAt x y i).1.val ≤ x.hi.val ∧ y.lo.val ≤ (pairAt x y i).2.val ∧ (pairAt x y i).2.val ≤ y.hi.val := by
 obtain rfl | rfl | rfl | rfl : i = 0 ∨ i = 1 ∨ i = 2 ∨ i = 3 := by omega
 all_goals simp [pairAt, pairs, hx, hy]
theorem pairAt_ok {x y : Iv} {i : Nat} (hi : i < 4) (hx : x.lo.Ok ∧ x.hi.Ok) (hy : y.lo.Ok ∧ y.hi.Ok) : (pairAt x y i).1.Ok ∧ (pairAt x y i).2.Ok := by
 obtain rfl | rfl | rfl | rfl : i = 0 ∨ i = 1 ∨ i = 2 ∨ i = 3 := by omega
 all_goals simp [pairAt, pairs, hx, hy]
theorem at_some {a b : Iv} {Q : Dy → Dy → Prop} (h : Q a.lo b.lo ∨ Q a.lo b.hi ∨ Q a.hi b.lo ∨ Q a.hi b.hi) : ∃ j, j < 4 ∧ Q (pairAt a b j).1 (pairAt a b j).2 := by
 rcases h with h | h | h | h
 · exact ⟨0, by omega, h⟩
 · exact ⟨1, by omega, h⟩
 · exact ⟨2, by omega, h⟩
 · exact ⟨3, by omega, h⟩

end Go.Abs.W

/- Larger arguments have larger results: quotients, roots, squares. -/
namespace Go.Abs.W

theorem div_corner_min {a0 a1 b0 b1 U V : Int} (h1 : a0 ≤ U) (h2 : U ≤ a1) (h3 : b0 ≤ V) (h4 : V ≤ b1) (hs : 0 < b0 ∨ b1 < 0) :
   (∀ g, divLe a0 b0 g → divLe U V g) ∨ (∀ g, divLe a0 b1 g → divLe U V g) ∨ (∀ g, divLe a1 b0 g → divLe U V g) ∨ (∀ g, divLe a1 b1 g → divLe U V g) := by
 have P0 := Int.le_of_lt (pw_pos 16384)
 rcases hs with hs | hs
 · have u1 := mulR h1 P0
   rcases Int.lt_or_le a0 0 with ha | ha
   · left
     intro g hg
     rw [divLe_pos hs] at hg
     rw [divLe_pos (by omega)]
     have z := mulR (Int.le_of_lt ha) P0
     rw [Int.zero_mul] at z
     have zz : a0 * pw 16384 < 0 := by
       have := Int.mul_lt_mul_of_pos_right ha (pw_pos 16384)
       rwa [Int.zero_mul] at this
     have gn : g < 0 := by
       rcases Int.lt_or_le g 0 with h | h
       · exact h
       · have := Int.mul_nonneg h (Int.le_of_lt hs); omega
     have := mulLn h3 (Int.le_of_lt gn)
     omega
   · right; left
     intro g hg
     rw [divLe_pos (by omega)] at hg ⊢
     have z := Int.mul_nonneg ha P0
     rcases Int.lt_or_le g 0 with h | h
     · have := mulLn (show 0 ≤ V by omega) (Int.le_of_lt h)
       rw [Int.mul_zero] at this; omega
     · have := mulL h4 h; omega
 · have u1 := mulR h2 P0
   rcases Int.lt_or_le 0 a1 with ha | ha
   · right; right; right
     intro g hg
     rw [divLe_neg (by omega)] at hg ⊢
     have zz : 0 < a1 * pw 16384 := Int.mul_pos ha (pw_pos 16384)
     have gn : g < 0 := by
       rcases Int.lt_or_le g 0 with h | h
       · exact h
       · have := mulL (show b1 ≤ 0 by omega) h
         rw [Int.mul_zero] at this; omega
     have := mulLn h4 (Int.le_of_lt gn)
     omega
   · right; right; left
     intro g hg
     rw [divLe_neg (by omega)] at hg ⊢
     have z := mulR ha P0
     rw [Int.zero_mul] at z
     rcases Int.lt_or_le 0 g with h | h
     · have := mulL h3 (Int.le_of_lt h); omega
     · have := mulLn (show V ≤ 0 by omega) h
       rw [Int.mul_zero] at this; omega
theorem div_corner_max {a0 a1 b0 b1 U V : Int} (h1 : a0 ≤ U) (h2 : U ≤ a1) (h3 : b0 ≤ V) (h4 : V ≤ b1) (hs : 0 < b0 ∨ b1 < 0) :
   (∀ g, divGe a0 b0 g → divGe U V g) ∨ (∀ g, divGe a0 b1 g → divGe U V g) ∨ (∀ g, divGe a1 b0 g → divGe U V g) ∨ (∀ g, divGe a1 b1 g → divGe U V g) := by
 have P0 := Int.le_of_lt (pw_pos 16384)
 rcases hs with hs | hs
 · have u1 := mulR h2 P0
   rcases Int.lt_or_le a1 0 with ha | ha
   · right; right; right
     intro g hg
     rw [divGe_pos (by omega)] at hg ⊢
     have z := mulR (Int.le_of_lt ha) P0
     rw [Int.zero_mul] at z
     rcases Int.lt_or_le g 0 with h | h
     · have := mulLn h4 (Int.le_of_lt h); omega
     · have := Int.mul_nonneg h (show 0 ≤ V by omega); omega
   · right; right; left
     intro g hg
     rw [divGe_pos (by omega)] at hg ⊢
     have z := Int.mul_nonneg ha P0
     have gn : 0 ≤ g := by
       rcases Int.lt_or_le g 0 with h | h
       · have : g * b0 < 0 := Int.mul_neg_of_neg_of_pos h hs
         omega
       · exact h
     have := mulL h3 gn
     omega
 · have u1 := mulR h1 P0
   rcases Int.lt_or_le 0 a0 with ha | ha
   · left
     intro g hg
     rw [divGe_neg (by omega)] at hg ⊢
     have z := Int.mul_nonneg (Int.le_of_lt ha) P0
     rcases Int.lt_or_le g 0 with h | h
     · have := mulLn h3 (Int.le_of_lt h); omega
     · have := mulL (show V ≤ 0 by omega) h
       rw [Int.mul_zero] at this; omega
   · right; left
     intro g hg
     rw [divGe_neg (by omega)] at hg ⊢
     have z := mulR ha P0
     rw [Int.zero_mul] at z
     have gn : 0 ≤ g := by
       rcases Int.lt_or_le g 0 with h | h
       · have : 0 < g * b1 := Int.mul_pos_of_neg_of_neg h hs
         omega
       · exact h
     have := mulL h4 gn
     omega

theorem div_lg {u v : Int} (hv : v ≠ 0) (h h2 : Int) (g1 : divLe u v h) (g2 : divGe u v h2) : h ≤ h2 := by
 rcases Int.lt_or_le 0 v with hp | hp
 · rw [divLe_pos hp] at g1
   rw [divGe_pos hp] at g2
   exact (le_scale hp).1 (by omega)
 · rw [divLe_neg (by omega)] at g1
   rw [divGe_neg (by omega)] at g2
   have := le_scale (x := h) (y := h2) (c := -v) (by omega)
   rw [Int.mul_neg, Int.mul_neg] at this
   omega

theorem sgn_range {y : Iv} (wy : y.W) (hk : y.known = true) : y.sgn ≠ 0 ↔ (0 < y.lo.val ∨ y.hi.val < 0) := by
 obtain ⟨o1, o2⟩ := known_ok wy hk
 have s1 := sgn_val o1
 have s2 := sgn_val o2
 unfold Iv.sgn
 rw [if_pos hk]
 constructor
 · intro h
   by_cases h1 : 0 < y.lo.sgn
   · exact .inl (s1.1.1 h1)
   · rw [if_neg h1] at h
     by_cases h2 : y.hi.sgn < 0
     · exact .inr (s2.2.1 h2)
     · rw [if_neg h2] at h; exact absurd rfl h
 · rintro (h | h)
   · rw [if_pos (s1.1.2 h)]; omega
   · have h2 := s2.2.2 h
     by_cases h3 : 0 < y.lo.sgn
     · rw [if_pos h3]; omega
     · rw [if_neg h3, if_pos h2]; omega

theorem ne_nil {d : Dy} (h : d.val ≠ 0) : d.m ≠ [] := by
 intro h0
 apply h
 unfold Dy.val; rw [Dy.absN_nil h0]; simp

theorem abs_known {x : Iv} (wx : x.W) (hk : x.known = true) : x.abs.known = true ∧ x.abs.lo.Ok ∧ x.abs.hi.Ok ∧ 0 ≤ x.abs.lo.val ∧ x.abs.lo.val ≤ x.abs.hi.val := by
 obtain ⟨o1, o2⟩ := abs_okk wx hk
 obtain ⟨r1, r2⟩ := abs_range wx hk
 have ha : x.abs.all = false := by unfold Iv.abs; rw [if_pos hk]
 have hv : x.abs.known = true := by
   have : x.abs.lo.cmp x.abs.hi ≤ 0 := by rw [cmp_ok o1 o2, cmpI_le]; exact r2
   simp [Iv.known, Iv.valid, ha, o1.valid, o2.valid, this]
 exact ⟨hv, o1, o2, r1, r2⟩
theorem abs_vals {x : Iv} (wx : x.W) (hk : x.known = true) : x.abs.hi.val = max (x.lo.val.natAbs : Int) x.hi.val.natAbs ∧ x.abs.lo.val = (if 0 < x.lo.val ∨ x.hi.val < 0 then min (x.lo.val.natAbs : Int) x.hi.val.natAbs else 0) := by
 obtain ⟨h1, h2⟩ := known_ok wx hk
 have a1 := abs_val h1
 have a2 := abs_val h2
 have m2 := hi2_max (abs_ok h1) (abs_ok h2)
 have m1 := lo2_min (abs_ok h1) (abs_ok h2)
 have sr := sgn_range wx hk
 unfold Iv.abs
 rw [if_pos hk]
 show x.mag.val = _ ∧ x.mig.val = _
 unfold Iv.mag Iv.mig
 rw [m2, a1, a2]
 refine ⟨rfl, ?_⟩
 by_cases h : x.sgn = 0
 · rw [if_pos h, zero_val, if_neg (fun h3 => (sr.2 h3) h)]
 · rw [if_neg h, m1, a1, a2, if_pos (sr.1 h)]
end Go.Abs.W

/- Larger arguments have larger results: powers. -/
namespace Go.Abs.W

theorem IsUp.at {p : Nat} {r : Dy × Int} {ge : Int → Prop} (h : IsUp p r ge) (h0 : r.2 = 0) : ge r.1.val := by
 rcases h with ⟨_, b, c⟩ | ⟨a, _⟩
 · exact (c _ b).1 (Int.le_refl _)
 · exact absurd h0 a
section
variable {d e : Dy} {p : Int}

end

end Go.Abs.W

