/- Parts of the proof: FpIso, FpIso2, FpIso3, FpIso4. -/
import Derived.Test.YteajloobgibenaaGreatDoorHy
import Derived.Test.YteajloobgibenaaGreatDoorHr
import Derived.Test.YteajloobgibenaaGreatDoorHp
/- Larger arguments have larger results. -/
namespace Go.Abs.W

/-- Contained, by values. -/
def Iv.Le (x a : Iv) : Prop := a = Iv.whole ∨ (x.known = true ∧ a.known = true ∧ a.lo.val ≤ x.lo.val ∧ x.hi.val ≤ a.hi.val)

theorem valid_mk {l h : Dy} (ol : l.Ok) (oh : h.Ok) (hle : l.val ≤ h.val) : (Iv.mk l h false).valid = true := by
 have : l.cmp h ≤ 0 := by rw [cmp_ok ol oh, cmpI_le]; exact hle
 simp [Iv.valid, ol.valid, oh.valid, this]
theorem known_mk {l h : Dy} (ol : l.Ok) (oh : h.Ok) (hle : l.val ≤ h.val) : (Iv.mk l h false).known = true := by
 have := valid_mk ol oh hle
 simp [Iv.known, this]
theorem known_valid {x : Iv} (h : x.known = true) : x.valid = true ∧ x.all = false := by
 simp [Iv.known] at h; exact ⟨h.2, h.1⟩
theorem ins_whole {r : Iv} (h : r.valid = true) : r.ins Iv.whole = true := by
 have h1 : Iv.whole.valid = true := rfl
 have h2 : Iv.whole.all = true := rfl
 simp [Iv.ins, h, h1, h2]
theorem ins_of {r s : Iv} (wr : r.W) (ws : s.W) (kr : r.known = true) (ks : s.known = true) (h1 : s.lo.val ≤ r.lo.val) (h2 : r.hi.val ≤ s.hi.val) : r.ins s = true := by
 obtain ⟨a1, a2⟩ := known_ok wr kr
 obtain ⟨b1, b2⟩ := known_ok ws ks
 obtain ⟨v1, l1⟩ := known_valid kr
 obtain ⟨v2, l2⟩ := known_valid ks
 have c1 : s.lo.cmp r.lo ≤ 0 := by rw [cmp_ok b1 a1, cmpI_le]; exact h1
 have c2 : r.hi.cmp s.hi ≤ 0 := by rw [cmp_ok a2 b2, cmpI_le]; exact h2
 simp [Iv.ins, v1, v2, l1, l2, c1, c2]

/-- Results made of their ends. -/
theorem made_ins {r1 s1 r2 s2 : Dy × Int} (o1 : r1.1.Ok) (p1 : s1.1.Ok) (o2 : r2.1.Ok) (p2 : s2.1.Ok) (hv : r1.2 = 0 → s1.2 = 0 → r1.1.val ≤ s1.1.val)
   (hd : r2.2 = 0 → r1.2 = 0 ∧ r2.1.val ≤ r1.1.val) (hu : s2.2 = 0 → s1.2 = 0 ∧ s1.1.val ≤ s2.1.val) : (Iv.made r1 s1).ins (Iv.made r2 s2) = true := by
 have v1 : (Iv.made r1 s1).valid = true := by
   unfold Iv.made
   split
   · rename_i h; exact valid_mk o1 p1 (hv h.1 h.2)
   · rfl
 by_cases h : r2.2 = 0 ∧ s2.2 = 0
 · obtain ⟨d1, d2⟩ := hd h.1
   obtain ⟨u1, u2⟩ := hu h.2
   have h3 := hv d1 u1
   have e1 : Iv.made r1 s1 = ⟨r1.1, s1.1, false⟩ := by unfold Iv.made; rw [if_pos ⟨d1, u1⟩]
   have e2 : Iv.made r2 s2 = ⟨r2.1, s2.1, false⟩ := by unfold Iv.made; rw [if_pos h]
   rw [e1, e2]
   exact ins_of ⟨o1.w, p1.w⟩ ⟨o2.w, p2.w⟩ (known_mk o1 p1 h3) (known_mk o2 p2 (by omega)) d2 u2
 · have e2 : Iv.made r2 s2 = Iv.whole := by unfold Iv.made; rw [if_neg h]
   rw [e2]
   exact ins_whole v1
theorem IsDn.le_up {p : Nat} {r s : Dy × Int} {le ge : Int → Prop} (h : IsDn p r le) (h2 : IsUp p s ge) (hlg : ∀ g g2, le g → ge g2 → g ≤ g2) (h0 : r.2 = 0) (h1 : s.2 = 0) : r.1.val ≤ s.1.val := by
 rcases h with ⟨_, b, c⟩ | ⟨a, _⟩
 · rcases h2 with ⟨_, y, z⟩ | ⟨x, _⟩
   · exact hlg _ _ ((c _ b).1 (Int.le_refl _)) ((z _ y).1 (Int.le_refl _))
   · exact absurd h1 x
 · exact absurd h0 a

theorem hull_Le {x u : Iv} (wx : x.W) (wu : u.W) (hx : x.valid = true) (hu : u.valid = true) : x.Le (x.hull u) := by
 unfold Iv.Le Iv.hull
 cases kx : x.known
 · left; simp
 · cases ku : u.known
   · left; simp
   · right
     obtain ⟨a1, a2⟩ := known_ok wx kx
     obtain ⟨b1, b2⟩ := known_ok wu ku
     have h1 := known_le wx kx
     have h2 := known_le wu ku
     simp only [Bool.and_self, if_true]
     have m1 := lo2_min a1 b1
     have m2 := hi2_max a2 b2
     exact ⟨trivial, known_mk (lo2_ok a1 b1) (hi2_ok a2 b2) (by rw [m1, m2]; omega), by rw [m1]; omega, by rw [m2]; omega⟩

/-- Sums. -/
theorem add_iso {x y a b : Iv} {p : Int} (wx : x.W) (wy : y.W) (wa : a.W) (wb : b.W) (hx : x.Le a) (hy : y.Le b) : (x.add y p).ins (a.add b p) = true := by
 have hv : (x.add y p).valid = true := by
   unfold Iv.add
   split
   · rename_i h
     simp only [Bool.and_eq_true] at h
     obtain ⟨⟨k1, k2⟩, hp⟩ := h
     obtain ⟨a1, a2⟩ := known_ok wx k1
     obtain ⟨b1, b2⟩ := known_ok wy k2
     have l1 := known_le wx k1
     have l2 := known_le wy k2
     unfold Iv.made
     split
     · rename_i h0
       exact valid_mk rAdd_ok rAdd_ok ((rAdd_dn a1 b1 hp).le_up (rAdd_up a2 b2 hp) (fun g g2 h h2 => by omega) h0.1 h0.2)
     · rfl
   · rfl
 have wh : ∀ z : Iv, Iv.whole.add z p = Iv.whole ∧ z.add Iv.whole p = Iv.whole := fun z => by
   have : Iv.whole.known = false := rfl
   simp [Iv.add, this]
 rcases hx with rfl | ⟨k1, k3, l1, l2⟩
 · rw [(wh b).1]; exact ins_whole hv
 · rcases hy with rfl | ⟨k2, k4, l3, l4⟩
   · rw [(wh a).2]; exact ins_whole hv
   · cases hp : precB p
     · have : a.add b p = Iv.whole := by simp [Iv.add, hp]
       rw [this]; exact ins_whole hv
     · obtain ⟨a1, a2⟩ := known_ok wx k1
       obtain ⟨b1, b2⟩ := known_ok wy k2
       obtain ⟨c1, c2⟩ := known_ok wa k3
       obtain ⟨d1, d2⟩ := known_ok wb k4
       have q1 := known_le wx k1
       have q2 := known_le wy k2
       unfold Iv.add
       rw [k1, k2, k3, k4, hp, if_pos (by rfl), if_pos (by rfl)]
       refine made_ins rAdd_ok rAdd_ok rAdd_ok rAdd_ok (fun h1 h2 => (rAdd_dn a1 b1 hp).le_up (rAdd_up a2 b2 hp) (fun g g2 h h2 => by omega) h1 h2) ?_ ?_
       · exact (rAdd_dn c1 d1 hp).mono (rAdd_dn a1 b1 hp) (fun g h => by omega)
       · exact (rAdd_up a2 b2 hp).mono (rAdd_up c2 d2 hp) (fun g h => by omega)

theorem neg_Le {y b : Iv} (wy : y.W) (wb : b.W) (hy : y.Le b) : y.neg.Le b.neg := by
 rcases hy with rfl | ⟨k2, k4, l3, l4⟩
 · left; rfl
 · right
   obtain ⟨b1, b2⟩ := known_ok wy k2
   obtain ⟨d1, d2⟩ := known_ok wb k4
   have q2 := known_le wy k2
   have q4 := known_le wb k4
   unfold Iv.neg
   rw [if_pos k2, if_pos k4]
   refine ⟨known_mk (neg'_ok b2) (neg'_ok b1) ?_, known_mk (neg'_ok d2) (neg'_ok d1) ?_, ?_, ?_⟩ <;> simp only [val_neg'] <;> omega

end Go.Abs.W

/- Larger arguments have larger results: products and quotients. -/
namespace Go.Abs.W

theorem accLo_val {f : Dy → Dy → Dy × Int} (okf : ∀ a b, (f a b).1.Ok) {x y : Iv} :
   (accLo f (pairs x y) 4).val = min (min (min (f (pairAt x y 0).1 (pairAt x y 0).2).1.val (f (pairAt x y 1).1 (pairAt x y 1).2).1.val) (f (pairAt x y 2).1 (pairAt x y 2).2).1.val) (f (pairAt x y 3).1 (pairAt x y 3).2).1.val := by
 rw [accLo_step, if_neg (by omega), lo2_min (accLo_ok okf 3) (okf _ _), accLo_step, if_neg (by omega), lo2_min (accLo_ok okf 2) (okf _ _), accLo_step, if_neg (by omega), lo2_min (accLo_ok okf 1) (okf _ _), accLo_step, if_pos rfl]
theorem accHi_val {f : Dy → Dy → Dy × Int} (okf : ∀ a b, (f a b).1.Ok) {x y : Iv} :
   (accHi f (pairs x y) 4).val = max (max (max (f (pairAt x y 0).1 (pairAt x y 0).2).1.val (f (pairAt x y 1).1 (pairAt x y 1).2).1.val) (f (pairAt x y 2).1 (pairAt x y 2).2).1.val) (f (pairAt x y 3).1 (pairAt x y 3).2).1.val := by
 rw [accHi_step, if_neg (by omega), hi2_max (accHi_ok okf 3) (okf _ _), accHi_step, if_neg (by omega), hi2_max (accHi_ok okf 2) (okf _ _), accHi_step, if_neg (by omega), hi2_max (accHi_ok okf 1) (okf _ _), accHi_step, if_pos rfl]
theorem accLo_le {f : Dy → Dy → Dy × Int} (okf : ∀ a b, (f a b).1.Ok) {x y : Iv} {i : Nat} (hi : i < 4) : (accLo f (pairs x y) 4).val ≤ (f (pairAt x y i).1 (pairAt x y i).2).1.val := by
 rw [accLo_val okf]
 obtain rfl | rfl | rfl | rfl : i = 0 ∨ i = 1 ∨ i = 2 ∨ i = 3 := by omega
 all_goals omega
theorem accHi_ge {f : Dy → Dy → Dy × Int} (okf : ∀ a b, (f a b).1.Ok) {x y : Iv} {i : Nat} (hi : i < 4) : (f (pairAt x y i).1 (pairAt x y i).2).1.val ≤ (accHi f (pairs x y) 4).val := by
 rw [accHi_val okf]
 obtain rfl | rfl | rfl | rfl : i = 0 ∨ i = 1 ∨ i = 2 ∨ i = 3 := by omega
 all_goals omega
theorem le_accLo {f : Dy → Dy → Dy × Int} (okf : ∀ a b, (f a b).1.Ok) {x y : Iv} {v : Int} (h : ∀ i, i < 4 → v ≤ (f (pairAt x y i).1 (pairAt x y i).2).1.val) : v ≤ (accLo f (pairs x y) 4).val := by
 have h0 := h 0 (by omega); have h1 := h 1 (by omega); have h2 := h 2 (by omega); have h3 := h 3 (by omega)
 rw [accLo_val okf]; omega
theorem accHi_le {f : Dy → Dy → Dy × Int} (okf : ∀ a b, (f a b).1.Ok) {x y : Iv} {v : Int} (h : ∀ i, i < 4 → (f (pairAt x y i).1 (pairAt x y i).2).1.val ≤ v) : (accHi f (pairs x y) 4).val ≤ v := by
 have h0 := h 0 (by omega); have h1 := h 1 (by omega); have h2 := h 2 (by omega); have h3 := h 3 (by omega)
 rw [accHi_val okf]; omega

section
variable {P : Nat} {f g : Dy → Dy → Dy × Int} {x y a b : Iv} {le ge : Dy → Dy → Int → Prop}

theorem four_valid (d1 : IsDn P (f (pairAt x y 0).1 (pairAt x y 0).2) (le (pairAt x y 0).1 (pairAt x y 0).2)) (u1 : IsUp P (g (pairAt x y 0).1 (pairAt x y 0).2) (ge (pairAt x y 0).1 (pairAt x y 0).2))
   (lg : ∀ h h2, le (pairAt x y 0).1 (pairAt x y 0).2 h → ge (pairAt x y 0).1 (pairAt x y 0).2 h2 → h ≤ h2) (okf : ∀ a b, (f a b).1.Ok) (okg : ∀ a b, (g a b).1.Ok) :
   (Iv.four f g x y).valid = true ∧ (good4 f g x y 4 → (accLo f (pairs x y) 4).val ≤ (accHi g (pairs x y) 4).val) := by
 have key : good4 f g x y 4 → (accLo f (pairs x y) 4).val ≤ (accHi g (pairs x y) 4).val := by
   intro hg
   have h := hg 0 (by omega)
   have h1 := d1.le_up u1 lg h.1 h.2
   have h2 := accLo_le okf (x := x) (y := y) (i := 0) (by omega)
   have h3 := accHi_ge okg (x := x) (y := y) (i := 0) (by omega)
   omega
 refine ⟨?_, key⟩
 by_cases hg : good4 f g x y 4
 · rw [four_good hg]
   exact valid_mk (accLo_ok okf 4) (accHi_ok okg 4) (key hg)
 · unfold Iv.four
   split
   · rename_i hc
     exfalso
     apply hg
     intro j hj
     simp [pairs] at hc
     obtain rfl | rfl | rfl | rfl : j = 0 ∨ j = 1 ∨ j = 2 ∨ j = 3 := by omega
     all_goals simp [pairAt, pairs, hc]
   · rfl

theorem four_iso (okf : ∀ a b, (f a b).1.Ok) (okg : ∀ a b, (g a b).1.Ok) (d1 : ∀ i, i < 4 → IsDn P (f (pairAt x y i).1 (pairAt x y i).2) (le (pairAt x y i).1 (pairAt x y i).2)) (u1 : ∀ i, i < 4 → IsUp P (g (pairAt x y i).1 (pairAt x y i).2) (ge (pairAt x y i).1 (pairAt x y i).2))
   (d2 : ∀ i, i < 4 → IsDn P (f (pairAt a b i).1 (pairAt a b i).2) (le (pairAt a b i).1 (pairAt a b i).2)) (u2 : ∀ i, i < 4 → IsUp P (g (pairAt a b i).1 (pairAt a b i).2) (ge (pairAt a b i).1 (pairAt a b i).2))
   (lg : ∀ h h2, le (pairAt x y 0).1 (pairAt x y 0).2 h → ge (pairAt x y 0).1 (pairAt x y 0).2 h2 → h ≤ h2)
   (cd : ∀ i, i < 4 → ∃ j, j < 4 ∧ ∀ h, le (pairAt a b j).1 (pairAt a b j).2 h → le (pairAt x y i).1 (pairAt x y i).2 h)
   (cu : ∀ i, i < 4 → ∃ j, j < 4 ∧ ∀ h, ge (pairAt a b j).1 (pairAt a b j).2 h → ge (pairAt x y i).1 (pairAt x y i).2 h) :
   (Iv.four f g x y).ins (Iv.four f g a b) = true := by
 obtain ⟨v1, k1⟩ := four_valid (d1 0 (by omega)) (u1 0 (by omega)) lg okf okg
 by_cases hb : good4 f g a b 4
 · have lo : ∀ i, i < 4 → (f (pairAt x y i).1 (pairAt x y i).2).2 = 0 ∧ (accLo f (pairs a b) 4).val ≤ (f (pairAt x y i).1 (pairAt x y i).2).1.val := by
     intro i hi
     obtain ⟨j, hj, hc⟩ := cd i hi
     obtain ⟨h1, h2⟩ := (d2 j hj).mono (d1 i hi) hc (hb j hj).1
     have := accLo_le okf (x := a) (y := b) hj
     exact ⟨h1, by omega⟩
   have hi' : ∀ i, i < 4 → (g (pairAt x y i).1 (pairAt x y i).2).2 = 0 ∧ (g (pairAt x y i).1 (pairAt x y i).2).1.val ≤ (accHi g (pairs a b) 4).val := by
     intro i hi
     obtain ⟨j, hj, hc⟩ := cu i hi
     obtain ⟨h1, h2⟩ := (u1 i hi).mono (u2 j hj) hc (hb j hj).2
     have := accHi_ge okg (x := a) (y := b) hj
     exact ⟨h1, by omega⟩
   have hs : good4 f g x y 4 := fun i hi => ⟨(lo i hi).1, (hi' i hi).1⟩
   have l1 := le_accLo okf (x := x) (y := y) (fun i hi => (lo i hi).2)
   have l2 := accHi_le okg (x := x) (y := y) (fun i hi => (hi' i hi).2)
   have l3 := k1 hs
   rw [four_good hs, four_good hb]
   exact ins_of ⟨(accLo_ok okf 4).w, (accHi_ok okg 4).w⟩ ⟨(accLo_ok okf 4).w, (accHi_ok okg 4).w⟩ (known_mk (accLo_ok okf 4) (accHi_ok okg 4) l3) (known_mk (accLo_ok okf 4) (accHi_ok okg 4) (by omega)) l1 l2
 · have : Iv.four f g a b = Iv.whole := by
     unfold Iv.four
     split
     · rename_i hc
       exfalso
       apply hb
       intro j hj
       simp [pairs] at hc
       obtain rfl | rfl | rfl | rfl : j = 0 ∨ j = 1 ∨ j = 2 ∨ j = 3 := by omega
       all_goals simp [pairAt, pairs, hc]
     · rfl
   rw [this]
   exact ins_whole v1
end

theorem mulL {a b c : Int} (h : a ≤ b) (hc : 0 ≤ c) : c * a ≤ c * b := Int.mul_le_mul_of_nonneg_left h hc
theorem mulLn {a b c : Int} (h : a ≤ b) (hc : c ≤ 0) : c * b ≤ c * a := by
 have := mulL h (show 0 ≤ -c by omega)
 rw [Int.neg_mul, Int.neg_mul] at this; omega
theorem mulR {a b c : Int} (h : a ≤ b) (hc : 0 ≤ c) : a * c ≤ b * c := Int.mul_le_mul_of_nonneg_right h hc
theorem mulRn {a b c : Int} (h : a ≤ b) (hc : c ≤ 0) : b * c ≤ a * c := by
 have := mulR h (show 0 ≤ -c by omega)
 rw [Int.mul_neg, Int.mul_neg] at this; omega

theorem corner_min {a0 a1 b0 b1 U V : Int} (h1 : a0 ≤ U) (h2 : U ≤ a1) (h3 : b0 ≤ V) (h4 : V ≤ b1) : a0 * b0 ≤ U * V ∨ a0 * b1 ≤ U * V ∨ a1 * b0 ≤ U * V ∨ a1 * b1 ≤ U * V := by
 rcases Int.lt_or_le V 0 with hV | hV
 · have := mulRn h2 (Int.le_of_lt hV)
   rcases Int.lt_or_le a1 0 with ha | ha
   · have := mulLn h4 (Int.le_of_lt ha); omega
   · have := mulL h3 ha; omega
 · have := mulR h1 hV
   rcases Int.lt_or_le a0 0 with ha | ha
   · have := mulLn h4 (Int.le_of_lt ha); omega
   · have := mulL h3 ha; omega
theorem corner_max {a0 a1 b0 b1 U V : Int} (h1 : a0 ≤ U) (h2 : U ≤ a1) (h3 : b0 ≤ V) (h4 : V ≤ b1) : U * V ≤ a0 * b0 ∨ U * V ≤ a0 * b1 ∨ U * V ≤ a1 * b0 ∨ U * V ≤ a1 * b1 := by
 rcases Int.lt_or_le V 0 with hV | hV
 · have := mulRn h1 (Int.le_of_lt hV)
   rcases Int.lt_or_le a0 0 with ha | ha
   · have := mulLn h3 (Int.le_of_lt ha); omega
   · have := mulL h4 ha; omega
 · have := mulR h2 hV
   rcases Int.lt_or_le a1 0 with ha | ha
   · have := mulLn h3 (Int.le_of_lt ha); omega
   · have := mulL h4 ha; omega

theorem pairAt_in {x y : Iv} {i : Nat} (hi : i < 4) (hx : x.lo.val ≤ x.hi.val) (hy : y.lo.val ≤ y.hi.val) : x.lo.val ≤ (pairAt x y i).1.val ∧ (pairAt x y i).1.val ≤ x.hi.val ∧ y.lo.val ≤ (pairAt x y i).2.val ∧ (pairAt x y i).2.val ≤ y.hi.val := by
 obtain rfl | rfl | rfl | rfl : i = 0 ∨ i = 1 ∨ i = 2 ∨ i = 3 := by omega
 all_goals simp [pairAt, pairs, hx, hy]
theorem pairAt_ok {x y : Iv} {i : Nat} (hi : i < 4) (hx : x.lo.Ok ∧ x.hi.Ok) (hy : y.lo.Ok ∧ y.hi.Ok) : (pairAt x y i).1.Ok ∧ (pairAt x y i).2.Ok := by
 obtain rfl | rfl | rfl | rfl : i = 0 ∨ i = 1 ∨ i = 2 ∨ i = 3 := by omega
 all_goals simp [pairAt, pairs, hx, hy]
theorem at_some {a b : Iv} {Q : Dy → Dy → Prop} (h : Q a.lo b.lo ∨ Q a.lo b.hi ∨ Q a.hi b.lo ∨ Q a.hi b.hi) : ∃ j, j < 4 ∧ Q (pairAt a b j).1 (pairAt a b j).2 := by
 rcases h with h | h | h | h
 · exact ⟨0, by omega, h⟩
 · exact ⟨1, by omega, h⟩
 · exact ⟨2, by omega, h⟩
 · exact ⟨3, by omega, h⟩

theorem mul_iso {x y a b : Iv} {p : Int} (wx : x.W) (wy : y.W) (wa : a.W) (wb : b.W) (hx : x.Le a) (hy : y.Le b) : (x.mul y p).ins (a.mul b p) = true := by
 have lgm : ∀ u v : Dy, ∀ h h2 : Int, h * pw 16384 ≤ u.val * v.val → u.val * v.val ≤ h2 * pw 16384 → h ≤ h2 := fun u v h h2 g1 g2 => (le_scale (pw_pos 16384)).1 (by omega)
 have hv : (x.mul y p).valid = true := by
   unfold Iv.mul
   split
   · rename_i h
     simp only [Bool.and_eq_true] at h
     obtain ⟨⟨k1, k2⟩, hp⟩ := h
     have o := pairAt_ok (i := 0) (by omega) (known_ok wx k1) (known_ok wy k2)
     exact (four_valid (le := fun u v g => g * pw 16384 ≤ u.val * v.val) (ge := fun u v g => u.val * v.val ≤ g * pw 16384) (rMul_dn o.1 o.2 hp) (rMul_up o.1 o.2 hp) (lgm _ _) (fun _ _ => rMul_ok) (fun _ _ => rMul_ok)).1
   · rfl
 have wh : ∀ z : Iv, Iv.whole.mul z p = Iv.whole ∧ z.mul Iv.whole p = Iv.whole := fun z => by
   have : Iv.whole.known = false := rfl
   simp [Iv.mul, this]
 rcases hx with rfl | ⟨k1, k3, l1, l2⟩
 · rw [(wh b).1]; exact ins_whole hv
 · rcases hy with rfl | ⟨k2, k4, l3, l4⟩
   · rw [(wh a).2]; exact ins_whole hv
   · cases hp : precB p
     · have : a.mul b p = Iv.whole := by simp [Iv.mul, hp]
       rw [this]; exact ins_whole hv
     · have ox := known_ok wx k1
       have oy := known_ok wy k2
       have oa := known_ok wa k3
       have ob := known_ok wb k4
       have q1 := known_le wx k1
       have q2 := known_le wy k2
       unfold Iv.mul
       rw [k1, k2, k3, k4, hp, if_pos (by rfl), if_pos (by rfl)]
       refine four_iso (P := p.toNat) (le := fun u v g => g * pw 16384 ≤ u.val * v.val) (ge := fun u v g => u.val * v.val ≤ g * pw 16384) (fun _ _ => rMul_ok) (fun _ _ => rMul_ok) ?_ ?_ ?_ ?_ (lgm _ _) ?_ ?_
       · intro i hi; have o := pairAt_ok hi ox oy; exact rMul_dn o.1 o.2 hp
       · intro i hi; have o := pairAt_ok hi ox oy; exact rMul_up o.1 o.2 hp
       · intro i hi; have o := pairAt_ok hi oa ob; exact rMul_dn o.1 o.2 hp
       · intro i hi; have o := pairAt_ok hi oa ob; exact rMul_up o.1 o.2 hp
       · intro i hi
         obtain ⟨g1, g2, g3, g4⟩ := pairAt_in hi q1 q2
         obtain ⟨j, hj, hq⟩ := at_some (a := a) (b := b) (Q := fun u v => u.val * v.val ≤ (pairAt x y i).1.val * (pairAt x y i).2.val) (corner_min (by omega) (by omega) (by omega) (by omega))
         exact ⟨j, hj, fun h hh => by omega⟩
       · intro i hi
         obtain ⟨g1, g2, g3, g4⟩ := pairAt_in hi q1 q2
         obtain ⟨j, hj, hq⟩ := at_some (a := a) (b := b) (Q := fun u v => (pairAt x y i).1.val * (pairAt x y i).2.val ≤ u.val * v.val) (corner_max (by omega) (by omega) (by omega) (by omega))
         exact ⟨j, hj, fun h hh => by omega⟩

end Go.Abs.W

/- Larger arguments have larger results: quotients, roots, squares. -/
namespace Go.Abs.W

theorem div_corner_min {a0 a1 b0 b1 U V : Int} (h1 : a0 ≤ U) (h2 : U ≤ a1) (h3 : b0 ≤ V) (h4 : V ≤ b1) (hs : 0 < b0 ∨ b1 < 0) :
   (∀ g, divLe a0 b0 g → divLe U V g) ∨ (∀ g, divLe a0 b1 g → divLe U V g) ∨ (∀ g, divLe a1 b0 g → divLe U V g) ∨ (∀ g, divLe a1 b1 g → divLe U V g) := by
 have P0 := Int.le_of_lt (pw_pos 16384)
 rcases hs with hs | hs
 · have u1 := mulR h1 P0
   rcases Int.lt_or_le a0 0 with ha | ha
   · left
     intro g hg
     rw [divLe_pos hs] at hg
     rw [divLe_pos (by omega)]
     have z := mulR (Int.le_of_lt ha) P0
     rw [Int.zero_mul] at z
     have zz : a0 * pw 16384 < 0 := by
       have := Int.mul_lt_mul_of_pos_right ha (pw_pos 16384)
       rwa [Int.zero_mul] at this
     have gn : g < 0 := by
       rcases Int.lt_or_le g 0 with h | h
       · exact h
       · have := Int.mul_nonneg h (Int.le_of_lt hs); omega
     have := mulLn h3 (Int.le_of_lt gn)
     omega
   · right; left
     intro g hg
     rw [divLe_pos (by omega)] at hg ⊢
     have z := Int.mul_nonneg ha P0
     rcases Int.lt_or_le g 0 with h | h
     · have := mulLn (show 0 ≤ V by omega) (Int.le_of_lt h)
       rw [Int.mul_zero] at this; omega
     · have := mulL h4 h; omega
 · have u1 := mulR h2 P0
   rcases Int.lt_or_le 0 a1 with ha | ha
   · right; right; right
     intro g hg
     rw [divLe_neg (by omega)] at hg ⊢
     have zz : 0 < a1 * pw 16384 := Int.mul_pos ha (pw_pos 16384)
     have gn : g < 0 := by
       rcases Int.lt_or_le g 0 with h | h
       · exact h
       · have := mulL (show b1 ≤ 0 by omega) h
         rw [Int.mul_zero] at this; omega
     have := mulLn h4 (Int.le_of_lt gn)
     omega
   · right; right; left
     intro g hg
     rw [divLe_neg (by omega)] at hg ⊢
     have z := mulR ha P0
     rw [Int.zero_mul] at z
     rcases Int.lt_or_le 0 g with h | h
     · have := mulL h3 (Int.le_of_lt h); omega
     · have := mulLn (show V ≤ 0 by omega) h
       rw [Int.mul_zero] at this; omega
theorem div_corner_max {a0 a1 b0 b1 U V : Int} (h1 : a0 ≤ U) (h2 : U ≤ a1) (h3 : b0 ≤ V) (h4 : V ≤ b1) (hs : 0 < b0 ∨ b1 < 0) :
   (∀ g, divGe a0 b0 g → divGe U V g) ∨ (∀ g, divGe a0 b1 g → divGe U V g) ∨ (∀ g, divGe a1 b0 g → divGe U V g) ∨ (∀ g, divGe a1 b1 g → divGe U V g) := by
 have P0 := Int.le_of_lt (pw_pos 16384)
 rcases hs with hs | hs
 · have u1 := mulR h2 P0
   rcases Int.lt_or_le a1 0 with ha | ha
   · right; right; right
     intro g hg
     rw [divGe_pos (by omega)] at hg ⊢
     have z := mulR (Int.le_of_lt ha) P0
     rw [Int.zero_mul] at z
     rcases Int.lt_or_le g 0 with h | h
     · have := mulLn h4 (Int.le_of_lt h); omega
     · have := Int.mul_nonneg h (show 0 ≤ V by omega); omega
   · right; right; left
     intro g hg
     rw [divGe_pos (by omega)] at hg ⊢
     have z := Int.mul_nonneg ha P0
     have gn : 0 ≤ g := by
       rcases Int.lt_or_le g 0 with h | h
       · have : g * b0 < 0 := Int.mul_neg_of_neg_of_pos h hs
         omega
       · exact h
     have := mulL h3 gn
     omega
 · have u1 := mulR h1 P0
   rcases Int.lt_or_le 0 a0 with ha | ha
   · left
     intro g hg
     rw [divGe_neg (by omega)] at hg ⊢
     have z := Int.mul_nonneg (Int.le_of_lt ha) P0
     rcases Int.lt_or_le g 0 with h | h
     · have := mulLn h3 (Int.le_of_lt h); omega
     · have := mulL (show V ≤ 0 by omega) h
       rw [Int.mul_zero] at this; omega
   · right; left
     intro g hg
     rw [divGe_neg (by omega)] at hg ⊢
     have z := mulR ha P0
     rw [Int.zero_mul] at z
     have gn : 0 ≤ g := by
       rcases Int.lt_or_le g 0 with h | h
       · have : 0 < g * b1 := Int.mul_pos_of_neg_of_neg h hs
         omega
       · exact h
     have := mulL h4 gn
     omega

theorem div_lg {u v : Int} (hv : v ≠ 0) (h h2 : Int) (g1 : divLe u v h) (g2 : divGe u v h2) : h ≤ h2 := by
 rcases Int.lt_or_le 0 v with hp | hp
 · rw [divLe_pos hp] at g1
   rw [divGe_pos hp] at g2
   exact (le_scale hp).1 (by omega)
 · rw [divLe_neg (by omega)] at g1
   rw [divGe_neg (by omega)] at g2
   have := le_scale (x := h) (y := h2) (c := -v) (by omega)
   rw [Int.mul_neg, Int.mul_neg] at this
   omega

theorem sgn_range {y : Iv} (wy : y.W) (hk : y.known = true) : y.sgn ≠ 0 ↔ (0 < y.lo.val ∨ y.hi.val < 0) := by
 obtain ⟨o1, o2⟩ := known_ok wy hk
 have s1 := sgn_val o1
 have s2 := sgn_val o2
 unfold Iv.sgn
 rw [if_pos hk]
 constructor
 · intro h
   by_cases h1 : 0 < y.lo.sgn
   · exact .inl (s1.1.1 h1)
   · rw [if_neg h1] at h
     by_cases h2 : y.hi.sgn < 0
     · exact .inr (s2.2.1 h2)
     · rw [if_neg h2] at h; exact absurd rfl h
 · rintro (h | h)
   · rw [if_pos (s1.1.2 h)]; omega
   · have h2 := s2.2.2 h
     by_cases h3 : 0 < y.lo.sgn
     · rw [if_pos h3]; omega
     · rw [if_neg h3, if_pos h2]; omega

theorem ne_nil {d : Dy} (h : d.val ≠ 0) : d.m ≠ [] := by
 intro h0
 apply h
 unfold Dy.val; rw [Dy.absN_nil h0]; simp

theorem div_iso {x y a b : Iv} {p : Int} (wx : x.W) (wy : y.W) (wa : a.W) (wb : b.W) (hx : x.Le a) (hy : y.Le b) : (x.div y p).ins (a.div b p) = true := by
 have hv : (x.div y p).valid = true := by
   unfold Iv.div
   split
   · rename_i h
     simp only [Bool.and_eq_true, decide_eq_true_eq] at h
     obtain ⟨⟨⟨k1, k2⟩, hp⟩, hs⟩ := h
     have o := pairAt_ok (i := 0) (by omega) (known_ok wx k1) (known_ok wy k2)
     have r := pairAt_in (i := 0) (by omega) (known_le wx k1) (known_le wy k2)
     have hr := (sgn_range wy k2).1 hs
     have hne : (pairAt x y 0).2.val ≠ 0 := by omega
     exact (four_valid (le := fun u v => divLe u.val v.val) (ge := fun u v => divGe u.val v.val) (rDiv_dn o.1 o.2 hp (ne_nil hne)) (rDiv_up o.1 o.2 hp (ne_nil hne)) (div_lg hne) (fun _ _ => rDiv_ok) (fun _ _ => rDiv_ok)).1
   · rfl
 have wh : ∀ z : Iv, Iv.whole.div z p = Iv.whole ∧ z.div Iv.whole p = Iv.whole := fun z => by
   have : Iv.whole.known = false := rfl
   simp [Iv.div, this]
 rcases hx with rfl | ⟨k1, k3, l1, l2⟩
 · rw [(wh b).1]; exact ins_whole hv
 · rcases hy with rfl | ⟨k2, k4, l3, l4⟩
   · rw [(wh a).2]; exact ins_whole hv
   · cases hp : precB p
     · have : a.div b p = Iv.whole := by simp [Iv.div, hp]
       rw [this]; exact ins_whole hv
     · by_cases hsb : b.sgn = 0
       · have : a.div b p = Iv.whole := by simp [Iv.div, hsb]
         rw [this]; exact ins_whole hv
       · have ox := known_ok wx k1
         have oy := known_ok wy k2
         have oa := known_ok wa k3
         have ob := known_ok wb k4
         have q1 := known_le wx k1
         have q2 := known_le wy k2
         have q4 := known_le wb k4
         have q3 := known_le wa k3
         have rb := (sgn_range wb k4).1 hsb
         have hsy : y.sgn ≠ 0 := (sgn_range wy k2).2 (by omega)
         unfold Iv.div
         rw [k1, k2, k3, k4, hp, if_pos (by simpa using hsy), if_pos (by simpa using hsb)]
         have nx : ∀ i, i < 4 → (pairAt x y i).2.val ≠ 0 := fun i hi => by have := pairAt_in hi q1 q2; omega
         have na : ∀ i, i < 4 → (pairAt a b i).2.val ≠ 0 := fun i hi => by have := pairAt_in hi q3 q4; omega
         refine four_iso (P := p.toNat) (le := fun u v => divLe u.val v.val) (ge := fun u v => divGe u.val v.val) (fun _ _ => rDiv_ok) (fun _ _ => rDiv_ok) ?_ ?_ ?_ ?_ (div_lg (nx 0 (by omega))) ?_ ?_
         · intro i hi; have o := pairAt_ok hi ox oy; exact rDiv_dn o.1 o.2 hp (ne_nil (nx i hi))
         · intro i hi; have o := pairAt_ok hi ox oy; exact rDiv_up o.1 o.2 hp (ne_nil (nx i hi))
         · intro i hi; have o := pairAt_ok hi oa ob; exact rDiv_dn o.1 o.2 hp (ne_nil (na i hi))
         · intro i hi; have o := pairAt_ok hi oa ob; exact rDiv_up o.1 o.2 hp (ne_nil (na i hi))
         · intro i hi
           obtain ⟨g1, g2, g3, g4⟩ := pairAt_in hi q1 q2
           exact at_some (a := a) (b := b) (Q := fun u v => ∀ g, divLe u.val v.val g → divLe (pairAt x y i).1.val (pairAt x y i).2.val g) (div_corner_min (by omega) (by omega) (by omega) (by omega) rb)
         · intro i hi
           obtain ⟨g1, g2, g3, g4⟩ := pairAt_in hi q1 q2
           exact at_some (a := a) (b := b) (Q := fun u v => ∀ g, divGe u.val v.val g → divGe (pairAt x y i).1.val (pairAt x y i).2.val g) (div_corner_max (by omega) (by omega) (by omega) (by omega) rb)

theorem abs_known {x : Iv} (wx : x.W) (hk : x.known = true) : x.abs.known = true ∧ x.abs.lo.Ok ∧ x.abs.hi.Ok ∧ 0 ≤ x.abs.lo.val ∧ x.abs.lo.val ≤ x.abs.hi.val := by
 obtain ⟨o1, o2⟩ := abs_okk wx hk
 obtain ⟨r1, r2⟩ := abs_range wx hk
 have ha : x.abs.all = false := by unfold Iv.abs; rw [if_pos hk]
 have hv : x.abs.known = true := by
   have : x.abs.lo.cmp x.abs.hi ≤ 0 := by rw [cmp_ok o1 o2, cmpI_le]; exact r2
   simp [Iv.known, Iv.valid, ha, o1.valid, o2.valid, this]
 exact ⟨hv, o1, o2, r1, r2⟩
theorem abs_vals {x : Iv} (wx : x.W) (hk : x.known = true) : x.abs.hi.val = max (x.lo.val.natAbs : Int) x.hi.val.natAbs ∧ x.abs.lo.val = (if 0 < x.lo.val ∨ x.hi.val < 0 then min (x.lo.val.natAbs : Int) x.hi.val.natAbs else 0) := by
 obtain ⟨h1, h2⟩ := known_ok wx hk
 have a1 := abs_val h1
 have a2 := abs_val h2
 have m2 := hi2_max (abs_ok h1) (abs_ok h2)
 have m1 := lo2_min (abs_ok h1) (abs_ok h2)
 have sr := sgn_range wx hk
 unfold Iv.abs
 rw [if_pos hk]
 show x.mag.val = _ ∧ x.mig.val = _
 unfold Iv.mag Iv.mig
 rw [m2, a1, a2]
 refine ⟨rfl, ?_⟩
 by_cases h : x.sgn = 0
 · rw [if_pos h, zero_val, if_neg (fun h3 => (sr.2 h3) h)]
 · rw [if_neg h, m1, a1, a2, if_pos (sr.1 h)]
theorem abs_Le {x a : Iv} (wx : x.W) (wa : a.W) (hx : x.Le a) : x.abs.Le a.abs := by
 rcases hx with rfl | ⟨k1, k3, l1, l2⟩
 · left; rfl
 · right
   obtain ⟨x1, x2⟩ := abs_vals wx k1
   obtain ⟨a1, a2⟩ := abs_vals wa k3
   have q1 := known_le wx k1
   refine ⟨(abs_known wx k1).1, (abs_known wa k3).1, ?_, ?_⟩
   · rw [x2, a2]
     split <;> split <;> omega
   · rw [x1, a1]; omega
theorem sqrt_lg {v : Int} (h h2 : Int) (g1 : sqLe v h) (g2 : sqGe v h2) : h ≤ h2 := by
 obtain ⟨g3, g4⟩ := g2
 rcases g1 with g1 | g1
 · omega
 · rcases Int.lt_or_le h 0 with h0 | h0
   · omega
   · exact (sq_lt_iff h0 g3).1 (by omega)
theorem sqrt_iso {x a : Iv} {p : Int} (wx : x.W) (wa : a.W) (hx : x.Le a) : (x.sqrt p).ins (a.sqrt p) = true := by
 have pos : ∀ {d : Dy}, d.Ok → 0 < d.val → d.m ≠ [] ∧ d.neg = false := fun {d} o h => by
   have := ne_nil (d := d) (by omega)
   exact ⟨this, (val_sign o this).1 h⟩
 have both : ∀ {x : Iv}, x.W → x.known = true → 0 < x.lo.sgn → 0 < x.lo.val ∧ 0 < x.hi.val := fun {x} w k h => by
   obtain ⟨o1, o2⟩ := known_ok w k
   have := (sgn_val o1).1.1 h
   have := known_le w k
   omega
 have mono1 : ∀ u v : Int, u ≤ v → ∀ g, sqLe u g → sqLe v g := by
   intro u v h g hg
   have := mulR h (Int.le_of_lt (pw_pos 16384))
   rcases hg with hg | hg
   · exact .inl hg
   · exact .inr (by omega)
 have mono2 : ∀ u v : Int, u ≤ v → ∀ g, sqGe v g → sqGe u g := by
   intro u v h g hg
   have := mulR h (Int.le_of_lt (pw_pos 16384))
   exact ⟨hg.1, by have := hg.2; omega⟩
 have hv : (x.sqrt p).valid = true := by
   unfold Iv.sqrt
   split
   · rename_i h
     simp only [Bool.and_eq_true, decide_eq_true_eq] at h
     obtain ⟨⟨k1, hp⟩, hs⟩ := h
     obtain ⟨o1, o2⟩ := known_ok wx k1
     obtain ⟨v1, v2⟩ := both wx k1 hs
     obtain ⟨n1, s1⟩ := pos o1 v1
     obtain ⟨n2, s2⟩ := pos o2 v2
     have l1 := known_le wx k1
     unfold Iv.made
     split
     · rename_i h0
       exact valid_mk rSqrt_ok rSqrt_ok ((rSqrt_dn o1 hp n1 s1).le_up (rSqrt_up o2 hp n2 s2) (fun g g2 h h2 => sqrt_lg (v := x.hi.val) g g2 (mono1 _ _ l1 g h) h2) h0.1 h0.2)
     · rfl
   · rfl
 rcases hx with rfl | ⟨k1, k3, l1, l2⟩
 · have : Iv.whole.sqrt p = Iv.whole := by
     have : Iv.whole.known = false := rfl
     simp [Iv.sqrt, this]
   rw [this]; exact ins_whole hv
 · cases hp : precB p
   · have : a.sqrt p = Iv.whole := by simp [Iv.sqrt, hp]
     rw [this]; exact ins_whole hv
   · by_cases hs : 0 < a.lo.sgn
     · obtain ⟨a1, a2⟩ := known_ok wx k1
       obtain ⟨c1, c2⟩ := known_ok wa k3
       obtain ⟨v3, v4⟩ := both wa k3 hs
       have q1 := known_le wx k1
       have hsx : 0 < x.lo.sgn := (sgn_val a1).1.2 (by omega)
       obtain ⟨n1, s1⟩ := pos a1 (by omega)
       obtain ⟨n2, s2⟩ := pos a2 (by omega)
       obtain ⟨n3, s3⟩ := pos c1 (by omega)
       obtain ⟨n4, s4⟩ := pos c2 (by omega)
       unfold Iv.sqrt
       rw [k1, k3, hp, if_pos (by simpa using hsx), if_pos (by simpa using hs)]
       refine made_ins rSqrt_ok rSqrt_ok rSqrt_ok rSqrt_ok (fun h1 h2 => (rSqrt_dn a1 hp n1 s1).le_up (rSqrt_up a2 hp n2 s2) (fun g g2 h h2 => sqrt_lg (v := x.hi.val) g g2 (mono1 _ _ q1 g h) h2) h1 h2) ?_ ?_
       · exact (rSqrt_dn c1 hp n3 s3).mono (rSqrt_dn a1 hp n1 s1) (mono1 _ _ l1)
       · exact (rSqrt_up a2 hp n2 s2).mono (rSqrt_up c2 hp n4 s4) (mono2 _ _ l2)
     · have : a.sqrt p = Iv.whole := by simp [Iv.sqrt, hs]
       rw [this]; exact ins_whole hv

end Go.Abs.W

/- Larger arguments have larger results: powers. -/
namespace Go.Abs.W

theorem IsDn.nonneg {p : Nat} {r : Dy × Int} {le : Int → Prop} (h : IsDn p r le) (h0 : le 0) : r.2 = 0 ∧ 0 ≤ r.1.val := by
 rcases h with ⟨a, b, c⟩ | ⟨_, c⟩
 · exact ⟨a, (c 0 grid_zero).2 h0⟩
 · exact absurd h0 (c 0 grid_zero)
theorem IsUp.at {p : Nat} {r : Dy × Int} {ge : Int → Prop} (h : IsUp p r ge) (h0 : r.2 = 0) : ge r.1.val := by
 rcases h with ⟨_, b, c⟩ | ⟨a, _⟩
 · exact (c _ b).1 (Int.le_refl _)
 · exact absurd h0 a
theorem up_nonneg {v g : Int} (hv : 0 ≤ v) (h : v ≤ g * pw 16384) : 0 ≤ g := by
 have := le_scale (x := 0) (y := g) (pw_pos 16384)
 rw [Int.zero_mul] at this
 exact this.1 (by omega)

theorem powR_succ {d : Dy} {p : Int} {up : Bool} {k : Nat} : powR d p up (k + 1) = if (powR d p up k).2 = 0 then rMul (powR d p up k).1 d p up else powR d p up k := rfl

section
variable {d e : Dy} {p : Int}

theorem powR_dn (od : d.Ok) (oe : e.Ok) (hp : precB p = true) (h0 : 0 ≤ d.val) (hle : d.val ≤ e.val) :
   ∀ k, (powR d p false k).2 = 0 ∧ (powR e p false k).2 = 0 ∧ 0 ≤ (powR d p false k).1.val ∧ (powR d p false k).1.val ≤ (powR e p false k).1.val
 | 0 => by
   have h1 := (rRound_dn od hp).nonneg h0
   have h2 := (rRound_dn od hp).mono (rRound_dn oe hp) (fun g h => by omega) h1.1
   exact ⟨h1.1, h2.1, h1.2, h2.2⟩
 | k + 1 => by
   obtain ⟨a, b, c, f⟩ := powR_dn od oe hp h0 hle k
   rw [powR_succ, powR_succ, if_pos a, if_pos b]
   have m1 := rMul_dn (powR_ok (d := d) (p := p) (up := false) k) od hp
   have m2 := rMul_dn (powR_ok (d := e) (p := p) (up := false) k) oe hp
   have pr := mul_le_of c f h0 hle
   have pp := Int.mul_nonneg c h0
   have h1 := m1.nonneg (by simpa using pp)
   have h2 := m1.mono m2 (fun g h => by omega) h1.1
   exact ⟨h1.1, h2.1, h1.2, h2.2⟩
theorem powR_up (od : d.Ok) (oe : e.Ok) (hp : precB p = true) (h0 : 0 ≤ d.val) (hle : d.val ≤ e.val) :
   ∀ k, (powR e p true k).2 = 0 → (powR d p true k).2 = 0 ∧ 0 ≤ (powR d p true k).1.val ∧ (powR d p true k).1.val ≤ (powR e p true k).1.val
 | 0 => by
   intro hz
   have h2 := (rRound_up od hp).mono (rRound_up oe hp) (fun g h => by omega) hz
   have h3 := (rRound_up od hp).at h2.1
   exact ⟨h2.1, by show 0 ≤ (rRound d p true).1.val; omega, h2.2⟩
 | k + 1 => by
   rw [powR_succ, powR_succ]
   intro hz
   by_cases he : (powR e p true k).2 = 0
   · obtain ⟨a, c, f⟩ := powR_up od oe hp h0 hle k he
     rw [if_pos he] at hz ⊢
     rw [if_pos a]
     have m1 := rMul_up (powR_ok (d := d) (p := p) (up := true) k) od hp
     have m2 := rMul_up (powR_ok (d := e) (p := p) (up := true) k) oe hp
     have pr := mul_le_of c f h0 hle
     have pp := Int.mul_nonneg c h0
     have h2 := m1.mono m2 (fun g h => by omega) hz
     have h3 := m1.at h2.1
     exact ⟨h2.1, up_nonneg pp h3, h2.2⟩
   · rw [if_neg he] at hz; exact absurd hz he
theorem powR_du (od : d.Ok) (hp : precB p = true) (h0 : 0 ≤ d.val) : ∀ k, (powR d p true k).2 = 0 → (powR d p false k).1.val ≤ (powR d p true k).1.val
 | 0 => by
   intro hz
   have h1 := (rRound_dn od hp).nonneg h0
   exact (rRound_dn od hp).le_up (rRound_up od hp) (fun g g2 h h2 => by omega) h1.1 hz
 | k + 1 => by
   rw [powR_succ, powR_succ]
   intro hz
   by_cases he : (powR d p true k).2 = 0
   · have ih := powR_du od hp h0 k he
     obtain ⟨a, _, c, _⟩ := powR_dn od od hp h0 (Int.le_refl _) k
     rw [if_pos he] at hz ⊢
     rw [if_pos a]
     have m1 := rMul_dn (powR_ok (d := d) (p := p) (up := false) k) od hp
     have m2 := rMul_up (powR_ok (d := d) (p := p) (up := true) k) od hp
     have pr := mul_le_of c ih h0 (Int.le_refl _)
     have pp := Int.mul_nonneg c h0
     have h1 := m1.nonneg (by simpa using pp)
     exact m1.le_up m2 (fun g g2 h h2 => (le_scale (pw_pos 16384)).1 (by omega)) h1.1 hz
   · rw [if_neg he] at hz; exact absurd hz he

theorem endE_neg {n : Int} {up : Bool} (od : d.Ok) (h : d.val < 0) : endE d n p up = ((powE d.neg' n p (!up)).1.neg', (powE d.neg' n p (!up)).2) := by
 unfold endE; rw [if_pos ((sgn_val od).2.2 h)]
theorem endE_pos {n : Int} {up : Bool} (od : d.Ok) (h : 0 ≤ d.val) : endE d n p up = powE d n p up := by
 unfold endE; rw [if_neg (fun h2 => by have := (sgn_val od).2.1 h2; omega)]

theorem endE_dn {n : Int} (od : d.Ok) (oe : e.Ok) (hp : precB p = true) (hle : d.val ≤ e.val) (hz : (endE d n p false).2 = 0) : (endE e n p false).2 = 0 ∧ (endE d n p false).1.val ≤ (endE e n p false).1.val := by
 have nd := neg'_ok od
 have ne := neg'_ok oe
 rcases Int.lt_or_le d.val 0 with h | h
 · rw [endE_neg od h] at hz ⊢
   rcases Int.lt_or_le e.val 0 with h2 | h2
   · rw [endE_neg oe h2]
     have := powR_up ne nd hp (by rw [val_neg']; omega) (by rw [val_neg', val_neg']; omega) (n.toNat - 1) hz
     refine ⟨this.1, ?_⟩
     simp only [val_neg']
     have h3 := this.2.2
     unfold powE
     simp only [Bool.not_false]
     omega
   · rw [endE_pos oe h2]
     have := powR_dn oe oe hp h2 (Int.le_refl _) (n.toNat - 1)
     have h3 := powR_up nd nd hp (by rw [val_neg']; omega) (Int.le_refl _) (n.toNat - 1) hz
     refine ⟨this.1, ?_⟩
     simp only [val_neg']
     unfold powE
     simp only [Bool.not_false]
     omega
 · rw [endE_pos od h, endE_pos oe (by omega)]
   have := powR_dn od oe hp h hle (n.toNat - 1)
   exact ⟨this.2.1, this.2.2.2⟩
theorem endE_up {n : Int} (od : d.Ok) (oe : e.Ok) (hp : precB p = true) (hle : d.val ≤ e.val) (hz : (endE e n p true).2 = 0) : (endE d n p true).2 = 0 ∧ (endE d n p true).1.val ≤ (endE e n p true).1.val := by
 have nd := neg'_ok od
 have ne := neg'_ok oe
 rcases Int.lt_or_le d.val 0 with h | h
 · rw [endE_neg od h]
   rcases Int.lt_or_le e.val 0 with h2 | h2
   · rw [endE_neg oe h2] at hz ⊢
     have := powR_dn ne nd hp (by rw [val_neg']; omega) (by rw [val_neg', val_neg']; omega) (n.toNat - 1)
     refine ⟨this.2.1, ?_⟩
     simp only [val_neg']
     have h3 := this.2.2.2
     unfold powE
     simp only [Bool.not_true]
     omega
   · rw [endE_pos oe h2] at hz ⊢
     have := powR_dn nd nd hp (by rw [val_neg']; omega) (Int.le_refl _) (n.toNat - 1)
     have h3 := powR_up oe oe hp h2 (Int.le_refl _) (n.toNat - 1) hz
     refine ⟨this.1, ?_⟩
     simp only [val_neg']
     unfold powE
     simp only [Bool.not_true]
     omega
 · rw [endE_pos oe (by omega)] at hz ⊢
   rw [endE_pos od h]
   have := powR_up od oe hp h hle (n.toNat - 1) hz
   exact ⟨this.1, this.2.2⟩
theorem endE_du {n : Int} (od : d.Ok) (hp : precB p = true) (hz : (endE d n p false).2 = 0) (hz2 : (endE d n p true).2 = 0) : (endE d n p false).1.val ≤ (endE d n p true).1.val := by
 have nd := neg'_ok od
 rcases Int.lt_or_le d.val 0 with h | h
 · rw [endE_neg od h] at hz hz2 ⊢
   rw [endE_neg od h]
   have := powR_du nd hp (by rw [val_neg']; omega) (n.toNat - 1) hz
   simp only [val_neg']
   unfold powE
   simp only [Bool.not_false, Bool.not_true]
   omega
 · rw [endE_pos od h] at hz hz2 ⊢
   rw [endE_pos od h]
   exact powR_du od hp h (n.toNat - 1) hz2
end

theorem ends_iso {l h l2 h2 : Dy} {n p : Int} (ol : l.Ok) (oh : h.Ok) (ol2 : l2.Ok) (oh2 : h2.Ok) (hp : precB p = true) (hlh : l.val ≤ h.val) (h1 : l2.val ≤ l.val) (h3 : h.val ≤ h2.val) :
   (Iv.made (endE l n p false) (endE h n p true)).ins (Iv.made (endE l2 n p false) (endE h2 n p true)) = true := by
 refine made_ins endE_ok endE_ok endE_ok endE_ok (fun z1 z2 => ?_) (fun z => endE_dn ol2 ol hp h1 z) (fun z => endE_up oh oh2 hp h3 z)
 have a := endE_dn ol oh hp hlh z1
 have b := endE_du oh hp a.1 z2
 omega

theorem pow_valid {x : Iv} {n p : Int} (wx : x.W) : (x.pow n p).valid = true := by
 have o1 := nD_ok (k := 1) (by omega)
 have hp1 : (Iv.pt (nD 1)).valid = true := valid_mk o1 o1 (Int.le_refl _)
 have self : ∀ l h : Dy, l.Ok → h.Ok → l.val ≤ h.val → precB p = true → (Iv.made (endE l n p false) (endE h n p true)).valid = true := by
   intro l h ol oh hle hp
   unfold Iv.made
   split
   · rename_i hz
     have a := endE_dn ol oh hp hle hz.1
     have b := endE_du oh hp a.1 hz.2
     exact valid_mk endE_ok endE_ok (by omega)
   · rfl
 unfold Iv.pow
 split
 · rename_i h
   simp only [Bool.and_eq_true] at h
   obtain ⟨⟨⟨k, hp⟩, _⟩, _⟩ := h
   obtain ⟨o1, o2⟩ := known_ok wx k
   obtain ⟨_, o3, o4, _, r⟩ := abs_known wx k
   split
   · exact hp1
   · split
     · exact self _ _ o3 o4 r hp
     · exact self _ _ o1 o2 (known_le wx k) hp
 · rfl

theorem pow_iso {x a : Iv} {n p : Int} (wx : x.W) (wa : a.W) (hx : x.Le a) : (x.pow n p).ins (a.pow n p) = true := by
 have hv := pow_valid (n := n) (p := p) wx
 by_cases hc : (a.known && precB p && decide (0 ≤ n) && decide (n ≤ 16)) = true
 · have hc2 := hc
   simp only [Bool.and_eq_true] at hc2
   obtain ⟨⟨⟨k3', hp⟩, hn1⟩, hn2⟩ := hc2
   rcases hx with rfl | ⟨k1, k3, l1, l2⟩
   · cases k3'
   · have hcx : (x.known && precB p && decide (0 ≤ n) && decide (n ≤ 16)) = true := by rw [k1, hp, hn1, hn2]; rfl
     obtain ⟨a1, a2⟩ := known_ok wx k1
     obtain ⟨c1, c2⟩ := known_ok wa k3
     have q1 := known_le wx k1
     obtain ⟨_, o3, o4, _, r3⟩ := abs_known wx k1
     obtain ⟨_, o5, o6, _, _⟩ := abs_known wa k3
     have hL := abs_Le wx wa (.inr ⟨k1, k3, l1, l2⟩)
     have hL2 : a.abs.lo.val ≤ x.abs.lo.val ∧ x.abs.hi.val ≤ a.abs.hi.val := by
       rcases hL with h | ⟨_, _, h1, h2⟩
       · have := (abs_known wa k3).1
         rw [h] at this; cases this
       · exact ⟨h1, h2⟩
     unfold Iv.pow at hv ⊢
     rw [if_pos hcx] at hv ⊢
     rw [if_pos hc]
     by_cases h0 : n = 0
     · rw [if_pos h0] at hv ⊢
       rw [if_pos h0]
       have o1 := nD_ok (k := 1) (by omega)
       have kk := known_mk o1 o1 (Int.le_refl (nD 1).val)
       exact ins_of (pt_W o1.w) (pt_W o1.w) kk kk (Int.le_refl _) (Int.le_refl _)
     · rw [if_neg h0, if_neg h0]
       by_cases hr : Int.tmod n 2 = 0
       · rw [if_pos hr, if_pos hr]
         exact ends_iso o3 o4 o5 o6 hp r3 hL2.1 hL2.2
       · rw [if_neg hr, if_neg hr]
         exact ends_iso a1 a2 c1 c2 hp q1 l1 l2
 · have : a.pow n p = Iv.whole := by unfold Iv.pow; rw [if_neg hc]
   rw [this]; exact ins_whole hv

end Go.Abs.W

