/- Parts of the proof: FpIso, FpIso2, FpIso3, FpIso4. -/
import Derived.Test.YtnkijamajifgpaaGreatDoorHy
import Derived.Test.YtnkijamajifgpaaGreatDoorHr
import Derived.Test.YtnkijamajifgpaaGreatDoorHp
namespace Go.Abs.W
def Iv.Le (x a : Iv) : Prop := a = Iv.whole ∨ (x.known = true ∧ a.known = true ∧ a.lo.val ≤ x.lo.val ∧ x.hi.val ≤ a.hi.val)
theorem qo3 {l h : Dy} (ol : l.Ok) (oh : h.Ok) (hle : l.val ≤ h.val) : (Iv.mk l h false).valid = true := by
 have : l.cmp h ≤ 0 := by rw [qhr ol oh, cmpI_le]; exact hle
 simp [Iv.valid, ol.valid, oh.valid, this]
theorem qc2 {l h : Dy} (ol : l.Ok) (oh : h.Ok) (hle : l.val ≤ h.val) : (Iv.mk l h false).known = true := by
 have := qo3 ol oh hle
 simp [Iv.known, this]
theorem qbo {x : Iv} (h : x.known = true) : x.valid = true ∧ x.all = false := by
 simp [Iv.known] at h; exact ⟨h.2, h.1⟩
theorem qmw {r : Iv} (h : r.valid = true) : r.ins Iv.whole = true := by
 have h1 : Iv.whole.valid = true := rfl
 have h2 : Iv.whole.all = true := rfl
 simp [Iv.ins, h, h1, h2]
theorem q95 {r s : Iv} (wr : r.W) (ws : s.W) (kr : r.known = true) (ks : s.known = true) (h1 : s.lo.val ≤ r.lo.val) (h2 : r.hi.val ≤ s.hi.val) : r.ins s = true := by
 obtain ⟨a1, a2⟩ := qaj wr kr
 obtain ⟨b1, b2⟩ := qaj ws ks
 obtain ⟨v1, l1⟩ := qbo kr
 obtain ⟨v2, l2⟩ := qbo ks
 have c1 : s.lo.cmp r.lo ≤ 0 := by rw [qhr b1 a1, cmpI_le]; exact h1
 have c2 : r.hi.cmp s.hi ≤ 0 := by rw [qhr a2 b2, cmpI_le]; exact h2
 simp [Iv.ins, v1, v2, l1, l2, c1, c2]
theorem q76 {r1 s1 r2 s2 : Dy × Int} (o1 : r1.1.Ok) (p1 : s1.1.Ok) (o2 : r2.1.Ok) (p2 : s2.1.Ok) (hv : r1.2 = 0 → s1.2 = 0 → r1.1.val ≤ s1.1.val)
   (hd : r2.2 = 0 → r1.2 = 0 ∧ r2.1.val ≤ r1.1.val) (hu : s2.2 = 0 → s1.2 = 0 ∧ s1.1.val ≤ s2.1.val) : (Iv.made r1 s1).ins (Iv.made r2 s2) = true := by
 have v1 : (Iv.made r1 s1).valid = true := by
   unfold Iv.made
   split
   · rename_i h; exact qo3 o1 p1 (hv h.1 h.2)
   · rfl
 by_cases h : r2.2 = 0 ∧ s2.2 = 0
 · obtain ⟨d1, d2⟩ := hd h.1
   obtain ⟨u1, u2⟩ := hu h.2
   have h3 := hv d1 u1
   have e1 : Iv.made r1 s1 = ⟨r1.1, s1.1, false⟩ := by unfold Iv.made; rw [if_pos ⟨d1, u1⟩]
   have e2 : Iv.made r2 s2 = ⟨r2.1, s2.1, false⟩ := by unfold Iv.made; rw [if_pos h]
   rw [e1, e2]
   exact q95 ⟨o1.w, p1.w⟩ ⟨o2.w, p2.w⟩ (qc2 o1 p1 h3) (qc2 o2 p2 (by omega)) d2 u2
 · have e2 : Iv.made r2 s2 = Iv.whole := by unfold Iv.made; rw [if_neg h]
   rw [e2]
   exact qmw v1
theorem IsDn.le_up {p : Nat} {r s : Dy × Int} {le ge : Int → Prop} (h : IsDn p r le) (h2 : IsUp p s ge) (hlg : ∀ g g2, le g → ge g2 → g ≤ g2) (h0 : r.2 = 0) (h1 : s.2 = 0) : r.1.val ≤ s.1.val := by
 rcases h with ⟨_, b, c⟩ | ⟨a, _⟩
 · rcases h2 with ⟨_, y, z⟩ | ⟨x, _⟩
   · exact hlg _ _ ((c _ b).1 (Int.le_refl _)) ((z _ y).1 (Int.le_refl _))
   · exact absurd h1 x
 · exact absurd h0 a
theorem qacn {x y a b : Iv} {p : Int} (wx : x.W) (wy : y.W) (wa : a.W) (wb : b.W) (hx : x.Le a) (hy : y.Le b) : (x.add y p).ins (a.add b p) = true := by
 have hv : (x.add y p).valid = true := by
   unfold Iv.add
   split
   · rename_i h
     simp only [Bool.and_eq_true] at h
     obtain ⟨⟨k1, k2⟩, hp⟩ := h
     obtain ⟨a1, a2⟩ := qaj wx k1
     obtain ⟨b1, b2⟩ := qaj wy k2
     have l1 := qba wx k1
     have l2 := qba wy k2
     unfold Iv.made
     split
     · rename_i h0
       exact qo3 rAdd_ok rAdd_ok ((qni a1 b1 hp).le_up (qnh a2 b2 hp) (fun g g2 h h2 => by omega) h0.1 h0.2)
     · rfl
   · rfl
 have wh : ∀ z : Iv, Iv.whole.add z p = Iv.whole ∧ z.add Iv.whole p = Iv.whole := fun z => by
   have : Iv.whole.known = false := rfl
   simp [Iv.add, this]
 rcases hx with rfl | ⟨k1, k3, l1, l2⟩
 · rw [(wh b).1]; exact qmw hv
 · rcases hy with rfl | ⟨k2, k4, l3, l4⟩
   · rw [(wh a).2]; exact qmw hv
   · cases hp : precB p
     · have : a.add b p = Iv.whole := by simp [Iv.add, hp]
       rw [this]; exact qmw hv
     · obtain ⟨a1, a2⟩ := qaj wx k1
       obtain ⟨b1, b2⟩ := qaj wy k2
       obtain ⟨c1, c2⟩ := qaj wa k3
       obtain ⟨d1, d2⟩ := qaj wb k4
       have q1 := qba wx k1
       have q2 := qba wy k2
       unfold Iv.add
       rw [k1, k2, k3, k4, hp, if_pos (by rfl), if_pos (by rfl)]
       refine q76 rAdd_ok rAdd_ok rAdd_ok rAdd_ok (fun h1 h2 => (qni a1 b1 hp).le_up (qnh a2 b2 hp) (fun g g2 h h2 => by omega) h1 h2) ?_ ?_
       · exact (qni c1 d1 hp).mono (qni a1 b1 hp) (fun g h => by omega)
       · exact (qnh a2 b2 hp).mono (qnh c2 d2 hp) (fun g h => by omega)
end Go.Abs.W
namespace Go.Abs.W
theorem qxx {f : Dy → Dy → Dy × Int} (okf : ∀ a b, (f a b).1.Ok) {x y : Iv} :
   (accLo f (pairs x y) 4).val = min (min (min (f (qai x y 0).1 (qai x y 0).2).1.val (f (qai x y 1).1 (qai x y 1).2).1.val) (f (qai x y 2).1 (qai x y 2).2).1.val) (f (qai x y 3).1 (qai x y 3).2).1.val := by
 rw [qci, if_neg (by omega), qe7 (qdq okf 3) (okf _ _), qci, if_neg (by omega), qe7 (qdq okf 2) (okf _ _), qci, if_neg (by omega), qe7 (qdq okf 1) (okf _ _), qci, if_pos rfl]
theorem qxy {f : Dy → Dy → Dy × Int} (okf : ∀ a b, (f a b).1.Ok) {x y : Iv} :
   (accHi f (pairs x y) 4).val = max (max (max (f (qai x y 0).1 (qai x y 0).2).1.val (f (qai x y 1).1 (qai x y 1).2).1.val) (f (qai x y 2).1 (qai x y 2).2).1.val) (f (qai x y 3).1 (qai x y 3).2).1.val := by
 rw [qcj, if_neg (by omega), qe8 (qdr okf 3) (okf _ _), qcj, if_neg (by omega), qe8 (qdr okf 2) (okf _ _), qcj, if_neg (by omega), qe8 (qdr okf 1) (okf _ _), qcj, if_pos rfl]
theorem q1q {f : Dy → Dy → Dy × Int} (okf : ∀ a b, (f a b).1.Ok) {x y : Iv} {i : Nat} (hi : i < 4) : (accLo f (pairs x y) 4).val ≤ (f (qai x y i).1 (qai x y i).2).1.val := by
 rw [qxx okf]
 obtain rfl | rfl | rfl | rfl : i = 0 ∨ i = 1 ∨ i = 2 ∨ i = 3 := by omega
 all_goals omega
theorem q1r {f : Dy → Dy → Dy × Int} (okf : ∀ a b, (f a b).1.Ok) {x y : Iv} {i : Nat} (hi : i < 4) : (f (qai x y i).1 (qai x y i).2).1.val ≤ (accHi f (pairs x y) 4).val := by
 rw [qxy okf]
 obtain rfl | rfl | rfl | rfl : i = 0 ∨ i = 1 ∨ i = 2 ∨ i = 3 := by omega
 all_goals omega
theorem q8d {f : Dy → Dy → Dy × Int} (okf : ∀ a b, (f a b).1.Ok) {x y : Iv} {v : Int} (h : ∀ i, i < 4 → v ≤ (f (qai x y i).1 (qai x y i).2).1.val) : v ≤ (accLo f (pairs x y) 4).val := by
 have h0 := h 0 (by omega); have h1 := h 1 (by omega); have h2 := h 2 (by omega); have h3 := h 3 (by omega)
 rw [qxx okf]; omega
theorem q84 {f : Dy → Dy → Dy × Int} (okf : ∀ a b, (f a b).1.Ok) {x y : Iv} {v : Int} (h : ∀ i, i < 4 → (f (qai x y i).1 (qai x y i).2).1.val ≤ v) : (accHi f (pairs x y) 4).val ≤ v := by
 have h0 := h 0 (by omega); have h1 := h 1 (by omega); have h2 := h 2 (by omega); have h3 := h 3 (by omega)
 rw [qxy okf]; omega
section
variable {P : Nat} {f g : Dy → Dy → Dy × Int} {x y a b : Iv} {le ge : Dy → Dy → Int → Prop}
theorem q2n (d1 : IsDn P (f (qai x y 0).1 (qai x y 0).2) (le (qai x y 0).1 (qai x y 0).2)) (u1 : IsUp P (g (qai x y 0).1 (qai x y 0).2) (ge (qai x y 0).1 (qai x y 0).2))
   (lg : ∀ h h2, le (qai x y 0).1 (qai x y 0).2 h → ge (qai x y 0).1 (qai x y 0).2 h2 → h ≤ h2) (okf : ∀ a b, (f a b).1.Ok) (okg : ∀ a b, (g a b).1.Ok) :
   (Iv.four f g x y).valid = true ∧ (good4 f g x y 4 → (accLo f (pairs x y) 4).val ≤ (accHi g (pairs x y) 4).val) := by
 have key : good4 f g x y 4 → (accLo f (pairs x y) 4).val ≤ (accHi g (pairs x y) 4).val := by
   intro hg
   have h := hg 0 (by omega)
   have h1 := d1.le_up u1 lg h.1 h.2
   have h2 := q1q okf (x := x) (y := y) (i := 0) (by omega)
   have h3 := q1r okg (x := x) (y := y) (i := 0) (by omega)
   omega
 refine ⟨?_, key⟩
 by_cases hg : good4 f g x y 4
 · rw [qkt hg]
   exact qo3 (qdq okf 4) (qdr okg 4) (key hg)
 · unfold Iv.four
   split
   · rename_i hc
     exfalso
     apply hg
     intro j hj
     simp [pairs] at hc
     obtain rfl | rfl | rfl | rfl : j = 0 ∨ j = 1 ∨ j = 2 ∨ j = 3 := by omega
     all_goals simp [qai, pairs, hc]
   · rfl
end
theorem qpq {x y : Iv} {i : Nat} (hi : i < 4) (hx : x.lo.val ≤ x.hi.val) (hy : y.lo.val ≤ y.hi.val) : x.lo.val ≤ (qai x y i).1.val ∧ (qai x y i).1.val ≤ x.hi.val ∧ y.lo.val ≤ (qai x y i).2.val ∧ (qai x y i).2.val ≤ y.hi.val := by
 obtain rfl | rfl | rfl | rfl : i = 0 ∨ i = 1 ∨ i = 2 ∨ i = 3 := by omega
 all_goals simp [qai, pairs, hx, hy]
theorem qiy {x y : Iv} {i : Nat} (hi : i < 4) (hx : x.lo.Ok ∧ x.hi.Ok) (hy : y.lo.Ok ∧ y.hi.Ok) : (qai x y i).1.Ok ∧ (qai x y i).2.Ok := by
 obtain rfl | rfl | rfl | rfl : i = 0 ∨ i = 1 ∨ i = 2 ∨ i = 3 := by omega
 all_goals simp [qai, pairs, hx, hy]
theorem q6d {a b : Iv} {Q : Dy → Dy → Prop} (h : Q a.lo b.lo ∨ Q a.lo b.hi ∨ Q a.hi b.lo ∨ Q a.hi b.hi) : ∃ j, j < 4 ∧ Q (qai a b j).1 (qai a b j).2 := by
 rcases h with h | h | h | h
 · exact ⟨0, by omega, h⟩
 · exact ⟨1, by omega, h⟩
 · exact ⟨2, by omega, h⟩
 · exact ⟨3, by omega, h⟩
end Go.Abs.W
namespace Go.Abs.W
theorem qae8 {u v : Int} (hv : v ≠ 0) (h h2 : Int) (g1 : divLe u v h) (g2 : divGe u v h2) : h ≤ h2 := by
 rcases Int.lt_or_le 0 v with hp | hp
 · rw [qm7 hp] at g1
   rw [qm8 hp] at g2
   exact (qbh hp).1 (by omega)
 · rw [qq1 (by omega)] at g1
   rw [qq2 (by omega)] at g2
   have := qbh (x := h) (y := h2) (c := -v) (by omega)
   rw [Int.mul_neg, Int.mul_neg] at this
   omega
theorem qv6 {y : Iv} (wy : y.W) (hk : y.known = true) : y.sgn ≠ 0 ↔ (0 < y.lo.val ∨ y.hi.val < 0) := by
 obtain ⟨o1, o2⟩ := qaj wy hk
 have s1 := q32 o1
 have s2 := q32 o2
 unfold Iv.sgn
 rw [if_pos hk]
 constructor
 · intro h
   by_cases h1 : 0 < y.lo.sgn
   · exact .inl (s1.1.1 h1)
   · rw [if_neg h1] at h
     by_cases h2 : y.hi.sgn < 0
     · exact .inr (s2.2.1 h2)
     · rw [if_neg h2] at h; exact absurd rfl h
 · rintro (h | h)
   · rw [if_pos (s1.1.2 h)]; omega
   · have h2 := s2.2.2 h
     by_cases h3 : 0 < y.lo.sgn
     · rw [if_pos h3]; omega
     · rw [if_neg h3, if_pos h2]; omega
theorem qaei {d : Dy} (h : d.val ≠ 0) : d.m ≠ [] := by
 intro h0
 apply h
 unfold Dy.val; rw [Dy.absN_nil h0]; simp
theorem q85 {x : Iv} (wx : x.W) (hk : x.known = true) : x.abs.hi.val = max (x.lo.val.natAbs : Int) x.hi.val.natAbs ∧ x.abs.lo.val = (if 0 < x.lo.val ∨ x.hi.val < 0 then min (x.lo.val.natAbs : Int) x.hi.val.natAbs else 0) := by
 obtain ⟨h1, h2⟩ := qaj wx hk
 have a1 := qvg h1
 have a2 := qvg h2
 have m2 := qe8 (qel h1) (qel h2)
 have m1 := qe7 (qel h1) (qel h2)
 have sr := qv6 wx hk
 unfold Iv.abs
 rw [if_pos hk]
 show x.mag.val = _ ∧ x.mig.val = _
 unfold Iv.mag Iv.mig
 rw [m2, a1, a2]
 refine ⟨rfl, ?_⟩
 by_cases h : x.sgn = 0
 · rw [if_pos h, qhg, if_neg (fun h3 => (sr.2 h3) h)]
 · rw [if_neg h, m1, a1, a2, if_pos (sr.1 h)]
end Go.Abs.W
namespace Go.Abs.W
theorem IsUp.at {p : Nat} {r : Dy × Int} {ge : Int → Prop} (h : IsUp p r ge) (h0 : r.2 = 0) : ge r.1.val := by
 rcases h with ⟨_, b, c⟩ | ⟨a, _⟩
 · exact (c _ b).1 (Int.le_refl _)
 · exact absurd h0 a
section
variable {d e : Dy} {p : Int}
end
end Go.Abs.W
