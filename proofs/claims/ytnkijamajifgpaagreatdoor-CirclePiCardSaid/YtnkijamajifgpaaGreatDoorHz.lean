/- Parts of the proof: FpIso, FpIso2, FpIso3, FpIso4. -/
import Derived.Test.YtnkijamajifgpaaGreatDoorHy
import Derived.Test.YtnkijamajifgpaaGreatDoorHr
import Derived.Test.YtnkijamajifgpaaGreatDoorHp
namespace Go.Abs.W
def Iv.Le (x a : Iv) : Prop := a = Iv.whole ∨ (x.known = true ∧ a.known = true ∧ a.lo.val ≤ x.lo.val ∧ x.hi.val ≤ a.hi.val)
theorem qqh {l h : Dy} (ol : l.Ok) (oh : h.Ok) (hle : l.val ≤ h.val) : (Iv.mk l h false).valid = true := by
 have : l.cmp h ≤ 0 := by rw [qjw ol oh, cmpI_le]; exact hle
 simp [Iv.valid, ol.valid, oh.valid, this]
theorem qc9 {l h : Dy} (ol : l.Ok) (oh : h.Ok) (hle : l.val ≤ h.val) : (Iv.mk l h false).known = true := by
 have := qqh ol oh hle
 simp [Iv.known, this]
theorem qcz {x : Iv} (h : x.known = true) : x.valid = true ∧ x.all = false := by
 simp [Iv.known] at h; exact ⟨h.2, h.1⟩
theorem qfq {r : Iv} (h : r.valid = true) : r.ins Iv.whole = true := by
 have h1 : Iv.whole.valid = true := rfl
 have h2 : Iv.whole.all = true := rfl
 simp [Iv.ins, h, h1, h2]
theorem q68 {r s : Iv} (wr : r.W) (ws : s.W) (kr : r.known = true) (ks : s.known = true) (h1 : s.lo.val ≤ r.lo.val) (h2 : r.hi.val ≤ s.hi.val) : r.ins s = true := by
 obtain ⟨a1, a2⟩ := qao wr kr
 obtain ⟨b1, b2⟩ := qao ws ks
 obtain ⟨v1, l1⟩ := qcz kr
 obtain ⟨v2, l2⟩ := qcz ks
 have c1 : s.lo.cmp r.lo ≤ 0 := by rw [qjw b1 a1, cmpI_le]; exact h1
 have c2 : r.hi.cmp s.hi ≤ 0 := by rw [qjw a2 b2, cmpI_le]; exact h2
 simp [Iv.ins, v1, v2, l1, l2, c1, c2]
theorem q94 {r1 s1 r2 s2 : Dy × Int} (o1 : r1.1.Ok) (p1 : s1.1.Ok) (o2 : r2.1.Ok) (p2 : s2.1.Ok) (hv : r1.2 = 0 → s1.2 = 0 → r1.1.val ≤ s1.1.val)
   (hd : r2.2 = 0 → r1.2 = 0 ∧ r2.1.val ≤ r1.1.val) (hu : s2.2 = 0 → s1.2 = 0 ∧ s1.1.val ≤ s2.1.val) : (Iv.made r1 s1).ins (Iv.made r2 s2) = true := by
 have v1 : (Iv.made r1 s1).valid = true := by
   unfold Iv.made
   split
   · rename_i h; exact qqh o1 p1 (hv h.1 h.2)
   · rfl
 by_cases h : r2.2 = 0 ∧ s2.2 = 0
 · obtain ⟨d1, d2⟩ := hd h.1
   obtain ⟨u1, u2⟩ := hu h.2
   have h3 := hv d1 u1
   have e1 : Iv.made r1 s1 = ⟨r1.1, s1.1, false⟩ := by unfold Iv.made; rw [if_pos ⟨d1, u1⟩]
   have e2 : Iv.made r2 s2 = ⟨r2.1, s2.1, false⟩ := by unfold Iv.made; rw [if_pos h]
   rw [e1, e2]
   exact q68 ⟨o1.w, p1.w⟩ ⟨o2.w, p2.w⟩ (qc9 o1 p1 h3) (qc9 o2 p2 (by omega)) d2 u2
 · have e2 : Iv.made r2 s2 = Iv.whole := by unfold Iv.made; rw [if_neg h]
   rw [e2]
   exact qfq v1
theorem IsDn.le_up {p : Nat} {r s : Dy × Int} {le ge : Int → Prop} (h : IsDn p r le) (h2 : IsUp p s ge) (hlg : ∀ g g2, le g → ge g2 → g ≤ g2) (h0 : r.2 = 0) (h1 : s.2 = 0) : r.1.val ≤ s.1.val := by
 rcases h with ⟨_, b, c⟩ | ⟨a, _⟩
 · rcases h2 with ⟨_, y, z⟩ | ⟨x, _⟩
   · exact hlg _ _ ((c _ b).1 (Int.le_refl _)) ((z _ y).1 (Int.le_refl _))
   · exact absurd h1 x
 · exact absurd h0 a
theorem qaen {x y a b : Iv} {p : Int} (wx : x.W) (wy : y.W) (wa : a.W) (wb : b.W) (hx : x.Le a) (hy : y.Le b) : (x.add y p).ins (a.add b p) = true := by
 have hv : (x.add y p).valid = true := by
   unfold Iv.add
   split
   · rename_i h
     simp only [Bool.and_eq_true] at h
     obtain ⟨⟨k1, k2⟩, hp⟩ := h
     obtain ⟨a1, a2⟩ := qao wx k1
     obtain ⟨b1, b2⟩ := qao wy k2
     have l1 := qa1 wx k1
     have l2 := qa1 wy k2
     unfold Iv.made
     split
     · rename_i h0
       exact qqh rAdd_ok rAdd_ok ((qoq a1 b1 hp).le_up (qop a2 b2 hp) (fun g g2 h h2 => by omega) h0.1 h0.2)
     · rfl
   · rfl
 have wh : ∀ z : Iv, Iv.whole.add z p = Iv.whole ∧ z.add Iv.whole p = Iv.whole := fun z => by
   have : Iv.whole.known = false := rfl
   simp [Iv.add, this]
 rcases hx with rfl | ⟨k1, k3, l1, l2⟩
 · rw [(wh b).1]; exact qfq hv
 · rcases hy with rfl | ⟨k2, k4, l3, l4⟩
   · rw [(wh a).2]; exact qfq hv
   · cases hp : precB p
     · have : a.add b p = Iv.whole := by simp [Iv.add, hp]
       rw [this]; exact qfq hv
     · obtain ⟨a1, a2⟩ := qao wx k1
       obtain ⟨b1, b2⟩ := qao wy k2
       obtain ⟨c1, c2⟩ := qao wa k3
       obtain ⟨d1, d2⟩ := qao wb k4
       have q1 := qa1 wx k1
       have q2 := qa1 wy k2
       unfold Iv.add
       rw [k1, k2, k3, k4, hp, if_pos (by rfl), if_pos (by rfl)]
       refine q94 rAdd_ok rAdd_ok rAdd_ok rAdd_ok (fun h1 h2 => (qoq a1 b1 hp).le_up (qop a2 b2 hp) (fun g g2 h h2 => by omega) h1 h2) ?_ ?_
       · exact (qoq c1 d1 hp).mono (qoq a1 b1 hp) (fun g h => by omega)
       · exact (qop a2 b2 hp).mono (qop c2 d2 hp) (fun g h => by omega)
end Go.Abs.W
namespace Go.Abs.W
theorem qzu {f : Dy → Dy → Dy × Int} (okf : ∀ a b, (f a b).1.Ok) {x y : Iv} :
   (accLo f (pairs x y) 4).val = min (min (min (f (qag x y 0).1 (qag x y 0).2).1.val (f (qag x y 1).1 (qag x y 1).2).1.val) (f (qag x y 2).1 (qag x y 2).2).1.val) (f (qag x y 3).1 (qag x y 3).2).1.val := by
 rw [qcd, if_neg (by omega), qg4 (qb2 okf 3) (okf _ _), qcd, if_neg (by omega), qg4 (qb2 okf 2) (okf _ _), qcd, if_neg (by omega), qg4 (qb2 okf 1) (okf _ _), qcd, if_pos rfl]
theorem qzv {f : Dy → Dy → Dy × Int} (okf : ∀ a b, (f a b).1.Ok) {x y : Iv} :
   (accHi f (pairs x y) 4).val = max (max (max (f (qag x y 0).1 (qag x y 0).2).1.val (f (qag x y 1).1 (qag x y 1).2).1.val) (f (qag x y 2).1 (qag x y 2).2).1.val) (f (qag x y 3).1 (qag x y 3).2).1.val := by
 rw [qce, if_neg (by omega), qe5 (qb3 okf 3) (okf _ _), qce, if_neg (by omega), qe5 (qb3 okf 2) (okf _ _), qce, if_neg (by omega), qe5 (qb3 okf 1) (okf _ _), qce, if_pos rfl]
theorem qqr {f : Dy → Dy → Dy × Int} (okf : ∀ a b, (f a b).1.Ok) {x y : Iv} {i : Nat} (hi : i < 4) : (accLo f (pairs x y) 4).val ≤ (f (qag x y i).1 (qag x y i).2).1.val := by
 rw [qzu okf]
 obtain rfl | rfl | rfl | rfl : i = 0 ∨ i = 1 ∨ i = 2 ∨ i = 3 := by omega
 all_goals omega
theorem qqs {f : Dy → Dy → Dy × Int} (okf : ∀ a b, (f a b).1.Ok) {x y : Iv} {i : Nat} (hi : i < 4) : (f (qag x y i).1 (qag x y i).2).1.val ≤ (accHi f (pairs x y) 4).val := by
 rw [qzv okf]
 obtain rfl | rfl | rfl | rfl : i = 0 ∨ i = 1 ∨ i = 2 ∨ i = 3 := by omega
 all_goals omega
theorem q2k {f : Dy → Dy → Dy × Int} (okf : ∀ a b, (f a b).1.Ok) {x y : Iv} {v : Int} (h : ∀ i, i < 4 → v ≤ (f (qag x y i).1 (qag x y i).2).1.val) : v ≤ (accLo f (pairs x y) 4).val := by
 have h0 := h 0 (by omega); have h1 := h 1 (by omega); have h2 := h 2 (by omega); have h3 := h 3 (by omega)
 rw [qzu okf]; omega
theorem q3e {f : Dy → Dy → Dy × Int} (okf : ∀ a b, (f a b).1.Ok) {x y : Iv} {v : Int} (h : ∀ i, i < 4 → (f (qag x y i).1 (qag x y i).2).1.val ≤ v) : (accHi f (pairs x y) 4).val ≤ v := by
 have h0 := h 0 (by omega); have h1 := h 1 (by omega); have h2 := h 2 (by omega); have h3 := h 3 (by omega)
 rw [qzv okf]; omega
section
variable {P : Nat} {f g : Dy → Dy → Dy × Int} {x y a b : Iv} {le ge : Dy → Dy → Int → Prop}
theorem qo3 (d1 : IsDn P (f (qag x y 0).1 (qag x y 0).2) (le (qag x y 0).1 (qag x y 0).2)) (u1 : IsUp P (g (qag x y 0).1 (qag x y 0).2) (ge (qag x y 0).1 (qag x y 0).2))
   (lg : ∀ h h2, le (qag x y 0).1 (qag x y 0).2 h → ge (qag x y 0).1 (qag x y 0).2 h2 → h ≤ h2) (okf : ∀ a b, (f a b).1.Ok) (okg : ∀ a b, (g a b).1.Ok) :
   (Iv.four f g x y).valid = true ∧ (good4 f g x y 4 → (accLo f (pairs x y) 4).val ≤ (accHi g (pairs x y) 4).val) := by
 have key : good4 f g x y 4 → (accLo f (pairs x y) 4).val ≤ (accHi g (pairs x y) 4).val := by
   intro hg
   have h := hg 0 (by omega)
   have h1 := d1.le_up u1 lg h.1 h.2
   have h2 := qqr okf (x := x) (y := y) (i := 0) (by omega)
   have h3 := qqs okg (x := x) (y := y) (i := 0) (by omega)
   omega
 refine ⟨?_, key⟩
 by_cases hg : good4 f g x y 4
 · rw [qdv hg]
   exact qqh (qb2 okf 4) (qb3 okg 4) (key hg)
 · unfold Iv.four
   split
   · rename_i hc
     exfalso
     apply hg
     intro j hj
     simp [pairs] at hc
     obtain rfl | rfl | rfl | rfl : j = 0 ∨ j = 1 ∨ j = 2 ∨ j = 3 := by omega
     all_goals simp [qag, pairs, hc]
   · rfl
theorem qaaf (okf : ∀ a b, (f a b).1.Ok) (okg : ∀ a b, (g a b).1.Ok) (d1 : ∀ i, i < 4 → IsDn P (f (qag x y i).1 (qag x y i).2) (le (qag x y i).1 (qag x y i).2)) (u1 : ∀ i, i < 4 → IsUp P (g (qag x y i).1 (qag x y i).2) (ge (qag x y i).1 (qag x y i).2))
   (d2 : ∀ i, i < 4 → IsDn P (f (qag a b i).1 (qag a b i).2) (le (qag a b i).1 (qag a b i).2)) (u2 : ∀ i, i < 4 → IsUp P (g (qag a b i).1 (qag a b i).2) (ge (qag a b i).1 (qag a b i).2))
   (lg : ∀ h h2, le (qag x y 0).1 (qag x y 0).2 h → ge (qag x y 0).1 (qag x y 0).2 h2 → h ≤ h2)
   (cd : ∀ i, i < 4 → ∃ j, j < 4 ∧ ∀ h, le (qag a b j).1 (qag a b j).2 h → le (qag x y i).1 (qag x y i).2 h)
   (cu : ∀ i, i < 4 → ∃ j, j < 4 ∧ ∀ h, ge (qag a b j).1 (qag a b j).2 h → ge (qag x y i).1 (qag x y i).2 h) :
   (Iv.four f g x y).ins (Iv.four f g a b) = true := by
 obtain ⟨v1, k1⟩ := qo3 (d1 0 (by omega)) (u1 0 (by omega)) lg okf okg
 by_cases hb : good4 f g a b 4
 · have lo : ∀ i, i < 4 → (f (qag x y i).1 (qag x y i).2).2 = 0 ∧ (accLo f (pairs a b) 4).val ≤ (f (qag x y i).1 (qag x y i).2).1.val := by
     intro i hi
     obtain ⟨j, hj, hc⟩ := cd i hi
     obtain ⟨h1, h2⟩ := (d2 j hj).mono (d1 i hi) hc (hb j hj).1
     have := qqr okf (x := a) (y := b) hj
     exact ⟨h1, by omega⟩
   have hi' : ∀ i, i < 4 → (g (qag x y i).1 (qag x y i).2).2 = 0 ∧ (g (qag x y i).1 (qag x y i).2).1.val ≤ (accHi g (pairs a b) 4).val := by
     intro i hi
     obtain ⟨j, hj, hc⟩ := cu i hi
     obtain ⟨h1, h2⟩ := (u1 i hi).mono (u2 j hj) hc (hb j hj).2
     have := qqs okg (x := a) (y := b) hj
     exact ⟨h1, by omega⟩
   have hs : good4 f g x y 4 := fun i hi => ⟨(lo i hi).1, (hi' i hi).1⟩
   have l1 := q2k okf (x := x) (y := y) (fun i hi => (lo i hi).2)
   have l2 := q3e okg (x := x) (y := y) (fun i hi => (hi' i hi).2)
   have l3 := k1 hs
   rw [qdv hs, qdv hb]
   exact q68 ⟨(qb2 okf 4).w, (qb3 okg 4).w⟩ ⟨(qb2 okf 4).w, (qb3 okg 4).w⟩ (qc9 (qb2 okf 4) (qb3 okg 4) l3) (qc9 (qb2 okf 4) (qb3 okg 4) (by omega)) l1 l2
 · have : Iv.four f g a b = Iv.whole := by
     unfold Iv.four
     split
     · rename_i hc
       exfalso
       apply hb
       intro j hj
       simp [pairs] at hc
       obtain rfl | rfl | rfl | rfl : j = 0 ∨ j = 1 ∨ j = 2 ∨ j = 3 := by omega
       all_goals simp [qag, pairs, hc]
     · rfl
   rw [this]
   exact qfq v1
end
theorem mulL {a b c : Int} (h : a ≤ b) (hc : 0 ≤ c) : c * a ≤ c * b := Int.mul_le_mul_of_nonneg_left h hc
theorem mulLn {a b c : Int} (h : a ≤ b) (hc : c ≤ 0) : c * b ≤ c * a := by
 have := mulL h (show 0 ≤ -c by omega)
 rw [Int.neg_mul, Int.neg_mul] at this; omega
theorem mulR {a b c : Int} (h : a ≤ b) (hc : 0 ≤ c) : a * c ≤ b * c := Int.mul_le_mul_of_nonneg_right h hc
theorem mulRn {a b c : Int} (h : a ≤ b) (hc : c ≤ 0) : b * c ≤ a * c := by
 have := mulR h (show 0 ≤ -c by omega)
 rw [Int.mul_neg, Int.mul_neg] at this; omega
theorem q4f {a0 a1 b0 b1 U V : Int} (h1 : a0 ≤ U) (h2 : U ≤ a1) (h3 : b0 ≤ V) (h4 : V ≤ b1) : a0 * b0 ≤ U * V ∨ a0 * b1 ≤ U * V ∨ a1 * b0 ≤ U * V ∨ a1 * b1 ≤ U * V := by
 rcases Int.lt_or_le V 0 with hV | hV
 · have := mulRn h2 (Int.le_of_lt hV)
   rcases Int.lt_or_le a1 0 with ha | ha
   · have := mulLn h4 (Int.le_of_lt ha); omega
   · have := mulL h3 ha; omega
 · have := mulR h1 hV
   rcases Int.lt_or_le a0 0 with ha | ha
   · have := mulLn h4 (Int.le_of_lt ha); omega
   · have := mulL h3 ha; omega
theorem q4g {a0 a1 b0 b1 U V : Int} (h1 : a0 ≤ U) (h2 : U ≤ a1) (h3 : b0 ≤ V) (h4 : V ≤ b1) : U * V ≤ a0 * b0 ∨ U * V ≤ a0 * b1 ∨ U * V ≤ a1 * b0 ∨ U * V ≤ a1 * b1 := by
 rcases Int.lt_or_le V 0 with hV | hV
 · have := mulRn h1 (Int.le_of_lt hV)
   rcases Int.lt_or_le a0 0 with ha | ha
   · have := mulLn h3 (Int.le_of_lt ha); omega
   · have := mulL h4 ha; omega
 · have := mulR h2 hV
   rcases Int.lt_or_le a1 0 with ha | ha
   · have := mulLn h3 (Int.le_of_lt ha); omega
   · have := mulL h4 ha; omega
theorem qg1 {x y : Iv} {i : Nat} (hi : i < 4) (hx : x.lo.val ≤ x.hi.val) (hy : y.lo.val ≤ y.hi.val) : x.lo.val ≤ (qag x y i).1.val ∧ (qag x y i).1.val ≤ x.hi.val ∧ y.lo.val ≤ (qag x y i).2.val ∧ (qag x y i).2.val ≤ y.hi.val := by
 obtain rfl | rfl | rfl | rfl : i = 0 ∨ i = 1 ∨ i = 2 ∨ i = 3 := by omega
 all_goals simp [qag, pairs, hx, hy]
theorem qb7 {x y : Iv} {i : Nat} (hi : i < 4) (hx : x.lo.Ok ∧ x.hi.Ok) (hy : y.lo.Ok ∧ y.hi.Ok) : (qag x y i).1.Ok ∧ (qag x y i).2.Ok := by
 obtain rfl | rfl | rfl | rfl : i = 0 ∨ i = 1 ∨ i = 2 ∨ i = 3 := by omega
 all_goals simp [qag, pairs, hx, hy]
theorem qpb {a b : Iv} {Q : Dy → Dy → Prop} (h : Q a.lo b.lo ∨ Q a.lo b.hi ∨ Q a.hi b.lo ∨ Q a.hi b.hi) : ∃ j, j < 4 ∧ Q (qag a b j).1 (qag a b j).2 := by
 rcases h with h | h | h | h
 · exact ⟨0, by omega, h⟩
 · exact ⟨1, by omega, h⟩
 · exact ⟨2, by omega, h⟩
 · exact ⟨3, by omega, h⟩
theorem qadv {x y a b : Iv} {p : Int} (wx : x.W) (wy : y.W) (wa : a.W) (wb : b.W) (hx : x.Le a) (hy : y.Le b) : (x.mul y p).ins (a.mul b p) = true := by
 have lgm : ∀ u v : Dy, ∀ h h2 : Int, h * pw 16384 ≤ u.val * v.val → u.val * v.val ≤ h2 * pw 16384 → h ≤ h2 := fun u v h h2 g1 g2 => (qa7 (qbk 16384)).1 (by omega)
 have hv : (x.mul y p).valid = true := by
   unfold Iv.mul
   split
   · rename_i h
     simp only [Bool.and_eq_true] at h
     obtain ⟨⟨k1, k2⟩, hp⟩ := h
     have o := qb7 (i := 0) (by omega) (qao wx k1) (qao wy k2)
     exact (qo3 (le := fun u v g => g * pw 16384 ≤ u.val * v.val) (ge := fun u v g => u.val * v.val ≤ g * pw 16384) (qoo o.1 o.2 hp) (qon o.1 o.2 hp) (lgm _ _) (fun _ _ => rMul_ok) (fun _ _ => rMul_ok)).1
   · rfl
 have wh : ∀ z : Iv, Iv.whole.mul z p = Iv.whole ∧ z.mul Iv.whole p = Iv.whole := fun z => by
   have : Iv.whole.known = false := rfl
   simp [Iv.mul, this]
 rcases hx with rfl | ⟨k1, k3, l1, l2⟩
 · rw [(wh b).1]; exact qfq hv
 · rcases hy with rfl | ⟨k2, k4, l3, l4⟩
   · rw [(wh a).2]; exact qfq hv
   · cases hp : precB p
     · have : a.mul b p = Iv.whole := by simp [Iv.mul, hp]
       rw [this]; exact qfq hv
     · have ox := qao wx k1
       have oy := qao wy k2
       have oa := qao wa k3
       have ob := qao wb k4
       have q1 := qa1 wx k1
       have q2 := qa1 wy k2
       unfold Iv.mul
       rw [k1, k2, k3, k4, hp, if_pos (by rfl), if_pos (by rfl)]
       refine qaaf (P := p.toNat) (le := fun u v g => g * pw 16384 ≤ u.val * v.val) (ge := fun u v g => u.val * v.val ≤ g * pw 16384) (fun _ _ => rMul_ok) (fun _ _ => rMul_ok) ?_ ?_ ?_ ?_ (lgm _ _) ?_ ?_
       · intro i hi; have o := qb7 hi ox oy; exact qoo o.1 o.2 hp
       · intro i hi; have o := qb7 hi ox oy; exact qon o.1 o.2 hp
       · intro i hi; have o := qb7 hi oa ob; exact qoo o.1 o.2 hp
       · intro i hi; have o := qb7 hi oa ob; exact qon o.1 o.2 hp
       · intro i hi
         obtain ⟨g1, g2, g3, g4⟩ := qg1 hi q1 q2
         obtain ⟨j, hj, hq⟩ := qpb (a := a) (b := b) (Q := fun u v => u.val * v.val ≤ (qag x y i).1.val * (qag x y i).2.val) (q4f (by omega) (by omega) (by omega) (by omega))
         exact ⟨j, hj, fun h hh => by omega⟩
       · intro i hi
         obtain ⟨g1, g2, g3, g4⟩ := qg1 hi q1 q2
         obtain ⟨j, hj, hq⟩ := qpb (a := a) (b := b) (Q := fun u v => (qag x y i).1.val * (qag x y i).2.val ≤ u.val * v.val) (q4g (by omega) (by omega) (by omega) (by omega))
         exact ⟨j, hj, fun h hh => by omega⟩
end Go.Abs.W
namespace Go.Abs.W
theorem qagz {u v : Int} (hv : v ≠ 0) (h h2 : Int) (g1 : divLe u v h) (g2 : divGe u v h2) : h ≤ h2 := by
 rcases Int.lt_or_le 0 v with hp | hp
 · rw [ql0 hp] at g1
   rw [ql1 hp] at g2
   exact (qa7 hp).1 (by omega)
 · rw [qoe (by omega)] at g1
   rw [qof (by omega)] at g2
   have := qa7 (x := h) (y := h2) (c := -v) (by omega)
   rw [Int.mul_neg, Int.mul_neg] at this
   omega
theorem qq2 {y : Iv} (wy : y.W) (hk : y.known = true) : y.sgn ≠ 0 ↔ (0 < y.lo.val ∨ y.hi.val < 0) := by
 obtain ⟨o1, o2⟩ := qao wy hk
 have s1 := qvm o1
 have s2 := qvm o2
 unfold Iv.sgn
 rw [if_pos hk]
 constructor
 · intro h
   by_cases h1 : 0 < y.lo.sgn
   · exact .inl (s1.1.1 h1)
   · rw [if_neg h1] at h
     by_cases h2 : y.hi.sgn < 0
     · exact .inr (s2.2.1 h2)
     · rw [if_neg h2] at h; exact absurd rfl h
 · rintro (h | h)
   · rw [if_pos (s1.1.2 h)]; omega
   · have h2 := s2.2.2 h
     by_cases h3 : 0 < y.lo.sgn
     · rw [if_pos h3]; omega
     · rw [if_neg h3, if_pos h2]; omega
theorem q6o {d : Dy} (h : d.val ≠ 0) : d.m ≠ [] := by
 intro h0
 apply h
 unfold Dy.val; rw [Dy.absN_nil h0]; simp
theorem q8l {x : Iv} (wx : x.W) (hk : x.known = true) : x.abs.known = true ∧ x.abs.lo.Ok ∧ x.abs.hi.Ok ∧ 0 ≤ x.abs.lo.val ∧ x.abs.lo.val ≤ x.abs.hi.val := by
 obtain ⟨o1, o2⟩ := qaep wx hk
 obtain ⟨r1, r2⟩ := qzw wx hk
 have ha : x.abs.all = false := by unfold Iv.abs; rw [if_pos hk]
 have hv : x.abs.known = true := by
   have : x.abs.lo.cmp x.abs.hi ≤ 0 := by rw [qjw o1 o2, cmpI_le]; exact r2
   simp [Iv.known, Iv.valid, ha, o1.valid, o2.valid, this]
 exact ⟨hv, o1, o2, r1, r2⟩
theorem qxe {x : Iv} (wx : x.W) (hk : x.known = true) : x.abs.hi.val = max (x.lo.val.natAbs : Int) x.hi.val.natAbs ∧ x.abs.lo.val = (if 0 < x.lo.val ∨ x.hi.val < 0 then min (x.lo.val.natAbs : Int) x.hi.val.natAbs else 0) := by
 obtain ⟨h1, h2⟩ := qao wx hk
 have a1 := qmi h1
 have a2 := qmi h2
 have m2 := qe5 (qdj h1) (qdj h2)
 have m1 := qg4 (qdj h1) (qdj h2)
 have sr := qq2 wx hk
 unfold Iv.abs
 rw [if_pos hk]
 show x.mag.val = _ ∧ x.mig.val = _
 unfold Iv.mag Iv.mig
 rw [m2, a1, a2]
 refine ⟨rfl, ?_⟩
 by_cases h : x.sgn = 0
 · rw [if_pos h, qj2, if_neg (fun h3 => (sr.2 h3) h)]
 · rw [if_neg h, m1, a1, a2, if_pos (sr.1 h)]
end Go.Abs.W
namespace Go.Abs.W
theorem IsUp.at {p : Nat} {r : Dy × Int} {ge : Int → Prop} (h : IsUp p r ge) (h0 : r.2 = 0) : ge r.1.val := by
 rcases h with ⟨_, b, c⟩ | ⟨a, _⟩
 · exact (c _ b).1 (Int.le_refl _)
 · exact absurd h0 a
section
variable {d e : Dy} {p : Int}
end
end Go.Abs.W
