/- Parts of the proof: FpXy. -/
import Derived.Test.YtedfjcdjmnaaiaaGreatDoorXh
import Derived.Test.YtedfjcdjmnaaiaaGreatDoorXf
namespace Go.Abs.W
theorem qagg {x : Iv} {p : Int} (w : x.W) : (x.exp p).Gd ∧ ∀ q, x.In q → (x.exp p).Has (es q) := by
 by_cases h : (x.known && precB p && modB x.lo && modB x.hi) = true
 · simp only [Bool.and_eq_true] at h
   obtain ⟨⟨⟨k, hp⟩, h1⟩, h2⟩ := h
   refine ⟨.inr (qhc w k hp h1 h2 Rat.le_refl (rat_le.2 (qak w k))).1, fun q hq => ?_⟩
   obtain ⟨q1, q2⟩ := qie hq k
   exact (qhc w k hp h1 h2 q1 q2).2
 · have e : x.exp p = Iv.whole := by unfold Iv.exp; rw [if_neg h]
   rw [e]
   exact ⟨.inl rfl, fun q _ => .whole⟩
theorem qaff {x : Iv} {p : Int} (w : x.W) : (x.sinh p).Gd ∧ ∀ q, x.In q → (x.sinh p).Has (sh q) := by
 by_cases h : (x.known && precB p && modB x.lo && modB x.hi) = true
 · simp only [Bool.and_eq_true] at h
   obtain ⟨⟨⟨k, hp⟩, h1⟩, h2⟩ := h
   refine ⟨.inr (qt7 w k hp h1 h2 Rat.le_refl (rat_le.2 (qak w k))).1, fun q hq => ?_⟩
   obtain ⟨q1, q2⟩ := qie hq k
   exact (qt7 w k hp h1 h2 q1 q2).2
 · have e : x.sinh p = Iv.whole := by unfold Iv.sinh; rw [if_neg h]
   rw [e]
   exact ⟨.inl rfl, fun q _ => .whole⟩
theorem qagq {x : Iv} {p : Int} (w : x.W) : (x.cosh p).Gd ∧ ∀ q, x.In q → (x.cosh p).Has (ch q) := by
 by_cases h : (x.known && precB p && modB x.lo && modB x.hi) = true
 · simp only [Bool.and_eq_true] at h
   obtain ⟨⟨⟨k, hp⟩, h1⟩, h2⟩ := h
   refine ⟨.inr (qr1 w k hp h1 h2 Rat.le_refl (rat_le.2 (qak w k))).1, fun q hq => ?_⟩
   obtain ⟨q1, q2⟩ := qie hq k
   exact (qr1 w k hp h1 h2 q1 q2).2.1
 · have e : x.cosh p = Iv.whole := by unfold Iv.cosh; rw [if_neg h]
   rw [e]
   exact ⟨.inl rfl, fun q _ => .whole⟩
theorem qamg {x : Iv} (w : x.W) (g : x.Gd) (h : x.Has (fun _ => 1)) : x.has (nD 1) = true := by
 have on : (nD 1).Ok := nD_ok (k := 1) (by omega)
 rcases g with rfl | k
 · have h1 : Iv.whole.valid = true := rfl
   have h2 : Iv.whole.all = true := rfl
   simp [Iv.has, h1, h2, on.valid]
 · obtain ⟨o1, o2⟩ := qai w k
   obtain ⟨a, b⟩ := qpm k h
   have e1 : (nD 1).rat = 1 := qacb 1
   have v1 : x.lo.val ≤ (nD 1).val := rat_le.1 (by rw [e1]; exact a.const)
   have v2 : (nD 1).val ≤ x.hi.val := rat_le.1 (by rw [e1]; exact b.const)
   have q1 : x.lo.cmp (nD 1) ≤ 0 := by rw [qet o1 on, qek]; exact v1
   have q2 : (nD 1).cmp x.hi ≤ 0 := by rw [qet on o2, qek]; exact v2
   simp [Iv.has, (qav k).1, on.valid, q1, q2]
theorem qalv (q : Rat) : Bnd (sh q) := by
 have a := ((qog q).sub (qog (-q))).mul (Bnd.const (1 / 2))
 obtain ⟨B, N, h⟩ := a
 exact ⟨B, N, fun n hn => by have := h n hn; unfold sh; rwa [show (es q n - es (-q) n) / 2 = (es q n - es (-q) n) * (1 / 2) by grind]⟩
theorem qamw (q : Rat) : Bnd (ch q) := by
 have a := ((qog q).add (qog (-q))).mul (Bnd.const (1 / 2))
 obtain ⟨B, N, h⟩ := a
 exact ⟨B, N, fun n hn => by have := h n hn; unfold ch; rwa [show (es q n + es (-q) n) / 2 = (es q n + es (-q) n) * (1 / 2) by grind]⟩
theorem q5l {x : Iv} {p : Int} (w : x.W) (k : x.known = true) :
   (((x.cosh p).sq p).add ((x.sinh p).sq p).neg p).has (nD 1) = true ∧ meetB ((x.sinh p).add (x.cosh p) p) (x.exp p) = true := by
 obtain ⟨g1, h1⟩ := qagq (p := p) w
 obtain ⟨g2, h2⟩ := qaff (p := p) w
 obtain ⟨g3, h3⟩ := qagg (p := p) w
 have i := In_lo w k
 obtain ⟨q, hq⟩ : ∃ q, q = x.lo.rat := ⟨_, rfl⟩
 rw [← hq] at i
 constructor
 · refine qamg add_W (q4r sq_W (neg_W sq_W)) ?_
   have s := q41 (p := p) sq_W sq_W (qaa8 (p := p) qzq (h1 q i) (qamw q)) (qaa8 (p := p) q2w (h2 q i) (qalv q))
   refine s.near ?_
   refine (qamq q).symm.trans ?_
   refine Null.congr (Null.zero) fun n => ?_
   unfold ch sh
   grind
 · refine ql8 add_W (exp_W w) (q4r q2w qzq) g3 ?_ (h3 q i)
   have s := q2d (p := p) q2w qzq (h2 q i) (h1 q i)
   refine s.near (Null.congr (Null.zero) fun n => ?_)
   unfold ch sh
   grind
theorem qaf8 (x : Iv) (p : Int) (l : x.Lm) : CQ prog qii [x.v, .int .i64 p] (.bool true) := by
 refine qag rfl fun H => ?_
 simp
 refine qaa rfl rfl rfl qg8 ?_
 simp
 refine qaa rfl rfl rfl (qlw x p l) ?_
 cases hs : qg2 x p
 · simp
 obtain ⟨w, k, hp, m1, m2, _, _⟩ := qe8 l hs
 obtain ⟨f1, f2⟩ := q5l (p := p) w k
 have on : (nD 1).Ok := nD_ok (k := 1) (by omega)
 have c1 := qmj x p w
 have c2 := qq2 x p w
 have c3 := qxj x p w
 have wa : (x.exp p).W := exp_W w
 have wb : (x.sinh p).W := q2w
 have wc : (x.cosh p).W := qzq
 have s1 := qp1 (x.cosh p) p wc
 have s2 := qp1 (x.sinh p) p wb
 have ws1 : ((x.cosh p).sq p).W := sq_W
 have ws2 : ((x.sinh p).sq p).W := sq_W
 have sb := qaes ((x.cosh p).sq p) ((x.sinh p).sq p) p ws1 ws2
 have wsb : (((x.cosh p).sq p).add ((x.sinh p).sq p).neg p).W := add_W
 have ci := qpl 1 (by omega) (by omega)
 rw [← show nD 1 = Dy.of (decide ((1 : Int) < 0)) (1 : Int).natAbs 0 from rfl] at ci
 have hc := qak4 _ (nD 1) wsb on.w
 rw [f1] at hc
 have ad := qs5 (x.sinh p) (x.cosh p) p wb wc
 have wad : ((x.sinh p).add (x.cosh p) p).W := add_W
 have mc := q70 ((x.sinh p).add (x.cosh p) p) (x.exp p) wad wa
 simp only [meetV] at mc
 have f3 : (((x.sinh p).add (x.cosh p) p).meet (x.exp p)).isSome = true := f2
 rw [f3] at mc
 generalize (((x.sinh p).add (x.cosh p) p).meet (x.exp p)).getD Iv.zero = Z at *
 generalize ((x.cosh p).sq p).add ((x.sinh p).sq p).neg p = D at *
 simp
 refine qaa rfl rfl rfl c2 ?_
 simp
 refine qaa rfl rfl rfl c3 ?_
 simp
 refine qaa rfl rfl rfl s1 ?_
 simp
 refine qaa rfl rfl rfl s2 ?_
 simp
 refine qaa rfl rfl rfl sb ?_
 simp
 refine qaa rfl rfl rfl ci ?_
 simp
 refine qaa rfl rfl rfl hc ?_
 simp
 refine qaa rfl rfl rfl ad ?_
 simp
 refine qaa rfl rfl rfl c1 ?_
 simp
 refine qaa rfl rfl rfl mc ?_
 simp
end Go.Abs.W
