/- Parts of the proof: FpXl, FpXm, FpXn, FpXo. -/
import Derived.Test.YtedfjcdjmnaaiaaGreatDoorXe
import Derived.Test.YtedfjcdjmnaaiaaGreatDoorHs
import Derived.Test.YtedfjcdjmnaaiaaGreatDoorHx
namespace Go.Abs.W
theorem Near.le_right {s t : Nat → Rat} (h : Near s t) : SLe t s := h.symm.le_left
theorem rat_le {u v : Dy} : u.rat ≤ v.rat ↔ u.val ≤ v.val := by
 constructor
 · intro h
   have := Rat.mul_le_mul_of_nonneg_right h (Rat.le_of_lt qe9)
   rw [qic, qic] at this
   exact Rat.intCast_le_intCast.1 this
 · intro h
   have := qbn h
   rw [← qic u, ← qic v] at this
   exact Rat.le_of_mul_le_mul_right this qe9
theorem qpm {x : Iv} {s : Nat → Rat} (k : x.known = true) (h : x.Has s) : SLe (fun _ => x.lo.rat) s ∧ SLe s (fun _ => x.hi.rat) := by
 obtain ⟨c, h1, h2⟩ := h
 exact ⟨(SLe.of_le 0 fun n _ => (qie (h1 n) k).1).trans h2.le_right, h2.le_left.trans (SLe.of_le 0 fun n _ => (qie (h1 n) k).2)⟩
theorem qabb {x : Iv} {s : Nat → Rat} (wx : x.W) (h : x.known = true → SLe (fun _ => x.lo.rat) s ∧ SLe s (fun _ => x.hi.rat)) : x.Has s := by
 refine qanh (fun k => ?_) wx
 obtain ⟨a, b⟩ := h k
 have hs := Rat.le_of_lt qe9
 have a2 := a.mul_left (c := fun _ => sc) (fun _ => hs) (Bnd.const sc)
 have b2 := b.mul_left (c := fun _ => sc) (fun _ => hs) (Bnd.const sc)
 have e1 := qic x.lo
 have e2 := qic x.hi
 exact ⟨((SLe.of_le 0 fun n _ => by show _ ≤ sc * x.lo.rat; rw [Rat.mul_comm, e1]; exact Rat.le_refl).trans a2).trans (SLe.of_le 0 fun n _ => by show sc * s n ≤ s n * sc; rw [Rat.mul_comm]; exact Rat.le_refl),
   ((SLe.of_le 0 fun n _ => by show s n * sc ≤ sc * s n; rw [Rat.mul_comm]; exact Rat.le_refl).trans b2).trans (SLe.of_le 0 fun n _ => by show sc * x.hi.rat ≤ _; rw [Rat.mul_comm, e2]; exact Rat.le_refl)⟩
theorem qwq {a b : Iv} (wa : a.W) (wb : b.W) (ka : a.known = true) (kb : b.known = true) (h : a.lo.val ≤ b.hi.val) : endsI a b = ⟨a.lo, b.hi, false⟩ ∧ (endsI a b).known = true := by
 have e : endsI a b = ⟨a.lo, b.hi, false⟩ := by
   unfold endsI; rw [(qav ka).2, (qav kb).2]; rfl
 exact ⟨e, by rw [e]; exact qcj (qai wa ka).1 (qai wb kb).2 h⟩
theorem qwr {a b : Iv} {sa sb s : Nat → Rat} (wa : a.W) (wb : b.W) (ka : a.known = true) (kb : b.known = true) (ha : a.Has sa) (hb : b.Has sb) (h1 : SLe sa s) (h2 : SLe s sb) :
   (endsI a b).known = true ∧ (endsI a b).Has s := by
 have q1 := (qpm ka ha).1.trans h1
 have q2 := h2.trans (qpm kb hb).2
 have hv : a.lo.val ≤ b.hi.val := rat_le.1 (q1.trans q2).const
 obtain ⟨e, k⟩ := qwq wa wb ka kb hv
 refine ⟨k, qabb (qqs wa wb) fun _ => ?_⟩
 rw [e]
 exact ⟨q1, q2⟩
theorem qhc {x : Iv} {p : Int} {q : Rat} (w : x.W) (k : x.known = true) (hp : precB p = true) (h1 : modB x.lo = true) (h2 : modB x.hi = true) (q1 : x.lo.rat ≤ q) (q2 : q ≤ x.hi.rat) :
   (x.exp p).known = true ∧ (x.exp p).Has (es q) := by
 obtain ⟨o1, o2⟩ := qai w k
 have e : x.exp p = endsI (qa8 x.lo p) (qa8 x.hi p) := by unfold Iv.exp; rw [k, hp, h1, h2]; rfl
 rw [e]
 exact qwr (qgs o1) (qgs o2) (qg3 o1 hp h1).1.k (qg3 o2 hp h2).1.k (ql2 p o1).2 (ql2 p o2).2 (qga q1) (qga q2)
theorem exp_W {x : Iv} {p : Int} (w : x.W) : (x.exp p).W := by
 unfold Iv.exp
 split
 · rename_i h
   simp only [Bool.and_eq_true] at h
   obtain ⟨o1, o2⟩ := qai w h.1.1.1
   exact qqs (qgs o1) (qgs o2)
 · exact Iv.whole_W
theorem q67 {y : Iv} {x : Rat} (wy : y.W) (hy : y.In x) : ∀ (f n : Nat) (t s : Iv), n + 1 + f ≤ 1000000 → t.W → s.W → t.In (tm x n) → s.In (es x n) →
   (rExpG y f (n + 1) t s).1.W ∧ (rExpG y f (n + 1) t s).2.W ∧ (rExpG y f (n + 1) t s).1.In (tm x (n + f)) ∧ (rExpG y f (n + 1) t s).2.In (es x (n + f))
 | 0, n, t, s, _, wt, ws, ht, hs => ⟨wt, ws, ht, hs⟩
 | f + 1, n, t, s, hf, wt, ws, ht, hs => by
   have w1 : (t.mul y 320).W := mul_W
   have wn : (nI ((n + 1 : Nat) : Int) ((n + 1 : Nat) : Int)).W := nI_W (by omega) (by omega)
   have w2 : ((t.mul y 320).div (nI ((n + 1 : Nat) : Int) ((n + 1 : Nat) : Int)) 320).W := div_W
   have h2 : ((t.mul y 320).div (nI ((n + 1 : Nat) : Int) ((n + 1 : Nat) : Int)) 320).In (tm x (n + 1)) := qr0 (p := 320) w1 wn (ql7 (p := 320) wt wy ht hy) (nI_In (n := n + 1) (by omega))
   have h4 : (s.add ((t.mul y 320).div (nI ((n + 1 : Nat) : Int) ((n + 1 : Nat) : Int)) 320) 320).In (es x (n + 1)) := qid (p := 320) ws w2 hs h2
   have r := q67 wy hy f (n + 1) _ _ (by omega) w2 add_W h2 h4
   rw [show n + (f + 1) = n + 1 + f by omega]
   exact r
theorem qyq {x : Iv} {q δ : Rat} (wx : x.W) (g : x.Gd) (hq : x.In q) (hd : Bd δ (rabs q)) : (qfj x).In δ := by
 unfold qfj
 split
 · rcases g with rfl | hk
   · exact .whole
   · rename_i h; rw [(qav hk).2] at h; cases h
 · rename_i h
   rcases g with rfl | hk
   · exact absurd rfl h
   · intro _
     obtain ⟨a, b⟩ := qah0 wx hk hq hd
     refine ⟨?_, b⟩
     show ((x.mag.neg'.val : Int) : Rat) ≤ _
     rw [qif, Rat.intCast_neg]; exact a
theorem qai7 {q : Rat} : q ≤ rabs q ∧ -q ≤ rabs q := by unfold rabs; split <;> (constructor <;> grind)
theorem qaby {y : Iv} {x : Rat} (wy : y.W) (hy : y.In x) (h1 : -1 ≤ 2 * x) (h2 : 2 * x ≤ 1) : (rExpS y).Has (es x) := by
 have w1 : (nI 1 1).W := nI_Wk (by decide)
 have w21 : (nI 21 21).W := nI_Wk (by decide)
 have w2 : (nI 2 2).W := nI_Wk (by decide)
 obtain ⟨wt, ws, ht, hs⟩ := q67 wy hy 20 0 (nI 1 1) (nI 1 1) (by omega) w1 w1 qrd qrd
 unfold rExpS
 rw [show rExpG y 20 1 (nI 1 1) (nI 1 1) = rExpG y 20 (0 + 1) (nI 1 1) (nI 1 1) from rfl]
 generalize rExpG y 20 (0 + 1) (nI 1 1) (nI 1 1) = r at *
 rw [Nat.zero_add] at ht hs
 have i21 : (nI 21 21).In ((21 : Nat) : Rat) := nI_In (by decide)
 have i2 : (nI 2 2).In ((2 : Nat) : Rat) := nI_In (by decide)
 have m1 := ql7 (p := 320) wt wy ht hy
 have m2 : ((r.1.mul y 320).div (nI 21 21) 320).In (tm x 21) := qr0 (p := 320) mul_W w21 m1 i21
 have m3 := ql7 (p := 320) div_W w2 m2 i2
 have gd : (((r.1.mul y 320).div (nI 21 21) 320).mul (nI 2 2) 320).Gd := qy5 div_W w2
 have e2 : ((2 : Nat) : Rat) = 2 := rfl
 rw [e2] at m3
 refine Iv.Has.of_ev 21 fun k hk => ?_
 obtain ⟨j, rfl⟩ := Nat.exists_eq_add_of_le hk
 have r1 := qadf h1 h2 (n := 21) (by decide) (q0a (tm x 21)) j
 have e3 : es x 21 = es x 20 + tm x 21 := rfl
 have bd : Bd (es x (21 + j) - es x 20) (rabs (tm x 21 * 2)) := by
   obtain ⟨u, v⟩ := r1
   have a := qai7 (q := tm x 21)
   have b : rabs (tm x 21 * 2) = 2 * rabs (tm x 21) := by unfold rabs; split <;> split <;> grind
   rw [b]
   constructor <;> grind
 have := qid (p := 320) ws (qom mul_W gd) hs (qyq mul_W gd m3 bd)
 rwa [show es x 20 + (es x (21 + j) - es x 20) = es x (21 + j) by grind] at this
theorem qaa9 : ∀ (k : Nat) (s : Iv) (x : Rat), s.W → s.Has (es x) → (sqN k s).Has (es (x * (pw k : Rat)))
 | 0, s, x, ws, hs => by
   have e : x * (pw 0 : Rat) = x := by rw [show ((pw 0 : Int) : Rat) = 1 from rfl]; grind
   rw [e]; exact hs
 | k + 1, s, x, ws, hs => by
   have m := qace (p := 320) ws ws hs hs (qog x) (qog x)
   have m2 := m.near (qzk x x).symm
   have r := qaa9 k (s.mul s 320) (x + x) mul_W m2
   have e : x * (pw (k + 1) : Rat) = (x + x) * (pw k : Rat) := by rw [qb2, Rat.intCast_mul]; rw [show ((2 : Int) : Rat) = 2 from rfl]; grind
   rw [e]; exact r
theorem qpr {d : Dy} (ok : d.Ok) : (rExp d).Has (es d.rat) := by
 by_cases hm : d.m = []
 · unfold rExp
   rw [if_pos hm, qkn hm, show es 0 = fun _ => 1 from funext qqr]
   exact Iv.In.has qrd
 · rw [q0d hm]
   obtain ⟨k, hk⟩ : ∃ k : Nat, k = (d.top + 16).toNat := ⟨_, rfl⟩
   rw [← hk]
   have pk := qko k
   have pkn : (pw k : Rat) ≠ 0 := by grind
   obtain ⟨x, hx⟩ : ∃ x : Rat, x = d.rat / (pw k : Rat) := ⟨_, rfl⟩
   have hx2 : x * (pw k : Rat) = d.rat := by rw [hx, Rat.div_def, Rat.mul_assoc, Rat.inv_mul_cancel _ pkn, Rat.mul_one]
   have hy : ((Iv.pt d).scl (-(k : Int))).In x := q2y (a := 0) (b := k) ⟨ok.w, ok.w⟩ (by omega) (by rw [hx2, show ((pw 0 : Int) : Rat) = 1 from rfl]; grind) (pt_In d)
   obtain ⟨b1, b2⟩ := q25 ok hm (n := k) (by omega)
   have c1 : -1 ≤ 2 * x := by
     refine Rat.le_of_mul_le_mul_right (c := (pw k : Rat)) ?_ pk
     grind
   have c2 : 2 * x ≤ 1 := by
     refine Rat.le_of_mul_le_mul_right (c := (pw k : Rat)) ?_ pk
     grind
   have h := qaby qfe hy c1 c2
   have := qaa9 k _ x (by unfold rExpS; exact add_W) h
   rwa [hx2] at this
end Go.Abs.W
namespace Go.Abs.W
def sh (q : Rat) (n : Nat) : Rat := (es q n - es (-q) n) / 2
def ch (q : Rat) (n : Nat) : Rat := (es q n + es (-q) n) / 2
def sgs1 : Nat → Rat
 | 0 => 1
 | n + 1 => - sgs1 n
theorem q9c (n : Nat) : sgs1 n = 1 ∨ sgs1 n = -1 := by
 induction n with
 | zero => exact .inl rfl
 | succ n ih => simp only [sgs1]; rcases ih with h | h <;> rw [h] <;> grind
theorem qahm (x : Rat) (n : Nat) : tm (-x) n = sgs1 n * tm x n := by
 induction n with
 | zero => simp only [tm, sgs1]; grind
 | succ n ih =>
   simp only [tm, sgs1]
   rw [ih, Rat.div_def, Rat.div_def]; grind
theorem qaip {a b : Rat} (ha : 0 ≤ a) (h : a ≤ b) (n : Nat) : tm a n ≤ tm b n := by
 have := (tm_Bd (x := a) (a := b) ⟨by grind, h⟩ n).2
 exact this
theorem ch_eq (q : Rat) (n : Nat) : 2 * ch q n = ps (fun k => tm q k + tm (-q) k) n := by
 have e : es q n + es (-q) n = ps (fun k => tm q k + tm (-q) k) n := by
   show ps (tm q) n + ps (tm (-q)) n = _
   induction n with
   | zero => rfl
   | succ n ih => simp only [ps]; rw [← ih]; grind
 rw [← e]; unfold ch; grind
theorem qaig (q : Rat) : ch (-q) = ch q := by
 funext n
 unfold ch
 rw [show - -q = q by grind, Rat.add_comm]
theorem q54 {a b : Rat} (ha : 0 ≤ a) (h : a ≤ b) (n : Nat) : ch a n ≤ ch b n := by
 have key : ps (fun k => tm a k + tm (-a) k) n ≤ ps (fun k => tm b k + tm (-b) k) n := by
   have st : ∀ k, tm a k + tm (-a) k ≤ tm b k + tm (-b) k := fun k => by
     have m := qaip ha h k
     rw [qahm, qahm]
     rcases q9c k with e | e <;> rw [e] <;> grind
   induction n with
   | zero => exact st 0
   | succ n ih => simp only [ps]; have := st (n + 1); grind
 rw [← ch_eq, ← ch_eq] at key
 grind
theorem ch_ge {q : Rat} (n : Nat) : 1 ≤ ch q n := by
 have pos : ∀ {q : Rat}, 0 ≤ q → 1 ≤ ch q n := fun {q} h => by
   have := q54 (a := 0) (b := q) (by grind) h n
   have e : ch 0 n = 1 := by
     unfold ch
     rw [show (-0 : Rat) = 0 by grind, qqr]; grind
   grind
 rcases (inferInstance : Decidable (0 ≤ q)) with h | h
 · rw [← qaig]; exact pos (by grind)
 · exact pos h
theorem qabg {a b : Rat} (h : a ≤ b) : SLe (sh a) (sh b) := by
 have h1 := qga h
 have h2 := qga (x := -b) (y := -a) (by grind)
 intro ε he
 obtain ⟨N, hN⟩ := h1 ε he
 obtain ⟨M, hM⟩ := h2 ε he
 refine ⟨max N M, fun n hn => ?_⟩
 have a1 := hN n (by omega)
 have a2 := hM n (by omega)
 unfold sh
 grind
theorem q0r {x : Iv} {s : Nat → Rat} (wx : x.W) (h : x.Has s) : (x.scl (-1)).Has (fun n => s n / 2) := by
 obtain ⟨c, h1, h2⟩ := h
 refine ⟨fun n => c n / 2, fun n => q2y (a := 0) (b := 1) wx (by omega) ?_ (h1 n), ?_⟩
 · rw [show ((pw 0 : Int) : Rat) = 1 from rfl, show ((pw 1 : Int) : Rat) = 2 from rfl]; grind
 · exact Null.congr (Null.mul h2 (Bnd.const (1 / 2))) fun n => by grind
theorem qajc {d : Dy} (ok : d.Ok) : d.opp.rat = -d.rat := by
 unfold Dy.rat
 rw [qub ok, Rat.intCast_neg, Rat.neg_mul]
theorem q7g {d : Dy} : d.neg'.rat = -d.rat := by
 unfold Dy.rat
 rw [qif, Rat.intCast_neg, Rat.neg_mul]
theorem qal0 {d : Dy} (ok : d.Ok) : d.opp.Ok := by rw [qmr ok]; exact qb8 ok
theorem q41 {x y : Iv} {p : Int} {s t : Nat → Rat} (wx : x.W) (wy : y.W) (hs : x.Has s) (ht : y.Has t) : (x.add y.neg p).Has (fun n => s n - t n) := by
 have := q2d (p := p) wx (neg_W wy) hs (qajh wy ht)
 rwa [show (fun n => s n + -t n) = fun n => s n - t n from funext fun n => by grind] at this
theorem q0q {d : Dy} {p : Int} (ok : d.Ok) : (hypI d p true).Has (ch d.rat) ∧ (hypI d p false).Has (sh d.rat) := by
 have o := qal0 ok
 have a := fun q => ql2 (d := d) q ok
 have b := fun q => ql2 (d := d.opp) q o
 rw [qajc ok] at b
 unfold hypI
 simp only [if_true, Bool.false_eq_true, if_false]
 constructor
 · refine q5b qfe ?_
   exact q0r add_W (q2d (a _).1 (b _).1 (a _).2 (b _).2)
 · refine q5b qfe ?_
   exact q0r add_W (q41 (a _).1 (b _).1 (a _).2 (b _).2)
theorem qab1 {d : Dy} (ok : d.Ok) : (rCosh d).Has (ch d.rat) := by
 have b := qpr (qb8 ok)
 rw [q7g] at b
 unfold rCosh
 exact q0r add_W (q2d qoe qoe (qpr ok) b)
theorem qabw {d : Dy} (ok : d.Ok) : (rSinh d).Has (sh d.rat) := by
 have b := qpr (qb8 ok)
 rw [q7g] at b
 unfold rSinh
 exact q0r add_W (q41 qoe qoe (qpr ok) b)
theorem q81 : (Iv.mk Dy.zero Dy.zero false).known = true := qcj Dy.zero_ok Dy.zero_ok (Int.le_refl _)
theorem qzz : Dy.zero.rat = 0 := qkn rfl
theorem qt8 {d : Dy} {p : Int} (ok : d.Ok) (hp : precB p = true) (hd : modB d = true) : (sinh1 d p).W ∧ (sinh1 d p).known = true ∧ (sinh1 d p).Has (sh d.rat) := by
 unfold sinh1
 split
 · rename_i h
   have h0 := qkn (sgn0.1 h)
   refine ⟨⟨Dy.zero_W, Dy.zero_W⟩, q81, ?_⟩
   have e : sh d.rat = fun _ => 0 := by
     funext n
     unfold sh
     rw [h0, show (-0 : Rat) = 0 by grind]; grind
   rw [e]
   refine Iv.In.has fun _ => ?_
   show ((Dy.zero.val : Int) : Rat) ≤ _ ∧ _ ≤ ((Dy.zero.val : Int) : Rat)
   rw [qc2, Rat.zero_mul]
   exact ⟨Rat.le_refl, Rat.le_refl⟩
 · exact ⟨qp9, (q5o ok hp hd).k, (q0q ok).2⟩
theorem qt7 {x : Iv} {p : Int} {q : Rat} (w : x.W) (k : x.known = true) (hp : precB p = true) (h1 : modB x.lo = true) (h2 : modB x.hi = true) (q1 : x.lo.rat ≤ q) (q2 : q ≤ x.hi.rat) :
   (x.sinh p).known = true ∧ (x.sinh p).Has (sh q) := by
 obtain ⟨o1, o2⟩ := qai w k
 have e : x.sinh p = endsI (sinh1 x.lo p) (sinh1 x.hi p) := by unfold Iv.sinh; rw [k, hp, h1, h2]; rfl
 obtain ⟨a1, a2, a3⟩ := qt8 o1 hp h1
 obtain ⟨b1, b2, b3⟩ := qt8 o2 hp h2
 rw [e]
 exact qwr a1 b1 a2 b2 a3 b3 (qabg q1) (qabg q2)
theorem qacb (k : Int) : (nD k).rat = (k : Rat) := by
 have hs := qe9
 have : (nD k).rat * sc = (k : Rat) * sc := by rw [qic, qf6, Rat.intCast_mul]; rfl
 have a := Rat.le_of_mul_le_mul_right (show (nD k).rat * sc ≤ (k : Rat) * sc by rw [this]; exact Rat.le_refl) hs
 have b := Rat.le_of_mul_le_mul_right (show (k : Rat) * sc ≤ (nD k).rat * sc by rw [this]; exact Rat.le_refl) hs
 exact Rat.le_antisymm a b
theorem q4o {o : Iv} {s : Nat → Rat} (w : o.W) (k : o.known = true) (h : o.Has s) (hs : ∀ n, 1 ≤ s n) : (qdq o).known = true ∧ (qdq o).Has s ∧ 0 ≤ (qdq o).lo.cmp (nD 1) := by
 obtain ⟨o1, o2⟩ := qai w k
 have on : (nD 1).Ok := nD_ok (k := 1) (by omega)
 have e1 : (nD 1).rat = 1 := qacb 1
 obtain ⟨a, b⟩ := qpm k h
 unfold qdq
 split
 · rename_i hc
   have hi : (nD 1).val ≤ o.hi.val := by
     refine rat_le.1 ?_
     rw [e1]
     exact SLe.const ((SLe.of_le 0 fun n _ => hs n).trans b)
   have kk : (Iv.mk (nD 1) o.hi o.all).known = true := by rw [hc.1]; exact qcj on o2 hi
   refine ⟨kk, qabb ⟨on.w, o2.w⟩ fun _ => ⟨?_, b⟩, by rw [qet on on, qsv]; exact Int.le_refl _⟩
   show SLe (fun _ => (nD 1).rat) s
   rw [e1]
   exact SLe.of_le 0 fun n _ => hs n
 · rename_i hc
   have ha := (qav k).2
   refine ⟨k, h, ?_⟩
   rcases Int.lt_or_le (o.lo.cmp (nD 1)) 0 with h2 | h2
   · exact absurd ⟨ha, h2⟩ hc
   · exact h2
theorem qamx (q : Rat) : ch (rabs q) = ch q := by
 unfold rabs; split
 · rfl
 · exact qaig q
theorem qai6 (q : Rat) : 0 ≤ rabs q := by unfold rabs; split <;> grind
theorem qr1 {x : Iv} {p : Int} {q : Rat} (w : x.W) (k : x.known = true) (hp : precB p = true) (h1 : modB x.lo = true) (h2 : modB x.hi = true) (q1 : x.lo.rat ≤ q) (q2 : q ≤ x.hi.rat) :
   (x.cosh p).known = true ∧ (x.cosh p).Has (ch q) ∧ 0 ≤ (x.cosh p).lo.cmp (nD 1) := by
 obtain ⟨m1, m2⟩ := q7l w k h1 h2
 obtain ⟨ka, o1, o2, n1, n2⟩ := qmg w k
 have e : x.cosh p = qdq (endsI (hypI x.abs.lo p true) (hypI x.abs.hi p true)) := by unfold Iv.cosh; rw [k, hp, h1, h2]; rfl
 have hq : x.In q := by
   intro _
   have a := Rat.mul_le_mul_of_nonneg_right q1 (Rat.le_of_lt qe9)
   have b := Rat.mul_le_mul_of_nonneg_right q2 (Rat.le_of_lt qe9)
   rw [qic] at a b
   exact ⟨a, b⟩
 obtain ⟨r1, r2⟩ := qie (q8n w hq) ka
 have r0 : 0 ≤ x.abs.lo.rat := by
   have := rat_le.2 (show Dy.zero.val ≤ x.abs.lo.val by rw [qc2]; exact n1)
   rwa [qzz] at this
 rw [e, ← qamx]
 obtain ⟨k1, h3⟩ := qwr (s := ch (rabs q)) qp9 qp9 (q5o o1 hp m1).k (q5o o2 hp m2).k (q0q o1).1 (q0q o2).1 (SLe.of_le 0 fun n _ => q54 r0 r1 n) (SLe.of_le 0 fun n _ => q54 (qai6 q) r2 n)
 exact q4o (qqs qp9 qp9) k1 h3 fun n => ch_ge n
theorem qz6 {d : Dy} {p : Int} : (sinh1 d p).W := by
 unfold sinh1; split
 · exact ⟨Dy.zero_W, Dy.zero_W⟩
 · exact qp9
theorem q2w {x : Iv} {p : Int} : (x.sinh p).W := by
 unfold Iv.sinh; split
 · exact qqs qz6 qz6
 · exact Iv.whole_W
theorem qzq {x : Iv} {p : Int} : (x.cosh p).W := by
 unfold Iv.cosh; split
 · exact q92 (qqs qp9 qp9)
 · exact Iv.whole_W
end Go.Abs.W
namespace Go.Abs.W
theorem In_lo {x : Iv} (w : x.W) (k : x.known = true) : x.In x.lo.rat := fun _ => by
 rw [qic]
 exact ⟨Rat.le_refl, qbn (qak w k)⟩
theorem In_hi {x : Iv} (w : x.W) (k : x.known = true) : x.In x.hi.rat := fun _ => by
 rw [qic]
 exact ⟨qbn (qak w k), Rat.le_refl⟩
theorem qq3 : ¬ Iv.whole.known = true := by decide
theorem qam3 {x y : Iv} {p : Int} (h : (x.add y p).known = true) : x.known = true ∧ y.known = true := by
 unfold Iv.add at h
 split at h
 · rename_i h2
   simp only [Bool.and_eq_true] at h2
   exact h2.1
 · exact absurd h qq3
theorem qal5 {x y : Iv} {p : Int} (h : (x.mul y p).known = true) : x.known = true ∧ y.known = true := by
 unfold Iv.mul at h
 split at h
 · rename_i h2
   simp only [Bool.and_eq_true] at h2
   exact h2.1
 · exact absurd h qq3
theorem qalx {x : Iv} {p : Int} (h : (x.rnd p).known = true) : x.known = true := by
 unfold Iv.rnd at h
 split at h
 · rename_i h2
   simp only [Bool.and_eq_true] at h2
   exact h2.1
 · exact absurd h qq3
theorem qs1 {x y : Iv} {p : Int} {a b : Rat} (wx : x.W) (wy : y.W) (ha : 0 ≤ a) (hb : 0 ≤ b) (hx : x.HasLog a) (hy : y.HasLog b) : (x.add y p).HasLog (a * b) := by
 intro k
 obtain ⟨kx, ky⟩ := qam3 k
 obtain ⟨x1, x2⟩ := hx kx
 obtain ⟨y1, y2⟩ := hy ky
 have l := qie (qid (p := p) wx wy (In_lo wx kx) (In_lo wy ky)) k
 have u := qie (qid (p := p) wx wy (In_hi wx kx) (In_hi wy ky)) k
 exact ⟨(x1.add y1 ha).mono l.1, (x2.add y2 hb).mono u.2⟩
theorem qyk {x : Iv} {p : Int} {a : Rat} (wx : x.W) (hx : x.HasLog a) : (x.rnd p).HasLog a := by
 intro k
 have kx := qalx k
 obtain ⟨x1, x2⟩ := hx kx
 have l := qie (q21 (p := p) wx (In_lo wx kx)) k
 have u := qie (q21 (p := p) wx (In_hi wx kx)) k
 exact ⟨x1.mono l.1, x2.mono u.2⟩
def zp (t : Int) : Rat := if 0 ≤ t then (pw t.toNat : Rat) else ((pw (-t).toNat : Int) : Rat)⁻¹
theorem qahj (t : Int) : 0 < zp t := by
 unfold zp; split
 · exact qko _
 · exact Rat.inv_pos.2 (qko _)
theorem qab4 (n : Nat) : (pw (n + 1) : Rat) = (pw n : Rat) * 2 := by rw [qb2, Rat.intCast_mul, Rat.mul_comm]; rfl
theorem q6l {u : Rat} (h : ELo u 2) : ∀ n : Nat, ELo ((n : Rat) * u) (pw n : Rat)
 | 0 => by
   have e : ((0 : Nat) : Rat) * u = 0 := by rw [show ((0 : Nat) : Rat) = 0 from rfl]; grind
   rw [e]; exact ELo.zero
 | n + 1 => by
   have := (q6l h n).add h (Rat.le_of_lt (qko n))
   rw [qab4, qa9, show ((n : Rat) + 1) * u = (n : Rat) * u + u by grind]
   exact this
theorem q6m {u : Rat} (h : EHi 2 u) : ∀ n : Nat, EHi (pw n : Rat) ((n : Rat) * u)
 | 0 => by
   have e : ((0 : Nat) : Rat) * u = 0 := by rw [show ((0 : Nat) : Rat) = 0 from rfl]; grind
   rw [e]; exact EHi.zero
 | n + 1 => by
   have := (q6m h n).add h (show (0 : Rat) ≤ 2 by decide)
   rw [qab4, qa9, show ((n : Rat) + 1) * u = (n : Rat) * u + u by grind]
   exact this
theorem qrh {y : Iv} {p t : Int} (wy : y.W) (ht : t.natAbs ≤ 1048576) (hy : y.HasLog 2) : ((nI t t).mul y p).HasLog (zp t) := by
 intro k
 obtain ⟨_, ky⟩ := qal5 k
 obtain ⟨y1, y2⟩ := hy ky
 have wt : (nI t t).W := nI_Wk ht
 have l := qie (ql7 (p := p) wt wy (q3g t) (In_lo wy ky)) k
 have u := qie (ql7 (p := p) wt wy (q3g t) (In_hi wy ky)) k
 unfold zp
 split
 · rename_i h
   obtain ⟨n, rfl⟩ : ∃ n : Nat, t = n := ⟨t.toNat, by omega⟩
   rw [Int.toNat_natCast]
   rw [Rat.intCast_natCast] at l u
   exact ⟨(q6l y1 n).mono l.1, (q6m y2 n).mono u.2⟩
 · rename_i h
   obtain ⟨n, rfl⟩ : ∃ n : Nat, t = -(n : Int) := ⟨(-t).toNat, by omega⟩
   rw [show (-(-(n : Int))).toNat = n by omega]
   rw [Rat.intCast_neg, Rat.intCast_natCast] at l u
   have a := (q6m y2 n).inv (qko n)
   have b := (q6l y1 n).inv (qko n)
   exact ⟨a.mono (by grind), b.mono (by grind)⟩
theorem mant1 {m s B d A q : Rat} (e : m * B = d * A) (e3 : s = q * 2) (l3 : q * B ≤ d * s * A) : 1 * (s * B) ≤ 2 * m * (s * B) := by
 have t1 : 2 * m * (s * B) = 2 * (d * s * A) := by grind
 have t2 : 1 * (s * B) = 2 * (q * B) := by grind
 rw [t1, t2]
 generalize d * s * A = X at *
 generalize q * B = Y at *
 grind
theorem mant2 {m s B d A : Rat} (e : m * B = d * A) (u3 : d * s * A ≤ s * B) : m * (s * B) ≤ 1 * (s * B) := by
 have t1 : m * (s * B) = d * s * A := by grind
 rw [t1, Rat.one_mul]
 exact u3
theorem mant {d : Dy} (ok : d.Ok) (h : 0 < d.sgn) : ∃ m : Rat, (∀ {x : Iv}, x.W → x.In d.rat → (x.scl (-d.top)).In m) ∧ 1 ≤ 2 * m ∧ m ≤ 1 ∧ m * zp d.top = d.rat := by
 obtain ⟨hm, hv⟩ := qit ok h
 obtain ⟨b1, b2⟩ := ok.absN_bounds hm
 have ht := ok.top_pos hm
 obtain ⟨a, ha⟩ : ∃ a : Nat, a = (-d.top).toNat := ⟨_, rfl⟩
 obtain ⟨b, hb⟩ : ∃ b : Nat, b = d.top.toNat := ⟨_, rfl⟩
 have pa := qko a
 have pb := qko b
 have s0 := qe9
 obtain ⟨m, hmd⟩ : ∃ m : Rat, m = d.rat * (pw a : Rat) / (pw b : Rat) := ⟨_, rfl⟩
 have e : m * (pw b : Rat) = d.rat * (pw a : Rat) := by
   rw [hmd, Rat.div_def, Rat.mul_assoc, Rat.inv_mul_cancel _ (by grind), Rat.mul_one]
 have l : pw (d.top + 16383).toNat ≤ d.val := by rw [hv]; unfold pw; exact Int.ofNat_le.2 b1
 have u : d.val ≤ pw (d.top + 16384).toNat := by rw [hv]; unfold pw; exact Int.ofNat_le.2 (Nat.le_of_lt b2)
 have l2 : pw 16383 * pw b ≤ d.val * pw a := by
   rw [← qa5, show 16383 + b = (d.top + 16383).toNat + a by omega, qa5]
   exact (qaw (qax a)).2 l
 have u2 : d.val * pw a ≤ pw 16384 * pw b := by
   rw [← qa5, show 16384 + b = (d.top + 16384).toNat + a by omega, qa5]
   exact (qaw (qax a)).2 u
 have l3 := qbn l2
 have u3 := qbn u2
 have e2 : ((pw 16384 : Int) : Rat) = sc := rfl
 have e3 : sc = ((pw 16383 : Int) : Rat) * 2 := qab4 16383
 rw [Rat.intCast_mul, Rat.intCast_mul, ← qic d] at l3 u3
 rw [e2] at u3
 refine ⟨m, fun wx hx => q2y (a := a) (b := b) wx (by omega) e hx, ?_, ?_, ?_⟩
 · refine Rat.le_of_mul_le_mul_right (c := sc * (pw b : Rat)) ?_ (Rat.mul_pos s0 pb)
   generalize ((pw 16383 : Int) : Rat) = q at *
   generalize ((pw a : Int) : Rat) = A at *
   generalize ((pw b : Int) : Rat) = B at *
   exact mant1 e e3 l3
 · refine Rat.le_of_mul_le_mul_right (c := sc * (pw b : Rat)) ?_ (Rat.mul_pos s0 pb)
   generalize ((pw a : Int) : Rat) = A at *
   generalize ((pw b : Int) : Rat) = B at *
   exact mant2 e u3
 · unfold zp
   split
   · have a0 : a = 0 := by omega
     rw [← hb, e, a0, show ((pw 0 : Int) : Rat) = 1 from rfl, Rat.mul_one]
   · have b0 : b = 0 := by omega
     rw [b0, show ((pw 0 : Int) : Rat) = 1 from rfl, Rat.mul_one] at e
     rw [← ha, e, Rat.mul_assoc, Rat.mul_inv_cancel _ (by grind), Rat.mul_one]
theorem zeta {m : Rat} (h1 : 1 ≤ 2 * m) (h2 : m ≤ 1) : ∃ ζ : Rat, ζ = (m + -1) / (m + 1) ∧ -1 < ζ ∧ ζ < 1 ∧ -1 ≤ 3 * ζ ∧ 3 * ζ ≤ 1 ∧ 2 * (ζ * ζ) ≤ 1 ∧ gg ζ = m := by
 have p : 0 < m + 1 := by grind
 have q := Rat.inv_pos.2 p
 have e := Rat.mul_inv_cancel (m + 1) (by grind)
 refine ⟨_, rfl, ?_⟩
 rw [Rat.div_def]
 generalize (m + 1)⁻¹ = c at *
 have m0 := qap (show 0 ≤ m by grind) (Rat.le_of_lt q)
 have m1 := qap (show 0 ≤ 2 * m - 1 by grind) (Rat.le_of_lt q)
 have m2 := qap (show 0 ≤ 1 - m by grind) (Rat.le_of_lt q)
 have pm := Rat.mul_pos (show 0 < m by grind) q
 obtain ⟨ζ, hz⟩ : ∃ ζ, ζ = (m + -1) * c := ⟨_, rfl⟩
 rw [← hz]
 have z0 : ζ ≤ 0 := by grind
 have z1 : -1 ≤ 3 * ζ := by grind
 have z2 : 1 - ζ = 2 * c := by grind
 have z3 : 1 + ζ = m * (1 - ζ) := by grind
 refine ⟨by grind, by grind, z1, by grind, ?_, ?_⟩
 · have := qfl (a := -ζ) (b := 1 / 3) (c := -ζ) (d := 1 / 3) (by grind) (by grind) (by grind) (by grind)
   grind
 · unfold gg
   rw [z3, Rat.mul_assoc, Rat.mul_inv_cancel _ (by grind), Rat.mul_one]
theorem qacf : (nI (-1) (-1)).In (-1 : Rat) := q3g (-1)
theorem q6q : gg (1 / 3) = 2 := by unfold gg; grind
theorem q6r {p : Int} : ((nI 1 1).div (nI 3 3) p).In (1 / 3 : Rat) := by
 have i3 : (nI 3 3).In ((3 : Nat) : Rat) := nI_In (by decide)
 have := qr0 (p := p) (nI_Wk (k := 1) (by decide)) (nI_Wk (k := 3) (by decide)) qrd i3
 exact this
theorem q3l {p : Int} : (log2I p).HasLog 2 := by
 unfold log2I
 split
 · have := (q7r (P := gP p 16) (z := (nI 1 1).div (nI 3 3) (gP p 16)) (ζ := 1 / 3) div_W q6r (by grind) (by grind) (by grind)).2
   rw [q6q] at this
   exact qyk qy9 this
 · exact fun h => absurd h qq3
theorem qacs {d : Dy} {p : Int} (ok : d.Ok) (h : 0 < d.sgn) : (lgI d p).HasLog d.rat := by
 by_cases hc : d.cmp (nD 1) = 0
 · have on : (nD 1).Ok := nD_ok (k := 1) (by omega)
   have e := (qul ok on).1 hc
   have e2 : d.rat = 1 := by rw [e]; exact qacb 1
   unfold lgI
   rw [if_pos hc, e2]
   intro _
   show ELo Dy.zero.rat 1 ∧ EHi 1 Dy.zero.rat
   rw [qzz]
   exact ⟨ELo.zero, EHi.zero⟩
 · obtain ⟨m, m1, m2, m3, m4⟩ := mant ok h
   obtain ⟨hm, _⟩ := qit ok h
   have ht := ok.top_pos hm
   have htop : d.top ≤ 16384 := by have := ok.top; unfold Dy.top; rw [if_neg hm]; exact this
   obtain ⟨ζ, z0, z1, z2, _, _, z3, z4⟩ := zeta m2 m3
   have w : (Iv.pt d).W := ⟨ok.w, ok.w⟩
   have i1 := m1 (qib (x := Iv.pt d) (p := gP p 40)) (q21 w (pt_In d))
   have a1 := qid (p := gP p 40) qfe (nI_Wk (k := -1) (by decide)) i1 qacf
   have a2 := qid (p := gP p 40) qfe (nI_Wk (k := 1) (by decide)) i1 qrd
   have dv := qr0 (p := gP p 40) add_W add_W a1 a2
   rw [← z0] at dv
   have l := (q7r (P := gP p 40) div_W dv z1 z2 z3).2
   rw [z4] at l
   have t := qrh (p := gP p 40) (t := d.top) (q0m (p := gP p 40)) (by omega) q3l
   have s := qs1 (p := gP p 40) qy9 mul_W (by grind) (Rat.le_of_lt (qahj _)) l t
   rw [m4] at s
   unfold lgI
   rw [if_neg hc]
   exact qyk add_W s
theorem q6k {a b : Iv} {da db q : Rat} (wa : a.W) (wb : b.W) (ka : a.known = true) (kb : b.known = true) (ha : a.HasLog da) (hb : b.HasLog db) (h1 : da ≤ q) (h2 : q ≤ db) :
   (endsI a b).known = true ∧ (endsI a b).HasLog q := by
 have q1 := (ha ka).1.up h1
 have q2 := (hb kb).2.down h2
 have hv : a.lo.val ≤ b.hi.val := rat_le.1 (q1.le q2)
 obtain ⟨e, k⟩ := qwq wa wb ka kb hv
 refine ⟨k, fun _ => ?_⟩
 rw [e]
 exact ⟨q1, q2⟩
theorem qfa {x : Iv} {p : Int} {q : Rat} (w : x.W) (k : x.known = true) (hp : precB p = true) (h0 : 0 < x.lo.sgn) (hl : x.lo.top ≤ 16383) (hh : x.hi.top ≤ 16383) (q1 : x.lo.rat ≤ q) (q2 : q ≤ x.hi.rat) :
   (x.log p).known = true ∧ (x.log p).HasLog q := by
 obtain ⟨o1, o2⟩ := qai w k
 have le0 := qak w k
 have h2 : 0 < x.hi.sgn := (qdr o2).1.2 (by have := (qdr o1).1.1 h0; omega)
 have e : x.log p = endsI (lgI x.lo p) (lgI x.hi p) := by unfold Iv.log; rw [k, hp, decide_eq_true h0]; rfl
 rw [e]
 exact q6k lgI_W lgI_W (q7t o1 h0 hp hl).k (q7t o2 h2 hp hh).k (qacs o1 h0) (qacs o2 h2) q1 q2
theorem log_W {x : Iv} {p : Int} : (x.log p).W := by
 unfold Iv.log; split
 · exact qqs lgI_W lgI_W
 · exact Iv.whole_W
def pz (f : Nat → Rat) : Nat → Rat
 | 0 => 0
 | k + 1 => ps f k
theorem qai9 (f : Nat → Rat) (k : Nat) : pz f (k + 1) = pz f k + f k := by
 cases k with
 | zero => show f 0 = 0 + f 0; grind
 | succ k => rfl
theorem q7a {q : Iv} {ζ : Rat} (wq : q.W) (hq : q.In (ζ * ζ)) : ∀ (f k : Nat) (w s : Iv), k + f ≤ 100000 → w.W → s.W → w.In (od ζ k) → s.In (pz (lt ζ) k) →
   (rArtG q f k w s).1.W ∧ (rArtG q f k w s).2.W ∧ (rArtG q f k w s).1.In (od ζ (k + f)) ∧ (rArtG q f k w s).2.In (pz (lt ζ) (k + f))
 | 0, k, w, s, _, ww, ws, hw, hs => ⟨ww, ws, hw, hs⟩
 | f + 1, k, w, s, hf, ww, ws, hw, hs => by
   have wn : (nI (2 * k + 1) (2 * k + 1)).W := nI_Wk (by omega)
   have hn : (nI (2 * (k : Int) + 1) (2 * (k : Int) + 1)).In ((2 * k + 1 : Nat) : Rat) := by
     have := nI_In (n := 2 * k + 1) (by omega)
     rwa [show ((2 * k + 1 : Nat) : Int) = 2 * (k : Int) + 1 by omega] at this
   have h1 := qr0 (p := 320) ww wn hw hn
   have h2 := qid (p := 320) ws div_W hs h1
   have h3 : (s.add (w.div (nI (2 * k + 1) (2 * k + 1)) 320) 320).In (pz (lt ζ) (k + 1)) := by rw [qai9]; exact h2
   have h4 : (w.mul q 320).In (od ζ (k + 1)) := ql7 (p := 320) ww wq hw hq
   have r := q7a wq hq f (k + 1) _ _ (by omega) mul_W add_W h4 h3
   rw [show k + (f + 1) = k + 1 + f by omega]
   exact r
theorem qaf1 {z c : Rat} {k : Nat} (hz : 9 * (z * z) ≤ 1) (h : Bd (lt z k) c) : Bd (lt z (k + 1)) (c / 9) := by
 have s0 := sq_nn z
 have zz : Bd (z * z) (1 / 9) := by constructor <;> grind
 have p1 := qrf (2 * k)
 have p2 := qrf (2 * (k + 1))
 have i1 := Rat.inv_pos.2 p1
 have i2 := Rat.inv_pos.2 p2
 have le : ((2 * k + 1 : Nat) : Rat) ≤ ((2 * (k + 1) + 1 : Nat) : Rat) := qpt (by omega)
 have e1 := Rat.mul_inv_cancel ((2 * k + 1 : Nat) : Rat) (by grind)
 have e2 := Rat.mul_inv_cancel ((2 * (k + 1) + 1 : Nat) : Rat) (by grind)
 unfold lt at *
 rw [Rat.div_def] at *
 generalize ((2 * k + 1 : Nat) : Rat) = A at *
 generalize ((2 * (k + 1) + 1 : Nat) : Rat) = B at *
 have b1 : Bd (A * B⁻¹) 1 := by
   constructor
   · have := qap (Rat.le_of_lt p1) (Rat.le_of_lt i2); grind
   · have := Rat.mul_le_mul_of_nonneg_right le (Rat.le_of_lt i2); grind
 have := (h.mul zz).mul b1
 have e : od z k * A⁻¹ * (z * z) * (A * B⁻¹) = od z (k + 1) * B⁻¹ := by
   show _ = od z k * (z * z) * B⁻¹
   generalize z * z = y at *
   generalize od z k = o at *
   grind
 rw [e] at this
 rwa [show c * (1 * 9⁻¹) * 1 = c / 9 by grind] at this
theorem qajo {z c : Rat} (hz : 9 * (z * z) ≤ 1) (n : Nat) (hc : Bd (lt z (n + 1)) c) (j : Nat) : Bd (ps (lt z) (n + j) - ps (lt z) n) (9 / 8 * c) := by
 have c0 := hc.nn
 have key : ∀ j, ∃ d : Rat, 0 ≤ d ∧ Bd (lt z (n + 1 + j)) d ∧ Bd (ps (lt z) (n + j) - ps (lt z) n) (9 / 8 * c - 9 / 8 * d) := by
   intro j
   induction j with
   | zero => exact ⟨c, c0, hc, by constructor <;> (simp only [Nat.add_zero]; grind)⟩
   | succ j ih =>
     obtain ⟨d, d0, e1, e2⟩ := ih
     refine ⟨d / 9, by grind, qaf1 hz e1, ?_⟩
     have e3 : ps (lt z) (n + (j + 1)) = ps (lt z) (n + j) + lt z (n + 1 + j) := by
       rw [show n + (j + 1) = (n + j) + 1 by omega, show n + 1 + j = n + j + 1 by omega]; rfl
     rw [e3]
     obtain ⟨u, v⟩ := e2.add e1
     constructor <;> grind
 obtain ⟨d, d0, _, u, v⟩ := key j
 constructor <;> grind
theorem q69 {z : Iv} {ζ : Rat} (wz : z.W) (hz : z.In ζ) (h0 : -1 < ζ) (h1 : ζ < 1) (h2 : 9 * (ζ * ζ) ≤ 1) : (rArt z).HasLog (gg ζ) := by
 rw [q0e]
 intro hk
 have w0 : (nI 0 0).W := nI_Wk (by decide)
 have i0 : (nI 0 0).In (0 : Rat) := q3g 0
 obtain ⟨ww, ws, hw, hs⟩ := q7a (q := z.sq 320) sq_W (sq_In wz hz) 101 0 z (nI 0 0) (by omega) wz w0 hz i0
 rw [Nat.zero_add] at hw hs
 generalize rArtG (z.sq 320) 101 0 z (nI 0 0) = r at *
 have w9 : (nI 9 9).W := nI_Wk (by decide)
 have w16 : (nI 1624 1624).W := nI_Wk (by decide)
 have w2 : (nI 2 2).W := nI_Wk (by decide)
 have i9 : (nI 9 9).In ((9 : Nat) : Rat) := nI_In (by decide)
 have i16 : (nI 1624 1624).In ((1624 : Nat) : Rat) := nI_In (by decide)
 have i2 : (nI 2 2).In ((2 : Nat) : Rat) := nI_In (by decide)
 have m := qr0 (p := 320) mul_W w16 (ql7 (p := 320) ww w9 hw i9) i16
 have gd : ((r.1.mul (nI 9 9) 320).div (nI 1624 1624) 320).Gd := qaid mul_W w16
 refine qy8 h0 h1 100 fun k hkm => ?_
 obtain ⟨j, rfl⟩ := Nat.exists_eq_add_of_le hkm
 have e9 : od ζ 101 * ((9 : Nat) : Rat) / ((1624 : Nat) : Rat) = 9 / 8 * lt ζ 101 := by
   unfold lt
   have : ((2 * 101 + 1 : Nat) : Rat) = 203 := rfl
   rw [this, show ((9 : Nat) : Rat) = 9 from rfl, show ((1624 : Nat) : Rat) = 1624 from rfl]
   grind
 rw [e9] at m
 have rs := qajo h2 100 (q0a (lt ζ 101)) j
 have bd : Bd (ps (lt ζ) (100 + j) - ps (lt ζ) 100) (rabs (9 / 8 * lt ζ 101)) := by
   have : rabs (9 / 8 * lt ζ 101) = 9 / 8 * rabs (lt ζ 101) := by unfold rabs; split <;> split <;> grind
   rw [this]; exact rs
 have a := qid (p := 320) ws (qom div_W gd) hs (qyq div_W gd m bd)
 have b := ql7 (p := 320) w2 add_W i2 a
 have e : ((2 : Nat) : Rat) * (pz (lt ζ) 101 + (ps (lt ζ) (100 + j) - ps (lt ζ) 100)) = ll ζ (100 + j) := by
   show 2 * (ps (lt ζ) 100 + (ps (lt ζ) (100 + j) - ps (lt ζ) 100)) = _
   unfold ll; grind
 rw [e] at b
 exact qie b hk
theorem qajg {ζ : Rat} (h1 : -1 ≤ 3 * ζ) (h2 : 3 * ζ ≤ 1) : 9 * (ζ * ζ) ≤ 1 := by
 rcases (inferInstance : Decidable (0 ≤ ζ)) with h | h
 · have := qfl (a := -(3 * ζ)) (b := 1) (c := -(3 * ζ)) (d := 1) (by grind) (by grind) (by grind) (by grind)
   grind
 · have := qfl (a := 3 * ζ) (b := 1) (c := 3 * ζ) (d := 1) (by grind) (by grind) (by grind) (by grind)
   grind
theorem q26 : rLog2.HasLog 2 := by
 have := q69 (z := (nI 1 1).div (nI 3 3) 320) (ζ := 1 / 3) div_W q6r (by grind) (by grind) (by grind)
 rwa [q6q] at this
theorem qafq {d : Dy} (ok : d.Ok) (h : 0 < d.sgn) : (rLog d).HasLog d.rat := by
 obtain ⟨m, m1, m2, m3, m4⟩ := mant ok h
 obtain ⟨hm, _⟩ := qit ok h
 have ht := ok.top_pos hm
 have htop : d.top ≤ 16384 := by have := ok.top; unfold Dy.top; rw [if_neg hm]; exact this
 obtain ⟨ζ, z0, z1, z2, z5, z6, z3, z4⟩ := zeta m2 m3
 have w : (Iv.pt d).W := ⟨ok.w, ok.w⟩
 have i1 : (rlM d).In m := m1 w (pt_In d)
 have a1 := qid (p := 320) qfe (nI_Wk (k := -1) (by decide)) i1 qacf
 have a2 := qid (p := 320) qfe (nI_Wk (k := 1) (by decide)) i1 qrd
 have dv := qr0 (p := 320) add_W add_W a1 a2
 rw [← z0] at dv
 have l := q69 (z := rlZ d) div_W dv z1 z2 (qajg z5 z6)
 rw [z4] at l
 have t := qrh (p := 320) (t := d.top) q0c (by omega) q26
 have s := qs1 (p := 320) q68 mul_W (by grind) (Rat.le_of_lt (qahj _)) l t
 rw [m4] at s
 rw [q0b]
 exact s
end Go.Abs.W
namespace Go.Abs.W
theorem q4r {x y : Iv} {p : Int} (wx : x.W) (wy : y.W) : (x.add y p).Gd := by
 unfold Iv.add
 split
 · rename_i h
   have h2 := h
   simp only [Bool.and_eq_true] at h2
   have v := q0p (qakm (p := p) wx wy wx wy (.inr ⟨h2.1.1, h2.1.1, Int.le_refl _, Int.le_refl _⟩) (.inr ⟨h2.1.2, h2.1.2, Int.le_refl _, Int.le_refl _⟩))
   unfold Iv.add at v
   rw [if_pos h] at v
   exact Gd.of_valid v qaf0
 · exact .inl rfl
theorem qaht {x : Iv} {k : Int} (wx : x.W) : (x.scl k).Gd := by
 unfold Iv.scl
 split
 · rename_i kx
   obtain ⟨o1, o2⟩ := qai wx kx
   have le0 := qak wx kx
   unfold Iv.made
   split
   · rename_i h
     right
     obtain ⟨a, ha⟩ : ∃ a : Nat, a = k.toNat := ⟨_, rfl⟩
     obtain ⟨b, hb⟩ : ∃ b : Nat, b = (-k).toNat := ⟨_, rfl⟩
     have v1 := qqg (a := a) (b := b) o1 (by omega) h.1
     have v2 := qqg (a := a) (b := b) o2 (by omega) h.2
     refine qcj qp6 qp6 ((qaw (qax b)).1 ?_)
     show (x.lo.scl k).val * pw b ≤ (x.hi.scl k).val * pw b
     rw [v1, v2]
     exact (qaw (qax a)).2 le0
   · exact .inl rfl
 · exact .inl rfl
theorem nI_Gd {k : Int} (hk : k.natAbs ≤ 1048576) : (nI k k).Gd := .inr (qms hk)
theorem qaho : ∀ (n : Nat) (s : Iv), s.W → s.Gd → (sqN n s).Gd
 | 0, _, _, g => g
 | n + 1, _, w, _ => qaho n _ mul_W (qy5 w w)
theorem qabx {d : Dy} : (rExp d).Gd := by
 by_cases hm : d.m = []
 · unfold rExp; rw [if_pos hm]; exact nI_Gd (by decide)
 · rw [q0d hm]
   have w1 : (nI 1 1).W := nI_Wk (by decide)
   have w2 : (nI 2 2).W := nI_Wk (by decide)
   obtain ⟨wt, ws⟩ := qabz (y := (Iv.pt d).scl (-((d.top + 16).toNat : Nat))) 20 1 (nI 1 1) (nI 1 1) w1 w1
   exact qaho _ _ (by unfold rExpS; exact add_W) (by unfold rExpS; exact q4r ws (qom mul_W (qy5 div_W w2)))
theorem qafp {d : Dy} : (rSinh d).Gd := qaht add_W
theorem qafs {d : Dy} : (rCosh d).Gd := qaht add_W
theorem qai8 {d : Dy} : (rLog d).Gd := by rw [q0b]; exact q4r q68 mul_W
theorem qafr : rLog2.Gd := by
 unfold rLog2
 rw [q0e]
 have w0 : (nI 0 0).W := nI_Wk (by decide)
 have w2 : (nI 2 2).W := nI_Wk (by decide)
 exact qy5 w2 add_W
theorem qabv {d : Dy} : (rSinh d).W := qfe
theorem qab0 {d : Dy} : (rCosh d).W := qfe
theorem qahv {d : Dy} : (rLog d).W := by rw [q0b]; exact add_W
theorem qahe {x : Iv} (g : x.Gd) : x.valid = true := by
 rcases g with rfl | h
 · rfl
 · exact (qav h).1
theorem q5h {x y : Iv} (wx : x.W) (wy : y.W) (kx : x.known = true) (ky : y.known = true) (h : x.lo.val ≤ y.hi.val ∧ y.lo.val ≤ x.hi.val) : meetB x y = true := by
 obtain ⟨a1, a2⟩ := qai wx kx
 obtain ⟨b1, b2⟩ := qai wy ky
 obtain ⟨v1, l1⟩ := qav kx
 obtain ⟨v2, l2⟩ := qav ky
 have le1 := qak wx kx
 have le2 := qak wy ky
 have c : ¬ 0 < (x.lo.hi2 y.lo).cmp (x.hi.lo2 y.hi) := by
   rw [qet (qvh a1 b1) (q3m a2 b2), qad5, qha a1 b1, qkp a2 b2]
   omega
 unfold meetB Iv.meet
 rw [v1, v2, l1, l2]
 simp [c]
theorem qvb {x y : Iv} (vx : x.valid = true) (vy : y.valid = true) (h : x.all = true ∨ y.all = true) : meetB x y = true := by
 unfold meetB Iv.meet
 rw [vx, vy]
 rcases h with h | h
 · simp [h]
 · cases ha : x.all <;> simp [h]
theorem q7n {x y : Iv} (wx : x.W) (wy : y.W) (gx : x.Gd) (gy : y.Gd) (h : x.known = true → y.known = true → x.lo.val ≤ y.hi.val ∧ y.lo.val ≤ x.hi.val) : meetB x y = true := by
 rcases gx with rfl | kx
 · exact qvb rfl (qahe gy) (.inl rfl)
 · rcases gy with rfl | ky
   · exact qvb (qav kx).1 rfl (.inr rfl)
   · exact q5h wx wy kx ky (h kx ky)
theorem ql8 {x y : Iv} {s : Nat → Rat} (wx : x.W) (wy : y.W) (gx : x.Gd) (gy : y.Gd) (hx : x.Has s) (hy : y.Has s) : meetB x y = true :=
 q7n wx wy gx gy fun kx ky => qahd kx ky hx hy
theorem qvc {x y : Iv} {d : Rat} (wx : x.W) (wy : y.W) (gx : x.Gd) (gy : y.Gd) (hx : x.HasLog d) (hy : y.HasLog d) : meetB x y = true :=
 q7n wx wy gx gy fun kx ky => HasLog.meet kx ky hx hy
theorem q28 (d : Dy) : CQ prog qwb [d.v] (Iv.pt d).v := by
 refine qag rfl fun H => ?_
 simp
 refine qaa rfl rfl rfl (qr6 d) ?_
 simp [lim]
theorem qy0 (x : Iv) (wx : x.W) : CQ prog qsp [x.v] (dys [x.lo, x.hi, x.mid 64]) := by
 refine qag rfl fun H => ?_
 simp
 refine qaa rfl rfl rfl (qag9 x 64 wx) ?_
 simp [dys, fin]
def qiz (x : Iv) (p : Int) : Bool := decide (20 < x.lo.m.length) || decide (20 < x.hi.m.length) || (decide (64 < p) && decide (p ≤ 512))
theorem q3s (x : Iv) (p : Int) : CQ prog qwc [x.v, .int .i64 p] (.bool (qiz x p)) := by
 refine qag rfl fun H => ?_
 by_cases h1 : 20 < x.lo.m.length
 · have h1' : (20 : Int) < x.lo.m.length := by omega
   have hg : qiz x p = true := by simp [qiz, h1]
   simp [lim, h1', hg]
 · have h1' : ¬ (20 : Int) < x.lo.m.length := by omega
   by_cases h2 : 20 < x.hi.m.length
   · have h2' : (20 : Int) < x.hi.m.length := by omega
     have hg : qiz x p = true := by simp [qiz, h2]
     simp [lim, h1', h2', hg]
   · have h2' : ¬ (20 : Int) < x.hi.m.length := by omega
     by_cases h3 : 64 < p
     · have hg : qiz x p = decide (p ≤ 512) := by simp only [qiz, decide_eq_false h1, decide_eq_false h2, decide_eq_true h3]; rfl
       simp [lim, h1', h2', h3, hg]
     · have hg : qiz x p = false := by simp only [qiz, decide_eq_false h1, decide_eq_false h2, decide_eq_false h3]; rfl
       simp [lim, h1', h2', h3, hg]
def qg2 (x : Iv) (p : Int) : Bool := decide (8 ≤ p) && decide (p ≤ 64) && decide (x.lo.m.length ≤ 20) && decide (x.hi.m.length ≤ 20) && withB x (-64) 64
theorem q2e {x : Iv} (l : x.Lm) (h1 : x.lo.m.length ≤ 20) (h2 : x.hi.m.length ≤ 20) : x.W := ⟨⟨l.1, by omega⟩, ⟨l.2, by omega⟩⟩
theorem qlw (x : Iv) (p : Int) (l : x.Lm) : CQ prog qwa [x.v, .int .i64 p] (.bool (qg2 x p)) := by
 refine qag rfl fun H => ?_
 by_cases h1 : 8 ≤ p
 · by_cases h2 : p ≤ 64
   · by_cases h3 : x.lo.m.length ≤ 20
     · have h3' : (x.lo.m.length : Int) ≤ 20 := by omega
       by_cases h4 : x.hi.m.length ≤ 20
       · have h4' : (x.hi.m.length : Int) ≤ 20 := by omega
         have c := q9d x (-64) 64 (q2e l h3 h4) (by decide) (by decide)
         have hs : qg2 x p = withB x (-64) 64 := by simp only [qg2, decide_eq_true h1, decide_eq_true h2, decide_eq_true h3, decide_eq_true h4]; rfl
         simp [h1, h2, lim, h3', h4']
         refine qaa rfl rfl rfl c ?_
         simp [hs]
       · have h4' : ¬ (x.hi.m.length : Int) ≤ 20 := by omega
         have hs : qg2 x p = false := by simp only [qg2, decide_eq_true h1, decide_eq_true h2, decide_eq_true h3, decide_eq_false h4]; rfl
         simp [h1, h2, lim, h3', h4', hs]
     · have h3' : ¬ (x.lo.m.length : Int) ≤ 20 := by omega
       have hs : qg2 x p = false := by simp only [qg2, decide_eq_true h1, decide_eq_true h2, decide_eq_false h3]; rfl
       simp [h1, h2, lim, h3', hs]
   · simp [h1, h2, qg2]
 · simp [h1, qg2]
theorem qe8 {x : Iv} {p : Int} (l : x.Lm) (h : qg2 x p = true) : x.W ∧ x.known = true ∧ precB p = true ∧ modB x.lo = true ∧ modB x.hi = true ∧ -(64 * pw 16384) ≤ x.lo.val ∧ x.hi.val ≤ 64 * pw 16384 := by
 simp only [qg2, withB, Bool.and_eq_true, decide_eq_true_eq] at h
 obtain ⟨⟨⟨⟨h1, h2⟩, h3⟩, h4⟩, ⟨⟨k, c1⟩, c2⟩⟩ := h
 have w := q2e l h3 h4
 obtain ⟨o1, o2⟩ := qai w k
 have le0 := qak w k
 have p0 := qax 16384
 rw [qet o1 (nD_ok (by omega)), qsv, qf6] at c1
 rw [qet o2 (nD_ok (by omega)), qek, qf6] at c2
 refine ⟨w, k, precB_iff.2 (by omega), ?_, ?_, by omega, by omega⟩
 · rw [qfm o1]; omega
 · rw [qfm o2]; omega
theorem qab7 {a : Int} {n : Nat} (h : (n : Int) = 16384 + a) (_h1 : -16384 ≤ a) (h2 : a ≤ 16000) : ((nD 1).scl a).val = pw n := by
 have on : (nD 1).Ok := nD_ok (k := 1) (by omega)
 have cap := qyr (m := n) (by unfold capE; omega)
 have p0 := qax n
 refine (qt9 (d := nD 1) (k := a) (V := pw n) (a := a.toNat) (b := (-a).toNat) on (by omega) (by omega) (by omega) ?_ (by omega)).2
 rw [qf6, Int.one_mul, ← qa5, ← qa5]
 congr 1; omega
theorem qaan {d : Dy} (ok : d.Ok) (hm : d.m ≠ []) {n : Nat} (h : d.val.natAbs ≤ 2 ^ n) : d.top + 16383 ≤ n := by
 obtain ⟨b1, _⟩ := ok.absN_bounds hm
 have ht := ok.top_pos hm
 rw [ql5] at h
 have h2 : pw (d.top + 16383).toNat ≤ pw n := by unfold pw; exact Int.ofNat_le.2 (by omega)
 rcases Nat.lt_or_ge n (d.top + 16383).toNat with h3 | h3
 · have := pw_lt_iff.2 h3; omega
 · omega
theorem qop {x : Iv} {a b : Int} (w : x.W) (h : powB x a b = true) (a1 : -16384 ≤ a) (a2 : a ≤ 16000) (b1 : -16384 ≤ b) (b2 : b ≤ 16000) :
   x.known = true ∧ 0 < x.lo.sgn ∧ x.lo.top ≤ 16383 ∧ x.hi.top ≤ 16383 ∧ pw (16384 + a).toNat ≤ x.lo.val ∧ x.hi.val ≤ pw (16384 + b).toNat := by
 simp only [powB, Bool.and_eq_true, decide_eq_true_eq] at h
 obtain ⟨⟨k, c1⟩, c2⟩ := h
 obtain ⟨o1, o2⟩ := qai w k
 have le0 := qak w k
 rw [qet o1 qp6, qsv, qab7 (n := (16384 + a).toNat) (by omega) a1 a2] at c1
 rw [qet o2 qp6, qek, qab7 (n := (16384 + b).toNat) (by omega) b1 b2] at c2
 have p1 := qax (16384 + a).toNat
 have s1 : 0 < x.lo.sgn := (qdr o1).1.2 (by omega)
 have s2 : 0 < x.hi.sgn := (qdr o2).1.2 (by omega)
 have e : ∀ n, pw n = ((2 ^ n : Nat) : Int) := fun _ => rfl
 have t1 := qaan o1 (qit o1 s1).1 (n := (16384 + b).toNat) (by have := e (16384 + b).toNat; omega)
 have t2 := qaan o2 (qit o2 s2).1 (n := (16384 + b).toNat) (by have := e (16384 + b).toNat; omega)
 exact ⟨k, s1, by omega, by omega, c1, c2⟩
theorem q5g {x : Iv} {p : Int} (w : x.W) (k : x.known = true) (hp : precB p = true) : (x.mid p).Ok ∧ x.lo.val ≤ (x.mid p).val ∧ (x.mid p).val ≤ x.hi.val := by
 obtain ⟨o1, o2⟩ := qai w k
 have le0 := qak w k
 have hm : x.mid p = if (rAdd x.lo x.hi p false).2 = 0 ∧ (rAdd x.lo x.hi p false).1.sclE (-1) = 0 ∧ x.has ((rAdd x.lo x.hi p false).1.scl (-1)) = true then (rAdd x.lo x.hi p false).1.scl (-1) else x.lo := by simp [Iv.mid, k, hp]
 rw [hm]
 split
 · rename_i h
   have hh := h.2.2
   have ok : ((rAdd x.lo x.hi p false).1.scl (-1)).Ok := qp6
   simp only [Iv.has, Bool.and_eq_true, Bool.or_eq_true, decide_eq_true_eq] at hh
   rcases hh.2 with h2 | h2
   · rw [(qav k).2] at h2; cases h2
   · rw [qet o1 ok, qek, qet ok o2, qek] at h2
     exact ⟨ok, h2.1, h2.2⟩
 · exact ⟨o1, Int.le_refl _, le0⟩
theorem qos {x : Iv} (w : x.W) (k : x.known = true) : ∀ d ∈ [x.lo, x.hi, x.mid 64], d.Ok ∧ x.lo.val ≤ d.val ∧ d.val ≤ x.hi.val := by
 obtain ⟨o1, o2⟩ := qai w k
 have le0 := qak w k
 have m := q5g (p := 64) w k (by decide)
 intro d hd
 simp only [List.mem_cons, List.not_mem_nil, or_false] at hd
 rcases hd with rfl | rfl | rfl
 · exact ⟨o1, Int.le_refl _, le0⟩
 · exact ⟨o2, le0, Int.le_refl _⟩
 · exact m
def nar (x : Iv) (p : Int) (b : Dy) : Bool := (x.hi.sum x.lo.neg').valid && decide ((x.hi.sum x.lo.neg').cmp (b.scl (8 - p)) ≤ 0)
theorem qahz {x : Iv} {p : Int} {b : Dy} (wx : x.W) (hk : x.known = true) (wb : b.W) (hp : -1000000 ≤ p) (hp2 : p ≤ 1000000) (h0 : b.sclE (8 - p) = 0) (h : nar x p b = true) : CQ prog qof [x.v, .int .i64 p, b.v] (.bool true) := by
 obtain ⟨o1, o2⟩ := qai wx hk
 simp only [nar, Bool.and_eq_true] at h
 have ow : (x.hi.sum x.lo.neg').Ok := Dy.Ok.of (sumW o2 (qb8 o1)).li h.1
 have := q9e x p b wx hk ow wb hp hp2 h0
 rwa [h.2] at this
set_option maxRecDepth 100000 in
theorem qagi : nar ((nI 1 1).exp 24) 22 (nD 1) = true := by decide +kernel
theorem q7k : modB (nD 1) = true := by
 have ok : (nD 1).Ok := nD_ok (k := 1) (by omega)
 rw [qfm ok, qf6]
 have p0 := qax 16384
 omega
theorem qyy (p : Int) (h1 : 8 ≤ p) (h2 : p ≤ 1000) : (nD 1).sclE (8 - p) = 0 := by
 have on : (nD 1).Ok := nD_ok (k := 1) (by omega)
 obtain ⟨n, hn⟩ : ∃ n : Nat, n = (p - 8).toNat := ⟨_, rfl⟩
 have cap := qyr (m := 16384 - n) (by unfold capE; omega)
 have p0 := qax (16384 - n)
 refine (qt9 (d := nD 1) (k := 8 - p) (V := pw (16384 - n)) (a := 0) (b := n) on (by omega) (by omega) (by omega) ?_ (by omega)).1
 rw [qf6, Int.one_mul, ← qa5, show ((pw 0 : Int)) = 1 from rfl, Int.mul_one]
 congr 1; omega
theorem qg8 : CQ prog qwd [] (.bool true) := by
 refine qag rfl fun H => ?_
 have c1 := qds 1 (by omega) (by omega)
 have ci := qpl 1 (by omega) (by omega)
 rw [← show nD 1 = Dy.of (decide ((1 : Int) < 0)) (1 : Int).natAbs 0 from rfl] at ci
 have on : (nD 1).Ok := nD_ok (k := 1) (by omega)
 have w1 : (nI 1 1).W := nI_Wk (by decide)
 have k1 : (nI 1 1).known = true := qms (by decide)
 have ce := qmj (nI 1 1) 24 w1
 obtain ⟨ke, he⟩ := qhc (p := 24) w1 k1 (by decide) q7k q7k (q := (nD 1).rat) Rat.le_refl Rat.le_refl
 have we : ((nI 1 1).exp 24).W := exp_W w1
 have cn := qahz (p := 22) we ke on.w (by omega) (by omega) (qyy 22 (by omega) (by omega)) qagi
 have cr := qsd (nD 1) on
 have mt := ql8 we qoe (.inr ke) qabx he (qpr on)
 have cm := qlz ((nI 1 1).exp 24) (rExp (nD 1)) we qoe
 rw [mt] at cm
 have wx : (Iv.mk ⟨false, [], 0⟩ (nD 1) false).W := ⟨Dy.zero_W, on.w⟩
 have cl := qoh (Iv.mk ⟨false, [], 0⟩ (nD 1) false) 24 wx
 have el : (Iv.mk ⟨false, [], 0⟩ (nD 1) false).log 24 = Iv.whole := by
   unfold Iv.log
   rw [if_neg]
   simp [Dy.sgn]
 rw [el] at cl
 generalize nI 1 1 = U at *
 generalize U.exp 24 = X at *
 generalize nD 1 = D at *
 simp
 refine qaa rfl rfl rfl c1 ?_
 simp
 refine qaa rfl rfl rfl ce ?_
 simp
 refine qaa rfl rfl rfl ci ?_
 simp
 refine qaa rfl rfl rfl cn ?_
 simp
 refine qaa rfl rfl rfl ci ?_
 simp
 refine qaa rfl rfl rfl cr ?_
 simp
 refine qaa rfl rfl rfl cm ?_
 simp
 refine qaa rfl rfl rfl ci ?_
 simp
 refine qaa rfl rfl rfl cl ?_
 simp [Iv.whole]
end Go.Abs.W
