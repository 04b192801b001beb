/- Parts of the proof: FpTa, FpTb, FpTc, FpTd, FpTe, FpTf. -/
import Derived.Test.YtnkijamajifgpaaGreatDoorXa
import Derived.Test.YtnkijamajifgpaaGreatDoorFf
namespace Go.Abs.W
def i4 : Nat → Rat × Rat
 | 0 => (1, 0)
 | n + 1 => (-(i4 n).2, (i4 n).1)
def c4 (n : Nat) : Rat := (i4 n).1
def s4 (n : Nat) : Rat := (i4 n).2
theorem qs8 : c4 0 = 1 := rfl
theorem qm6 : s4 0 = 0 := rfl
theorem qfi (n : Nat) : c4 (n + 1) = - s4 n := rfl
theorem qd4 (n : Nat) : s4 (n + 1) = c4 n := rfl
theorem qaha (p q : Nat) : c4 (p + q) = c4 p * c4 q - s4 p * s4 q ∧ s4 (p + q) = s4 p * c4 q + c4 p * s4 q := by
 induction q with
 | zero => rw [Nat.add_zero, qs8, qm6]; constructor <;> grind
 | succ q ih =>
   obtain ⟨h1, h2⟩ := ih
   rw [← Nat.add_assoc, qfi, qd4, qfi, qd4, h1, h2]
   constructor <;> grind
theorem c4_Bd (n : Nat) : Bd (c4 n) 1 ∧ Bd (s4 n) 1 := by
 induction n with
 | zero => rw [qs8, qm6]; refine ⟨⟨by grind, by grind⟩, by grind, by grind⟩
 | succ n ih =>
   obtain ⟨⟨a, b⟩, c, d⟩ := ih
   rw [qfi, qd4]
   exact ⟨⟨by grind, by grind⟩, a, b⟩
def ct (x : Rat) (k : Nat) : Rat := c4 k * tm x k
def st (x : Rat) (k : Nat) : Rat := s4 k * tm x k
def cs (x : Rat) (n : Nat) : Rat := ps (ct x) n
def ss (x : Rat) (n : Nat) : Rat := ps (st x) n
theorem qag2 (b : Nat → Rat) (k : Nat) : ∀ (p : Nat) (a : Nat → Rat),
   cv (fun i => c4 (p + i) * a i) (fun j => c4 j * b j) k - cv (fun i => s4 (p + i) * a i) (fun j => s4 j * b j) k = c4 (p + k) * cv a b k ∧
   cv (fun i => s4 (p + i) * a i) (fun j => c4 j * b j) k + cv (fun i => c4 (p + i) * a i) (fun j => s4 j * b j) k = s4 (p + k) * cv a b k := by
 induction k with
 | zero =>
   intro p a
   simp only [cv, Nat.add_zero, qs8, qm6]
   constructor <;> grind
 | succ k ih =>
   intro p a
   obtain ⟨h1, h2⟩ := ih (p + 1) (fun i => a (i + 1))
   obtain ⟨h3, h4⟩ := qaha p (k + 1)
   have e1 : (fun i => c4 (p + (i + 1)) * a (i + 1)) = fun i => c4 (p + 1 + i) * a (i + 1) := by
     funext i; rw [show p + (i + 1) = p + 1 + i by omega]
   have e2 : (fun i => s4 (p + (i + 1)) * a (i + 1)) = fun i => s4 (p + 1 + i) * a (i + 1) := by
     funext i; rw [show p + (i + 1) = p + 1 + i by omega]
   simp only [cv]
   rw [e1, e2]
   rw [show p + 1 + k = p + (k + 1) by omega] at h1 h2
   rw [Nat.add_zero]
   generalize c4 (p + (k + 1)) = C at *
   generalize s4 (p + (k + 1)) = S at *
   subst h3 h4
   constructor <;> grind
theorem cv_ct (x y : Rat) (k : Nat) : cv (ct x) (ct y) k - cv (st x) (st y) k = ct (x + y) k ∧ cv (st x) (ct y) k + cv (ct x) (st y) k = st (x + y) k := by
 have h := qag2 (tm y) k 0 (tm x)
 simp only [Nat.zero_add] at h
 rw [cv_tm] at h
 exact h
theorem qaf8 (f g : Nat → Rat) (m : Nat) : ps (fun k => f k - g k) m = ps f m - ps g m := by
 induction m with
 | zero => rfl
 | succ m ih => simp only [ps]; rw [ih]; grind
theorem qaf9 (f g : Nat → Rat) (m : Nat) : ps (fun k => f k + g k) m = ps f m + ps g m := by
 induction m with
 | zero => rfl
 | succ m ih => simp only [ps]; rw [ih]; grind
theorem qaeh (x y : Rat) (m : Nat) : cs x m * cs y m - ss x m * ss y m - cs (x + y) m = cv (ct x) (fun j => cs y m - cs y j) m - cv (st x) (fun j => ss y m - ss y j) m := by
 have h : cs (x + y) m = cv (ct x) (fun j => cs y j) m - cv (st x) (fun j => ss y j) m := by
   have h1 := ps_cv (ct x) (ct y) m
   have h2 := ps_cv (st x) (st y) m
   have h3 := qaf8 (cv (ct x) (ct y)) (cv (st x) (st y)) m
   rw [show (fun k => cv (ct x) (ct y) k - cv (st x) (st y) k) = ct (x + y) from funext fun k => (cv_ct x y k).1, h1, h2] at h3
   exact h3
 rw [qzf, qzf, h]
 show _ = ps (ct x) m * cs y m - cv (ct x) (fun j => cs y j) m - (ps (st x) m * ss y m - cv (st x) (fun j => ss y j) m)
 show cs x m * cs y m - ss x m * ss y m - _ = cs x m * cs y m - cv (ct x) (fun j => cs y j) m - (ss x m * ss y m - cv (st x) (fun j => ss y j) m)
 grind
theorem qadb (x y : Rat) (m : Nat) : ss x m * cs y m + cs x m * ss y m - ss (x + y) m = cv (st x) (fun j => cs y m - cs y j) m + cv (ct x) (fun j => ss y m - ss y j) m := by
 have h : ss (x + y) m = cv (st x) (fun j => cs y j) m + cv (ct x) (fun j => ss y j) m := by
   have h1 := ps_cv (st x) (ct y) m
   have h2 := ps_cv (ct x) (st y) m
   have h3 := qaf9 (cv (st x) (ct y)) (cv (ct x) (st y)) m
   rw [show (fun k => cv (st x) (ct y) k + cv (ct x) (st y) k) = st (x + y) from funext fun k => (cv_ct x y k).2, h1, h2] at h3
   exact h3
 rw [qzf, qzf, h]
 show ss x m * cs y m + cs x m * ss y m - _ = ss x m * cs y m - cv (st x) (fun j => cs y j) m + (cs x m * ss y m - cv (ct x) (fun j => ss y j) m)
 grind
theorem ct_Bd {x a : Rat} (h : Bd x a) (n : Nat) : Bd (ct x n) (tm a n) ∧ Bd (st x n) (tm a n) := by
 obtain ⟨b, c⟩ := c4_Bd n
 have t := tm_Bd h n
 have h1 := b.mul t
 have h2 := c.mul t
 rw [Rat.one_mul] at h1 h2
 exact ⟨h1, h2⟩
def ae (a b : Rat) (m : Nat) : Rat := 2 * (es a m * es b m - es (a + b) m)
theorem qzl {x y a b : Rat} (hx : Bd x a) (hy : Bd y b) (m : Nat) : Bd (cs x m * cs y m - ss x m * ss y m - cs (x + y) m) (ae a b m) ∧ Bd (ss x m * cs y m + cs x m * ss y m - ss (x + y) m) (ae a b m) := by
 rw [qaeh, qadb]
 have e : ae a b m = cv (tm a) (fun j => es b m - es b j) m + cv (tm a) (fun j => es b m - es b j) m := by
   unfold ae; rw [q06]; grind
 rw [e]
 have h1 := cv_Bd (m := m) (fun i => (ct_Bd hx i).1) (d := fun j => cs y m - cs y j) (D := fun j => es b m - es b j) fun j hj => ps_Bd (fun i => (ct_Bd hy i).1) hj
 have h2 := cv_Bd (m := m) (fun i => (ct_Bd hx i).2) (d := fun j => ss y m - ss y j) (D := fun j => es b m - es b j) fun j hj => ps_Bd (fun i => (ct_Bd hy i).2) hj
 have h3 := cv_Bd (m := m) (fun i => (ct_Bd hx i).2) (d := fun j => cs y m - cs y j) (D := fun j => es b m - es b j) fun j hj => ps_Bd (fun i => (ct_Bd hy i).1) hj
 have h4 := cv_Bd (m := m) (fun i => (ct_Bd hx i).1) (d := fun j => ss y m - ss y j) (D := fun j => es b m - es b j) fun j hj => ps_Bd (fun i => (ct_Bd hy i).2) hj
 refine ⟨?_, h3.add h4⟩
 obtain ⟨a1, a2⟩ := h1
 obtain ⟨b1, b2⟩ := h2
 constructor <;> grind
theorem q8j {a b : Rat} (ha : 0 ≤ a) (hb : 0 ≤ b) : Null (ae a b) := by
 intro ε he
 obtain ⟨N, hN⟩ := q05 (c := a + b) (by grind) (ε := ε / 2) (qej he)
 refine ⟨N, fun n hn => ?_⟩
 have h1 := qy7 ha hb n
 have h2 := hN n (n + n) hn (by omega)
 have h3 := (qu1 (x := a) (y := b) (a := a) (b := b) ⟨by grind, by grind⟩ ⟨by grind, by grind⟩ n).nn
 unfold ae
 constructor <;> grind
theorem qvg (x : Rat) (n : Nat) : ct (-x) n = ct x n ∧ st (-x) n = - st x n := by
 have key : ∀ n, (tm (-x) n = tm x n ∧ s4 n = 0) ∨ (tm (-x) n = - tm x n ∧ c4 n = 0) := by
   intro n
   induction n with
   | zero => left; exact ⟨rfl, rfl⟩
   | succ n ih =>
     simp only [tm, qfi, qd4]
     rw [Rat.div_def, Rat.div_def]
     rcases ih with ⟨h, k⟩ | ⟨h, k⟩ <;> rw [h]
     · right; constructor <;> grind
     · left; constructor <;> grind
 unfold ct st
 rcases key n with ⟨h, k⟩ | ⟨h, k⟩ <;> rw [h, k] <;> constructor <;> grind
theorem qag4 (x : Rat) (n : Nat) : cs (-x) n = cs x n := by
 unfold cs
 rw [show ct (-x) = ct x from funext fun k => (qvg x k).1]
theorem qabq (x : Rat) (n : Nat) : ss (-x) n = - ss x n := by
 unfold ss
 induction n with
 | zero => exact (qvg x 0).2
 | succ n ih => simp only [ps]; rw [ih, (qvg x (n + 1)).2]; grind
theorem cs_Bd {x a : Rat} (h : Bd x a) (n : Nat) : Bd (cs x n) (es a n) ∧ Bd (ss x n) (es a n) := by
 unfold cs ss es
 induction n with
 | zero => exact ct_Bd h 0
 | succ n ih => exact ⟨ih.1.add (ct_Bd h _).1, ih.2.add (ct_Bd h _).2⟩
theorem qaft (h : Rat) : tm h 1 = h := by
 show 1 * h / ((0 + 1 : Nat) : Rat) = _
 have a : ((0 + 1 : Nat) : Rat) = 1 := rfl
 rw [a]; grind
end Go.Abs.W
namespace Go.Abs.W
def Co (u : Nat → Rat) : Nat → Rat := fun n => cs (u n) n
def Si (u : Nat → Rat) : Nat → Rat := fun n => ss (u n) n
theorem Null.of_Bd {s t : Nat → Rat} (ht : Null t) (N : Nat) (h : ∀ n, N ≤ n → Bd (s n) (t n)) : Null s := by
 intro ε he
 obtain ⟨M, hM⟩ := ht ε he
 refine ⟨max N M, fun n hn => ?_⟩
 obtain ⟨a, b⟩ := h n (by omega)
 obtain ⟨c, d⟩ := hM n (by omega)
 constructor <;> grind
theorem Bnd.pos {u : Nat → Rat} (h : Bnd u) : ∃ B : Rat, 0 ≤ B ∧ ∃ N, ∀ n, N ≤ n → Bd (u n) B := by
 obtain ⟨B, N, h⟩ := h
 exact ⟨B, (h N (Nat.le_refl _)).nn, N, h⟩
theorem qahu {u v : Nat → Rat} (bu : Bnd u) (bv : Bnd v) : Near (fun n => Co u n * Co v n - Si u n * Si v n) (Co fun n => u n + v n) := by
 obtain ⟨A, a0, N, hu⟩ := bu.pos
 obtain ⟨B, b0, M, hv⟩ := bv.pos
 exact (q8j a0 b0).of_Bd (max N M) fun n hn => (qzl (hu n (by omega)) (hv n (by omega)) n).1
theorem qacq {u v : Nat → Rat} (bu : Bnd u) (bv : Bnd v) : Near (fun n => Si u n * Co v n + Co u n * Si v n) (Si fun n => u n + v n) := by
 obtain ⟨A, a0, N, hu⟩ := bu.pos
 obtain ⟨B, b0, M, hv⟩ := bv.pos
 exact (q8j a0 b0).of_Bd (max N M) fun n hn => (qzl (hu n (by omega)) (hv n (by omega)) n).2
theorem qacs (u : Nat → Rat) : (Co fun n => -u n) = Co u := funext fun n => qag4 (u n) n
theorem qaco (u : Nat → Rat) : (Si fun n => -u n) = fun n => - Si u n := funext fun n => qabq (u n) n
theorem qact {u : Nat → Rat} (bu : Bnd u) : Bnd (Co u) ∧ Bnd (Si u) := by
 obtain ⟨A, a0, N, hu⟩ := bu.pos
 obtain ⟨E, M, hE⟩ := q22 A
 refine ⟨⟨E, max N M, fun n hn => ?_⟩, E, max N M, fun n hn => ?_⟩
 · obtain ⟨c, d⟩ := (cs_Bd (hu n (by omega)) n).1
   obtain ⟨e, f⟩ := hE n (by omega)
   exact ⟨by show _ ≤ cs (u n) n; grind, by show cs (u n) n ≤ _; grind⟩
 · obtain ⟨c, d⟩ := (cs_Bd (hu n (by omega)) n).2
   obtain ⟨e, f⟩ := hE n (by omega)
   exact ⟨by show _ ≤ ss (u n) n; grind, by show ss (u n) n ≤ _; grind⟩
theorem qvd {u : Nat → Rat} (bu : Bnd u) : Bnd (Co u) := (qact bu).1
theorem qacp {u : Nat → Rat} (bu : Bnd u) : Bnd (Si u) := (qact bu).2
theorem Near.of_eq {s t : Nat → Rat} (h : ∀ n, s n = t n) : Near s t := Null.zero.congr fun n => by rw [h]; grind
def LBd (s t : Nat → Rat) : Prop := ∀ ε : Rat, 0 < ε → ∃ N, ∀ n, N ≤ n → Bd (s n) (t n + ε)
theorem LBd.sle {s t : Nat → Rat} (h : LBd s t) : SLe s t := fun ε he => by
 obtain ⟨N, hN⟩ := h ε he
 exact ⟨N, fun n hn => (hN n hn).2⟩
theorem LBd.of_Bd {s t : Nat → Rat} (N : Nat) (h : ∀ n, N ≤ n → Bd (s n) (t n)) : LBd s t := fun ε he => ⟨N, fun n hn => by
 obtain ⟨a, b⟩ := h n hn
 constructor <;> grind⟩
theorem LBd.add {s t u v : Nat → Rat} (h : LBd s t) (k : LBd u v) : LBd (fun n => s n + u n) (fun n => t n + v n) := fun ε he => by
 obtain ⟨N, hN⟩ := h (ε / 2) (qej he)
 obtain ⟨M, hM⟩ := k (ε / 2) (qej he)
 refine ⟨max N M, fun n hn => ?_⟩
 obtain ⟨a, b⟩ := hN n (by omega)
 obtain ⟨c, d⟩ := hM n (by omega)
 constructor <;> grind
theorem LBd.near {s s' t : Nat → Rat} (h : LBd s t) (k : Near s s') : LBd s' t := fun ε he => by
 obtain ⟨N, hN⟩ := h (ε / 2) (qej he)
 obtain ⟨M, hM⟩ := k (ε / 2) (qej he)
 refine ⟨max N M, fun n hn => ?_⟩
 obtain ⟨a, b⟩ := hN n (by omega)
 obtain ⟨c, d⟩ := hM n (by omega)
 constructor <;> grind
theorem LBd.mono {s t u : Nat → Rat} (h : LBd s t) (N : Nat) (k : ∀ n, N ≤ n → t n ≤ u n) : LBd s u := fun ε he => by
 obtain ⟨M, hM⟩ := h ε he
 refine ⟨max N M, fun n hn => ?_⟩
 obtain ⟨a, b⟩ := hM n (by omega)
 have := k n (by omega)
 constructor <;> grind
theorem LBd.neg {s t : Nat → Rat} (h : LBd s t) : LBd (fun n => - s n) t := fun ε he => by
 obtain ⟨N, hN⟩ := h ε he
 refine ⟨N, fun n hn => ?_⟩
 obtain ⟨a, b⟩ := hN n hn
 constructor <;> grind
end Go.Abs.W
namespace Go.Abs.W
def sg : Nat → Rat
 | 0 => 1
 | n + 1 => - sg n
theorem q1w (n : Nat) : sg n = 1 ∨ sg n = -1 := by
 induction n with
 | zero => exact .inl rfl
 | succ n ih => simp only [sg]; rcases ih with h | h <;> rw [h] <;> grind
theorem sg_Bd {x a : Rat} (h : Bd x a) (n : Nat) : Bd (sg n * x) a := by
 obtain ⟨u, v⟩ := h
 rcases q1w n with e | e <;> rw [e] <;> constructor <;> grind
def lta (z : Rat) (k : Nat) : Rat := sg k * lt z k
def at' (z : Rat) (n : Nat) : Rat := ps (lta z) n
theorem qahd (z : Rat) (n : Nat) : at' (-z) n = - at' z n := by
 unfold at'
 induction n with
 | zero => show sg 0 * lt (-z) 0 = -(sg 0 * lt z 0); rw [qab4]; grind
 | succ n ih => simp only [ps]; rw [ih]; unfold lta; rw [qab4]; grind
theorem qy6 {z : Rat} (h0 : 0 ≤ z) (h1 : 4 * z ≤ 1) (n : Nat) : 15 * ps (ev z) n ≤ 16 := by
 have e := qagw z n
 have p := ev_nn z (n + 1)
 have q := ps_nn (ev_nn z) n
 have zz : z * z ≤ 1 / 16 := by
   have := qrj (a := z) (b := 1 / 4) (c := z) (d := 1 / 4) (by grind) (by grind) (by grind) h0
   grind
 have := mul_nn (a := 1 / 16 - z * z) (b := ps (ev z) n) (by grind) q
 grind
theorem lt_le {z : Rat} (h0 : 0 ≤ z) (k : Nat) : Bd (lt z k) (z * ev z k) := by
 have o := od_nn h0 k
 have p := qyf (2 * k)
 have i := Rat.inv_pos.2 p
 have i1 := q2l (show (0 : Rat) < 1 by decide) (qc6 (show 1 ≤ 2 * k + 1 by omega))
 have e1 : (1 : Rat)⁻¹ = 1 := by grind
 rw [e1] at i1
 rw [← od_ev]
 unfold lt
 rw [Rat.div_def]
 have a := mul_nn o (Rat.le_of_lt i)
 have b := mul_nn o (show 0 ≤ 1 - ((2 * k + 1 : Nat) : Rat)⁻¹ by grind)
 constructor <;> grind
theorem at_le {z : Rat} (h0 : 0 ≤ z) (h1 : 4 * z ≤ 1) (n : Nat) : Bd (at' z n) (16 / 15 * z) := by
 have key : Bd (at' z n) (z * ps (ev z) n) := by
   unfold at'
   have st : ∀ k, Bd (lta z k) (z * ev z k) := fun k => sg_Bd (lt_le h0 k) k
   induction n with
   | zero => exact st 0
   | succ n ih =>
     obtain ⟨a, b⟩ := ih.add (st (n + 1))
     simp only [ps]
     constructor <;> grind
 have := mul_nn h0 (show 0 ≤ 16 / 15 - ps (ev z) n by have := qy6 h0 h1 n; grind)
 obtain ⟨a, b⟩ := key
 constructor <;> grind
theorem at_bd {z : Rat} (h : Bd z (1 / 4)) (n : Nat) : Bd (at' z n) (1 / 3) := by
 obtain ⟨a, b⟩ := h
 rcases (inferInstance : Decidable (0 ≤ z)) with hz | hz
 · have := at_le (z := -z) (by grind) (by grind) n
   rw [qahd] at this
   obtain ⟨c, d⟩ := this
   constructor <;> grind
 · obtain ⟨c, d⟩ := at_le hz (by grind) n
   constructor <;> grind
def gd (z : Rat) (n m : Nat) : Rat := z * cs (at' z n) m - ss (at' z n) m
end Go.Abs.W
namespace Go.Abs.W
def Dir (u a b : Nat → Rat) : Prop := Near (fun n => a n * Si u n) (fun n => b n * Co u n)
theorem Null.mul_left {s t : Nat → Rat} (hs : Bnd s) (ht : Null t) : Null (fun n => s n * t n) := (ht.mul hs).congr fun n => by grind
theorem Dir.add {u v a b c d : Nat → Rat} (bu : Bnd u) (bv : Bnd v) (ba : Bnd a) (bb : Bnd b) (bc : Bnd c) (bd : Bnd d) (h : Dir u a b) (k : Dir v c d) :
   Dir (fun n => u n + v n) (fun n => a n * c n - b n * d n) (fun n => a n * d n + b n * c n) := by
 have h1 := qahu bu bv
 have h2 := qacq bu bv
 have cu := qvd bu; have su := qacp bu; have cv := qvd bv; have sv := qacp bv
 have x1 := (Near.refl (fun n => a n * c n - b n * d n)).mul h2.symm ((ba.mul bc).sub (bb.mul bd)) (h2.bnd ((su.mul cv).add (cu.mul sv)))
 have x2 := (Near.refl (fun n => a n * d n + b n * c n)).mul h1.symm ((ba.mul bd).add (bb.mul bc)) (h1.bnd ((cu.mul cv).sub (su.mul sv)))
 refine x1.trans (Near.trans ?_ x2.symm)
 have p := Null.mul_left ((bc.mul cv).add (bd.mul sv)) h
 have q := Null.mul_left ((ba.mul cu).add (bb.mul su)) k
 exact (p.add q).congr fun n => by grind
theorem Dir.neg {u a b : Nat → Rat} (h : Dir u a b) : Dir (fun n => -u n) a (fun n => -b n) := by
 unfold Dir at *
 rw [qaco, qacs]
 exact (Null.neg h).congr fun n => by grind
def At (z : Nat → Rat) : Nat → Rat := fun n => at' (z n) n
theorem At_Bd {z : Nat → Rat} {N : Nat} (h : ∀ n, N ≤ n → Bd (z n) (1 / 4)) (n : Nat) (hn : N ≤ n) : Bd (At z n) (1 / 3) := at_bd (h n hn) n
theorem qahw {z : Nat → Rat} {N : Nat} (h : ∀ n, N ≤ n → Bd (z n) (1 / 4)) : Bnd (At z) := ⟨1 / 3, N, fun n hn => At_Bd h n hn⟩
def e8 : Nat → Rat := fun n => 4 * at' (1 / 5) n - at' (1 / 239) n
def hpi : Nat → Rat := fun n => 2 * e8 n
end Go.Abs.W
namespace Go.Abs.W
def p2 (n : Nat) : Rat := ((2 ^ n : Nat) : Rat)
theorem p2_ge (n : Nat) : (n : Rat) + 1 ≤ p2 n := by
 have h : n + 1 ≤ 2 ^ n := Nat.lt_two_pow_self
 have := qc6 h
 rwa [qa6] at this
theorem q6f (n : Nat) : 0 < p2 n := by have := p2_ge n; have := natnn n; grind
def rt (q : Rat) (n : Nat) : Rat := (isq (q * (p2 n * p2 n)).floor.toNat : Rat) / p2 n
def hv (x : Rat) (n : Nat) : Rat := x / (1 + rt (1 + x * x) n)
def hvn : Nat → Rat → Nat → Rat
 | 0, x, _ => x
 | j + 1, x, n => hv (hvn j x n) n
def th0 (x : Rat) (n : Nat) : Rat := 8 * at' (hvn 3 x n) n
theorem qadc {x : Rat} {n : Nat} (hn : 6 ≤ n) (h0 : 0 ≤ x) (h2 : x ≤ 2) : x / 4 ≤ ss x n := by
 obtain ⟨j, rfl⟩ := Nat.exists_eq_add_of_le hn
 have hb : Bd x x := ⟨by grind, by grind⟩
 have r := ps_Bd (fun i => (ct_Bd hb i).2) (show 6 ≤ 6 + j by omega)
 have t := qz3 h0 (n := 6) (by rw [show ((6 : Nat) : Rat) = 6 from rfl]; grind) j
 have t0 := tm_nn h0 (6 + j)
 have u1 := qaft x
 have u2 := qm5 x 1
 have u3 := qm5 x 2
 have u6 := qm5 x 5
 rw [show ((1 + 1 : Nat) : Rat) = 2 from rfl] at u2
 rw [show ((2 + 1 : Nat) : Rat) = 3 from rfl] at u3
 rw [show ((5 + 1 : Nat) : Rat) = 6 from rfl] at u6
 have t5 := tm_nn h0 5
 have e6 : ps (st x) 6 = x - tm x 3 + tm x 5 := by
   have s1 : s4 1 = 1 := rfl
   have s2 : s4 2 = 0 := by rw [qd4, qfi, qm6]; grind
   have s3 : s4 3 = -1 := by rw [qd4, qfi, qd4, qs8]
   have s4' : s4 4 = 0 := by rw [qd4, qfi, qd4, qfi, qm6]; grind
   have s5 : s4 5 = 1 := by rw [qd4, qfi, qd4, qfi, qd4, qs8]; grind
   have s6 : s4 6 = 0 := by rw [qd4, qfi, qd4, qfi, qd4, qfi, qm6]; grind
   simp only [ps, st]
   rw [qm6, s1, s2, s3, s4', s5, s6, u1]; grind
 have e7 : ∀ z m, es z m = ps (tm z) m := fun _ _ => rfl
 rw [e7, e7] at t
 rw [e6] at r
 show x / 4 ≤ ps (st x) (6 + j)
 have m1 := mul_nn h0 (show 0 ≤ 4 - x * x by
   have := qrj (a := x) (b := 2) (c := x) (d := 2) h2 h2 (by decide) h0
   grind)
 have m2 := mul_nn (show 0 ≤ 2 - x by grind) t5
 obtain ⟨r1, r2⟩ := r
 have a2 : 2 * tm x 2 = x * x := by rw [u2, u1]
 have a3 : 3 * tm x 3 = x * tm x 2 := u3
 have a6 : 6 * tm x 6 = x * tm x 5 := u6
 clear u1 u2 u3 u6 e6 e7 hb hn
 generalize tm x 2 = T2 at *
 generalize tm x 3 = T3 at *
 generalize tm x 5 = T5 at *
 generalize tm x 6 = T6 at *
 generalize tm x (6 + j) = Tj at *
 generalize ps (tm x) (6 + j) = P at *
 generalize ps (tm x) 6 = P6 at *
 generalize ps (st x) (6 + j) = S at *
 have b3 : 6 * T3 = x * (x * x) := by grind
 grind
theorem qafz {θ : Nat → Rat} (N : Nat) (hb : ∀ n, N ≤ n → Bd (θ n) 2) (h : SLe (fun _ => 0) (Si θ)) : SLe (fun _ => 0) θ := by
 intro ε he
 obtain ⟨M, hM⟩ := h (ε / 4) (by grind)
 refine ⟨max (max N M) 6, fun n hn => ?_⟩
 have h1 := hM n (by omega)
 obtain ⟨a, b⟩ := hb n (by omega)
 rcases (inferInstance : Decidable (0 ≤ θ n)) with hz | hz
 · have := qadc (x := -θ n) (n := n) (by omega) (by grind) (by grind)
   rw [qabq] at this
   have e : Si θ n = ss (θ n) n := rfl
   rw [e] at h1
   grind
 · grind
end Go.Abs.W
namespace Go.Abs.W
structure Tan (t : Nat → Rat) (d : Rat) : Prop where
 lo : ∀ n, 0 ≤ t n
 hi : ∀ n, t n ≤ 17 / 10
 dir : Dir t (fun _ => 1) (fun _ => d)
 cos : SLe (fun _ => 0) (Co t)
theorem Tan.bnd {t : Nat → Rat} {d : Rat} (h : Tan t d) : Bnd t := ⟨17 / 10, 0, fun n _ => ⟨by have := h.lo n; grind, h.hi n⟩⟩
def thp (d : Rat) : Nat → Rat := if d ≤ 1 then th0 d else fun n => hpi n - th0 (1 / d) n
theorem Near.sle {s t : Nat → Rat} (h : Near s t) : SLe s t := h.le_left
theorem SLe.mul_nn {s t : Nat → Rat} (bs : Bnd s) (bt : Bnd t) (h : SLe (fun _ => 0) s) (k : SLe (fun _ => 0) t) : SLe (fun _ => 0) (fun n => s n * t n) := by
 obtain ⟨B, b0, N, hB⟩ := bs.pos
 obtain ⟨C, c0, N', hC⟩ := bt.pos
 intro ε he
 obtain ⟨D, hD⟩ : ∃ D : Rat, D = B + C + 1 := ⟨_, rfl⟩
 have D0 : 0 < D := by grind
 have iD := Rat.inv_pos.2 D0
 have mD := qlx D0
 obtain ⟨η, η0, η1, ηD⟩ : ∃ η : Rat, 0 < η ∧ η ≤ 1 ∧ D * η ≤ ε := by
   have e : D * (ε * D⁻¹) = ε := by rw [Rat.mul_comm ε, ← Rat.mul_assoc, mD, Rat.one_mul]
   rcases (inferInstance : Decidable (ε * D⁻¹ ≤ 1)) with h1 | h1
   · refine ⟨1, by decide, Rat.le_refl, ?_⟩
     have := W.mul_nn (Rat.le_of_lt D0) (show 0 ≤ ε * D⁻¹ - 1 by grind)
     grind
   · exact ⟨ε * D⁻¹, Rat.mul_pos he iD, h1, by rw [e]; exact Rat.le_refl⟩
 obtain ⟨N1, H1⟩ := h η η0
 obtain ⟨N2, H2⟩ := k η η0
 refine ⟨max (max N N') (max N1 N2), fun n hn => ?_⟩
 have p1 : 0 ≤ s n + η := H1 n (by omega)
 have p2 : 0 ≤ t n + η := H2 n (by omega)
 obtain ⟨q1, q2⟩ := hB n (by omega)
 obtain ⟨q3, q4⟩ := hC n (by omega)
 show 0 ≤ s n * t n + ε
 generalize s n = x at *
 generalize t n = y at *
 have m1 := W.mul_nn p1 p2
 have m2 := W.mul_nn (Rat.le_of_lt η0) (show 0 ≤ B - x by grind)
 have m3 := W.mul_nn (Rat.le_of_lt η0) (show 0 ≤ C - y by grind)
 have m4 := W.mul_nn (Rat.le_of_lt η0) (show 0 ≤ 1 - η by grind)
 rw [hD] at ηD
 clear hD D0 iD mD H1 H2 hB hC h k hn q1 q2 q3 q4 p1 p2 η1 η0
 grind
theorem Tan.mono {s t : Nat → Rat} {d e : Rat} (h : Tan s d) (k : Tan t e) (hle : d ≤ e) : SLe s t := by
 have bs := h.bnd
 have bt := k.bnd
 have h2 := qacq bt bs.neg
 rw [qaco, qacs] at h2
 have a1 := Null.mul_left (qvd bs) k.dir
 have a2 := Null.mul_left (qvd bt) h.dir
 have key : Near (fun n => (e - d) * (Co t n * Co s n)) (Si fun n => t n + - s n) := by
   refine Near.trans ?_ h2
   exact (Null.sub a2 a1).congr fun n => by grind
 have bcs := qvd bs
 have bct := qvd bt
 have cc : SLe (fun _ => 0) (fun n => Co t n * Co s n) := SLe.mul_nn bct bcs k.cos h.cos
 have pos : SLe (fun _ => 0) (Si fun n => t n + - s n) := by
   have m := cc.mul_left (c := fun _ => e - d) (fun _ => by grind) (Bnd.const _)
   exact (SLe.of_le 0 fun n _ => by grind).trans (m.trans key.sle)
 have := qafz 0 (fun n _ => by
   have a := h.lo n; have b := h.hi n; have c := k.lo n; have d := k.hi n
   exact ⟨by grind, by grind⟩) pos
 intro ε he
 obtain ⟨N, hN⟩ := this ε he
 exact ⟨N, fun n hn => by have := hN n hn; grind⟩
def th (d : Rat) : Nat → Rat := if 0 ≤ d then thp d else fun n => -thp (-d) n
end Go.Abs.W
