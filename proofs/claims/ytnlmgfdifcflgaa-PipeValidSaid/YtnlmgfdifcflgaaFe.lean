/- Parts of the proof: FpHull, FpHull2, FpOver, FpOverR, FpLawAt. -/
import Derived.Test.YtnlmgfdifcflgaaGr
import Derived.Test.YtnlmgfdifcflgaaFd
/- Hulls of intervals and boxes. -/
namespace Go.Abs.W

def Dy.lo2 (a b : Dy) : Dy := if a.cmp b ≤ 0 then a else b
def Dy.hi2 (a b : Dy) : Dy := if 0 ≤ a.cmp b then a else b
def Iv.known (x : Iv) : Bool := !x.all && x.valid
def Iv.whole : Iv := ⟨⟨false, [], 0⟩, ⟨false, [], 0⟩, true⟩
def Iv.hull (x y : Iv) : Iv := if x.known && y.known then ⟨x.lo.lo2 y.lo, x.hi.hi2 y.hi, false⟩ else Iv.whole

theorem Dy.W.lo2 {a b : Dy} (ha : a.W) (hb : b.W) : (a.lo2 b).W := by unfold Dy.lo2; split <;> assumption
theorem Dy.W.hi2 {a b : Dy} (ha : a.W) (hb : b.W) : (a.hi2 b).W := by unfold Dy.hi2; split <;> assumption
theorem Iv.W.hull {x y : Iv} (hx : x.W) (hy : y.W) : (x.hull y).W := by
 unfold Iv.hull; split
 · exact ⟨hx.lo.lo2 hy.lo, hx.hi.hi2 hy.hi⟩
 · exact ⟨⟨by intro x hx; simp [Iv.whole] at hx, by simp [Iv.whole]⟩, ⟨by intro x hx; simp [Iv.whole] at hx, by simp [Iv.whole]⟩⟩

end Go.Abs.W

/- Hulls of boxes, as lists that loops build. -/
namespace Go.Abs.W

def hullL : List Iv → List Iv → List Iv
 | x :: l, y :: m => x.hull y :: hullL l m
 | _, _ => []

theorem hullL_len : ∀ {l m : List Iv}, l.length = m.length → (hullL l m).length = l.length
 | [], [], _ => rfl
 | [], _ :: _, h => by simp at h
 | _ :: _, [], h => by simp at h
 | x :: l, y :: m, h => by simp [hullL, hullL_len (by simpa using h : l.length = m.length)]

theorem hullL_W : ∀ {l m : List Iv}, (∀ x ∈ l, x.W) → (∀ x ∈ m, x.W) → ∀ x ∈ hullL l m, x.W
 | x :: l, y :: m, h1, h2, z, hz => by
   rcases List.mem_cons.1 hz with rfl | hz
   · exact (h1 x (by simp)).hull (h2 y (by simp))
   · exact hullL_W (fun a ha => h1 a (by simp [ha])) (fun a ha => h2 a (by simp [ha])) z hz
 | [], _, _, _, z, hz => by simp [hullL] at hz
 | _ :: _, [], _, _, z, hz => by simp [hullL] at hz

end Go.Abs.W

/- The hull of the tubes between two times. -/
namespace Go.Abs.W

theorem hull_known {x y : Iv} (hx : x.known = true) (hy : y.known = true) : (x.hull y).known = true := by
 have h1 := hx; have h2 := hy
 simp [Iv.known, Iv.valid] at hx hy
 obtain ⟨a1, a2⟩ := hx
 obtain ⟨b1, b2⟩ := hy
 simp [a1] at a2
 simp [b1] at b2
 obtain ⟨⟨a3, a4⟩, a5⟩ := a2
 obtain ⟨⟨b3, b4⟩, b5⟩ := b2
 rw [cmp_val a3 a4, cmpI_le_iff] at a5
 rw [cmp_val b3 b4, cmpI_le_iff] at b5
 have c1 : (x.lo.lo2 y.lo).valid = true ∧ (x.lo.lo2 y.lo).val ≤ x.lo.val := by
   unfold Dy.lo2; split
   · exact ⟨a3, Int.le_refl _⟩
   · rename_i h; rw [cmp_val a3 b3, cmpI_le_iff] at h; exact ⟨b3, by omega⟩
 have c2 : (x.hi.hi2 y.hi).valid = true ∧ x.hi.val ≤ (x.hi.hi2 y.hi).val := by
   unfold Dy.hi2; split
   · exact ⟨a4, Int.le_refl _⟩
   · rename_i h; rw [cmp_val a4 b4] at h
     have := cmpI_neg_iff (a := x.hi.val) (b := y.hi.val)
     exact ⟨b4, by omega⟩
 have : (x.lo.lo2 y.lo).cmp (x.hi.hi2 y.hi) ≤ 0 := by rw [cmp_val c1.1 c2.1, cmpI_le_iff]; omega
 have e : x.hull y = ⟨x.lo.lo2 y.lo, x.hi.hi2 y.hi, false⟩ := by rw [Iv.hull, if_pos (by simp [h1, h2])]
 rw [e]
 simp [Iv.known, Iv.valid, c1.1, c2.1, this]

theorem hullL_all : ∀ {l m : List Iv}, l.all Iv.known = true → m.all Iv.known = true → (hullL l m).all Iv.known = true
 | x :: l, y :: m, h1, h2 => by
   simp only [List.all_cons, Bool.and_eq_true] at h1 h2
   simp only [hullL, List.all_cons, hull_known h1.1 h2.1, hullL_all h1.2 h2.2, Bool.and_self]
 | [], _, _, _ => by simp [hullL]
 | _ :: _, [], _, _ => by simp [hullL]

theorem boxOk_iff {l : List Iv} : boxOk l = true ↔ 1 ≤ l.length ∧ l.length ≤ 8 ∧ l.all Iv.known = true := by
 simp [boxOk, Iv.known, and_assoc]

theorem hullL_ok {l m : List Iv} (h1 : boxOk l = true) (h2 : boxOk m = true) (h : l.length = m.length) : boxOk (hullL l m) = true ∧ (hullL l m).length = l.length := by
 have hl := hullL_len h
 rw [boxOk_iff] at h1 h2 ⊢
 exact ⟨⟨by omega, by omega, hullL_all h1.2.2 h2.2.2⟩, hl⟩

theorem BxW.hull {a b : List Iv} (wa : BxW a) (wb : BxW b) (h : a.length = b.length) : BxW (hullL a b) := ⟨by rw [hullL_len h]; exact wa.len, hullL_W wa.all wb.all⟩

def ovStep (acc : Option (List Iv)) (s : Sg) : List Iv := match acc with
 | none => s.tube
 | some o => hullL o s.tube
/-- What a box under way is. -/
def AccOk (n : Nat) (acc : Option (List Iv)) : Prop := ∀ o, acc = some o → boxOk o = true ∧ o.length = n ∧ BxW o
theorem AccOk.step {n : Nat} {acc : Option (List Iv)} {s : Sg} (h : AccOk n acc) (ws : s.W) (h1 : boxOk s.tube = true) (h2 : s.tube.length = n) : AccOk n (some (ovStep acc s)) := by
 intro o ho
 injection ho with ho
 subst ho
 cases acc with
 | none => exact ⟨h1, h2, ws.tube⟩
 | some o =>
   obtain ⟨g1, g2, g3⟩ := h o rfl
   have := hullL_ok g1 h1 (by omega)
   exact ⟨this.1, by rw [ovStep, this.2]; exact g2, g3.hull ws.tube (by omega)⟩

end Go.Abs.W

/- The reference's box at a time, and its hull of the tubes between two times. -/
namespace Go.Abs.W

end Go.Abs.W

/- PipeAt returns true for each pipe and each two numbers. -/
namespace Go.Abs.W

end Go.Abs.W

