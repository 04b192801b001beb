/- Parts of the proof: FpQ2, FpQ3, FpXa, FpXb, FpXc, FpXd. -/
import Derived.Test.YtnkijamajifgpaaGreatDoorHk
import Derived.Test.YtnkijamajifgpaaGreatDoorXa
import Derived.Test.YtnkijamajifgpaaGreatDoorHp
import Derived.Test.YtnkijamajifgpaaGreatDoorFe
import Derived.Test.YtnkijamajifgpaaGreatDoorHy
namespace Go.Abs.W
theorem qaf2 {x : Iv} {p : Int} {q : Rat} (wx : x.W) (hq : x.In q) : (x.rnd p).In q := by
 unfold Iv.rnd
 split
 · rename_i h
   simp only [Bool.and_eq_true] at h
   obtain ⟨k1, hp⟩ := h
   obtain ⟨a1, a2⟩ := qao wx k1
   obtain ⟨q1, q2⟩ := hq k1
   unfold Iv.made
   split
   · rename_i h0
     intro _
     have u := qcb ((qrb a1 hp).at h0.1)
     have v := qcb ((qra a2 hp).at h0.2)
     exact ⟨Rat.le_trans u q1, Rat.le_trans q2 v⟩
   · exact .whole
 · exact .whole
def rabs (q : Rat) : Rat := if 0 ≤ q then q else -q
theorem q9q (q : Rat) : rabs q * rabs q = q * q := by unfold rabs; split <;> grind
theorem qacm {x : Iv} {q : Rat} (wx : x.W) (hq : x.In q) : x.abs.In (rabs q) := by
 cases hk : x.known
 · have : x.abs = Iv.whole := by unfold Iv.abs; rw [hk]; rfl
   rw [this]; exact .whole
 · obtain ⟨v1, v2⟩ := qxe wx hk
   obtain ⟨r1, r2⟩ := hq hk
   intro _
   have hs := qic
   have e : rabs q * sc = rabs (q * sc) := by
     unfold rabs
     by_cases h : 0 ≤ q
     · rw [if_pos h, if_pos (mul_nn h (Rat.le_of_lt hs))]
     · have h2 : ¬ 0 ≤ q * sc := by
         have := Rat.mul_pos (show 0 < -q by grind) hs
         grind
       rw [if_neg h, if_neg h2]; grind
   rw [e]
   have p0 : 0 ≤ rabs (q * sc) := by unfold rabs; split <;> grind
   have le0 := qa1 wx hk
   generalize q * sc = u at *
   refine ⟨?_, ?_⟩
   · by_cases h1 : 0 < x.lo.val
     · have c := qcb (show x.abs.lo.val ≤ x.lo.val by rw [v2, if_pos (.inl h1)]; omega)
       have c0 := qcb (Int.le_of_lt h1)
       unfold rabs
       rw [if_pos (by grind)]; grind
     · by_cases h2 : x.hi.val < 0
       · have c := qcb (show x.abs.lo.val ≤ -x.hi.val by rw [v2, if_pos (.inr h2)]; omega)
         have c0 := qka h2
         rw [Rat.intCast_neg] at c
         unfold rabs
         rw [if_neg (by grind)]; grind
       · rw [v2, if_neg (by omega)]
         exact p0
   · unfold rabs
     split
     · have c := qcb (show x.hi.val ≤ x.abs.hi.val by rw [v1]; omega)
       grind
     · have c := qcb (show -x.lo.val ≤ x.abs.hi.val by rw [v1]; omega)
       rw [Rat.intCast_neg] at c
       grind
theorem sq_In {x : Iv} {p : Int} {q : Rat} (wx : x.W) (hq : x.In q) : (x.sq p).In (q * q) := by
 rw [q5m wx, ← q9q]
 exact qab2 (abs_W wx) (abs_W wx) (qacm wx hq) (qacm wx hq)
def Iv.Has (x : Iv) (s : Nat → Rat) : Prop := ∃ c : Nat → Rat, (∀ n, x.In (c n)) ∧ Near s c
theorem Iv.Has.near {x : Iv} {s t : Nat → Rat} (h : x.Has s) (k : Near t s) : x.Has t := by
 obtain ⟨c, h1, h2⟩ := h
 exact ⟨c, h1, k.trans h2⟩
theorem Iv.In.has {x : Iv} {q : Rat} (h : x.In q) : x.Has (fun _ => q) := ⟨_, fun _ => h, Near.refl _⟩
theorem Near.of_ev {s t : Nat → Rat} (N : Nat) (h : ∀ n, N ≤ n → s n = t n) : Near s t := fun ε he => ⟨N, fun n hn => by have := h n hn; constructor <;> grind⟩
theorem Iv.Has.of_ev {x : Iv} {s : Nat → Rat} (N : Nat) (h : ∀ n, N ≤ n → x.In (s n)) : x.Has s :=
 ⟨fun n => s (max n N), fun n => h _ (by omega), Near.of_ev N fun n hn => by rw [Nat.max_eq_left hn]⟩
theorem Iv.Has.whole {s : Nat → Rat} : Iv.whole.Has s := ⟨s, fun _ => .whole, Near.refl s⟩
theorem q1d {x y : Iv} {p : Int} {s t : Nat → Rat} (wx : x.W) (wy : y.W) (hs : x.Has s) (ht : y.Has t) : (x.add y p).Has (fun n => s n + t n) := by
 obtain ⟨c, h1, h2⟩ := hs
 obtain ⟨d, k1, k2⟩ := ht
 exact ⟨fun n => c n + d n, fun n => qahe wx wy (h1 n) (k1 n), h2.add k2⟩
theorem q6l {x : Iv} {s : Nat → Rat} (wx : x.W) (hs : x.Has s) : x.neg.Has (fun n => -s n) := by
 obtain ⟨c, h1, h2⟩ := hs
 exact ⟨fun n => -c n, fun n => qage wx (h1 n), h2.neg⟩
theorem q0n {x y : Iv} {p : Int} {s t : Nat → Rat} (wx : x.W) (wy : y.W) (hs : x.Has s) (ht : y.Has t) (bs : Bnd s) (bt : Bnd t) : (x.mul y p).Has (fun n => s n * t n) := by
 obtain ⟨c, h1, h2⟩ := hs
 obtain ⟨d, k1, k2⟩ := ht
 exact ⟨fun n => c n * d n, fun n => qab2 wx wy (h1 n) (k1 n), h2.mul k2 bs bt⟩
theorem qafy {x : Iv} {p : Int} {s : Nat → Rat} (wx : x.W) (hs : x.Has s) (bs : Bnd s) : (x.sq p).Has (fun n => s n * s n) := by
 obtain ⟨c, h1, h2⟩ := hs
 exact ⟨fun n => c n * c n, fun n => sq_In wx (h1 n), h2.mul h2 bs bs⟩
theorem qabh {x y : Iv} {s : Nat → Rat} (kx : x.known = true) (ky : y.known = true) (hx : x.Has s) (hy : y.Has s) : x.lo.val ≤ y.hi.val ∧ y.lo.val ≤ x.hi.val := by
 obtain ⟨c, h1, h2⟩ := hx
 obtain ⟨d, k1, k2⟩ := hy
 have hs := qic
 have nr := h2.symm.trans k2
 have key : ∀ {u v : Nat → Rat} {a b : Int}, Near u v → (∀ n, (a : Rat) ≤ u n * sc) → (∀ n, v n * sc ≤ (b : Rat)) → a ≤ b := by
   intro u v a b hn ha hb
   refine Rat.intCast_le_intCast.1 (Near.le (s := fun n => u n * sc) (t := fun n => v n * sc) ?_ ha hb)
   exact Null.congr (Null.mul hn (Bnd.const sc)) fun n => by grind
 exact ⟨key nr (fun n => (h1 n kx).1) (fun n => (k1 n ky).2), key nr.symm (fun n => (k1 n ky).1) (fun n => (h1 n kx).2)⟩
end Go.Abs.W
namespace Go.Abs.W
end Go.Abs.W
namespace Go.Abs.W
end Go.Abs.W
namespace Go.Abs.W
theorem q6s (k : Int) : (nI k k).In (k : Rat) := by
 intro _
 show (((nD k).val : Int) : Rat) ≤ _ ∧ _ ≤ (((nD k).val : Int) : Rat)
 rw [qus, Rat.intCast_mul]
 exact ⟨Rat.le_refl, Rat.le_refl⟩
theorem nI_In {n : Nat} (_h : n ≤ 4611686018427387904) : (nI n n).In (n : Rat) := by
 have := q6s (n : Int)
 rwa [Rat.intCast_natCast] at this
theorem qaga : (nI 1 1).In (1 : Rat) := nI_In (n := 1) (by decide)
end Go.Abs.W
namespace Go.Abs.W
def Dy.rat (d : Dy) : Rat := (d.val : Rat) * sc⁻¹
theorem qnt (d : Dy) : d.rat * sc = (d.val : Rat) := by
 unfold Dy.rat
 have hs := qic
 rw [Rat.mul_assoc, Rat.inv_mul_cancel sc (by grind), Rat.mul_one]
end Go.Abs.W
namespace Go.Abs.W
def Iv.HasLog (x : Iv) (d : Rat) : Prop := x.known = true → ELo x.lo.rat d ∧ EHi d x.hi.rat
theorem HasLog.meet {x y : Iv} {d : Rat} (kx : x.known = true) (ky : y.known = true) (hx : x.HasLog d) (hy : y.HasLog d) : x.lo.val ≤ y.hi.val ∧ y.lo.val ≤ x.hi.val := by
 obtain ⟨a, b⟩ := hx kx
 obtain ⟨c, e⟩ := hy ky
 have key : ∀ {u v : Dy}, u.rat ≤ v.rat → u.val ≤ v.val := by
   intro u v h
   have := Rat.mul_le_mul_of_nonneg_right h (Rat.le_of_lt qic)
   rw [qnt, qnt] at this
   exact Rat.intCast_le_intCast.1 this
 exact ⟨key (a.le e), key (c.le b)⟩
theorem qacr {x : Iv} {q : Rat} (h : x.In q) (k : x.known = true) : x.lo.rat ≤ q ∧ q ≤ x.hi.rat := by
 obtain ⟨a, b⟩ := h k
 rw [← qnt] at a b
 exact ⟨Rat.le_of_mul_le_mul_right a qic, Rat.le_of_mul_le_mul_right b qic⟩
end Go.Abs.W
