/- Parts of the proof: FpKn. -/
import Derived.Test.YtnkijamajifgpaaGreatDoorXb
import Derived.Test.YtnkijamajifgpaaGreatDoorHz
namespace Go.Abs.W
structure Iv.Bt (x : Iv) (A B : Int) : Prop where
 k : x.known = true
 lo : A ≤ x.lo.val
 hi : x.hi.val ≤ B
theorem Iv.Bt.mono {x : Iv} {A B C D : Int} (h : x.Bt A B) (h1 : C ≤ A) (h2 : B ≤ D) : x.Bt C D := ⟨h.k, Int.le_trans h1 h.lo, Int.le_trans h.hi h2⟩
theorem q1s {p : Nat} {g : Int} (h : GridI p g) : GridI p (-g) := by unfold GridI at *; rwa [Int.natAbs_neg]
theorem q1u {p a b : Nat} {k : Int} (hk : k.natAbs ≤ 2 ^ p) (hb : k.natAbs < 2 ^ b) (hab : a + b ≤ capE) : GridI p (k * pw a) := by
 unfold GridI
 rw [qyp]
 refine ⟨⟨k.natAbs, a, rfl, hk⟩, ?_⟩
 unfold capN
 have h1 : k.natAbs * 2 ^ a < 2 ^ b * 2 ^ a := Nat.mul_lt_mul_of_pos_right hb (Nat.two_pow_pos a)
 rw [← Nat.pow_add] at h1
 exact Nat.lt_of_lt_of_le h1 (Nat.pow_le_pow_right (by omega) (by omega))
theorem q4m {p a : Nat} (ha : a ≤ 32767) : GridI p (pw a) := by
 have := q1u (p := p) (a := a) (b := 1) (k := 1) (Nat.one_le_two_pow) (by decide) (by unfold capE; omega)
 rwa [Int.one_mul] at this
theorem qye (a : Nat) : pw (a + 1) = 2 * pw a := by rw [q2x, Int.mul_comm]; rfl
section
variable {p : Nat} {r s : Dy × Int} {le ge : Int → Prop} {A B v : Int}
theorem IsDn.atl (h : IsDn p r le) (g : GridI p A) (hA : le A) : r.2 = 0 ∧ A ≤ r.1.val := by
 rcases h with ⟨a, _, c⟩ | ⟨_, c⟩
 · exact ⟨a, (c A g).2 hA⟩
 · exact absurd hA (c A g)
theorem IsUp.atu (h : IsUp p r ge) (g : GridI p A) (hA : ge A) : r.2 = 0 ∧ r.1.val ≤ A := by
 rcases h with ⟨a, _, c⟩ | ⟨_, c⟩
 · exact ⟨a, (c A g).2 hA⟩
 · exact absurd hA (c A g)
theorem IsDn.grid (h : IsDn p r le) (h0 : r.2 = 0) : GridI p r.1.val := by
 rcases h with ⟨_, b, _⟩ | ⟨a, _⟩
 · exact b
 · exact absurd h0 a
theorem IsUp.grid (h : IsUp p r ge) (h0 : r.2 = 0) : GridI p r.1.val := by
 rcases h with ⟨_, b, _⟩ | ⟨a, _⟩
 · exact b
 · exact absurd h0 a
theorem q4d (or : r.1.Ok) (os : s.1.Ok) (d : IsDn p r le) (u : IsUp p s ge) (lg : ∀ g g2, le g → ge g2 → g ≤ g2) (gA : GridI p A) (gB : GridI p B) (hA : le A) (hB : ge B) :
   (Iv.made r s).Bt A B ∧ GridI p (Iv.made r s).lo.val ∧ GridI p (Iv.made r s).hi.val := by
 obtain ⟨d1, d2⟩ := d.atl gA hA
 obtain ⟨u1, u2⟩ := u.atu gB hB
 have e : Iv.made r s = ⟨r.1, s.1, false⟩ := by unfold Iv.made; rw [if_pos ⟨d1, u1⟩]
 rw [e]
 exact ⟨⟨qkq or os (d.le_up u lg d1 u1), d2, u2⟩, d.grid d1, u.grid u1⟩
end
section
variable {p : Int} {x y : Iv} {A B C D E F : Int}
theorem q5w (wx : x.W) (hp : precB p = true) (hx : x.Bt A B) (gA : GridI p.toNat A) (gB : GridI p.toNat B) : (x.rnd p).Bt A B ∧ GridI p.toNat (x.rnd p).lo.val ∧ GridI p.toNat (x.rnd p).hi.val := by
 obtain ⟨a1, a2⟩ := qb8 wx hx.k
 have q1 := qu1 wx hx.k
 have := hx.lo; have := hx.hi
 unfold Iv.rnd
 rw [hx.k, hp, if_pos (by rfl)]
 exact q4d rRound_ok rRound_ok (qyb a1 hp) (qya a2 hp) (fun g g2 h h2 => by omega) gA gB (by omega) (by omega)
end
end Go.Abs.W
