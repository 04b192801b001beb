/- Parts of the proof: FpUd, FpUe, FpUf, FpUg. -/
import Derived.Test.YtnkijamajifgpaaGreatDoorUa
import Derived.Test.YtnkijamajifgpaaGreatDoorXf
import Derived.Test.YtnkijamajifgpaaGreatDoorCf
namespace Go.Abs.W
theorem qye {a : Fx} {b : Nat} {p : Int} (hp : precB p = true) (ha : bitL a.n ≤ 4000) (hb : b ≤ 8000) : Iv.near a b p = (Iv.mk (nearL a b) (nearH a b) false).rnd p ∧ (nearL a b).Ok ∧ (nearH a b).Ok := by
 obtain ⟨r1, r2⟩ := q2c ha hb
 obtain ⟨v1, v2⟩ := q2e (a := a) (b := b) (by omega)
 have o1 : (nearL a b).Ok := Dy.of_ok r1
 have o2 : (nearH a b).Ok := Dy.of_ok r2
 have k : (Iv.mk (nearL a b) (nearH a b) false).known = true := by
   refine qc9 o1 o2 ?_
   rw [v1, v2]
   exact Int.mul_le_mul_of_nonneg_right (by omega) (Int.le_of_lt (qbk _))
 refine ⟨?_, o1, o2⟩
 unfold Iv.near Iv.rnd
 rw [r1, r2, k, hp]
theorem qads {a : Fx} {b : Nat} {p : Int} {q : Rat} (hp : precB p = true) (ha : bitL a.n ≤ 4000) (hb : b ≤ 8000) (h : Bd ((a.int : Rat) - q * p2 b) 16777216) : (Iv.near a b p).In q := by
 obtain ⟨e, o1, o2⟩ := qye hp ha hb
 rw [e]
 refine qaf2 ⟨o1.w, o2.w⟩ fun _ => ?_
 obtain ⟨v1, v2⟩ := q2e (a := a) (b := b) (by omega)
 show (((nearL a b).val : Int) : Rat) ≤ _ ∧ _ ≤ (((nearH a b).val : Int) : Rat)
 have e24 : ((2 ^ 24 : Int) : Rat) = 16777216 := rfl
 rw [v1, v2, Rat.intCast_mul, Rat.intCast_mul, Rat.intCast_sub, Rat.intCast_add, e24, pwq]
 have es : sc = p2 b * p2 (16384 - b) := (pwq 16384).trans ((congrArg p2 (show 16384 = b + (16384 - b) by omega)).trans (qabz _ _))
 rw [es]
 have P := q6f (16384 - b)
 obtain ⟨u, v⟩ := h
 have m1 := mul_nn (show 0 ≤ 16777216 + ((a.int : Rat) - q * p2 b) by grind) (Rat.le_of_lt P)
 have m2 := mul_nn (show 0 ≤ 16777216 - ((a.int : Rat) - q * p2 b) by grind) (Rat.le_of_lt P)
 generalize p2 (16384 - b) = W at *
 constructor <;> grind
theorem q9z {a : Fx} {b : Nat} {p : Int} {s : Nat → Rat} (hp : precB p = true) (ha : bitL a.n ≤ 4000) (hb : b ≤ 8000) (h : ∃ N, ∀ n, N ≤ n → Bd ((a.int : Rat) - s n * p2 b) 16777216) : (Iv.near a b p).Has s := by
 obtain ⟨N, hN⟩ := h
 exact Iv.Has.of_ev N fun n hn => qads hp ha hb (hN n hn)
def pis : Nat → Rat := fun n => 2 * hpi n
theorem q0i {p : Int} (hp : precB p = true) : (piO p).Bt (pw 16385) (pw 16386) ∧ (piO p).Has pis := by
 obtain ⟨h1, h2⟩ := qrd hp
 unfold piO
 rw [if_pos hp]
 obtain ⟨pn, pl, pu⟩ := qna (b := p.toNat + 64) (by omega)
 have eb := qb1 (p.toNat + 64)
 have h4 : bitL (piI (p.toNat + 64)).n ≤ 4000 := by
   have h3 := qbz (a := 4) (b := 2 ^ (p.toNat + 64))
   have h5 : bitL 4 = 3 := by decide
   have h6 := qas (show (piI (p.toNat + 64)).n ≤ 4 * 2 ^ (p.toNat + 64) by omega)
   omega
 have big : 2 ^ 30 ≤ 2 ^ (p.toNat + 64) := Nat.pow_le_pow_right (by omega) (by omega)
 have e30 : (2 : Nat) ^ 30 = 1073741824 := rfl
 have e24 : (2 : Int) ^ 24 = 16777216 := rfl
 have ei : (piI (p.toNat + 64)).int = (piI (p.toNat + 64)).n := by unfold Fx.int; rw [pn]; rfl
 refine ⟨qadt hp h4 (by omega) (qj9 (by omega)) (qj9 (by omega)) ?_ ?_, q9z hp h4 (by omega) ?_⟩
 · have e : pw 16385 = (2 * pw (p.toNat + 64)) * pw (16384 - (p.toNat + 64)) := by rw [← qcu, ← qcg]; exact congrArg pw (by omega)
   rw [e]
   refine Int.mul_le_mul_of_nonneg_right ?_ (Int.le_of_lt (qbk _))
   have eP : pw (p.toNat + 64) = ((2 ^ (p.toNat + 64) : Nat) : Int) := rfl
   rw [ei, e24, eP]; omega
 · have e : pw 16386 = (2 * (2 * pw (p.toNat + 64))) * pw (16384 - (p.toNat + 64)) := by rw [← qcu, ← qcu, ← qcg]; exact congrArg pw (by omega)
   rw [e]
   refine Int.mul_le_mul_of_nonneg_right ?_ (Int.le_of_lt (qbk _))
   have eP : pw (p.toNat + 64) = ((2 ^ (p.toNat + 64) : Nat) : Int) := rfl
   rw [ei, e24, eP]; omega
 · obtain ⟨N, hN⟩ := qadm (b := p.toNat + 64) (by omega) (by omega)
   exact ⟨N, fun n hn => by obtain ⟨a, b⟩ := hN n hn; exact ⟨by show _ ≤ _ - 2 * hpi n * _; grind, by show _ - 2 * hpi n * _ ≤ _; grind⟩⟩
end Go.Abs.W
namespace Go.Abs.W
end Go.Abs.W
namespace Go.Abs.W
end Go.Abs.W
namespace Go.Abs.W
end Go.Abs.W
