/- Parts of the proof: FpGalQ, FpGalS, FpIvX, FpIvY. -/
import Derived.Test.YtmhloagengcelaaGreatDoorHr
import Derived.Test.YtmhloagengcelaaGreatDoorHp
/- What quotients return, by their exact values. -/
namespace Go.Abs.W

theorem div_shift {neg : Bool} {A B k p : Nat} {E : Int} {up : Bool} (hA : A ≠ 0) (hB : B ≠ 0) (hp : 1 ≤ p) (h : p + bitL B ≤ bitL A + k) :
   ∀ j : Nat, cutR neg (A * 2 ^ (k + j) / B) (E - (k + j : Nat)) (decide (A * 2 ^ (k + j) % B ≠ 0)) p up = cutR neg (A * 2 ^ k / B) (E - k) (decide (A * 2 ^ k % B ≠ 0)) p up
 | 0 => rfl
 | j + 1 => by
   rw [← div_shift hA hB hp h j]
   exact div_more (k := k + j) hA hB hp (by omega)

theorem ceil_le {X B : Nat} {G : Int} (hB : 0 < B) : ((X / B : Nat) : Int) + ((if decide (X % B ≠ 0) = true then 1 else 0 : Nat) : Int) ≤ G ↔ (X : Int) ≤ G * (B : Int) := by
 have e := Nat.div_add_mod X B
 have l := Nat.mod_lt X hB
 generalize X / B = M at *
 generalize X % B = r at *
 have eI : (X : Int) = (M : Int) * (B : Int) + r := by rw [← e]; simp [Int.mul_comm]
 have hBI : (0 : Int) < B := by omega
 constructor
 · intro h
   by_cases hr : r = 0
   · subst hr
     have : (M : Int) ≤ G := by simpa using h
     have := Int.mul_le_mul_of_nonneg_right this (Int.le_of_lt hBI)
     omega
   · have : (M : Int) + 1 ≤ G := by simpa [hr] using h
     have := Int.mul_le_mul_of_nonneg_right this (Int.le_of_lt hBI)
     rw [Int.add_mul, Int.one_mul] at this
     omega
 · intro h
   by_cases hr : r = 0
   · subst hr
     have : (M : Int) * B ≤ G * B := by omega
     have := (le_scale hBI).1 this
     simpa using this
   · have h2 : (M : Int) * B < G * B := by omega
     have := Int.lt_of_mul_lt_mul_right h2 (Int.le_of_lt hBI)
     simp [hr]; omega
theorem floor_ge {X B : Nat} {G : Int} (hB : 0 < B) : G ≤ ((X / B : Nat) : Int) ↔ G * (B : Int) ≤ (X : Int) := by
 have e : ((X / B : Nat) : Int) = (X : Int) / (B : Int) := by simp
 rw [e]
 exact Int.le_ediv_iff_mul_le (by omega)

def divLe (a b g : Int) : Prop := if 0 < b then g * b ≤ a * pw 16384 else a * pw 16384 ≤ g * b
def divGe (a b g : Int) : Prop := if 0 < b then a * pw 16384 ≤ g * b else g * b ≤ a * pw 16384

theorem divLe_pos {a b g : Int} (h : 0 < b) : divLe a b g ↔ g * b ≤ a * pw 16384 := by unfold divLe; rw [if_pos h]
theorem divLe_neg {a b g : Int} (h : ¬ 0 < b) : divLe a b g ↔ a * pw 16384 ≤ g * b := by unfold divLe; rw [if_neg h]
theorem divGe_pos {a b g : Int} (h : 0 < b) : divGe a b g ↔ a * pw 16384 ≤ g * b := by unfold divGe; rw [if_pos h]
theorem divGe_neg {a b g : Int} (h : ¬ 0 < b) : divGe a b g ↔ g * b ≤ a * pw 16384 := by unfold divGe; rw [if_neg h]

theorem div_scale {A B : Int} {g : Int} {a' kj ea eb : Nat} (h : kj + eb = ea + 16384 + a') : g * pw a' * B ≤ A * pw kj ↔ g * (B * pw eb) ≤ A * pw ea * pw 16384 := by
 have h1 : (g * pw a' * B) * pw eb ≤ (A * pw kj) * pw eb ↔ g * pw a' * B ≤ A * pw kj := le_scale (pw_pos eb)
 have h2 : (g * (B * pw eb)) * pw a' ≤ (A * pw ea * pw 16384) * pw a' ↔ g * (B * pw eb) ≤ A * pw ea * pw 16384 := le_scale (pw_pos a')
 rw [← h1, ← h2]
 have e1 : (A * pw kj) * pw eb = (A * pw ea * pw 16384) * pw a' := by
   rw [Int.mul_assoc, ← pw_add, h, pw_add, pw_add]; simp only [Int.mul_assoc]
 have e2 : (g * pw a' * B) * pw eb = (g * (B * pw eb)) * pw a' := by
   generalize pw a' = P
   generalize pw eb = Q
   grind
 rw [e1, e2]
theorem div_scale2 {A B : Int} {g : Int} {a' kj ea eb : Nat} (h : kj + eb = ea + 16384 + a') : A * pw kj ≤ g * pw a' * B ↔ A * pw ea * pw 16384 ≤ g * (B * pw eb) := by
 have h1 : (A * pw kj) * pw eb ≤ (g * pw a' * B) * pw eb ↔ A * pw kj ≤ g * pw a' * B := le_scale (pw_pos eb)
 have h2 : (A * pw ea * pw 16384) * pw a' ≤ (g * (B * pw eb)) * pw a' ↔ A * pw ea * pw 16384 ≤ g * (B * pw eb) := le_scale (pw_pos a')
 rw [← h1, ← h2]
 have e1 : (A * pw kj) * pw eb = (A * pw ea * pw 16384) * pw a' := by
   rw [Int.mul_assoc, ← pw_add, h, pw_add, pw_add]; simp only [Int.mul_assoc]
 have e2 : (g * pw a' * B) * pw eb = (g * (B * pw eb)) * pw a' := by
   generalize pw a' = P
   generalize pw eb = Q
   grind
 rw [e1, e2]

theorem natV_pos {d : Dy} (ok : d.Ok) (h : d.m ≠ []) : natV d.m ≠ 0 := natV_ne ok.tr h
theorem val_sign {d : Dy} (ok : d.Ok) (h : d.m ≠ []) : (0 < d.val ↔ d.neg = false) := by
 have := ok.absN_ne h
 unfold Dy.val
 cases d.neg
 · simp only [if_false, Bool.false_eq_true, iff_true]; omega
 · simp only [if_true, reduceCtorEq, iff_false]; omega
theorem val_pw2 {d : Dy} : d.val = if d.neg then -((natV d.m : Int) * pw (d.e + 16384).toNat) else (natV d.m : Int) * pw (d.e + 16384).toNat := by
 unfold Dy.val Dy.absN
 rw [pw_nat]

theorem div_setup {a b : Dy} {p : Int} {up : Bool} (oa : a.Ok) (ob : b.Ok) (hp : precB p = true) (ha : a.m ≠ []) (hb : b.m ≠ []) :
   ∃ kj a' : Nat, kj + (b.e + 16384).toNat = (a.e + 16384).toNat + 16384 + a' ∧ natV a.m * 2 ^ kj / natV b.m ≠ 0 ∧
     rDiv a b p up = cutR (a.neg != b.neg) (natV a.m * 2 ^ kj / natV b.m) (-16384 - (a' : Int)) (decide (natV a.m * 2 ^ kj % natV b.m ≠ 0)) p.toNat up := by
 have h := precB_iff.1 hp
 have hA := natV_pos oa ha
 have hB := natV_pos ob hb
 have e1 := oa.elo
 have e2 := ob.elo
 have hk : p.toNat + bitL (natV b.m) ≤ bitL (natV a.m) + divK a b p 2 := by unfold divK; omega
 obtain ⟨k, hkk⟩ : ∃ k, k = divK a b p 2 := ⟨_, rfl⟩
 rw [← hkk] at hk
 obtain ⟨j, hj⟩ : ∃ j, j = (a.e - b.e - k + 16384).toNat := ⟨_, rfl⟩
 refine ⟨k + j, (-16384 - (a.e - b.e - k)).toNat, by omega, ?_, ?_⟩
 · have := quot_bits (k := k + j) (c := p.toNat) hA hB (by omega) (by omega)
   intro h0
   rw [h0] at this
   have : bitL 0 = 0 := rfl
   omega
 · have ds := div_shift (neg := a.neg != b.neg) (up := up) (E := a.e - b.e) hA hB (show 1 ≤ p.toNat by omega) hk j
   unfold rDiv
   rw [if_pos (fault_ok (by simp [oa, ob]) hp), if_neg hb, if_neg ha, ← hkk, ← ds]
   congr 1
   omega

theorem rDiv_dn {a b : Dy} {p : Int} (oa : a.Ok) (ob : b.Ok) (hp : precB p = true) (hb : b.m ≠ []) : IsDn p.toNat (rDiv a b p false) (divLe a.val b.val) := by
 have h := precB_iff.1 hp
 by_cases ha : a.m = []
 · have hz : rDiv a b p false = (Dy.zero, 0) := by
     unfold rDiv; rw [if_pos (fault_ok (by simp [oa, ob]) hp), if_neg hb, if_pos ha]
   have va : a.val = 0 := by unfold Dy.val; rw [Dy.absN_nil ha]; simp
   rw [hz]
   have hs := val_sign ob hb
   have hnb : b.val ≠ 0 := by
     have := ob.absN_ne hb
     unfold Dy.val; split <;> omega
   refine .inl ⟨rfl, by rw [zero_val]; exact grid_zero, fun g _ => ?_⟩
   rw [zero_val, va]
   unfold divLe
   rw [Int.zero_mul]
   split
   · rename_i hpos
     have := le_scale (x := g) (y := 0) hpos
     rw [Int.zero_mul] at this
     exact this.symm
   · have := le_scale (x := g) (y := 0) (c := -b.val) (by omega)
     rw [Int.zero_mul, Int.mul_neg] at this
     rw [← this]; omega
 · obtain ⟨kj, a', hkj, hne, hd⟩ := div_setup (up := false) oa ob hp ha hb
   have hB := natV_pos ob hb
   rw [hd]
   refine (cut_dn (by omega) (by omega) rfl (fun h0 => absurd h0 hne)).congr fun g => ?_
   have sb := val_sign ob hb
   have cl := ceil_le (X := natV a.m * 2 ^ kj) (B := natV b.m) (G := (-g) * pw a') (by omega)
   have fl := floor_ge (X := natV a.m * 2 ^ kj) (B := natV b.m) (G := g * pw a') (by omega)
   rw [← pw_nat, div_scale2 hkj, Int.neg_mul] at cl
   rw [← pw_nat, div_scale hkj] at fl
   have va := val_pw2 (d := a)
   have vb := val_pw2 (d := b)
   generalize (if decide (natV a.m * 2 ^ kj % natV b.m ≠ 0) = true then 1 else 0 : Nat) = c at *
   generalize natV a.m * 2 ^ kj / natV b.m = M at *
   generalize (natV a.m : Int) * pw (a.e + 16384).toNat = U at *
   generalize (natV b.m : Int) * pw (b.e + 16384).toNat = V at *
   have e1 : (-g) * V = -(g * V) := Int.neg_mul _ _
   have e2 : g * (-V) = -(g * V) := Int.mul_neg _ _
   have e3 : (-U) * pw 16384 = -(U * pw 16384) := Int.neg_mul _ _
   cases hna : a.neg <;> cases hnb : b.neg <;> rw [hna] at va <;> rw [hnb] at vb sb <;> simp only [if_true, if_false, Bool.false_eq_true, bne_self_eq_false, Bool.false_bne, Bool.true_bne, Bool.not_false, Bool.not_true, reduceCtorEq] at va vb sb ⊢
   · rw [divLe_pos (sb.2 trivial), va, vb]; omega
   · rw [divLe_neg sb.1, va, vb, e2]; omega
   · rw [divLe_pos (sb.2 trivial), va, vb, e3]; omega
   · rw [divLe_neg sb.1, va, vb, e2, e3]; omega

theorem rDiv_up {a b : Dy} {p : Int} (oa : a.Ok) (ob : b.Ok) (hp : precB p = true) (hb : b.m ≠ []) : IsUp p.toNat (rDiv a b p true) (divGe a.val b.val) := by
 have h := precB_iff.1 hp
 by_cases ha : a.m = []
 · have hz : rDiv a b p true = (Dy.zero, 0) := by
     unfold rDiv; rw [if_pos (fault_ok (by simp [oa, ob]) hp), if_neg hb, if_pos ha]
   have va : a.val = 0 := by unfold Dy.val; rw [Dy.absN_nil ha]; simp
   rw [hz]
   have hs := val_sign ob hb
   have hnb : b.val ≠ 0 := by
     have := ob.absN_ne hb
     unfold Dy.val; split <;> omega
   refine .inl ⟨rfl, by rw [zero_val]; exact grid_zero, fun g _ => ?_⟩
   rw [zero_val, va]
   unfold divGe
   rw [Int.zero_mul]
   split
   · rename_i hpos
     have := le_scale (x := 0) (y := g) hpos
     rw [Int.zero_mul] at this
     exact this.symm
   · have := le_scale (x := 0) (y := g) (c := -b.val) (by omega)
     rw [Int.zero_mul, Int.mul_neg] at this
     rw [← this]; omega
 · obtain ⟨kj, a', hkj, hne, hd⟩ := div_setup (up := true) oa ob hp ha hb
   have hB := natV_pos ob hb
   rw [hd]
   refine (cut_up (by omega) (by omega) rfl (fun h0 => absurd h0 hne)).congr fun g => ?_
   have sb := val_sign ob hb
   have cl := ceil_le (X := natV a.m * 2 ^ kj) (B := natV b.m) (G := g * pw a') (by omega)
   have fl := floor_ge (X := natV a.m * 2 ^ kj) (B := natV b.m) (G := (-g) * pw a') (by omega)
   rw [← pw_nat, div_scale2 hkj] at cl
   rw [← pw_nat, div_scale hkj, Int.neg_mul] at fl
   have va := val_pw2 (d := a)
   have vb := val_pw2 (d := b)
   generalize (if decide (natV a.m * 2 ^ kj % natV b.m ≠ 0) = true then 1 else 0 : Nat) = c at *
   generalize natV a.m * 2 ^ kj / natV b.m = M at *
   generalize (natV a.m : Int) * pw (a.e + 16384).toNat = U at *
   generalize (natV b.m : Int) * pw (b.e + 16384).toNat = V at *
   have e1 : (-g) * V = -(g * V) := Int.neg_mul _ _
   have e2 : g * (-V) = -(g * V) := Int.mul_neg _ _
   have e3 : (-U) * pw 16384 = -(U * pw 16384) := Int.neg_mul _ _
   cases hna : a.neg <;> cases hnb : b.neg <;> rw [hna] at va <;> rw [hnb] at vb sb <;> simp only [if_true, if_false, Bool.false_eq_true, bne_self_eq_false, Bool.false_bne, Bool.true_bne, Bool.not_false, Bool.not_true, reduceCtorEq] at va vb sb ⊢
   · rw [divGe_pos (sb.2 trivial), va, vb]; omega
   · rw [divGe_neg sb.1, va, vb, e2]; omega
   · rw [divGe_pos (sb.2 trivial), va, vb, e3]; omega
   · rw [divGe_neg sb.1, va, vb, e2, e3]; omega

end Go.Abs.W

/- What square roots return, by their exact values. -/
namespace Go.Abs.W

def sqLe (v g : Int) : Prop := g ≤ 0 ∨ g * g ≤ v * pw 16384
def sqGe (v g : Int) : Prop := 0 ≤ g ∧ v * pw 16384 ≤ g * g

theorem isq_le {N G : Nat} : G ≤ isq N ↔ G * G ≤ N := by
 obtain ⟨h1, h2⟩ := isq_spec N
 constructor
 · intro h
   exact Nat.le_trans (Nat.mul_le_mul h h) h1
 · intro h
   rcases Nat.lt_or_ge (isq N) G with h3 | h3
   · have := Nat.mul_le_mul (show isq N + 1 ≤ G from h3) (show isq N + 1 ≤ G from h3)
     omega
   · exact h3
theorem isq_up {N G : Nat} : isq N + (if decide (isq N * isq N ≠ N) = true then 1 else 0) ≤ G ↔ N ≤ G * G := by
 obtain ⟨h1, h2⟩ := isq_spec N
 by_cases h : isq N * isq N = N
 · rw [if_neg (by simpa using h), Nat.add_zero]
   constructor
   · intro h3
     have := Nat.mul_le_mul h3 h3
     omega
   · intro h3
     rcases Nat.lt_or_ge G (isq N) with h4 | h4
     · have : G * G < isq N * isq N := Nat.mul_lt_mul_of_lt_of_le h4 (Nat.le_of_lt h4) (by omega)
       omega
     · exact h4
 · rw [if_pos (by simpa using h)]
   constructor
   · intro h3
     have := Nat.mul_le_mul h3 h3
     omega
   · intro h3
     rcases Nat.lt_or_ge G (isq N + 1) with h4 | h4
     · have h5 : G ≤ isq N := by omega
       have := Nat.mul_le_mul h5 h5
       omega
     · exact h4

theorem four_pow (j : Nat) : 2 ^ j * 2 ^ j = 2 ^ (2 * j) := by rw [← Nat.pow_add]; congr 1; omega

theorem sq_shift {N p j : Nat} {e : Int} {up : Bool} (hN : N ≠ 0) (hp : p ≤ bitL (isq N)) :
   cutR false (isq (N * 2 ^ (2 * j))) (e - j) (decide (isq (N * 2 ^ (2 * j)) * isq (N * 2 ^ (2 * j)) ≠ N * 2 ^ (2 * j))) p up = cutR false (isq N) e (decide (isq N * isq N ≠ N)) p up := by
 obtain ⟨s1, s2⟩ := isq_spec N
 have hm : isq N ≠ 0 := by
   intro h; rw [h] at s2; omega
 have f4 := four_pow j
 obtain ⟨T, hT⟩ : ∃ T, T = 2 ^ j := ⟨_, rfl⟩
 have hTp : 0 < T := by rw [hT]; exact Nat.two_pow_pos j
 rw [← f4, ← hT]
 have lo : isq N * T ≤ isq (N * (T * T)) := by
   rw [isq_le]
   have := Nat.mul_le_mul_right (T * T) s1
   calc isq N * T * (isq N * T) = isq N * isq N * (T * T) := by grind
     _ ≤ _ := this
 have hi : isq (N * (T * T)) < isq N * T + T := by
   rcases Nat.lt_or_ge (isq (N * (T * T))) (isq N * T + T) with h | h
   · exact h
   · rw [ge_iff_le, isq_le] at h
     have h3 : (isq N * T + T) * (isq N * T + T) = (isq N + 1) * (isq N + 1) * (T * T) := by grind
     rw [h3] at h
     have := Nat.le_of_mul_le_mul_right h (Nat.mul_pos hTp hTp)
     omega
 obtain ⟨r, hr⟩ : ∃ r, isq (N * (T * T)) = isq N * T + r := ⟨isq (N * (T * T)) - isq N * T, by omega⟩
 rw [hr, hT]
 refine cutR_refine hm (by rw [← hT]; omega) ?_ (fun _ => hp)
 rw [← hT]
 rw [Bool.eq_iff_iff]
 simp only [decide_eq_true_eq, Bool.or_eq_true]
 constructor
 · intro h
   by_cases h0 : r = 0
   · left
     subst h0
     intro h2
     have : (isq N * T + 0) * (isq N * T + 0) = isq N * isq N * (T * T) := by grind
     rw [this] at h2
     exact h (Nat.eq_of_mul_eq_mul_right (Nat.mul_pos hTp hTp) h2)
   · exact .inr h0
 · rintro h h2
   have e1 : isq (N * (T * T)) = isq N * T := by
     have : ∀ M : Nat, isq (M * M) = M := fun M => by
       have a1 := (isq_le (N := M * M) (G := M)).2 (Nat.le_refl _)
       have a2 := (isq_spec (M * M)).1
       rcases Nat.lt_or_ge M (isq (M * M)) with h | h
       · have := Nat.mul_lt_mul_of_lt_of_le h (Nat.le_of_lt h) (by omega)
         omega
       · omega
     have e2 : N * (T * T) = (isq N * T) * (isq N * T) := by
       calc N * (T * T) = isq N * isq N * (T * T) := by rw [h2]
         _ = _ := by grind
     rw [e2, this]
   have r0 : r = 0 := by omega
   subst r0
   rcases h with h | h
   · apply h
     have : (isq N * T + 0) * (isq N * T + 0) = isq N * isq N * (T * T) := by grind
     rw [this, h2]
   · exact h rfl

theorem sqrt_setup {d : Dy} {p : Int} {up : Bool} (od : d.Ok) (hp : precB p = true) (hm : d.m ≠ []) (hn : d.neg = false) :
   ∃ k a' : Nat, (k : Int) = d.e + 32768 + 2 * a' ∧ isq (natV d.m * 2 ^ k) ≠ 0 ∧
     rSqrt d p up = cutR false (isq (natV d.m * 2 ^ k)) (-16384 - (a' : Int)) (decide (isq (natV d.m * 2 ^ k) * isq (natV d.m * 2 ^ k) ≠ natV d.m * 2 ^ k)) p.toNat up := by
 have h := precB_iff.1 hp
 have hA := natV_ne od.tr hm
 have e1 := od.elo
 obtain ⟨K, hK⟩ : ∃ K, K = sqK d p := ⟨_, rfl⟩
 have hK1 : 2 * p + 4 ≤ bitL (natV d.m) + K ∧ (d.e - (K : Int)) % 2 = 0 := by
   rw [hK]; unfold sqK
   split
   · omega
   · omega
 have hb2 := bitL_mul (m := natV d.m) (j := K) (r := 0) hA (Nat.two_pow_pos K)
 rw [Nat.add_zero] at hb2
 have hq := (isq_bits (m := natV d.m * 2 ^ K) (c := p.toNat) (by omega) (by omega)).1
 have hN : natV d.m * 2 ^ K ≠ 0 := Nat.mul_ne_zero hA (Nat.ne_of_gt (Nat.two_pow_pos K))
 obtain ⟨E, hE⟩ : ∃ E, E = (d.e - (K : Int)) / 2 := ⟨_, rfl⟩
 have hE2 : d.e - (K : Int) = 2 * E := by omega
 obtain ⟨j, hj⟩ : ∃ j, j = (E + 16384).toNat := ⟨_, rfl⟩
 have ek : natV d.m * 2 ^ (K + 2 * j) = natV d.m * 2 ^ K * 2 ^ (2 * j) := by rw [Nat.pow_add, Nat.mul_assoc]
 refine ⟨K + 2 * j, (-16384 - E).toNat, by omega, ?_, ?_⟩
 · rw [ek]
   intro h0
   have := (isq_spec (natV d.m * 2 ^ K * 2 ^ (2 * j))).2
   rw [h0] at this
   have := Nat.mul_pos (Nat.pos_of_ne_zero hN) (Nat.two_pow_pos (2 * j))
   omega
 · have sh := sq_shift (N := natV d.m * 2 ^ K) (p := p.toNat) (j := j) (e := E) (up := up) hN hq
   unfold rSqrt
   rw [if_pos (fault_ok (by simpa using od) hp), hn, ← hK, ← hE, ek]
   simp only [Bool.false_eq_true, if_false]
   rw [if_neg hm, ← sh]
   congr 1
   omega

theorem sq_scale {A a' e k : Nat} (h : k = e + 16384 + 2 * a') (g : Int) : g * pw a' * (g * pw a') ≤ (A : Int) * pw k ↔ g * g ≤ (A : Int) * pw e * pw 16384 := by
 have h2 : g * g * (pw a' * pw a') ≤ ((A : Int) * pw e * pw 16384) * (pw a' * pw a') ↔ g * g ≤ (A : Int) * pw e * pw 16384 := le_scale (Int.mul_pos (pw_pos a') (pw_pos a'))
 rw [← h2]
 have e1 : (A : Int) * pw k = ((A : Int) * pw e * pw 16384) * (pw a' * pw a') := by
   rw [h, pw_add, pw_add, ← pw_add a' a', show 2 * a' = a' + a' by omega]; simp only [Int.mul_assoc]
 have e2 : g * pw a' * (g * pw a') = g * g * (pw a' * pw a') := by grind
 rw [e1, e2]
theorem sq_scale2 {A a' e k : Nat} (h : k = e + 16384 + 2 * a') (g : Int) : (A : Int) * pw k ≤ g * pw a' * (g * pw a') ↔ (A : Int) * pw e * pw 16384 ≤ g * g := by
 have h2 : ((A : Int) * pw e * pw 16384) * (pw a' * pw a') ≤ g * g * (pw a' * pw a') ↔ (A : Int) * pw e * pw 16384 ≤ g * g := le_scale (Int.mul_pos (pw_pos a') (pw_pos a'))
 rw [← h2]
 have e1 : (A : Int) * pw k = ((A : Int) * pw e * pw 16384) * (pw a' * pw a') := by
   rw [h, pw_add, pw_add, ← pw_add a' a', show 2 * a' = a' + a' by omega]; simp only [Int.mul_assoc]
 have e2 : g * pw a' * (g * pw a') = g * g * (pw a' * pw a') := by grind
 rw [e1, e2]

theorem val_plain {d : Dy} (hn : d.neg = false) : d.val = (natV d.m : Int) * pw (d.e + 16384).toNat := by
 unfold Dy.val Dy.absN
 rw [hn, pw_nat]; simp

theorem rSqrt_dn {d : Dy} {p : Int} (od : d.Ok) (hp : precB p = true) (hm : d.m ≠ []) (hn : d.neg = false) : IsDn p.toNat (rSqrt d p false) (sqLe d.val) := by
 have h := precB_iff.1 hp
 have e0 := od.elo
 obtain ⟨k, a', hk, hne, hd⟩ := sqrt_setup (up := false) od hp hm hn
 rw [hd]
 refine (cut_dn (by omega) (by omega) rfl (fun h0 => absurd h0 hne)).congr fun g => ?_
 simp only [Bool.false_eq_true, if_false]
 unfold sqLe
 rw [val_plain hn, ← sq_scale (A := natV d.m) (a' := a') (e := (d.e + 16384).toNat) (k := k) (by omega) g]
 obtain ⟨n, rfl | rfl⟩ := g.eq_nat_or_neg
 · rw [pw_nat, pw_nat]
   have := isq_le (N := natV d.m * 2 ^ k) (G := n * 2 ^ a')
   have e3 : (((n * 2 ^ a' : Nat) : Int) * ((n * 2 ^ a' : Nat) : Int)) = ((n * 2 ^ a' * (n * 2 ^ a') : Nat) : Int) := by simp
   rw [e3]
   by_cases h0 : n = 0
   · subst h0; simp
   · constructor
     · intro h2; right; omega
     · rintro (h2 | h2)
       · omega
       · omega
 · rw [Int.neg_mul, pw_nat]
   constructor
   · intro _; left; omega
   · intro _; omega

theorem rSqrt_up {d : Dy} {p : Int} (od : d.Ok) (hp : precB p = true) (hm : d.m ≠ []) (hn : d.neg = false) : IsUp p.toNat (rSqrt d p true) (sqGe d.val) := by
 have h := precB_iff.1 hp
 have e0 := od.elo
 obtain ⟨k, a', hk, hne, hd⟩ := sqrt_setup (up := true) od hp hm hn
 rw [hd]
 refine (cut_up (by omega) (by omega) rfl (fun h0 => absurd h0 hne)).congr fun g => ?_
 simp only [Bool.false_eq_true, if_false]
 unfold sqGe
 rw [val_plain hn, ← sq_scale2 (A := natV d.m) (a' := a') (e := (d.e + 16384).toNat) (k := k) (by omega) g]
 have iu := fun G => isq_up (N := natV d.m * 2 ^ k) (G := G)
 generalize (if decide (isq (natV d.m * 2 ^ k) * isq (natV d.m * 2 ^ k) ≠ natV d.m * 2 ^ k) = true then 1 else 0 : Nat) = c at *
 obtain ⟨n, rfl | rfl⟩ := g.eq_nat_or_neg
 · rw [pw_nat, pw_nat]
   have := iu (n * 2 ^ a')
   have e3 : (((n * 2 ^ a' : Nat) : Int) * ((n * 2 ^ a' : Nat) : Int)) = ((n * 2 ^ a' * (n * 2 ^ a') : Nat) : Int) := by simp
   rw [e3]
   omega
 · rw [Int.neg_mul, pw_nat]
   have i0 := Nat.pos_of_ne_zero hne
   constructor
   · intro _; omega
   · rintro ⟨h1, h2⟩
     have n0 : n = 0 := by omega
     subst n0
     rw [Nat.zero_mul] at h2 ⊢
     have := iu 0
     rw [pw_nat] at h2
     simp only [Int.neg_mul, Int.mul_neg, Int.neg_neg, Int.natCast_zero, Int.zero_mul, Int.neg_zero] at h2
     omega

end Go.Abs.W

/- Small integers have exact results. -/
namespace Go.Abs.W

theorem IsDn.exact {p : Nat} {r : Dy × Int} {le : Int → Prop} (h : IsDn p r le) {V : Int} (hV : GridI p V) (hle : ∀ g, le g ↔ g ≤ V) : r.2 = 0 ∧ r.1.val = V := by
 rcases h with ⟨a, b, c⟩ | ⟨_, c⟩
 · have h1 := (c V hV).2 ((hle V).2 (Int.le_refl _))
   have h2 := (hle _).1 ((c _ b).1 (Int.le_refl _))
   exact ⟨a, by omega⟩
 · exact absurd ((hle V).2 (Int.le_refl _)) (c V hV)
theorem IsUp.exact {p : Nat} {r : Dy × Int} {ge : Int → Prop} (h : IsUp p r ge) {V : Int} (hV : GridI p V) (hge : ∀ g, ge g ↔ V ≤ g) : r.2 = 0 ∧ r.1.val = V := by
 rcases h with ⟨a, b, c⟩ | ⟨_, c⟩
 · have h1 := (c V hV).2 ((hge V).2 (Int.le_refl _))
   have h2 := (hge _).1 ((c _ b).1 (Int.le_refl _))
   exact ⟨a, by omega⟩
 · exact absurd ((hge V).2 (Int.le_refl _)) (c V hV)

theorem nD_val {k : Int} : (nD k).val = k * pw 16384 := by
 unfold nD
 have hA : ((0 : Int) + 16384).toNat = 16384 := rfl
 rw [of_val (by omega), ← pw_nat, hA]
 obtain ⟨n, rfl | rfl⟩ := k.eq_nat_or_neg
 · rw [if_neg (by simp)]
   simp
 · by_cases h : n = 0
   · subst h; simp
   · rw [if_pos (by simp; omega), Int.neg_mul]
     simp
theorem natAbs_pw {k : Int} {a : Nat} : (k * pw a).natAbs = k.natAbs * 2 ^ a := by
 rw [Int.natAbs_mul]; rfl
theorem grid_at {p A : Nat} {k : Int} (hA : A + A = capE) (h21 : 21 ≤ A) (hp : 20 ≤ p) (hk : k.natAbs ≤ 1048576) : GridI p (k * pw A) := by
 unfold GridI
 rw [natAbs_pw]
 have h1 : 2 ^ 20 ≤ 2 ^ p := Nat.pow_le_pow_right (by omega) hp
 have h0 : (2 : Nat) ^ 20 = 1048576 := rfl
 refine ⟨⟨k.natAbs, A, rfl, by omega⟩, ?_⟩
 unfold capN
 rw [← hA, Nat.pow_add]
 refine Nat.mul_lt_mul_of_pos_right ?_ (Nat.two_pow_pos A)
 have h2 : 2 ^ 21 ≤ 2 ^ A := Nat.pow_le_pow_right (by omega) h21
 have h3 : (2 : Nat) ^ 21 = 2097152 := rfl
 omega
theorem grid_int {p : Nat} {k : Int} (hp : 20 ≤ p) (hk : k.natAbs ≤ 1048576) : GridI p (k * pw 16384) := grid_at rfl (by omega) hp hk

theorem nD_eq {r : Dy × Int} {k : Int} (ok : r.1.Ok) (hk : k.natAbs ≤ 1048576) (h : r.2 = 0 ∧ r.1.val = k * pw 16384) : r = (nD k, 0) := by
 have e : r.1 = nD k := val_inj ok (nD_ok (by omega)) (by rw [h.2, nD_val])
 obtain ⟨a, b⟩ := r
 simp at e h
 rw [e, h.1]

theorem nI_known {k : Int} (hk : k.natAbs ≤ 1048576) : (nI k k).known = true := by
 have ok := nD_ok (k := k) (by omega)
 simp [Iv.known, Iv.valid, nI, ok.valid, (cmp_zero ok ok).2 rfl]

theorem add_ex {q x y : Int} (hq : 20 ≤ q) (hp : precB q = true) (hx : x.natAbs ≤ 1023) (hy : y.natAbs ≤ 1023) (up : Bool) : rAdd (nD x) (nD y) q up = (nD (x + y), 0) := by
 refine nD_eq rAdd_ok (by omega) ?_
 have ox := nD_ok (k := x) (by omega)
 have oy := nD_ok (k := y) (by omega)
 have g := grid_int (p := q.toNat) (k := x + y) (by omega) (by omega)
 have e : (nD x).val + (nD y).val = (x + y) * pw 16384 := by rw [nD_val, nD_val, Int.add_mul]
 cases up
 · exact (rAdd_dn ox oy hp).exact g (fun _ => by rw [e])
 · exact (rAdd_up ox oy hp).exact g (fun _ => by rw [e])
theorem mul_small {x y : Int} (hx : x.natAbs ≤ 1023) (hy : y.natAbs ≤ 1023) : (x * y).natAbs ≤ 1048576 := by
 rw [Int.natAbs_mul]
 have := Nat.mul_le_mul hx hy
 omega
theorem mul_ex {q x y : Int} (hq : 20 ≤ q) (hp : precB q = true) (hx : x.natAbs ≤ 1023) (hy : y.natAbs ≤ 1023) (up : Bool) : rMul (nD x) (nD y) q up = (nD (x * y), 0) := by
 have hm := mul_small hx hy
 refine nD_eq rMul_ok hm ?_
 have ox := nD_ok (k := x) (by omega)
 have oy := nD_ok (k := y) (by omega)
 have g := grid_int (p := q.toNat) (k := x * y) (by omega) hm
 have e : (nD x).val * (nD y).val = (x * y) * pw 16384 * pw 16384 := by
   rw [nD_val, nD_val]
   generalize pw 16384 = P
   grind
 cases up
 · exact (rMul_dn ox oy hp).exact g (fun _ => by rw [e, le_scale (pw_pos _)])
 · exact (rMul_up ox oy hp).exact g (fun _ => by rw [e, le_scale (pw_pos _)])
theorem nD_ne {k : Int} (h : k ≠ 0) (hk : k.natAbs ≤ 1048576) : (nD k).m ≠ [] := by
 intro h0
 have h1 : (nD k).val = 0 := by unfold Dy.val; rw [Dy.absN_nil h0]; simp
 rw [nD_val] at h1
 have := pw_pos 16384
 rcases Int.mul_eq_zero.1 h1 with h2 | h2
 · exact h h2
 · omega
theorem nD_pos {k : Int} (hk : k.natAbs ≤ 1048576) : (0 < (nD k).val ↔ 0 < k) ∧ ((nD k).val < 0 ↔ k < 0) := by
 rw [nD_val]
 have hp := pw_pos 16384
 generalize pw 16384 = P at *
 constructor
 · constructor
   · intro h; exact Int.pos_of_mul_pos_left h (by omega) |> fun h => h
   · intro h; exact Int.mul_pos h hp
 · constructor
   · intro h
     rcases Int.lt_or_le k 0 with h1 | h1
     · exact h1
     · have := Int.mul_nonneg h1 (Int.le_of_lt hp); omega
   · intro h; exact Int.mul_neg_of_neg_of_pos h hp
theorem div_ex {q x y : Int} (hq : 20 ≤ q) (hp : precB q = true) (hx : x.natAbs ≤ 1023) (hy : y.natAbs ≤ 1023) (hy0 : y ≠ 0) (up : Bool) : rDiv (nD (x * y)) (nD y) q up = (nD x, 0) := by
 have hm := mul_small hx hy
 refine nD_eq rDiv_ok (by omega) ?_
 have ox := nD_ok (k := x * y) (by omega)
 have oy := nD_ok (k := y) (by omega)
 have g := grid_int (p := q.toNat) (k := x) (by omega) (by omega)
 have ny := nD_ne hy0 (by omega)
 have sy := nD_pos (k := y) (by omega)
 have P0 := pw_pos 16384
 have key : ∀ g : Int, divLe (nD (x * y)).val (nD y).val g ↔ g ≤ x * pw 16384 := by
   intro g
   have e1 : (nD (x * y)).val * pw 16384 = x * pw 16384 * (nD y).val := by
     rw [nD_val, nD_val]; generalize pw 16384 = P; grind
   by_cases h : 0 < (nD y).val
   · rw [divLe_pos h, e1, le_scale h]
   · rw [divLe_neg h, e1]
     have h2 : (nD y).val < 0 := sy.2.2 (by have := mt sy.1.2 h; omega)
     have := le_scale (x := g) (y := x * pw 16384) (c := -(nD y).val) (by omega)
     rw [Int.mul_neg, Int.mul_neg] at this
     omega
 have key2 : ∀ g : Int, divGe (nD (x * y)).val (nD y).val g ↔ x * pw 16384 ≤ g := by
   intro g
   have e1 : (nD (x * y)).val * pw 16384 = x * pw 16384 * (nD y).val := by
     rw [nD_val, nD_val]; generalize pw 16384 = P; grind
   by_cases h : 0 < (nD y).val
   · rw [divGe_pos h, e1, le_scale h]
   · rw [divGe_neg h, e1]
     have h2 : (nD y).val < 0 := sy.2.2 (by have := mt sy.1.2 h; omega)
     have := le_scale (x := x * pw 16384) (y := g) (c := -(nD y).val) (by omega)
     rw [Int.mul_neg, Int.mul_neg] at this
     omega
 cases up
 · exact (rDiv_dn ox oy hp ny).exact g key
 · exact (rDiv_up ox oy hp ny).exact g key2

theorem sq_lt_iff {G V : Int} (hG : 0 ≤ G) (hV : 0 ≤ V) : G * G ≤ V * V ↔ G ≤ V := by
 constructor
 · intro h
   rcases Int.lt_or_le V G with h1 | h1
   · have := Int.mul_le_mul (Int.le_of_lt h1) (Int.le_of_lt h1) hV hG
     have h2 : V * V < G * G := by
       have a1 : V * V ≤ V * G := Int.mul_le_mul_of_nonneg_left (Int.le_of_lt h1) hV
       have a2 : V * G < G * G := Int.mul_lt_mul_of_pos_right h1 (by omega)
       omega
     omega
   · exact h1
 · intro h; exact Int.mul_le_mul h h hG hV
theorem sqrt_ex {q x : Int} (hq : 20 ≤ q) (hp : precB q = true) (hx : x.natAbs ≤ 1023) (h0 : 0 < x) (up : Bool) : rSqrt (nD (x * x)) q up = (nD x, 0) := by
 have hm := mul_small hx hx
 refine nD_eq rSqrt_ok (by omega) ?_
 have ox := nD_ok (k := x * x) (by omega)
 have g := grid_int (p := q.toNat) (k := x) (by omega) (by omega)
 have hxx : 0 < x * x := Int.mul_pos h0 h0
 have nx := nD_ne (k := x * x) (by omega) hm
 have sx := nD_pos (k := x * x) hm
 have P0 := pw_pos 16384
 have hn : (nD (x * x)).neg = false := (val_sign ox nx).1 (sx.1.2 hxx)
 have e1 : (nD (x * x)).val * pw 16384 = (x * pw 16384) * (x * pw 16384) := by
   rw [nD_val]; generalize pw 16384 = P; grind
 have hV : 0 ≤ x * pw 16384 := Int.le_of_lt (Int.mul_pos h0 P0)
 cases up
 · refine (rSqrt_dn ox hp nx hn).exact g fun g => ?_
   unfold sqLe
   rw [e1]
   rcases Int.lt_or_le g 0 with h | h
   · exact ⟨fun _ => by omega, fun _ => .inl (by omega)⟩
   · rw [sq_lt_iff h hV]
     exact ⟨fun h => by omega, fun h => .inr h⟩
 · refine (rSqrt_up ox hp nx hn).exact g fun g => ?_
   unfold sqGe
   rw [e1]
   constructor
   · rintro ⟨h1, h2⟩
     exact (sq_lt_iff hV h1).1 h2
   · intro h
     have h1 : 0 ≤ g := by omega
     exact ⟨h1, (sq_lt_iff hV h1).2 h⟩
theorem round_ex {q x : Int} (hq : 20 ≤ q) (hp : precB q = true) (hx : x.natAbs ≤ 1023) (up : Bool) : rRound (nD x) q up = (nD x, 0) := by
 refine nD_eq rRound_ok (by omega) ?_
 have ox := nD_ok (k := x) (by omega)
 have g := grid_int (p := q.toNat) (k := x) (by omega) (by omega)
 cases up
 · exact (rRound_dn ox hp).exact g (fun _ => by rw [nD_val])
 · exact (rRound_up ox hp).exact g (fun _ => by rw [nD_val])

theorem Iadd_ex {q x y : Int} (hq : 20 ≤ q) (hp : precB q = true) (hx : x.natAbs ≤ 1023) (hy : y.natAbs ≤ 1023) : (nI x x).add (nI y y) q = nI (x + y) (x + y) := by
 have k1 := nI_known (k := x) (by omega)
 have k2 := nI_known (k := y) (by omega)
 unfold Iv.add
 rw [k1, k2, hp, if_pos (by rfl)]
 show Iv.made (rAdd (nD x) (nD y) q false) (rAdd (nD x) (nD y) q true) = _
 rw [add_ex hq hp hx hy, add_ex hq hp hx hy]
 rfl
theorem neg_nI {y : Int} (hy : y.natAbs ≤ 1023) : (nI y y).neg = nI (-y) (-y) := by
 have k2 := nI_known (k := y) (by omega)
 have e : (nD y).neg' = nD (-y) := val_inj (neg'_ok (nD_ok (by omega))) (nD_ok (by omega)) (by rw [val_neg', nD_val, nD_val, Int.neg_mul])
 unfold Iv.neg
 rw [if_pos k2]
 show Iv.mk (nD y).neg' (nD y).neg' false = _
 rw [e]; rfl
theorem four_const {f g : Dy → Dy → Dy × Int} {x y : Int} {r : Dy} (hf : f (nD x) (nD y) = (r, 0)) (hg : g (nD x) (nD y) = (r, 0)) : Iv.four f g (nI x x) (nI y y) = ⟨r, r, false⟩ := by
 have hp : pairs (nI x x) (nI y y) = [(nD x, nD y), (nD x, nD y), (nD x, nD y), (nD x, nD y)] := rfl
 unfold Iv.four
 rw [hp]
 simp [hf, hg, accLo, accHi, lo2_self, hi2_self]
theorem Imul_ex {q x y : Int} (hq : 20 ≤ q) (hp : precB q = true) (hx : x.natAbs ≤ 1023) (hy : y.natAbs ≤ 1023) : (nI x x).mul (nI y y) q = nI (x * y) (x * y) := by
 have k1 := nI_known (k := x) (by omega)
 have k2 := nI_known (k := y) (by omega)
 unfold Iv.mul
 rw [k1, k2, hp, if_pos (by rfl)]
 exact four_const (mul_ex hq hp hx hy false) (mul_ex hq hp hx hy true)
theorem nI_sgn {y : Int} (hy : y.natAbs ≤ 1048576) : (0 < (nI y y).sgn ↔ 0 < y) ∧ ((nI y y).sgn = 0 ↔ y = 0) := by
 have k2 := nI_known hy
 have s := sgn_val (nD_ok (k := y) (by omega))
 have v := nD_pos hy
 unfold Iv.sgn
 rw [if_pos k2]
 show (0 < (if 0 < (nD y).sgn then (1 : Int) else if (nD y).sgn < 0 then -1 else 0) ↔ _) ∧ ((if 0 < (nD y).sgn then (1 : Int) else if (nD y).sgn < 0 then -1 else 0) = 0 ↔ _)
 split
 · omega
 · split <;> omega
theorem Idiv_ex {q x y : Int} (hq : 20 ≤ q) (hp : precB q = true) (hx : x.natAbs ≤ 1023) (hy : y.natAbs ≤ 1023) (hy0 : y ≠ 0) : (nI (x * y) (x * y)).div (nI y y) q = nI x x := by
 have k1 := nI_known (k := x * y) (mul_small hx hy)
 have k2 := nI_known (k := y) (by omega)
 have hs : (nI y y).sgn ≠ 0 := fun h => hy0 ((nI_sgn (y := y) (by omega)).2.1 h)
 unfold Iv.div
 rw [k1, k2, hp, if_pos (by simpa using hs)]
 exact four_const (div_ex hq hp hx hy hy0 false) (div_ex hq hp hx hy hy0 true)
theorem Isqrt_ex {q x : Int} (hq : 20 ≤ q) (hp : precB q = true) (hx : x.natAbs ≤ 1023) (h0 : 0 < x) : (nI (x * x) (x * x)).sqrt q = nI x x := by
 have k1 := nI_known (k := x * x) (mul_small hx hx)
 have s := sgn_val (nD_ok (k := x * x) (by have := mul_small hx hx; omega))
 have v := nD_pos (mul_small hx hx)
 have hs : 0 < (nI (x * x) (x * x)).lo.sgn := s.1.2 (v.1.2 (Int.mul_pos h0 h0))
 unfold Iv.sqrt
 rw [k1, hp, if_pos (by simpa using hs)]
 show Iv.made (rSqrt (nD (x * x)) q false) (rSqrt (nD (x * x)) q true) = _
 rw [sqrt_ex hq hp hx h0, sqrt_ex hq hp hx h0]
 rfl
theorem abs_nI {x : Int} (hx : x.natAbs ≤ 1023) : (nI x x).abs = nI x.natAbs x.natAbs := by
 have k1 := nI_known (k := x) (by omega)
 have ox := nD_ok (k := x) (by omega)
 have oa := nD_ok (k := (x.natAbs : Int)) (by omega)
 have ea : (nD x).abs = nD x.natAbs := by
   refine val_inj (abs_ok ox) oa ?_
   rw [abs_val ox, nD_val, nD_val]
   generalize 16384 = S
   rw [natAbs_pw, ← pw_nat]
 have s := nI_sgn (y := x) (by omega)
 unfold Iv.abs
 rw [if_pos k1]
 have e1 : (nI x x).mag = nD x.natAbs := by
   unfold Iv.mag
   show (nD x).abs.hi2 (nD x).abs = _
   rw [hi2_self, ea]
 have e2 : (nI x x).mig = nD x.natAbs := by
   unfold Iv.mig
   split
   · rename_i h
     have := s.2.1 h
     subst this
     rfl
   · show (nD x).abs.lo2 (nD x).abs = _
     rw [lo2_self, ea]
 rw [e1, e2]; rfl
theorem Ipow_ex {q x : Int} (hq : 20 ≤ q) (hp : precB q = true) (hx : x.natAbs ≤ 1023) : (nI x x).pow 2 q = nI (x * x) (x * x) := by
 have k1 := nI_known (k := x) (by omega)
 have hn : ((x.natAbs : Nat) : Int).natAbs ≤ 1023 := by omega
 have hxx : ((x.natAbs : Nat) : Int) * ((x.natAbs : Nat) : Int) = x * x := by
   rw [← Int.natCast_mul, Int.natAbs_mul_self]
 have pe : ∀ up : Bool, endE (nD x.natAbs) 2 q up = (nD (x * x), 0) := by
   intro up
   have s := sgn_val (nD_ok (k := (x.natAbs : Int)) (by omega))
   have v := nD_pos (k := (x.natAbs : Int)) (by omega)
   have hs : ¬ (nD x.natAbs).sgn < 0 := by
     intro h
     have := v.2.1 (s.2.1 h)
     omega
   unfold endE
   rw [if_neg hs]
   show (if (rRound (nD x.natAbs) q up).2 = 0 then rMul (rRound (nD x.natAbs) q up).1 (nD x.natAbs) q up else rRound (nD x.natAbs) q up) = _
   rw [round_ex hq hp hn, if_pos rfl]
   show rMul (nD x.natAbs) (nD x.natAbs) q up = _
   rw [mul_ex hq hp hn hn, hxx]
 unfold Iv.pow
 rw [k1, hp, if_pos (by simp), if_neg (by omega), if_pos (by rfl), abs_nI hx]
 show Iv.made (endE (nD x.natAbs) 2 q false) (endE (nD x.natAbs) 2 q true) = _
 rw [pe, pe]
 rfl

end Go.Abs.W

/- The law IntervalExact. -/
namespace Go.Abs.W

theorem tmod_abs (a : Int) {n : Nat} (h : 0 < n) : (Int.tmod a n).natAbs ≤ n - 1 := by
 rw [Int.natAbs_tmod]
 have := Nat.mod_lt a.natAbs (show 0 < (n : Int).natAbs by simpa using h)
 simp at this ⊢
 omega

set_option maxHeartbeats 4000000 in
theorem exact_tail (H : Heap) (E : Env) (x y q : Int) (bx : x.natAbs ≤ 1023) (by' : y.natAbs ≤ 1023) (hy0 : y ≠ 0) (hq : 20 ≤ q) (hp : precB q = true) (h7 : E 7 = .int .i64 x) (h8 : E 8 = .int .i64 y) (h9 : E 9 = .int .i64 q) :
   WC prog H.length (seqTail 5 c_fplaw05_IntervalExact.body) E H (fun x E1 H1 => (x = .normal ∨ x = .ret) ∧ ∃ v0, resV E1 H1 [.tmp 6] = some v0 ∧ fin false H.length H1 v0 = some (.bool true, H)) := by
 refine WC_of_WK ?_
 have hm := mul_small bx by'
 have hxx := mul_small bx bx
 have ws : IntKind.i64.wrap (x + y) = x + y := wrap_i64 (by omega) (by omega)
 have wd : IntKind.i64.wrap (x - y) = x - y := wrap_i64 (by omega) (by omega)
 have wm : IntKind.i64.wrap (x * y) = x * y := wrap_i64 (by omega) (by omega)
 have wxx : IntKind.i64.wrap (x * x) = x * x := wrap_i64 (by omega) (by omega)
 have ox := of5_cq x x (by omega) (by omega) (by omega) (by omega)
 have oy := of5_cq y y (by omega) (by omega) (by omega) (by omega)
 have os := of5_cq (x + y) (x + y) (by omega) (by omega) (by omega) (by omega)
 have od := of5_cq (x - y) (x - y) (by omega) (by omega) (by omega) (by omega)
 have om := of5_cq (x * y) (x * y) (by omega) (by omega) (by omega) (by omega)
 have oxx := of5_cq (x * x) (x * x) (by omega) (by omega) (by omega) (by omega)
 have vx : (nI x x).W := nI_W (by omega) (by omega)
 have vy : (nI y y).W := nI_W (by omega) (by omega)
 have vm : (nI (x * y) (x * y)).W := nI_W (by omega) (by omega)
 have s1 := same5_refl (x := nI (x + y) (x + y)) (nI_W (by omega) (by omega))
 have s2 := same5_refl (x := nI (x - y) (x - y)) (nI_W (by omega) (by omega))
 have s3 := same5_refl (x := nI (x * y) (x * y)) (nI_W (by omega) (by omega))
 have s4 := same5_refl (x := nI x x) vx
 have s5 := same5_refl (x := nI x x) vx
 have s6 := same5_refl (x := nI (x * x) (x * x)) (nI_W (by omega) (by omega))
 have c1 := IAdd_cq (nI x x) (nI y y) q vx vy
 rw [Iadd_ex hq hp bx by'] at c1
 have c2 := ISub_cq (nI x x) (nI y y) q vx vy
 rw [neg_nI by', Iadd_ex hq hp bx (show (-y).natAbs ≤ 1023 by omega), ← Int.sub_eq_add_neg] at c2
 have c3 := IMul_cq (nI x x) (nI y y) q vx vy
 rw [Imul_ex hq hp bx by'] at c3
 have c4 := IDiv_cq (nI (x * y) (x * y)) (nI y y) q vm vy
 rw [Idiv_ex hq hp bx by' hy0] at c4
 have c6 := IPower_cq (nI x x) 2 q vx
 rw [Ipow_ex hq hp bx] at c6
 simp [seqTail, h7]
 refine WL_call rfl rfl rfl ox ?_
 simp [h8]
 refine WL_call rfl rfl rfl oy ?_
 simp [h9]
 refine WL_call rfl rfl rfl c1 ?_
 simp [h7, h8, ws]
 refine WL_call rfl rfl rfl os ?_
 simp
 refine WL_call rfl rfl rfl s1 ?_
 simp [h7]
 refine WL_call rfl rfl rfl ox ?_
 simp [h8]
 refine WL_call rfl rfl rfl oy ?_
 simp [h9]
 refine WL_call rfl rfl rfl c2 ?_
 simp [h7, h8, wd]
 refine WL_call rfl rfl rfl od ?_
 simp
 refine WL_call rfl rfl rfl s2 ?_
 simp [h7]
 refine WL_call rfl rfl rfl ox ?_
 simp [h8]
 refine WL_call rfl rfl rfl oy ?_
 simp [h9]
 refine WL_call rfl rfl rfl c3 ?_
 simp [h7, h8, wm]
 refine WL_call rfl rfl rfl om ?_
 simp
 refine WL_call rfl rfl rfl s3 ?_
 simp [h7, h8, wm]
 refine WL_call rfl rfl rfl om ?_
 simp [h8]
 refine WL_call rfl rfl rfl oy ?_
 simp [h9]
 refine WL_call rfl rfl rfl c4 ?_
 simp [h7]
 refine WL_call rfl rfl rfl ox ?_
 simp
 refine WL_call rfl rfl rfl s4 ?_
 simp [h7, wxx]
 by_cases h0 : x ≤ 0
 · have h0' : ¬ 0 < x := by omega
   simp [h0, h0']
   refine WL_call rfl rfl rfl ox ?_
   simp [h9]
   refine WL_call rfl rfl rfl c6 ?_
   simp [h7, wxx]
   refine WL_call rfl rfl rfl oxx ?_
   simp
   refine WL_call rfl rfl rfl s6 ?_
   simp
 · have c5 := ISqrt_cq (nI (x * x) (x * x)) q (nI_W (by omega) (by omega))
   rw [Isqrt_ex hq hp bx (by omega)] at c5
   have h0' : 0 < x := by omega
   simp [h0, h0']
   refine WL_call rfl rfl rfl oxx ?_
   simp [h9]
   refine WL_call rfl rfl rfl c5 ?_
   simp [h7]
   refine WL_call rfl rfl rfl ox ?_
   simp
   refine WL_call rfl rfl rfl s5 ?_
   simp [h7]
   refine WL_call rfl rfl rfl ox ?_
   simp [h9]
   refine WL_call rfl rfl rfl c6 ?_
   simp [h7, wxx]
   refine WL_call rfl rfl rfl oxx ?_
   simp
   refine WL_call rfl rfl rfl s6 ?_
   simp

theorem exacts_cq (a b p : Int) (ha : IntKind.i16.min ≤ a ∧ a ≤ IntKind.i16.max) (hb : IntKind.i16.min ≤ b ∧ b ≤ IntKind.i16.max) (hp : IntKind.u8.min ≤ p ∧ p ≤ IntKind.u8.max) :
   CQ prog g_fplaw05_IntervalExact [.int .i16 a, .int .i16 b, .int .u8 p] (.bool true) := by
 refine CQ_of rfl fun H => ?_
 have ha1 : -32768 ≤ a ∧ a ≤ 32767 := ha
 have hb1 : -32768 ≤ b ∧ b ≤ 32767 := hb
 have hp1 : 0 ≤ p ∧ p ≤ 255 := hp
 have wa : IntKind.i64.wrap a = a := wrap_i64 (by omega) (by omega)
 have wb : IntKind.i64.wrap b = b := wrap_i64 (by omega) (by omega)
 have wp : IntKind.i64.wrap p = p := wrap_i64 (by omega) (by omega)
 obtain ⟨x, hx⟩ : ∃ x, x = Int.tmod a 1024 := ⟨_, rfl⟩
 obtain ⟨y0, hy0⟩ : ∃ y, y = Int.tmod b 1024 := ⟨_, rfl⟩
 obtain ⟨q0, hq0⟩ : ∃ q, q = Int.tmod p 100 := ⟨_, rfl⟩
 have bx : x.natAbs ≤ 1023 := by rw [hx]; exact tmod_abs a (n := 1024) (by omega)
 have by0 : y0.natAbs ≤ 1023 := by rw [hy0]; exact tmod_abs b (n := 1024) (by omega)
 have bq0 : q0.natAbs ≤ 99 := by rw [hq0]; exact tmod_abs p (n := 100) (by omega)
 have wx : IntKind.i64.wrap x = x := wrap_i64 (by omega) (by omega)
 have wy : IntKind.i64.wrap y0 = y0 := wrap_i64 (by omega) (by omega)
 have wq0 : IntKind.i64.wrap q0 = q0 := wrap_i64 (by omega) (by omega)
 have wq : IntKind.i64.wrap (24 + q0) = 24 + q0 := wrap_i64 (by omega) (by omega)
 have hq1 : 0 ≤ q0 := by rw [hq0]; exact Int.tmod_nonneg _ hp1.1
 have hq : precB (24 + q0) = true := precB_iff.2 (by omega)
 refine WC_seq (b := seqTail 1 c_fplaw05_IntervalExact.body) ?_
 refine WC_round ?_
 simp
 refine WC_seq (b := seqTail 2 c_fplaw05_IntervalExact.body) ?_
 refine WC_round ?_
 simp
 refine WL_call rfl rfl rfl awake5_cq ?_
 simp
 refine WC_seq (b := seqTail 3 c_fplaw05_IntervalExact.body) ?_
 refine WC_round ?_
 simp [wa, wb, ← hx, ← hy0]
 refine WC_seq (b := seqTail 4 c_fplaw05_IntervalExact.body) ?_
 refine WC_round ?_
 simp [wp, ← hq0, wq]
 refine WC_seq (b := seqTail 5 c_fplaw05_IntervalExact.body) ?_
 refine WC_round ?_
 by_cases hz : y0 = 0
 · simp [hz]
   exact WC_mono (exact_tail H _ x 1 (24 + q0) bx (by decide) (by decide) (by omega) hq (by simp) (by simp) (by simp)) (fun x E1 H1 h => by simpa using h)
 · simp [hz]
   exact WC_mono (exact_tail H _ x y0 (24 + q0) bx by0 hz (by omega) hq (by simp) (by simp) (by simp)) (fun x E1 H1 h => by simpa using h)

end Go.Abs.W

