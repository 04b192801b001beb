/- Parts of the proof: FpIvK, FpIvL. -/
import Derived.Test.YtmhloagengcelaaGreatDoorHz
import Derived.Test.YtmhloagengcelaaGreatDoorHh
/- The reference's exact sums and products. -/
namespace Go.Abs.W

def Dy.ex (d : Dy) : Dy × Int := (if d.valid then d else Dy.zero, if d.valid then 0 else 9)
def exAdd (a b : Dy) : Dy × Int := if (a.valid && b.valid) = true then (a.sum b).ex else (Dy.zero, 1)
def exSub (a b : Dy) : Dy × Int := if (a.valid && b.valid) = true then (a.sum b.neg').ex else (Dy.zero, 1)
def exMul (a b : Dy) : Dy × Int := if (a.valid && b.valid) = true then (a.prod b).ex else (Dy.zero, 1)

theorem sumW {a b : Dy} (oa : a.Ok) (ob : b.Ok) : (a.sum b).W := by
 obtain ⟨h1, h2, _, _⟩ := sum_size oa ob
 exact ⟨h2, by omega⟩
theorem prodW {a b : Dy} (oa : a.Ok) (ob : b.Ok) : (a.prod b).W := by
 unfold Dy.prod
 refine Dy.of_W ?_
 by_cases hA : natV a.m = 0
 · rw [hA, Nat.zero_mul]; simp [limbsOf]
 · by_cases hB : natV b.m = 0
   · rw [hB, Nat.mul_zero]; simp [limbsOf]
   · have := bitL_prod hA hB
     have h1 := oa.bits
     have h2 := ob.bits
     have := (limbs_small (q := natV a.m * natV b.m) (b := 8192) (by omega) (by omega))
     omega

theorem RAdd2_cq (a b : Dy) (wa : a.W) (wb : b.W) : CQ prog g_fpref02_Add [a.v, b.v] (.tup [(exAdd a b).1.v, .int .i64 (exAdd a b).2]) := by
 refine CQ_run rfl fun H => ?_
 simp
 refine WL_call rfl rfl rfl (RValid_cq a wa) ?_
 cases va : a.valid
 · simp [exAdd, va, Dy.zero, lim]
 simp
 refine WL_call rfl rfl rfl (RValid_cq b wb) ?_
 cases vb : b.valid
 · simp [exAdd, vb, Dy.zero, lim]
 have oa := Dy.Ok.of wa.li va
 have ob := Dy.Ok.of wb.li vb
 simp
 refine WL_call rfl rfl rfl (Sum_cq a b oa.toM ob.toM) ?_
 simp
 refine WL_call rfl rfl rfl (Checked_cq (a.sum b) (sumW oa ob)) ?_
 simp [exAdd, Dy.ex, va, vb, lim]

theorem RSub2_cq (a b : Dy) (wa : a.W) (wb : b.W) : CQ prog g_fpref02_Sub [a.v, b.v] (.tup [(exSub a b).1.v, .int .i64 (exSub a b).2]) := by
 refine CQ_run rfl fun H => ?_
 simp
 refine WL_call rfl rfl rfl (RValid_cq a wa) ?_
 cases va : a.valid
 · simp [exSub, va, Dy.zero, lim]
 simp
 refine WL_call rfl rfl rfl (RValid_cq b wb) ?_
 cases vb : b.valid
 · simp [exSub, vb, Dy.zero, lim]
 have oa := Dy.Ok.of wa.li va
 have ob := neg'_ok (Dy.Ok.of wb.li vb)
 simp
 refine WL_call rfl rfl rfl (Neg_cq b) ?_
 simp
 refine WL_call rfl rfl rfl (Sum_cq a b.neg' oa.toM ob.toM) ?_
 simp
 refine WL_call rfl rfl rfl (Checked_cq (a.sum b.neg') (sumW oa ob)) ?_
 simp [exSub, Dy.ex, va, vb, lim]

theorem RMul2_cq (a b : Dy) (wa : a.W) (wb : b.W) : CQ prog g_fpref02_Mul [a.v, b.v] (.tup [(exMul a b).1.v, .int .i64 (exMul a b).2]) := by
 refine CQ_run rfl fun H => ?_
 simp
 refine WL_call rfl rfl rfl (RValid_cq a wa) ?_
 cases va : a.valid
 · simp [exMul, va, Dy.zero, lim]
 simp
 refine WL_call rfl rfl rfl (RValid_cq b wb) ?_
 cases vb : b.valid
 · simp [exMul, vb, Dy.zero, lim]
 have oa := Dy.Ok.of wa.li va
 have ob := Dy.Ok.of wb.li vb
 simp
 refine WL_call rfl rfl rfl (Product_cq a b oa.toM ob.toM) ?_
 simp
 refine WL_call rfl rfl rfl (Checked_cq (a.prod b) (prodW oa ob)) ?_
 simp [exMul, Dy.ex, va, vb, lim]

end Go.Abs.W

/- The exact value is inside. -/
namespace Go.Abs.W

theorem IsDn.at {p : Nat} {r : Dy × Int} {le : Int → Prop} (h : IsDn p r le) (h0 : r.2 = 0) : le r.1.val := by
 rcases h with ⟨_, b, c⟩ | ⟨a, _⟩
 · exact (c _ b).1 (Int.le_refl _)
 · exact absurd h0 a

theorem has_whole {d : Dy} (h : d.valid = true) : Iv.whole.has d = true := by
 have h1 : Iv.whole.valid = true := rfl
 have h2 : Iv.whole.all = true := rfl
 simp [Iv.has, h, h1, h2]
theorem has_of {z : Iv} {d : Dy} (wz : z.W) (kz : z.known = true) (od : d.Ok) (h1 : z.lo.val ≤ d.val) (h2 : d.val ≤ z.hi.val) : z.has d = true := by
 obtain ⟨a1, a2⟩ := known_ok wz kz
 obtain ⟨v1, l1⟩ := known_valid kz
 have c1 : z.lo.cmp d ≤ 0 := by rw [cmp_ok a1 od, cmpI_le]; exact h1
 have c2 : d.cmp z.hi ≤ 0 := by rw [cmp_ok od a2, cmpI_le]; exact h2
 simp [Iv.has, v1, l1, od.valid, c1, c2]
theorem has_to {x : Iv} {a : Dy} (wx : x.W) (wa : a.W) (h : x.has a = true) : a.Ok ∧ (x.known = true → x.lo.val ≤ a.val ∧ a.val ≤ x.hi.val) := by
 simp only [Iv.has, Bool.and_eq_true, Bool.or_eq_true, decide_eq_true_eq] at h
 obtain ⟨⟨hv, ha⟩, h⟩ := h
 have oa := Dy.Ok.of wa.li ha
 refine ⟨oa, fun hk => ?_⟩
 obtain ⟨o1, o2⟩ := known_ok wx hk
 rcases h with h | ⟨h1, h2⟩
 · rw [(known_valid hk).2] at h; cases h
 · rw [cmp_ok o1 oa, cmpI_le] at h1
   rw [cmp_ok oa o2, cmpI_le] at h2
   exact ⟨h1, h2⟩

theorem exAdd_val {a b : Dy} (oa : a.Ok) (ob : b.Ok) (h : (exAdd a b).2 = 0) : (exAdd a b).1.Ok ∧ (exAdd a b).1.val = a.val + b.val := by
 unfold exAdd Dy.ex at *
 rw [oa.valid, ob.valid] at *
 simp only [Bool.and_self, if_true] at h ⊢
 cases hv : (a.sum b).valid
 · rw [hv] at h; simp at h
 · simp only [if_true]
   exact ⟨Dy.Ok.of (sumW oa ob).li hv, (sum_val oa ob).1⟩
theorem exSub_val {a b : Dy} (oa : a.Ok) (ob : b.Ok) (h : (exSub a b).2 = 0) : (exSub a b).1.Ok ∧ (exSub a b).1.val = a.val - b.val := by
 have on := neg'_ok ob
 unfold exSub Dy.ex at *
 rw [oa.valid, ob.valid] at *
 simp only [Bool.and_self, if_true] at h ⊢
 cases hv : (a.sum b.neg').valid
 · rw [hv] at h; simp at h
 · simp only [if_true]
   refine ⟨Dy.Ok.of (sumW oa on).li hv, ?_⟩
   rw [(sum_val oa on).1, val_neg']; omega

theorem add_has {x y : Iv} {p : Int} {a b : Dy} (wx : x.W) (wy : y.W) (wa : a.W) (wb : b.W) (ha : x.has a = true) (hb : y.has b = true) {d : Dy} (od : d.Ok) (hd : d.val = a.val + b.val) : (x.add y p).has d = true := by
 obtain ⟨oa, ra⟩ := has_to wx wa ha
 obtain ⟨ob, rb⟩ := has_to wy wb hb
 unfold Iv.add
 split
 · rename_i h
   simp only [Bool.and_eq_true] at h
   obtain ⟨⟨k1, k2⟩, hp⟩ := h
   obtain ⟨a1, a2⟩ := known_ok wx k1
   obtain ⟨b1, b2⟩ := known_ok wy k2
   have r1 := ra k1
   have r2 := rb k2
   unfold Iv.made
   split
   · rename_i h0
     have u := (rAdd_dn a1 b1 hp).at h0.1
     have v := (rAdd_up a2 b2 hp).at h0.2
     exact has_of ⟨rAdd_ok.w, rAdd_ok.w⟩ (known_mk rAdd_ok rAdd_ok (by omega)) od (by show (rAdd x.lo y.lo p false).1.val ≤ _; omega) (by show _ ≤ (rAdd x.hi y.hi p true).1.val; omega)
   · exact has_whole od.valid
 · exact has_whole od.valid

theorem neg_has {y : Iv} {b : Dy} (wy : y.W) (wb : b.W) (hb : y.has b = true) : y.neg.has b.neg' = true := by
 obtain ⟨ob, rb⟩ := has_to wy wb hb
 unfold Iv.neg
 split
 · rename_i k
   obtain ⟨b1, b2⟩ := known_ok wy k
   have r := rb k
   exact has_of ⟨(neg'_ok b2).w, (neg'_ok b1).w⟩ (known_mk (neg'_ok b2) (neg'_ok b1) (by rw [val_neg', val_neg']; omega)) (neg'_ok ob) (by show y.hi.neg'.val ≤ _; rw [val_neg', val_neg']; omega) (by show _ ≤ y.lo.neg'.val; rw [val_neg', val_neg']; omega)
 · exact has_whole (neg'_ok ob).valid

theorem exMul_val {a b : Dy} (oa : a.Ok) (ob : b.Ok) (h : (exMul a b).2 = 0) : (exMul a b).1.Ok ∧ (exMul a b).1.val * pw 16384 = a.val * b.val := by
 unfold exMul Dy.ex at *
 rw [oa.valid, ob.valid] at *
 simp only [Bool.and_self, if_true] at h ⊢
 cases hv : (a.prod b).valid
 · rw [hv] at h; simp at h
 · simp only [if_true]
   have ok := Dy.Ok.of (prodW oa ob).li hv
   refine ⟨ok, ?_⟩
   obtain ⟨c, hc, hm⟩ := mul_val oa ob
   rw [hm]
   have e1 := oa.elo
   have e2 := ob.elo
   have elo := ok.elo
   unfold Dy.prod at elo ⊢
   generalize hN : natV a.m * natV b.m = N at *
   generalize (a.neg != b.neg) = s at *
   by_cases h0 : N = 0
   · subst h0
     have : (Dy.of s 0 (a.e + b.e)).val = 0 := by
       unfold Dy.val
       rw [Dy.absN_nil (by simp [Dy.of])]; simp
     rw [this]; simp
   · have hd : N / 2 ^ tz N * 2 ^ tz N = N := by have h3 := (tz_bit h0).2.2; have := Nat.div_add_mod' N (2 ^ tz N); omega
     have sh : Dy.of s N (a.e + b.e) = Dy.of s (N / 2 ^ tz N) (a.e + b.e + tz N) := by
       have := Dy.of_shift (neg := s) (n := N / 2 ^ tz N) (j := tz N) (e := a.e + b.e + tz N)
       rw [hd, show a.e + b.e + (tz N : Int) - (tz N : Int) = a.e + b.e by omega] at this
       exact this
     have ev : -16384 ≤ a.e + b.e + tz N := by
       have : (Dy.of s N (a.e + b.e)).e = a.e + b.e + tz N := by unfold Dy.of; rw [if_neg h0]
       omega
     rw [sh, of_val ev]
     have key : ((N / 2 ^ tz N * 2 ^ (a.e + b.e + tz N + 16384).toNat : Nat) : Int) * pw 16384 = (N : Int) * pw (a.e + b.e + 16384).toNat * pw c := by
       rw [← pw_nat, Int.mul_assoc, Int.mul_assoc, ← pw_add, ← pw_add]
       have e3 : (a.e + b.e + (tz N : Int) + 16384).toNat + 16384 = tz N + ((a.e + b.e + 16384).toNat + c) := by omega
       rw [e3, pw_add (tz N), ← Int.mul_assoc, pw_nat, hd]
     cases s
     · simp only [if_false, Bool.false_eq_true]; exact key
     · simp only [if_true]; rw [Int.neg_mul, Int.neg_mul, Int.neg_mul, key]

theorem mul_has {x y : Iv} {p : Int} {a b : Dy} (wx : x.W) (wy : y.W) (wa : a.W) (wb : b.W) (ha : x.has a = true) (hb : y.has b = true) {d : Dy} (od : d.Ok) (hd : d.val * pw 16384 = a.val * b.val) : (x.mul y p).has d = true := by
 obtain ⟨oa, ra⟩ := has_to wx wa ha
 obtain ⟨ob, rb⟩ := has_to wy wb hb
 unfold Iv.mul
 split
 · rename_i h
   simp only [Bool.and_eq_true] at h
   obtain ⟨⟨k1, k2⟩, hp⟩ := h
   have ox := known_ok wx k1
   have oy := known_ok wy k2
   obtain ⟨r1, r2⟩ := ra k1
   obtain ⟨r3, r4⟩ := rb k2
   by_cases hg : good4 (fun a b => rMul a b p false) (fun a b => rMul a b p true) x y 4
   · rw [four_good hg]
     have okf : ∀ a b : Dy, (rMul a b p false).1.Ok := fun _ _ => rMul_ok
     have okg : ∀ a b : Dy, (rMul a b p true).1.Ok := fun _ _ => rMul_ok
     obtain ⟨j, hj, hq⟩ := at_some (a := x) (b := y) (Q := fun u v => u.val * v.val ≤ a.val * b.val) (corner_min r1 r2 r3 r4)
     obtain ⟨j2, hj2, hq2⟩ := at_some (a := x) (b := y) (Q := fun u v => a.val * b.val ≤ u.val * v.val) (corner_max r1 r2 r3 r4)
     have o1 := pairAt_ok hj ox oy
     have o2 := pairAt_ok hj2 ox oy
     have d1 := (rMul_dn o1.1 o1.2 hp).at (hg j hj).1
     have d2 := (rMul_up o2.1 o2.2 hp).at (hg j2 hj2).2
     have l1 := accLo_le okf (x := x) (y := y) hj
     have l2 := accHi_ge okg (x := x) (y := y) hj2
     have s1 := (le_scale (x := (rMul (pairAt x y j).1 (pairAt x y j).2 p false).1.val) (y := d.val) (pw_pos 16384)).1 (by omega)
     have s2 := (le_scale (x := d.val) (y := (rMul (pairAt x y j2).1 (pairAt x y j2).2 p true).1.val) (pw_pos 16384)).1 (by omega)
     have t1 : (accLo (fun a b => rMul a b p false) (pairs x y) 4).val ≤ d.val := Int.le_trans l1 s1
     have t2 : d.val ≤ (accHi (fun a b => rMul a b p true) (pairs x y) 4).val := Int.le_trans s2 l2
     exact has_of ⟨(accLo_ok okf 4).w, (accHi_ok okg 4).w⟩ (known_mk (accLo_ok okf 4) (accHi_ok okg 4) (Int.le_trans t1 t2)) od t1 t2
   · have : Iv.four (fun a b => rMul a b p false) (fun a b => rMul a b p true) x y = Iv.whole := by
       unfold Iv.four
       split
       · rename_i hc
         exfalso
         apply hg
         intro j hj
         simp [pairs] at hc
         obtain rfl | rfl | rfl | rfl : j = 0 ∨ j = 1 ∨ j = 2 ∨ j = 3 := by omega
         all_goals simp [pairAt, pairs, hc]
       · rfl
     rw [this]; exact has_whole od.valid
 · exact has_whole od.valid

theorem abs_has {x : Iv} {a : Dy} (wx : x.W) (wa : a.W) (ha : x.has a = true) : x.abs.has a.abs = true := by
 obtain ⟨oa, ra⟩ := has_to wx wa ha
 cases hk : x.known
 · have : x.abs = Iv.whole := by unfold Iv.abs; rw [hk]; rfl
   rw [this]; exact has_whole (abs_ok oa).valid
 · obtain ⟨k, _, _, _, _⟩ := abs_known wx hk
   obtain ⟨v1, v2⟩ := abs_vals wx hk
   obtain ⟨r1, r2⟩ := ra hk
   refine has_of (abs_W wx) k (abs_ok oa) ?_ ?_
   · rw [v2, abs_val oa]; split <;> omega
   · rw [v1, abs_val oa]; omega
theorem sq_has {x : Iv} {p : Int} {a : Dy} (wx : x.W) (wa : a.W) (ha : x.has a = true) {d : Dy} (od : d.Ok) (hd : d.val * pw 16384 = a.val * a.val) : (x.sq p).has d = true := by
 obtain ⟨oa, _⟩ := has_to wx wa ha
 rw [sq_mul wx]
 refine mul_has (abs_W wx) (abs_W wx) (abs_ok oa).w (abs_ok oa).w (abs_has wx wa ha) (abs_has wx wa ha) od ?_
 rw [hd, abs_val oa, ← Int.natCast_mul, Int.natAbs_mul_self]

/-- The quotient: its ends, times the divisor, enclose the dividend. -/
theorem div_has {x y : Iv} {p : Int} {a b : Dy} (wx : x.W) (wy : y.W) (wa : a.W) (wb : b.W) (ha : x.has a = true) (hb : y.has b = true) (hz : (x.div y p).all = false) :
   (x.div y p).known = true ∧ b.val ≠ 0 ∧ divLe a.val b.val (x.div y p).lo.val ∧ divGe a.val b.val (x.div y p).hi.val := by
 obtain ⟨oa, ra⟩ := has_to wx wa ha
 obtain ⟨ob, rb⟩ := has_to wy wb hb
 unfold Iv.div at hz ⊢
 split at hz
 · rename_i h
   rw [if_pos h]
   simp only [Bool.and_eq_true, decide_eq_true_eq] at h
   obtain ⟨⟨⟨k1, k2⟩, hp⟩, hs⟩ := h
   have ox := known_ok wx k1
   have oy := known_ok wy k2
   obtain ⟨r1, r2⟩ := ra k1
   obtain ⟨r3, r4⟩ := rb k2
   have rs := (sgn_range wy k2).1 hs
   have q2 := known_le wy k2
   have q1 := known_le wx k1
   have hb0 : b.val ≠ 0 := by omega
   have okf : ∀ a b : Dy, (rDiv a b p false).1.Ok := fun _ _ => rDiv_ok
   have okg : ∀ a b : Dy, (rDiv a b p true).1.Ok := fun _ _ => rDiv_ok
   by_cases hg : good4 (fun a b => rDiv a b p false) (fun a b => rDiv a b p true) x y 4
   · rw [four_good hg]
     obtain ⟨j, hj, hq⟩ := at_some (a := x) (b := y) (Q := fun u v => ∀ g, divLe u.val v.val g → divLe a.val b.val g) (div_corner_min r1 r2 r3 r4 rs)
     obtain ⟨j2, hj2, hq2⟩ := at_some (a := x) (b := y) (Q := fun u v => ∀ g, divGe u.val v.val g → divGe a.val b.val g) (div_corner_max r1 r2 r3 r4 rs)
     have o1 := pairAt_ok hj ox oy
     have o2 := pairAt_ok hj2 ox oy
     have n1 : (pairAt x y j).2.val ≠ 0 := by have := pairAt_in hj q1 q2; omega
     have n2 : (pairAt x y j2).2.val ≠ 0 := by have := pairAt_in hj2 q1 q2; omega
     have d1 := hq _ ((rDiv_dn o1.1 o1.2 hp (ne_nil n1)).at (hg j hj).1)
     have d2 := hq2 _ ((rDiv_up o2.1 o2.2 hp (ne_nil n2)).at (hg j2 hj2).2)
     have l1 := accLo_le okf (x := x) (y := y) hj
     have l2 := accHi_ge okg (x := x) (y := y) hj2
     have e1 : divLe a.val b.val (accLo (fun a b => rDiv a b p false) (pairs x y) 4).val := by
       by_cases hb1 : 0 < b.val
       · rw [divLe_pos hb1] at d1 ⊢
         exact Int.le_trans (mulR l1 (Int.le_of_lt hb1)) d1
       · rw [divLe_neg hb1] at d1 ⊢
         exact Int.le_trans d1 (mulRn l1 (by omega))
     have e2 : divGe a.val b.val (accHi (fun a b => rDiv a b p true) (pairs x y) 4).val := by
       by_cases hb1 : 0 < b.val
       · rw [divGe_pos hb1] at d2 ⊢
         exact Int.le_trans d2 (mulR l2 (Int.le_of_lt hb1))
       · rw [divGe_neg hb1] at d2 ⊢
         exact Int.le_trans (mulRn l2 (by omega)) d2
     exact ⟨known_mk (accLo_ok okf 4) (accHi_ok okg 4) (div_lg hb0 _ _ e1 e2), hb0, e1, e2⟩
   · exfalso
     unfold Iv.four at hz
     split at hz
     · rename_i hc
       apply hg
       intro j hj
       simp [pairs] at hc
       obtain rfl | rfl | rfl | rfl : j = 0 ∨ j = 1 ∨ j = 2 ∨ j = 3 := by omega
       all_goals simp [pairAt, pairs, hc]
     · cases hz
 · cases hz

end Go.Abs.W

