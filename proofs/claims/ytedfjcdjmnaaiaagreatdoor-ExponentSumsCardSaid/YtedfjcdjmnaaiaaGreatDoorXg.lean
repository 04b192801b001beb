/- Parts of the proof: FpXp. -/
import Derived.Test.YtedfjcdjmnaaiaaGreatDoorXf
namespace Go.Abs.W
theorem qs9 {x : Iv} {p : Int} (l : x.Lm) (h : ql8 x p = false) : x.W := by
 simp only [ql8, Bool.or_eq_false_iff, decide_eq_false_iff_not] at h
 exact q56 l (by omega) (by omega)
theorem qajn (x : Iv) (p : Int) (l : x.Lm) : CQ prog qoj [x.v, .int .i64 p] (.bool true) := by
 refine qag rfl fun H => ?_
 simp
 refine qaa rfl rfl rfl qg8 ?_
 simp
 refine qaa rfl rfl rfl (q3s x p) ?_
 cases hg : ql8 x p
 case true => simp
 have w := qs9 l hg
 rcases Int.lt_or_le p 8 with h8 | h8
 · simp [h8]
 have h8' : ¬ p < 8 := by omega
 rcases Int.lt_or_le 64 p with h64 | h64
 · simp [h8', h64]
 have h64' : ¬ 64 < p := by omega
 have hp : precB p = true := precB_iff.2 (by omega)
 simp [h8', h64']
 refine qaa rfl rfl rfl (qlx x (-200) 200 w) ?_
 cases hb : powB x (-200) 200
 · simp
 obtain ⟨k, s1, t1, t2, _, _⟩ := qop w hb (by omega) (by omega) (by omega) (by omega)
 have nb := qos w k
 have lc := qoh x p w
 have wl : (x.log p).W := log_W
 obtain ⟨o1, o2⟩ := qai w k
 have kl : (x.log p).known = true := (qfa w k hp s1 t1 t2 Rat.le_refl (rat_le.2 (qak w k))).1
 have vl := qav kl
 have mt : ∀ d ∈ [x.lo, x.hi, x.mid 64], CQ prog qrr [d.v] (rLog d).v ∧ CQ prog qdw [(x.log p).v, (rLog d).v] (.bool true) := by
   intro d hd
   obtain ⟨ok, q1, q2⟩ := nb d hd
   have sd : 0 < d.sgn := (qdr ok).1.2 (by have := (qdr o1).1.1 s1; omega)
   have hl := (qfa (q := d.rat) w k hp s1 t1 t2 (rat_le.2 q1) (rat_le.2 q2)).2
   have m := qvd wl qaht (.inr kl) qai6 hl (qafp ok sd)
   have cm := qly (x.log p) (rLog d) wl qaht
   rw [m] at cm
   exact ⟨qai2 d ok (qir ok sd).1, cm⟩
 have nc := qy1 x w
 have vc := qd7 (x.log p) wl
 rw [vl.1] at vc
 have va := vl.2
 generalize hy : x.log p = y at *
 obtain ⟨L, hL⟩ : ∃ L, L = [x.lo, x.hi, x.mid 64] := ⟨_, rfl⟩
 rw [← hL] at nc mt
 have hlen : L.length = 3 := by rw [hL]; rfl
 simp
 refine qaa rfl rfl rfl lc ?_
 simp
 refine qaa rfl rfl rfl nc ?_
 simp [dys, hlen]
 refine WK_up (fun i E H' => (∃ G, H' = H ++ some ⟨7, [x.v], false, true⟩ :: some ⟨7, [y.v], false, true⟩ :: G) ∧ E 5 = .ptr (H.length + 1) 0 0 ∧ E 30 = dys L ∧ E 31 = .int .i64 3 ∧ E 32 = .int .i64 i) 3 ?_ ?_
 · simp [dys]
 · rintro i E H' hi ⟨⟨G, rfl⟩, h5, h30, h31, h32⟩
   simp only [dys] at h30
   rcases Nat.lt_or_ge i 3 with hlt | hge
   · have e2 : IntKind.i64.wrap ((i : Int) + 1) = ((i + 1 : Nat) : Int) := by rw [wrap_i64] <;> omega
     have hlt' : (i : Int) < 3 := by omega
     have hiL : i < L.length := by omega
     obtain ⟨m1, m2⟩ := mt L[i] (List.getElem_mem hiL)
     simp [qch, h5, h30, h31, h32, hlt', hiL]
     refine qaa rfl rfl rfl m1 ?_
     simp
     refine qaa rfl rfl rfl m2 ?_
     simp [h5, h30, h31, h32, e2, hlt, dys]
   · obtain rfl : i = 3 := by omega
     simp [qch, h5, h31, h32]
     refine qaa rfl rfl rfl vc ?_
     simp [h5, va]
theorem q15 {x : Iv} {p : Int} (w : x.W) : (x.exp p).Gd ∧ ∀ q, x.In q → (x.exp p).Has (es q) := by
 by_cases h : (x.known && precB p && modB x.lo && modB x.hi) = true
 · simp only [Bool.and_eq_true] at h
   obtain ⟨⟨⟨k, hp⟩, h1⟩, h2⟩ := h
   refine ⟨.inr (qkt w k hp h1 h2 Rat.le_refl (rat_le.2 (qak w k))).1, fun q hq => ?_⟩
   obtain ⟨q1, q2⟩ := qj7 hq k
   exact (qkt w k hp h1 h2 q1 q2).2
 · have e : x.exp p = Iv.whole := by unfold Iv.exp; rw [if_neg h]
   rw [e]
   exact ⟨.inl rfl, fun q _ => .whole⟩
theorem q5j {x : Iv} {p : Int} (w : x.W) (ht : x.known = true → x.lo.top ≤ 16383 ∧ x.hi.top ≤ 16383) : (x.log p).Gd ∧ ∀ q, x.In q → (x.log p).HasLog q := by
 by_cases h : (x.known && precB p && decide (0 < x.lo.sgn)) = true
 · simp only [Bool.and_eq_true, decide_eq_true_eq] at h
   obtain ⟨⟨k, hp⟩, h1⟩ := h
   obtain ⟨t1, t2⟩ := ht k
   refine ⟨.inr (qfa w k hp h1 t1 t2 Rat.le_refl (rat_le.2 (qak w k))).1, fun q hq => ?_⟩
   obtain ⟨q1, q2⟩ := qj7 hq k
   exact (qfa w k hp h1 t1 t2 q1 q2).2
 · have e : x.log p = Iv.whole := by unfold Iv.log; rw [if_neg h]
   rw [e]
   exact ⟨.inl rfl, fun q _ h => absurd h qq3⟩
theorem qz3 {x : Iv} {n : Nat} (w : x.W) (k : x.known = true) (h1 : -pw n ≤ x.lo.val) (h2 : x.hi.val ≤ pw n) (hn : n ≤ 32766) : x.lo.top ≤ 16383 ∧ x.hi.top ≤ 16383 := by
 obtain ⟨o1, o2⟩ := qai w k
 have le0 := qak w k
 have e : pw n = ((2 ^ n : Nat) : Int) := rfl
 have key : ∀ {d : Dy}, d.Ok → d.val.natAbs ≤ 2 ^ n → d.top ≤ 16383 := by
   intro d ok h
   by_cases hm : d.m = []
   · unfold Dy.top; rw [if_pos hm]; omega
   · have := qaan ok hm h; omega
 exact ⟨key o1 (by omega), key o2 (by omega)⟩
theorem qaj5 {x : Iv} {p : Int} (w : x.W) (k : x.known = true) (hp : precB p = true) (h1 : modB x.lo = true) (h2 : modB x.hi = true) : (x.exp p).known = true ∧ pw 12288 ≤ (x.exp p).lo.val ∧ (x.exp p).hi.val ≤ pw 20480 := by
 obtain ⟨o1, o2⟩ := qai w k
 have kk := (qkt w k hp h1 h2 Rat.le_refl (rat_le.2 (qak w k))).1
 have e : x.exp p = endsI (qa8 x.lo p) (qa8 x.hi p) := by unfold Iv.exp; rw [k, hp, h1, h2]; rfl
 have b1 := (qg3 o1 hp h1).1
 have b2 := (qg3 o2 hp h2).1
 refine ⟨kk, ?_⟩
 have e2 : endsI (qa8 x.lo p) (qa8 x.hi p) = ⟨(qa8 x.lo p).lo, (qa8 x.hi p).hi, false⟩ := by
   unfold endsI; rw [(qav b1.k).2, (qav b2.k).2]; rfl
 rw [e, e2]
 exact ⟨b1.lo, b2.hi⟩
theorem qajw {x : Iv} {p : Int} (w : x.W) (k : x.known = true) (hp : precB p = true) (h1 : modB x.lo = true) (h2 : modB x.hi = true) : x.ins ((x.exp p).log p) = true := by
 obtain ⟨ke, b1, b2⟩ := qaj5 w k hp h1 h2
 have we : (x.exp p).W := exp_W w
 obtain ⟨e1, e2⟩ := qai we ke
 have p0 := qax 12288
 have s0 : 0 < (x.exp p).lo.sgn := (qdr e1).1.2 (by omega)
 have le0 := qak we ke
 have pn := qax 20480
 obtain ⟨t1, t2⟩ := qz3 (n := 20480) we ke (by omega) b2 (by omega)
 have l1 := qfa (p := p) we ke hp s0 t1 t2 (q := (x.exp p).lo.rat) Rat.le_refl (rat_le.2 le0)
 have l2 := qfa (p := p) we ke hp s0 t1 t2 (q := (x.exp p).hi.rat) (rat_le.2 le0) Rat.le_refl
 have a1 := qpm ke (qkt w k hp h1 h2 (q := x.lo.rat) Rat.le_refl (rat_le.2 (qak w k))).2
 have a2 := qpm ke (qkt w k hp h1 h2 (q := x.hi.rat) (rat_le.2 (qak w k)) Rat.le_refl).2
 have r1 : ((x.exp p).log p).lo.rat ≤ x.lo.rat := qadi (SLe.trans (l1.2 l1.1).1 a1.1)
 have r2 : x.hi.rat ≤ ((x.exp p).log p).hi.rat := qadi (SLe.trans a2.2 (l2.2 l2.1).2)
 exact q7x w log_W k l1.1 (rat_le.1 r1) (rat_le.1 r2)
theorem qajx {x : Iv} {p : Int} (w : x.W) (k : x.known = true) (hp : precB p = true) (s0 : 0 < x.lo.sgn) (t1 : x.lo.top ≤ 16383) (t2 : x.hi.top ≤ 16383) : x.ins ((x.log p).exp p) = true := by
 have wl : (x.log p).W := log_W
 have le0 := qak w k
 have l1 := qfa (p := p) w k hp s0 t1 t2 (q := x.lo.rat) Rat.le_refl (rat_le.2 le0)
 have l2 := qfa (p := p) w k hp s0 t1 t2 (q := x.hi.rat) (rat_le.2 le0) Rat.le_refl
 have kl := l1.1
 by_cases hm : (modB (x.log p).lo && modB (x.log p).hi) = true
 · simp only [Bool.and_eq_true] at hm
   obtain ⟨m1, m2⟩ := hm
   have q1 := qkt (p := p) wl kl hp m1 m2 (q := (x.log p).lo.rat) Rat.le_refl (rat_le.2 (qak wl kl))
   have q2 := qkt (p := p) wl kl hp m1 m2 (q := (x.log p).hi.rat) (rat_le.2 (qak wl kl)) Rat.le_refl
   have r1 := ((qpm q1.1 q1.2).1.trans (l1.2 l1.1).1).const
   have r2 := (SLe.trans (l2.2 l2.1).2 (qpm q2.1 q2.2).2).const
   exact q7x w (exp_W wl) k q1.1 (rat_le.1 r1) (rat_le.1 r2)
 · have e : (x.log p).exp p = Iv.whole := by
     unfold Iv.exp
     rw [if_neg]
     intro h
     simp only [Bool.and_eq_true] at h hm
     exact hm ⟨h.1.2, h.2⟩
   rw [e]
   exact qcq (qav k).1
theorem q9n (x : Iv) (p : Int) (l : x.Lm) : CQ prog qks [x.v, .int .i64 p] (.bool true) := by
 refine qag rfl fun H => ?_
 simp
 refine qaa rfl rfl rfl qg8 ?_
 simp
 refine qaa rfl rfl rfl (qlv x p l) ?_
 cases hs : qg2 x p
 · simp
 obtain ⟨w, k, hp, m1, m2, _, _⟩ := qe8 l hs
 have we : (x.exp p).W := exp_W w
 have ce := qmj x p w
 have cl := qoh (x.exp p) p we
 have wl : ((x.exp p).log p).W := log_W
 have ci := qzz x ((x.exp p).log p) w wl
 rw [qajw w k hp m1 m2] at ci
 simp
 refine qaa rfl rfl rfl ce ?_
 simp
 refine qaa rfl rfl rfl cl ?_
 simp
 refine qaa rfl rfl rfl ci ?_
 simp
 refine qaa rfl rfl rfl (qlx x (-64) 64 w) ?_
 cases hb : powB x (-64) 64
 · simp
 obtain ⟨_, s1, t1, t2, _, _⟩ := qop w hb (by omega) (by omega) (by omega) (by omega)
 have wl2 : (x.log p).W := log_W
 have cl2 := qoh x p w
 have ce2 := qmj (x.log p) p wl2
 have we2 : ((x.log p).exp p).W := exp_W wl2
 have ci2 := qzz x ((x.log p).exp p) w we2
 rw [qajx w k hp s1 t1 t2] at ci2
 simp
 refine qaa rfl rfl rfl cl2 ?_
 simp
 refine qaa rfl rfl rfl ce2 ?_
 simp
 refine qaa rfl rfl rfl ci2 ?_
 simp
theorem q7o (a b : Iv) (wa : a.W) (wb : b.W) : CQ prog qma [a.v, b.v] (.bool (meetB a b)) := by
 refine qag rfl fun H => ?_
 have c := q70 a b wa wb
 simp only [meetV] at c
 simp
 refine qaa rfl rfl rfl c ?_
 simp [meetB]
theorem qaat {x y : Iv} {p : Int} (wx : x.W) (wy : y.W) (kx : x.known = true) (ky : y.known = true) : meetB ((x.exp p).mul (y.exp p) p) ((x.add y p).exp p) = true := by
 obtain ⟨g1, h1⟩ := q15 (p := p) wx
 obtain ⟨g2, h2⟩ := q15 (p := p) wy
 obtain ⟨g3, h3⟩ := q15 (p := p) (add_W (x := x) (y := y) (p := p))
 have i1 := In_lo wx kx
 have i2 := In_lo wy ky
 have a := qace (p := p) (exp_W wx) (exp_W wy) (h1 _ i1) (h2 _ i2) (qog _) (qog _)
 have b := h3 _ (qic (p := p) wx wy i1 i2)
 exact ql7 mul_W (exp_W add_W) (qy6 (exp_W wx) (exp_W wy)) g3 (a.near (qzl _ _).symm) b
theorem q9i {x y : Iv} {p : Int} (wx : x.W) (wy : y.W) (kx : x.known = true) (ky : y.known = true) (hp : precB p = true) (ax : -pw 16448 ≤ x.lo.val) (bx : x.hi.val ≤ pw 16448) (ay : -pw 16448 ≤ y.lo.val) (by' : y.hi.val ≤ pw 16448) (px : 0 < x.lo.val) (py : 0 < y.lo.val) :
   meetB ((x.mul y p).log p) ((x.log p).add (y.log p) p) = true := by
 have m := qy7 (c := pw 16512) wx wy hp ⟨kx, ax, bx⟩ ⟨ky, ay, by'⟩ (qa3 (by omega)) (by rw [← qa5, ← qa5]; exact pw_le (by omega))
 obtain ⟨g1, h1⟩ := q5j (p := p) wx fun k => qz3 wx k ax bx (by omega)
 obtain ⟨g2, h2⟩ := q5j (p := p) wy fun k => qz3 wy k ay by' (by omega)
 obtain ⟨g3, h3⟩ := q5j (p := p) (mul_W (x := x) (y := y) (p := p)) fun k => qz3 mul_W k m.lo m.hi (by omega)
 have i1 := In_lo wx kx
 have i2 := In_lo wy ky
 have nn : ∀ {d : Dy}, 0 < d.val → 0 ≤ d.rat := fun {d} h => by
   have := rat_le.2 (show Dy.zero.val ≤ d.val by rw [qc2]; omega)
   rwa [qz0] at this
 have a := h3 _ (ql6 (p := p) wx wy i1 i2)
 have b := qs1 (p := p) log_W log_W (nn px) (nn py) (h1 _ i1) (h2 _ i2)
 exact qvd log_W add_W g3 (q4r log_W log_W) a b
theorem qae4 (x y : Iv) (p : Int) (lx : x.Lm) (ly : y.Lm) : CQ prog qoi [x.v, y.v, .int .i64 p] (.bool true) := by
 refine qag rfl fun H => ?_
 simp
 refine qaa rfl rfl rfl qg8 ?_
 simp
 refine qaa rfl rfl rfl (qlv x p lx) ?_
 cases hs : qg2 x p
 · simp
 obtain ⟨wx, kx, hp, _, _, ax, bx⟩ := qe8 lx hs
 simp
 refine qaa rfl rfl rfl (qlv y p ly) ?_
 cases hs2 : qg2 y p
 · simp
 obtain ⟨wy, ky, _, _, _, ay, by'⟩ := qe8 ly hs2
 have wex : (x.exp p).W := exp_W wx
 have wey : (y.exp p).W := exp_W wy
 have wm : ((x.exp p).mul (y.exp p) p).W := mul_W
 have wa : (x.add y p).W := add_W
 have wea : ((x.add y p).exp p).W := exp_W wa
 have c1 := qmj x p wx
 have c2 := qmj y p wy
 have c3 := q6i (x.exp p) (y.exp p) p wex wey
 have c4 := qs5 x y p wx wy
 have c5 := qmj (x.add y p) p wa
 have c6 := q7o _ _ wm wea
 rw [qaat wx wy kx ky] at c6
 have r1 := qlx x (-64) 64 wx
 have r2 := qlx y (-64) 64 wy
 generalize (x.add y p).exp p = b at *
 generalize (x.exp p).mul (y.exp p) p = a at *
 simp
 refine qaa rfl rfl rfl c1 ?_
 simp
 refine qaa rfl rfl rfl c2 ?_
 simp
 refine qaa rfl rfl rfl c3 ?_
 simp
 refine qaa rfl rfl rfl c4 ?_
 simp
 refine qaa rfl rfl rfl c5 ?_
 simp
 refine qaa rfl rfl rfl c6 ?_
 simp
 refine qaa rfl rfl rfl r1 ?_
 cases hb : powB x (-64) 64
 · simp
 simp
 refine qaa rfl rfl rfl r2 ?_
 cases hb2 : powB y (-64) 64
 · simp
 obtain ⟨_, s1, _, _, q1, q2⟩ := qop wx hb (by omega) (by omega) (by omega) (by omega)
 obtain ⟨_, s2, _, _, q3, q4⟩ := qop wy hb2 (by omega) (by omega) (by omega) (by omega)
 have q2' : x.hi.val ≤ pw 16448 := q2
 have q4' : y.hi.val ≤ pw 16448 := q4
 have p1 := qax (16384 + (-64 : Int)).toNat
 have p2 := qax 16448
 have pm := q9i (p := p) wx wy kx ky hp (by omega) q2' (by omega) q4' (by omega) (by omega)
 have wlx : (x.log p).W := log_W
 have wly : (y.log p).W := log_W
 have wxy : (x.mul y p).W := mul_W
 have wlm : ((x.mul y p).log p).W := log_W
 have wll : ((x.log p).add (y.log p) p).W := add_W
 have d1 := q6i x y p wx wy
 have d2 := qoh (x.mul y p) p wxy
 have d3 := qoh x p wx
 have d4 := qoh y p wy
 have d5 := qs5 (x.log p) (y.log p) p wlx wly
 have d6 := q7o _ _ wlm wll
 rw [pm] at d6
 simp
 refine qaa rfl rfl rfl d1 ?_
 simp
 refine qaa rfl rfl rfl d2 ?_
 simp
 refine qaa rfl rfl rfl d3 ?_
 simp
 refine qaa rfl rfl rfl d4 ?_
 simp
 refine qaa rfl rfl rfl d5 ?_
 simp
 refine qaa rfl rfl rfl d6 ?_
 simp
end Go.Abs.W
