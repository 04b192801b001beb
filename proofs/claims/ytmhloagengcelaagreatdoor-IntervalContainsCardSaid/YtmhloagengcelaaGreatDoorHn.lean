/- Parts of the proof: FpIvN. -/
import Derived.Test.YtmhloagengcelaaGreatDoorHk
/- The law IntervalContains. -/
namespace Go.Abs.W

theorem in_cq (z : Iv) (d : Dy) (e : Int) (wz : z.W) (wd : d.W) (h : e ≠ 0 ∨ z.has d = true) : CQ prog g_fplaw05_IntervalContains_1 [z.v, d.v, .int .i64 e] (.bool true) := by
 refine CQ_run rfl fun H => ?_
 by_cases he : e = 0
 · have hh := h.resolve_left (fun h2 => h2 he)
   have c := IHas_cq z d wz wd
   rw [hh] at c
   simp [he]
   refine WL_call rfl rfl rfl c ?_
   simp
 · simp [he]

theorem exW {d : Dy} (w : d.W) : d.ex.1.W := by
 unfold Dy.ex; dsimp only; split
 · exact w
 · exact Dy.zero_W
theorem exAddW {a b : Dy} (oa : a.Ok) (ob : b.Ok) : (exAdd a b).1.W := by
 unfold exAdd; split
 · exact exW (sumW oa ob)
 · exact Dy.zero_W
theorem exSubW {a b : Dy} (oa : a.Ok) (ob : b.Ok) : (exSub a b).1.W := by
 unfold exSub; split
 · exact exW (sumW oa (neg'_ok ob))
 · exact Dy.zero_W
theorem exMulW {a b : Dy} (oa : a.Ok) (ob : b.Ok) : (exMul a b).1.W := by
 unfold exMul; split
 · exact exW (prodW oa ob)
 · exact Dy.zero_W

def Dy.wideC (d : Dy) : Bool := decide (40 < d.m.length) || decide (d.e < -2000) || decide (2000 < d.e)

theorem contains_cq (x y : Iv) (a b : Dy) (p : Int) (lx : x.Lm) (ly : y.Lm) (la : Li a.m) (lb : Li b.m) : CQ prog g_fplaw05_IntervalContains [x.v, y.v, a.v, b.v, .int .i64 p] (.bool true) := by
 refine CQ_run rfl fun H => ?_
 simp
 refine WL_call rfl rfl rfl awake5_cq ?_
 simp
 refine WK_up (fun i E H' => (∃ G, H' = H ++ some ⟨7, [x.v], false, true⟩ :: some ⟨7, [y.v], false, true⟩ :: some ⟨3, [a.v], false, true⟩ :: some ⟨3, [b.v], false, true⟩ :: some ⟨3, [x.lo.v, x.hi.v, y.lo.v, y.hi.v, a.v, b.v], true, true⟩ :: G) ∧ E 4 = .int .i64 p ∧ E 5 = .ptr H.length 0 0 ∧ E 6 = .ptr (H.length + 1) 0 0 ∧ E 7 = .ptr (H.length + 2) 0 0 ∧ E 8 = .ptr (H.length + 3) 0 0 ∧ E 39 = .ref (H.length + 4) 3 0 6 ∧ E 40 = .int .i64 6 ∧ E 41 = .int .i64 i ∧
   (∀ (j : Nat) (d : Dy), j < i → [x.lo, x.hi, y.lo, y.hi, a, b][j]? = some d → d.wideC = false)) 6 ?_ ?_
 · simp
 · rintro i E H' hi ⟨⟨G, rfl⟩, h4, h5, h6, h7, h8, h39, h40, h41, hp⟩
   by_cases h : i < 6
   · obtain rfl | rfl | rfl | rfl | rfl | rfl : i = 0 ∨ i = 1 ∨ i = 2 ∨ i = 3 ∨ i = 4 ∨ i = 5 := by omega
     · have wr : IntKind.i64.wrap (1 : Int) = 1 := wrap_i64 (by omega) (by omega)
       simp [c_fplaw05_IntervalContains_l0, h4, h5, h6, h7, h8, h39, h40, h41, lim]
       intro q1 q2 q3
       refine ⟨wr, fun j d hj hd => ?_⟩
       rcases Nat.lt_or_ge j 0 with hjk | hjk
       · exact hp j d hjk hd
       · obtain rfl : j = 0 := by omega
         simp at hd
         subst hd
         simp [Dy.wideC]; omega
     · have wr : IntKind.i64.wrap (2 : Int) = 2 := wrap_i64 (by omega) (by omega)
       simp [c_fplaw05_IntervalContains_l0, h4, h5, h6, h7, h8, h39, h40, h41, lim]
       intro q1 q2 q3
       refine ⟨by simpa using wr, fun j d hj hd => ?_⟩
       rcases Nat.lt_or_ge j 1 with hjk | hjk
       · exact hp j d hjk hd
       · obtain rfl : j = 1 := by omega
         simp at hd
         subst hd
         simp [Dy.wideC]; omega
     · have wr : IntKind.i64.wrap (3 : Int) = 3 := wrap_i64 (by omega) (by omega)
       simp [c_fplaw05_IntervalContains_l0, h4, h5, h6, h7, h8, h39, h40, h41, lim]
       intro q1 q2 q3
       refine ⟨by simpa using wr, fun j d hj hd => ?_⟩
       rcases Nat.lt_or_ge j 2 with hjk | hjk
       · exact hp j d hjk hd
       · obtain rfl : j = 2 := by omega
         simp at hd
         subst hd
         simp [Dy.wideC]; omega
     · have wr : IntKind.i64.wrap (4 : Int) = 4 := wrap_i64 (by omega) (by omega)
       simp [c_fplaw05_IntervalContains_l0, h4, h5, h6, h7, h8, h39, h40, h41, lim]
       intro q1 q2 q3
       refine ⟨by simpa using wr, fun j d hj hd => ?_⟩
       rcases Nat.lt_or_ge j 3 with hjk | hjk
       · exact hp j d hjk hd
       · obtain rfl : j = 3 := by omega
         simp at hd
         subst hd
         simp [Dy.wideC]; omega
     · have wr : IntKind.i64.wrap (5 : Int) = 5 := wrap_i64 (by omega) (by omega)
       simp [c_fplaw05_IntervalContains_l0, h4, h5, h6, h7, h8, h39, h40, h41, lim]
       intro q1 q2 q3
       refine ⟨by simpa using wr, fun j d hj hd => ?_⟩
       rcases Nat.lt_or_ge j 4 with hjk | hjk
       · exact hp j d hjk hd
       · obtain rfl : j = 4 := by omega
         simp at hd
         subst hd
         simp [Dy.wideC]; omega
     · have wr : IntKind.i64.wrap (6 : Int) = 6 := wrap_i64 (by omega) (by omega)
       simp [c_fplaw05_IntervalContains_l0, h4, h5, h6, h7, h8, h39, h40, h41, lim]
       intro q1 q2 q3
       refine ⟨by simpa using wr, fun j d hj hd => ?_⟩
       rcases Nat.lt_or_ge j 5 with hjk | hjk
       · exact hp j d hjk hd
       · obtain rfl : j = 5 := by omega
         simp at hd
         subst hd
         simp [Dy.wideC]; omega
   · have : i = 6 := by omega
     subst this
     simp [c_fplaw05_IntervalContains_l0, h5, h7, h40, h41]
     have nw : ∀ (j : Nat) (d : Dy), j < 6 → [x.lo, x.hi, y.lo, y.hi, a, b][j]? = some d → Li d.m → d.W := fun j d hj hd hl => by
       have := hp j d hj hd
       simp [Dy.wideC] at this
       exact ⟨hl, by omega⟩
     have wx : x.W := ⟨nw 0 _ (by omega) rfl lx.1, nw 1 _ (by omega) rfl lx.2⟩
     have wy : y.W := ⟨nw 2 _ (by omega) rfl ly.1, nw 3 _ (by omega) rfl ly.2⟩
     have wa : a.W := nw 4 _ (by omega) rfl la
     have wb : b.W := nw 5 _ (by omega) rfl lb
     refine WL_call rfl rfl rfl (IHas_cq x a wx wa) ?_
     cases ha : x.has a
     · simp
     simp [h6, h8]
     refine WL_call rfl rfl rfl (IHas_cq y b wy wb) ?_
     cases hb : y.has b
     · simp
     simp [h7, h8]
     refine WL_call rfl rfl rfl (RAdd2_cq a b wa wb) ?_
     simp [h7, h8]
     refine WL_call rfl rfl rfl (RSub2_cq a b wa wb) ?_
     simp [h7, h8]
     refine WL_call rfl rfl rfl (RMul2_cq a b wa wb) ?_
     simp [h7]
     refine WL_call rfl rfl rfl (RMul2_cq a a wa wa) ?_
     simp [h4, h5, h6]
     obtain ⟨oa, ra⟩ := has_to wx wa ha
     obtain ⟨ob, rb⟩ := has_to wy wb hb
     have c1 : (exAdd a b).2 ≠ 0 ∨ (x.add y p).has (exAdd a b).1 = true := by
       by_cases h : (exAdd a b).2 = 0
       · obtain ⟨o, v⟩ := exAdd_val oa ob h
         exact .inr (add_has wx wy wa wb ha hb o v)
       · exact .inl h
     have c2 : (exSub a b).2 ≠ 0 ∨ (x.add y.neg p).has (exSub a b).1 = true := by
       by_cases h : (exSub a b).2 = 0
       · obtain ⟨o, v⟩ := exSub_val oa ob h
         exact .inr (add_has wx (neg_W wy) wa (neg'_ok ob).w ha (neg_has wy wb hb) o (by rw [v, val_neg']; omega))
       · exact .inl h
     have c3 : (exMul a b).2 ≠ 0 ∨ (x.mul y p).has (exMul a b).1 = true := by
       by_cases h : (exMul a b).2 = 0
       · obtain ⟨o, v⟩ := exMul_val oa ob h
         exact .inr (mul_has wx wy wa wb ha hb o v)
       · exact .inl h
     have c4 : (exMul a a).2 ≠ 0 ∨ (x.sq p).has (exMul a a).1 = true := by
       by_cases h : (exMul a a).2 = 0
       · obtain ⟨o, v⟩ := exMul_val oa oa h
         exact .inr (sq_has wx wa ha o v)
       · exact .inl h
     refine WL_call rfl rfl rfl (IAdd_cq x y p wx wy) ?_
     simp
     refine WL_call rfl rfl rfl (in_cq _ _ _ add_W (exAddW oa ob) c1) ?_
     simp [h4, h5, h6]
     refine WL_call rfl rfl rfl (ISub_cq x y p wx wy) ?_
     simp
     refine WL_call rfl rfl rfl (in_cq _ _ _ add_W (exSubW oa ob) c2) ?_
     simp [h4, h5, h6]
     refine WL_call rfl rfl rfl (IMul_cq x y p wx wy) ?_
     simp
     refine WL_call rfl rfl rfl (in_cq _ _ _ mul_W (exMulW oa ob) c3) ?_
     simp [h4, h5]
     refine WL_call rfl rfl rfl (ISquare_cq x p wx) ?_
     simp
     refine WL_call rfl rfl rfl (in_cq _ _ _ sq_W (exMulW oa oa) c4) ?_
     simp [h4, h5, h6]
     have dh := div_has (p := p) wx wy wa wb ha hb
     have wz := div_W (x := x) (y := y) (p := p)
     refine WL_call rfl rfl rfl (IDiv_cq x y p wx wy) ?_
     generalize x.div y p = z at *
     cases hz : z.all
     · obtain ⟨kz, b0, e1, e2⟩ := dh hz
       obtain ⟨o1, o2⟩ := known_ok wz kz
       simp [hz, h8]
       refine WL_call rfl rfl rfl (RMul2_cq z.lo b wz.lo wb) ?_
       simp [h8]
       refine WL_call rfl rfl rfl (RMul2_cq z.hi b wz.hi wb) ?_
       by_cases m1 : (exMul z.lo b).2 = 0
       · by_cases m2 : (exMul z.hi b).2 = 0
         · obtain ⟨p1, v1⟩ := exMul_val o1 ob m1
           obtain ⟨p2, v2⟩ := exMul_val o2 ob m2
           simp [m1, m2, h8]
           refine WL_call rfl rfl rfl (RSign_cq b) ?_
           by_cases hs : b.sgn < 0
           · have hb := (sgn_val ob).2.1 hs
             rw [divLe_neg (by omega)] at e1
             rw [divGe_neg (by omega)] at e2
             have f1 := (le_scale (x := a.val) (y := (exMul z.lo b).1.val) (pw_pos 16384)).1 (by omega)
             have f2 := (le_scale (x := (exMul z.hi b).1.val) (y := a.val) (pw_pos 16384)).1 (by omega)
             have g1 : (exMul z.hi b).1.cmp a ≤ 0 := by rw [cmp_ok p2 oa, cmpI_le]; exact f2
             have g2 : a.cmp (exMul z.lo b).1 ≤ 0 := by rw [cmp_ok oa p1, cmpI_le]; exact f1
             simp [hs, h7]
             refine WL_call rfl rfl rfl (RCmp_cq (exMul z.hi b).1 a p2 oa) ?_
             simp [g1, h7]
             refine WL_call rfl rfl rfl (RCmp_cq a (exMul z.lo b).1 oa p1) ?_
             simp [g2]
           · have hb : 0 < b.val := by have := mt (sgn_val ob).2.2 hs; omega
             rw [divLe_pos hb] at e1
             rw [divGe_pos hb] at e2
             have f1 := (le_scale (x := (exMul z.lo b).1.val) (y := a.val) (pw_pos 16384)).1 (by omega)
             have f2 := (le_scale (x := a.val) (y := (exMul z.hi b).1.val) (pw_pos 16384)).1 (by omega)
             have g1 : (exMul z.lo b).1.cmp a ≤ 0 := by rw [cmp_ok p1 oa, cmpI_le]; exact f1
             have g2 : a.cmp (exMul z.hi b).1 ≤ 0 := by rw [cmp_ok oa p2, cmpI_le]; exact f2
             simp [hs, h7]
             refine WL_call rfl rfl rfl (RCmp_cq (exMul z.lo b).1 a p1 oa) ?_
             simp [g1, h7]
             refine WL_call rfl rfl rfl (RCmp_cq a (exMul z.hi b).1 oa p2) ?_
             simp [g2]
         · simp [m1, m2]
       · simp [m1]
     · simp [hz]

end Go.Abs.W

