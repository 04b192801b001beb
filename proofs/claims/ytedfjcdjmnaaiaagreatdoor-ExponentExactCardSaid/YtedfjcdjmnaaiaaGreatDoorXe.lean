/- Parts of the proof: FpXj, FpXk. -/
import Derived.Test.YtedfjcdjmnaaiaaGreatDoorXd
namespace Go.Abs.W
def Iv.Gd (x : Iv) : Prop := x = Iv.whole ∨ x.known = true
theorem q0p {r s : Iv} (h : r.ins s = true) : r.valid = true := by
 simp only [Iv.ins, Bool.and_eq_true] at h
 exact h.1.1
theorem Gd.of_valid {r : Iv} (h : r.valid = true) (hw : r.all = true → r = Iv.whole) : r.Gd := by
 cases ha : r.all
 · right; simp [Iv.known, ha, h]
 · exact .inl (hw ha)
theorem qaf0 {r s : Dy × Int} (h : (Iv.made r s).all = true) : Iv.made r s = Iv.whole := by
 unfold Iv.made at h ⊢
 split at h
 · cases h
 · rename_i h2; rw [if_neg h2]
theorem q75 {f g : Dy → Dy → Dy × Int} {x y : Iv} (h : (Iv.four f g x y).all = true) : Iv.four f g x y = Iv.whole := by
 by_cases hg : good4 f g x y 4
 · rw [qdx hg] at h; cases h
 · exact q10 hg
theorem qy5 {x y : Iv} {p : Int} (wx : x.W) (wy : y.W) : (x.mul y p).Gd := by
 unfold Iv.mul
 split
 · rename_i h
   have h2 := h
   simp only [Bool.and_eq_true] at h2
   have v := q0p (qajj (p := p) wx wy wx wy (.inr ⟨h2.1.1, h2.1.1, Int.le_refl _, Int.le_refl _⟩) (.inr ⟨h2.1.2, h2.1.2, Int.le_refl _, Int.le_refl _⟩))
   unfold Iv.mul at v
   rw [if_pos h] at v
   exact Gd.of_valid v q75
 · exact .inl rfl
theorem qaid {x y : Iv} {p : Int} (wx : x.W) (wy : y.W) : (x.div y p).Gd := by
 unfold Iv.div
 split
 · rename_i h
   have h2 := h
   simp only [Bool.and_eq_true] at h2
   have v := q0p (qake (p := p) wx wy wx wy (.inr ⟨h2.1.1.1, h2.1.1.1, Int.le_refl _, Int.le_refl _⟩) (.inr ⟨h2.1.1.2, h2.1.1.2, Int.le_refl _, Int.le_refl _⟩))
   unfold Iv.div at v
   rw [if_pos h] at v
   exact Gd.of_valid v q75
 · exact .inl rfl
theorem qds (k : Int) (h1 : -4611686018427387904 ≤ k) (h2 : k ≤ 4611686018427387904) : CQ prog q07 [.int .i64 k] (nI k k).v := by
 refine qag rfl fun H => ?_
 have c := qpl k h1 h2
 rw [← show nD k = Dy.of (decide (k < 0)) k.natAbs 0 from rfl] at c
 have d := qr6 (nD k)
 rw [show Iv.pt (nD k) = nI k k from rfl] at d
 simp
 refine qaa rfl rfl rfl c ?_
 simp
 refine qaa rfl rfl rfl d ?_
 simp [lim]
theorem qkf (x y : Iv) (wx : x.W) (wy : y.W) : CQ prog q06 [x.v, y.v] (x.add y 320).v := by
 refine qag rfl fun H => ?_
 simp
 refine qaa rfl rfl rfl (q8t x y 320 wx wy) ?_
 simp [lim]
theorem qkd (x y : Iv) (wx : x.W) (wy : y.W) : CQ prog q04 [x.v, y.v] (x.mul y 320).v := by
 refine qag rfl fun H => ?_
 simp
 refine qaa rfl rfl rfl (q8s x y 320 wx wy) ?_
 simp [lim]
theorem qpq (x y : Iv) (wx : x.W) (wy : y.W) : CQ prog q05 [x.v, y.v] (x.div y 320).v := by
 refine qag rfl fun H => ?_
 simp
 refine qaa rfl rfl rfl (qahb x y 320 wx wy) ?_
 simp [lim]
theorem qyp (x : Iv) (wx : x.W) (g : x.Gd) : CQ prog qtr [x.v] (qfj x).v := by
 refine qag rfl fun H => ?_
 rcases g with rfl | hk
 · simp [qfj, Iv.whole, lim]
 · have ha := (qav hk).2
   have c := qaep x wx hk
   have e : qfj x = ⟨x.mag.neg', x.mag, false⟩ := by unfold qfj; rw [ha]; rfl
   rw [e]
   rcases x with ⟨xl, xh, xa⟩
   simp only at ha
   subst ha
   simp
   refine qaa rfl rfl rfl c ?_
   simp
   refine qaa rfl rfl rfl (qr8 (Iv.mk xl xh false).mag) ?_
   simp [lim]
theorem qom {x : Iv} (wx : x.W) (g : x.Gd) : (qfj x).W := by
 unfold qfj
 split
 · exact wx
 · rcases g with rfl | hk
   · rename_i h; exact absurd rfl h
   · have ok := qou wx hk
     exact ⟨(qb8 ok).w, ok.w⟩
theorem qabz {y : Iv} : ∀ (f i : Nat) (t s : Iv), t.W → s.W → (rExpG y f i t s).1.W ∧ (rExpG y f i t s).2.W
 | 0, _, _, _, wt, ws => ⟨wt, ws⟩
 | f + 1, i, _t, _s, _, _ => qabz f (i + 1) _ _ div_W add_W
theorem sqN_W : ∀ (n : Nat) (s : Iv), s.W → (sqN n s).W
 | 0, _, w => w
 | n + 1, _, _ => sqN_W n _ mul_W
def rExpS (y : Iv) : Iv := (rExpG y 20 1 (nI 1 1) (nI 1 1)).2.add (qfj ((((rExpG y 20 1 (nI 1 1) (nI 1 1)).1.mul y 320).div (nI 21 21) 320).mul (nI 2 2) 320)) 320
theorem q0d {d : Dy} (h : d.m ≠ []) : rExp d = sqN (d.top + 16).toNat (rExpS ((Iv.pt d).scl (-((d.top + 16).toNat : Nat)))) := by
 unfold rExp; rw [if_neg h]; rfl
theorem qsd (d : Dy) (ok : d.Ok) : CQ prog qrs [d.v] (rExp d).v := by
 refine qag rfl fun H => ?_
 have w1 : (nI 1 1).W := nI_Wk (by decide)
 have c1 := qds 1 (by omega) (by omega)
 by_cases hm : d.m = []
 · simp [hm, lim]
   refine qaa rfl rfl rfl c1 ?_
   simp [rExp, hm, lim]
 · rw [q0d hm]
   have ht := ok.top_pos hm
   have htop : d.top ≤ 16384 := by have := ok.top; unfold Dy.top; rw [if_neg hm]; exact this
   have t := qs2 d ok
   obtain ⟨k, hk⟩ : ∃ k : Nat, k = (d.top + 16).toNat := ⟨_, rfl⟩
   rw [← hk]
   have e1 : IntKind.i64.wrap (d.top + 16) = d.top + 16 := by rw [wrap_i64] <;> omega
   have e2 : (if (0 : Int) < d.top + 16 then d.top + 16 else 0) = (k : Int) := by split <;> omega
   have e3 : IntKind.i64.wrap (-(k : Int)) = -(k : Int) := by rw [wrap_i64] <;> omega
   have cs := qp0 (Iv.pt d) (-(k : Int)) (pt_W ok.w)
   have wy : ((Iv.pt d).scl (-(k : Int))).W := qfe
   generalize hy : (Iv.pt d).scl (-(k : Int)) = y at *
   simp [hm, lim]
   refine qaa rfl rfl rfl t ?_
   simp [e1, e2]
   refine qaa rfl rfl rfl (qr6 d) ?_
   simp [e3]
   refine qaa rfl rfl rfl cs ?_
   simp
   refine qaa rfl rfl rfl c1 ?_
   simp
   refine qaa rfl rfl rfl c1 ?_
   simp
   refine WK_up (fun i E H' => ∃ (t s : Iv), H' = H ++ [some ⟨3, [d.v], false, true⟩, some ⟨7, [zIv], false, true⟩, some ⟨7, [y.v], false, true⟩, some ⟨7, [s.v], false, true⟩, some ⟨7, [t.v], false, true⟩] ∧
     E 2 = .ptr (H.length + 1) 0 0 ∧ E 3 = .int .i64 k ∧ E 4 = .ptr (H.length + 2) 0 0 ∧ E 5 = .ptr (H.length + 3) 0 0 ∧ E 6 = .ptr (H.length + 4) 0 0 ∧ E 7 = .int .i64 ((i + 1 : Nat) : Int) ∧ t.W ∧ s.W ∧ rExpG y (20 - i) (i + 1) t s = rExpG y 20 1 (nI 1 1) (nI 1 1)) 20 ?_ ?_
   · exact ⟨nI 1 1, nI 1 1, by simp [zIv, lim], by simp, by simp, by simp, by simp, by simp, by simp, w1, w1, rfl⟩
   · rintro i E H' hi ⟨t, s, rfl, h2, h3, h4, h5, h6, h7, wt, ws, hg⟩
     by_cases hlt : i < 20
     · have l1 : ((i + 1 : Nat) : Int) ≤ 20 := by omega
       have cm := qkd t y wt wy
       have wm : (t.mul y 320).W := mul_W
       have cn := qds ((i + 1 : Nat) : Int) (by omega) (by omega)
       have wn : (nI ((i + 1 : Nat) : Int) ((i + 1 : Nat) : Int)).W := nI_Wk (by omega)
       have cd := qpq (t.mul y 320) (nI ((i + 1 : Nat) : Int) ((i + 1 : Nat) : Int)) wm wn
       have wd : ((t.mul y 320).div (nI ((i + 1 : Nat) : Int) ((i + 1 : Nat) : Int)) 320).W := div_W
       have ca := qkf s _ ws wd
       have wa : (s.add ((t.mul y 320).div (nI ((i + 1 : Nat) : Int) ((i + 1 : Nat) : Int)) 320) 320).W := add_W
       have e4 : IntKind.i64.wrap (((i + 1 : Nat) : Int) + 1) = ((i + 1 + 1 : Nat) : Int) := by rw [wrap_i64] <;> omega
       have hg2 : rExpG y (20 - (i + 1)) (i + 1 + 1) ((t.mul y 320).div (nI ((i + 1 : Nat) : Int) ((i + 1 : Nat) : Int)) 320) (s.add ((t.mul y 320).div (nI ((i + 1 : Nat) : Int) ((i + 1 : Nat) : Int)) 320) 320) = rExpG y 20 1 (nI 1 1) (nI 1 1) := by
         rw [← hg, show 20 - i = (20 - (i + 1)) + 1 by omega]; rfl
       generalize hS : s.add ((t.mul y 320).div (nI ((i + 1 : Nat) : Int) ((i + 1 : Nat) : Int)) 320) 320 = S at *
       generalize hT : (t.mul y 320).div (nI ((i + 1 : Nat) : Int) ((i + 1 : Nat) : Int)) 320 = T at *
       obtain ⟨j, hj⟩ : ∃ j : Nat, j = i + 1 := ⟨_, rfl⟩
       simp only [← hj] at *
       simp [qhv, h4, h6, h7, l1]
       refine qaa rfl rfl rfl cm ?_
       simp [h7]
       refine qaa rfl rfl rfl cn ?_
       simp
       refine qaa rfl rfl rfl cd ?_
       simp [h5, h6]
       refine qaa rfl rfl rfl ca ?_
       simp [h2, h3, h4, h5, h6, h7]
       exact ⟨hlt, T, S, by simp, by simpa using e4, wd, wa, hg2⟩
     · obtain rfl : i = 20 := by omega
       have hg' : (t, s) = rExpG y 20 1 (nI 1 1) (nI 1 1) := hg
       have et : (rExpG y 20 1 (nI 1 1) (nI 1 1)).1 = t := by rw [← hg']
       have es : (rExpG y 20 1 (nI 1 1) (nI 1 1)).2 = s := by rw [← hg']
       have cm := qkd t y wt wy
       have c21 := qds 21 (by omega) (by omega)
       have c2 := qds 2 (by omega) (by omega)
       have w21 : (nI 21 21).W := nI_Wk (by decide)
       have w2 : (nI 2 2).W := nI_Wk (by decide)
       have cd := qpq (t.mul y 320) (nI 21 21) mul_W w21
       have ce := qkd ((t.mul y 320).div (nI 21 21) 320) (nI 2 2) div_W w2
       have gd : (((t.mul y 320).div (nI 21 21) 320).mul (nI 2 2) 320).Gd := qy5 div_W w2
       have wmm : (((t.mul y 320).div (nI 21 21) 320).mul (nI 2 2) 320).W := mul_W
       have cr := qyp _ wmm gd
       have wr := qom wmm gd
       have ca := qkf s _ ws wr
       have eS : rExpS y = s.add (qfj (((t.mul y 320).div (nI 21 21) 320).mul (nI 2 2) 320)) 320 := by unfold rExpS; rw [et, es]
       rw [← eS] at ca
       have wS : (rExpS y).W := by rw [eS]; exact add_W
       generalize rExpS y = S at *
       simp [qhv, h4, h5, h6, h7]
       refine qaa rfl rfl rfl cm ?_
       simp
       refine qaa rfl rfl rfl c21 ?_
       simp
       refine qaa rfl rfl rfl cd ?_
       simp
       refine qaa rfl rfl rfl c2 ?_
       simp
       refine qaa rfl rfl rfl ce ?_
       simp
       refine qaa rfl rfl rfl cr ?_
       simp
       refine qaa rfl rfl rfl ca ?_
       simp [h5]
       refine WK_up (fun i E H' => ∃ (s : Iv), H' = H ++ [some ⟨3, [d.v], false, true⟩, some ⟨7, [zIv], false, true⟩, some ⟨7, [y.v], false, true⟩, some ⟨7, [s.v], false, true⟩, some ⟨7, [t.v], false, true⟩] ∧
         E 2 = .ptr (H.length + 1) 0 0 ∧ E 3 = .int .i64 k ∧ E 5 = .ptr (H.length + 3) 0 0 ∧ E 8 = .int .i64 i ∧ s.W ∧ sqN (k - i) s = sqN k S) k ?_ ?_
       · exact ⟨S, by simp [zIv, lim], by simp [h2], by simp [h3], by simp [h5], by simp, wS, rfl⟩
       · rintro i E H' hi ⟨s, rfl, h2, h3, h5, h8, ws, hg⟩
         by_cases hlt : i < k
         · have l1 : (i : Int) < k := by omega
           have cm := qkd s s ws ws
           have wm : (s.mul s 320).W := mul_W
           have e4 : IntKind.i64.wrap ((i : Int) + 1) = ((i + 1 : Nat) : Int) := by rw [wrap_i64] <;> omega
           have hg2 : sqN (k - (i + 1)) (s.mul s 320) = sqN k S := by
             rw [← hg, show k - i = (k - (i + 1)) + 1 by omega]; rfl
           simp [qhu, h3, h5, h8, l1]
           refine qaa rfl rfl rfl cm ?_
           simp [h2, h3, h5, h8]
           exact ⟨hlt, s.mul s 320, by simp, by simpa using e4, wm, hg2⟩
         · obtain rfl : i = k := by omega
           rw [Nat.sub_self] at hg
           have hg' : s = sqN i S := hg
           simp [qhu, h2, h3, h5, h8]
           simp [zIv, hg', lim]
end Go.Abs.W
namespace Go.Abs.W
def rRest (w : Iv) : Iv := qfj ((w.mul (nI 9 9) 320).div (nI 1624 1624) 320)
theorem q0e {z : Iv} : rArt z = (nI 2 2).mul ((rArtG (z.sq 320) 101 0 z (nI 0 0)).2.add (rRest (rArtG (z.sq 320) 101 0 z (nI 0 0)).1) 320) 320 := rfl
theorem q68 {z : Iv} : (rArt z).W := by rw [q0e]; exact mul_W
theorem qalw {z : Iv} {p : Int} (w : z.W) : z.abs.mul z.abs p = z.sq p := (qaa7 w).symm
theorem qyo (z : Iv) (wz : z.W) : CQ prog qtq [z.v] (rArt z).v := by
 refine qag rfl fun H => ?_
 have cq := q6d z 320 wz
 rw [qalw wz] at cq
 have wq : (z.sq 320).W := sq_W
 have c0 := qds 0 (by omega) (by omega)
 have w0 : (nI 0 0).W := nI_Wk (by decide)
 rw [q0e]
 generalize hq : z.sq 320 = q at *
 simp
 refine qaa rfl rfl rfl cq ?_
 simp
 refine qaa rfl rfl rfl c0 ?_
 simp [qah5, qacu, qah6, apart]
 refine WK_up (fun i E H' => ∃ (w s : Iv), H' = H ++ [some ⟨7, [z.v], false, true⟩, some ⟨7, [zIv], false, true⟩, some ⟨7, [q.v], false, true⟩, some ⟨7, [s.v], false, true⟩, some ⟨7, [w.v], false, true⟩] ∧
   E 2 = .ptr (H.length + 1) 0 0 ∧ E 3 = .ptr (H.length + 2) 0 0 ∧ E 4 = .ptr (H.length + 3) 0 0 ∧ E 5 = .ptr (H.length + 4) 0 0 ∧ E 6 = .int .i64 i ∧ w.W ∧ s.W ∧ rArtG q (101 - i) i w s = rArtG q 101 0 z (nI 0 0)) 101 ?_ ?_
 · exact ⟨z, nI 0 0, by simp [zIv, lim], by simp, by simp, by simp, by simp, by simp, wz, w0, rfl⟩
 · rintro i E H' hi ⟨w, s, rfl, h2, h3, h4, h5, h6, ww, ws, hg⟩
   by_cases hlt : i < 101
   · have l1 : (i : Int) ≤ 100 := by omega
     have e1 : IntKind.i64.wrap (2 * (i : Int)) = 2 * (i : Int) := by rw [wrap_i64] <;> omega
     have e2 : IntKind.i64.wrap (2 * (i : Int) + 1) = 2 * (i : Int) + 1 := by rw [wrap_i64] <;> omega
     have e4 : IntKind.i64.wrap ((i : Int) + 1) = ((i + 1 : Nat) : Int) := by rw [wrap_i64] <;> omega
     have cn := qds (2 * (i : Int) + 1) (by omega) (by omega)
     have wn : (nI (2 * (i : Int) + 1) (2 * (i : Int) + 1)).W := nI_Wk (by omega)
     have cd := qpq w (nI (2 * (i : Int) + 1) (2 * (i : Int) + 1)) ww wn
     have wd : (w.div (nI (2 * (i : Int) + 1) (2 * (i : Int) + 1)) 320).W := div_W
     have ca := qkf s _ ws wd
     have wa : (s.add (w.div (nI (2 * (i : Int) + 1) (2 * (i : Int) + 1)) 320) 320).W := add_W
     have cm := qkd w q ww wq
     have wm : (w.mul q 320).W := mul_W
     have hg2 : rArtG q (101 - (i + 1)) (i + 1) (w.mul q 320) (s.add (w.div (nI (2 * (i : Int) + 1) (2 * (i : Int) + 1)) 320) 320) = rArtG q 101 0 z (nI 0 0) := by
       rw [← hg, show 101 - i = (101 - (i + 1)) + 1 by omega]; rfl
     generalize hS : s.add (w.div (nI (2 * (i : Int) + 1) (2 * (i : Int) + 1)) 320) 320 = S at *
     generalize hM : w.mul q 320 = M at *
     simp [qe4, h4, h5, h6, l1, e1, e2]
     refine qaa rfl rfl rfl cn ?_
     simp
     refine qaa rfl rfl rfl cd ?_
     simp
     refine qaa rfl rfl rfl ca ?_
     simp [h3, h4, h5]
     refine qaa rfl rfl rfl cm ?_
     simp [h2, h3, h4, h5, h6]
     exact ⟨hlt, M, S, by simp, by simpa using e4, wm, wa, by rw [show 100 - i = 101 - (i + 1) by omega]; exact hg2⟩
   · obtain rfl : i = 101 := by omega
     have hg' : (w, s) = rArtG q 101 0 z (nI 0 0) := hg
     have ew : (rArtG q 101 0 z (nI 0 0)).1 = w := by rw [← hg']
     have es : (rArtG q 101 0 z (nI 0 0)).2 = s := by rw [← hg']
     rw [ew, es]
     have c9 := qds 9 (by omega) (by omega)
     have c16 := qds 1624 (by omega) (by omega)
     have c2 := qds 2 (by omega) (by omega)
     have w9 : (nI 9 9).W := nI_Wk (by decide)
     have w16 : (nI 1624 1624).W := nI_Wk (by decide)
     have w2 : (nI 2 2).W := nI_Wk (by decide)
     have cm := qkd w (nI 9 9) ww w9
     have cd := qpq (w.mul (nI 9 9) 320) (nI 1624 1624) mul_W w16
     have gd : ((w.mul (nI 9 9) 320).div (nI 1624 1624) 320).Gd := qaid mul_W w16
     have wdd : ((w.mul (nI 9 9) 320).div (nI 1624 1624) 320).W := div_W
     have cr := qyp _ wdd gd
     have wr := qom wdd gd
     rw [show qfj ((w.mul (nI 9 9) 320).div (nI 1624 1624) 320) = rRest w from rfl] at cr wr
     have ca := qkf s _ ws wr
     have cf := qkd (nI 2 2) (s.add (rRest w) 320) w2 add_W
     simp [qe4, h5, h6]
     refine qaa rfl rfl rfl c9 ?_
     simp
     refine qaa rfl rfl rfl cm ?_
     simp
     refine qaa rfl rfl rfl c16 ?_
     simp
     refine qaa rfl rfl rfl cd ?_
     simp
     refine qaa rfl rfl rfl cr ?_
     simp
     refine qaa rfl rfl rfl c2 ?_
     simp [h4]
     refine qaa rfl rfl rfl ca ?_
     simp
     refine qaa rfl rfl rfl cf ?_
     simp [h2, zIv, lim]
theorem q66 : CQ prog qxv [] rLog2.v := by
 refine qag rfl fun H => ?_
 have w1 : (nI 1 1).W := nI_Wk (by decide)
 have w3 : (nI 3 3).W := nI_Wk (by decide)
 simp
 refine qaa rfl rfl rfl (qds 1 (by omega) (by omega)) ?_
 simp
 refine qaa rfl rfl rfl (qds 3 (by omega) (by omega)) ?_
 simp
 refine qaa rfl rfl rfl (qpq (nI 1 1) (nI 3 3) w1 w3) ?_
 simp
 refine qaa rfl rfl rfl (qyo ((nI 1 1).div (nI 3 3) 320) div_W) ?_
 simp [rLog2, lim]
theorem q0c : rLog2.W := q68
def rlM (d : Dy) : Iv := (Iv.pt d).scl (-d.top)
def rlZ (d : Dy) : Iv := ((rlM d).add (nI (-1) (-1)) 320).div ((rlM d).add (nI 1 1) 320) 320
theorem q0b {d : Dy} : rLog d = (rArt (rlZ d)).add ((nI d.top d.top).mul rLog2 320) 320 := rfl
theorem qai4 (d : Dy) (ok : d.Ok) (hm : d.m ≠ []) : CQ prog qrr [d.v] (rLog d).v := by
 refine qag rfl fun H => ?_
 have ht := ok.top_pos hm
 have htop : d.top ≤ 16384 := by have := ok.top; unfold Dy.top; rw [if_neg hm]; exact this
 have t := qs2 d ok
 have e1 : IntKind.i64.wrap (-d.top) = -d.top := by rw [wrap_i64] <;> omega
 have sc := qp0 (Iv.pt d) (-d.top) (pt_W ok.w)
 rw [show (Iv.pt d).scl (-d.top) = rlM d from rfl] at sc
 have wm : (rlM d).W := qfe
 have w1 : (nI 1 1).W := nI_Wk (by decide)
 have wn : (nI (-1) (-1)).W := nI_Wk (by decide)
 have wt : (nI d.top d.top).W := nI_Wk (by omega)
 have a1 := qkf (rlM d) (nI (-1) (-1)) wm wn
 have a2 := qkf (rlM d) (nI 1 1) wm w1
 have dv := qpq ((rlM d).add (nI (-1) (-1)) 320) ((rlM d).add (nI 1 1) 320) add_W add_W
 rw [show ((rlM d).add (nI (-1) (-1)) 320).div ((rlM d).add (nI 1 1) 320) 320 = rlZ d from rfl] at dv
 have wz : (rlZ d).W := div_W
 have ar := qyo (rlZ d) wz
 have ml := qkd (nI d.top d.top) rLog2 wt q0c
 have ad := qkf (rArt (rlZ d)) ((nI d.top d.top).mul rLog2 320) q68 mul_W
 have cl := q66
 rw [q0b]
 generalize rLog2 = L at *
 generalize rlZ d = Z at *
 generalize rlM d = M at *
 simp
 refine qaa rfl rfl rfl t ?_
 simp
 refine qaa rfl rfl rfl (qr6 d) ?_
 simp [e1]
 refine qaa rfl rfl rfl sc ?_
 simp
 refine qaa rfl rfl rfl (qds (-1) (by omega) (by omega)) ?_
 simp
 refine qaa rfl rfl rfl a1 ?_
 simp
 refine qaa rfl rfl rfl (qds 1 (by omega) (by omega)) ?_
 simp
 refine qaa rfl rfl rfl a2 ?_
 simp
 refine qaa rfl rfl rfl dv ?_
 simp
 refine qaa rfl rfl rfl ar ?_
 simp
 refine qaa rfl rfl rfl (qds d.top (by omega) (by omega)) ?_
 simp
 refine qaa rfl rfl rfl cl ?_
 simp
 refine qaa rfl rfl rfl ml ?_
 simp
 refine qaa rfl rfl rfl ad ?_
 simp [lim]
def rSinh (d : Dy) : Iv := ((rExp d).add (rExp d.neg').neg 320).scl (-1)
def rCosh (d : Dy) : Iv := ((rExp d).add (rExp d.neg') 320).scl (-1)
theorem qoe {d : Dy} : (rExp d).W := by
 by_cases hm : d.m = []
 · unfold rExp; rw [if_pos hm]; exact nI_Wk (by decide)
 · rw [q0d hm]; exact sqN_W _ _ (by unfold rExpS; exact add_W)
theorem qafj (d : Dy) (ok : d.Ok) : CQ prog qqc [d.v] (rSinh d).v := by
 refine qag rfl fun H => ?_
 have c1 := qsd d ok
 have c2 := qsd d.neg' (qb8 ok)
 have w1 : (rExp d).W := qoe
 have w2 : (rExp d.neg').W := qoe
 have cs := qag7 (rExp d) (rExp d.neg') 320 w1 w2
 have cl := qp0 ((rExp d).add (rExp d.neg').neg 320) (-1) add_W
 simp
 refine qaa rfl rfl rfl c1 ?_
 simp
 refine qaa rfl rfl rfl (qr8 d) ?_
 simp
 refine qaa rfl rfl rfl c2 ?_
 simp
 refine qaa rfl rfl rfl cs ?_
 simp
 refine qaa rfl rfl rfl cl ?_
 simp [rSinh, lim]
theorem qafm (d : Dy) (ok : d.Ok) : CQ prog qqd [d.v] (rCosh d).v := by
 refine qag rfl fun H => ?_
 have c1 := qsd d ok
 have c2 := qsd d.neg' (qb8 ok)
 have w1 : (rExp d).W := qoe
 have w2 : (rExp d.neg').W := qoe
 have cs := qkf (rExp d) (rExp d.neg') w1 w2
 have cl := qp0 ((rExp d).add (rExp d.neg') 320) (-1) add_W
 simp
 refine qaa rfl rfl rfl c1 ?_
 simp
 refine qaa rfl rfl rfl (qr8 d) ?_
 simp
 refine qaa rfl rfl rfl c2 ?_
 simp
 refine qaa rfl rfl rfl cs ?_
 simp
 refine qaa rfl rfl rfl cl ?_
 simp [rCosh, lim]
def meetB (x y : Iv) : Bool := (x.meet y).isSome
theorem qlz (x y : Iv) (wx : x.W) (wy : y.W) : CQ prog qdw [x.v, y.v] (.bool (meetB x y)) := by
 refine qag rfl fun H => ?_
 have c := qag6 x y wx wy
 simp only [meetV] at c
 simp
 refine qaa rfl rfl rfl c ?_
 simp [meetB]
theorem q9e (x : Iv) (p : Int) (b : Dy) (wx : x.W) (hk : x.known = true) (ow : (x.hi.sum x.lo.neg').Ok) (wb : b.W) (hp : -1000000 ≤ p) (hp2 : p ≤ 1000000) (h0 : b.sclE (8 - p) = 0) :
   CQ prog qof [x.v, .int .i64 p, b.v] (.bool (decide ((x.hi.sum x.lo.neg').cmp (b.scl (8 - p)) ≤ 0))) := by
 refine qag rfl fun H => ?_
 obtain ⟨o1, o2⟩ := qai wx hk
 have ha := (qav hk).2
 have v1 := qf3 x.lo wx.lo
 have v2 := qf3 x.hi wx.hi
 rw [o1.valid] at v1
 rw [o2.valid] at v2
 have cn := qr8 x.lo
 have cs := qaen x.hi x.lo.neg' o2.toM (qb8 o1).toM
 have e1 : IntKind.i64.wrap (8 - p) = 8 - p := by rw [wrap_i64] <;> omega
 have cl := qmh b (8 - p) wb
 have cc := qh9 (x.hi.sum x.lo.neg') (b.scl (8 - p)) ow qp6
 rcases x with ⟨xl, xh, xa⟩
 simp only at ha
 subst ha
 simp
 refine qaa rfl rfl rfl v1 ?_
 simp
 refine qaa rfl rfl rfl v2 ?_
 simp
 refine qaa rfl rfl rfl cn ?_
 simp
 refine qaa rfl rfl rfl cs ?_
 simp [e1]
 refine qaa rfl rfl rfl cl ?_
 simp [h0]
 refine qaa rfl rfl rfl cc ?_
 simp
def withB (x : Iv) (a b : Int) : Bool := x.known && decide (0 ≤ x.lo.cmp (nD a)) && decide (x.hi.cmp (nD b) ≤ 0)
def powB (x : Iv) (a b : Int) : Bool := x.known && decide (0 ≤ x.lo.cmp ((nD 1).scl a)) && decide (x.hi.cmp ((nD 1).scl b) ≤ 0)
theorem q9d (x : Iv) (a b : Int) (wx : x.W) (ha : a.natAbs ≤ 1048576) (hb : b.natAbs ≤ 1048576) : CQ prog qts [x.v, .int .i64 a, .int .i64 b] (.bool (withB x a b)) := by
 refine qag rfl fun H => ?_
 have c1 := qpl a (by omega) (by omega)
 rw [← show nD a = Dy.of (decide (a < 0)) a.natAbs 0 from rfl] at c1
 have c2 := qpl b (by omega) (by omega)
 rw [← show nD b = Dy.of (decide (b < 0)) b.natAbs 0 from rfl] at c2
 have oa : (nD a).Ok := nD_ok (by omega)
 have ob : (nD b).Ok := nD_ok (by omega)
 have v := qgr x wx
 cases hk : x.known
 · rcases x with ⟨xl, xh, xa⟩
   simp
   refine qaa rfl rfl rfl v ?_
   cases hv : (Iv.mk xl xh xa).valid
   · simp [withB, hk]
   · cases xa
     · simp [Iv.known, hv] at hk
     · simp [withB, hk]
 · obtain ⟨o1, o2⟩ := qai wx hk
   obtain ⟨hv, hall⟩ := qav hk
   rw [hv] at v
   have d1 := qh9 x.lo (nD a) o1 oa
   have d2 := qh9 x.hi (nD b) o2 ob
   rcases x with ⟨xl, xh, xa⟩
   simp only at hall
   subst hall
   simp
   refine qaa rfl rfl rfl v ?_
   simp
   refine qaa rfl rfl rfl c1 ?_
   simp
   refine qaa rfl rfl rfl d1 ?_
   by_cases q : 0 ≤ xl.cmp (nD a)
   · simp [q]
     refine qaa rfl rfl rfl c2 ?_
     simp
     refine qaa rfl rfl rfl d2 ?_
     simp [withB, hk, q]
   · simp [q]
     simp [withB, hk, q]
theorem qly (x : Iv) (a b : Int) (wx : x.W) : CQ prog qtt [x.v, .int .i64 a, .int .i64 b] (.bool (powB x a b)) := by
 refine qag rfl fun H => ?_
 have c1 := qpl 1 (by omega) (by omega)
 rw [← show nD 1 = Dy.of (decide ((1 : Int) < 0)) (1 : Int).natAbs 0 from rfl] at c1
 have on : (nD 1).Ok := nD_ok (by omega)
 have s1 := qmh (nD 1) a on.w
 have s2 := qmh (nD 1) b on.w
 have v := qgr x wx
 cases hk : x.known
 · rcases x with ⟨xl, xh, xa⟩
   simp
   refine qaa rfl rfl rfl c1 ?_
   simp
   refine qaa rfl rfl rfl s1 ?_
   simp
   refine qaa rfl rfl rfl c1 ?_
   simp
   refine qaa rfl rfl rfl s2 ?_
   simp
   refine qaa rfl rfl rfl v ?_
   cases hv : (Iv.mk xl xh xa).valid
   · simp [powB, hk]
   · cases xa
     · simp [Iv.known, hv] at hk
     · simp [powB, hk]
 · obtain ⟨o1, o2⟩ := qai wx hk
   obtain ⟨hv, hall⟩ := qav hk
   rw [hv] at v
   have d1 := qh9 x.lo ((nD 1).scl a) o1 qp6
   have d2 := qh9 x.hi ((nD 1).scl b) o2 qp6
   rcases x with ⟨xl, xh, xa⟩
   simp only at hall
   subst hall
   simp
   refine qaa rfl rfl rfl c1 ?_
   simp
   refine qaa rfl rfl rfl s1 ?_
   simp
   refine qaa rfl rfl rfl c1 ?_
   simp
   refine qaa rfl rfl rfl s2 ?_
   simp
   refine qaa rfl rfl rfl v ?_
   simp
   refine qaa rfl rfl rfl d1 ?_
   by_cases q : 0 ≤ xl.cmp ((nD 1).scl a)
   · simp [q]
     refine qaa rfl rfl rfl d2 ?_
     simp [powB, hk, q]
   · simp [q]
     simp [powB, hk, q]
end Go.Abs.W
