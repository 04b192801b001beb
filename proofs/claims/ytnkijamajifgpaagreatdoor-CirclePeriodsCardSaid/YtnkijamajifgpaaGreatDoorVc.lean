/- Parts of the proof: FpVc. -/
import Derived.Test.YtnkijamajifgpaaGreatDoorVb
namespace Go.Abs.W
theorem cI2 (k : Int) : sI (2 * k) = 0 ∧ (k % 2 = 0 → cI (2 * k) = 1) ∧ (k % 2 ≠ 0 → cI (2 * k) = -1) := by
 rcases qn1 (2 * k) with ⟨h, a, b⟩ | ⟨h, a, b⟩ | ⟨h, a, b⟩ | ⟨h, a, b⟩
 · exact ⟨b, fun _ => a, fun h2 => by omega⟩
 · omega
 · exact ⟨b, fun h2 => by omega, fun _ => a⟩
 · omega
theorem qaek (k : Int) : (nI k k).Has (cK (k : Rat)) := (qaej k).has
theorem q9v {x : Iv} (w : x.W) (g : x.Gd) : x.neg.Gd := by
 rcases g with rfl | k
 · left; rfl
 · obtain ⟨o1, o2⟩ := qaj w k
   exact .inr (qaeh w ⟨k, Int.le_refl _, Int.le_refl _⟩).k
def perY (d : Dy) (k n : Int) : Iv := (Iv.pt d).add ((nI k k).mul (piO n) n) n
def perQ (d : Dy) (n : Int) : Iv := (Iv.pt d).add ((piO n).scl (-1)) n
theorem q4k (n : Int) : (piO n).Has pis := by
 by_cases h : precB n = true
 · exact (qabj h).2
 · unfold piO; rw [if_neg h]; exact .whole
theorem q0h {d : Dy} {k n : Int} (ok : d.Ok) (hk : k.natAbs ≤ 1048576) : (perY d k n).Has (fun i => cK d.rat i + ((2 * k : Int) : Rat) * hpi i) := by
 have h1 := qabp (p := n) (nI_Wk hk) piO_W (qaek k) (q4k n) (qna _) qabh
 have h2 := qzo (p := n) (pt_W ok.w) mul_W (qss d) h1
 refine h2.near (Near.of_eq fun i => ?_)
 show d.rat + _ = d.rat + (k : Rat) * (2 * hpi i)
 rw [Rat.intCast_mul, show ((2 : Int) : Rat) = 2 from rfl]; grind
theorem q0i {d : Dy} {n : Int} (ok : d.Ok) : (perQ d n).Has (fun i => cK d.rat i + hpi i) := by
 have h1 := qab0 (piO_W (p := n)) (q4k n)
 have h2 := qzo (p := n) (pt_W ok.w) qaak (qss d) h1
 refine h2.near (Near.of_eq fun i => ?_)
 show d.rat + _ = d.rat + 2 * hpi i / 2
 grind
def sgnI (k : Int) (x : Iv) : Iv := if k % 2 = 0 then x else x.neg
theorem q0a {k : Int} {x : Iv} (w : x.W) : (sgnI k x).W := by unfold sgnI; split; exact w; exact neg_W w
theorem qty {k : Int} {x : Iv} (w : x.W) (g : x.Gd) : (sgnI k x).Gd := by unfold sgnI; split; exact g; exact q9v w g
theorem qt4 {d : Dy} {k n : Int} (ok : d.Ok) (hk : k.natAbs ≤ 1048576) :
   meetB (sgnI k (bothI (perY d k n) false n)) (bothI (Iv.pt d) false n) = true ∧ meetB (sgnI k (bothI (perY d k n) true n)) (bothI (Iv.pt d) true n) = true ∧
   meetB (bothI (perQ d n) false n) (bothI (Iv.pt d) true n) = true ∧ meetB (bothI (perQ d n) true n) (bothI (Iv.pt d) false n).neg = true := by
 have w : (Iv.pt d).W := pt_W ok.w
 have wy : (perY d k n).W := add_W
 have wq : (perQ d n).W := add_W
 have hs := qht (c := false) (p := n) w (qss d)
 have hc := qht (c := true) (p := n) w (qss d)
 have ys := qht (c := false) (p := n) wy (q0h ok hk)
 have yc := qht (c := true) (p := n) wy (q0h ok hk)
 have qs := qht (c := false) (p := n) wq (q0i ok)
 have qc := qht (c := true) (p := n) wq (q0i ok)
 obtain ⟨tc, ts⟩ := qo5 (qna d.rat) (2 * k)
 obtain ⟨uc, us⟩ := qnj (qna d.rat)
 obtain ⟨s0, c0, c1⟩ := cI2 k
 rw [s0] at tc ts
 have yS : (sgnI k (bothI (perY d k n) false n)).Has (Fn false (cK d.rat)) := by
   unfold sgnI
   by_cases h : k % 2 = 0
   · rw [if_pos h]; rw [c0 h] at ts
     exact ys.near ((ts.trans (Near.of_eq fun i => by show _ = Si (cK d.rat) i; grind)).symm)
   · rw [if_neg h]; rw [c1 h] at ts
     exact (qyw (qbj wy) ys).near ((ts.neg.trans (Near.of_eq fun i => by show _ = Si (cK d.rat) i; grind)).symm)
 have yC : (sgnI k (bothI (perY d k n) true n)).Has (Fn true (cK d.rat)) := by
   unfold sgnI
   by_cases h : k % 2 = 0
   · rw [if_pos h]; rw [c0 h] at tc
     exact yc.near ((tc.trans (Near.of_eq fun i => by show _ = Co (cK d.rat) i; grind)).symm)
   · rw [if_neg h]; rw [c1 h] at tc
     exact (qyw (qbj wy) yc).near ((tc.neg.trans (Near.of_eq fun i => by show _ = Co (cK d.rat) i; grind)).symm)
 exact ⟨qmu (q0a (qbj wy)) (qbj w) (qty (qbj wy) (qfv wy)) (qfv w) yS hs,
   qmu (q0a (qbj wy)) (qbj w) (qty (qbj wy) (qfv wy)) (qfv w) yC hc,
   qmu (qbj wq) (qbj w) (qfv wq) (qfv w) (qs.near us.symm) hc,
   qmu (qbj wq) (neg_W (qbj w)) (qfv wq) (q9v (qbj w) (qfv w)) (qc.near uc.symm) (qyw (qbj w) hs)⟩
set_option maxHeartbeats 1000000 in
theorem qwh (d : Dy) (k p : Int) (l : Li d.m) (hk : IntKind.i8.min ≤ k ∧ k ≤ IntKind.i8.max) (hp : IntKind.u8.min ≤ p ∧ p ≤ IntKind.u8.max) : CQ prog qjk [d.v, .int .i8 k, .int .u8 p] (.bool true) := by
 refine qag rfl fun H => ?_
 have ca := qtj
 have cm := qoc d 6 l
 cases hc : com10 d 6
 · rw [hc] at cm
   simp
   refine qab rfl rfl rfl ca ?_
   simp
   refine qab rfl rfl rfl cm ?_
   simp
   refine qab rfl rfl rfl ca ?_
   simp
 · rw [hc] at cm
   obtain ⟨ok, _, _⟩ := qq6 l hc
   have k1 : -128 ≤ k := hk.1
   have k2 : k ≤ 127 := hk.2
   have cp := qwe p hp
   generalize hN : qn6 p = n at *
   obtain ⟨f1, f2, f3, f4⟩ := qt4 (n := n) ok (k := k) (by omega)
   have w : (Iv.pt d).W := pt_W ok.w
   have wk : (nI k k).W := nI_Wk (by omega)
   have wy : (perY d k n).W := add_W
   have wq : (perQ d n).W := add_W
   have c1 := qi9 d ok.w
   rw [if_pos ok.valid] at c1
   have ew : IntKind.i64.wrap k = k := by rw [wrap_i64] <;> omega
   have c2 := qlz k (by omega) (by omega)
   have ok2 : (nD k).Ok := nD_ok (by omega)
   have c3 := qi9 (nD k) ok2.w
   rw [if_pos ok2.valid, show Iv.pt (nD k) = nI k k from rfl] at c3
   have c4 := Pi_cq n
   have c5 := qac2 (nI k k) (piO n) n wk piO_W
   have c6 := qzv (Iv.pt d) ((nI k k).mul (piO n) n) n w mul_W
   rw [show (Iv.pt d).add ((nI k k).mul (piO n) n) n = perY d k n from rfl] at c6
   have c7 := qtk (perY d k n) n wy
   have c8 := qx5 (perY d k n) n wy
   have c9 := qzu (bothI (perY d k n) false n) (qbj wy)
   have c10 := qzu (bothI (perY d k n) true n) (qbj wy)
   have c11 := q6v (piO n) (-1) piO_W
   have c12 := qzv (Iv.pt d) ((piO n).scl (-1)) n w qaak
   rw [show (Iv.pt d).add ((piO n).scl (-1)) n = perQ d n from rfl] at c12
   have c13 := qtk (Iv.pt d) n w
   have c14 := qx5 (Iv.pt d) n w
   have c15 := qtk (perQ d n) n wq
   have c16 := qx5 (perQ d n) n wq
   have c17 := qzu (bothI (Iv.pt d) false n) (qbj w)
   have m1 := qll _ _ (q0a (k := k) (qbj wy (c := false) (p := n))) (qbj w (c := false) (p := n)) (qne (qty (qbj wy) (qfv wy)))
   have m2 := qll _ _ (q0a (k := k) (qbj wy (c := true) (p := n))) (qbj w (c := true) (p := n)) (qne (qty (qbj wy) (qfv wy)))
   have m3 := qll _ _ (qbj wq (c := false) (p := n)) (qbj w (c := true) (p := n)) (qne (qfv wq))
   have m4 := qll _ _ (qbj wq (c := true) (p := n)) (neg_W (qbj w (c := false) (p := n))) (qne (qfv wq))
   rw [f1] at m1
   rw [f2] at m2
   rw [f3] at m3
   rw [f4] at m4
   have ht : k.tmod 2 = if 0 ≤ k then k % 2 else -((-k) % 2) := by
     split
     · rename_i h; exact Int.tmod_eq_emod_of_nonneg h
     · rename_i h
       have e := Int.neg_tmod (a := -k) (b := 2)
       rw [Int.neg_neg, Int.tmod_eq_emod_of_nonneg (show 0 ≤ -k by omega)] at e
       exact e
   have odd : k.tmod 2 = 0 ↔ k % 2 = 0 := by rw [ht]; split <;> omega
   have ew2 : IntKind.i8.wrap (k.tmod 2) = k.tmod 2 := by
     have h3 : -1 ≤ k.tmod 2 ∧ k.tmod 2 ≤ 1 := by rw [ht]; split <;> omega
     simp only [IntKind.wrap, IntKind.bits, IntKind.signed]; simp; omega
   by_cases hk0 : k % 2 = 0
   · have o2 : k.tmod 2 = 0 := odd.2 hk0
     have e1 : ∀ z : Iv, sgnI k z = z := fun z => by unfold sgnI; rw [if_pos hk0]
     rw [e1] at m1 m2
     clear f1 f2 f3 f4 e1 c9 c10 odd hk0 ht
     generalize bothI (perY d k n) false n = YS at *
     generalize bothI (perY d k n) true n = YC at *
     generalize bothI (perQ d n) false n = QS at *
     generalize bothI (perQ d n) true n = QC at *
     generalize (bothI (Iv.pt d) false n).neg = NS at *
     generalize bothI (Iv.pt d) false n = S at *
     generalize bothI (Iv.pt d) true n = C at *
     generalize perY d k n = Y at *
     generalize perQ d n = Q at *
     generalize (nI k k).mul (piO n) n = T at *
     generalize (piO n).scl (-1) = HP at *
     generalize piO n = PI at *
     generalize nI k k = KI at *
     generalize nD k = KD at *
     generalize Iv.pt d = P at *
     simp
     refine qab rfl rfl rfl ca ?_
     simp
     refine qab rfl rfl rfl cm ?_
     simp
     refine qab rfl rfl rfl cp ?_
     simp
     refine qab rfl rfl rfl c1 ?_
     simp [ew]
     refine qab rfl rfl rfl c2 ?_
     simp
     refine qab rfl rfl rfl c3 ?_
     simp
     refine qab rfl rfl rfl c4 ?_
     simp
     refine qab rfl rfl rfl c5 ?_
     simp
     refine qab rfl rfl rfl c6 ?_
     simp
     refine qab rfl rfl rfl c7 ?_
     simp
     refine qab rfl rfl rfl c8 ?_
     simp [o2]
     refine qab rfl rfl rfl c4 ?_
     simp
     refine qab rfl rfl rfl c11 ?_
     simp
     refine qab rfl rfl rfl c12 ?_
     simp
     refine qab rfl rfl rfl c13 ?_
     simp
     refine qab rfl rfl rfl m1 ?_
     simp
     refine qab rfl rfl rfl c14 ?_
     simp
     refine qab rfl rfl rfl m2 ?_
     simp
     refine qab rfl rfl rfl c15 ?_
     simp
     refine qab rfl rfl rfl c14 ?_
     simp
     refine qab rfl rfl rfl m3 ?_
     simp
     refine qab rfl rfl rfl c16 ?_
     simp
     refine qab rfl rfl rfl c13 ?_
     simp
     refine qab rfl rfl rfl c17 ?_
     simp
     refine qab rfl rfl rfl m4 ?_
     simp
   · have o2 : ¬ k.tmod 2 = 0 := fun h => hk0 (odd.1 h)
     have e1 : ∀ z : Iv, sgnI k z = z.neg := fun z => by unfold sgnI; rw [if_neg hk0]
     rw [e1] at m1 m2
     clear f1 f2 f3 f4 e1 odd hk0 ht
     generalize (bothI (perY d k n) false n).neg = NYS at *
     generalize (bothI (perY d k n) true n).neg = NYC at *
     generalize bothI (perY d k n) false n = YS at *
     generalize bothI (perY d k n) true n = YC at *
     generalize bothI (perQ d n) false n = QS at *
     generalize bothI (perQ d n) true n = QC at *
     generalize (bothI (Iv.pt d) false n).neg = NS at *
     generalize bothI (Iv.pt d) false n = S at *
     generalize bothI (Iv.pt d) true n = C at *
     generalize perY d k n = Y at *
     generalize perQ d n = Q at *
     generalize (nI k k).mul (piO n) n = T at *
     generalize (piO n).scl (-1) = HP at *
     generalize piO n = PI at *
     generalize nI k k = KI at *
     generalize nD k = KD at *
     generalize Iv.pt d = P at *
     simp
     refine qab rfl rfl rfl ca ?_
     simp
     refine qab rfl rfl rfl cm ?_
     simp
     refine qab rfl rfl rfl cp ?_
     simp
     refine qab rfl rfl rfl c1 ?_
     simp [ew]
     refine qab rfl rfl rfl c2 ?_
     simp
     refine qab rfl rfl rfl c3 ?_
     simp
     refine qab rfl rfl rfl c4 ?_
     simp
     refine qab rfl rfl rfl c5 ?_
     simp
     refine qab rfl rfl rfl c6 ?_
     simp
     refine qab rfl rfl rfl c7 ?_
     simp
     refine qab rfl rfl rfl c8 ?_
     simp [o2]
     refine qab rfl rfl rfl c9 ?_
     simp
     refine qab rfl rfl rfl c10 ?_
     simp
     refine qab rfl rfl rfl c4 ?_
     simp
     refine qab rfl rfl rfl c11 ?_
     simp
     refine qab rfl rfl rfl c12 ?_
     simp
     refine qab rfl rfl rfl c13 ?_
     simp
     refine qab rfl rfl rfl m1 ?_
     simp
     refine qab rfl rfl rfl c14 ?_
     simp
     refine qab rfl rfl rfl m2 ?_
     simp
     refine qab rfl rfl rfl c15 ?_
     simp
     refine qab rfl rfl rfl c14 ?_
     simp
     refine qab rfl rfl rfl m3 ?_
     simp
     refine qab rfl rfl rfl c16 ?_
     simp
     refine qab rfl rfl rfl c13 ?_
     simp
     refine qab rfl rfl rfl c17 ?_
     simp
     refine qab rfl rfl rfl m4 ?_
     simp
end Go.Abs.W
