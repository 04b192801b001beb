/- Parts of the proof: FpVf. -/
import Derived.Test.YtnkijamajifgpaaGreatDoorVc
import Derived.Test.YtnkijamajifgpaaGreatDoorUc
namespace Go.Abs.W
theorem Null.of_ev {s t : Nat → Rat} (ht : Null t) (N : Nat) (h : ∀ n, N ≤ n → s n = t n) : Null s := fun ε he => by
 obtain ⟨M, hM⟩ := ht ε he
 exact ⟨max N M, fun n hn => by rw [h n (by omega)]; exact hM n (by omega)⟩
theorem qael {x y : Iv} {p : Int} {s t : Nat → Rat} {q κ : Rat} (wx : x.W) (wy : y.W) (hs : x.Has s) (ht : y.Has t) (bt : Bnd t) (h : Near s (fun n => q * t n)) (hκ : 0 < κ) (N : Nat) (hk : ∀ n, N ≤ n → 2 * κ ≤ t n * t n) : (x.div y p).Has (cK q) := by
 obtain ⟨c, c1, c2⟩ := hs
 obtain ⟨e, e1, e2⟩ := ht
 refine ⟨fun n => c n / e n, fun n => qacg wx wy (c1 n) (e1 n), ?_⟩
 have be : Bnd e := e2.bnd bt
 -- c is near q e
 have h1 : Null fun n => c n - q * e n := ((Null.sub (Null.add h (Null.mul_left (Bnd.const q) e2)) c2)).congr fun n => by grind
 have h2 : Null fun n => t n * t n - e n * e n := e2.mul e2 bt bt
 obtain ⟨M, hM⟩ := h2 κ hκ
 have lo : ∀ n, max N M ≤ n → κ ≤ e n * e n := fun n hn => by
   have a := hk n (by omega)
   obtain ⟨u, v⟩ := hM n (by omega)
   grind
 have h3 : Null fun n => e n * (c n - q * e n) := Null.mul_left be h1
 have h4 : Null fun n => c n / e n - q := by
   refine Null.cancel (a := fun n => e n * e n) hκ (max N M) lo ?_
   refine h3.of_ev (max N M) fun n hn => ?_
   have ne : e n ≠ 0 := fun h0 => by have := lo n hn; rw [h0] at this; grind
   show e n * e n * (c n / e n - q) = e n * (c n - q * e n)
   rw [Rat.div_def]
   have m := Rat.mul_inv_cancel (e n) ne
   have : e n * e n * (c n * (e n)⁻¹ - q) = e n * c n * (e n * (e n)⁻¹) - e n * e n * q := by grind
   rw [this, m]; grind
 exact (Null.neg h4).congr fun n => by show _ = cK q n - c n / e n; show _ = q - c n / e n; grind
theorem qac7 {d : Dy} {n : Int} {a : Iv} (w : a.W) (h : a.Has (th d.rat)) : ((bothI a false n).div (bothI a true n) n).Has (cK d.rat) := by
 have hs := qk0 (c := false) (p := n) w h
 have hc := qk0 (c := true) (p := n) w h
 have bt := qagg d.rat
 have bc := qfk bt
 have dir := qagf d.rat
 have one := q88 bt
 have ns : Near (Si (th d.rat)) (fun i => d.rat * Co (th d.rat) i) := (show Null _ from dir).congr fun i => by grind
 -- the cosine is not small
 have q0 := sq_nn d.rat
 have q1 : 0 < 1 + d.rat * d.rat := by grind
 have qi := Rat.inv_pos.2 q1
 have qm := qa2 q1
 have sq : Near (fun i => (1 + d.rat * d.rat) * (Co (th d.rat) i * Co (th d.rat) i)) (fun _ => 1) := by
   have m := ns.mul ns (qh3 bt) (qh3 bt)
   exact (Null.sub one m).congr fun i => by grind
 obtain ⟨N, hN⟩ := sq (1 / 2) (by grind)
 refine qael (κ := (1 + d.rat * d.rat)⁻¹ / 4) (qcf w) (qcf w) hs hc bc ns (by grind) N fun i hi => ?_
 have hb : Bd ((1 + d.rat * d.rat) * (Co (th d.rat) i * Co (th d.rat) i) - 1) (1 / 2) := hN i hi
 obtain ⟨u, v⟩ := hb
 show 2 * ((1 + d.rat * d.rat)⁻¹ / 4) ≤ Co (th d.rat) i * Co (th d.rat) i
 generalize Co (th d.rat) i * Co (th d.rat) i = C at *
 have m := mul_nn (show 0 ≤ (1 + d.rat * d.rat) * C - 1 / 2 by grind) (Rat.le_of_lt qi)
 have e : (1 + d.rat * d.rat) * C * (1 + d.rat * d.rat)⁻¹ = C := by
   rw [Rat.mul_comm _ C, Rat.mul_assoc, qm, Rat.mul_one]
 grind
theorem qaho {x : Iv} {s : Nat → Rat} (wx : x.W) (h : x.Has s) : (x.scl 1).Has (fun n => 2 * s n) := by
 obtain ⟨c, h1, h2⟩ := h
 refine ⟨fun n => 2 * c n, fun n => qagl (a := 1) (b := 0) wx (by omega) ?_ (h1 n), ?_⟩
 · rw [show ((pw 0 : Int) : Rat) = 1 from rfl, show ((pw 1 : Int) : Rat) = 2 from rfl]; grind
 · exact Null.congr (Null.mul h2 (Bnd.const 2)) fun n => by grind
def tanA (d : Dy) (n : Int) : Iv := atanI (Iv.pt d) n
def tanB (d : Dy) (n : Int) : Iv := atanI ((Iv.pt (nD 1)).div (Iv.pt d) n) n
theorem qs5 {d : Dy} {n : Int} (ok : d.Ok) :
   meetB ((bothI (tanA d n) false n).div (bothI (tanA d n) true n) n) (Iv.pt d) = true ∧ meetB (atanI (Iv.pt d).neg n) (tanA d n).neg = true ∧
   (0 < d.sgn → meetB (((tanA d n).add (tanB d n) n).scl 1) (piO n) = true) := by
 have w : (Iv.pt d).W := pt_W ok.w
 have kp : (Iv.pt d).known = true := q97 ok
 obtain ⟨ga, ha⟩ := qmd (p := n) w (pt_In d)
 have wa : (tanA d n).W := qmw w
 have hneg := q6l w (pt_In d)
 have wn : (Iv.pt d).neg.W := neg_W w
 obtain ⟨gn, hn⟩ := qmd (p := n) wn hneg
 rw [qagd] at hn
 refine ⟨qfg div_W w (qach (qcf wa) (qcf wa)) (.inr kp) (qac7 wa ha) (qxt d), qfg (qmw wn) (neg_W wa) gn (qagv wa ga) hn (q6m wa ha), fun hs => ?_⟩
 have rp : 0 < d.rat := by
   have h1 := qfo ((qzy ok).1.1 hs)
   rw [← qge] at h1
   have hsc := qex
   rcases (inferInstance : Decidable (0 < d.rat)) with h | h
   · exfalso
     have := mul_nn (show 0 ≤ -d.rat by grind) (Rat.le_of_lt hsc)
     have e0 : ((0 : Int) : Rat) = 0 := rfl
     grind
   · exact h
 have i1 : (Iv.pt (nD 1)).In (1 : Rat) := by have := pt_In (nD 1); rwa [qq8] at this
 have w1 : (Iv.pt (nD 1)).W := pt_W nD1.w
 obtain ⟨gb, hb⟩ := qmd (p := n) (x := (Iv.pt (nD 1)).div (Iv.pt d) n) div_W (qacg (p := n) w1 w i1 (pt_In d))
 have wb : (tanB d n).W := qmw div_W
 have hsum := qaho (add_W (x := tanA d n) (y := tanB d n) (p := n)) (q05 (p := n) wa wb ha hb)
 refine qfg qacw piO_W (qab3 add_W) qagr hsum ((qady n).near ?_)
 have := Null.mul_left (Bnd.const 2) (qage rp)
 exact this.congr fun i => by show _ = 2 * (th d.rat i + th (1 / d.rat) i) - 2 * hpi i; grind
set_option maxHeartbeats 1000000 in
theorem qu7 (d : Dy) (p : Int) (l : Li d.m) (hp : IntKind.u8.min ≤ p ∧ p ≤ IntKind.u8.max) : CQ prog qjq [d.v, .int .u8 p] (.bool true) := by
 refine qag rfl fun H => ?_
 have ca := qo8
 have cm := qec d 20 l
 cases hc : com10 d 20
 · rw [hc] at cm
   simp
   refine qaa rfl rfl rfl ca ?_
   simp
   refine qaa rfl rfl rfl cm ?_
   simp
   refine qaa rfl rfl rfl ca ?_
   simp
 · rw [hc] at cm
   obtain ⟨ok, _, _⟩ := qe1 l hc
   have cp := qq3 p hp
   generalize hN : qnz p = n at *
   obtain ⟨f1, f2, f3⟩ := qs5 (n := n) ok
   have w : (Iv.pt d).W := pt_W ok.w
   have wn : (Iv.pt d).neg.W := neg_W w
   have wa : (tanA d n).W := qmw w
   have wb : (tanB d n).W := qmw div_W
   have c1 := qev d ok.w
   rw [if_pos ok.valid] at c1
   have c2 := qpb (Iv.pt d) n w
   rw [show atanI (Iv.pt d) n = tanA d n from rfl] at c2
   have c3 := qpl (tanA d n) n wa
   have c4 := qs3 (tanA d n) n wa
   have c5 := q85 (bothI (tanA d n) false n) (bothI (tanA d n) true n) n (qcf wa) (qcf wa)
   have m1 := qd8 ((bothI (tanA d n) false n).div (bothI (tanA d n) true n) n) (Iv.pt d) div_W w (qgn (qach (qcf wa) (qcf wa)))
   rw [f1] at m1
   have c6 := q1c (Iv.pt d) w
   have c7 := qpb (Iv.pt d).neg n wn
   have c8 := q1c (tanA d n) wa
   have m2 := qd8 (atanI (Iv.pt d).neg n) (tanA d n).neg (qmw wn) (neg_W wa) (qgn (qmd wn (q6l w (pt_In d))).1)
   rw [f2] at m2
   have c9 := qno d ok.w
   rw [if_pos ok.valid] at c9
   have d1 := qn4 1 (by omega) (by omega)
   have d2 := qev (nD 1) nD1.w
   rw [if_pos nD1.valid] at d2
   have w1 : (Iv.pt (nD 1)).W := pt_W nD1.w
   have d3 := q85 (Iv.pt (nD 1)) (Iv.pt d) n w1 w
   have d4 := qpb ((Iv.pt (nD 1)).div (Iv.pt d) n) n div_W
   rw [show atanI ((Iv.pt (nD 1)).div (Iv.pt d) n) n = tanB d n from rfl] at d4
   have d5 := q1d (tanA d n) (tanB d n) n wa wb
   have d6 := q83 ((tanA d n).add (tanB d n) n) 1 add_W
   have d7 := Pi_cq n
   have m3 := qd8 (((tanA d n).add (tanB d n) n).scl 1) (piO n) qacw piO_W (qgn (qab3 add_W))
   generalize meetB (((tanA d n).add (tanB d n) n).scl 1) (piO n) = M3 at *
   clear f1 f2
   generalize ((tanA d n).add (tanB d n) n).scl 1 = AB2 at *
   generalize (tanA d n).add (tanB d n) n = AB at *
   generalize piO n = PI at *
   generalize (bothI (tanA d n) false n).div (bothI (tanA d n) true n) n = Q at *
   generalize bothI (tanA d n) false n = S at *
   generalize bothI (tanA d n) true n = C at *
   generalize (tanA d n).neg = NA at *
   generalize atanI (Iv.pt d).neg n = AN at *
   generalize (Iv.pt d).neg = NP at *
   generalize tanA d n = A at *
   generalize tanB d n = B at *
   generalize (Iv.pt (nD 1)).div (Iv.pt d) n = IV at *
   generalize Iv.pt (nD 1) = P1 at *
   generalize Iv.pt d = P at *
   generalize nD 1 = one at *
   by_cases hs : d.sgn ≤ 0
   · simp
     refine qaa rfl rfl rfl ca ?_
     simp
     refine qaa rfl rfl rfl cm ?_
     simp
     refine qaa rfl rfl rfl cp ?_
     simp
     refine qaa rfl rfl rfl c1 ?_
     simp
     refine qaa rfl rfl rfl c2 ?_
     simp
     refine qaa rfl rfl rfl c3 ?_
     simp
     refine qaa rfl rfl rfl c4 ?_
     simp
     refine qaa rfl rfl rfl c5 ?_
     simp
     refine qaa rfl rfl rfl m1 ?_
     simp
     refine qaa rfl rfl rfl c6 ?_
     simp
     refine qaa rfl rfl rfl c7 ?_
     simp
     refine qaa rfl rfl rfl c8 ?_
     simp
     refine qaa rfl rfl rfl m2 ?_
     simp
     refine qaa rfl rfl rfl c9 ?_
     simp [hs]
   · have h3 := f3 (by omega)
     rw [h3] at m3
     simp
     refine qaa rfl rfl rfl ca ?_
     simp
     refine qaa rfl rfl rfl cm ?_
     simp
     refine qaa rfl rfl rfl cp ?_
     simp
     refine qaa rfl rfl rfl c1 ?_
     simp
     refine qaa rfl rfl rfl c2 ?_
     simp
     refine qaa rfl rfl rfl c3 ?_
     simp
     refine qaa rfl rfl rfl c4 ?_
     simp
     refine qaa rfl rfl rfl c5 ?_
     simp
     refine qaa rfl rfl rfl m1 ?_
     simp
     refine qaa rfl rfl rfl c6 ?_
     simp
     refine qaa rfl rfl rfl c7 ?_
     simp
     refine qaa rfl rfl rfl c8 ?_
     simp
     refine qaa rfl rfl rfl m2 ?_
     simp
     refine qaa rfl rfl rfl c9 ?_
     simp [hs]
     refine qaa rfl rfl rfl d1 ?_
     simp
     refine qaa rfl rfl rfl d2 ?_
     simp
     refine qaa rfl rfl rfl d3 ?_
     simp
     refine qaa rfl rfl rfl d4 ?_
     simp
     refine qaa rfl rfl rfl d5 ?_
     simp
     refine qaa rfl rfl rfl d6 ?_
     simp
     refine qaa rfl rfl rfl d7 ?_
     simp
     refine qaa rfl rfl rfl m3 ?_
     simp
end Go.Abs.W
