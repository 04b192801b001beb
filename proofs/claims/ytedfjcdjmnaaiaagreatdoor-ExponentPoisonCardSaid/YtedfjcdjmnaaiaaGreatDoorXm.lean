/- Parts of the proof: FpXz. -/
import Derived.Test.YtedfjcdjmnaaiaaGreatDoorXh
import Derived.Test.YtedfjcdjmnaaiaaGreatDoorXf
namespace Go.Abs.W
theorem qacz {x : Iv} {p : Int} (l : x.Lm) (h : qiz x p = false) : x.W := by
 simp only [qiz, Bool.or_eq_false_iff, decide_eq_false_iff_not] at h
 exact q2e l (by omega) (by omega)
theorem q9k {p : Int} (h : precB p = false) (x : Iv) : x.exp p = Iv.whole ∧ x.log p = Iv.whole ∧ x.sinh p = Iv.whole ∧ x.cosh p = Iv.whole := by
 refine ⟨?_, ?_, ?_, ?_⟩
 · unfold Iv.exp; rw [h]; simp
 · unfold Iv.log; rw [h]; simp
 · unfold Iv.sinh; rw [h]; simp
 · unfold Iv.cosh; rw [h]; simp
theorem q7w {x : Iv} (p : Int) (h : x.known = false) : x.exp p = Iv.whole ∧ x.log p = Iv.whole ∧ x.sinh p = Iv.whole ∧ x.cosh p = Iv.whole := by
 refine ⟨?_, ?_, ?_, ?_⟩
 · unfold Iv.exp; rw [h]; simp
 · unfold Iv.log; rw [h]; simp
 · unfold Iv.sinh; rw [h]; simp
 · unfold Iv.cosh; rw [h]; simp
theorem qaf5 (p : Int) : (log2I p).all = !precB p := by
 cases hp : precB p
 · have e : log2I p = Iv.whole := by unfold log2I; rw [hp]; rfl
   rw [e]; rfl
 · exact (qav (q0n hp).k).2
theorem q9l (x : Iv) (p : Int) (l : x.Lm) : CQ prog qmb [x.v, .int .i64 p] (.bool true) := by
 refine qag rfl fun H => ?_
 simp
 refine qaa rfl rfl rfl qg8 ?_
 simp
 refine qaa rfl rfl rfl (q3s x p) ?_
 cases hg : qiz x p
 case true => simp
 have w := qacz l hg
 have c1 := qmj x p w
 have c2 := qoh x p w
 have c3 := qq2 x p w
 have c4 := qxj x p w
 have l2 := q6g p
 have la := qaf5 p
 have w0 := Iv.whole_W
 have eqw : CQ prog qoz [Iv.whole.v, Iv.whole.v] (.bool true) := by
   have := qs3 Iv.whole Iv.whole w0 w0
   rwa [decide_eq_true (rfl : Iv.whole = Iv.whole)] at this
 simp
 refine qaa rfl rfl rfl qba ?_
 simp
 refine qaa rfl rfl rfl (qpk p) ?_
 simp
 refine qaa rfl rfl rfl l2 ?_
 cases hp : precB p
 · obtain ⟨e1, e2, e3, e4⟩ := q9k hp x
   rw [hp] at la
   rw [e1] at c1
   rw [e2] at c2
   rw [e3] at c3
   rw [e4] at c4
   simp [la]
   refine qaa rfl rfl rfl c1 ?_
   simp
   refine qaa rfl rfl rfl c2 ?_
   simp
   refine qaa rfl rfl rfl c3 ?_
   simp
   refine qaa rfl rfl rfl c4 ?_
   simp
   refine WK_up (fun i E H' => (∃ G, H' = H ++ some ⟨7, [x.v], false, true⟩ :: some ⟨7, [Iv.whole.v], false, true⟩ :: some ⟨7, [Iv.whole.v, Iv.whole.v, Iv.whole.v, Iv.whole.v], true, true⟩ :: G) ∧ E 5 = .ptr (H.length + 1) 0 0 ∧ E 45 = .ref (H.length + 2) 7 0 4 ∧ E 46 = .int .i64 4 ∧ E 47 = .int .i64 i) 4 ?_ ?_
   · simp
   · rintro i E H' hi ⟨⟨G, rfl⟩, h5, h45, h46, h47⟩
     rcases Nat.lt_or_ge i 4 with hlt | hge
     · have ew : IntKind.i64.wrap ((i : Int) + 1) = ((i + 1 : Nat) : Int) := by rw [wrap_i64] <;> omega
       have hlt' : (i : Int) < 4 := by omega
       have hget : ∀ h : i < 4, [Iv.whole.v, Iv.whole.v, Iv.whole.v, Iv.whole.v][i] = Iv.whole.v := by
         intro h
         obtain rfl | rfl | rfl | rfl : i = 0 ∨ i = 1 ∨ i = 2 ∨ i = 3 := by omega
         all_goals rfl
       have hget2 : [Iv.whole.v, Iv.whole.v, Iv.whole.v, Iv.whole.v][i]? = some Iv.whole.v := by
         rw [List.getElem?_eq_getElem (by simpa using hlt)]; rw [hget hlt]
       generalize Iv.whole = w1 at *
       simp only [Iv.v] at hget hget2
       simp [qaz, h5, h45, h46, h47, hlt, hlt', hget]
       refine qaa rfl rfl rfl eqw ?_
       simp [h5, h45, h46, h47, ew]
     · obtain rfl : i = 4 := by omega
       simp [qaz, h46, h47]
 · have vc := qgr x w
   have sc := qxe x w
   rw [hp] at la
   cases hv : x.valid
   · have hk : x.known = false := by unfold Iv.known; rw [hv]; simp
     obtain ⟨e1, e2, e3, e4⟩ := q7w p hk
     rw [hv] at vc
     simp [la]
     refine qaa rfl rfl rfl vc ?_
     rw [e1] at c1
     rw [e2] at c2
     rw [e3] at c3
     rw [e4] at c4
     simp
     refine qaa rfl rfl rfl c1 ?_
     simp
     refine qaa rfl rfl rfl c2 ?_
     simp
     refine qaa rfl rfl rfl c3 ?_
     simp
     refine qaa rfl rfl rfl c4 ?_
     simp
     refine WK_up (fun i E H' => (∃ G, H' = H ++ some ⟨7, [x.v], false, true⟩ :: some ⟨7, [Iv.whole.v], false, true⟩ :: some ⟨7, [Iv.whole.v, Iv.whole.v, Iv.whole.v, Iv.whole.v], true, true⟩ :: G) ∧ E 5 = .ptr (H.length + 1) 0 0 ∧ E 45 = .ref (H.length + 2) 7 0 4 ∧ E 46 = .int .i64 4 ∧ E 47 = .int .i64 i) 4 ?_ ?_
     · simp
     · rintro i E H' hi ⟨⟨G, rfl⟩, h5, h45, h46, h47⟩
       rcases Nat.lt_or_ge i 4 with hlt | hge
       · have ew : IntKind.i64.wrap ((i : Int) + 1) = ((i + 1 : Nat) : Int) := by rw [wrap_i64] <;> omega
         have hlt' : (i : Int) < 4 := by omega
         have hget : ∀ h : i < 4, [Iv.whole.v, Iv.whole.v, Iv.whole.v, Iv.whole.v][i] = Iv.whole.v := by
           intro h
           obtain rfl | rfl | rfl | rfl : i = 0 ∨ i = 1 ∨ i = 2 ∨ i = 3 := by omega
           all_goals rfl
         have hget2 : [Iv.whole.v, Iv.whole.v, Iv.whole.v, Iv.whole.v][i]? = some Iv.whole.v := by
           rw [List.getElem?_eq_getElem (by simpa using hlt)]; rw [hget hlt]
         generalize Iv.whole = w1 at *
         simp only [Iv.v] at hget hget2
         simp [qaz, h5, h45, h46, h47, hlt, hlt', hget]
         refine qaa rfl rfl rfl eqw ?_
         simp [h5, h45, h46, h47, ew]
       · obtain rfl : i = 4 := by omega
         simp [qaz, h46, h47]
   · rw [hv] at vc
     cases ha : x.all
     · rcases x with ⟨xl, xh, xa⟩
       simp only at ha
       subst ha
       simp [la]
       refine qaa rfl rfl rfl vc ?_
       simp
       refine qaa rfl rfl rfl sc ?_
       by_cases h0 : 0 < (Iv.mk xl xh false).sgn
       · simp [h0]
       · have e2 : (Iv.mk xl xh false).log p = Iv.whole := by
           unfold Iv.log
           rw [if_neg]
           intro h
           simp only [Bool.and_eq_true, decide_eq_true_eq] at h
           exact h0 (sgn_pos.2 ⟨h.1.1, h.2⟩)
         rw [e2] at c2
         simp [h0]
         refine qaa rfl rfl rfl c2 ?_
         simp
         refine qaa rfl rfl rfl eqw ?_
         simp
     · have hk : x.known = false := by unfold Iv.known; rw [ha]; simp
       rcases x with ⟨xl, xh, xa⟩
       simp only at ha
       subst ha
       obtain ⟨e1, e2, e3, e4⟩ := q7w p hk
       simp [la]
       refine qaa rfl rfl rfl vc ?_
       rw [e1] at c1
       rw [e2] at c2
       rw [e3] at c3
       rw [e4] at c4
       simp
       refine qaa rfl rfl rfl c1 ?_
       simp
       refine qaa rfl rfl rfl c2 ?_
       simp
       refine qaa rfl rfl rfl c3 ?_
       simp
       refine qaa rfl rfl rfl c4 ?_
       simp
       refine WK_up (fun i E H' => (∃ G, H' = H ++ some ⟨7, [(Iv.mk xl xh true).v], false, true⟩ :: some ⟨7, [Iv.whole.v], false, true⟩ :: some ⟨7, [Iv.whole.v, Iv.whole.v, Iv.whole.v, Iv.whole.v], true, true⟩ :: G) ∧ E 5 = .ptr (H.length + 1) 0 0 ∧ E 45 = .ref (H.length + 2) 7 0 4 ∧ E 46 = .int .i64 4 ∧ E 47 = .int .i64 i) 4 ?_ ?_
       · simp
       · rintro i E H' hi ⟨⟨G, rfl⟩, h5, h45, h46, h47⟩
         rcases Nat.lt_or_ge i 4 with hlt | hge
         · have ew : IntKind.i64.wrap ((i : Int) + 1) = ((i + 1 : Nat) : Int) := by rw [wrap_i64] <;> omega
           have hlt' : (i : Int) < 4 := by omega
           have hget : ∀ h : i < 4, [Iv.whole.v, Iv.whole.v, Iv.whole.v, Iv.whole.v][i] = Iv.whole.v := by
             intro h
             obtain rfl | rfl | rfl | rfl : i = 0 ∨ i = 1 ∨ i = 2 ∨ i = 3 := by omega
             all_goals rfl
           have hget2 : [Iv.whole.v, Iv.whole.v, Iv.whole.v, Iv.whole.v][i]? = some Iv.whole.v := by
             rw [List.getElem?_eq_getElem (by simpa using hlt)]; rw [hget hlt]
           generalize Iv.whole = w1 at *
           simp only [Iv.v] at hget hget2
           simp [qaz, h5, h45, h46, h47, hlt, hlt', hget]
           refine qaa rfl rfl rfl eqw ?_
           simp [h5, h45, h46, h47, ew]
         · obtain rfl : i = 4 := by omega
           simp [qaz, h46, h47]
end Go.Abs.W
