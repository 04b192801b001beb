/- Parts of the proof: FpVg. -/
import Derived.Test.YtnkijamajifgpaaGreatDoorUc
import Derived.Test.YtnkijamajifgpaaGreatDoorVb
namespace Go.Abs.W
theorem neg'_same {d : Dy} : d.neg'.m = d.m ∧ d.neg'.e = d.e ∧ d.neg'.top = d.top := ⟨rfl, rfl, rfl⟩
theorem qxc {d : Dy} {e : Int} (hm : d.m ≠ []) (he : e ≤ d.e) : bitL (sumX d e) ≤ (d.top - e).toNat := by
 unfold sumX
 have := qok (n := natV d.m) (s := (d.e - e).toNat)
 have et : d.top = bitL (natV d.m) + d.e := by unfold Dy.top; rw [if_neg hm]
 omega
theorem qadc {a b : Dy} (oa : a.Ok) (ob : b.Ok) (ha : -2000 ≤ a.e) (hb : -2000 ≤ b.e) (ta : a.top ≤ 1000) (tb : b.top ≤ 1000) : (a.sum b).Ok := by
 unfold Dy.sum
 by_cases na : a.m = []
 · rw [if_pos na]; exact ob
 · by_cases nb : b.m = []
   · rw [if_neg na, if_pos nb]; exact oa
   · rw [if_neg na, if_neg nb]
     obtain ⟨e, he⟩ : ∃ e, e = min a.e b.e := ⟨_, rfl⟩
     simp only [← he]
     have h1 := oa.elo; have h2 := ob.elo
     have ea : a.e ≤ 1000 := by have : a.top = bitL (natV a.m) + a.e := by { unfold Dy.top; rw [if_neg na] }
                                omega
     have ba := qxc na (show e ≤ a.e by omega)
     have bb := qxc nb (show e ≤ b.e by omega)
     have bs := qgm (k := 3000) (Nat.le_trans ba (by omega)) (Nat.le_trans bb (by omega))
     split
     · exact Dy.of_ok (Dy.of_inR (by omega) (by omega) (by omega))
     · split
       · have := qam (Nat.sub_le (sumX a e) (sumX b e))
         exact Dy.of_ok (Dy.of_inR (by omega) (by omega) (by omega))
       · have := qam (Nat.sub_le (sumX b e) (sumX a e))
         exact Dy.of_ok (Dy.of_inR (by omega) (by omega) (by omega))
theorem qag7 {x : Iv} {d : Dy} (w : x.W) (k : x.known = true) (od : d.Ok) (h : x.has d = true) : x.In d.rat := by
 obtain ⟨o1, o2⟩ := qal w k
 unfold Iv.has at h
 rw [(qbs k).1, (qbs k).2, od.valid, qgf o1 od, qgf od o2] at h
 simp at h
 have a := cmpI_le.1 h.1
 have b := cmpI_le.1 h.2
 intro _
 rw [qge]
 exact ⟨qb3 a, qb3 b⟩
theorem qz7 {x : Iv} {d : Dy} {n : Int} (w : x.W) (k : x.known = true) (od : d.Ok) (h : x.has d = true) :
   meetB (bothI x false n) (bothI (Iv.pt d) false n) = true ∧ meetB (bothI x true n) (bothI (Iv.pt d) true n) = true ∧ meetB (atanI x n) (atanI (Iv.pt d) n) = true ∧ (atanI x n).Gd := by
 have wd : (Iv.pt d).W := pt_W od.w
 have hi := qag7 w k od h
 have hx := hi.has
 have A := fun t => qk0 (c := t) (p := n) w hx
 have B := fun t => qk0 (c := t) (p := n) wd (qxt d)
 obtain ⟨g1, h1⟩ := qmd (p := n) w hi
 obtain ⟨g2, h2⟩ := qmd (p := n) wd (pt_In d)
 exact ⟨qfg (qcf w) (qcf wd) (qjh w) (qjh wd) (A false) (B false), qfg (qcf w) (qcf wd) (qjh w) (qjh wd) (A true) (B true),
   qfg (qmw w) (qmw wd) g1 g2 h1 h2, g1⟩
theorem q8d {x : Iv} {c : Bool} {n : Int} (w : x.W) (k : x.known = true) (hp : precB n = true) (h : 7 * pw 16384 ≤ x.hi.val - x.lo.val) : bothI x c n = unitI := by
 obtain ⟨o1, o2⟩ := qal w k
 unfold bothI
 rw [hp, k, if_pos (show (true && true) = true from rfl)]
 split
 · rfl
 · rw [if_pos]
   by_cases hw : (x.wid 64).2 = 0
   · right
     have e : x.wid 64 = rAdd x.hi x.lo.neg' 64 true := by unfold Iv.wid; rw [k, if_pos (by decide)]
     rw [e] at hw ⊢
     have up := (qmz (p := 64) o2 (qj4 o1) (by decide)).at hw
     have ok : (rAdd x.hi x.lo.neg' 64 true).1.Ok := rAdd_ok
     rw [qgf ok nD7]
     have v7 : (nD 7).val = 7 * pw 16384 := qn5
     rw [qnr] at up
     have : cmpI (nD 7).val (rAdd x.hi x.lo.neg' 64 true).1.val ≤ 0 := cmpI_le.2 (by omega)
     unfold cmpI at this ⊢
     split <;> (try split) <;> omega
   · left; exact hw
set_option maxHeartbeats 2000000 in
theorem q31 (x : Iv) (d : Dy) (p : Int) (lx : x.Lm) (l : Li d.m) (hp : IntKind.u8.min ≤ p ∧ p ≤ IntKind.u8.max) : CQ prog qlk [x.v, d.v, .int .u8 p] (.bool true) := by
 refine qag rfl fun H => ?_
 have ca := qo8
 have c1 := qec x.lo 20 lx.1
 have c2 := qec x.hi 20 lx.2
 have c3 := qec d 20 l
 cases ha : x.all
 case true =>
   rcases x with ⟨xl, xh, xa⟩
   simp only at ha
   subst ha
   simp
   refine qaa rfl rfl rfl ca ?_
   simp
   refine qaa rfl rfl rfl ca ?_
   simp
 cases h1 : com10 x.lo 20
 case false =>
   rw [h1] at c1
   rcases x with ⟨xl, xh, xa⟩
   simp only at ha c1
   subst ha
   simp
   refine qaa rfl rfl rfl ca ?_
   simp
   refine qaa rfl rfl rfl c1 ?_
   simp
   refine qaa rfl rfl rfl ca ?_
   simp
 cases h2 : com10 x.hi 20
 case false =>
   rw [h1] at c1
   rw [h2] at c2
   rcases x with ⟨xl, xh, xa⟩
   simp only at ha c1 c2
   subst ha
   simp
   refine qaa rfl rfl rfl ca ?_
   simp
   refine qaa rfl rfl rfl c1 ?_
   simp
   refine qaa rfl rfl rfl c2 ?_
   simp
   refine qaa rfl rfl rfl ca ?_
   simp
 cases h3 : com10 d 20
 case false =>
   rw [h1] at c1
   rw [h2] at c2
   rw [h3] at c3
   rcases x with ⟨xl, xh, xa⟩
   simp only at ha c1 c2
   subst ha
   simp
   refine qaa rfl rfl rfl ca ?_
   simp
   refine qaa rfl rfl rfl c1 ?_
   simp
   refine qaa rfl rfl rfl c2 ?_
   simp
   refine qaa rfl rfl rfl c3 ?_
   simp
   refine qaa rfl rfl rfl ca ?_
   simp
 rw [h1] at c1
 rw [h2] at c2
 rw [h3] at c3
 obtain ⟨o1, e1, t1⟩ := qe1 lx.1 h1
 obtain ⟨o2, e2, t2⟩ := qe1 lx.2 h2
 obtain ⟨od, _, _⟩ := qe1 l h3
 have w : x.W := ⟨o1.w, o2.w⟩
 have cv := qmi x w
 cases hv : x.valid
 case false =>
   rw [hv] at cv
   rcases x with ⟨xl, xh, xa⟩
   simp only at ha c1 c2
   subst ha
   simp
   refine qaa rfl rfl rfl ca ?_
   simp
   refine qaa rfl rfl rfl c1 ?_
   simp
   refine qaa rfl rfl rfl c2 ?_
   simp
   refine qaa rfl rfl rfl c3 ?_
   simp
   refine qaa rfl rfl rfl cv ?_
   simp
   refine qaa rfl rfl rfl ca ?_
   simp
 rw [hv] at cv
 have k : x.known = true := by simp [Iv.known, hv, ha]
 have cp := qq3 p hp
 have hn := (q99 (p := p)).2.2
 generalize hN : qnz p = n at *
 have wd : (Iv.pt d).W := pt_W od.w
 have s1 := qpl x n w
 have s2 := qs3 x n w
 have s3 := q84 x d w od.w
 have s4 := qev d od.w
 rw [if_pos od.valid] at s4
 have s5 := qpl (Iv.pt d) n wd
 have s6 := qs3 (Iv.pt d) n wd
 have s7 := qpb x n w
 have s8 := qpb (Iv.pt d) n wd
 have m1 := qd8 (bothI x false n) (bothI (Iv.pt d) false n) (qcf w) (qcf wd) (qgn (qjh w))
 have m2 := qd8 (bothI x true n) (bothI (Iv.pt d) true n) (qcf w) (qcf wd) (qgn (qjh w))
 have sOk : (x.hi.sum x.lo.neg').Ok := qadc o2 (qj4 o1) (by omega) (by rw [neg'_same.2.1]; omega) (by omega) (by rw [neg'_same.2.2]; omega)
 have r1 := q80 x.lo
 have r2 := qacv x.hi x.lo.neg' o2.toM (qj4 o1).toM
 have r3 := q5y 7 (by omega) (by omega)
 have r4 := qsz (x.hi.sum x.lo.neg') (nD 7) sOk nD7
 have u := q4x
 have wide := fun c => q8d (c := c) (n := n) w k hn
 have q1 := qmj (bothI x false n) unitI (qcf w) qw7
 have q2 := qmj (bothI x true n) unitI (qcf w) qw7
 -- the tail
 have cmpF : ¬ (x.hi.sum x.lo.neg').cmp (nD 7) < 0 → bothI x false n = unitI ∧ bothI x true n = unitI := by
   intro hc
   rw [qgf sOk nD7] at hc
   have v7 : (nD 7).val = 7 * pw 16384 := qn5
   have sv := (qzr o2 (qj4 o1)).1
   rw [qnr] at sv
   have : 7 * pw 16384 ≤ x.hi.val - x.lo.val := by
     unfold cmpI at hc
     split at hc
     · omega
     · omega
   exact ⟨wide false this, wide true this⟩
 have facts := fun h => qz7 (n := n) w k od h
 have m3 := fun (h : x.has d = true) => qd8 (atanI x n) (atanI (Iv.pt d) n) (qmw w) (qmw wd) (qgn (facts h).2.2.2)
 clear wide
 by_cases hh : x.has d = true
 · obtain ⟨f1, f2, f3, _⟩ := facts hh
   have m3 := m3 hh
   rw [f1] at m1
   rw [f2] at m2
   rw [f3] at m3
   rw [hh] at s3
   clear f1 f2 f3 facts
   generalize (x.hi.sum x.lo.neg').cmp (nD 7) = cc at *
   by_cases hc : cc < 0
   · clear q1 q2 cmpF
     rcases x with ⟨xl, xh, xa⟩
     simp only at ha c1 c2 r1 r2 r4
     subst ha
     generalize bothI (Iv.mk xl xh false) false n = S at *
     generalize bothI (Iv.mk xl xh false) true n = C at *
     generalize atanI (Iv.mk xl xh false) n = A at *
     generalize bothI (Iv.pt d) false n = S2 at *
     generalize bothI (Iv.pt d) true n = C2 at *
     generalize atanI (Iv.pt d) n = A2 at *
     generalize xh.sum xl.neg' = SM at *
     generalize xl.neg' = NL at *
     generalize nD 7 = n7 at *
     generalize Iv.pt d = P at *
     simp
     refine qaa rfl rfl rfl ca ?_
     simp
     refine qaa rfl rfl rfl c1 ?_
     simp
     refine qaa rfl rfl rfl c2 ?_
     simp
     refine qaa rfl rfl rfl c3 ?_
     simp
     refine qaa rfl rfl rfl cv ?_
     simp
     refine qaa rfl rfl rfl cp ?_
     simp
     refine qaa rfl rfl rfl s1 ?_
     simp
     refine qaa rfl rfl rfl s2 ?_
     simp
     refine qaa rfl rfl rfl s3 ?_
     simp
     refine qaa rfl rfl rfl s4 ?_
     simp
     refine qaa rfl rfl rfl s5 ?_
     simp
     refine qaa rfl rfl rfl m1 ?_
     simp
     refine qaa rfl rfl rfl s6 ?_
     simp
     refine qaa rfl rfl rfl m2 ?_
     simp
     refine qaa rfl rfl rfl s7 ?_
     simp
     refine qaa rfl rfl rfl s8 ?_
     simp
     refine qaa rfl rfl rfl m3 ?_
     simp
     refine qaa rfl rfl rfl r1 ?_
     simp
     refine qaa rfl rfl rfl r2 ?_
     simp
     refine qaa rfl rfl rfl r3 ?_
     simp
     refine qaa rfl rfl rfl r4 ?_
     simp [hc]
   · obtain ⟨g1, g2⟩ := cmpF hc
     rw [g1] at s1 m1 q1
     rw [g2] at s2 m2 q2
     rw [decide_eq_true rfl] at q1 q2
     clear cmpF g1 g2
     rcases x with ⟨xl, xh, xa⟩
     simp only at ha c1 c2 r1 r2 r4
     subst ha
     generalize atanI (Iv.mk xl xh false) n = A at *
     generalize bothI (Iv.pt d) false n = S2 at *
     generalize bothI (Iv.pt d) true n = C2 at *
     generalize atanI (Iv.pt d) n = A2 at *
     generalize xh.sum xl.neg' = SM at *
     generalize xl.neg' = NL at *
     generalize nD 7 = n7 at *
     generalize Iv.pt d = P at *
     generalize unitI = U at *
     simp
     refine qaa rfl rfl rfl ca ?_
     simp
     refine qaa rfl rfl rfl c1 ?_
     simp
     refine qaa rfl rfl rfl c2 ?_
     simp
     refine qaa rfl rfl rfl c3 ?_
     simp
     refine qaa rfl rfl rfl cv ?_
     simp
     refine qaa rfl rfl rfl cp ?_
     simp
     refine qaa rfl rfl rfl s1 ?_
     simp
     refine qaa rfl rfl rfl s2 ?_
     simp
     refine qaa rfl rfl rfl s3 ?_
     simp
     refine qaa rfl rfl rfl s4 ?_
     simp
     refine qaa rfl rfl rfl s5 ?_
     simp
     refine qaa rfl rfl rfl m1 ?_
     simp
     refine qaa rfl rfl rfl s6 ?_
     simp
     refine qaa rfl rfl rfl m2 ?_
     simp
     refine qaa rfl rfl rfl s7 ?_
     simp
     refine qaa rfl rfl rfl s8 ?_
     simp
     refine qaa rfl rfl rfl m3 ?_
     simp
     refine qaa rfl rfl rfl r1 ?_
     simp
     refine qaa rfl rfl rfl r2 ?_
     simp
     refine qaa rfl rfl rfl r3 ?_
     simp
     refine qaa rfl rfl rfl r4 ?_
     simp [hc]
     refine qaa rfl rfl rfl u ?_
     simp
     refine qaa rfl rfl rfl q1 ?_
     simp
     refine qaa rfl rfl rfl u ?_
     simp
     refine qaa rfl rfl rfl q2 ?_
     simp
 · have hh' : x.has d = false := by simpa using hh
   rw [hh'] at s3
   clear facts m1 m2 m3
   generalize (x.hi.sum x.lo.neg').cmp (nD 7) = cc at *
   by_cases hc : cc < 0
   · clear q1 q2 cmpF
     rcases x with ⟨xl, xh, xa⟩
     simp only at ha c1 c2 r1 r2 r4
     subst ha
     generalize bothI (Iv.mk xl xh false) false n = S at *
     generalize bothI (Iv.mk xl xh false) true n = C at *
     generalize xh.sum xl.neg' = SM at *
     generalize xl.neg' = NL at *
     generalize nD 7 = n7 at *
     simp
     refine qaa rfl rfl rfl ca ?_
     simp
     refine qaa rfl rfl rfl c1 ?_
     simp
     refine qaa rfl rfl rfl c2 ?_
     simp
     refine qaa rfl rfl rfl c3 ?_
     simp
     refine qaa rfl rfl rfl cv ?_
     simp
     refine qaa rfl rfl rfl cp ?_
     simp
     refine qaa rfl rfl rfl s1 ?_
     simp
     refine qaa rfl rfl rfl s2 ?_
     simp
     refine qaa rfl rfl rfl s3 ?_
     simp
     refine qaa rfl rfl rfl r1 ?_
     simp
     refine qaa rfl rfl rfl r2 ?_
     simp
     refine qaa rfl rfl rfl r3 ?_
     simp
     refine qaa rfl rfl rfl r4 ?_
     simp [hc]
   · obtain ⟨g1, g2⟩ := cmpF hc
     rw [g1] at s1 q1
     rw [g2] at s2 q2
     rw [decide_eq_true rfl] at q1 q2
     clear cmpF g1 g2
     rcases x with ⟨xl, xh, xa⟩
     simp only at ha c1 c2 r1 r2 r4
     subst ha
     generalize xh.sum xl.neg' = SM at *
     generalize xl.neg' = NL at *
     generalize nD 7 = n7 at *
     generalize unitI = U at *
     simp
     refine qaa rfl rfl rfl ca ?_
     simp
     refine qaa rfl rfl rfl c1 ?_
     simp
     refine qaa rfl rfl rfl c2 ?_
     simp
     refine qaa rfl rfl rfl c3 ?_
     simp
     refine qaa rfl rfl rfl cv ?_
     simp
     refine qaa rfl rfl rfl cp ?_
     simp
     refine qaa rfl rfl rfl s1 ?_
     simp
     refine qaa rfl rfl rfl s2 ?_
     simp
     refine qaa rfl rfl rfl s3 ?_
     simp
     refine qaa rfl rfl rfl r1 ?_
     simp
     refine qaa rfl rfl rfl r2 ?_
     simp
     refine qaa rfl rfl rfl r3 ?_
     simp
     refine qaa rfl rfl rfl r4 ?_
     simp [hc]
     refine qaa rfl rfl rfl u ?_
     simp
     refine qaa rfl rfl rfl q1 ?_
     simp
     refine qaa rfl rfl rfl u ?_
     simp
     refine qaa rfl rfl rfl q2 ?_
     simp
end Go.Abs.W
