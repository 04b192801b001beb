/- Parts of the proof: FpCp. -/
import Derived.Test.YtnkijamajifgpaaGreatDoorCe
namespace Go.Abs.W
set_option maxHeartbeats 1000000 in
theorem qth (x : Iv) (p : Int) (l : x.Lm) : CQ prog qhq [x.v, .int .i64 p] (.bool true) := by
 refine qag rfl fun H => ?_
 have ca := qwv
 by_cases hl1 : 300 < x.lo.m.length
 · have h1 : (300 : Int) < x.lo.m.length := by omega
   simp [lim]
   refine qab rfl rfl rfl ca ?_
   simp [h1]
   refine qab rfl rfl rfl ca ?_
   simp
 have h1 : ¬ (300 : Int) < x.lo.m.length := by omega
 by_cases hl2 : 300 < x.hi.m.length
 · have h2 : (300 : Int) < x.hi.m.length := by omega
   simp [lim]
   refine qab rfl rfl rfl ca ?_
   simp [h1, h2]
   refine qab rfl rfl rfl ca ?_
   simp
 have h2 : ¬ (300 : Int) < x.hi.m.length := by omega
 have w : x.W := ⟨⟨l.1, by omega⟩, ⟨l.2, by omega⟩⟩
 have cv := qjq x w
 have c1 := q0g x p w
 have c2 := q3i x p w
 have c3 := q0o x p w
 have vw := qjq Iv.whole Iv.whole_W
 have hvw : Iv.whole.valid = true := by decide
 rw [hvw] at vw
 by_cases hp : precB p = true
 · obtain ⟨p1, p2⟩ := qm1 hp
   cases ha : x.all
   · cases hv : x.valid
     · have hk : (precB p && x.known) = false := by simp [Iv.known, hv]
       have hb : ∀ c, bothI x c p = Iv.whole := fun c => by unfold bothI; rw [if_neg (by rw [hk]; decide)]
       have hat : atanI x p = Iv.whole := by unfold atanI; rw [if_neg (by rw [hk]; decide)]
       rcases x with ⟨xl, xh, xa⟩
       simp only at ha
       subst ha
       simp only at h1 h2
       simp [lim]
       refine qab rfl rfl rfl ca ?_
       simp [h1, h2]
       refine qab rfl rfl rfl cv ?_
       simp [hv]
       rw [hb false] at c1
       rw [hb true] at c2
       rw [hat] at c3
       refine qab rfl rfl rfl c1 ?_
       simp
       refine qab rfl rfl rfl c2 ?_
       simp
       refine qab rfl rfl rfl c3 ?_
       simp
       refine WK_up (fun i E H' => (∃ G, H' = H ++ some ⟨7, [(Iv.mk xl xh false).v], false, true⟩ :: some ⟨7, [Iv.whole.v, Iv.whole.v, Iv.whole.v], true, true⟩ :: G) ∧ E 82 = .ref (H.length + 1) 7 0 3 ∧ E 83 = .int .i64 3 ∧ E 84 = .int .i64 i) 3 ?_ ?_
       · simp [lim]
       · rintro i E H' hi ⟨⟨G, rfl⟩, h82, h83, h84⟩
         rcases Nat.lt_or_ge i 3 with hlt | hge
         · have ew : IntKind.i64.wrap ((i : Int) + 1) = ((i + 1 : Nat) : Int) := by rw [wrap_i64] <;> omega
           have hlt' : (i : Int) < 3 := by omega
           have hget : ∀ h : i < 3, [Iv.whole.v, Iv.whole.v, Iv.whole.v][i] = Iv.whole.v := by
             intro h
             obtain rfl | rfl | rfl : i = 0 ∨ i = 1 ∨ i = 2 := by omega
             all_goals rfl
           have hal : Iv.whole.all = true := rfl
           generalize Iv.whole = w1 at *
           simp only [Iv.v, hal] at hget vw
           simp [qai, h82, h83, h84, hlt, hlt', hget, hal]
           refine qab rfl rfl rfl vw ?_
           simp [h82, h83, h84, ew]
         · obtain rfl : i = 3 := by omega
           simp [qai, h83, h84]
     · have hk : x.known = true := by simp [Iv.known, hv, ha]
       obtain ⟨ol, oh⟩ := qb8 w hk
       have k1 := qn6 x.lo 20 ol.w
       have k2 := qn6 x.hi 20 oh.w
       have i1 := qki (bothI x false p) unitI (qzx w) quf
       have i2 := qki (bothI x true p) unitI (qzx w) quf
       have i3 := qki (atanI x p) twoI (q6v w) two_W
       rw [(qvk w hp hk).ins] at i1 i2
       rw [q2a w hp hk] at i3
       have u := qw6
       have r2 := qx5 2 (by omega) (by omega)
       have a2 := qs5 (nD 2)
       have et : qoh (nD 2) = twoI := rfl
       rw [et] at a2
       rcases x with ⟨xl, xh, xa⟩
       simp only at ha
       subst ha
       rw [hv] at cv
       generalize bothI (Iv.mk xl xh false) false p = S at *
       generalize bothI (Iv.mk xl xh false) true p = C at *
       generalize atanI (Iv.mk xl xh false) p = A at *
       generalize twoI = two at *
       generalize unitI = un at *
       generalize nD 2 = n2 at *
       simp only at h1 h2 k1 k2
       by_cases h100 : 100 < p
       · simp [lim]
         refine qab rfl rfl rfl ca ?_
         simp [h1, h2]
         refine qab rfl rfl rfl cv ?_
         simp [p1, p2, h100]
       · cases e1 : com10 xl 20
         · simp [lim]
           refine qab rfl rfl rfl ca ?_
           simp [h1, h2]
           refine qab rfl rfl rfl cv ?_
           simp [p1, p2, h100]
           refine qab rfl rfl rfl k1 ?_
           simp [e1]
         · cases e2 : com10 xh 20
           · simp [lim]
             refine qab rfl rfl rfl ca ?_
             simp [h1, h2]
             refine qab rfl rfl rfl cv ?_
             simp [p1, p2, h100]
             refine qab rfl rfl rfl k1 ?_
             simp [e1]
             refine qab rfl rfl rfl k2 ?_
             simp [e2]
           · simp [lim]
             refine qab rfl rfl rfl ca ?_
             simp [h1, h2]
             refine qab rfl rfl rfl cv ?_
             simp [p1, p2, h100]
             refine qab rfl rfl rfl k1 ?_
             simp [e1]
             refine qab rfl rfl rfl k2 ?_
             simp [e2]
             refine qab rfl rfl rfl c1 ?_
             simp
             refine qab rfl rfl rfl u ?_
             simp
             refine qab rfl rfl rfl i1 ?_
             simp
             refine qab rfl rfl rfl c2 ?_
             simp
             refine qab rfl rfl rfl u ?_
             simp
             refine qab rfl rfl rfl i2 ?_
             simp
             refine qab rfl rfl rfl c3 ?_
             simp
             refine qab rfl rfl rfl r2 ?_
             simp
             refine qab rfl rfl rfl a2 ?_
             simp
             refine qab rfl rfl rfl i3 ?_
             simp
   · have hk : (precB p && x.known) = false := by simp [Iv.known, ha]
     have hb : ∀ c, bothI x c p = Iv.whole := fun c => by unfold bothI; rw [if_neg (by rw [hk]; decide)]
     have hat : atanI x p = Iv.whole := by unfold atanI; rw [if_neg (by rw [hk]; decide)]
     rcases x with ⟨xl, xh, xa⟩
     simp only at ha
     subst ha
     simp only at h1 h2
     simp [lim]
     refine qab rfl rfl rfl ca ?_
     simp [h1, h2]
     rw [hb false] at c1
     rw [hb true] at c2
     rw [hat] at c3
     refine qab rfl rfl rfl c1 ?_
     simp
     refine qab rfl rfl rfl c2 ?_
     simp
     refine qab rfl rfl rfl c3 ?_
     simp
     refine WK_up (fun i E H' => (∃ G, H' = H ++ some ⟨7, [(Iv.mk xl xh true).v], false, true⟩ :: some ⟨7, [Iv.whole.v, Iv.whole.v, Iv.whole.v], true, true⟩ :: G) ∧ E 82 = .ref (H.length + 1) 7 0 3 ∧ E 83 = .int .i64 3 ∧ E 84 = .int .i64 i) 3 ?_ ?_
     · simp [lim]
     · rintro i E H' hi ⟨⟨G, rfl⟩, h82, h83, h84⟩
       rcases Nat.lt_or_ge i 3 with hlt | hge
       · have ew : IntKind.i64.wrap ((i : Int) + 1) = ((i + 1 : Nat) : Int) := by rw [wrap_i64] <;> omega
         have hlt' : (i : Int) < 3 := by omega
         have hget : ∀ h : i < 3, [Iv.whole.v, Iv.whole.v, Iv.whole.v][i] = Iv.whole.v := by
           intro h
           obtain rfl | rfl | rfl : i = 0 ∨ i = 1 ∨ i = 2 := by omega
           all_goals rfl
         have hal : Iv.whole.all = true := rfl
         generalize Iv.whole = w1 at *
         simp only [Iv.v, hal] at hget vw
         simp [qai, h82, h83, h84, hlt, hlt', hget, hal]
         refine qab rfl rfl rfl vw ?_
         simp [h82, h83, h84, ew]
       · obtain rfl : i = 3 := by omega
         simp [qai, h83, h84]
 · have hpf : ¬ (8 ≤ p ∧ p ≤ 512) := fun h => hp (by simp [precB, h])
   cases ha : x.all
   · cases hv : x.valid
     · have hk : (precB p && x.known) = false := by simp [Iv.known, hv]
       have hb : ∀ c, bothI x c p = Iv.whole := fun c => by unfold bothI; rw [if_neg (by rw [hk]; decide)]
       have hat : atanI x p = Iv.whole := by unfold atanI; rw [if_neg (by rw [hk]; decide)]
       rcases x with ⟨xl, xh, xa⟩
       simp only at ha
       subst ha
       simp only at h1 h2
       simp [lim]
       refine qab rfl rfl rfl ca ?_
       simp [h1, h2]
       refine qab rfl rfl rfl cv ?_
       simp [hv]
       rw [hb false] at c1
       rw [hb true] at c2
       rw [hat] at c3
       refine qab rfl rfl rfl c1 ?_
       simp
       refine qab rfl rfl rfl c2 ?_
       simp
       refine qab rfl rfl rfl c3 ?_
       simp
       refine WK_up (fun i E H' => (∃ G, H' = H ++ some ⟨7, [(Iv.mk xl xh false).v], false, true⟩ :: some ⟨7, [Iv.whole.v, Iv.whole.v, Iv.whole.v], true, true⟩ :: G) ∧ E 82 = .ref (H.length + 1) 7 0 3 ∧ E 83 = .int .i64 3 ∧ E 84 = .int .i64 i) 3 ?_ ?_
       · simp [lim]
       · rintro i E H' hi ⟨⟨G, rfl⟩, h82, h83, h84⟩
         rcases Nat.lt_or_ge i 3 with hlt | hge
         · have ew : IntKind.i64.wrap ((i : Int) + 1) = ((i + 1 : Nat) : Int) := by rw [wrap_i64] <;> omega
           have hlt' : (i : Int) < 3 := by omega
           have hget : ∀ h : i < 3, [Iv.whole.v, Iv.whole.v, Iv.whole.v][i] = Iv.whole.v := by
             intro h
             obtain rfl | rfl | rfl : i = 0 ∨ i = 1 ∨ i = 2 := by omega
             all_goals rfl
           have hal : Iv.whole.all = true := rfl
           generalize Iv.whole = w1 at *
           simp only [Iv.v, hal] at hget vw
           simp [qai, h82, h83, h84, hlt, hlt', hget, hal]
           refine qab rfl rfl rfl vw ?_
           simp [h82, h83, h84, ew]
         · obtain rfl : i = 3 := by omega
           simp [qai, h83, h84]
     · by_cases p1 : 8 ≤ p
       · have p2 : ¬ p ≤ 512 := fun h => hpf ⟨p1, h⟩
         have hk : (precB p && x.known) = false := by simp [Iv.known, hp]
         have hb : ∀ c, bothI x c p = Iv.whole := fun c => by unfold bothI; rw [if_neg (by rw [hk]; decide)]
         have hat : atanI x p = Iv.whole := by unfold atanI; rw [if_neg (by rw [hk]; decide)]
         rcases x with ⟨xl, xh, xa⟩
         simp only at ha
         subst ha
         simp only at h1 h2
         simp [lim]
         refine qab rfl rfl rfl ca ?_
         simp [h1, h2]
         refine qab rfl rfl rfl cv ?_
         simp [hv, p1, p2]
         rw [hb false] at c1
         rw [hb true] at c2
         rw [hat] at c3
         refine qab rfl rfl rfl c1 ?_
         simp
         refine qab rfl rfl rfl c2 ?_
         simp
         refine qab rfl rfl rfl c3 ?_
         simp
         refine WK_up (fun i E H' => (∃ G, H' = H ++ some ⟨7, [(Iv.mk xl xh false).v], false, true⟩ :: some ⟨7, [Iv.whole.v, Iv.whole.v, Iv.whole.v], true, true⟩ :: G) ∧ E 82 = .ref (H.length + 1) 7 0 3 ∧ E 83 = .int .i64 3 ∧ E 84 = .int .i64 i) 3 ?_ ?_
         · simp [lim]
         · rintro i E H' hi ⟨⟨G, rfl⟩, h82, h83, h84⟩
           rcases Nat.lt_or_ge i 3 with hlt | hge
           · have ew : IntKind.i64.wrap ((i : Int) + 1) = ((i + 1 : Nat) : Int) := by rw [wrap_i64] <;> omega
             have hlt' : (i : Int) < 3 := by omega
             have hget : ∀ h : i < 3, [Iv.whole.v, Iv.whole.v, Iv.whole.v][i] = Iv.whole.v := by
               intro h
               obtain rfl | rfl | rfl : i = 0 ∨ i = 1 ∨ i = 2 := by omega
               all_goals rfl
             have hal : Iv.whole.all = true := rfl
             generalize Iv.whole = w1 at *
             simp only [Iv.v, hal] at hget vw
             simp [qai, h82, h83, h84, hlt, hlt', hget, hal]
             refine qab rfl rfl rfl vw ?_
             simp [h82, h83, h84, ew]
           · obtain rfl : i = 3 := by omega
             simp [qai, h83, h84]
       · have hk : (precB p && x.known) = false := by simp [Iv.known, hp]
         have hb : ∀ c, bothI x c p = Iv.whole := fun c => by unfold bothI; rw [if_neg (by rw [hk]; decide)]
         have hat : atanI x p = Iv.whole := by unfold atanI; rw [if_neg (by rw [hk]; decide)]
         rcases x with ⟨xl, xh, xa⟩
         simp only at ha
         subst ha
         simp only at h1 h2
         simp [lim]
         refine qab rfl rfl rfl ca ?_
         simp [h1, h2]
         refine qab rfl rfl rfl cv ?_
         simp [hv, p1]
         rw [hb false] at c1
         rw [hb true] at c2
         rw [hat] at c3
         refine qab rfl rfl rfl c1 ?_
         simp
         refine qab rfl rfl rfl c2 ?_
         simp
         refine qab rfl rfl rfl c3 ?_
         simp
         refine WK_up (fun i E H' => (∃ G, H' = H ++ some ⟨7, [(Iv.mk xl xh false).v], false, true⟩ :: some ⟨7, [Iv.whole.v, Iv.whole.v, Iv.whole.v], true, true⟩ :: G) ∧ E 82 = .ref (H.length + 1) 7 0 3 ∧ E 83 = .int .i64 3 ∧ E 84 = .int .i64 i) 3 ?_ ?_
         · simp [lim]
         · rintro i E H' hi ⟨⟨G, rfl⟩, h82, h83, h84⟩
           rcases Nat.lt_or_ge i 3 with hlt | hge
           · have ew : IntKind.i64.wrap ((i : Int) + 1) = ((i + 1 : Nat) : Int) := by rw [wrap_i64] <;> omega
             have hlt' : (i : Int) < 3 := by omega
             have hget : ∀ h : i < 3, [Iv.whole.v, Iv.whole.v, Iv.whole.v][i] = Iv.whole.v := by
               intro h
               obtain rfl | rfl | rfl : i = 0 ∨ i = 1 ∨ i = 2 := by omega
               all_goals rfl
             have hal : Iv.whole.all = true := rfl
             generalize Iv.whole = w1 at *
             simp only [Iv.v, hal] at hget vw
             simp [qai, h82, h83, h84, hlt, hlt', hget, hal]
             refine qab rfl rfl rfl vw ?_
             simp [h82, h83, h84, ew]
           · obtain rfl : i = 3 := by omega
             simp [qai, h83, h84]
   · have hk : (precB p && x.known) = false := by simp [Iv.known, ha]
     have hb : ∀ c, bothI x c p = Iv.whole := fun c => by unfold bothI; rw [if_neg (by rw [hk]; decide)]
     have hat : atanI x p = Iv.whole := by unfold atanI; rw [if_neg (by rw [hk]; decide)]
     rcases x with ⟨xl, xh, xa⟩
     simp only at ha
     subst ha
     simp only at h1 h2
     simp [lim]
     refine qab rfl rfl rfl ca ?_
     simp [h1, h2]
     rw [hb false] at c1
     rw [hb true] at c2
     rw [hat] at c3
     refine qab rfl rfl rfl c1 ?_
     simp
     refine qab rfl rfl rfl c2 ?_
     simp
     refine qab rfl rfl rfl c3 ?_
     simp
     refine WK_up (fun i E H' => (∃ G, H' = H ++ some ⟨7, [(Iv.mk xl xh true).v], false, true⟩ :: some ⟨7, [Iv.whole.v, Iv.whole.v, Iv.whole.v], true, true⟩ :: G) ∧ E 82 = .ref (H.length + 1) 7 0 3 ∧ E 83 = .int .i64 3 ∧ E 84 = .int .i64 i) 3 ?_ ?_
     · simp [lim]
     · rintro i E H' hi ⟨⟨G, rfl⟩, h82, h83, h84⟩
       rcases Nat.lt_or_ge i 3 with hlt | hge
       · have ew : IntKind.i64.wrap ((i : Int) + 1) = ((i + 1 : Nat) : Int) := by rw [wrap_i64] <;> omega
         have hlt' : (i : Int) < 3 := by omega
         have hget : ∀ h : i < 3, [Iv.whole.v, Iv.whole.v, Iv.whole.v][i] = Iv.whole.v := by
           intro h
           obtain rfl | rfl | rfl : i = 0 ∨ i = 1 ∨ i = 2 := by omega
           all_goals rfl
         have hal : Iv.whole.all = true := rfl
         generalize Iv.whole = w1 at *
         simp only [Iv.v, hal] at hget vw
         simp [qai, h82, h83, h84, hlt, hlt', hget, hal]
         refine qab rfl rfl rfl vw ?_
         simp [h82, h83, h84, ew]
       · obtain rfl : i = 3 := by omega
         simp [qai, h83, h84]
end Go.Abs.W
