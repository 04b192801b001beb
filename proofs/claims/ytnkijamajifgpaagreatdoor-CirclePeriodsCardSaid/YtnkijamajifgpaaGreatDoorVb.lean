/- Parts of the proof: FpVb. -/
import Derived.Test.YtnkijamajifgpaaGreatDoorVa
import Derived.Test.YtnkijamajifgpaaGreatDoorUb
namespace Go.Abs.W
theorem qfv {x : Iv} {c : Bool} {p : Int} (w : x.W) : (bothI x c p).Gd := by
 by_cases h : (precB p && x.known) = true
 · simp only [Bool.and_eq_true] at h
   have q := q1h (c := c) w h.1 h.2
   right
   have e : bothI x c p = ⟨(bothI x c p).lo, (bothI x c p).hi, false⟩ := by
     have := q.al
     generalize bothI x c p = y at *
     rcases y with ⟨l, r, a⟩
     simp only at this
     subst this; rfl
   rw [e]
   exact qc2 q.ol q.oh q.le
 · left; unfold bothI; rw [if_neg h]
theorem qht {x : Iv} {c : Bool} {p : Int} {u : Nat → Rat} (w : x.W) (h : x.Has u) : (bothI x c p).Has (Fn c u) := by
 by_cases hc : (precB p && x.known) = true
 · have hc2 := hc
   simp only [Bool.and_eq_true] at hc2
   obtain ⟨a, b⟩ := qvn hc2.2 h
   exact q8y w hc2.1 hc2.2 a b
 · unfold bothI; rw [if_neg hc]; exact .whole
theorem qss (d : Dy) : (Iv.pt d).Has (cK d.rat) := (pt_In d).has
theorem piO_W {p : Int} : (piO p).W := by unfold piO; split <;> first | exact q0p | exact Iv.whole_W
theorem qv2 {d : Dy} {n : Int} (ok : d.Ok) : (((bothI (Iv.pt d) false n).sq n).add ((bothI (Iv.pt d) true n).sq n) n).has (nD 1) = true := by
 have w : (Iv.pt d).W := pt_W ok.w
 have hs := qht (c := false) (p := n) w (qss d)
 have hc := qht (c := true) (p := n) w (qss d)
 have bs := qld (qna d.rat)
 have bc := qja (qna d.rat)
 have h1 := q9l (p := n) (qbj w) hs bs
 have h2 := q9l (p := n) (qbj w) hc bc
 have h3 := qzo (p := n) sq_W sq_W h1 h2
 refine qabz add_W (qafn sq_W sq_W) nD1 h3 ?_
 rw [qt9]
 exact (Near.of_eq fun n => by show Si _ n * Si _ n + Co _ n * Co _ n = Co _ n * Co _ n + Si _ n * Si _ n; grind).trans (q6z (qna d.rat))
theorem qv3 (d : Dy) (p : Int) (l : Li d.m) (hp : IntKind.u8.min ≤ p ∧ p ≤ IntKind.u8.max) : CQ prog qjj [d.v, .int .u8 p] (.bool true) := by
 refine qag rfl fun H => ?_
 have ca := qtj
 have cm := qoc d 20 l
 cases hc : com10 d 20
 · rw [hc] at cm
   simp
   refine qab rfl rfl rfl ca ?_
   simp
   refine qab rfl rfl rfl cm ?_
   simp
   refine qab rfl rfl rfl ca ?_
   simp
 · rw [hc] at cm
   obtain ⟨ok, _, _⟩ := qq6 l hc
   have cp := qwe p hp
   have hn := precB_iff.1 (q7w (p := p)).2.2
   generalize hN : qn6 p = n at *
   have c1 := qi9 d ok.w
   rw [if_pos ok.valid] at c1
   have w : (Iv.pt d).W := pt_W ok.w
   have c2 := qtk (Iv.pt d) n w
   have c3 := qx5 (Iv.pt d) n w
   have c4 := qto (bothI (Iv.pt d) false n) n (qbj w)
   have c5 := qto (bothI (Iv.pt d) true n) n (qbj w)
   have c6 := qzv ((bothI (Iv.pt d) false n).sq n) ((bothI (Iv.pt d) true n).sq n) n sq_W sq_W
   have c7 := qlz 1 (by omega) (by omega)
   have c8 := q6w (((bothI (Iv.pt d) false n).sq n).add ((bothI (Iv.pt d) true n).sq n) n) (nD 1) add_W nD1.w
   rw [qv2 ok] at c8
   generalize ((bothI (Iv.pt d) false n).sq n).add ((bothI (Iv.pt d) true n).sq n) n = T at *
   generalize (bothI (Iv.pt d) false n).sq n = S2 at *
   generalize (bothI (Iv.pt d) true n).sq n = C2 at *
   generalize bothI (Iv.pt d) false n = S at *
   generalize bothI (Iv.pt d) true n = C at *
   generalize Iv.pt d = P at *
   generalize nD 1 = one at *
   simp
   refine qab rfl rfl rfl ca ?_
   simp
   refine qab rfl rfl rfl cm ?_
   simp
   refine qab rfl rfl rfl cp ?_
   simp
   refine qab rfl rfl rfl c1 ?_
   simp
   refine qab rfl rfl rfl c2 ?_
   simp
   refine qab rfl rfl rfl c1 ?_
   simp
   refine qab rfl rfl rfl c3 ?_
   simp
   refine qab rfl rfl rfl c4 ?_
   simp
   refine qab rfl rfl rfl c5 ?_
   simp
   refine qab rfl rfl rfl c6 ?_
   simp
   refine qab rfl rfl rfl c7 ?_
   simp
   refine qab rfl rfl rfl c8 ?_
   simp
end Go.Abs.W
