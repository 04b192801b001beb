/- Parts of the proof: FpXr. -/
import Derived.Test.YtedfjcdjmnaaiaaGreatDoorXh
import Derived.Test.YtedfjcdjmnaaiaaGreatDoorXf
namespace Go.Abs.W
theorem q4i (x : Iv) (p : Int) (l : x.Lm) : CQ prog qkc [x.v, .int .i64 p] (.bool true) := by
 refine qag rfl fun H => ?_
 simp
 refine qaa rfl rfl rfl qg8 ?_
 simp
 refine qaa rfl rfl rfl (qlw x p l) ?_
 cases hs : qg2 x p
 · simp
 obtain ⟨w, k, hp, m1, m2, _, _⟩ := qe8 l hs
 have nb := qos w k
 have le0 := rat_le.2 (qak w k)
 have c1 := qmj x p w
 have c2 := qq2 x p w
 have c3 := qxj x p w
 have wa : (x.exp p).W := exp_W w
 have wb : (x.sinh p).W := q2w
 have wc : (x.cosh p).W := qzq
 have ka := (qhc w k hp m1 m2 Rat.le_refl le0).1
 have kb := (qt7 w k hp m1 m2 Rat.le_refl le0).1
 have kc := (qr1 w k hp m1 m2 Rat.le_refl le0).1
 have va := qav ka
 have vb := qav kb
 have vc := qav kc
 have mt : ∀ d ∈ [x.lo, x.hi, x.mid 64], (CQ prog qrs [d.v] (rExp d).v ∧ CQ prog qdw [(x.exp p).v, (rExp d).v] (.bool true)) ∧
     (CQ prog qqc [d.v] (rSinh d).v ∧ CQ prog qdw [(x.sinh p).v, (rSinh d).v] (.bool true)) ∧
     (CQ prog qqd [d.v] (rCosh d).v ∧ CQ prog qdw [(x.cosh p).v, (rCosh d).v] (.bool true)) := by
   intro d hd
   obtain ⟨ok, q1, q2⟩ := nb d hd
   have r1 := rat_le.2 q1
   have r2 := rat_le.2 q2
   have t1 := ql8 wa qoe (.inr ka) qabx (qhc w k hp m1 m2 r1 r2).2 (qpr ok)
   have t2 := ql8 wb qabv (.inr kb) qafp (qt7 w k hp m1 m2 r1 r2).2 (qabw ok)
   have t3 := ql8 wc qab0 (.inr kc) qafs (qr1 w k hp m1 m2 r1 r2).2.1 (qab1 ok)
   have u1 := qlz (x.exp p) (rExp d) wa qoe
   have u2 := qlz (x.sinh p) (rSinh d) wb qabv
   have u3 := qlz (x.cosh p) (rCosh d) wc qab0
   rw [t1] at u1
   rw [t2] at u2
   rw [t3] at u3
   exact ⟨⟨qsd d ok, u1⟩, ⟨qafj d ok, u2⟩, ⟨qafm d ok, u3⟩⟩
 have nc := qy0 x w
 have ia := qd7 (x.exp p) wa
 have ib := qd7 (x.sinh p) wb
 have ic := qd7 (x.cosh p) wc
 rw [va.1] at ia
 rw [vb.1] at ib
 rw [vc.1] at ic
 replace va := va.2
 replace vb := vb.2
 replace vc := vc.2
 clear ka kb kc wa wb wc
 generalize x.exp p = a at *
 generalize x.sinh p = b at *
 generalize x.cosh p = c at *
 obtain ⟨L, hL⟩ : ∃ L, L = [x.lo, x.hi, x.mid 64] := ⟨_, rfl⟩
 rw [← hL] at nc mt
 have hlen : L.length = 3 := by rw [hL]; rfl
 simp
 refine qaa rfl rfl rfl c1 ?_
 simp
 refine qaa rfl rfl rfl c2 ?_
 simp
 refine qaa rfl rfl rfl c3 ?_
 simp
 refine qaa rfl rfl rfl nc ?_
 simp [dys, hlen]
 refine WK_up (fun i E H' => (∃ G, H' = H ++ some ⟨7, [x.v], false, true⟩ :: some ⟨7, [a.v], false, true⟩ :: some ⟨7, [b.v], false, true⟩ :: some ⟨7, [c.v], false, true⟩ :: G) ∧ E 5 = .ptr (H.length + 1) 0 0 ∧ E 6 = .ptr (H.length + 2) 0 0 ∧ E 7 = .ptr (H.length + 3) 0 0 ∧ E 26 = dys L ∧ E 27 = .int .i64 3 ∧ E 28 = .int .i64 i) 3 ?_ ?_
 · simp [dys]
 · rintro i E H' hi ⟨⟨G, rfl⟩, h5, h6, h7, h26, h27, h28⟩
   simp only [dys] at h26
   rcases Nat.lt_or_ge i 3 with hlt | hge
   · have e2 : IntKind.i64.wrap ((i : Int) + 1) = ((i + 1 : Nat) : Int) := by rw [wrap_i64] <;> omega
     have hlt' : (i : Int) < 3 := by omega
     have hiL : i < L.length := by omega
     obtain ⟨⟨u1, u2⟩, ⟨u3, u4⟩, ⟨u5, u6⟩⟩ := mt L[i] (List.getElem_mem hiL)
     simp [qbu, h5, h26, h27, h28, hlt', hiL]
     refine qaa rfl rfl rfl u1 ?_
     simp
     refine qaa rfl rfl rfl u2 ?_
     simp [h6]
     refine qaa rfl rfl rfl u3 ?_
     simp
     refine qaa rfl rfl rfl u4 ?_
     simp [h7]
     refine qaa rfl rfl rfl u5 ?_
     simp
     refine qaa rfl rfl rfl u6 ?_
     simp [h5, h6, h7, h26, h27, h28, e2, hlt, dys]
   · obtain rfl : i = 3 := by omega
     simp [qbu, h5, h27, h28]
     refine qaa rfl rfl rfl ia ?_
     simp [h6]
     refine qaa rfl rfl rfl ib ?_
     simp [h7]
     refine qaa rfl rfl rfl ic ?_
     simp [h5, h6, h7, va, vb, vc]
end Go.Abs.W
