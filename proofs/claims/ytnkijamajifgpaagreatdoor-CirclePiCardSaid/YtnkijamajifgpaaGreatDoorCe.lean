/- Parts of the proof: FpCn, FpCo. -/
import Derived.Test.YtnkijamajifgpaaGreatDoorCd
import Derived.Test.YtnkijamajifgpaaGreatDoorXc
namespace Go.Abs.W
def Fx.int (a : Fx) : Int := if a.neg then -(a.n : Int) else a.n
theorem qyh (a : Fx) : a.minus.int = -a.int := by
 unfold Fx.int Fx.minus
 cases a.neg <;> simp
theorem qxd (a b : Fx) : (a.add b).int = a.int + b.int := by
 obtain ⟨s, m⟩ := a
 obtain ⟨t, n⟩ := b
 unfold Fx.add
 by_cases h : s = t
 · subst h
   rw [if_pos rfl]
   unfold Fx.int
   cases s <;> simp <;> omega
 · rw [if_neg h]
   simp only []
   split <;> unfold Fx.int <;> cases s <;> cases t <;> first | exact absurd rfl h | (simp; omega)
theorem qad9 (a : Fx) : a.int.natAbs = a.n := by unfold Fx.int; split <;> omega
theorem qab9 {a : Fx} {b : Nat} (hb : b ≤ 16384) : (Dy.of a.neg a.n (-(b : Int))).val = a.int * pw (16384 - b) := by
 rw [qrg (by omega), show (-(b : Int) + 16384).toNat = 16384 - b by omega]
 unfold Fx.int
 rw [← qco]
 split
 · rw [Int.neg_mul]
 · rfl
theorem q2e {a : Fx} {b : Nat} (hb : b ≤ 16384) : (nearL a b).val = (a.int - 2 ^ 24) * pw (16384 - b) ∧ (nearH a b).val = (a.int + 2 ^ 24) * pw (16384 - b) := by
 have e1 : nearL a b = Dy.of (a.add eps24.minus).neg (a.add eps24.minus).n (-(b : Int)) := rfl
 have e2 : nearH a b = Dy.of (a.add eps24).neg (a.add eps24).n (-(b : Int)) := rfl
 have e3 : eps24.int = 2 ^ 24 := rfl
 rw [e1, e2, qab9 hb, qab9 hb, qxd, qxd, qyh, e3]
 exact ⟨rfl, rfl⟩
theorem q2c {a : Fx} {b : Nat} (ha : bitL a.n ≤ 4000) (hb : b ≤ 8000) : (nearL a b).inR = true ∧ (nearH a b).inR = true := by
 have b24 : bitL eps24.n ≤ 4000 := by
   have : bitL (2 ^ 24) = 25 := by decide
   show bitL (2 ^ 24) ≤ _
   omega
 have h1 := qg9 (a := a) (b := eps24.minus) (k := 4000) ha (show bitL eps24.n ≤ _ from b24)
 have h2 := qg9 (a := a) (b := eps24) (k := 4000) ha b24
 exact ⟨Dy.of_inR (by omega) (by omega) (by omega), Dy.of_inR (by omega) (by omega) (by omega)⟩
theorem qadt {a : Fx} {b : Nat} {p A B : Int} (hp : precB p = true) (ha : bitL a.n ≤ 4000) (hb : b ≤ 8000) (gA : GridI p.toNat A) (gB : GridI p.toNat B) (hA : A ≤ (a.int - 2 ^ 24) * pw (16384 - b)) (hB : (a.int + 2 ^ 24) * pw (16384 - b) ≤ B) : (Iv.near a b p).Bt A B := by
 obtain ⟨r1, r2⟩ := q2c ha hb
 obtain ⟨v1, v2⟩ := q2e (a := a) (b := b) (by omega)
 have o1 : (nearL a b).Ok := Dy.of_ok r1
 have o2 : (nearH a b).Ok := Dy.of_ok r2
 have k : (Iv.mk (nearL a b) (nearH a b) false).known = true := by
   refine qc9 o1 o2 ?_
   rw [v1, v2]
   exact Int.mul_le_mul_of_nonneg_right (by omega) (Int.le_of_lt (qbk _))
 have e : Iv.near a b p = (Iv.mk (nearL a b) (nearH a b) false).rnd p := by
   unfold Iv.near Iv.rnd
   rw [r1, r2, k, hp]
 rw [e]
 exact (qaf3 ⟨o1.w, o2.w⟩ hp ⟨k, by rw [v1]; exact hA, by rw [v2]; exact hB⟩ gA gB).1
end Go.Abs.W
namespace Go.Abs.W
theorem q3o : unitI.known = true := by decide +kernel
theorem qlp : (nD (-1)).val = -pw 16384 ∧ (nD 1).val = pw 16384 := by
 refine ⟨?_, ?_⟩
 · rw [qus]; omega
 · rw [qus]; omega
structure InU (y : Iv) : Prop where
 ol : y.lo.Ok
 oh : y.hi.Ok
 al : y.all = false
 lo : -pw 16384 ≤ y.lo.val
 le : y.lo.val ≤ y.hi.val
 hi : y.hi.val ≤ pw 16384
theorem InU.ins {y : Iv} (h : InU y) : y.ins unitI = true := by
 obtain ⟨l, r, a⟩ := y
 have ha : a = false := h.al
 subst ha
 obtain ⟨u1, u2⟩ := qlp
 refine q68 ⟨h.ol.w, h.oh.w⟩ qabl (qc9 h.ol h.oh h.le) q3o ?_ ?_
 · show (nD (-1)).val ≤ _; rw [u1]; exact h.lo
 · show _ ≤ (nD 1).val; rw [u2]; exact h.hi
theorem qqu : InU unitI := by
 obtain ⟨u1, u2⟩ := qlp
 have p := qbk 16384
 exact ⟨nDm1, nD1, rfl, by show _ ≤ (nD (-1)).val; omega, by show (nD (-1)).val ≤ (nD 1).val; omega, by show (nD 1).val ≤ _; omega⟩
theorem q6w {C y : Iv} (w : C.W) (h : C.meet unitI = some y) : InU y := by
 obtain ⟨u1, u2⟩ := qlp
 unfold Iv.meet at h
 split at h
 · rename_i hv
   simp only [Bool.and_eq_true] at hv
   split at h
   · injection h with h; subst h; exact qqu
   · rename_i ha
     rw [if_neg (show ¬ unitI.all = true by decide)] at h
     split at h
     · cases h
     · rename_i hc
       injection h with h
       subst h
       obtain ⟨ol, oh⟩ := qao w (show C.known = true by simp [Iv.known, hv.1, ha])
       have a1 : (C.lo.hi2 unitI.lo).Ok := qpi ol nDm1
       have a2 : (C.hi.lo2 unitI.hi).Ok := quv oh nD1
       rw [qjw a1 a2] at hc
       have hle : (C.lo.hi2 unitI.lo).val ≤ (C.hi.lo2 unitI.hi).val := cmpI_le.1 (by omega)
       refine ⟨a1, a2, rfl, ?_, hle, ?_⟩
       · show _ ≤ (C.lo.hi2 unitI.lo).val
         rw [qe5 ol (show unitI.lo.Ok from nDm1)]
         show _ ≤ max C.lo.val (nD (-1)).val
         omega
       · show (C.hi.lo2 unitI.hi).val ≤ _
         rw [qg4 oh (show unitI.hi.Ok from nD1)]
         show min C.hi.val (nD 1).val ≤ _
         omega
 · cases h
theorem InU.put {y : Iv} (q : InU y) (s t : Bool) : InU ⟨if s = true then nD (-1) else y.lo, if t = true then nD 1 else y.hi, y.all⟩ := by
 obtain ⟨u1, u2⟩ := qlp
 have p0 := qbk 16384
 obtain ⟨a, b, c, d, e, f⟩ := q
 cases s <;> cases t <;> simp only [if_true, Bool.false_eq_true, if_false]
 · exact ⟨a, b, c, d, e, f⟩
 · exact ⟨a, nD1, c, d, by simp only []; omega, by simp only []; omega⟩
 · exact ⟨nDm1, b, c, by simp only []; omega, by simp only []; omega, f⟩
 · exact ⟨nDm1, nD1, c, by simp only []; omega, by simp only []; omega, by simp only []; omega⟩
theorem qaax {x : Iv} {c : Bool} {p : Int} (w : x.W) (h : precB p = true) (k : x.known = true) : InU (bothI x c p) := by
 obtain ⟨ol, oh⟩ := qao w k
 obtain ⟨u1, u2⟩ := qlp
 have p0 := qbk 16384
 unfold bothI
 rw [h, k, if_pos (show (true && true) = true from rfl)]
 split
 · exact qqu
 · split
   · exact qqu
   · split
     · exact qqu
     · rename_i y hy
       have q := q6w ((qqk ol.w).hull (qqk oh.w)) hy
       split
       · exact q
       · exact q.put _ _
theorem qahc {x : Iv} {c : Bool} {p : Int} (w : x.W) : (bothI x c p).W := by
 by_cases h : (precB p && x.known) = true
 · simp only [Bool.and_eq_true] at h
   have q := qaax (c := c) w h.1 h.2
   exact ⟨q.ol.w, q.oh.w⟩
 · unfold bothI; rw [if_neg h]; exact Iv.whole_W
theorem q4l : CQ prog qsj [] (.bool true) := by
 refine qah rfl fun H => ?_
 have c1 := qpg 1 (by omega) (by omega)
 have c2 := qu0 30 (by decide)
 have c3 := qpg 2 (by omega) (by omega)
 have c4 := qacn aw10 30 qach
 have c5 := qae5 (bothI aw10 false 30) (nD 1) (qahc qach) nD1.w
 rw [q8e] at c5
 have c6 := Pi_cq 30
 obtain ⟨a1, a2⟩ := qaa0
 have wpi : (piO 30).W := by unfold piO; split <;> first | exact q2d | exact Iv.whole_W
 have c7 := qabg (piO 30) wpi
 rw [a2] at c7
 have ew : aw10.v = .agg [.bool false, .sl [], .int .i64 0, .bool (nD 2).neg, lim (nD 2).m, .int .i64 (nD 2).e, .bool false] := rfl
 rw [ew] at c4
 generalize bothI aw10 false 30 = S at *
 generalize piO 30 = P at *
 generalize nD 1 = one at *
 generalize nD 2 = two at *
 simp
 refine qab rfl rfl rfl c1 ?_
 simp
 refine qab rfl rfl rfl c2 ?_
 simp
 refine qab rfl rfl rfl c3 ?_
 simp
 refine qab rfl rfl rfl c4 ?_
 simp
 refine qab rfl rfl rfl c5 ?_
 simp
 refine qab rfl rfl rfl c6 ?_
 simp [a1]
 refine qab rfl rfl rfl c6 ?_
 simp
 refine qab rfl rfl rfl c7 ?_
 simp
end Go.Abs.W
