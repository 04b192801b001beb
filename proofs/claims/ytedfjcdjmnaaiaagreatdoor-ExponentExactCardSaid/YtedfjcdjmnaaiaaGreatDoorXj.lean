/- Parts of the proof: FpXt. -/
import Derived.Test.YtedfjcdjmnaaiaaGreatDoorXh
import Derived.Test.YtedfjcdjmnaaiaaGreatDoorXu
import Derived.Test.YtedfjcdjmnaaiaaGreatDoorXv
import Derived.Test.YtedfjcdjmnaaiaaGreatDoorXw
namespace Go.Abs.W
theorem qaf4 {p : Int} (h1 : 8 ≤ p) (h2 : p ≤ 64) : nar (log2I p) p (nD 1) = true := by
 obtain rfl | rfl | rfl | rfl | rfl | rfl | rfl | rfl | rfl | rfl | rfl | rfl | rfl | rfl | rfl | rfl | rfl | rfl | rfl | rfl | rfl | rfl | rfl | rfl | rfl | rfl | rfl | rfl | rfl | rfl | rfl | rfl | rfl | rfl | rfl | rfl | rfl | rfl | rfl | rfl | rfl | rfl | rfl | rfl | rfl | rfl | rfl | rfl | rfl | rfl | rfl | rfl | rfl | rfl | rfl | rfl | rfl : p = 8 ∨ p = 9 ∨ p = 10 ∨ p = 11 ∨ p = 12 ∨ p = 13 ∨ p = 14 ∨ p = 15 ∨ p = 16 ∨ p = 17 ∨ p = 18 ∨ p = 19 ∨ p = 20 ∨ p = 21 ∨ p = 22 ∨ p = 23 ∨ p = 24 ∨ p = 25 ∨ p = 26 ∨ p = 27 ∨ p = 28 ∨ p = 29 ∨ p = 30 ∨ p = 31 ∨ p = 32 ∨ p = 33 ∨ p = 34 ∨ p = 35 ∨ p = 36 ∨ p = 37 ∨ p = 38 ∨ p = 39 ∨ p = 40 ∨ p = 41 ∨ p = 42 ∨ p = 43 ∨ p = 44 ∨ p = 45 ∨ p = 46 ∨ p = 47 ∨ p = 48 ∨ p = 49 ∨ p = 50 ∨ p = 51 ∨ p = 52 ∨ p = 53 ∨ p = 54 ∨ p = 55 ∨ p = 56 ∨ p = 57 ∨ p = 58 ∨ p = 59 ∨ p = 60 ∨ p = 61 ∨ p = 62 ∨ p = 63 ∨ p = 64 := by omega
 · exact ln8
 · exact ln9
 · exact ln10
 · exact ln11
 · exact ln12
 · exact ln13
 · exact ln14
 · exact ln15
 · exact ln16
 · exact ln17
 · exact ln18
 · exact ln19
 · exact ln20
 · exact ln21
 · exact ln22
 · exact ln23
 · exact ln24
 · exact ln25
 · exact ln26
 · exact ln27
 · exact ln28
 · exact ln29
 · exact ln30
 · exact ln31
 · exact ln32
 · exact ln33
 · exact ln34
 · exact ln35
 · exact ln36
 · exact ln37
 · exact ln38
 · exact ln39
 · exact ln40
 · exact ln41
 · exact ln42
 · exact ln43
 · exact ln44
 · exact ln45
 · exact ln46
 · exact ln47
 · exact ln48
 · exact ln49
 · exact ln50
 · exact ln51
 · exact ln52
 · exact ln53
 · exact ln54
 · exact ln55
 · exact ln56
 · exact ln57
 · exact ln58
 · exact ln59
 · exact ln60
 · exact ln61
 · exact ln62
 · exact ln63
 · exact ln64
theorem qva : modB Dy.zero = true := by
 rw [qfm Dy.zero_ok, qc2]
 have p0 := qax 16384
 omega
theorem one_Ok : (nD 1).Ok := nD_ok (k := 1) (by omega)
theorem q9w {a : Dy} (b : Dy) : endsI ⟨a, b, false⟩ ⟨a, b, false⟩ = ⟨a, b, false⟩ := rfl
theorem qagf {p : Int} (hp : precB p = true) : (nI 0 0).exp p = nI 1 1 := by
 have e : nI 0 0 = Iv.pt Dy.zero := rfl
 have h : qa8 Dy.zero p = nI 1 1 := by unfold qa8; rw [if_pos (sgn0.2 rfl)]
 rw [e, qac9 Dy.zero_ok hp qva, h]; rfl
theorem qabc {p : Int} (hp : precB p = true) : (nI 0 0).sinh p = nI 0 0 := by
 have e : nI 0 0 = Iv.pt Dy.zero := rfl
 have h : sinh1 Dy.zero p = Iv.pt Dy.zero := by unfold sinh1; rw [if_pos (sgn0.2 rfl)]; rfl
 rw [e, q47 Dy.zero_ok hp qva, h]; rfl
theorem qajq {p : Int} (hp : precB p = true) : (nI 1 1).log p = nI 0 0 := by
 have e : nI 1 1 = Iv.pt (nD 1) := rfl
 have s : 0 < (nD 1).sgn := (qdr one_Ok).1.2 (by rw [qf6]; have := qax 16384; omega)
 have h : lgI (nD 1) p = nI 0 0 := by unfold lgI; rw [if_pos ((qul one_Ok one_Ok).2 rfl)]; rfl
 rw [e, qacj one_Ok hp s, h]; rfl
theorem qae1 : (nI 2 2).scl (-1) = nI 1 1 := by decide +kernel
theorem q2z {p : Int} (hp : precB p = true) (up : Bool) : qc1 (nD 1) p up = (nD 1, 0) := by
 have g : GridI p.toNat (1 * pw 16384) := by rw [Int.one_mul]; exact qa3 (by omega)
 refine nD_eq rRound_ok (by decide) ?_
 cases up
 · exact (qrb one_Ok hp).exact g fun g => by rw [qf6]
 · exact (qra one_Ok hp).exact g fun g => by rw [qf6]
theorem qaf9 {p : Int} (hp : precB p = true) : hypI Dy.zero p true = nI 1 1 := by
 obtain ⟨P, hP, h1, h2⟩ := q5m hp
 have hpP := ql1 h1 h2
 rw [q5n hP]
 have h : qa8 Dy.zero P = nI 1 1 := by unfold qa8; rw [if_pos (sgn0.2 rfl)]
 have ho : Dy.zero.opp = Dy.zero := rfl
 have hs : hypS Dy.zero P true = nI 2 2 := by
   unfold hypS
   rw [if_pos rfl, ho, h]
   exact qak1 (q := (P : Int)) (x := 1) (y := 1) (by omega) hpP (by decide) (by decide)
 rw [hs, qae1]
 have k : (nI 1 1).known = true := qms (by decide)
 unfold Iv.rnd
 rw [k, hp]
 show Iv.made (qc1 (nD 1) p false) (qc1 (nD 1) p true) = _
 rw [q2z hp, q2z hp]; rfl
theorem qagy : (nI 0 0).abs = nI 0 0 := by decide +kernel
theorem qad2 {p : Int} (hp : precB p = true) : (nI 0 0).cosh p = nI 1 1 := by
 have k : (nI 0 0).known = true := qms (by decide)
 unfold Iv.cosh
 rw [k, hp, qagy]
 show (if (true && true && modB Dy.zero && modB Dy.zero) = true then qdq (endsI (hypI Dy.zero p true) (hypI Dy.zero p true)) else _) = _
 rw [qva, qaf9 hp, if_pos (by rfl)]
 have e : endsI (nI 1 1) (nI 1 1) = nI 1 1 := q9w (nD 1)
 rw [e]
 unfold qdq
 rw [if_neg]
 intro h
 have h2 : (nD 1).cmp (nD 1) < 0 := h.2
 rw [(qul one_Ok one_Ok).2 rfl] at h2
 omega
theorem qadd (p : Int) : CQ prog qmv [.int .i64 p] (.bool true) := by
 refine qag rfl fun H => ?_
 simp
 refine qaa rfl rfl rfl qg8 ?_
 rcases Int.lt_or_le p 8 with h8 | h8
 · simp [h8]
 have h8' : ¬ p < 8 := by omega
 rcases Int.lt_or_le 64 p with h64 | h64
 · simp [h8', h64]
 have h64' : ¬ 64 < p := by omega
 have hp : precB p = true := precB_iff.2 (by omega)
 have w0 : (nI 0 0).W := nI_Wk (by decide)
 have w1 : (nI 1 1).W := nI_Wk (by decide)
 have c0 := qds 0 (by omega) (by omega)
 have c1 := qds 1 (by omega) (by omega)
 have cl := q6g p
 have wl : (log2I p).W := q0m
 have kl := (q0n hp).k
 have cr := q66
 have mt := qvc wl q0c (.inr kl) qafr q3l q26
 have cm := qlz (log2I p) rLog2 wl q0c
 rw [mt] at cm
 have ci := qpl 1 (by omega) (by omega)
 rw [← show nD 1 = Dy.of (decide ((1 : Int) < 0)) (1 : Int).natAbs 0 from rfl] at ci
 have cn := qahz (p := p) wl kl one_Ok.w (by omega) (by omega) (qyy p h8 (by omega)) (qaf4 h8 h64)
 have x1 := qmj (nI 0 0) p w0
 have x2 := qxj (nI 0 0) p w0
 have x3 := qoh (nI 1 1) p w1
 have x4 := qq2 (nI 0 0) p w0
 rw [qagf hp] at x1
 rw [qad2 hp] at x2
 rw [qajq hp] at x3
 rw [qabc hp] at x4
 have e1 := qs3 (nI 1 1) (nI 1 1) w1 w1
 have e0 := qs3 (nI 0 0) (nI 0 0) w0 w0
 rw [decide_eq_true (rfl : nI 1 1 = nI 1 1)] at e1
 rw [decide_eq_true (rfl : nI 0 0 = nI 0 0)] at e0
 generalize nI 0 0 = Z at *
 generalize nI 1 1 = U at *
 generalize log2I p = L at *
 generalize rLog2 = R at *
 generalize nD 1 = D at *
 simp [h8', h64']
 refine qaa rfl rfl rfl c0 ?_
 simp
 refine qaa rfl rfl rfl c1 ?_
 simp
 refine qaa rfl rfl rfl cl ?_
 simp
 refine qaa rfl rfl rfl cr ?_
 simp
 refine qaa rfl rfl rfl cm ?_
 simp
 refine qaa rfl rfl rfl ci ?_
 simp
 refine qaa rfl rfl rfl cn ?_
 simp
 refine qaa rfl rfl rfl x1 ?_
 simp
 refine qaa rfl rfl rfl e1 ?_
 simp
 refine qaa rfl rfl rfl x2 ?_
 simp
 refine qaa rfl rfl rfl e1 ?_
 simp
 refine qaa rfl rfl rfl x3 ?_
 simp
 refine qaa rfl rfl rfl e0 ?_
 simp
 refine qaa rfl rfl rfl x4 ?_
 simp
 refine qaa rfl rfl rfl e0 ?_
 simp
end Go.Abs.W
