/- Parts of the proof: FpWc. -/
import Derived.Test.YtnkijamajifgpaaGreatDoorVg
import Derived.Test.YtnkijamajifgpaaGreatDoorWa
import Derived.Test.YtnkijamajifgpaaGreatDoorVc
namespace Go.Abs.W
theorem dvd_e {d : Dy} {c : Nat} (ok : d.Ok) (hm : d.m ≠ []) (h : pw c ∣ d.val) : (c : Int) - 16384 ≤ d.e := by
 have he := ok.elo
 have ho := ok.odd hm
 have hn : d.val.natAbs = natV d.m * 2 ^ (d.e + 16384).toNat := qur d
 have hd : 2 ^ c ∣ natV d.m * 2 ^ (d.e + 16384).toNat := by
   rw [← hn]
   exact Int.natAbs_dvd_natAbs.2 h
 rcases Int.lt_or_le d.e ((c : Int) - 16384) with h1 | h1
 · exfalso
   obtain ⟨k, hk⟩ : ∃ k : Nat, k = (d.e + 16384).toNat := ⟨_, rfl⟩
   rw [← hk] at hd
   have hlt : k + 1 ≤ c := by omega
   have h2 : 2 ^ (k + 1) ∣ natV d.m * 2 ^ k := Nat.dvd_trans (Nat.pow_dvd_pow 2 hlt) hd
   rw [Nat.pow_succ, Nat.mul_comm (2 ^ k)] at h2
   have h3 := Nat.dvd_of_mul_dvd_mul_right (Nat.two_pow_pos k) h2
   omega
 · exact h1
theorem qabo {d : Dy} {t : Nat} (ok : d.Ok) (h1 : -pw (16384 + t) ≤ d.val) (h2 : d.val ≤ pw (16384 + t)) : d.top ≤ (t : Int) + 1 := by
 by_cases hm : d.m = []
 · unfold Dy.top; rw [if_pos hm]; omega
 · obtain ⟨b1, _⟩ := ok.absN_bounds hm
   have hn : d.val.natAbs = d.absN := qur d
   have tp := ok.top_pos hm
   have h3 : pw (d.top + 16383).toNat ≤ pw (16384 + t) := by
     have : pw (d.top + 16383).toNat ≤ (d.absN : Int) := by unfold pw; exact Int.ofNat_le.2 b1
     omega
   rcases Int.lt_or_le ((t : Int) + 1) d.top with h4 | h4
   · exfalso
     have := pw_lt_iff.2 (show 16384 + t < (d.top + 16383).toNat by omega)
     omega
   · exact h4
theorem qac2 {a b : Dy} (oa : a.Ok) (ob : b.Ok) (ha : a.m ≠ [] → -2000 ≤ a.e) (hb : b.m ≠ [] → -2000 ≤ b.e) (ta : a.top ≤ 1000) (tb : b.top ≤ 1000) : (a.sum b).Ok := by
 by_cases na : a.m = []
 · unfold Dy.sum; rw [if_pos na]; exact ob
 · by_cases nb : b.m = []
   · unfold Dy.sum; rw [if_neg na, if_pos nb]; exact oa
   · exact qac3 oa ob (ha na) (hb nb) ta tb
structure Fine (x : Iv) (b t : Nat) : Prop where
 k : x.known = true
 dl : pw (16384 - b) ∣ x.lo.val
 dh : pw (16384 - b) ∣ x.hi.val
 lo : -pw (16384 + t) ≤ x.lo.val
 hi : x.hi.val ≤ pw (16384 + t)
theorem Fine.sum {x : Iv} {b t : Nat} (w : x.W) (h : Fine x b t) (hb : b ≤ 2000) (ht : t ≤ 900) : (x.hi.sum x.lo.neg').Ok := by
 obtain ⟨o1, o2⟩ := qao w h.k
 have le := qa1 w h.k
 have h1 := h.lo; have h2 := h.hi
 have t1 := qabo o1 h1 (by omega)
 have t2 := qabo o2 (by omega) h2
 refine qac2 o2 (qd5 o1) (fun hm => ?_) (fun hm => ?_) (by omega) (by rw [neg'_same.2.2]; omega)
 · have := dvd_e o2 hm h.dh; omega
 · rw [neg'_same.2.1]
   have := dvd_e o1 (show x.lo.m ≠ [] from hm) h.dl; omega
theorem q0m (x : Iv) (n : Int) (wx : x.W) (hk : x.known = true) (ow : (x.hi.sum x.lo.neg').Ok) (h1 : -16384 ≤ n) (h2 : n ≤ 16000) (h : x.hi.val - x.lo.val ≤ pw (n + 16384).toNat) : CQ prog qp7 [x.v, .int .i64 n] (.bool true) := by
 refine qah rfl fun H => ?_
 obtain ⟨o1, o2⟩ := qao wx hk
 have ha := (qcz hk).2
 have c1 := qps x.lo
 have c2 := q8t x.hi x.lo.neg' o2.toM (qd5 o1).toM
 have c3 := qxj n h1 h2
 have c4 := qpd (x.hi.sum x.lo.neg') (pwD n) ow (qpf h1 h2)
 have hle : (x.hi.sum x.lo.neg').cmp (pwD n) ≤ 0 := by
   rw [qjw ow (qpf h1 h2), cmpI_le, qvp h1, (qz5 o2 (qd5 o1)).1, qgp]
   omega
 generalize (x.hi.sum x.lo.neg').cmp (pwD n) = c at *
 rcases x with ⟨xl, xh, xa⟩
 simp only at ha
 subst ha
 simp only at c1 c2 c4
 generalize xh.sum xl.neg' = S at *
 generalize xl.neg' = N at *
 generalize pwD n = d at *
 simp
 refine qab rfl rfl rfl c1 ?_
 simp
 refine qab rfl rfl rfl c2 ?_
 simp
 refine qab rfl rfl rfl c3 ?_
 simp
 refine qab rfl rfl rfl c4 ?_
 simp [hle]
theorem q6n {a : Fx} {b p : Nat} (hp : precB (p : Int) = true) (hb : b = p + 64) (h : a.n + 2 ^ 24 ≤ 4 * 2 ^ b) : Fine (Iv.near a b p) b 3 ∧ (Iv.near a b p).hi.val - (Iv.near a b p).lo.val ≤ pw (16388 - p) := by
 have hpp := precB_iff.1 hp
 have eb := qb1 b
 have ha : bitL a.n ≤ 4000 := by
   have h1 := qbz (a := 4) (b := 2 ^ b)
   have h2 : bitL 4 = 3 := by decide
   have h3 := qas (show a.n ≤ 4 * 2 ^ b by omega)
   omega
 obtain ⟨e, o1, o2⟩ := qye (b := b) hp ha (by omega)
 obtain ⟨v1, v2⟩ := q2e (a := a) (b := b) (by omega)
 have ia := qad9 a
 have e24 : ((2 ^ 24 : Nat) : Int) = 2 ^ 24 := rfl
 have q := qbk (16384 - b)
 have eP : pw b = ((2 ^ b : Nat) : Int) := rfl
 have em : pw 16386 = (4 * pw b) * pw (16384 - b) := by
   have : 4 * pw b = pw (b + 2) := by rw [show b + 2 = b + 1 + 1 from rfl, qcu, qcu]; omega
   rw [this, ← qcg]; exact congrArg pw (by omega)
 have b1 : -pw 16386 ≤ (nearL a b).val := by
   rw [v1, em, ← Int.neg_mul]
   exact Int.mul_le_mul_of_nonneg_right (by omega) (Int.le_of_lt q)
 have b2 : (nearH a b).val ≤ pw 16386 := by
   rw [v2, em]
   exact Int.mul_le_mul_of_nonneg_right (by omega) (Int.le_of_lt q)
 have hLH : (nearH a b).val - (nearL a b).val = 2 * 2 ^ 24 * pw (16384 - b) := by
   rw [v1, v2, ← Int.sub_mul]; congr 1; omega
 have w25 : 2 * 2 ^ 24 * pw (16384 - b) ≤ pw (16386 - p) := by
   have : (2 * 2 ^ 24 : Int) = pw 25 := rfl
   rw [this, ← qcg]; exact pw_le (by omega)
 have w0 : 0 ≤ 2 * 2 ^ 24 * pw (16384 - b) := Int.mul_nonneg (by omega) (Int.le_of_lt q)
 have k : (Iv.mk (nearL a b) (nearH a b) false).known = true := qc9 o1 o2 (by omega)
 have dn := qrb o1 hp
 have up := qra o2 hp
 obtain ⟨d1, d2⟩ := dn.err (m := 16386) (by omega) (by omega) b1 (by omega)
 obtain ⟨u1, u2⟩ := up.err (m := 16386) (by omega) (by omega) (by omega) b2
 have dd := dn.dvd (c := 16384 - b) d1 (by omega) (by omega) (by rw [v1]; exact Int.dvd_mul_left _ _)
 have du := up.dvd (c := 16384 - b) u1 (by omega) (by omega) (by rw [v2]; exact Int.dvd_mul_left _ _)
 have er : (Iv.mk (nearL a b) (nearH a b) false).rnd p = ⟨(qbn (nearL a b) p false).1, (qbn (nearH a b) p true).1, false⟩ := by
   unfold Iv.rnd
   rw [k, hp, if_pos (by rfl)]
   unfold Iv.made
   rw [if_pos ⟨d1, u1⟩]
 have kk : (Iv.mk (qbn (nearL a b) p false).1 (qbn (nearH a b) p true).1 false).known = true :=
   qc9 rRound_ok rRound_ok (dn.le_up up (fun g g2 h h2 => by omega) d1 u1)
 rw [show ((p : Nat) : Int).toNat = p from rfl] at d2 u2
 have le := qa1 ⟨rRound_ok.w, rRound_ok.w⟩ kk
 have p1 : pw (16384 + 3) = 2 * pw 16386 := qcu 16386
 have p2 : pw (16386 - p) ≤ pw 16386 := pw_le (by omega)
 have p3 : pw (16388 - p) = 4 * pw (16386 - p) := by
   rw [show 16388 - p = (16386 - p) + 1 + 1 by omega, qcu, qcu]; omega
 rw [e, er]
 refine ⟨⟨kk, dd, du, ?_, ?_⟩, ?_⟩
 · show _ ≤ (qbn (nearL a b) p false).1.val; omega
 · show (qbn (nearH a b) p true).1.val ≤ _; omega
 · show (qbn (nearH a b) p true).1.val - (qbn (nearL a b) p false).1.val ≤ _; omega
theorem q9u {p : Nat} (hp : precB (p : Int) = true) : Fine (piO p) (p + 64) 3 ∧ (piO p).hi.val - (piO p).lo.val ≤ pw (16388 - p) := by
 unfold piO
 rw [if_pos hp]
 obtain ⟨pn, pl, pu⟩ := qna (b := p + 64) (by omega)
 have big : 2 ^ 30 ≤ 2 ^ (p + 64) := Nat.pow_le_pow_right (by omega) (by omega)
 have e30 : (2 : Nat) ^ 30 = 1073741824 := rfl
 have e24 : (2 : Nat) ^ 24 = 16777216 := rfl
 show Fine (Iv.near (piI (p + 64)) (p + 64) (p : Int)) (p + 64) 3 ∧ (Iv.near (piI (p + 64)) (p + 64) (p : Int)).hi.val - (Iv.near (piI (p + 64)) (p + 64) (p : Int)).lo.val ≤ pw (16388 - p)
 exact q6n hp rfl (by omega)
set_option maxHeartbeats 1000000 in
theorem qadn (p : Int) : CQ prog qn9 [.int .i64 p] (.bool true) := by
 refine qah rfl fun H => ?_
 have ca := q4l
 have c1 := Pi_cq p
 by_cases hp : precB p = true
 · obtain ⟨p1, p2⟩ := qrd hp
   obtain ⟨n, rfl⟩ : ∃ n : Nat, p = (n : Int) := ⟨p.toNat, by omega⟩
   have kk := (q0i hp).1.k
   have va := (qcz kk).2
   by_cases h100 : (100 : Int) < n
   · have c2 := quh 120 (by omega) (by omega)
     have c3 := quu (piO n) (rPi 120) piO_W rPi_W (qxm q16)
     rw [qyi piO_W rPi_W q16 qabw (q6e n) (q57 (by omega) (by omega))] at c3
     generalize rPi 120 = R at *
     generalize piO (n : Int) = X at *
     simp
     refine qab rfl rfl rfl ca ?_
     simp
     refine qab rfl rfl rfl c1 ?_
     simp [p1, p2, h100]
     have q1 : ¬ (n : Int) < 8 := by omega
     have q2 : ¬ (512 : Int) < n := by omega
     simp [q1, q2]
     refine qab rfl rfl rfl c2 ?_
     simp
     refine qab rfl rfl rfl c3 ?_
     simp
   · have c2 := quh 150 (by omega) (by omega)
     have c3 := quu (piO n) (rPi 150) piO_W rPi_W (qxm q16)
     rw [qyi piO_W rPi_W q16 qabw (q6e n) (q57 (by omega) (by omega))] at c3
     obtain ⟨fn, wd⟩ := q9u hp
     have wd2 : (piO n).hi.val - (piO n).lo.val ≤ pw (8 - (n : Int) + 16384).toNat := Int.le_trans wd (pw_le (by omega))
     have c4 := q0m (piO n) (8 - n) piO_W kk (fn.sum piO_W (by omega) (by omega)) (by omega) (by omega) wd2
     have c5 := qu0 n hp
     have ew : IntKind.i64.wrap (8 - (n : Int)) = 8 - (n : Int) := by rw [wrap_i64] <;> omega
     generalize rPi 150 = R at *
     generalize piO (n : Int) = X at *
     have q1 : ¬ (n : Int) < 8 := by omega
     have q2 : ¬ (512 : Int) < n := by omega
     simp
     refine qab rfl rfl rfl ca ?_
     simp
     refine qab rfl rfl rfl c1 ?_
     simp [q1, q2, h100]
     refine qab rfl rfl rfl c2 ?_
     simp
     refine qab rfl rfl rfl c3 ?_
     simp [ew]
     refine qab rfl rfl rfl c4 ?_
     simp
     refine qab rfl rfl rfl c5 ?_
     simp
 · have e : piO p = Iv.whole := by unfold piO; rw [if_neg hp]
   have hpf : p < 8 ∨ 512 < p := by
     rcases Int.lt_or_le p 8 with h | h
     · exact .inl h
     · rcases Int.lt_or_le 512 p with h2 | h2
       · exact .inr h2
       · exact absurd (precB_iff.2 ⟨h, h2⟩) hp
   have cv := qjz Iv.whole Iv.whole_W
   rw [show Iv.whole.valid = true from rfl] at cv
   rw [e] at c1
   have wa : Iv.whole.all = true := rfl
   generalize Iv.whole = W1 at *
   by_cases h8 : p < 8
   · simp
     refine qab rfl rfl rfl ca ?_
     simp
     refine qab rfl rfl rfl c1 ?_
     simp [h8, wa]
     rcases W1 with ⟨l, h, a⟩
     simp only at wa
     subst wa
     simp
     refine qab rfl rfl rfl cv ?_
     simp
   · have h512 : 512 < p := by omega
     simp
     refine qab rfl rfl rfl ca ?_
     simp
     refine qab rfl rfl rfl c1 ?_
     simp [h8, h512, wa]
     rcases W1 with ⟨l, h, a⟩
     simp only at wa
     subst wa
     simp
     refine qab rfl rfl rfl cv ?_
     simp
end Go.Abs.W
