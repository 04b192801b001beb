/- Parts of the proof: FpXg, FpXh, FpXi. -/
import Derived.Test.YtedfjcdjmnaaiaaGreatDoorXc
namespace Go.Abs.W
theorem qah5 {n : Nat} {l : List Nat} : (lim l).lowB n = true := rfl
theorem qacu {n : Nat} {b : Bool} : (V.bool b).lowB n = true := rfl
theorem qah6 {n : Nat} {k : IntKind} {i : Int} : (V.int k i).lowB n = true := rfl
def qsg (P : Int) (sq : Iv) : Nat → Iv → Prop
 | 0, _ => False
 | f + 1, w => qcm P w = true ∨ qsg P sq f (w.mul sq P)
theorem qza {P : Int} {sq : Iv} {f n : Nat} {w s : Iv} (h : qcm P w = true) : logG P sq (f + 1) n w s = (w, s) := by
 unfold logG; rw [if_pos h]
theorem q3k {P : Int} {sq : Iv} {f n : Nat} {w s : Iv} (h : qcm P w = false) : logG P sq (f + 1) n w s = logG P sq f (n + 2) (w.mul sq P) (s.add ((w.mul sq P).div (nI n n) P) P) := by
 conv => lhs; unfold logG
 simp only [h, Bool.false_eq_true, if_false]
theorem qadm (P : Int) (z : Iv) (wz : z.W) (hP : 0 ≤ P) (hP2 : P ≤ 1000000) (hs : qsg P (z.sq P) 1000 z) : CQ prog qo2 [wk P, z.v] (logI P z).v := by
 refine qag rfl fun H => ?_
 have cq := qp1 z P wz
 have wq : (z.sq P).W := sq_W
 have e0 : logI P z = ((logG P (z.sq P) 1000 3 z z).2.add (qcy (logG P (z.sq P) 1000 3 z z).1) P).scl 1 := rfl
 rw [e0]
 generalize hq : z.sq P = q at *
 simp [wk]
 refine qaa rfl rfl rfl cq ?_
 simp [qah5, qacu, qah6, apart]
 refine qcz (fun k E H' => ∃ (n : Nat) (w s : Iv), H' = H ++ [some ⟨1, [.agg [.int .i64 P]], false, true⟩, some ⟨7, [z.v], false, true⟩, some ⟨7, [zIv], false, true⟩, some ⟨7, [q.v], false, true⟩, some ⟨7, [w.v], false, true⟩, some ⟨7, [s.v], false, true⟩] ∧
   E 2 = .ptr H.length 0 0 ∧ E 3 = .ptr (H.length + 1) 0 0 ∧ E 4 = .ptr (H.length + 2) 0 0 ∧ E 5 = .ptr (H.length + 3) 0 0 ∧ E 6 = .ptr (H.length + 4) 0 0 ∧ E 7 = .ptr (H.length + 5) 0 0 ∧ E 8 = .int .i64 n ∧ w.W ∧ s.W ∧ n + 2 * k ≤ 2003 ∧ qsg P q k w ∧ logG P q k n w s = logG P q 1000 3 z z) 1000 ?_ ?_
 · exact ⟨3, z, z, by simp [zIv], by simp, by simp, by simp, by simp, by simp, by simp, by simp, wz, wz, by omega, hs, rfl⟩
 · rintro k E H' ⟨n, w, s, rfl, h2, h3, h4, h5, h6, h7, h8, ww, ws, hn, hst, hg⟩
   cases k with
   | zero => exact hst.elim
   | succ k =>
     have hst' : qcm P w = true ∨ qsg P q k (w.mul q P) := hst
     have cs := q36 P w ww hP hP2
     have cm := q51 P w q ww wq
     have wm : (w.mul q P).W := mul_W
     have wn : (nI (n : Int) (n : Int)).W := nI_W (by omega) (by omega)
     have cn := qfq n (by omega) (by omega)
     have cd := q15 P (w.mul q P) (nI n n) wm wn
     have wd : ((w.mul q P).div (nI n n) P).W := div_W
     have ca := qqt P s _ ws wd
     have wa : (s.add ((w.mul q P).div (nI n n) P) P).W := add_W
     have e1 : IntKind.i64.wrap ((n : Int) + 2) = ((n + 2 : Nat) : Int) := by rw [wrap_i64] <;> omega
     have g1 := @qza P q k n w s
     have g2 := @q3k P q k n w s
     generalize hS : s.add ((w.mul q P).div (nI n n) P) P = S at *
     generalize hT : (w.mul q P).div (nI n n) P = T at *
     generalize hM : w.mul q P = M at *
     simp only [wk] at *
     refine qas ?_
     simp [qfc, h2, h6]
     refine qaa rfl rfl rfl cs ?_
     cases hsm : qcm P w
     · have hst2 := hst'.resolve_left (by simp [hsm])
       simp [h2, h5, h6]
       refine qaa rfl rfl rfl cm ?_
       simp [h2, h6, h7, h8]
       refine qaa rfl rfl rfl cn ?_
       simp
       refine qaa rfl rfl rfl cd ?_
       simp
       refine qaa rfl rfl rfl ca ?_
       simp [h2, h3, h4, h5, h6, h7, h8]
       exact ⟨k, by omega, n + 2, M, S, by simp, by simpa using e1, wm, wa, by omega, hst2, by rw [← g2 hsm, hg]⟩
     · have er := g1 hsm
       rw [hg] at er
       have cr := qzm w ww
       have wr : (qcy w).W := qn9 ww
       have cf := qqt P s (qcy w) ws wr
       have cl := qr9 (s.add (qcy w) P) 1 add_W
       simp [h2, h6, h7]
       refine qaa rfl rfl rfl cr ?_
       simp
       refine qaa rfl rfl rfl cf ?_
       simp
       refine qaa rfl rfl rfl cl ?_
       simp [h4, er, lim, zIv]
section
variable {P : Nat} {q w s z : Iv}
theorem ql1 (h1 : 24 ≤ P) (h2 : P ≤ 512) : precB (P : Int) = true := precB_iff.2 (by omega)
theorem qack (h1 : 24 ≤ P) (h2 : P ≤ 512) (wq : q.W) (hq : q.Bt (-pw 16382) (pw 16382)) {i : Nat} (hi : i ≤ 300) (ww : w.W) (hw : w.Bt (-pw (16383 - 2 * i)) (pw (16383 - 2 * i))) :
   (w.mul q P).Bt (-pw (16383 - 2 * (i + 1))) (pw (16383 - 2 * (i + 1))) :=
 qy6 ww wq (ql1 h1 h2) hw hq (qa3 (by omega)) (by rw [← qa5, ← qa5]; exact pw_le (by omega))
theorem qmu (hP : P ≤ 512) {i : Nat} (ww : w.W) (hw : w.Bt (-pw (16383 - 2 * i)) (pw (16383 - 2 * i))) (h : ¬ qcm P w = true) : 2 * i < P := by
 rw [qut ww hw.k (by omega)] at h
 have hm := qvd ww hw.k
 have h1 := hw.lo; have h2 := hw.hi
 have le0 := qak ww hw.k
 rcases Nat.lt_or_ge (2 * i) P with h3 | h3
 · exact h3
 · exfalso
   have h4 : pw (16383 - 2 * i) < pw (16384 - P) := pw_lt_iff.2 (by omega)
   have := qax (16383 - 2 * i)
   omega
theorem q7q (h1 : 24 ≤ P) (h2 : P ≤ 512) (wq : q.W) (hq : q.Bt (-pw 16382) (pw 16382)) : ∀ (f i : Nat) (w : Iv), w.W → w.Bt (-pw (16383 - 2 * i)) (pw (16383 - 2 * i)) → i ≤ 300 → P ≤ 2 * (i + f) → 0 < f → i < 300 → qsg P q (f + 1) w
 | 0, i, w, _, _, _, _, h0, _ => absurd h0 (by decide)
 | f + 1, i, w, ww, hw, hi, hf, _, hi2 => by
   by_cases hsm : qcm P w = true
   · exact .inl hsm
   · have := qmu h2 ww hw hsm
     right
     have b := qack h1 h2 wq hq hi ww hw
     cases f with
     | zero =>
       left
       by_cases hs2 : qcm P (w.mul q P) = true
       · exact hs2
       · have := qmu h2 mul_W b hs2
         omega
     | succ f => exact q7q h1 h2 wq hq (f + 1) (i + 1) _ mul_W b (by omega) (by omega) (by omega) (by omega)
theorem qaci (h1 : 24 ≤ P) (h2 : P ≤ 512) (wq : q.W) (hq : q.Bt (-pw 16382) (pw 16382)) : ∀ (f i : Nat) (w s : Iv), w.W → s.W → w.Bt (-pw (16383 - 2 * i)) (pw (16383 - 2 * i)) → s.Bt (-((i + 1 : Nat) : Int) * pw 16384) (((i + 1 : Nat) : Int) * pw 16384) → i < 300 →
   ∃ m, m ≤ i + f ∧ m ≤ 300 ∧ (logG P q f (2 * i + 3) w s).1.W ∧ (logG P q f (2 * i + 3) w s).2.W ∧ (logG P q f (2 * i + 3) w s).1.Bt (-pw 16383) (pw 16383) ∧ (logG P q f (2 * i + 3) w s).2.Bt (-((m + 1 : Nat) : Int) * pw 16384) (((m + 1 : Nat) : Int) * pw 16384)
 | 0, i, w, s, ww, ws, hw, hs, hi => ⟨i, by omega, by omega, ww, ws, hw.mono (by have := pw_le (show 16383 - 2 * i ≤ 16383 by omega); omega) (pw_le (by omega)), hs⟩
 | f + 1, i, w, s, ww, ws, hw, hs, hi => by
   cases hsm : qcm P w
   · have hns := qmu h2 ww hw (by rw [hsm]; decide)
     have b := qack h1 h2 wq hq (by omega) ww hw
     have p0 := qax 16384
     have hn := nI_Bt (k := ((2 * i + 3 : Nat) : Int)) (by omega)
     have wn : (nI ((2 * i + 3 : Nat) : Int) ((2 * i + 3 : Nat) : Int)).W := nI_W (by omega) (by omega)
     have d := q4b (c := pw 16384) (m := ((2 * i + 3 : Nat) : Int) * pw 16384) mul_W wn (ql1 h1 h2) b hn (Int.mul_pos (by omega) p0) (qa3 (by omega)) (by omega) (by
       refine Int.mul_le_mul (pw_le (by omega)) ?_ (by omega) (by omega)
       have : 1 * pw 16384 ≤ ((2 * i + 3 : Nat) : Int) * pw 16384 := (qaw p0).2 (by omega)
       omega)
     have a := qxa (E := -((i + 1 + 1 : Nat) : Int) * pw 16384) (F := ((i + 1 + 1 : Nat) : Int) * pw 16384) ws div_W (ql1 h1 h2) hs d (qrl (by rw [qiq]; omega) (by omega)) (qrl (by rw [qiq]; omega) (by omega))
       (by rw [Int.neg_mul, Int.neg_mul, show ((i + 1 + 1 : Nat) : Int) = ((i + 1 : Nat) : Int) + 1 by omega, Int.add_mul, Int.one_mul]; omega)
       (by rw [show ((i + 1 + 1 : Nat) : Int) = ((i + 1 : Nat) : Int) + 1 by omega, Int.add_mul, Int.one_mul]; omega)
     rw [q3k hsm]
     obtain ⟨m, h3, h4, r⟩ := qaci h1 h2 wq hq f (i + 1) _ _ mul_W add_W b a (by omega)
     exact ⟨m, by omega, h4, r⟩
   · rw [qza hsm]
     exact ⟨i, by omega, by omega, ww, ws, hw.mono (by have := pw_le (show 16383 - 2 * i ≤ 16383 by omega); omega) (pw_le (by omega)), hs⟩
theorem qahi (h1 : 24 ≤ P) (h2 : P ≤ 512) (wz : z.W) (hz : z.Bt (-pw 16383) (pw 16383)) : (z.sq P).Bt (-pw 16382) (pw 16382) :=
 sq_up wz (ql1 h1 h2) hz (qa3 (by omega)) (by rw [← qa5, ← qa5]; exact pw_le (by omega))
theorem q3j (h1 : 24 ≤ P) (h2 : P ≤ 512) (wz : z.W) (hz : z.known = true → z.Bt (-pw 16383) (pw 16383)) : qsg P (z.sq P) 1000 z := by
 cases hk : z.known
 · exact .inl (by unfold qcm; rw [hk]; rfl)
 · exact q7q h1 h2 sq_W (qahi h1 h2 wz (hz hk)) 999 0 z wz (hz hk) (by omega) (by omega) (by omega) (by omega)
theorem qy9 {P : Int} {z : Iv} : (logI P z).W := qfe
theorem qacl (h1 : 24 ≤ P) (h2 : P ≤ 512) (wz : z.W) (hz : z.Bt (-pw 16383) (pw 16383)) : (logI P z).Bt (-pw 16394) (pw 16394) := by
 have p0 := qax 16384
 have e4 : pw 16384 = 2 * pw 16383 := qb2 16383
 obtain ⟨m, _, hm, w1, w2, b1, b2⟩ := qaci h1 h2 sq_W (qahi h1 h2 wz hz) 1000 0 z z wz wz hz (hz.mono (by simp; omega) (by simp; omega)) (by omega)
 have e0 : logI P z = ((logG P (z.sq P) 1000 (2 * 0 + 3) z z).2.add (qcy (logG P (z.sq P) 1000 (2 * 0 + 3) z z).1) P).scl 1 := rfl
 rw [e0]
 obtain ⟨T, hT⟩ : ∃ T, T = (logG P (z.sq P) 1000 (2 * 0 + 3) z z).1 := ⟨_, rfl⟩
 obtain ⟨S, hS⟩ : ∃ S, S = (logG P (z.sq P) 1000 (2 * 0 + 3) z z).2 := ⟨_, rfl⟩
 rw [← hT] at w1 b1
 rw [← hS] at w2 b2
 rw [← hT, ← hS]
 have hmg := qvd w1 b1.k
 have tl := qak w1 b1.k
 have t1 := b1.lo; have t2 := b1.hi
 have ab := q4q (a := pw 16383) w1 b1.k (by omega)
 have a := qxa (E := -((302 : Int) * pw 16384)) (F := (302 : Int) * pw 16384) w2 (qn9 w1) (ql1 h1 h2) b2 ab (qcf (qrl (by rw [qiq]; omega) (by decide))) (qrl (by rw [qiq]; omega) (by decide))
   (by
     have : ((m + 1 : Nat) : Int) * pw 16384 ≤ 301 * pw 16384 := (qaw p0).2 (by omega)
     rw [Int.neg_mul]; omega)
   (by
     have : ((m + 1 : Nat) : Int) * pw 16384 ≤ 301 * pw 16384 := (qaw p0).2 (by omega)
     omega)
 have e1 : pw 1 = 2 := rfl
 have e0 : pw 0 = 1 := rfl
 have e5 : pw 16394 = 1024 * pw 16384 := by rw [show 16394 = 16384 + 10 from rfl, qa5, Int.mul_comm]; rfl
 have cap := qyr (m := 16394) (by unfold capE; omega)
 have l1 := a.lo; have l2 := a.hi
 have le0 := qak add_W a.k
 obtain ⟨s1, s2, s3⟩ := q61 (k := 1) (a := 1) (b := 0) (U := 2 * (S.add (qcy T) P).lo.val) (V := 2 * (S.add (qcy T) P).hi.val) add_W a.k (by omega) (by omega) (by omega) (by rw [e1, e0]; omega) (by rw [e1, e0]; omega) (by omega) (by omega)
 exact ⟨s1, by rw [s2]; omega, by rw [s3]; omega⟩
theorem q6s (h1 : 24 ≤ P) (h2 : P ≤ 512) : ((nI 1 1).div (nI 3 3) P).Bt (-pw 16383) (pw 16383) := by
 have b1 := nI_Bt (k := 1) (by decide)
 have b3 := nI_Bt (k := 3) (by decide)
 have p0 := qax 16384
 have e4 : pw 16384 = 2 * pw 16383 := qb2 16383
 rw [Int.one_mul] at b1
 exact q4b (m := 3 * pw 16384) (nI_Wk (by decide)) (nI_Wk (by decide)) (ql1 h1 h2) (b1.mono (by omega) (Int.le_refl _)) b3 (by omega) (qa3 (by omega)) (by omega) (by
   rw [← Int.mul_assoc]
   exact (qaw p0).2 (by omega))
end
theorem q0l {p : Int} (hp : precB p = true) : ∃ P : Nat, gP p 16 = (P : Int) ∧ 24 ≤ P ∧ P ≤ 512 := by
 have hpp := precB_iff.1 hp
 obtain ⟨P, hP⟩ : ∃ P : Nat, P = (gP p 16).toNat := ⟨_, rfl⟩
 refine ⟨P, ?_, ?_, ?_⟩ <;> unfold gP at * <;> omega
theorem q0m {p : Int} : (log2I p).W := by
 unfold log2I; split
 · exact qib
 · exact Iv.whole_W
theorem q0n {p : Int} (hp : precB p = true) : (log2I p).Bt (-pw 16394) (pw 16394) := by
 obtain ⟨P, hP, h1, h2⟩ := q0l hp
 unfold log2I
 rw [if_pos hp, hP]
 exact (qs7 qy9 hp (qacl h1 h2 div_W (q6s h1 h2)) (qcf (qa3 (by omega))) (qa3 (by omega))).1
theorem q6g (p : Int) : CQ prog qwg [.int .i64 p] (log2I p).v := by
 refine qag rfl fun H => ?_
 cases hp : precB p
 · have e : log2I p = Iv.whole := by unfold log2I; rw [hp]; rfl
   have hp' : p < 8 ∨ 512 < p := by
     rcases Int.lt_or_le p 8 with h | h
     · exact .inl h
     · right
       rcases Int.lt_or_le 512 p with h2 | h2
       · exact h2
       · rw [precB_iff.2 ⟨h, h2⟩] at hp; cases hp
   rw [e]
   rcases hp' with h | h
   · simp [h]
     refine qaa rfl rfl rfl qat ?_
     simp [lim]
   · have h8 : ¬ p < 8 := by omega
     simp [h, h8]
     refine qaa rfl rfl rfl qat ?_
     simp [lim]
 · have hpp := precB_iff.1 hp
   obtain ⟨P, hP, h1, h2⟩ := q0l hp
   have g := quf p 16 (by omega) (by omega) (by omega) (by omega)
   rw [hP] at g
   have n8 : ¬ p < 8 := by omega
   have n9 : ¬ 512 < p := by omega
   have w1 : (nI 1 1).W := nI_Wk (by decide)
   have w3 : (nI 3 3).W := nI_Wk (by decide)
   have cd := q15 P (nI 1 1) (nI 3 3) w1 w3
   have cl := qadm P ((nI 1 1).div (nI 3 3) P) div_W (by omega) (by omega) (q3j h1 h2 div_W fun _ => q6s h1 h2)
   have cr := qmi (logI P ((nI 1 1).div (nI 3 3) P)) p qy9
   have e : log2I p = (logI P ((nI 1 1).div (nI 3 3) P)).rnd p := by unfold log2I; rw [if_pos hp, hP]
   rw [e]
   simp only [wk] at g cd cl
   simp [n8, n9]
   refine qaa rfl rfl rfl g ?_
   simp
   refine qaa rfl rfl rfl (qfq 1 (by omega) (by omega)) ?_
   simp
   refine qaa rfl rfl rfl (qfq 3 (by omega) (by omega)) ?_
   simp
   refine qaa rfl rfl rfl cd ?_
   simp
   refine qaa rfl rfl rfl cl ?_
   simp
   refine qaa rfl rfl rfl cr ?_
   simp [lim]
end Go.Abs.W
namespace Go.Abs.W
section
variable {d : Dy} {P : Nat}
theorem qit (ok : d.Ok) (h : 0 < d.sgn) : d.m ≠ [] ∧ d.val = d.absN := by
 have hm : d.m ≠ [] := by
   intro h0
   have := sgn0.2 h0
   omega
 have hv := (qdr ok).1.1 h
 have := ql5 d
 exact ⟨hm, by omega⟩
theorem qal9 (ok : d.Ok) (h : 0 < d.sgn) (h1 : 24 ≤ P) (h2 : P ≤ 512) (hk : ((Iv.pt d).rnd P).known = true) :
   pw (d.top + 16383).toNat ≤ ((Iv.pt d).rnd P).lo.val ∧ ((Iv.pt d).rnd P).hi.val ≤ pw (d.top + 16384).toNat := by
 obtain ⟨hm, hv⟩ := qit ok h
 obtain ⟨b1, b2⟩ := ok.absN_bounds hm
 have ht := ok.top_pos hm
 have htop : d.top ≤ 16384 := by have := ok.top; unfold Dy.top; rw [if_neg hm]; exact this
 have hp := ql1 h1 h2
 have l : pw (d.top + 16383).toNat ≤ d.val := by rw [hv]; unfold pw; exact Int.ofNat_le.2 b1
 have u : d.val ≤ pw (d.top + 16384).toNat := by rw [hv]; unfold pw; exact Int.ofNat_le.2 (Nat.le_of_lt b2)
 unfold Iv.rnd at hk ⊢
 rw [qps ok, hp, if_pos (by rfl)] at hk ⊢
 unfold Iv.made at hk ⊢
 split at hk
 · rename_i h0
   rw [if_pos h0]
   have dn := qrb ok hp
   have up := qra ok hp
   refine ⟨(dn.atl (qa3 (by omega)) l).2, ?_⟩
   by_cases hc : d.top ≤ 16383
   · exact (up.atu (qa3 (by omega)) u).2
   · have g := (up.grid h0.2).2
     have e : (d.top + 16384).toNat = capE := by unfold capE; omega
     have : pw capE = ((capN : Nat) : Int) := rfl
     rw [e, this]
     show (qc1 d P true).1.val ≤ _
     omega
 · cases hk
def lgM (d : Dy) (P : Int) : Iv := ((Iv.pt d).rnd P).scl (-d.top)
def lgZ (d : Dy) (P : Int) : Iv := ((lgM d P).add (nI (-1) (-1)) P).div ((lgM d P).add (nI 1 1) P) P
theorem qafy {r s : Dy × Int} (hk : (Iv.made r s).known = true) : r.2 = 0 ∧ s.2 = 0 ∧ Iv.made r s = ⟨r.1, s.1, false⟩ := by
 unfold Iv.made at hk ⊢
 split at hk
 · rename_i h; exact ⟨h.1, h.2, if_pos h⟩
 · cases hk
theorem qama (ok : d.Ok) (h : 0 < d.sgn) (h1 : 24 ≤ P) (h2 : P ≤ 512) (hk : (lgM d P).known = true) : (lgM d P).Bt (pw 16383) (pw 16384) := by
 obtain ⟨hm, hv⟩ := qit ok h
 have ht := ok.top_pos hm
 have htop : d.top ≤ 16384 := by have := ok.top; unfold Dy.top; rw [if_neg hm]; exact this
 have hk2 := hk
 unfold lgM Iv.scl at hk2
 by_cases kx : ((Iv.pt d).rnd P).known = true
 · rw [if_pos kx] at hk2
   have e0 : lgM d P = Iv.made (((Iv.pt d).rnd P).lo.scl (-d.top), ((Iv.pt d).rnd P).lo.sclE (-d.top)) (((Iv.pt d).rnd P).hi.scl (-d.top), ((Iv.pt d).rnd P).hi.sclE (-d.top)) := by
     unfold lgM Iv.scl; rw [if_pos kx]
   obtain ⟨a, b⟩ := qal9 ok h h1 h2 kx
   obtain ⟨s1, s2, e⟩ := qafy hk2
   obtain ⟨o1, o2⟩ := qai qib kx
   obtain ⟨A, hA⟩ : ∃ A : Nat, A = (-d.top).toNat := ⟨_, rfl⟩
   obtain ⟨B, hB⟩ : ∃ B : Nat, B = d.top.toNat := ⟨_, rfl⟩
   have v1 := qqg (k := -d.top) (a := A) (b := B) o1 (by omega) s1
   have v2 := qqg (k := -d.top) (a := A) (b := B) o2 (by omega) s2
   have pB := qax B
   have pA := qax A
   refine ⟨hk, ?_, ?_⟩
   · refine (qaw pB).1 ?_
     rw [e0, e]
     show _ ≤ (((Iv.pt d).rnd P).lo.scl (-d.top)).val * pw B
     rw [v1, ← qa5, show 16383 + B = (d.top + 16383).toNat + A by omega, qa5]
     exact (qaw pA).2 a
   · refine (qaw pB).1 ?_
     rw [e0, e]
     show (((Iv.pt d).rnd P).hi.scl (-d.top)).val * pw B ≤ _
     rw [v2, ← qa5, show 16384 + B = (d.top + 16384).toNat + A by omega, qa5]
     exact (qaw pA).2 b
 · rw [if_neg kx] at hk2
   cases hk2
theorem qah3 (ok : d.Ok) (h : 0 < d.sgn) (h1 : 24 ≤ P) (h2 : P ≤ 512) (hk : (lgM d P).known = true) : (lgZ d P).Bt (-pw 16383) (pw 16383) := by
 have b := qama ok h h1 h2 hk
 have hp := ql1 h1 h2
 have b1 := nI_Bt (k := 1) (by decide)
 have bn := nI_Bt (k := -1) (by decide)
 have w1 : (nI 1 1).W := nI_Wk (by decide)
 have wn : (nI (-1) (-1)).W := nI_Wk (by decide)
 have wm : (lgM d P).W := qfe
 have e4 : pw 16384 = 2 * pw 16383 := qb2 16383
 have p0 := qax 16383
 have x1 := qxa (E := -pw 16383) (F := pw 16383) wm wn hp b bn (qcf (qa3 (by omega))) (qa3 (by omega)) (by omega) (by omega)
 have x2 := qxa (E := 3 * pw 16383) (F := pw 16385) wm w1 hp b b1 (qpu (b := 2) (by
     have : 2 ^ 2 ≤ 2 ^ (P : Int).toNat := Nat.pow_le_pow_right (by omega) (by rw [qiq]; omega)
     have : (2 : Nat) ^ 2 = 4 := rfl
     show 3 ≤ _
     omega) (by decide) (by unfold capE; omega)) (qa3 (by omega)) (by omega) (by have : pw 16385 = 2 * pw 16384 := qb2 16384; omega)
 exact q4b (m := 3 * pw 16383) add_W add_W hp x1 x2 (by omega) (qa3 (by omega)) (by omega) (Int.mul_le_mul_of_nonneg_left (by omega) (by omega))
theorem qacq (hk : (lgM d P).known = false) : (lgZ d P).known = false := by
 have e : (lgM d P).add (nI (-1) (-1)) P = Iv.whole := by unfold Iv.add; rw [hk]; rfl
 have e2 : ∀ y : Iv, Iv.whole.div y P = Iv.whole := fun y => by
   have : Iv.whole.known = false := rfl
   unfold Iv.div; rw [this]; rfl
 unfold lgZ
 rw [e, e2]; rfl
theorem qaju (ok : d.Ok) (h : 0 < d.sgn) (h1 : 24 ≤ P) (h2 : P ≤ 512) : (lgZ d P).known = true → (lgZ d P).Bt (-pw 16383) (pw 16383) := by
 intro hz
 cases hk : (lgM d P).known
 · rw [qacq hk] at hz; cases hz
 · exact qah3 ok h h1 h2 hk
theorem qacr (ok : d.Ok) (h : 0 < d.sgn) (h1 : 24 ≤ P) (h2 : P ≤ 512) (ht2 : d.top ≤ 16383) : (lgM d P).known = true := by
 obtain ⟨hm, hv⟩ := qit ok h
 obtain ⟨b1, b2⟩ := ok.absN_bounds hm
 have ht := ok.top_pos hm
 have hp := ql1 h1 h2
 have l : pw (d.top + 16383).toNat ≤ d.val := by rw [hv]; unfold pw; exact Int.ofNat_le.2 b1
 have u : d.val ≤ pw (d.top + 16384).toNat := by rw [hv]; unfold pw; exact Int.ofNat_le.2 (Nat.le_of_lt b2)
 obtain ⟨r1, r2, r3⟩ := qs7 (p := (P : Int)) ⟨ok.w, ok.w⟩ hp ⟨qps ok, l, u⟩ (qa3 (by omega)) (qa3 (by omega))
 have le0 := qak qib r1.k
 have q1 := r1.lo; have q2 := r1.hi
 have p0 := qax (d.top + 16383).toNat
 unfold lgM
 by_cases hneg : d.top ≤ 0
 · obtain ⟨A, hA⟩ : ∃ A : Nat, A = (-d.top).toNat := ⟨_, rfl⟩
   have e0 : pw 0 = 1 := rfl
   have cap := qyr (m := 16384) (by unfold capE; omega)
   have key : ∀ v : Int, 0 ≤ v → v ≤ pw (d.top + 16384).toNat → (v * pw A).natAbs < capN := by
     intro v h0 hv
     have : v * pw A ≤ pw 16384 := by
       have := (qaw (qax A)).2 hv
       rwa [← qa5, show (d.top + 16384).toNat + A = 16384 by omega] at this
     have := Int.mul_nonneg h0 (Int.le_of_lt (qax A))
     omega
   exact (q61 (k := -d.top) (a := A) (b := 0) qib r1.k (by omega) (by omega) (by omega) (by rw [e0, Int.mul_one]) (by rw [e0, Int.mul_one]) (key _ (by omega) (by omega)) (key _ (by omega) (by omega))).1
 · obtain ⟨B, hB⟩ : ∃ B : Nat, B = d.top.toNat := ⟨_, rfl⟩
   have e0 : pw 0 = 1 := rfl
   have hle : pw (B + P) ≤ pw (d.top + 16383).toNat := pw_le (by omega)
   obtain ⟨U, hU⟩ := qkk r2 (c := B) (by rw [qiq]; omega)
   obtain ⟨V, hV⟩ := qkk r3 (c := B) (by rw [qiq]; omega)
   have cap := qyr (m := 16384) (by unfold capE; omega)
   have pB := qax B
   have key : ∀ v w : Int, 0 ≤ v → v ≤ pw (d.top + 16384).toNat → v = pw B * w → w.natAbs < capN := by
     intro v w h0 hv he
     rw [he, Int.mul_comm, show (d.top + 16384).toNat = 16384 + B by omega, qa5] at hv
     have h3 := (qaw pB).1 hv
     rw [he, Int.mul_comm] at h0
     have h4 := Int.nonneg_of_mul_nonneg_left h0 pB
     omega
   exact (q61 (k := -d.top) (a := 0) (b := B) (U := U) (V := V) qib r1.k (by omega) (by omega) (by omega) (by rw [e0, Int.mul_one, hU, Int.mul_comm]) (by rw [e0, Int.mul_one, hV, Int.mul_comm]) (key _ _ (by omega) (by omega) hU) (key _ _ (by omega) (by omega) hV)).1
end
theorem qah2 {p : Int} (hp : precB p = true) : ∃ P : Nat, gP p 40 = (P : Int) ∧ 24 ≤ P ∧ P ≤ 512 := by
 have hpp := precB_iff.1 hp
 obtain ⟨P, hP⟩ : ∃ P : Nat, P = (gP p 40).toNat := ⟨_, rfl⟩
 refine ⟨P, ?_, ?_, ?_⟩ <;> unfold gP at * <;> omega
theorem lgI_W {d : Dy} {p : Int} : (lgI d p).W := by
 unfold lgI; split
 · exact ⟨Dy.zero_W, Dy.zero_W⟩
 · exact qib
theorem qah4 {d : Dy} {p : Int} {P : Nat} (h1 : ¬ d.cmp (nD 1) = 0) (hP : gP p 40 = (P : Int)) : lgI d p = ((logI P (lgZ d P)).add ((nI d.top d.top).mul (log2I P) P) P).rnd p := by
 unfold lgI
 rw [if_neg h1]
 simp only [hP]
 rfl
theorem q7t {d : Dy} {p : Int} (ok : d.Ok) (h : 0 < d.sgn) (hp : precB p = true) (ht2 : d.top ≤ 16383) : (lgI d p).Bt (-pw 16416) (pw 16416) := by
 obtain ⟨hm, _⟩ := qit ok h
 have ht := ok.top_pos hm
 by_cases hc : d.cmp (nD 1) = 0
 · unfold lgI
   rw [if_pos hc]
   have p0 := qax 16416
   have k : (Iv.mk Dy.zero Dy.zero false).known = true := qcj Dy.zero_ok Dy.zero_ok (Int.le_refl _)
   exact ⟨k, by show _ ≤ Dy.zero.val; rw [qc2]; omega, by show Dy.zero.val ≤ _; rw [qc2]; omega⟩
 · obtain ⟨P, hP, h1, h2⟩ := qah2 hp
   rw [qah4 hc hP]
   have z := qah3 ok h h1 h2 (qacr ok h h1 h2 ht2)
   have hpP := ql1 h1 h2
   have a := qacl h1 h2 div_W z
   have b := q0n hpP
   have p0 := qax 16384
   have e5 : pw 16399 = 32768 * pw 16384 := by rw [show 16399 = 16384 + 15 from rfl, qa5, Int.mul_comm]; rfl
   have n1 : d.top * pw 16384 ≤ 32768 * pw 16384 := (qaw p0).2 (by omega)
   have n2 : (-32768) * pw 16384 ≤ d.top * pw 16384 := (qaw p0).2 (by omega)
   have n := (nI_Bt (k := d.top) (by omega)).mono (show -pw 16399 ≤ _ by omega) (show _ ≤ pw 16399 by omega)
   have m := qy6 (c := pw 16410) (nI_Wk (by omega)) q0m hpP n b (qa3 (by omega)) (by rw [← qa5, ← qa5]; exact pw_le (by omega))
   have e6 : pw 16416 = 64 * pw 16410 := by rw [show 16416 = 16410 + 6 from rfl, qa5, Int.mul_comm]; rfl
   have e7 : pw 16394 ≤ pw 16410 := pw_le (by omega)
   have p1 := qax 16410
   have s := qxa (E := -pw 16416) (F := pw 16416) qy9 mul_W hpP a m (qcf (qa3 (by omega))) (qa3 (by omega)) (by omega) (by omega)
   exact (qs7 add_W hp s (qcf (qa3 (by omega))) (qa3 (by omega))).1
theorem qs8 (d : Dy) (p : Int) (ok : d.Ok) (h : 0 < d.sgn) (hp : precB p = true) : CQ prog qp5 [d.v, .int .i64 p] (lgI d p).v := by
 refine qag rfl fun H => ?_
 obtain ⟨hm, _⟩ := qit ok h
 have ht := ok.top_pos hm
 have htop : d.top ≤ 16384 := by have := ok.top; unfold Dy.top; rw [if_neg hm]; exact this
 have hpp := precB_iff.1 hp
 have c := q2h 1 (by omega) (by omega)
 rw [← show nD 1 = Dy.of (decide ((1 : Int) < 0)) (1 : Int).natAbs 0 from rfl] at c
 have t := qr4 d ok.w
 have pt := qxf d ok.w
 rw [ok.valid] at t pt
 rw [if_pos rfl] at t pt
 simp
 refine qaa rfl rfl rfl c ?_
 simp
 refine qaa rfl rfl rfl (qf4 d (nD 1) ok.w (nD_ok (by omega)).w) ?_
 by_cases hc : d.cmp (nD 1) = 0
 · simp [hc, lgI, Dy.zero, lim]
 · obtain ⟨P, hP, h1, h2⟩ := qah2 hp
   have g := quf p 40 (by omega) (by omega) (by omega) (by omega)
   rw [hP] at g
   have e1 : IntKind.i64.wrap (-d.top) = -d.top := by rw [wrap_i64] <;> omega
   have rc := qmi (Iv.pt d) P (pt_W ok.w)
   have sc := qr9 ((Iv.pt d).rnd P) (-d.top) qib
   have wm : (lgM d P).W := qfe
   have c1 := qfq 1 (by omega) (by omega)
   have cn := qfq (-1) (by omega) (by omega)
   have ct := qfq d.top (by omega) (by omega)
   have w1 : (nI 1 1).W := nI_Wk (by decide)
   have wn : (nI (-1) (-1)).W := nI_Wk (by decide)
   have wt : (nI d.top d.top).W := nI_Wk (by omega)
   have a1 := qqt P (lgM d P) (nI (-1) (-1)) wm wn
   have a2 := qqt P (lgM d P) (nI 1 1) wm w1
   have dv := q15 P ((lgM d P).add (nI (-1) (-1)) P) ((lgM d P).add (nI 1 1) P) add_W add_W
   have wz : (lgZ d P).W := div_W
   have lc := qadm P (lgZ d P) wz (by omega) (by omega) (q3j h1 h2 wz (qaju ok h h1 h2))
   have l2 := q6g P
   have ml := q51 P (nI d.top d.top) (log2I P) wt q0m
   have ad := qqt P (logI P (lgZ d P)) ((nI d.top d.top).mul (log2I P) P) qy9 mul_W
   have rf := qmi ((logI P (lgZ d P)).add ((nI d.top d.top).mul (log2I P) P) P) p add_W
   rw [qah4 hc hP]
   rw [show ((Iv.pt d).rnd P).scl (-d.top) = lgM d P from rfl] at sc
   rw [show ((lgM d P).add (nI (-1) (-1)) P).div ((lgM d P).add (nI 1 1) P) P = lgZ d P from rfl] at dv
   generalize lgZ d P = Z at *
   generalize lgM d P = M at *
   simp only [wk] at g a1 a2 dv lc ml ad
   simp [hc]
   refine qaa rfl rfl rfl g ?_
   simp
   refine qaa rfl rfl rfl t ?_
   simp
   refine qaa rfl rfl rfl pt ?_
   simp
   refine qaa rfl rfl rfl rc ?_
   simp [e1]
   refine qaa rfl rfl rfl sc ?_
   simp
   refine qaa rfl rfl rfl cn ?_
   simp
   refine qaa rfl rfl rfl a1 ?_
   simp
   refine qaa rfl rfl rfl c1 ?_
   simp
   refine qaa rfl rfl rfl a2 ?_
   simp
   refine qaa rfl rfl rfl dv ?_
   simp
   refine qaa rfl rfl rfl lc ?_
   simp
   refine qaa rfl rfl rfl ct ?_
   simp
   refine qaa rfl rfl rfl l2 ?_
   simp
   refine qaa rfl rfl rfl ml ?_
   simp
   refine qaa rfl rfl rfl ad ?_
   simp
   refine qaa rfl rfl rfl rf ?_
   simp [lim]
theorem qoh (x : Iv) (p : Int) (w : x.W) : CQ prog qgx [x.v, .int .i64 p] (x.log p).v := by
 refine qag rfl fun H => ?_
 have f := q12 x p w
 simp
 refine qaa rfl rfl rfl f ?_
 cases hk : x.known
 · simp
   refine qaa rfl rfl rfl qat ?_
   simp [Iv.log, hk, lim]
 · obtain ⟨o1, o2⟩ := qai w hk
   have s := qpj x.lo o1.w
   rw [o1.valid, if_pos rfl] at s
   have le0 := qak w hk
   cases hp : precB p
   · simp
     refine qaa rfl rfl rfl qat ?_
     simp [Iv.log, hp, lim]
   · simp
     refine qaa rfl rfl rfl s ?_
     by_cases h0 : 0 < x.lo.sgn
     · have h0' : ¬ x.lo.sgn ≤ 0 := by omega
       have h2 : 0 < x.hi.sgn := (qdr o2).1.2 (by have := (qdr o1).1.1 h0; omega)
       simp [h0']
       refine qaa rfl rfl rfl (qs8 x.lo p o1 h0 hp) ?_
       simp
       refine qaa rfl rfl rfl (qs8 x.hi p o2 h2 hp) ?_
       simp
       refine qaa rfl rfl rfl (quj (lgI x.lo p) (lgI x.hi p)) ?_
       simp [Iv.log, hk, hp, h0, lim]
     · have h0' : x.lo.sgn ≤ 0 := by omega
       simp [h0']
       refine qaa rfl rfl rfl qat ?_
       simp [Iv.log, h0, lim]
end Go.Abs.W
namespace Go.Abs.W
def sinh1 (d : Dy) (p : Int) : Iv := if d.sgn = 0 then ⟨Dy.zero, Dy.zero, false⟩ else hypI d p false
def Iv.sinh (x : Iv) (p : Int) : Iv := if (x.known && precB p && modB x.lo && modB x.hi) = true then endsI (sinh1 x.lo p) (sinh1 x.hi p) else Iv.whole
def qdq (o : Iv) : Iv := if o.all = false ∧ o.lo.cmp (nD 1) < 0 then ⟨nD 1, o.hi, o.all⟩ else o
def Iv.cosh (x : Iv) (p : Int) : Iv := if (x.known && precB p && modB x.lo && modB x.hi) = true then qdq (endsI (hypI x.abs.lo p true) (hypI x.abs.hi p true)) else Iv.whole
theorem q7j {d : Dy} (ok : d.Ok) (h : modB d = true) : modB d.opp = true := by
 have o : d.opp.Ok := by rw [qmr ok]; exact qb8 ok
 rw [qfm o, qub ok, Int.natAbs_neg]
 exact (qfm ok).1 h
theorem q7l {x : Iv} (w : x.W) (k : x.known = true) (h1 : modB x.lo = true) (h2 : modB x.hi = true) : modB x.abs.lo = true ∧ modB x.abs.hi = true := by
 obtain ⟨o1, o2⟩ := qai w k
 obtain ⟨ka, q1, q2, n1, n2⟩ := qmg w k
 obtain ⟨v1, v2⟩ := qr2 w k
 rw [qfm o1] at h1
 rw [qfm o2] at h2
 rw [qfm q1, qfm q2]
 constructor <;> omega
theorem q5m {p : Int} (hp : precB p = true) : ∃ P : Nat, gP p 16 = (P : Int) ∧ 24 ≤ P ∧ P ≤ 512 := q0l hp
theorem qp9 {d : Dy} {p : Int} {plus : Bool} : (hypI d p plus).W := by unfold hypI; exact qib
def hypS (d : Dy) (P : Int) (plus : Bool) : Iv := if plus = true then (qa8 d P).add (qa8 d.opp P) P else (qa8 d P).add (qa8 d.opp P).neg P
theorem qah9 {d : Dy} {P : Int} {plus : Bool} : (hypS d P plus).W := by unfold hypS; split <;> exact add_W
theorem q5n {d : Dy} {p : Int} {plus : Bool} {P : Nat} (hP : gP p 16 = (P : Int)) : hypI d p plus = ((hypS d P plus).scl (-1)).rnd p := by
 unfold hypI; simp only [hP]; rfl
theorem qaj0 {d : Dy} {P : Nat} {plus : Bool} (ok : d.Ok) (h1 : 24 ≤ P) (h2 : P ≤ 512) (hd : modB d = true) : (hypS d P plus).Bt (-pw 20481) (pw 20481) ∧ pw 11776 ∣ (hypS d P plus).lo.val ∧ pw 11776 ∣ (hypS d P plus).hi.val := by
 have hp := ql1 h1 h2
 have o : d.opp.Ok := by rw [qmr ok]; exact qb8 ok
 obtain ⟨a1, a2, a3⟩ := qg3 (p := (P : Int)) ok hp hd
 obtain ⟨b1, b2, b3⟩ := qg3 (p := (P : Int)) o hp (q7j ok hd)
 have wa : (qa8 d P).W := qgs ok
 have wb : (qa8 d.opp P).W := qgs o
 have p1 := qax 12288
 have e : pw 20481 = 2 * pw 20480 := qb2 20480
 have p2 := qax 20480
 unfold hypS
 cases plus
 · rw [if_neg (by decide)]
   have c1 := qal4 wb b1
   have wc := neg_W wb
   obtain ⟨kb1, kb2⟩ := qai wb b1.k
   have d1 : pw 11776 ∣ (qa8 d.opp P).neg.lo.val := by
     unfold Iv.neg; rw [if_pos b1.k]; show _ ∣ (qa8 d.opp P).hi.neg'.val; rw [qif]; exact Int.dvd_neg.2 b3
   have d2 : pw 11776 ∣ (qa8 d.opp P).neg.hi.val := by
     unfold Iv.neg; rw [if_pos b1.k]; show _ ∣ (qa8 d.opp P).lo.neg'.val; rw [qif]; exact Int.dvd_neg.2 b2
   have r := qxa (E := -pw 20481) (F := pw 20481) wa wc hp a1 c1 (qcf (qa3 (by omega))) (qa3 (by omega)) (by omega) (by omega)
   exact ⟨r, qaeg wa wc hp a1.k c1.k r.k (by omega) a2 a3 d1 d2⟩
 · rw [if_pos rfl]
   have r := qxa (E := -pw 20481) (F := pw 20481) wa wb hp a1 b1 (qcf (qa3 (by omega))) (qa3 (by omega)) (by omega) (by omega)
   exact ⟨r, qaeg wa wb hp a1.k b1.k r.k (by omega) a2 a3 b2 b3⟩
theorem q5o {d : Dy} {p : Int} {plus : Bool} (ok : d.Ok) (hp : precB p = true) (hd : modB d = true) : (hypI d p plus).Bt (-pw 20481) (pw 20481) := by
 obtain ⟨P, hP, h1, h2⟩ := q5m hp
 rw [q5n hP]
 obtain ⟨r, d1, d2⟩ := qaj0 (P := P) (plus := plus) ok h1 h2 hd
 have dv : pw (0 + 1) ∣ pw 11776 := ⟨pw 11775, by rw [← qa5]⟩
 have e : pw 20482 = 2 * pw 20481 := qb2 20481
 have p2 := qax 20481
 have q1 := r.lo; have q2 := r.hi
 obtain ⟨s, _⟩ := q60 (j := 0) (m := 20481) qah9 r.k (Int.dvd_trans dv d1) (Int.dvd_trans dv d2) (by show -pw 20482 ≤ _; omega) (by show _ ≤ pw 20482; omega) (by omega)
 exact (qs7 qfe hp s (qcf (qa3 (by omega))) (qa3 (by omega))).1
theorem qacv (d : Dy) (p : Int) (plus : Bool) (ok : d.Ok) (hp : precB p = true) (hd : modB d = true) : CQ prog qo0 [d.v, .int .i64 p, .fn (if plus = true then qks else qkr) []] (hypI d p plus).v := by
 refine qag rfl fun H => ?_
 obtain ⟨P, hP, h1, h2⟩ := q5m hp
 have hpp := precB_iff.1 hp
 have hpP := ql1 h1 h2
 have o : d.opp.Ok := by rw [qmr ok]; exact qb8 ok
 have g := quf p 16 (by omega) (by omega) (by omega) (by omega)
 rw [hP] at g
 have c1 := qrx d P ok hpP hd
 have c2 := qrx d.opp P o hpP (q7j ok hd)
 have wa : (qa8 d P).W := qgs ok
 have wb : (qa8 d.opp P).W := qgs o
 have cn := qxh d ok.w
 rw [q5n hP]
 have cs := qr9 (hypS d P plus) (-1) qah9
 have cr := qmi ((hypS d P plus).scl (-1)) p qfe
 simp only [wk] at g
 cases plus
 · have ca : CQ prog qkr [(qa8 d P).v, (qa8 d.opp P).v, .int .i64 P] (hypS d P false).v := qaes _ _ P wa wb
   simp
   refine qaa rfl rfl rfl g ?_
   simp
   refine qaa rfl rfl rfl c1 ?_
   simp
   refine qaa rfl rfl rfl cn ?_
   simp
   refine qaa rfl rfl rfl c2 ?_
   simp
   refine qaa rfl rfl rfl ca ?_
   simp
   refine qaa rfl rfl rfl cs ?_
   simp
   refine qaa rfl rfl rfl cr ?_
   simp [lim]
 · have ca : CQ prog qks [(qa8 d P).v, (qa8 d.opp P).v, .int .i64 P] (hypS d P true).v := qs5 _ _ P wa wb
   simp
   refine qaa rfl rfl rfl g ?_
   simp
   refine qaa rfl rfl rfl c1 ?_
   simp
   refine qaa rfl rfl rfl cn ?_
   simp
   refine qaa rfl rfl rfl c2 ?_
   simp
   refine qaa rfl rfl rfl ca ?_
   simp
   refine qaa rfl rfl rfl cs ?_
   simp
   refine qaa rfl rfl rfl cr ?_
   simp [lim]
theorem qqs {a b : Iv} (wa : a.W) (wb : b.W) : (endsI a b).W := by
 unfold endsI; split
 · exact Iv.whole_W
 · exact ⟨wa.lo, wb.hi⟩
theorem q92 {o : Iv} (w : o.W) : (qdq o).W := by
 unfold qdq; split
 · exact ⟨(nD_ok (k := 1) (by omega)).w, w.hi⟩
 · exact w
theorem qxj (x : Iv) (p : Int) (w : x.W) : CQ prog qwh [x.v, .int .i64 p] (x.cosh p).v := by
 refine qag rfl fun H => ?_
 have f := q12 x p w
 simp
 refine qaa rfl rfl rfl f ?_
 cases hk : x.known
 · simp
   refine qaa rfl rfl rfl qat ?_
   simp [Iv.cosh, hk, lim]
 · obtain ⟨o1, o2⟩ := qai w hk
   cases hp : precB p
   · simp
     refine qaa rfl rfl rfl qat ?_
     simp [Iv.cosh, hp, lim]
   · simp
     refine qaa rfl rfl rfl (qf8 x.lo o1.w) ?_
     cases h1 : modB x.lo
     · simp
       refine qaa rfl rfl rfl qat ?_
       simp [Iv.cosh, h1, lim]
     · simp
       refine qaa rfl rfl rfl (qf8 x.hi o2.w) ?_
       cases h2 : modB x.hi
       · simp
         refine qaa rfl rfl rfl qat ?_
         simp [Iv.cosh, h2, lim]
       · obtain ⟨m1, m2⟩ := q7l w hk h1 h2
         obtain ⟨ka, q1, q2, _, _⟩ := qmg w hk
         have ca := qaet x w
         have y1 := qacv x.abs.lo p true q1 hp m1
         have y2 := qacv x.abs.hi p true q2 hp m2
         have ce := quj (hypI x.abs.lo p true) (hypI x.abs.hi p true)
         have we : (endsI (hypI x.abs.lo p true) (hypI x.abs.hi p true)).W := qqs qp9 qp9
         have c := q2h 1 (by omega) (by omega)
         rw [← show nD 1 = Dy.of (decide ((1 : Int) < 0)) (1 : Int).natAbs 0 from rfl] at c
         have e : x.cosh p = qdq (endsI (hypI x.abs.lo p true) (hypI x.abs.hi p true)) := by simp [Iv.cosh, hk, hp, h1, h2]
         rw [e]
         generalize endsI (hypI x.abs.lo p true) (hypI x.abs.hi p true) = O at *
         have cc := qf4 O.lo (nD 1) we.lo (nD_ok (by omega)).w
         rcases O with ⟨ol, oh, oa⟩
         simp
         refine qaa rfl rfl rfl ca ?_
         simp
         refine qaa rfl rfl rfl y1 ?_
         simp
         refine qaa rfl rfl rfl y2 ?_
         simp
         refine qaa rfl rfl rfl ce ?_
         simp
         refine qaa rfl rfl rfl c ?_
         cases oa
         · simp
           refine qaa rfl rfl rfl cc ?_
           by_cases hc : ol.cmp (nD 1) < 0
           · simp [hc, qdq, lim]
           · simp [hc, qdq, lim]
         · simp [qdq, lim]
end Go.Abs.W
