/- Parts of the proof: FpPcs, FpMtM, FpMtP. -/
import Derived.Test.YtnlmgfdifcflgaaGreatFi
import Derived.Test.YtnlmgfdifcflgaaGreatFp
/- The pieces of two pipes. -/
namespace Go.Abs.W
attribute [local simp] stpAppend
set_option maxRecDepth 100000

/-- The pieces: their ends, with the numbers of both segments. -/
def pcI (a b : Pp) : Nat → Nat → Nat → List (Dy × Nat × Nat)
 | 0, _, _ => []
 | f + 1, i, k => match a.segs[i]?, b.segs[k]? with
   | some s, some u => (if u.to.cmp s.to < 0 then u.to else s.to, i, k) ::
     pcI a b f (if (if u.to.cmp s.to < 0 then u.to else s.to).cmp s.to < 0 then i else i + 1) (if (if u.to.cmp s.to < 0 then u.to else s.to).cmp u.to < 0 then k else k + 1)
   | _, _ => []
def pcs (a b : Pp) : List (Dy × Nat × Nat) := pcI a b (a.segs.length + b.segs.length) 0 0
def pcE (x : Dy × Nat × Nat) : List V := [x.1.v, .agg [.int .i64 x.2.1, .int .i64 x.2.2]]

theorem pieces_cq (a b : Pp) : CQ prog g_pipe_pieces [a.v, b.v] (.fn g_pipe_pieces_1 [.eptr [ivs a.start, sgs a.segs], .eptr [ivs b.start, sgs b.segs]]) := by
 refine CQ_run rfl fun H => ?_
 simp [fin, capCs, capC, V.isCell, ivs, sgs]

theorem pcI_nil {a b : Pp} {f i k : Nat} (h : a.segs.length ≤ i ∨ b.segs.length ≤ k) : pcI a b f i k = [] := by
 cases f with
 | zero => rfl
 | succ f =>
   rcases h with h | h
   · simp [pcI, List.getElem?_eq_none h]
   · have : b.segs[k]? = none := List.getElem?_eq_none h
     rw [pcI, this]
     cases a.segs[i]? <;> rfl

theorem pieces_iter (a b : Pp) (wa : a.W) (wb : b.W) : prog.iter g_pipe_pieces_1 [.eptr [ivs a.start, sgs a.segs], .eptr [ivs b.start, sgs b.segs]] ((pcs a b).map pcE) := by
 refine iter_prog (f := c_pipe_pieces_1) rfl rfl fun T l seat => ?_
 have hsa := wa.len
 have hsb := wb.len
 show ItSem T _ l (.scope (.seq (.region false c_pipe_pieces_1_r0) (.seq .skip (.block 0 (.loop c_pipe_pieces_1_l0))))) _ _ _ _ _
 refine it_scope (it_then (fun E H j st => st = false ∧ j = 0 ∧ E 0 = .yld l ∧ E 1 = .eptr [ivs a.start, sgs a.segs] ∧ E 2 = .eptr [ivs b.start, sgs b.segs] ∧ E 4 = .int .i64 0 ∧ E 5 = .int .i64 0) (it_wk seat rfl (by simp)) ?_)
 intro E H j st h
 obtain ⟨rfl, rfl, h0, h1, h2, h4, h5⟩ := h
 refine it_then (fun E1 _ j1 st1 => st1 = false ∧ j1 = 0 ∧ E1 = E) (it_wk seat rfl (by simp)) ?_
 intro E1 H1 j1 st1 h
 obtain ⟨rfl, rfl, rfl⟩ := h
 refine it_block (it_loop (fun m E _ j st => st = false ∧ ∃ i k : Nat, E 0 = .yld l ∧ E 1 = .eptr [ivs a.start, sgs a.segs] ∧ E 2 = .eptr [ivs b.start, sgs b.segs] ∧ E 4 = .int .i64 i ∧ E 5 = .int .i64 k ∧ i ≤ a.segs.length ∧ k ≤ b.segs.length ∧
   a.segs.length + b.segs.length ≤ m + i + k ∧ (pcs a b).drop j = pcI a b m i k ∧ j ≤ (pcs a b).length) (a.segs.length + b.segs.length) ⟨rfl, 0, 0, h0, h1, h2, h4, h5, by omega, by omega, by omega, rfl, by omega⟩ ?_)
 intro m E H j st h
 obtain ⟨rfl, i, k, h0, h1, h2, h4, h5, hi, hk, hm, hd, hj⟩ := h
 simp only [sgs] at h1 h2
 have c1 : (i : Int) < a.segs.length ↔ i < a.segs.length := by omega
 have c2 : (k : Int) < b.segs.length ↔ k < b.segs.length := by omega
 by_cases hlt : i < a.segs.length ∧ k < b.segs.length
 · obtain ⟨hla, hlb⟩ := hlt
   obtain ⟨s, hs⟩ : ∃ s, a.segs[i]? = some s := ⟨_, List.getElem?_eq_getElem hla⟩
   have hs' : a.segs[i] = s := by rw [List.getElem?_eq_getElem hla] at hs; injection hs
   obtain ⟨u, hu⟩ : ∃ u, b.segs[k]? = some u := ⟨_, List.getElem?_eq_getElem hlb⟩
   have hu' : b.segs[k] = u := by rw [List.getElem?_eq_getElem hlb] at hu; injection hu
   have ws := (wa.at hs).to
   have wu := (wb.at hu).to
   obtain ⟨t, ht⟩ : ∃ t, t = if u.to.cmp s.to < 0 then u.to else s.to := ⟨_, rfl⟩
   have wt : t.W := by rw [ht]; split <;> assumption
   obtain ⟨m', rfl⟩ : ∃ m', m = m' + 1 := ⟨m - 1, by omega⟩
   have hp : pcI a b (m' + 1) i k = (t, i, k) :: pcI a b m' (if t.cmp s.to < 0 then i else i + 1) (if t.cmp u.to < 0 then k else k + 1) := by rw [ht]; simp only [pcI, hs, hu]
   rw [hp] at hd
   have hjl : j < (pcs a b).length := by
     rcases Nat.lt_or_ge j (pcs a b).length with h | h
     · exact h
     · rw [List.drop_of_length_le h] at hd; cases hd
   have hL : ((pcs a b).map pcE)[j]? = some [t.v, .agg [.int .i64 i, .int .i64 k]] := by
     have e1 : (pcs a b)[j]? = some (t, i, k) := by
       have := congrArg (·[0]?) hd
       simpa [List.getElem?_drop] using this
     rw [List.getElem?_map, e1]; rfl
   have hd' : (pcs a b).drop (j + 1) = pcI a b m' (if t.cmp s.to < 0 then i else i + 1) (if t.cmp u.to < 0 then k else k + 1) := by
     rw [← List.drop_drop, hd]; rfl
   refine it_then (fun E1 H1 j1 st1 => st1 = false ∧ j1 = j ∧ E1 0 = .yld l ∧ E1 1 = E 1 ∧ E1 2 = E 2 ∧ E1 4 = .int .i64 i ∧ E1 5 = .int .i64 k) (it_wk seat rfl ?_) ?_
   · simp [h0, h1, h2, h4, h5, c1, c2, hla, hlb]
   intro E1 H1 j1 st1 h
   obtain ⟨rfl, rfl, g0, g1, g2, g4, g5⟩ := h
   rw [h1] at g1
   rw [h2] at g2
   refine it_block (it_then (fun E2 H2 j2 st2 => st2 = false ∧ j2 = j1 ∧ E2 0 = .yld l ∧ E2 1 = E1 1 ∧ E2 2 = E1 2 ∧ E2 4 = .int .i64 i ∧ E2 5 = .int .i64 k ∧ E2 6 = .ptr H1.length 0 0 ∧ E2 7 = .ptr (H1.length + 1) 0 0 ∧
     H2 = H1 ++ [some ⟨3, [s.to.v], false, true⟩, some ⟨3, [u.to.v], false, true⟩]) (it_wk seat rfl ?_) ?_)
   · simp [g0, g1, g2, g4, g5, hla, hlb, hs', hu', apart]
   intro E2 H2 j2 st2 h
   obtain ⟨rfl, rfl, q0, q1, q2, q4, q5, q6, q7, rfl⟩ := h
   rw [g1] at q1
   rw [g2] at q2
   refine it_then (fun E3 H3 j3 st3 => st3 = false ∧ j3 = j2 ∧ E3 0 = .yld l ∧ E3 1 = E2 1 ∧ E3 2 = E2 2 ∧ E3 4 = .int .i64 i ∧ E3 5 = .int .i64 k ∧ E3 6 = .ptr H1.length 0 0 ∧ E3 7 = .ptr (H1.length + 1) 0 0 ∧ E3 8 = .ptr (H1.length + 2) 0 0 ∧ E3 9 = .ptr (H1.length + 3) 0 0 ∧
     H3 = H1 ++ [some ⟨3, [s.to.v], false, true⟩, some ⟨3, [u.to.v], false, true⟩, some ⟨3, [s.to.v], false, true⟩, some ⟨2, [.agg [.int .i64 i, .int .i64 k]], false, true⟩]) (it_wk seat rfl ?_) ?_
   · simp [q0, q1, q2, q4, q5, q6, q7]
   intro E3 H3 j3 st3 h
   obtain ⟨rfl, rfl, r0, r1, r2, r4, r5, r6, r7, r8, r9, rfl⟩ := h
   rw [q1] at r1
   rw [q2] at r2
   refine it_then (fun E4 H4 j4 st4 => st4 = false ∧ j4 = j3 ∧ E4 0 = .yld l ∧ E4 1 = E3 1 ∧ E4 2 = E3 2 ∧ E4 4 = .int .i64 i ∧ E4 5 = .int .i64 k ∧ E4 6 = .ptr H1.length 0 0 ∧ E4 7 = .ptr (H1.length + 1) 0 0 ∧ E4 8 = .ptr (H1.length + 2) 0 0 ∧ E4 9 = .ptr (H1.length + 3) 0 0 ∧
     H4 = H1 ++ [some ⟨3, [s.to.v], false, true⟩, some ⟨3, [u.to.v], false, true⟩, some ⟨3, [t.v], false, true⟩, some ⟨2, [.agg [.int .i64 i, .int .i64 k]], false, true⟩]) (it_wk seat rfl ?_) ?_
   · simp [r1, r2, r6, r7]
     refine WL_call rfl rfl rfl (less_cq u.to s.to wu ws) ?_
     by_cases hc : u.to.cmp s.to < 0
     · rw [if_pos hc] at ht
       simp [hc, ht, r0, r1, r2, r4, r5, r6, r7, r8, r9]
     · rw [if_neg hc] at ht
       simp [hc, ht, r0, r1, r2, r4, r5, r6, r7, r8, r9]
   intro E4 H4 j4 st4 h
   obtain ⟨rfl, rfl, p0, p1, p2, p4, p5, p6, p7, p8, p9, rfl⟩ := h
   rw [r1] at p1
   rw [r2] at p2
   refine it_seq (K1 := fun x E5 H5 j5 st5 => j5 = j4 + 1 ∧ ((x = .exit 0 ∧ st5 = true) ∨ (x = .normal ∧ st5 = false ∧ E5 0 = .yld l ∧ E5 1 = E4 1 ∧ E5 2 = E4 2 ∧ E5 4 = .int .i64 i ∧ E5 5 = .int .i64 k ∧ E5 6 = .ptr H1.length 0 0 ∧ E5 7 = .ptr (H1.length + 1) 0 0 ∧ E5 8 = .ptr (H1.length + 2) 0 0 ∧
     H5 = H1 ++ [some ⟨3, [s.to.v], false, true⟩, some ⟨3, [u.to.v], false, true⟩, some ⟨3, [t.v], false, true⟩, some ⟨2, [.agg [.int .i64 i, .int .i64 k]], false, true⟩]))) ?_ ?_ ?_
   · refine it_seq (K1 := fun x E5 H5 j5 st5 => x = .normal ∧ j5 = j4 + 1 ∧ E5 46 = .bool st5 ∧ E5 0 = .yld l ∧ E5 1 = E4 1 ∧ E5 2 = E4 2 ∧ E5 4 = .int .i64 i ∧ E5 5 = .int .i64 k ∧ E5 6 = .ptr H1.length 0 0 ∧ E5 7 = .ptr (H1.length + 1) 0 0 ∧ E5 8 = .ptr (H1.length + 2) 0 0 ∧
       H5 = H1 ++ [some ⟨3, [s.to.v], false, true⟩, some ⟨3, [u.to.v], false, true⟩, some ⟨3, [t.v], false, true⟩, some ⟨2, [.agg [.int .i64 i, .int .i64 k]], false, true⟩]) (it_yield_wl seat (l1 := [mV 42 0, oP 43 (.load true 3 (.t 8)), oP 44 (.load true 2 (.t 9))]) (l2 := [oP 46 (.un .not (.t 45))]) ?_) ?_ ?_
     · simp [p0, p1, p2, p4, p5, p6, p7, p8, p9, hL, V.pure]
     · intro E5 H5 j5 st5 h
       obtain ⟨_, rfl, n46, n0, n1, n2, n4, n5, n6, n7, n8, rfl⟩ := h
       refine it_cond n46 ?_
       cases st5 with
       | true => exact it_wk seat rfl (by simp)
       | false => exact it_wk seat rfl (by simp [n0, n1, n2, n4, n5, n6, n7, n8])
     · intro x E5 H5 j5 st5 hx h
       exact absurd h.1 hx
   · intro E5 H5 j5 st5 h
     obtain ⟨rfl, h⟩ := h
     rcases h with ⟨h, _⟩ | ⟨_, rfl, n0, n1, n2, n4, n5, n6, n7, n8, rfl⟩
     · cases h
     rw [p1] at n1
     rw [p2] at n2
     have f1 : IntKind.i64.wrap ((i : Int) + 1) = ((i + 1 : Nat) : Int) := by rw [wrap_i64] <;> omega
     have f2 : IntKind.i64.wrap ((k : Int) + 1) = ((k + 1 : Nat) : Int) := by rw [wrap_i64] <;> omega
     refine it_wk seat rfl ?_
     simp [n6, n8]
     refine WL_call rfl rfl rfl (less_cq t s.to wt ws) ?_
     by_cases ha : t.cmp s.to < 0 <;> by_cases hb : t.cmp u.to < 0 <;> simp only [ha, hb, if_true, if_false] at hd'
     · exfalso
       rw [ht] at ha hb
       split at ha
       · rw [if_pos (by assumption), cmp_self] at hb; omega
       · rw [cmp_self] at ha; omega
     · simp [ha, n7, n8]
       refine WL_call rfl rfl rfl (less_cq t u.to wt wu) ?_
       simp [hb, n0, n1, n2, n4, n5, f2]
       exact ⟨m', by omega, rfl, rfl, i, rfl, k + 1, by omega, by omega, by omega, by omega, hd', by omega⟩
     · simp [ha, n4, n7, n8]
       refine WL_call rfl rfl rfl (less_cq t u.to wt wu) ?_
       simp [hb, n0, n1, n2, n5, f1]
       exact ⟨m', by omega, rfl, rfl, i + 1, by omega, k, rfl, by omega, by omega, by omega, hd', by omega⟩
     · simp [ha, n4, n7, n8]
       refine WL_call rfl rfl rfl (less_cq t u.to wt wu) ?_
       simp [hb, n0, n1, n2, n5, f1, f2]
       exact ⟨m', by omega, rfl, rfl, i + 1, by omega, k + 1, by omega, by omega, by omega, by omega, hd', by omega⟩
   · intro x E5 H5 j5 st5 hx h
     obtain ⟨rfl, h⟩ := h
     rcases h with ⟨rfl, rfl⟩ | ⟨rfl, _⟩
     · simp
     · exact absurd rfl hx
 · have hge : a.segs.length ≤ i ∨ b.segs.length ≤ k := by omega
   refine it_seq (K1 := fun x _ _ j1 st1 => x = .exit 0 ∧ j1 = j ∧ st1 = false) (it_wk seat rfl ?_) ?_ ?_
   · by_cases hla : i < a.segs.length
     · have hlb : ¬ k < b.segs.length := by omega
       simp [h1, h2, h4, h5, c1, c2, hla, hlb]
     · simp [h1, h4, c1, hla]
   · intro E2 H2 k2 st2 h
     cases h.1
   · intro x E2 H2 k2 st2 hx h
     obtain ⟨rfl, rfl, rfl⟩ := h
     rw [pcI_nil hge] at hd
     have := congrArg List.length hd
     simp at this
     simp
     omega

end Go.Abs.W

/- Segments of a valid pipe by number; what two boxes have in common. -/
namespace Go.Abs.W

structure SgF (p : Pp) (i : Nat) (s : Sg) : Prop where
 fr : s.fr.Ok
 to : s.to.Ok
 lt : s.fr.val < s.to.val
 tb : boxOk s.tube = true
 ln : s.tube.length = p.start.length
 en : boxIns s.en s.tube = true
 bf : boxIns (p.bef i) s.tube = true
 lk : ∀ j q, i = j + 1 → p.segs[j]? = some q → s.fr = q.to

section
variable {p : Pp}

theorem seg_f (w : p.W) (hv : p.valid = true) {i : Nat} {s : Sg} (hs : p.segs[i]? = some s) : SgF p i s := by
 have h := Pp.okAt (Pp.validSegs hv) hs
 obtain ⟨o1, o2⟩ := segAt_fr (w.at hs) h
 obtain ⟨t1, t2⟩ := segAt_tube h
 simp only [Pp.segAt, Bool.and_eq_true, decide_eq_true_eq] at h
 obtain ⟨⟨⟨⟨⟨⟨k1, k2⟩, k3⟩, k4⟩, k5⟩, k6⟩, k7⟩ := h
 refine ⟨o1, o2, (cmp_lt k1 k2).1 k3, t1, t2, k6, k7, fun j q hj hq => ?_⟩
 subst hj
 simp only [Pp.lnk, hq, Option.elim_some, decide_eq_true_eq] at k5
 exact (cmp_zero o1 (segAt_fr (w.at hq) (Pp.okAt (Pp.validSegs hv) hq)).2).1 k5

theorem seg_le (w : p.W) (hv : p.valid = true) {i : Nat} {s : Sg} (hs : p.segs[i]? = some s) : ∀ {j : Nat} {q : Sg}, i < j → p.segs[j]? = some q → s.to.val ≤ q.fr.val
 | 0, q, h, hq => by omega
 | j + 1, q, h, hq => by
   obtain ⟨r, hr⟩ : ∃ r, p.segs[j]? = some r := ⟨_, List.getElem?_eq_getElem (by have := (List.getElem?_eq_some_iff.1 hq).1; omega)⟩
   have e := (seg_f w hv hq).lk j r rfl hr
   rw [e]
   rcases Nat.lt_or_ge i j with h1 | h1
   · have := seg_le w hv hs h1 hr
     have := (seg_f w hv hr).lt
     omega
   · have : j = i := by omega
     subst this
     rw [hs] at hr; injection hr with hr; rw [hr]; exact Int.le_refl _

theorem seg_first (w : p.W) (hv : p.valid = true) {i : Nat} {s s0 : Sg} (h0 : p.segs[0]? = some s0) (hs : p.segs[i]? = some s) : s0.fr.val ≤ s.fr.val := by
 cases i with
 | zero => rw [h0] at hs; injection hs with hs; rw [hs]; exact Int.le_refl _
 | succ i =>
   have := seg_le w hv h0 (Nat.succ_pos i) hs
   have := (seg_f w hv h0).lt
   omega

theorem seg_last (w : p.W) (hv : p.valid = true) {i : Nat} {s z : Sg} (hs : p.segs[i]? = some s) (hz : p.segs[p.segs.length - 1]? = some z) : s.to.val ≤ z.to.val := by
 have hi := (List.getElem?_eq_some_iff.1 hs).1
 rcases Nat.lt_or_ge i (p.segs.length - 1) with h | h
 · have := seg_le w hv hs h hz
   have := (seg_f w hv hz).lt
   omega
 · have : i = p.segs.length - 1 := by omega
   subst this
   rw [hs] at hz; injection hz with hz; rw [hz]; exact Int.le_refl _

theorem seg_during (w : p.W) (hv : p.valid = true) {i : Nat} {s : Sg} (hs : p.segs[i]? = some s) {t : Dy} (ot : t.Ok) (h1 : s.fr.val ≤ t.val) (h2 : t.val ≤ s.to.val) : p.during t = true := by
 have hi := (List.getElem?_eq_some_iff.1 hs).1
 obtain ⟨s0, h0⟩ : ∃ s0, p.segs[0]? = some s0 := ⟨_, List.getElem?_eq_getElem (by omega)⟩
 obtain ⟨z, hz⟩ : ∃ z, p.segs[p.segs.length - 1]? = some z := ⟨_, List.getElem?_eq_getElem (by omega)⟩
 have f0 := seg_f w hv h0
 have fz := seg_f w hv hz
 have g1 := seg_first w hv h0 hs
 have g2 := seg_last w hv hs hz
 unfold Pp.during
 rw [h0, hz]
 have c1 := cmp_lt ot.valid f0.fr.valid
 have c2 := cmp_lt fz.to.valid ot.valid
 simp only [Bool.and_eq_true, Bool.not_eq_true', decide_eq_false_iff_not, c1, c2]
 omega

/-- The segment in which a time lies. -/
theorem seg_find (w : p.W) (hv : p.valid = true) {s0 : Sg} (h0 : p.segs[0]? = some s0) {t : Dy} (ot : t.Ok) (hd : p.during t = true) (hne : s0.fr.val ≠ t.val) : ∃ (i : Nat) (s : Sg), p.segs[i]? = some s ∧ s.fr.val < t.val ∧ t.val ≤ s.to.val := by
 obtain ⟨_, i, hi⟩ := during_num hd
 obtain ⟨hlt, hg1, hg2⟩ := List.findIdx?_eq_some_iff_getElem.1 hi
 have hs : p.segs[i]? = some p.segs[i] := List.getElem?_eq_getElem hlt
 have f := seg_f w hv hs
 simp only [Bool.not_eq_true', decide_eq_false_iff_not] at hg1
 rw [cmp_lt f.to.valid ot.valid] at hg1
 refine ⟨i, _, hs, ?_, by omega⟩
 cases i with
 | zero =>
   rw [h0] at hs
   injection hs with hs
   rw [← hs]
   unfold Pp.during at hd
   obtain ⟨z, hz⟩ : ∃ z, p.segs[p.segs.length - 1]? = some z := ⟨_, List.getElem?_eq_getElem (by omega)⟩
   rw [h0, hz] at hd
   simp only [Bool.and_eq_true, Bool.not_eq_true', decide_eq_false_iff_not] at hd
   rw [cmp_lt ot.valid (seg_f w hv h0).fr.valid] at hd
   omega
 | succ j =>
   have hq : p.segs[j]? = some p.segs[j] := List.getElem?_eq_getElem (by omega)
   have e := f.lk j _ rfl hq
   have := hg2 j (by omega)
   simp only [Bool.not_eq_true', decide_eq_false_iff_not, Decidable.not_not] at this
   rw [cmp_lt (seg_f w hv hq).to.valid ot.valid] at this
   rw [e]; exact this

theorem at_sg (w : p.W) (hv : p.valid = true) {i : Nat} {s : Sg} (hs : p.segs[i]? = some s) {t : Dy} (ot : t.Ok) (h1 : s.fr.val < t.val) (h2 : t.val ≤ s.to.val) : p.at t = if t.val < s.to.val then s.tube else s.en := by
 have hi := (List.getElem?_eq_some_iff.1 hs).1
 obtain ⟨s0, h0⟩ : ∃ s0, p.segs[0]? = some s0 := ⟨_, List.getElem?_eq_getElem (by omega)⟩
 have f0 := seg_f w hv h0
 have f := seg_f w hv hs
 have g1 := seg_first w hv h0 hs
 have hn : (p.segs.findIdx? fun s => !decide (s.to.cmp t < 0)) = some i := by
   rw [List.findIdx?_eq_some_iff_getElem]
   refine ⟨hi, ?_, fun j hj => ?_⟩
   · have e : p.segs[i] = s := by rw [List.getElem?_eq_getElem hi] at hs; injection hs
     rw [e, Bool.not_eq_true', decide_eq_false_iff_not, cmp_lt f.to.valid ot.valid]
     omega
   · have hq : p.segs[j]? = some p.segs[j] := List.getElem?_eq_getElem (by omega)
     have := seg_le w hv hq hj hs
     simp only [Bool.not_eq_true', decide_eq_false_iff_not, Decidable.not_not, cmp_lt (seg_f w hv hq).to.valid ot.valid]
     omega
 have hnum : p.num t = i := by simp [Pp.num, hn]
 have hne : ¬ t.cmp s0.fr = 0 := by
   rw [cmp_zero ot f0.fr]
   intro e
   rw [e] at h1
   omega
 unfold Pp.at
 rw [h0, hnum, hs]
 simp only [hne, if_false, cmp_lt ot.valid f.to.valid]

theorem at_first {s0 : Sg} (h0 : p.segs[0]? = some s0) (hd : p.during s0.fr = true) : p.at s0.fr = p.start := by
 obtain ⟨_, i, hi⟩ := during_num hd
 obtain ⟨hlt, _⟩ := List.findIdx?_eq_some_iff_getElem.1 hi
 have hnum : p.num s0.fr = i := by simp [Pp.num, hi]
 unfold Pp.at
 rw [h0, hnum, List.getElem?_eq_getElem hlt]
 simp only [cmp_self, if_true]

theorem at_sub (w : p.W) (hv : p.valid = true) {i : Nat} {s : Sg} (hs : p.segs[i]? = some s) {t : Dy} (ot : t.Ok) (h1 : s.fr.val ≤ t.val) (h2 : t.val ≤ s.to.val) : boxIns (p.at t) s.tube = true := by
 have f := seg_f w hv hs
 by_cases h : s.fr.val = t.val
 · have e : s.fr = t := val_inj f.fr ot h
   subst e
   cases i with
   | zero =>
     rw [at_first hs (seg_during w hv hs ot h1 h2)]
     exact f.bf
   | succ j =>
     have hi := (List.getElem?_eq_some_iff.1 hs).1
     have hq : p.segs[j]? = some p.segs[j] := List.getElem?_eq_getElem (by omega)
     have fq := seg_f w hv hq
     have e := f.lk j _ rfl hq
     rw [e, at_sg w hv hq fq.to fq.lt (Int.le_refl _), if_neg (by omega)]
     have := f.bf
     simp only [Pp.bef, hq, Option.elim_some] at this
     exact this
 · rw [at_sg w hv hs ot (by omega) h2]
   split
   · exact boxIns_refl f.tb
   · exact f.en

theorem ovL_none {a b : Dy} : ∀ {l : List Sg} {acc : Option (List Iv)}, (∀ s ∈ l, ¬ (s.fr.cmp b < 0 ∧ a.cmp s.to < 0)) → ovL a b acc l = acc
 | [], _, _ => rfl
 | s :: l, acc, h => by rw [ovL, if_neg (h s (by simp))]; exact ovL_none fun x hx => h x (by simp [hx])

theorem ovL_append {a b : Dy} {m : List Sg} : ∀ {l : List Sg} {acc : Option (List Iv)}, ovL a b acc (l ++ m) = ovL a b (ovL a b acc l) m
 | [], _ => rfl
 | s :: l, acc => by
   simp only [List.cons_append, ovL]
   split <;> exact ovL_append

theorem over_seg (w : p.W) (hv : p.valid = true) {i : Nat} {s : Sg} (hs : p.segs[i]? = some s) {a b : Dy} (oa : a.Ok) (ob : b.Ok) (h1 : s.fr.val ≤ a.val) (h2 : a.val < b.val) (h3 : b.val ≤ s.to.val) : p.over a b = s.tube := by
 have hi := (List.getElem?_eq_some_iff.1 hs).1
 have f := seg_f w hv hs
 have hne : ¬ a.cmp b = 0 := by
   rw [cmp_zero oa ob]
   intro e; rw [e] at h2; omega
 rw [Pp.over, if_neg hne]
 have e : p.segs = p.segs.take i ++ s :: p.segs.drop (i + 1) := by
   rw [List.getElem?_eq_getElem hi] at hs
   injection hs with hs
   rw [← hs, List.getElem_cons_drop, List.take_append_drop]
 have h4 : ovL a b none (p.segs.take i) = none := ovL_none fun x hx => by
   obtain ⟨j, hj⟩ := List.getElem?_of_mem hx
   have hji : j < i := by have := (List.getElem?_eq_some_iff.1 hj).1; simp at this; omega
   rw [List.getElem?_take_of_lt hji] at hj
   have := seg_le w hv hj hji hs
   rw [cmp_lt oa.valid (seg_f w hv hj).to.valid]
   omega
 have h5 : ∀ acc, ovL a b acc (p.segs.drop (i + 1)) = acc := fun acc => ovL_none fun x hx => by
   obtain ⟨j, hj⟩ := List.getElem?_of_mem hx
   rw [List.getElem?_drop] at hj
   have := seg_le w hv hs (by omega) hj
   rw [cmp_lt (seg_f w hv hj).fr.valid ob.valid]
   omega
 rw [e, ovL_append, h4, ovL, if_pos ⟨(cmp_lt f.fr.valid ob.valid).2 (by omega), (cmp_lt oa.valid f.to.valid).2 (by omega)⟩, h5]
 rfl
end

theorem hi2_v {a b : Dy} (ha : a.valid = true) (hb : b.valid = true) : (a.hi2 b).valid = true ∧ a.val ≤ (a.hi2 b).val ∧ b.val ≤ (a.hi2 b).val ∧ ((a.hi2 b).val = a.val ∨ (a.hi2 b).val = b.val) := by
 unfold Dy.hi2
 have c := cmp_lt ha hb
 split
 · exact ⟨ha, Int.le_refl _, by omega, .inl rfl⟩
 · exact ⟨hb, by omega, Int.le_refl _, .inr rfl⟩

theorem lo2_v {a b : Dy} (ha : a.valid = true) (hb : b.valid = true) : (a.lo2 b).valid = true ∧ (a.lo2 b).val ≤ a.val ∧ (a.lo2 b).val ≤ b.val ∧ ((a.lo2 b).val = a.val ∨ (a.lo2 b).val = b.val) := by
 unfold Dy.lo2
 have c : a.cmp b ≤ 0 ↔ a.val ≤ b.val := by rw [cmp_val ha hb, cmpI_le_iff]
 split
 · exact ⟨ha, Int.le_refl _, by omega, .inl rfl⟩
 · exact ⟨hb, by omega, Int.le_refl _, .inr rfl⟩

theorem known_v {x : Iv} (h : x.known = true) : x.all = false ∧ x.valid = true ∧ x.lo.valid = true ∧ x.hi.valid = true ∧ x.lo.val ≤ x.hi.val := by
 have h' := h
 simp [Iv.known] at h
 obtain ⟨a1, a2⟩ := h
 have a3 := a2
 simp [Iv.valid, a1] at a3
 obtain ⟨⟨b1, b2⟩, b3⟩ := a3
 rw [cmp_val b1 b2, cmpI_le_iff] at b3
 exact ⟨a1, a2, b1, b2, b3⟩

theorem ins_v {x y : Iv} (hx : x.known = true) (hy : y.known = true) : x.ins y = true ↔ y.lo.val ≤ x.lo.val ∧ x.hi.val ≤ y.hi.val := by
 obtain ⟨a1, a2, a3, a4, a5⟩ := known_v hx
 obtain ⟨b1, b2, b3, b4, b5⟩ := known_v hy
 simp only [Iv.ins, a1, a2, b1, b2, Bool.and_self, Bool.false_or, Bool.not_false, Bool.true_and, Bool.and_eq_true, decide_eq_true_eq]
 rw [cmp_val b3 a3, cmpI_le_iff, cmp_val a4 b4, cmpI_le_iff]

theorem meet_v {x y z : Iv} (hx : x.known = true) (hy : y.known = true) (h : x.meet y = some z) : z.known = true ∧ x.lo.val ≤ z.lo.val ∧ y.lo.val ≤ z.lo.val ∧ (z.lo.val = x.lo.val ∨ z.lo.val = y.lo.val) ∧ z.hi.val ≤ x.hi.val ∧ z.hi.val ≤ y.hi.val ∧ (z.hi.val = x.hi.val ∨ z.hi.val = y.hi.val) := by
 obtain ⟨a1, a2, a3, a4, a5⟩ := known_v hx
 obtain ⟨b1, b2, b3, b4, b5⟩ := known_v hy
 obtain ⟨c1, c2, c3, c4⟩ := hi2_v a3 b3
 obtain ⟨d1, d2, d3, d4⟩ := lo2_v a4 b4
 unfold Iv.meet at h
 simp only [a1, a2, b1, b2, Bool.and_self, if_true, Bool.false_eq_true, if_false] at h
 split at h
 · cases h
 · rename_i hc
   injection h with h
   subst h
   have e : (x.lo.hi2 y.lo).cmp (x.hi.lo2 y.hi) ≤ 0 := by omega
   exact ⟨by simp [Iv.known, Iv.valid, c1, d1, e], c2, c3, c4, d2, d3, d4⟩

theorem meetL_all : ∀ {l m r : List Iv}, l.length = m.length → l.all Iv.known = true → m.all Iv.known = true → meetL l m = some r → r.length = l.length ∧ r.all Iv.known = true ∧ allB Iv.ins r l = true ∧ allB Iv.ins r m = true
 | [], [], r, _, _, _, h => by simp [meetL] at h; subst h; simp [allB]
 | x :: l, y :: m, r, hl, h1, h2, h => by
   simp only [meetL, Option.bind_eq_some_iff, Option.map_eq_some_iff] at h
   obtain ⟨z, g1, r', g2, rfl⟩ := h
   simp only [List.all_cons, Bool.and_eq_true] at h1 h2
   obtain ⟨k1, k2, k3, k4⟩ := meetL_all (by simpa using hl) h1.2 h2.2 g2
   obtain ⟨m1, m2, m3, m4, m5, m6, m7⟩ := meet_v h1.1 h2.1 g1
   refine ⟨by simp [k1], by simp only [List.all_cons, m1, k2, Bool.and_self], ?_, ?_⟩
   · simp only [allB, k3, Bool.and_true]; exact (ins_v m1 h1.1).2 ⟨m2, m5⟩
   · simp only [allB, k4, Bool.and_true]; exact (ins_v m1 h2.1).2 ⟨m3, m6⟩

theorem meetL_mono : ∀ {l m l' m' r r' : List Iv}, l.length = m.length → l.length = l'.length → m.length = m'.length → l.all Iv.known = true → m.all Iv.known = true → l'.all Iv.known = true → m'.all Iv.known = true → allB Iv.ins l l' = true → allB Iv.ins m m' = true →
   meetL l m = some r → meetL l' m' = some r' → allB Iv.ins r r' = true
 | [], [], [], [], r, r', _, _, _, _, _, _, _, _, _, h, h' => by simp [meetL] at h h'; subst h; subst h'; rfl
 | x :: l, y :: m, x' :: l', y' :: m', r, r', e1, e2, e3, h1, h2, h3, h4, i1, i2, h, h' => by
   simp only [meetL, Option.bind_eq_some_iff, Option.map_eq_some_iff] at h h'
   obtain ⟨z, g1, r, g2, rfl⟩ := h
   obtain ⟨z', g1', r', g2', rfl⟩ := h'
   simp only [List.all_cons, Bool.and_eq_true] at h1 h2 h3 h4
   simp only [allB, Bool.and_eq_true] at i1 i2
   have k := meetL_mono (by simpa using e1) (by simpa using e2) (by simpa using e3) h1.2 h2.2 h3.2 h4.2 i1.2 i2.2 g2 g2'
   obtain ⟨m1, m2, m3, m4, m5, m6, m7⟩ := meet_v h1.1 h2.1 g1
   obtain ⟨n1, n2, n3, n4, n5, n6, n7⟩ := meet_v h3.1 h4.1 g1'
   have j1 := (ins_v h1.1 h3.1).1 i1.1
   have j2 := (ins_v h2.1 h4.1).1 i2.1
   simp only [allB, k, Bool.and_true]
   refine (ins_v m1 n1).2 ⟨?_, ?_⟩
   · rcases n4 with h | h <;> omega
   · rcases n7 with h | h <;> omega

theorem boxMeet_f {a b r : List Iv} (h : boxMeet a b = some r) : boxOk a = true ∧ boxOk b = true ∧ a.length = b.length ∧ meetL a b = some r ∧ boxOk r = true ∧ r.length = a.length ∧ boxIns r a = true ∧ boxIns r b = true := by
 unfold boxMeet at h
 split at h
 · rename_i hc
   simp only [Bool.and_eq_true, decide_eq_true_eq] at hc
   obtain ⟨⟨h1, h2⟩, h3⟩ := hc
   have k1 := boxOk_iff.1 h1
   have k2 := boxOk_iff.1 h2
   obtain ⟨m1, m2, m3, m4⟩ := meetL_all h3 k1.2.2 k2.2.2 h
   have hr : boxOk r = true := boxOk_iff.2 ⟨by omega, by omega, m2⟩
   exact ⟨h1, h2, h3, h, hr, m1, by simp [boxIns, hr, h1, m1, m3], by simp [boxIns, hr, h2, m1, h3, m4]⟩
 · cases h

theorem boxMeet_mono {a b a' b' r r' : List Iv} (ha : boxIns a a' = true) (hb : boxIns b b' = true) (h : boxMeet a b = some r) (h' : boxMeet a' b' = some r') : boxIns r r' = true := by
 obtain ⟨a1, a2, a3, a4, a5, a6, _, _⟩ := boxMeet_f h
 obtain ⟨b1, b2, b3, b4, b5, b6, _, _⟩ := boxMeet_f h'
 simp only [boxIns, Bool.and_eq_true, decide_eq_true_eq] at ha hb
 have := meetL_mono a3 ha.1.2 hb.1.2 (boxOk_iff.1 a1).2.2 (boxOk_iff.1 a2).2.2 (boxOk_iff.1 b1).2.2 (boxOk_iff.1 b2).2.2 ha.2 hb.2 a4 b4
 simp [boxIns, a5, b5, this]
 omega

theorem boxIns_len {a b : List Iv} (h : boxIns a b = true) : boxOk a = true ∧ boxOk b = true ∧ a.length = b.length := by
 simp only [boxIns, Bool.and_eq_true, decide_eq_true_eq] at h
 exact ⟨h.1.1.1, h.1.1.2, h.1.2⟩

end Go.Abs.W

/- The pipe that two pipes have in common: it is valid, and inside of both. -/
namespace Go.Abs.W

/-- What a piece is. -/
structure Pc (a b : Pp) (from' t : Dy) (i k : Nat) : Prop where
 ex : ∃ (s u : Sg), a.segs[i]? = some s ∧ b.segs[k]? = some u ∧ s.fr.val ≤ from'.val ∧ t.val ≤ s.to.val ∧ u.fr.val ≤ from'.val ∧ t.val ≤ u.to.val
 fo : from'.Ok
 to : t.Ok
 lt : from'.val < t.val

def PcOk (a b : Pp) : Dy → List (Dy × Nat × Nat) → Prop
 | _, [] => True
 | from', (t, i, k) :: l => Pc a b from' t i k ∧ PcOk a b t l

/-- Where the walk through both pipes stands. -/
structure At2 (a b : Pp) (from' : Dy) (i k : Nat) : Prop where
 fo : from'.Ok
 ia : i ≤ a.segs.length
 kb : k ≤ b.segs.length
 sa : ∀ s, a.segs[i]? = some s → s.fr.val ≤ from'.val ∧ from'.val < s.to.val
 sb : ∀ u, b.segs[k]? = some u → u.fr.val ≤ from'.val ∧ from'.val < u.to.val
 ea : ∀ z, i = a.segs.length → a.segs[a.segs.length - 1]? = some z → z.to.val ≤ from'.val
 eb : ∀ z, k = b.segs.length → b.segs[b.segs.length - 1]? = some z → z.to.val ≤ from'.val

/-- The walk's next step in one pipe. -/
theorem next_sg {p : Pp} (w : p.W) (hv : p.valid = true) {i : Nat} {s : Sg} (hs : p.segs[i]? = some s) {from' t : Dy} (ot : t.Ok) (h1 : s.fr.val ≤ from'.val) (h2 : from'.val < t.val) (h3 : t.val ≤ s.to.val) :
   (if t.cmp s.to < 0 then i else i + 1) ≤ p.segs.length ∧ (∀ q, p.segs[if t.cmp s.to < 0 then i else i + 1]? = some q → q.fr.val ≤ t.val ∧ t.val < q.to.val) ∧
   (∀ z, (if t.cmp s.to < 0 then i else i + 1) = p.segs.length → p.segs[p.segs.length - 1]? = some z → z.to.val ≤ t.val) := by
 have hi := (List.getElem?_eq_some_iff.1 hs).1
 have f := seg_f w hv hs
 have c := cmp_lt ot.valid f.to.valid
 by_cases h : t.cmp s.to < 0
 · simp only [h, if_true]
   rw [c] at h
   refine ⟨by omega, fun q hq => ?_, fun z hz => by omega⟩
   rw [hs] at hq; injection hq with hq; subst hq
   omega
 · simp only [h, if_false]
   rw [c] at h
   refine ⟨by omega, fun q hq => ?_, fun z hz hz' => ?_⟩
   · have e := (seg_f w hv hq).lk i s rfl hs
     have := (seg_f w hv hq).lt
     rw [e] at this ⊢
     omega
   · have : i = p.segs.length - 1 := by omega
     rw [← this, hs] at hz'
     injection hz' with hz'
     rw [← hz']; omega

theorem at2_next {a b : Pp} (wa : a.W) (wb : b.W) (va : a.valid = true) (vb : b.valid = true) {from' : Dy} {i k : Nat} (h : At2 a b from' i k) {s u : Sg} (hs : a.segs[i]? = some s) (hu : b.segs[k]? = some u) {t : Dy} (ht : t = if u.to.cmp s.to < 0 then u.to else s.to) :
   Pc a b from' t i k ∧ At2 a b t (if t.cmp s.to < 0 then i else i + 1) (if t.cmp u.to < 0 then k else k + 1) := by
 have fs := seg_f wa va hs
 have fu := seg_f wb vb hu
 have g1 := h.sa s hs
 have g2 := h.sb u hu
 have c := cmp_lt fu.to.valid fs.to.valid
 have ot : t.Ok := by rw [ht]; split <;> first | exact fu.to | exact fs.to
 have hv : t.val ≤ s.to.val ∧ t.val ≤ u.to.val ∧ from'.val < t.val := by
   rw [ht]; split
   · rename_i q; rw [c] at q; omega
   · rename_i q; rw [c] at q; omega
 obtain ⟨n1, n2, n3⟩ := next_sg wa va hs ot g1.1 hv.2.2 hv.1
 obtain ⟨m1, m2, m3⟩ := next_sg wb vb hu ot g2.1 hv.2.2 hv.2.1
 exact ⟨⟨⟨s, u, hs, hu, g1.1, hv.1, g2.1, hv.2.1⟩, h.fo, ot, hv.2.2⟩, ⟨ot, n1, m1, n2, m2, n3, m3⟩⟩

theorem pcI_ok {a b : Pp} (wa : a.W) (wb : b.W) (va : a.valid = true) (vb : b.valid = true) : ∀ (f : Nat) {from' : Dy} {i k : Nat}, At2 a b from' i k → PcOk a b from' (pcI a b f i k)
 | 0, _, _, _, _ => trivial
 | f + 1, from', i, k, h => by
   rw [pcI]
   cases hs : a.segs[i]? with
   | none => cases b.segs[k]? <;> trivial
   | some s =>
     cases hu : b.segs[k]? with
     | none => trivial
     | some u =>
       obtain ⟨h1, h2⟩ := at2_next wa wb va vb h hs hu rfl
       exact ⟨h1, pcI_ok wa wb va vb f h2⟩

def tubeOf (p : Pp) (i : Nat) : List Iv := (p.segs[i]?).elim [] Sg.tube

/-- The segments, and whether there are such. -/
def mtS (a b : Pp) : Dy → List (Dy × Nat × Nat) → List Sg
 | _, [] => []
 | from', (t, i, k) :: l => ⟨from', t, (boxMeet (tubeOf a i) (tubeOf b k)).getD [], (boxMeet (a.at t) (b.at t)).getD []⟩ :: mtS a b t l
def mtOk (a b : Pp) : List (Dy × Nat × Nat) → Bool
 | [] => true
 | (t, i, k) :: l => (boxMeet (tubeOf a i) (tubeOf b k)).isSome && (boxMeet (a.at t) (b.at t)).isSome && mtOk a b l

theorem mtS_len {a b : Pp} : ∀ {l : List (Dy × Nat × Nat)} {from' : Dy}, (mtS a b from' l).length = l.length
 | [], _ => rfl
 | (t, i, k) :: l, _ => by simp [mtS, mtS_len (l := l)]

theorem boxMeet_W {a b r : List Iv} (wa : BxW a) (wb : BxW b) (h : boxMeet a b = some r) : BxW r := by
 have f := boxMeet_f h
 have := meetL_W wa.all wb.all f.2.2.2.1
 exact ⟨by rw [f.2.2.2.2.2.1]; exact wa.len, this.1⟩

theorem getD_W {a b : List Iv} (wa : BxW a) (wb : BxW b) : BxW ((boxMeet a b).getD []) := by
 cases h : boxMeet a b with
 | none => exact ⟨by simp, by simp⟩
 | some r => exact boxMeet_W wa wb h

theorem tubeOf_W {p : Pp} (w : p.W) (i : Nat) : BxW (tubeOf p i) := by
 unfold tubeOf
 cases h : p.segs[i]? with
 | none => exact ⟨by simp, by simp⟩
 | some s => exact (w.at h).tube

theorem mtS_W {a b : Pp} (wa : a.W) (wb : b.W) : ∀ {l : List (Dy × Nat × Nat)} {from' : Dy}, PcOk a b from' l → ∀ g ∈ mtS a b from' l, g.W
 | [], _, _, g, hg => by simp [mtS] at hg
 | (t, i, k) :: l, from', h, g, hg => by
   rcases List.mem_cons.1 hg with rfl | hg
   · exact ⟨h.1.fo.w, h.1.to.w, getD_W (tubeOf_W wa i) (tubeOf_W wb k), getD_W (at_W wa) (at_W wb)⟩
   · exact mtS_W wa wb h.2 g hg

/-- A segment within one of another pipe's. -/
structure Cov (p : Pp) (g : Sg) : Prop where
 fo : g.fr.Ok
 to : g.to.Ok
 lt : g.fr.val < g.to.val
 ex : ∃ (i : Nat) (s : Sg), p.segs[i]? = some s ∧ s.fr.val ≤ g.fr.val ∧ g.to.val ≤ s.to.val ∧ boxIns g.tube s.tube = true
 en : boxIns g.en (p.at g.to) = true

theorem mtS_cov {a b : Pp} (wa : a.W) (wb : b.W) (va : a.valid = true) (vb : b.valid = true) : ∀ {l : List (Dy × Nat × Nat)} {from' : Dy}, PcOk a b from' l → mtOk a b l = true → ∀ g ∈ mtS a b from' l, Cov a g ∧ Cov b g
 | [], _, _, _, g, hg => by simp [mtS] at hg
 | (t, i, k) :: l, from', h, hok, g, hg => by
   simp only [mtOk, Bool.and_eq_true, Option.isSome_iff_exists] at hok
   obtain ⟨⟨⟨T, hT⟩, ⟨En, hE⟩⟩, hok⟩ := hok
   rcases List.mem_cons.1 hg with rfl | hg
   · obtain ⟨⟨s, u, hs, hu, g1, g2, g3, g4⟩, fo, ot, lt⟩ := h.1
     have e1 : tubeOf a i = s.tube := by simp [tubeOf, hs]
     have e2 : tubeOf b k = u.tube := by simp [tubeOf, hu]
     rw [hT, hE]
     rw [e1, e2] at hT
     have fT := boxMeet_f hT
     have fE := boxMeet_f hE
     exact ⟨⟨fo, ot, lt, ⟨i, s, hs, g1, g2, fT.2.2.2.2.2.2.1⟩, fE.2.2.2.2.2.2.1⟩, ⟨fo, ot, lt, ⟨k, u, hu, g3, g4, fT.2.2.2.2.2.2.2⟩, fE.2.2.2.2.2.2.2⟩⟩
   · exact mtS_cov wa wb va vb h.2 hok g hg

theorem mtS_from {a b : Pp} (wa : a.W) (wb : b.W) (va : a.valid = true) (vb : b.valid = true) : ∀ {l : List (Dy × Nat × Nat)} {from' : Dy} {bef : List Iv} {prev : Option Dy}, PcOk a b from' l → mtOk a b l = true → boxMeet (a.at from') (b.at from') = some bef →
   (∀ q, prev = some q → q = from') → okFrom a.start.length bef prev (mtS a b from' l) = true
 | [], _, _, _, _, _, _, _ => rfl
 | (t, i, k) :: l, from', bef, prev, h, hok, hb, hp => by
   simp only [mtOk, Bool.and_eq_true, Option.isSome_iff_exists] at hok
   obtain ⟨⟨⟨T, hT⟩, ⟨En, hE⟩⟩, hok⟩ := hok
   obtain ⟨⟨s, u, hs, hu, g1, g2, g3, g4⟩, fo, ot, lt⟩ := h.1
   have e1 : tubeOf a i = s.tube := by simp [tubeOf, hs]
   have e2 : tubeOf b k = u.tube := by simp [tubeOf, hu]
   rw [mtS, hT, hE]
   rw [e1, e2] at hT
   have fT := boxMeet_f hT
   have fs := seg_f wa va hs
   simp only [okFrom, Option.getD_some, Bool.and_eq_true]
   refine ⟨?_, mtS_from wa wb va vb h.2 hok hE (fun q hq => by injection hq with hq; exact hq.symm)⟩
   have c := (cmp_lt fo.valid ot.valid).2 lt
   have i1 : boxIns En T = true := boxMeet_mono (at_sub wa va hs ot (by omega) g2) (at_sub wb vb hu ot (by omega) g4) hE hT
   have i2 : boxIns bef T = true := boxMeet_mono (at_sub wa va hs fo g1 (by omega)) (at_sub wb vb hu fo g3 (by omega)) hb hT
   have hl : T.length = a.start.length := by rw [fT.2.2.2.2.2.1, fs.ln]
   have hpr : (prev.elim true fun q => decide (from'.cmp q = 0)) = true := by
     cases prev with
     | none => rfl
     | some q => rw [hp q rfl]; simp [cmp_self]
   simp [sgOk, fo.valid, ot.valid, c, hl, hpr, i1, i2]

/-- Both pipes begin together. -/
structure Beg (a b : Pp) (s u : Sg) : Prop where
 sa : a.segs[0]? = some s
 ub : b.segs[0]? = some u
 eq : s.fr = u.fr

theorem Beg.at2 {a b : Pp} {s u : Sg} (h : Beg a b s u) (wa : a.W) (wb : b.W) (va : a.valid = true) (vb : b.valid = true) : At2 a b s.fr 0 0 := by
 have fs := seg_f wa va h.sa
 have fu := seg_f wb vb h.ub
 have l1 := (List.getElem?_eq_some_iff.1 h.sa).1
 have l2 := (List.getElem?_eq_some_iff.1 h.ub).1
 refine ⟨fs.fr, by omega, by omega, fun q hq => ?_, fun q hq => ?_, fun z hz => by omega, fun z hz => by omega⟩
 · rw [h.sa] at hq; injection hq with hq; subst hq; exact ⟨Int.le_refl _, fs.lt⟩
 · rw [h.ub] at hq; injection hq with hq; subst hq; rw [h.eq]; exact ⟨Int.le_refl _, fu.lt⟩

theorem Beg.at0 {a b : Pp} {s u : Sg} (h : Beg a b s u) (wa : a.W) (wb : b.W) (va : a.valid = true) (vb : b.valid = true) : a.at s.fr = a.start ∧ b.at s.fr = b.start := by
 have fs := seg_f wa va h.sa
 have fu := seg_f wb vb h.ub
 refine ⟨at_first h.sa (seg_during wa va h.sa fs.fr (Int.le_refl _) (by have := fs.lt; omega)), ?_⟩
 rw [h.eq]
 exact at_first h.ub (seg_during wb vb h.ub fu.fr (Int.le_refl _) (by have := fu.lt; omega))

theorem Beg.ok {a b : Pp} {s u : Sg} (h : Beg a b s u) (wa : a.W) (wb : b.W) (va : a.valid = true) (vb : b.valid = true) : PcOk a b s.fr (pcs a b) := pcI_ok wa wb va vb _ (h.at2 wa wb va vb)

theorem pcI_len {a b : Pp} : ∀ {f i k : Nat}, (pcI a b f i k).length ≤ f
 | 0, _, _ => by simp [pcI]
 | f + 1, i, k => by
   rw [pcI]
   cases a.segs[i]? with
   | none => cases b.segs[k]? <;> simp
   | some s =>
     cases b.segs[k]? with
     | none => simp
     | some u => simp [pcI_len (f := f)]

theorem mt_valid {a b : Pp} {s u : Sg} {st : List Iv} (h : Beg a b s u) (wa : a.W) (wb : b.W) (va : a.valid = true) (vb : b.valid = true) (hn : a.segs.length + b.segs.length ≤ 1000) (hst : boxMeet a.start b.start = some st) (hok : mtOk a b (pcs a b) = true) :
   Pp.valid ⟨st, mtS a b s.fr (pcs a b)⟩ = true := by
 have f := boxMeet_f hst
 have hl := pcI_len (a := a) (b := b) (f := a.segs.length + b.segs.length) (i := 0) (k := 0)
 have e0 := h.at0 wa wb va vb
 have hfrom := mtS_from wa wb va vb (prev := none) (h.ok wa wb va vb) hok (by rw [e0.1, e0.2]; exact hst) (fun q hq => by cases hq)
 have hva := va
 simp only [Pp.valid, Bool.and_eq_true, decide_eq_true_eq] at hva ⊢
 refine ⟨⟨⟨f.2.2.2.2.1, ?_⟩, ?_⟩, ?_⟩
 · show st.length ≤ 4
   rw [f.2.2.2.2.2.1]; exact hva.1.1.2
 · show (mtS a b s.fr (pcs a b)).length ≤ 1000
   rw [mtS_len]; unfold pcs; omega
 · rw [segsOk_from]
   show okFrom st.length st none (mtS a b s.fr (pcs a b)) = true
   rw [f.2.2.2.2.2.1]
   exact hfrom

theorem mt_W {a b : Pp} {s u : Sg} {st : List Iv} (h : Beg a b s u) (wa : a.W) (wb : b.W) (va : a.valid = true) (vb : b.valid = true) (hn : a.segs.length + b.segs.length ≤ 1000) (hst : BxW st) : Pp.W ⟨st, mtS a b s.fr (pcs a b)⟩ := by
 have hl := pcI_len (a := a) (b := b) (f := a.segs.length + b.segs.length) (i := 0) (k := 0)
 refine ⟨hst, ?_, mtS_W wa wb (h.ok wa wb va vb)⟩
 show (mtS a b s.fr (pcs a b)).length ≤ 100000000
 rw [mtS_len]; unfold pcs; omega

/-- A pipe whose segments lie within those of another. -/
structure Inn (m p : Pp) : Prop where
 wm : m.W
 wp : p.W
 vm : m.valid = true
 vp : p.valid = true
 nm : ∃ (g z : Sg), m.segs[0]? = some g ∧ p.segs[0]? = some z ∧ g.fr = z.fr
 st : boxIns m.start p.start = true
 cov : ∀ g ∈ m.segs, Cov p g

theorem Inn.overlap {m p : Pp} (h : Inn m p) {g k : Sg} (hg : g ∈ m.segs) (hk : k ∈ p.segs) (h1 : g.fr.cmp k.to < 0) (h2 : k.fr.cmp g.to < 0) : boxIns g.tube k.tube = true := by
 obtain ⟨fo, ot, lt, ⟨i, s, hs, g1, g2, g3⟩, _⟩ := h.cov g hg
 obtain ⟨j, hj⟩ := List.getElem?_of_mem hk
 have fk := seg_f h.wp h.vp hj
 rw [cmp_lt fo.valid fk.to.valid] at h1
 rw [cmp_lt fk.fr.valid ot.valid] at h2
 rcases Nat.lt_trichotomy j i with q | q | q
 · have := seg_le h.wp h.vp hj q hs; omega
 · subst q; rw [hs] at hj; injection hj with hj; rw [← hj]; exact g3
 · have := seg_le h.wp h.vp hs q hj; omega

theorem Inn.at {m p : Pp} (h : Inn m p) {t : Dy} (ot : t.Ok) (hd : m.during t = true) : p.during t = true ∧ boxIns (m.at t) (p.at t) = true := by
 obtain ⟨g, z, hg, hz, e⟩ := h.nm
 have fg := seg_f h.wm h.vm hg
 have fz := seg_f h.wp h.vp hz
 by_cases hne : g.fr.val = t.val
 · have et : g.fr = t := val_inj fg.fr ot hne
   subst et
   have hdp : p.during g.fr = true := by rw [e]; exact seg_during h.wp h.vp hz fz.fr (Int.le_refl _) (by have := fz.lt; omega)
   refine ⟨hdp, ?_⟩
   rw [at_first hg hd]
   rw [e] at hdp ⊢
   rw [at_first hz hdp]
   exact h.st
 · obtain ⟨i, g', hg', l1, l2⟩ := seg_find h.wm h.vm hg ot hd hne
   obtain ⟨fo, og, lt, ⟨j, s, hs, g1, g2, g3⟩, g4⟩ := h.cov g' (List.mem_of_getElem? hg')
   have fs := seg_f h.wp h.vp hs
   refine ⟨seg_during h.wp h.vp hs ot (by omega) (by omega), ?_⟩
   rw [at_sg h.wm h.vm hg' ot l1 l2]
   split
   · rename_i hlt
     rw [at_sg h.wp h.vp hs ot (by omega) (by omega), if_pos (by omega)]
     exact g3
   · have : t = g'.to := val_inj ot og (by omega)
     rw [this]; exact g4

end Go.Abs.W

