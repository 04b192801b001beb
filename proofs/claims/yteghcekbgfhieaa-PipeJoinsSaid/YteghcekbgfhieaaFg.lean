/- Parts of the proof: FpJoin, FpLawJoin. -/
import Derived.Test.YteghcekbgfhieaaFe
import Derived.Test.YteghcekbgfhieaaFd
import Derived.Test.YteghcekbgfhieaaFd
/- Pipes one behind the other: what the program's functions compute. -/
namespace Go.Abs.W

theorem Grow_ct (n : Nat) (hn : 0 < n) (hb : n ≤ 1000000000) (H : Heap) (Q : V → Heap → Prop) (hQ : Q (.ref H.length 8 0 0) (H ++ [some ⟨8, [], true, true⟩])) : CT prog g_slices_Grow_Segment [.nil, .int .i64 n] H Q := by
  refine CT_of (f := c_slices_Grow_Segment) rfl (WC_of_WK ?_)
  have e1 : IntKind.i64.wrap (n : Int) = n := by rw [wrap_i64] <;> omega
  have e2 : ¬ ((n : Int) < 0) := by omega
  have e3 : (0 : Int) < n := by omega
  have e4 : n * 128 ≤ 140737488355328 ∧ n ≤ 9223372036854775807 := by omega
  have e0 : IntKind.i64.wrap 0 = 0 := by decide
  simp [e0, e1, e2, e4, hn, fin, ownV, ownC_ref]
  exact ⟨_, _, ⟨rfl, rfl⟩, hQ⟩

theorem Out.app' {H0 H : Heap} {v y : V} {z bytes : Nat} {l ys : List V} (h : Out H0 H v z l) (hy : elems H y = some ys) (hz : headOk z ys = true) (hb : (l.length + ys.length) * bytes ≤ 140737488355328) :
    ∃ v' H', stpAppend z bytes v y H = some (v', H') ∧ Out H0 H' v' z (l ++ ys) := by
  by_cases hn : ys = []
  · subst hn
    refine ⟨v, H, ?_, by simpa using h⟩
    unfold stpAppend
    rw [hy]
    simp only [Option.bind_some, hz, if_true]
    rcases h.val with ⟨h1, h2⟩ | ⟨b, blk, h1, h2, h3, h4, h5⟩
    · subst h2; simp
    · subst h2
      have : appendLimit (l.length + 0) bytes = true := by simp [appendLimit]; simpa using hb
      simp only [List.length_nil, h3, this]
      simp [h5]
  · exact h.app hy hz hn hb

/-- The segments of the first i of two lists. -/
def pre2 (a b : List Sg) : Nat → List Sg
  | 0 => []
  | 1 => a
  | _ => a ++ b

set_option maxHeartbeats 2000000 in
theorem Concat_ev {H : Heap} {q : Nat} (a b : List Sg) (h0 : 0 < a.length + b.length) (hb : a.length + b.length ≤ 1000000) (hq : H[q]? = some (some ⟨1, [sgs a, sgs b], true, true⟩)) :
    Ev prog (.call g_slices_Concat_Segment [.ref q 1 0 2] H) (.ret (sgs (a ++ b)) H) := by
  refine Ev_run rfl ?_
  simp
  refine WK_up (fun i E H' => H' = H ∧ E 0 = .ref q 1 0 2 ∧ E 9 = .ref q 1 0 2 ∧ E 10 = .int .i64 2 ∧ E 11 = .int .i64 i ∧ E 3 = .int .i64 (pre2 a b i).length) 2 ?_ ?_
  · simp [pre2]
  · rintro i E H' hi ⟨rfl, h0', h9, h10, h11, h3⟩
    have c5 : IntKind.i64.wrap 1 = 1 := by decide
    have c6 : IntKind.i64.wrap 2 = 2 := by decide
    have c1 : ¬ ((a.length : Int) < 0) := by omega
    have c2 : ¬ ((a.length : Int) + b.length < 0) := by omega
    have c3 : IntKind.i64.wrap (a.length : Int) = a.length := by rw [wrap_i64] <;> omega
    have c4 : IntKind.i64.wrap ((a.length : Int) + b.length) = a.length + b.length := by rw [wrap_i64] <;> omega
    rcases i with _ | _ | i
    · simp only [sgs] at hq
      simp [c_slices_Concat_Segment_l0, hq, h0', h9, h10, h11, h3, pre2, sgs, c1, c3, c5]
    · simp only [sgs] at hq
      simp [c_slices_Concat_Segment_l0, hq, h0', h9, h10, h11, h3, pre2, sgs, c2, c4, c6]
    · have : i = 0 := by omega
      subst this
      simp [c_slices_Concat_Segment_l0, h10, h11, h3, pre2]
      have e : (a.length : Int) + b.length = ((a.length + b.length : Nat) : Int) := by omega
      rw [e]
      refine WL_callT rfl rfl rfl (Grow_ct (a.length + b.length) h0 (by omega) _ _ ?_)
      simp [h0']
      refine WK_up (fun i E H'' => Out H' H'' (E 6) 8 ((pre2 a b i).map Sg.v) ∧ E 25 = .ref q 1 0 2 ∧ E 26 = .int .i64 2 ∧ E 27 = .int .i64 i) 2 ?_ ?_
      · simp [pre2]
        exact ⟨List.prefix_append _ _, .inr ⟨H'.length, [], by simp, by simp, by simp, by simp, by simp⟩⟩
      · rintro i E H'' hi ⟨ho, h25, h26, h27⟩
        have hq' := getE_prefix ho.pre hq
        simp only [sgs] at hq'
        have hnt := ho.notTup
        rcases i with _ | _ | i
        · obtain ⟨v', H3, p1, p2⟩ := ho.app' (y := sgs a) (bytes := 128) (ys := a.map Sg.v) rfl (by cases a <;> rfl) (by simp [pre2]; omega)
          simp only [sgs, pre2, List.map_nil, List.nil_append] at p1 p2
          simp [c_slices_Concat_Segment_l1, hq', h25, h26, h27, p1, c5]
          simpa [pre2] using p2
        · obtain ⟨v', H3, p1, p2⟩ := ho.app' (y := sgs b) (bytes := 128) (ys := b.map Sg.v) rfl (by cases b <;> rfl) (by simp [pre2]; omega)
          simp only [sgs, pre2] at p1 p2
          simp [c_slices_Concat_Segment_l1, hq', h25, h26, h27, p1, c6]
          simpa [pre2] using p2
        · have : i = 0 := by omega
          subst this
          simp [c_slices_Concat_Segment_l1, h26, h27]
          have := ho.fin (H1 := H') (List.prefix_refl _)
          simp [pre2] at this
          simp [this, sgs]

/-- Does b go on where a ends? -/
def Pp.joinable (a b : Pp) : Bool := match a.segs[a.segs.length - 1]?, b.segs[0]? with
  | some z, some s => decide (a.start.length = b.start.length) && decide (z.to.cmp s.fr = 0) && boxIns z.en b.start
  | _, _ => false
def Pp.joinE (a b : Pp) : Int := if a.valid && b.valid then (if a.joinable b then 0 else 6) else 1
def Pp.joinR (a b : Pp) : Pp := if a.joinE b = 0 then ⟨a.start, a.segs ++ b.segs⟩ else ⟨[], []⟩

set_option maxHeartbeats 4000000 in
theorem Join_cq (a b : Pp) (wa : a.W) (wb : b.W) (hl : a.segs.length + b.segs.length ≤ 1000) : CQ prog g_pipe_Join [a.v, b.v] (.tup [(a.joinR b).v, .int .i64 (a.joinE b)]) := by
  refine CQ_run rfl fun H => ?_
  simp
  refine WL_call rfl rfl rfl (PValid_cq a wa) ?_
  cases va : a.valid
  · simp [Pp.joinR, Pp.joinE, va, sgs, ivs]
  simp
  refine WL_call rfl rfl rfl (PValid_cq b wb) ?_
  cases vb : b.valid
  · simp [Pp.joinR, Pp.joinE, vb, sgs, ivs]
  simp
  by_cases ha : a.segs = []
  · simp [Pp.joinR, Pp.joinE, va, vb, sgs, ivs, ha, Pp.joinable]
  by_cases hb : b.segs = []
  · simp [Pp.joinR, Pp.joinE, va, vb, sgs, ivs, ha, hb, Pp.joinable]
  have pa := List.length_pos_iff.2 ha
  have pb := List.length_pos_iff.2 hb
  obtain ⟨z, hz⟩ : ∃ z, a.segs[a.segs.length - 1]? = some z := ⟨_, List.getElem?_eq_getElem (by omega)⟩
  obtain ⟨s, hs⟩ : ∃ s, b.segs[0]? = some s := ⟨_, List.getElem?_eq_getElem pb⟩
  have wz := wa.at hz
  have ws := wb.at hs
  rcases Decidable.em (a.start.length ≠ b.start.length) with hst | hst
  · have hst' : ¬ ((a.start.length : Int) = b.start.length) := by omega
    have e : a.joinable b = false := by simp [Pp.joinable, hz, hs, hst]
    simp [Pp.joinR, Pp.joinE, va, vb, sgs, ivs, ha, hb, e, hst']
  have hst : a.start.length = b.start.length := by omega
  simp [sgs, ivs, ha, hb, hst]
  refine WL_call rfl rfl rfl (last_cq a z hz wa.len) ?_
  simp
  refine WL_call rfl rfl rfl (begin_cq b s hs) ?_
  simp
  refine WL_call rfl rfl rfl (DCmp_cq z.to s.fr wz.to ws.fr) ?_
  by_cases hc : z.to.cmp s.fr = 0
  case neg =>
    have e : a.joinable b = false := by simp [Pp.joinable, hz, hs, hc]
    simp [Pp.joinR, Pp.joinE, va, vb, ivs, e, hc]
  simp [hc]
  refine WL_call rfl rfl rfl (last_cq a z hz wa.len) ?_
  simp [ivs]
  refine WL_call rfl rfl rfl (BInside_cq z.en b.start wz.en wb.start) ?_
  cases hi : boxIns z.en b.start
  · have e : a.joinable b = false := by simp [Pp.joinable, hz, hs, hi]
    simp [Pp.joinR, Pp.joinE, va, vb, e]
  have e : a.joinable b = true := by simp [Pp.joinable, hz, hs, hc, hi, hst]
  have f1 : IntKind.i64.wrap ((a.segs.length : Int) + b.segs.length) = a.segs.length + b.segs.length := by rw [wrap_i64] <;> omega
  have f2 : ¬ ((1000 : Int) < a.segs.length + b.segs.length) := by omega
  simp [f1, f2]
  refine WL_callT rfl rfl rfl (copied_wk a wa _ _ ?_)
  simp [ha]
  refine WL_callT rfl rfl rfl (copied_wk b wb _ _ ?_)
  have t1 : List.take b.segs.length (List.map Sg.v b.segs) = List.map Sg.v b.segs := List.take_of_length_le (by simp)
  have t2 : List.take a.segs.length (List.map Sg.v a.segs) = List.map Sg.v a.segs := List.take_of_length_le (by simp)
  have t3 : headOk 8 (List.map Sg.v b.segs) = true := by cases b.segs <;> rfl
  simp only [headOk] at t3
  have t4 : (a.segs.length + b.segs.length) * 128 ≤ 140737488355328 := by omega
  have t5 : List.take (a.segs.length + b.segs.length) (List.map Sg.v a.segs ++ List.map Sg.v b.segs) = List.map Sg.v a.segs ++ List.map Sg.v b.segs := List.take_of_length_le (by simp)
  simp [hb, stpAppend, t1, t2, t3, t4, t5, Pp.joinR, Pp.joinE, va, vb, e, ivs]

end Go.Abs.W
/- PipeJoins returns true for each two pipes. -/
namespace Go.Abs.W

theorem allB_trans : ∀ {l m k : List Iv}, l.all Iv.known = true → m.all Iv.known = true → k.all Iv.known = true → l.length = m.length → allB Iv.ins l m = true → allB Iv.ins m k = true → allB Iv.ins l k = true
  | [], m, k, _, _, _, _, _, _ => by simp [allB]
  | x :: l, [], k, _, _, _, hl, _, _ => by simp at hl
  | x :: l, y :: m, [], _, _, _, _, _, _ => rfl
  | x :: l, y :: m, z :: k, h1, h2, h3, hl, g1, g2 => by
    simp at h1 h2 h3 hl
    simp only [allB, Bool.and_eq_true] at g1 g2 ⊢
    have a1 := (ins_iff h1.1 h2.1).1 g1.1
    have a2 := (ins_iff h2.1 h3.1).1 g2.1
    exact ⟨(ins_iff h1.1 h3.1).2 ⟨by omega, by omega⟩, allB_trans (by simpa using h1.2) (by simpa using h2.2) (by simpa using h3.2) hl g1.2 g2.2⟩

theorem boxIns_trans {a b c : List Iv} (h1 : boxIns a b = true) (h2 : boxIns b c = true) : boxIns a c = true := by
  simp only [boxIns, Bool.and_eq_true, decide_eq_true_eq] at h1 h2 ⊢
  obtain ⟨⟨⟨p1, p2⟩, p3⟩, p4⟩ := h1
  obtain ⟨⟨⟨q1, q2⟩, q3⟩, q4⟩ := h2
  exact ⟨⟨⟨p1, q2⟩, p3.trans q3⟩, allB_trans (boxOk_iff.1 p1).2.2 (boxOk_iff.1 p2).2.2 (boxOk_iff.1 q2).2.2 p3 p4 q4⟩

theorem okFrom_append {n : Nat} : ∀ {l m : List Sg} {bef : List Iv} {prev : Option Dy} {z : Sg} (_ : l.getLast? = some z), okFrom n bef prev (l ++ m) = (okFrom n bef prev l && okFrom n z.en (some z.to) m)
  | [], _, _, _, _, hz => by simp at hz
  | [x], m, bef, prev, z, hz => by simp at hz; subst hz; simp [okFrom]
  | x :: y :: l, m, bef, prev, z, hz => by
    have hz' : (y :: l).getLast? = some z := by simpa [List.getLast?_cons_cons] using hz
    have := okFrom_append (n := n) (m := m) (bef := x.en) (prev := some x.to) hz'
    rw [List.cons_append]
    show (sgOk n bef prev x && okFrom n x.en (some x.to) (y :: l ++ m)) = ((sgOk n bef prev x && okFrom n x.en (some x.to) (y :: l)) && _)
    rw [this, Bool.and_assoc]

/-- Cutting at the seam. -/
theorem cutS_seam {t : Dy} {s : Sg} {m : List Sg} (h1 : t.cmp s.to < 0) (h2 : ¬ s.fr.cmp t < 0) : ∀ {l : List Sg}, (∀ x ∈ l, ¬ t.cmp x.to < 0) → cutS t (l ++ s :: m) = l
  | [], _ => by simp [cutS, h1, h2]
  | x :: l, h => by
    rw [List.cons_append, cutS, if_neg (h x (by simp)), cutS_seam h1 h2 fun y hy => h y (by simp [hy])]

/-- No segment of a valid list ends later than the last. -/
theorem okFrom_last {n : Nat} : ∀ {l : List Sg} {bef : List Iv} {prev : Option Dy} {z : Sg}, okFrom n bef prev l = true → l.getLast? = some z → ∀ x ∈ l, x.to.val ≤ z.to.val
  | [], _, _, _, _, hz => by simp at hz
  | [x], _, _, z, _, hz => by simp at hz; subst hz; simp
  | x :: y :: l, bef, prev, z, h, hz => by
    have hz' : (y :: l).getLast? = some z := by simpa [List.getLast?_cons_cons] using hz
    simp only [okFrom] at h
    rw [Bool.and_eq_true] at h
    have ih := okFrom_last (l := y :: l) (by simpa [okFrom] using h.2) hz'
    have fx := sgOk_facts h.1
    have h2 := h.2
    rw [Bool.and_eq_true] at h2
    have fy := sgOk_facts h2.1
    intro u hu
    rcases List.mem_cons.1 hu with rfl | hu
    · have := ih y (by simp)
      have e := fy.2.2.2.2 u.to rfl fx.2.1
      have := fy.2.2.1
      omega
    · exact ih u hu

theorem joinable_iff {a b : Pp} (h : a.joinable b = true) : ∃ z s m, a.segs.getLast? = some z ∧ a.segs[a.segs.length - 1]? = some z ∧ b.segs = s :: m ∧ a.start.length = b.start.length ∧ z.to.cmp s.fr = 0 ∧ boxIns z.en b.start = true := by
  unfold Pp.joinable at h
  split at h
  · rename_i z s hz hs
    simp only [Bool.and_eq_true, decide_eq_true_eq] at h
    obtain ⟨m, hm⟩ : ∃ m, b.segs = s :: m := by
      cases hq : b.segs with
      | nil => rw [hq] at hs; simp at hs
      | cons x m => rw [hq] at hs; simp at hs; exact ⟨m, by rw [hs]⟩
    exact ⟨z, s, m, by rw [List.getLast?_eq_getElem?]; exact hz, hz, hm, h.1.1, h.1.2, h.2⟩
  · cases h

theorem join_valid {a b : Pp} (va : a.valid = true) (vb : b.valid = true) (h : a.joinable b = true) (hl : a.segs.length + b.segs.length ≤ 1000) : Pp.valid ⟨a.start, a.segs ++ b.segs⟩ = true := by
  obtain ⟨z, s, m, hz, _, hm, hn, hc, hi⟩ := joinable_iff h
  have oka := Pp.validSegs va
  have okb := Pp.validSegs vb
  rw [segsOk_from] at oka okb
  have hok : Pp.segsOk ⟨a.start, a.segs ++ b.segs⟩ = true := by
    rw [segsOk_from]
    show okFrom a.start.length a.start none (a.segs ++ b.segs) = true
    rw [okFrom_append hz, oka, Bool.true_and, hm]
    rw [hm, okFrom, Bool.and_eq_true] at okb
    rw [okFrom, Bool.and_eq_true]
    refine ⟨?_, by rw [hn]; exact okb.2⟩
    have k := okb.1
    simp only [sgOk, Bool.and_eq_true, decide_eq_true_eq] at k ⊢
    obtain ⟨⟨⟨⟨⟨⟨h1, h2⟩, h3⟩, h4⟩, h5⟩, h6⟩, h7⟩ := k
    exact ⟨⟨⟨⟨⟨⟨h1, h2⟩, h3⟩, by omega⟩, by simp; rw [cmp_anti, hc]; rfl⟩, h6⟩, boxIns_trans hi h7⟩
  simp [Pp.valid] at va ⊢
  exact ⟨⟨va.1.1, by omega⟩, hok⟩

theorem join_cut {a b : Pp} (va : a.valid = true) (vb : b.valid = true) (h : a.joinable b = true) (hl : a.segs.length + b.segs.length ≤ 1000) {z : Sg} (hz : a.segs.getLast? = some z) :
    z.to.valid = true ∧ Pp.during ⟨a.start, a.segs ++ b.segs⟩ z.to = true ∧ cutS z.to (a.segs ++ b.segs) = a.segs := by
  obtain ⟨z', s, m, hz', _, hm, hn, hc, hi⟩ := joinable_iff h
  rw [hz] at hz'; injection hz' with hz'; subst hz'
  have vj := join_valid va vb h hl
  have oka := Pp.validSegs va
  have okb := Pp.validSegs vb
  rw [segsOk_from] at oka okb
  rw [hm, okFrom, Bool.and_eq_true] at okb
  have fs := sgOk_facts okb.1
  have hzm := List.mem_of_getLast? hz
  have vz := (okFrom_mem oka z hzm)
  rw [cmp_val vz.2 fs.1, cmpI_zero_iff] at hc
  obtain ⟨x, l, hx⟩ : ∃ x l, a.segs = x :: l := by
    cases hq : a.segs with
    | nil => rw [hq] at hz; simp at hz
    | cons x l => exact ⟨x, l, rfl⟩
  refine ⟨vz.2, ?_, ?_⟩
  · have okj := Pp.validSegs vj
    rw [segsOk_from] at okj
    have okj' : okFrom a.start.length a.start none (a.segs ++ b.segs) = true := okj
    obtain ⟨y, hy⟩ : ∃ y, b.segs.getLast? = some y := ⟨_, List.getLast?_eq_some_getLast (by rw [hm]; simp)⟩
    have hg : (a.segs ++ b.segs).getLast? = b.segs.getLast? := by rw [List.getLast?_append, hy]; rfl
    have hlast := okFrom_last okj' (by rw [hg]; exact hy)
    have hz2 := hlast z (by simp [hzm])
    rw [during_val vj (s := x) (l := l ++ b.segs) (by show a.segs ++ b.segs = _; rw [hx]; rfl) vz.2]
    refine ⟨?_, ?_⟩
    · have f1 := okFrom_last oka hz x (by rw [hx]; simp)
      rw [hx, okFrom, Bool.and_eq_true] at oka
      have := (sgOk_facts oka.1).2.2.1
      omega
    · have e : (x :: (l ++ b.segs)).getLast (by simp) = y := by
        have : (x :: (l ++ b.segs)).getLast? = some y := by rw [← List.cons_append, ← hx, hg]; exact hy
        rw [List.getLast?_eq_some_getLast (by simp)] at this
        injection this
      rw [e]; exact hz2
  · rw [hm]
    refine cutS_seam ?_ ?_ fun x hx => ?_
    · rw [cmp_lt vz.2 fs.2.1]; omega
    · rw [cmp_lt fs.1 vz.2]; omega
    · rw [cmp_lt vz.2 (okFrom_mem oka x hx).2]
      have := okFrom_last oka hz x hx
      omega

set_option maxHeartbeats 4000000 in
theorem PipeJoins_cq (a b : Pp) (ta : a.T) (tb : b.T) : CQ prog g_fplaw37_PipeJoins [a.v, b.v] (.bool true) := by
  refine CQ_run rfl fun H => ?_
  simp
  refine WL_call rfl rfl rfl awake_cq ?_
  simp [sgs]
  refine WL_callH rfl rfl (H1 := H ++ [some ⟨2, [a.v], false, true⟩, some ⟨2, [b.v], false, true⟩, some ⟨2, [a.v, b.v], true, false⟩]) (vs := [pps [a, b]]) (by simp [prep, frzVs, frzV, sgs]; rfl) (great_cq [a, b] (by simp) (by simp; exact ⟨ta.L, tb.L⟩)) ?_
  cases ga : a.great
  case true => simp [ga]
  cases gb : b.great
  case true => simp [ga, gb]
  have wa := ta.W ga
  have wb := tb.W gb
  have hl : a.segs.length + b.segs.length ≤ 60 := by
    simp [Pp.great] at ga gb
    omega
  simp [ga, gb]
  refine WL_call rfl rfl rfl (Join_cq a b wa wb (by omega)) ?_
  simp
  refine WL_call rfl rfl rfl (RPValid_cq a wa) ?_
  cases va : a.valid
  · simp [Pp.joinR, Pp.joinE, va]
    refine WL_call rfl rfl rfl (zero_cq ⟨[], []⟩) ?_
    simp
  simp
  refine WL_call rfl rfl rfl (RPValid_cq b wb) ?_
  cases vb : b.valid
  · simp [Pp.joinR, Pp.joinE, va, vb]
    refine WL_call rfl rfl rfl (zero_cq ⟨[], []⟩) ?_
    simp
  by_cases ha : a.segs = []
  · have e : a.joinE b = 6 := by simp [Pp.joinE, va, vb, Pp.joinable, ha]
    simp [Pp.joinR, e, ha, sgs]
    refine WL_call rfl rfl rfl (zero_cq ⟨[], []⟩) ?_
    simp
  by_cases hb : b.segs = []
  · have e : a.joinE b = 6 := by simp [Pp.joinE, va, vb, Pp.joinable, hb]
    simp [Pp.joinR, e, ha, hb, sgs]
    refine WL_call rfl rfl rfl (zero_cq ⟨[], []⟩) ?_
    simp
  have pa := List.length_pos_iff.2 ha
  have pb := List.length_pos_iff.2 hb
  obtain ⟨z, hz⟩ : ∃ z, a.segs[a.segs.length - 1]? = some z := ⟨_, List.getElem?_eq_getElem (by omega)⟩
  obtain ⟨s, hs⟩ : ∃ s, b.segs[0]? = some s := ⟨_, List.getElem?_eq_getElem pb⟩
  have wz := wa.at hz
  have ws := wb.at hs
  have oz := (segAt_fr wz (Pp.okAt (Pp.validSegs va) hz)).2
  have os := (segAt_fr ws (Pp.okAt (Pp.validSegs vb) hs)).1
  have sz := Pp.okAt (Pp.validSegs va) hz
  have hze : boxOk z.en = true := by simp [Pp.segAt, boxIns] at sz; exact sz.1.2.1.1.1
  have hbs : boxOk b.start = true := by simp [Pp.valid] at vb; exact vb.1.1.1
  rcases Decidable.em (a.start.length ≠ b.start.length) with hst | hst
  · have hst' : ¬ ((a.start.length : Int) = b.start.length) := by omega
    have e : a.joinE b = 6 := by simp [Pp.joinE, va, vb, Pp.joinable, hz, hs, hst]
    simp [Pp.joinR, e, ha, hb, sgs, ivs, hst']
    refine WL_call rfl rfl rfl (zero_cq ⟨[], []⟩) ?_
    simp
  have hst : a.start.length = b.start.length := by omega
  simp [sgs, ivs, ha, hb, hst]
  refine WL_call rfl rfl rfl (RLast_cq a z hz wa.len) ?_
  simp
  refine WL_call rfl rfl rfl (RFirst_cq b s hs) ?_
  simp
  refine WL_call rfl rfl rfl (REqual_cq z.to s.fr wz.to ws.fr) ?_
  by_cases hc' : z.to = s.fr
  case neg =>
    have hc : ¬ z.to.cmp s.fr = 0 := fun h => hc' ((cmp_zero oz os).1 h)
    have e : a.joinE b = 6 := by simp [Pp.joinE, va, vb, Pp.joinable, hz, hs, hst, hc]
    simp [Pp.joinR, e, hc']
    refine WL_call rfl rfl rfl (zero_cq ⟨[], []⟩) ?_
    simp
  have hc : z.to.cmp s.fr = 0 := (cmp_zero oz os).2 hc'
  have f1 : IntKind.i64.wrap ((a.segs.length : Int) - 1) = ((a.segs.length - 1 : Nat) : Int) := by rw [wrap_i64] <;> omega
  simp [hc', f1, hz]
  refine WL_call rfl rfl rfl (RBInside_cq z.en b.start wz.en wb.start) ?_
  have hb2 : boxIn z.en b.start = boxIns z.en b.start := by simp [boxIn, boxIns, hze, hbs]
  cases hi : boxIns z.en b.start
  · have e : a.joinE b = 6 := by simp [Pp.joinE, va, vb, Pp.joinable, hz, hs, hi]
    simp [Pp.joinR, e, hb2, hi, ivs]
    refine WL_call rfl rfl rfl (zero_cq ⟨[], []⟩) ?_
    simp
  have hj : a.joinable b = true := by simp [Pp.joinable, hz, hs, hst, hc, hi]
  have e : a.joinE b = 0 := by simp [Pp.joinE, va, vb, hj]
  have er : a.joinR b = ⟨a.start, a.segs ++ b.segs⟩ := by rw [Pp.joinR, if_pos e]
  have vj := join_valid va vb hj (by omega)
  obtain ⟨k1, k2, k3⟩ := join_cut va vb hj (by omega) (z := z) (by rw [List.getLast?_eq_getElem?]; exact hz)
  have wj : Pp.W ⟨a.start, a.segs ++ b.segs⟩ := ⟨wa.start, by have := wa.len; simp; omega, fun x hx => by
    rcases List.mem_append.1 hx with h | h
    · exact wa.all x h
    · exact wb.all x h⟩
  have ec : Pp.atE ⟨a.start, a.segs ++ b.segs⟩ z.to = 0 := by simp [Pp.atE, vj, k1, k2]
  have ecr : Pp.cutR ⟨a.start, a.segs ++ b.segs⟩ z.to = a := by rw [Pp.cutR, if_pos ec, k3]
  obtain ⟨J, hJ⟩ : ∃ J, J = a.segs ++ b.segs := ⟨_, rfl⟩
  rw [← hJ] at er vj wj ec ecr
  simp [hb2, hi, e, er, ivs]
  refine WL_ev (v := sgs J) rfl rfl rfl (by rw [hJ]; exact Concat_ev a.segs b.segs (by omega) (by omega) (by simp [sgs])) ?_
  simp [sgs]
  refine WL_call rfl rfl rfl (RLast_cq a z hz wa.len) ?_
  simp
  refine WL_call rfl rfl rfl (Cut_cq ⟨a.start, J⟩ z.to wj wz.to) ?_
  rw [ec, ecr]
  simp [sgs, ivs]
  refine WL_call rfl rfl rfl (Same_cq ⟨a.start, J⟩ ⟨a.start, J⟩ wj wj) ?_
  simp
  refine WL_call rfl rfl rfl (PValid_cq ⟨a.start, J⟩ wj) ?_
  simp [vj]
  refine WL_call rfl rfl rfl (Same_cq a a wa wa) ?_
  simp

end Go.Abs.W
