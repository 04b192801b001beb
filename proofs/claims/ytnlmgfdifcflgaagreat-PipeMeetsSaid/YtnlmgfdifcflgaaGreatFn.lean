/- Parts of the proof: FpMtC. -/
import Derived.Test.YtnlmgfdifcflgaaGreatFm
/- The program's Meet. -/
namespace Go.Abs.W
attribute [local simp] stpAppend
set_option maxRecDepth 100000

def Pp.odd (a b : Pp) : Bool := match a.segs[0]?, b.segs[0]? with
 | some s, some u => !decide (a.start.length = b.start.length) || !decide (s.fr.cmp u.fr = 0)
 | _, _ => true
def Pp.beg (a : Pp) : Dy := (a.segs[0]?).elim d0 Sg.fr
def mtGood (a b : Pp) : Bool := (boxMeet a.start b.start).isSome && mtOk a b (pcs a b)
def mtE (a b : Pp) : Int := if a.valid && b.valid then (if a.odd b then 6 else if mtGood a b then 0 else 14) else 1
def mtR (a b : Pp) : Pp := if mtE a b = 0 then ⟨(boxMeet a.start b.start).getD [], mtS a b a.beg (pcs a b)⟩ else ⟨[], []⟩

def lastT (from' : Dy) (l : List (Dy × Nat × Nat)) : Dy := (l.getLast?).elim from' (·.1)

theorem lastT_cons {from' : Dy} {x : Dy × Nat × Nat} {l : List (Dy × Nat × Nat)} : lastT from' (x :: l) = lastT x.1 l := by
 cases l with
 | nil => rfl
 | cons y l => simp only [lastT, List.getLast?_cons_cons, List.getLast?_eq_some_getLast (List.cons_ne_nil y l), Option.elim_some]

theorem mtS_append {a b : Pp} {x : Dy × Nat × Nat} : ∀ {l : List (Dy × Nat × Nat)} {from' : Dy}, mtS a b from' (l ++ [x]) = mtS a b from' l ++ [⟨lastT from' l, x.1, (boxMeet (tubeOf a x.2.1) (tubeOf b x.2.2)).getD [], (boxMeet (a.at x.1) (b.at x.1)).getD []⟩]
 | [], _ => rfl
 | (t, i, k) :: l, from' => by
   rw [List.cons_append, mtS, mtS, mtS_append, lastT_cons]
   rfl

theorem mtOk_append {a b : Pp} {x : Dy × Nat × Nat} : ∀ {l : List (Dy × Nat × Nat)}, mtOk a b (l ++ [x]) = (mtOk a b l && (boxMeet (tubeOf a x.2.1) (tubeOf b x.2.2)).isSome && (boxMeet (a.at x.1) (b.at x.1)).isSome)
 | [] => by simp [mtOk]
 | (t, i, k) :: l => by
   rw [List.cons_append, mtOk, mtOk, mtOk_append]
   simp only [Bool.and_assoc]

theorem PcOk.get {a b : Pp} : ∀ {L : List (Dy × Nat × Nat)} {from' : Dy} {j : Nat} {t : Dy} {i k : Nat}, PcOk a b from' L → L[j]? = some (t, i, k) → Pc a b (lastT from' (L.take j)) t i k
 | [], _, _, _, _, _, _, h => by simp at h
 | (t', i', k') :: L, from', 0, t, i, k, h, hj => by
   simp at hj
   obtain ⟨rfl, rfl, rfl⟩ := hj
   exact h.1
 | (t', i', k') :: L, from', j + 1, t, i, k, h, hj => by
   rw [List.take_succ_cons, lastT_cons]
   exact h.2.get (by simpa using hj)

theorem lastT_append {from' : Dy} {x : Dy × Nat × Nat} {l : List (Dy × Nat × Nat)} : lastT from' (l ++ [x]) = x.1 := by simp [lastT]

def outW (H : Heap) (g : Nat) : Nat → V
 | 0 => .nil
 | i + 1 => .ref (H.length + (g + 7)) 8 0 (i + 1)

set_option maxHeartbeats 4000000 in
theorem Meet_cq (a b : Pp) (wa : a.W) (wb : b.W) (hn : a.segs.length + b.segs.length ≤ 1000) : CQ prog g_pipe_Meet [a.v, b.v] (.tup [(mtR a b).v, .int .i64 (mtE a b)]) := by
 refine CQ_run rfl fun H => ?_
 have hsa := wa.len
 have hsb := wb.len
 simp
 refine WL_call rfl rfl rfl (PValid_cq a wa) ?_
 cases va : a.valid
 · simp [mtR, mtE, va, ivs, sgs]
 simp
 refine WL_call rfl rfl rfl (PValid_cq b wb) ?_
 cases vb : b.valid
 · simp [mtR, mtE, va, vb, ivs, sgs]
 simp
 rcases Nat.eq_zero_or_pos a.segs.length with h0 | h0
 · have hnil : a.segs = [] := List.eq_nil_of_length_eq_zero h0
   have ho : a.odd b = true := by simp [Pp.odd, hnil]
   simp [mtR, mtE, va, vb, ho, ivs, sgs, hnil]
 rcases Nat.eq_zero_or_pos b.segs.length with h1 | h1
 · have hnil : b.segs = [] := List.eq_nil_of_length_eq_zero h1
   have ho : a.odd b = true := by unfold Pp.odd; rw [hnil]; cases a.segs[0]? <;> rfl
   have hne : ¬ a.segs = [] := fun e => by rw [e] at h0; simp at h0
   simp [mtR, mtE, va, vb, ho, ivs, sgs, hnil, hne]
 have hna : ¬ a.segs = [] := fun e => by rw [e] at h0; simp at h0
 have hnb : ¬ b.segs = [] := fun e => by rw [e] at h1; simp at h1
 obtain ⟨s, hs⟩ : ∃ s, a.segs[0]? = some s := ⟨_, List.getElem?_eq_getElem h0⟩
 obtain ⟨u, hu⟩ : ∃ u, b.segs[0]? = some u := ⟨_, List.getElem?_eq_getElem h1⟩
 simp [sgs, hna, hnb, ivs]
 by_cases hl : ¬ a.start.length = b.start.length
 · have hl' : ¬ (a.start.length : Int) = b.start.length := by omega
   have ho : a.odd b = true := by simp [Pp.odd, hs, hu, hl]
   simp [hl', mtR, mtE, va, vb, ho]
 have hl := Decidable.not_not.1 hl
 simp [hl]
 refine WL_call rfl rfl rfl (begin_cq a s hs) ?_
 simp
 refine WL_call rfl rfl rfl (begin_cq b u hu) ?_
 simp
 refine WL_call rfl rfl rfl (DCmp_cq s.fr u.fr (wa.at hs).fr (wb.at hu).fr) ?_
 by_cases hc : ¬ s.fr.cmp u.fr = 0
 · have ho : a.odd b = true := by simp [Pp.odd, hs, hu, hc]
   simp [hc, mtR, mtE, va, vb, ho]
 have hc := Decidable.not_not.1 hc
 simp [hc]
 have ho : a.odd b = false := by simp [Pp.odd, hs, hu, hc, hl]
 have hb : Beg a b s u := ⟨hs, hu, (cmp_zero (seg_f wa va hs).fr (seg_f wb vb hu).fr).1 hc⟩
 have hbeg : a.beg = s.fr := by simp [Pp.beg, hs]
 have hlen := pcI_len (a := a) (b := b) (f := a.segs.length + b.segs.length) (i := 0) (k := 0)
 refine WL_call rfl rfl rfl (pieces_cq a b) ?_
 simp
 refine WK_rforB rfl (by simp [ivs, sgs, V.pure, V.cells, V.cellPure]) (pieces_iter a b wa wb)
   (fun k H' => H' = H ++ [some ⟨2, [a.v], false, true⟩, some ⟨2, [b.v], false, true⟩, some ⟨2, [.agg [.nil, .nil]], false, true⟩, some ⟨1, [.int .i64 k], false, true⟩])
   (fun H' => H' = H ++ [some ⟨2, [a.v], false, true⟩, some ⟨2, [b.v], false, true⟩, some ⟨2, [.agg [.nil, .nil]], false, true⟩, some ⟨1, [.int .i64 (pcs a b).length], false, true⟩]) ?_ ?_ ?_ ?_
 · simp [ivs, sgs]
 · rintro k vs H' hL rfl
   have hk := (List.getElem?_eq_some_iff.1 hL).1
   simp at hk
   have hk2 : k < 1000 := by unfold pcs at hk; omega
   have f1 : IntKind.i64.wrap ((k : Int) + 1) = ((k + 1 : Nat) : Int) := by rw [wrap_i64] <;> omega
   obtain ⟨x, hx, rfl⟩ : ∃ x, (pcs a b)[k]? = some x ∧ pcE x = vs := by simpa using hL
   refine ⟨rfl, ?_⟩
   simp [c_pipe_Meet_l0, c_pipe_Meet_l1, bindE, pcE, f1, ivs, sgs]
 · rintro H' rfl
   simp
 · rintro H' rfl
   have f2 : ¬ (1000 : Int) < (pcs a b).length := by unfold pcs; omega
   simp [f2, ivs, sgs]
   refine WL_call rfl rfl rfl (BMeet_cq a.start b.start wa.start wb.start) ?_
   simp [boxV]
   refine WL_call rfl rfl rfl (begin_cq a s hs) ?_
   simp
   refine WL_call rfl rfl rfl (pieces_cq a b) ?_
   simp
   refine WK_rforB rfl (by simp [ivs, sgs, V.pure, V.cells, V.cellPure]) (pieces_iter a b wa wb)
     (fun j H' => ∃ g G, H' = H ++ ([some ⟨2, [a.v], false, true⟩, some ⟨2, [b.v], false, true⟩, some ⟨2, [.agg [.nil, .nil]], false, true⟩, some ⟨1, [.int .i64 (pcs a b).length], false, true⟩,
       some ⟨1, [.bool ((boxMeet a.start b.start).isSome && mtOk a b ((pcs a b).take j))], false, true⟩, some ⟨2, [.agg [ivs ((boxMeet a.start b.start).getD []), outW H g j]], false, true⟩, some ⟨3, [(lastT s.fr ((pcs a b).take j)).v], false, true⟩] ++ G) ∧
       (0 < j → G[g]? = some (some ⟨8, (mtS a b s.fr ((pcs a b).take j)).map Sg.v, true, true⟩)))
     (fun H' => ∃ g G, H' = H ++ ([some ⟨2, [a.v], false, true⟩, some ⟨2, [b.v], false, true⟩, some ⟨2, [.agg [.nil, .nil]], false, true⟩, some ⟨1, [.int .i64 (pcs a b).length], false, true⟩,
       some ⟨1, [.bool (mtGood a b)], false, true⟩, some ⟨2, [.agg [ivs ((boxMeet a.start b.start).getD []), outW H g (pcs a b).length]], false, true⟩, some ⟨3, [(lastT s.fr (pcs a b)).v], false, true⟩] ++ G) ∧
       (0 < (pcs a b).length → G[g]? = some (some ⟨8, (mtS a b s.fr (pcs a b)).map Sg.v, true, true⟩))) ?_ ?_ ?_ ?_
   · exact ⟨0, [], by simp [outW, lastT, mtOk, ivs, sgs], by simp⟩
   · rintro j vs H' hL ⟨g, G, rfl, hG⟩
     obtain ⟨⟨t, i, k⟩, hx, rfl⟩ : ∃ x, (pcs a b)[j]? = some x ∧ pcE x = vs := by simpa using hL
     have hj := (List.getElem?_eq_some_iff.1 hx).1
     have hj2 : j < 1000 := by unfold pcs at hj; omega
     obtain ⟨⟨s', u', hs', hu', g1, g2, g3, g4⟩, fo, ot, lt⟩ := (hb.ok wa wb va vb).get hx
     have hi := (List.getElem?_eq_some_iff.1 hs').1
     have hk := (List.getElem?_eq_some_iff.1 hu').1
     have es : a.segs[i] = s' := by rw [List.getElem?_eq_getElem hi] at hs'; injection hs'
     have eu : b.segs[k] = u' := by rw [List.getElem?_eq_getElem hk] at hu'; injection hu'
     have i0 : (0 : Int) ≤ i := by omega
     have k0 : (0 : Int) ≤ k := by omega
     have htk : (pcs a b).take (j + 1) = (pcs a b).take j ++ [(t, i, k)] := by
       rw [List.take_add_one, hx]; rfl
     obtain ⟨da0, da, hda⟩ := during_num (seg_during wa va hs' ot (by omega) g2)
     obtain ⟨db0, db, hdb⟩ := during_num (seg_during wb vb hu' ot (by omega) g4)
     refine ⟨rfl, ?_⟩
     have hml : (mtS a b s.fr ((pcs a b).take j)).length = j := by rw [mtS_len, List.length_take]; omega
     have e1 : tubeOf a i = s'.tube := by simp [tubeOf, hs']
     have e2 : tubeOf b k = u'.tube := by simp [tubeOf, hu']
     have hokN : mtOk a b ((pcs a b).take (j + 1)) = (mtOk a b ((pcs a b).take j) && (boxMeet s'.tube u'.tube).isSome && (boxMeet (a.at t) (b.at t)).isSome) := by rw [htk, mtOk_append, e1, e2]
     have hsN : mtS a b s.fr ((pcs a b).take (j + 1)) = mtS a b s.fr ((pcs a b).take j) ++ [⟨lastT s.fr ((pcs a b).take j), t, (boxMeet s'.tube u'.tube).getD [], (boxMeet (a.at t) (b.at t)).getD []⟩] := by rw [htk, mtS_append, e1, e2]
     have hlN : lastT s.fr ((pcs a b).take (j + 1)) = t := by rw [htk, lastT_append]
     rw [hokN, hsN, hlN]
     clear hokN hsN hlN
     obtain ⟨from', hfrom⟩ : ∃ x, x = lastT s.fr ((pcs a b).take j) := ⟨_, rfl⟩
     obtain ⟨q0, hq0⟩ : ∃ q, q = (boxMeet a.start b.start).isSome := ⟨_, rfl⟩
     obtain ⟨q1, hq1⟩ : ∃ q, q = mtOk a b ((pcs a b).take j) := ⟨_, rfl⟩
     obtain ⟨l, hml'⟩ : ∃ l, l = mtS a b s.fr ((pcs a b).take j) := ⟨_, rfl⟩
     rw [← hml'] at hml hG ⊢
     rw [← hfrom, ← hq0, ← hq1]
     clear hfrom hq0 hq1 hml'
     simp [c_pipe_Meet_l2, c_pipe_Meet_l3, bindE, pcE, ivs, sgs, hi, hk, es, eu, i0, k0]
     refine WL_call rfl rfl rfl (BMeet_cq s'.tube u'.tube (wa.at hs').tube (wb.at hu').tube) ?_
     simp [boxV]
     refine WL_call rfl rfl rfl (at_cq a t wa ot.w da da0 hda) ?_
     simp
     refine WL_call rfl rfl rfl (at_cq b t wb ot.w db db0 hdb) ?_
     simp
     refine WL_call rfl rfl rfl (BMeet_cq (a.at t) (b.at t) (at_W wa) (at_W wb)) ?_
     obtain ⟨q2, hq2⟩ : ∃ q, q = (boxMeet s'.tube u'.tube).isSome := ⟨_, rfl⟩
     obtain ⟨q3, hq3⟩ : ∃ q, q = (boxMeet (a.at t) (b.at t)).isSome := ⟨_, rfl⟩
     rw [← hq2, ← hq3]
     simp only [boxV, ← hq3]
     clear hq2 hq3
     rcases j with _ | j
     · have hl0 : l = [] := List.eq_nil_of_length_eq_zero hml
       subst hl0
       cases q0 <;> cases q1 <;> cases q2 <;> cases q3 <;> simp [outW, ivs]
       all_goals exact ⟨_, _, ⟨rfl, rfl⟩, by rw [List.getElem?_append_right (by omega)]; simp⟩
     · have hg := hG (by omega)
       have hg' : ∀ m : Heap, (G ++ m)[g]? = some (some ⟨8, l.map Sg.v, true, true⟩) := fun m => getE_pre hg
       have f8 : (j + 1 + 1) * 128 ≤ 140737488355328 := by omega
       have hgl := (List.getElem?_eq_some_iff.1 hg).1
       have hset : ∀ m : Heap, (G ++ m).set g none = G.set g none ++ m := fun m => List.set_append_left _ _ hgl
       have hmt : List.take (j + 1) (l.map Sg.v) = l.map Sg.v := List.take_of_length_le (by simp [hml])
       cases q0 <;> cases q1 <;> cases q2 <;> cases q3 <;> simp [outW, ivs, hg', hml, f8, hset, hmt]
       all_goals exact ⟨_, _, ⟨rfl, rfl⟩, by rw [List.getElem?_append_right (by simp)]; simp⟩
   · rintro H' ⟨g, G, rfl, hG⟩
     simp only [List.length_map, List.take_length] at hG ⊢
     exact ⟨g, G, rfl, hG⟩
   · rintro H' ⟨g, G, rfl, hG⟩
     have hgd : mtE a b = if mtGood a b then 0 else 14 := by simp [mtE, va, vb, ho]
     have hR : mtR a b = if mtGood a b then ⟨(boxMeet a.start b.start).getD [], mtS a b s.fr (pcs a b)⟩ else ⟨[], []⟩ := by
       rw [mtR, hgd, hbeg]; cases mtGood a b <;> simp
     rw [hgd, hR]
     have hlS : (mtS a b s.fr (pcs a b)).length = (pcs a b).length := mtS_len
     obtain ⟨l, hl'⟩ : ∃ l, l = mtS a b s.fr (pcs a b) := ⟨_, rfl⟩
     rw [← hl'] at hG hlS ⊢
     clear hl'
     cases mtGood a b
     · simp [ivs, sgs]
     · rcases hp : (pcs a b).length with _ | n
       · rw [hp] at hlS
         have hl0 : l = [] := List.eq_nil_of_length_eq_zero hlS
         subst hl0
         simp [outW, ivs, sgs]
       · rw [hp] at hlS hG
         have hg := hG (by omega)
         have hmt : List.take (n + 1) (l.map Sg.v) = l.map Sg.v := List.take_of_length_le (by simp [hlS])
         simp [outW, ivs, sgs, hg, hlS, hmt]

end Go.Abs.W

