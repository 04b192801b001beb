/- Parts of the proof: FpMtQ, FpLawMeets. -/
import Derived.Test.YtnlmgfdifcflgaaGreatFo
import Derived.Test.YtnlmgfdifcflgaaGreatFn
/- The reference's Meet. -/
namespace Go.Abs.W
attribute [local simp] stpAppend
set_option maxRecDepth 100000

theorem mtOk_take {a b : Pp} : ∀ {l : List (Dy × Nat × Nat)} {j : Nat}, mtOk a b (l.take j) = false → mtOk a b l = false
 | [], j, h => by simpa using h
 | (t, i, k) :: l, 0, h => by simp [mtOk] at h
 | (t, i, k) :: l, j + 1, h => by
   rw [List.take_succ_cons, mtOk] at h
   rw [mtOk]
   cases h1 : (boxMeet (tubeOf a i) (tubeOf b k)).isSome <;> cases h2 : (boxMeet (a.at t) (b.at t)).isSome <;> simp [h1, h2] at h ⊢
   exact mtOk_take h

def outU (H : Heap) (g : Nat) : Nat → V
 | 0 => .nil
 | i + 1 => .ref (H.length + (g + 6)) 8 0 (i + 1)

theorem boxMeet_L {a b : List Iv} (ha : boxOk a = true) (hb : boxOk b = true) (hl : a.length = b.length) : meetL a b = boxMeet a b := by simp [boxMeet, ha, hb, hl]

def mBase (a b : Pp) (lv : V) (_ : Heap) (v : V) (from' : Dy) : Heap := [some ⟨2, [a.v], false, true⟩, some ⟨2, [b.v], false, true⟩, some ⟨2, [.agg [.nil, .nil]], false, true⟩, some ⟨3, [lv], false, true⟩,
 some ⟨2, [.agg [ivs ((boxMeet a.start b.start).getD []), v]], false, true⟩, some ⟨3, [from'.v], false, true⟩]

set_option maxHeartbeats 8000000 in
theorem mloop (a b : Pp) (wa : a.W) (wb : b.W) (va : a.valid = true) (vb : b.valid = true) {s u : Sg} (hb : Beg a b s u) (hnl : (pcs a b).length ≤ 1000) (hl : a.start.length = b.start.length) {H H0 : Heap} {lv : V} {E0 : Env} {K : List Fr} {Q : AX → Env → Heap → Prop}
   (g2 : E0 2 = .ptr H.length 0 0) (g3 : E0 3 = .ptr (H.length + 1) 0 0) (g4 : E0 4 = .ptr (H.length + 2) 0 0) (g5 : E0 5 = .int .i64 0) (g7 : E0 7 = .sl ((pcs a b).map (Dy.v ∘ fun x => x.1))) (g9 : E0 9 = .bool (boxMeet a.start b.start).isSome) (g10 : E0 10 = .ptr (H.length + 4) 0 0) (g11 : E0 11 = .ptr (H.length + 5) 0 0)
   (g12 : E0 12 = .int .i64 0) (hH : H0 = H ++ mBase a b lv H .nil s.fr)
   (hx : ∀ E H', E 4 = .ptr (H.length + 2) 0 0 → E 5 = .int .i64 0 → E 9 = .bool (mtGood a b) → E 10 = .ptr (H.length + 4) 0 0 → (∃ j g from' G, H' = H ++ (mBase a b lv H (outU H g j) from' ++ G) ∧ (mtGood a b = true → j = (pcs a b).length ∧ (0 < j → G[g]? = some (some ⟨8, (mtS a b s.fr (pcs a b)).map Sg.v, true, true⟩)))) → WP prog H.length Q K (.exit 0) E H') :
   WK prog H.length (.loop c_fpref37_Meet_l0) K E0 H0 Q := by
 refine WK_up (fun j E H' => E 2 = .ptr H.length 0 0 ∧ E 3 = .ptr (H.length + 1) 0 0 ∧ E 4 = .ptr (H.length + 2) 0 0 ∧ E 5 = .int .i64 0 ∧ E 7 = .sl ((pcs a b).map (Dy.v ∘ fun x => x.1)) ∧ E 9 = .bool ((boxMeet a.start b.start).isSome && mtOk a b ((pcs a b).take j)) ∧ E 10 = .ptr (H.length + 4) 0 0 ∧ E 11 = .ptr (H.length + 5) 0 0 ∧
   E 12 = .int .i64 j ∧ ∃ g G, H' = H ++ (mBase a b lv H (outU H g j) (lastT s.fr ((pcs a b).take j)) ++ G) ∧ (0 < j → G[g]? = some (some ⟨8, (mtS a b s.fr ((pcs a b).take j)).map Sg.v, true, true⟩))) (pcs a b).length ?_ ?_
 · refine ⟨g2, g3, g4, g5, g7, by simp [g9, mtOk], g10, g11, by simp [g12], 0, [], by simp [hH, outU, lastT], by simp⟩
 · rintro j E H' hj ⟨h2, h3, h4, h5, h7, h9, h10, h11, h12, g, G, rfl, hG⟩
   have c1 : (j : Int) < (pcs a b).length ↔ j < (pcs a b).length := by omega
   by_cases hlt : j < (pcs a b).length
   · cases hok : (boxMeet a.start b.start).isSome && mtOk a b ((pcs a b).take j)
     · rw [hok] at h9
       have hgood : mtGood a b = false := by
         unfold mtGood
         cases hs0 : (boxMeet a.start b.start).isSome
         · rfl
         · rw [hs0] at hok
           simp only [Bool.true_and] at hok ⊢
           exact mtOk_take hok
       simp [c_fpref37_Meet_l0, h7, h9, h12, c1, hlt]
       refine hx _ _ (by simp [h4]) (by simp [h5]) (by simp [h9, hgood]) (by simp [h10]) ⟨j, g, _, G, rfl, fun h => by rw [hgood] at h; cases h⟩
     · rw [hok] at h9
       obtain ⟨⟨t, i, k⟩, hx'⟩ : ∃ x, (pcs a b)[j]? = some x := ⟨_, List.getElem?_eq_getElem hlt⟩
       have ex : (pcs a b)[j] = (t, i, k) := by rw [List.getElem?_eq_getElem hlt] at hx'; injection hx'
       obtain ⟨⟨s', u', hs', hu', p1, p2, p3, p4⟩, fo, ot, lt⟩ := (hb.ok wa wb va vb).get hx'
       have fs := seg_f wa va hs'
       have fu := seg_f wb vb hu'
       have j0 : (0 : Int) ≤ j := by omega
       have f1 : IntKind.i64.wrap ((j : Int) + 1) = ((j + 1 : Nat) : Int) := by rw [wrap_i64] <;> omega
       have htk : (pcs a b).take (j + 1) = (pcs a b).take j ++ [(t, i, k)] := by rw [List.take_add_one, hx']; rfl
       have hml : (mtS a b s.fr ((pcs a b).take j)).length = j := by rw [mtS_len, List.length_take]; omega
       have e1 : tubeOf a i = s'.tube := by simp [tubeOf, hs']
       have e2 : tubeOf b k = u'.tube := by simp [tubeOf, hu']
       have hokN : ((boxMeet a.start b.start).isSome && mtOk a b ((pcs a b).take (j + 1))) = ((boxMeet s'.tube u'.tube).isSome && (boxMeet (a.at t) (b.at t)).isSome) := by
         rw [htk, mtOk_append, e1, e2, Bool.and_assoc, ← Bool.and_assoc, hok, Bool.true_and]
       have hsN : mtS a b s.fr ((pcs a b).take (j + 1)) = mtS a b s.fr ((pcs a b).take j) ++ [⟨lastT s.fr ((pcs a b).take j), t, (boxMeet s'.tube u'.tube).getD [], (boxMeet (a.at t) (b.at t)).getD []⟩] := by rw [htk, mtS_append, e1, e2]
       have hlN : lastT s.fr ((pcs a b).take (j + 1)) = t := by rw [htk, lastT_append]
       have overa := RTube_cq a (lastT s.fr ((pcs a b).take j)) t wa va fo ot (seg_during wa va hs' fo p1 (by omega))
       have overb := RTube_cq b (lastT s.fr ((pcs a b).take j)) t wb vb fo ot (seg_during wb vb hu' fo p3 (by omega))
       rw [over_seg wa va hs' fo ot p1 lt p2] at overa
       rw [over_seg wb vb hu' fo ot p3 lt p4] at overb
       have hlen : s'.tube.length = u'.tube.length := by rw [fs.ln, fu.ln, hl]
       have com1 := Common_cq s'.tube u'.tube (wa.at hs').tube (wb.at hu').tube hlen
       rw [boxMeet_L fs.tb fu.tb hlen] at com1
       have ia := boxIns_len (at_sub wa va hs' ot (by omega) p2)
       have ib := boxIns_len (at_sub wb vb hu' ot (by omega) p4)
       have hlen2 : (a.at t).length = (b.at t).length := by omega
       have com2 := Common_cq (a.at t) (b.at t) (at_W wa) (at_W wb) hlen2
       rw [boxMeet_L ia.1 ib.1 hlen2] at com2
       have ata := RAt_cq a t wa va ot (seg_during wa va hs' ot (by omega) p2)
       have atb := RAt_cq b t wb vb ot (seg_during wb vb hu' ot (by omega) p4)
       rw [hokN, hsN, hlN]
       clear hokN hsN hlN
       generalize lastT s.fr ((pcs a b).take j) = from' at *
       generalize mtS a b s.fr ((pcs a b).take j) = l at *
       simp [c_fpref37_Meet_l0, h2, h7, h9, h11, h12, c1, hlt, j0, ex, mBase]
       refine WL_call rfl rfl rfl overa ?_
       simp [h3, h7, h11, h12, hlt, j0, ex]
       refine WL_call rfl rfl rfl overb ?_
       simp
       refine WL_call rfl rfl rfl com1 ?_
       simp [boxV, h2, h7, h12, hlt, j0, ex]
       refine WL_call rfl rfl rfl ata ?_
       simp [h3, h7, h12, hlt, j0, ex]
       refine WL_call rfl rfl rfl atb ?_
       simp
       refine WL_call rfl rfl rfl com2 ?_
       obtain ⟨q2, hq2⟩ : ∃ q, q = (boxMeet s'.tube u'.tube).isSome := ⟨_, rfl⟩
       obtain ⟨q3, hq3⟩ : ∃ q, q = (boxMeet (a.at t) (b.at t)).isSome := ⟨_, rfl⟩
       rw [← hq2, ← hq3]
       simp only [boxV, ← hq3]
       clear hq2 hq3 overa overb com1 com2 ata atb
       rcases j with _ | j
       · have hl0 : l = [] := List.eq_nil_of_length_eq_zero hml
         subst hl0
         cases q2 <;> cases q3 <;> simp [outU, ivs, h2, h3, h4, h5, h7, h10, h11, h12, hlt, ex]
         all_goals exact ⟨by decide, _, _, ⟨rfl, rfl⟩, by rw [List.getElem?_append_right (by simp)]; simp⟩
       · have hg := hG (by omega)
         have hg' : ∀ m : Heap, (G ++ m)[g]? = some (some ⟨8, l.map Sg.v, true, true⟩) := fun m => getE_pre hg
         have f8 : (j + 1 + 1) * 128 ≤ 140737488355328 := by omega
         have hgl := (List.getElem?_eq_some_iff.1 hg).1
         have hset : ∀ m : Heap, (G ++ m).set g none = G.set g none ++ m := fun m => List.set_append_left _ _ hgl
         have hmt : List.take (j + 1) (l.map Sg.v) = l.map Sg.v := List.take_of_length_le (by simp [hml])
         have f0 : (0 : Int) ≤ (j : Int) + 1 := by omega
         cases q2 <;> cases q3 <;> simp [outU, ivs, hg', hml, f8, hset, hmt, h2, h3, h4, h5, h7, h10, h11, h12, hlt, ex, f0]
         all_goals exact ⟨by rw [wrap_i64] <;> omega, _, _, ⟨rfl, rfl⟩, by rw [List.getElem?_append_right (by simp)]; simp⟩
   · have hje : j = (pcs a b).length := by omega
     have hgood : mtGood a b = ((boxMeet a.start b.start).isSome && mtOk a b ((pcs a b).take j)) := by rw [hje, List.take_length]; rfl
     simp [c_fpref37_Meet_l0, h7, h12, c1, hlt]
     refine hx _ _ (by simp [h4]) (by simp [h5]) (by simp [h9, hgood]) (by simp [h10]) ⟨j, g, _, G, rfl, fun _ => ⟨hje, fun h => ?_⟩⟩
     rw [hG h, hje, List.take_length]

set_option maxHeartbeats 4000000 in
theorem RMeetP_cq (a b : Pp) (wa : a.W) (wb : b.W) (va : a.valid = true) (vb : b.valid = true) {s u : Sg} (hb : Beg a b s u) (hl : a.start.length = b.start.length) (ho : a.odd b = false) (hn : a.segs.length + b.segs.length ≤ 1000) : CQ prog g_fpref37_Meet [a.v, b.v] (.tup [(mtR a b).v, .int .i64 (mtE a b)]) := by
 refine CQ_run rfl fun H => ?_
 have hbeg : a.beg = s.fr := by simp [Pp.beg, hb.sa]
 obtain ⟨za, hza⟩ : ∃ z, a.segs[a.segs.length - 1]? = some z := ⟨_, List.getElem?_eq_getElem (by have := (List.getElem?_eq_some_iff.1 hb.sa).1; omega)⟩
 obtain ⟨zb, hzb⟩ : ∃ z, b.segs[b.segs.length - 1]? = some z := ⟨_, List.getElem?_eq_getElem (by have := (List.getElem?_eq_some_iff.1 hb.ub).1; omega)⟩
 have fa := seg_f wa va hza
 have fb := seg_f wb vb hzb
 obtain ⟨last, hlast⟩ : ∃ l, l = if zb.to.cmp za.to < 0 then zb.to else za.to := ⟨_, rfl⟩
 have ol : last.Ok := by rw [hlast]; split <;> first | exact fb.to | exact fa.to
 have hlv : ∀ za' zb', a.segs[a.segs.length - 1]? = some za' → b.segs[b.segs.length - 1]? = some zb' → last.val ≤ za'.to.val ∧ last.val ≤ zb'.to.val ∧ (last.val = za'.to.val ∨ last.val = zb'.to.val) := by
   intro za' zb' h1 h2
   rw [hza] at h1; injection h1 with h1; rw [hzb] at h2; injection h2 with h2
   rw [← h1, ← h2]
   have c := cmp_lt fb.to.valid fa.to.valid
   rw [hlast]
   split
   · rename_i q; rw [c] at q; omega
   · rename_i q; rw [c] at q; omega
 have hlen := pcI_len (a := a) (b := b) (f := a.segs.length + b.segs.length) (i := 0) (k := 0)
 have hnl : (pcs a b).length ≤ 1000 := by unfold pcs; omega
 have ends := REnds_cq a b last wa wb va vb hb hn ol hlv
 have f2 : ¬ (1000 : Int) < (pcs a b).length := by omega
 have hva := va
 have hvb := vb
 simp only [Pp.valid, Bool.and_eq_true] at hva hvb
 have com0 := Common_cq a.start b.start wa.start wb.start hl
 rw [boxMeet_L hva.1.1.1 hvb.1.1.1 hl] at com0
 have hgd : mtE a b = if mtGood a b then 0 else 14 := by simp [mtE, va, vb, ho]
 have hR : mtR a b = if mtGood a b then ⟨(boxMeet a.start b.start).getD [], mtS a b s.fr (pcs a b)⟩ else ⟨[], []⟩ := by
   rw [mtR, hgd, hbeg]; cases mtGood a b <;> simp
 have hlS : (mtS a b s.fr (pcs a b)).length = (pcs a b).length := mtS_len
 rw [hgd, hR]
 simp
 refine WL_call rfl rfl rfl (RLast_cq a za hza wa.len) ?_
 simp
 refine WL_call rfl rfl rfl (RLast_cq b zb hzb wb.len) ?_
 simp
 refine WL_call rfl rfl rfl (RCmp_cq zb.to za.to fb.to fa.to) ?_
 by_cases hq : zb.to.cmp za.to < 0
 · rw [if_pos hq] at hlast
   rw [hlast] at ends
   simp [hq]
   refine WL_call rfl rfl rfl (RLast_cq b zb hzb wb.len) ?_
   simp
   refine WL_call rfl rfl rfl ends ?_
   simp [dyl, f2, ivs]
   refine WL_call rfl rfl rfl com0 ?_
   simp [boxV]
   refine WL_call rfl rfl rfl (RFirst_cq a s hb.sa) ?_
   simp
   refine mloop (lv := zb.to.v) a b wa wb va vb hb hnl hl (by simp) (by simp) (by simp) (by simp) (by simp) (by simp) (by simp) (by simp) (by simp) (by simp [mBase, ivs]) ?_
   rintro E H' h4 h5 h9 h10 ⟨j, g, from', G, rfl, hG⟩
   cases hgood : mtGood a b
   · rw [hgood] at h9
     simp [h4, h9, mBase, ivs, sgs]
   · rw [hgood] at h9
     obtain ⟨hj, hg⟩ := hG hgood
     generalize mtS a b s.fr (pcs a b) = l at hlS hg ⊢
     rw [← hj] at hlS
     rcases j with _ | n
     · have hl0 : l = [] := List.eq_nil_of_length_eq_zero hlS
       subst hl0
       simp [outU, h4, h9, h10, mBase, ivs, sgs]
     · have hg' := hg (by omega)
       have hmt : List.take (n + 1) (l.map Sg.v) = l.map Sg.v := List.take_of_length_le (by simp [hlS])
       simp [outU, h4, h9, h10, mBase, ivs, sgs, hg', hlS, hmt]
 · rw [if_neg hq] at hlast
   rw [hlast] at ends
   simp [hq]
   refine WL_call rfl rfl rfl ends ?_
   simp [dyl, f2, ivs]
   refine WL_call rfl rfl rfl com0 ?_
   simp [boxV]
   refine WL_call rfl rfl rfl (RFirst_cq a s hb.sa) ?_
   simp
   refine mloop (lv := za.to.v) a b wa wb va vb hb hnl hl (by simp) (by simp) (by simp) (by simp) (by simp) (by simp) (by simp) (by simp) (by simp) (by simp [mBase, ivs]) ?_
   rintro E H' h4 h5 h9 h10 ⟨j, g, from', G, rfl, hG⟩
   cases hgood : mtGood a b
   · rw [hgood] at h9
     simp [h4, h9, mBase, ivs, sgs]
   · rw [hgood] at h9
     obtain ⟨hj, hg⟩ := hG hgood
     generalize mtS a b s.fr (pcs a b) = l at hlS hg ⊢
     rw [← hj] at hlS
     rcases j with _ | n
     · have hl0 : l = [] := List.eq_nil_of_length_eq_zero hlS
       subst hl0
       simp [outU, h4, h9, h10, mBase, ivs, sgs]
     · have hg' := hg (by omega)
       have hmt : List.take (n + 1) (l.map Sg.v) = l.map Sg.v := List.take_of_length_le (by simp [hlS])
       simp [outU, h4, h9, h10, mBase, ivs, sgs, hg', hlS, hmt]

end Go.Abs.W

/- PipeMeets returns true for each two pipes. -/
namespace Go.Abs.W
set_option maxRecDepth 100000

theorem great_len {p : Pp} (h : p.great = false) : p.segs.length ≤ 30 := by
 simp [Pp.great] at h
 exact h.1.1

theorem mt_inn {a b : Pp} {s u : Sg} {st : List Iv} (h : Beg a b s u) (wa : a.W) (wb : b.W) (va : a.valid = true) (vb : b.valid = true) (hn : a.segs.length + b.segs.length ≤ 1000) (hst : boxMeet a.start b.start = some st) (hok : mtOk a b (pcs a b) = true) :
   Inn ⟨st, mtS a b s.fr (pcs a b)⟩ a ∧ Inn ⟨st, mtS a b s.fr (pcs a b)⟩ b := by
 have hv := mt_valid h wa wb va vb hn hst hok
 have hw := mt_W h wa wb va vb hn (boxMeet_W wa.start wb.start hst)
 have f := boxMeet_f hst
 have cov := mtS_cov wa wb va vb (h.ok wa wb va vb) hok
 have l1 := (List.getElem?_eq_some_iff.1 h.sa).1
 have l2 := (List.getElem?_eq_some_iff.1 h.ub).1
 obtain ⟨n, hn1⟩ : ∃ n, a.segs.length + b.segs.length = n + 1 := ⟨a.segs.length + b.segs.length - 1, by omega⟩
 obtain ⟨g, hg, hgf⟩ : ∃ g, (mtS a b s.fr (pcs a b))[0]? = some g ∧ g.fr = s.fr := by
   unfold pcs
   rw [hn1]
   simp only [pcI, h.sa, h.ub, mtS]
   exact ⟨_, rfl, rfl⟩
 exact ⟨⟨hw, wa, hv, va, ⟨g, s, hg, h.sa, hgf⟩, f.2.2.2.2.2.2.1, fun g hg => (cov g hg).1⟩, ⟨hw, wb, hv, vb, ⟨g, u, hg, h.ub, hgf.trans h.eq⟩, f.2.2.2.2.2.2.2, fun g hg => (cov g hg).2⟩⟩

set_option maxHeartbeats 4000000 in
theorem PipeMeets_cq (a b : Pp) (ta : a.T) (tb : b.T) : CQ prog g_fplaw37_PipeMeets [a.v, b.v] (.bool true) := by
 refine CQ_run rfl fun H => ?_
 simp
 refine WL_call rfl rfl rfl awake_cq ?_
 simp [sgs]
 refine WL_callH rfl rfl (H1 := H ++ [some ⟨2, [a.v], false, true⟩, some ⟨2, [b.v], false, true⟩, some ⟨2, [a.v, b.v], true, false⟩]) (vs := [pps [a, b]]) (by simp [prep, frzVs, frzV, sgs]; rfl) (great_cq [a, b] (by simp) (by simp; exact ⟨ta.L, tb.L⟩)) ?_
 rcases Bool.eq_false_or_eq_true a.great with ga | ga
 · simp [ga]
 rcases Bool.eq_false_or_eq_true b.great with gb | gb
 · simp [ga, gb]
 have wa := ta.W ga
 have wb := tb.W gb
 have hna := great_len ga
 have hnb := great_len gb
 have hn : a.segs.length + b.segs.length ≤ 1000 := by omega
 simp [ga, gb]
 refine WL_call rfl rfl rfl (Meet_cq a b wa wb hn) ?_
 simp
 refine WL_call rfl rfl rfl (RPValid_cq a wa) ?_
 cases va : a.valid
 · have e : mtE a b = 1 := by simp [mtE, va]
   have r : mtR a b = ⟨[], []⟩ := by simp [mtR, e]
   simp [e, r, sgs]
   refine WL_call rfl rfl rfl (zero_cq ⟨[], []⟩) ?_
   simp
 simp
 refine WL_call rfl rfl rfl (RPValid_cq b wb) ?_
 cases vb : b.valid
 · have e : mtE a b = 1 := by simp [mtE, va, vb]
   have r : mtR a b = ⟨[], []⟩ := by simp [mtR, e]
   simp [e, r, sgs]
   refine WL_call rfl rfl rfl (zero_cq ⟨[], []⟩) ?_
   simp
 simp
 have odd : a.odd b = true → mtE a b = 6 ∧ mtR a b = ⟨[], []⟩ := fun ho => by
   have e : mtE a b = 6 := by simp [mtE, va, vb, ho]
   exact ⟨e, by simp [mtR, e]⟩
 have zero := zero_cq ⟨[], []⟩
 rcases Nat.eq_zero_or_pos a.segs.length with h0 | h0
 · have hnil : a.segs = [] := List.eq_nil_of_length_eq_zero h0
   obtain ⟨e, r⟩ := odd (by simp [Pp.odd, hnil])
   simp [e, r, sgs, hnil]
   refine WL_call rfl rfl rfl zero ?_
   simp
 have nm : ¬ a.segs = [] := fun e => by rw [e] at h0; simp at h0
 rcases Nat.eq_zero_or_pos b.segs.length with h1 | h1
 · have hnil : b.segs = [] := List.eq_nil_of_length_eq_zero h1
   obtain ⟨e, r⟩ := odd (by unfold Pp.odd; rw [hnil]; cases a.segs[0]? <;> rfl)
   simp [e, r, sgs, hnil, nm]
   refine WL_call rfl rfl rfl zero ?_
   simp
 have np : ¬ b.segs = [] := fun e => by rw [e] at h1; simp at h1
 obtain ⟨s, hs⟩ : ∃ s, a.segs[0]? = some s := ⟨_, List.getElem?_eq_getElem h0⟩
 obtain ⟨u, hu⟩ : ∃ u, b.segs[0]? = some u := ⟨_, List.getElem?_eq_getElem h1⟩
 have fs := seg_f wa va hs
 have fu := seg_f wb vb hu
 simp [sgs, nm, np, ivs]
 by_cases hl : ¬ a.start.length = b.start.length
 · have hl' : ¬ (a.start.length : Int) = b.start.length := by omega
   obtain ⟨e, r⟩ := odd (by simp [Pp.odd, hs, hu, hl])
   simp [hl', e, r]
   refine WL_call rfl rfl rfl zero ?_
   simp
 have hl := Decidable.not_not.1 hl
 simp [hl]
 refine WL_call rfl rfl rfl (RFirst_cq a s hs) ?_
 simp
 refine WL_call rfl rfl rfl (RFirst_cq b u hu) ?_
 simp
 refine WL_call rfl rfl rfl (REqual_cq s.fr u.fr fs.fr.w fu.fr.w) ?_
 by_cases hc : ¬ s.fr = u.fr
 · obtain ⟨e, r⟩ := odd (by
     have : ¬ s.fr.cmp u.fr = 0 := fun h => hc ((cmp_zero fs.fr fu.fr).1 h)
     simp [Pp.odd, hs, hu, this])
   simp [hc, e, r]
   refine WL_call rfl rfl rfl zero ?_
   simp
 have hc := Decidable.not_not.1 hc
 have ho : a.odd b = false := by simp [Pp.odd, hs, hu, hl, hc, cmp_self]
 have hb : Beg a b s u := ⟨hs, hu, hc⟩
 have hbeg : a.beg = s.fr := by simp [Pp.beg, hs]
 have hE : mtE a b = if mtGood a b then 0 else 14 := by simp [mtE, va, vb, ho]
 simp [hc]
 refine WL_call rfl rfl rfl (RMeetP_cq a b wa wb va vb hb hl ho hn) ?_
 simp
 cases hgood : mtGood a b
 · have e : mtE a b = 14 := by rw [hE, hgood]; rfl
   have r : mtR a b = ⟨[], []⟩ := by simp [mtR, e]
   simp [e, r, sgs]
   refine WL_call rfl rfl rfl zero ?_
   simp
 · have e : mtE a b = 0 := by rw [hE, hgood]; rfl
   unfold mtGood at hgood
   simp only [Bool.and_eq_true, Option.isSome_iff_exists] at hgood
   obtain ⟨⟨st, hst⟩, hok⟩ := hgood
   have r : mtR a b = ⟨st, mtS a b s.fr (pcs a b)⟩ := by simp [mtR, e, hst, hbeg]
   obtain ⟨ia, ib⟩ := mt_inn hb wa wb va vb hn hst hok
   have hmn : (mtS a b s.fr (pcs a b)).length ≤ 1000 := by
     rw [mtS_len]
     have := pcI_len (a := a) (b := b) (f := a.segs.length + b.segs.length) (i := 0) (k := 0)
     unfold pcs; omega
   have in1 := PInside_cq _ a ia (by show (mtS a b s.fr (pcs a b)).length + _ ≤ 10000; omega)
   have in2 := PInside_cq _ b ib (by show (mtS a b s.fr (pcs a b)).length + _ ≤ 10000; omega)
   have val := PValid_cq _ ia.wm
   rw [ia.vm] at val
   rw [← r] at in1 in2 val
   have wR : (mtR a b).W := by rw [r]; exact ia.wm
   simp [e, sgs]
   refine WL_call rfl rfl rfl (Same_cq (mtR a b) (mtR a b) wR wR) ?_
   simp
   refine WL_call rfl rfl rfl val ?_
   simp
   refine WL_call rfl rfl rfl in1 ?_
   simp
   refine WL_call rfl rfl rfl in2 ?_
   simp

end Go.Abs.W

