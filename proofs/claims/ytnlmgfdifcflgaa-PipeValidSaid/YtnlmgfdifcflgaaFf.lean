/- Parts of the proof: FpAll, FpLawValid. -/
import Derived.Test.YtnlmgfdifcflgaaFe
import Derived.Test.YtnlmgfdifcflgaaFp
import Derived.Test.YtnlmgfdifcflgaaFd
/- The segments, one by one. -/
namespace Go.Abs.W
attribute [local simp] stpAppend

theorem All_cq (p : Pp) : CQ prog g_pipe_All [p.v] (.fn g_pipe_All_1 [.eptr [ivs p.start, sgs p.segs]]) := by
 refine CQ_run rfl fun H => ?_
 simp [fin, capCs, capC, V.isCell, ivs, sgs]

def Pp.all' (p : Pp) : List (List V) := if p.valid then (List.range p.segs.length).map fun (i : Nat) => [.int .i64 (i : Int), (p.segs[i]?).elim .nil Sg.v] else []

theorem all_get {p : Pp} (hv : p.valid = true) (k : Nat) : p.all'[k]? = (p.segs[k]?).map fun s => [.int .i64 k, s.v] := by
 unfold Pp.all'
 rw [if_pos hv]
 by_cases h : k < p.segs.length
 · simp [h]
 · simp [List.getElem?_eq_none (by omega : p.segs.length ≤ k)]
   omega

theorem all_len {p : Pp} (hv : p.valid = true) : p.all'.length = p.segs.length := by simp [Pp.all', hv]

theorem all_iter (p : Pp) (w : p.W) : prog.iter g_pipe_All_1 [.eptr [ivs p.start, sgs p.segs]] p.all' := by
 refine iter_prog (f := c_pipe_All_1) rfl rfl fun T l seat => ?_
 have hse := w.len
 show ItSem T p.all' l (.seq (.seq (.region false c_pipe_All_1_r0) (.cond (.t 7) .ret .skip)) (.seq (.region false c_pipe_All_1_r1) (.block 0 (.loop c_pipe_All_1_l0)))) _ _ _ _ _
 refine it_seq (K1 := fun x E H k st => st = false ∧ k = 0 ∧ H = [] ∧ ((x = .ret ∧ p.valid = false) ∨ (x = .normal ∧ p.valid = true ∧ E 0 = .yld l ∧ E 1 = .eptr [ivs p.start, sgs p.segs]))) (it_wk seat rfl ?_) ?_ ?_
 · simp [ivs, sgs]
   refine WL_call rfl rfl rfl (PValid_cq p w) ?_
   cases hv : p.valid <;> simp
 · intro E H k st h
   obtain ⟨rfl, rfl, rfl, h⟩ := h
   rcases h with ⟨h, _⟩ | ⟨_, hv, h0, h1⟩
   · cases h
   refine it_then (fun E H k st => st = false ∧ k = 0 ∧ E 0 = .yld l ∧ E 10 = (if p.segs = [] then .nil else .ref 0 8 0 p.segs.length) ∧ E 11 = .int .i64 p.segs.length ∧ E 12 = .int .i64 (0 : Nat) ∧ (p.segs ≠ [] → H[0]? = some (some ⟨8, p.segs.map Sg.v, true, true⟩))) (it_wk seat rfl ?_) ?_
   · simp [h1, ivs, sgs]
     refine WL_callT rfl rfl rfl (copied_wk p w _ _ ?_)
     by_cases hn : p.segs = []
     · simp [hn, h0, ivs]
     · simp [hn, h0, ivs]
   · intro E H k st h
     obtain ⟨rfl, rfl, h0, h10, h11, h12, hH⟩ := h
     refine it_block (it_loop (fun m E H k st => st = false ∧ m + k = p.segs.length ∧ E 0 = .yld l ∧ E 10 = (if p.segs = [] then .nil else .ref 0 8 0 p.segs.length) ∧ E 11 = .int .i64 p.segs.length ∧ E 12 = .int .i64 k ∧ (p.segs ≠ [] → H[0]? = some (some ⟨8, p.segs.map Sg.v, true, true⟩))) p.segs.length ⟨rfl, by omega, h0, h10, h11, h12, hH⟩ ?_)
     intro m E H k st h
     obtain ⟨rfl, hm, h0, h10, h11, h12, hH⟩ := h
     have hk : (k : Int) < p.segs.length ↔ k < p.segs.length := by omega
     refine it_then (fun E1 H1 k1 st1 => st1 = false ∧ k1 = k ∧ H1 = H ∧ E1 0 = .yld l ∧ E1 10 = E 10 ∧ E1 11 = .int .i64 p.segs.length ∧ E1 12 = .int .i64 k ∧ E1 13 = .bool (decide (k < p.segs.length))) (it_wk seat rfl ?_) ?_
     · simp [h0, h11, h12, hk]
     intro E1 H1 k1 st1 h
     obtain ⟨rfl, rfl, rfl, g0, g10, g11, g12, g13⟩ := h
     rw [h10] at g10
     by_cases hlt : k1 < p.segs.length
     · have hne : p.segs ≠ [] := fun e => by rw [e] at hlt; simp at hlt
       have hb := hH hne
       have hbl := (List.getElem?_eq_some_iff.1 hb).1
       rw [if_neg hne] at g10
       obtain ⟨s, hs⟩ : ∃ s, p.segs[k1]? = some s := ⟨_, List.getElem?_eq_getElem hlt⟩
       have hs' : p.segs[k1] = s := by rw [List.getElem?_eq_getElem hlt] at hs; injection hs
       have f1 : IntKind.i64.wrap ((k1 : Int) + 1) = ((k1 + 1 : Nat) : Int) := by rw [wrap_i64] <;> omega
       have hb' : ∀ l : Heap, (H1 ++ l)[0]? = some (some ⟨8, p.segs.map Sg.v, true, true⟩) := fun l => getE_pre hb
       refine it_then (fun E2 H2 k2 st2 => st2 = false ∧ k2 = k1 ∧ H2 = H1 ∧ E2 = E1) (it_cond (t := true) (by simp [g13, hlt]) (it_wk seat rfl (by simp))) ?_
       intro E2 H2 k2 st2 h
       obtain ⟨rfl, rfl, rfl, rfl⟩ := h
       refine it_seq (K1 := fun x E3 H3 k3 st3 => k3 = k2 + 1 ∧ ((x = .ret ∧ st3 = true) ∨ (x = .normal ∧ st3 = false ∧ E3 0 = .yld l ∧ E3 10 = .ref 0 8 0 p.segs.length ∧ E3 11 = .int .i64 p.segs.length ∧ E3 12 = .int .i64 k2 ∧ H3[0]? = some (some ⟨8, p.segs.map Sg.v, true, true⟩)))) ?_ ?_ ?_
       · refine it_block (it_then (fun E3 H3 k3 st3 => st3 = false ∧ k3 = k2 ∧ E3 0 = .yld l ∧ E3 10 = .ref 0 8 0 p.segs.length ∧ E3 11 = .int .i64 p.segs.length ∧ E3 12 = .int .i64 k2 ∧ E3 3 = .int .i64 k2 ∧ (∃ l, H3 = H2 ++ l) ∧ ∃ b, E3 4 = .ptr b 0 0 ∧ H3[b]? = some (some ⟨8, [s.v], false, true⟩)) (it_wk seat rfl ?_) ?_)
         · simp [g0, g10, g11, g12, hlt, hb, hs']
         intro E3 H3 k3 st3 h
         obtain ⟨rfl, rfl, q0, q10, q11, q12, q3, ⟨t, rfl⟩, b, q4, qb⟩ := h
         have hL : p.all'[k3]? = some [.int .i64 k3, s.v] := by rw [all_get hv, hs]; rfl
         refine it_seq (K1 := fun x E4 H4 k4 st4 => x = .normal ∧ k4 = k3 + 1 ∧ E4 0 = .yld l ∧ E4 10 = .ref 0 8 0 p.segs.length ∧ E4 11 = .int .i64 p.segs.length ∧ E4 12 = .int .i64 k3 ∧ E4 21 = .bool st4 ∧ H4 = H2 ++ t) (it_yield_wl seat (l1 := [mV 17 0, mV 18 3, oP 19 (.load true 8 (.t 4))]) (l2 := [oP 21 (.un .not (.t 20))]) ?_) ?_ ?_
         · simp [q0, q3, q4, qb, hL, ivs, q10, q11, q12]
         · intro E4 H4 k4 st4 h
           obtain ⟨_, rfl, r0, r10, r11, r12, r21, rfl⟩ := h
           refine it_cond r21 ?_
           cases st4 with
           | true => exact it_wk seat rfl (by simp)
           | false => exact it_wk seat rfl (by simp [r0, r10, r11, r12, hb'])
         · intro x E4 H4 k4 st4 hx h
           exact absurd h.1 hx
       · intro E3 H3 k3 st3 h
         obtain ⟨rfl, h⟩ := h
         rcases h with ⟨h, _⟩ | ⟨_, rfl, r0, r10, r11, r12, hb3⟩
         · cases h
         refine it_wk seat rfl ?_
         simp [r0, r10, r11, r12, f1, hne, hb3]
         exact ⟨m - 1, by omega, by omega⟩
       · intro x E3 H3 k3 st3 hx h
         obtain ⟨rfl, h⟩ := h
         rcases h with ⟨rfl, rfl⟩ | ⟨rfl, _⟩
         · simp
         · exact absurd rfl hx
     · refine it_seq (K1 := fun x E2 H2 k2 st2 => x = .exit 0 ∧ k2 = k1 ∧ st2 = false) (it_cond (t := false) (by simp [g13, hlt]) (it_wk seat rfl (by simp))) ?_ ?_
       · intro E2 H2 k2 st2 h
         cases h.1
       · intro x E2 H2 k2 st2 hx h
         obtain ⟨rfl, rfl, rfl⟩ := h
         simp [all_len hv]
         omega
 · intro x E H k st hx h
   obtain ⟨rfl, rfl, rfl, h⟩ := h
   rcases h with ⟨rfl, hv⟩ | ⟨rfl, _⟩
   · simp [Pp.all', hv]
   · exact absurd rfl hx

end Go.Abs.W

/- PipeValid returns true for each pipe and each number. -/
namespace Go.Abs.W

def Pp.endE (p : Pp) : Int := if p.valid then (if p.segs = [] then 7 else 0) else 1
def Pp.endB (p : Pp) : List Iv := if p.valid then (p.segs[p.segs.length - 1]?).elim [] Sg.en else []
def Pp.endT (p : Pp) : Dy := if p.valid then (p.segs[p.segs.length - 1]?).elim d0 Sg.to else d0

theorem lim_nil : lim [] = .sl [] := rfl

theorem PEnd_cq (p : Pp) (w : p.W) : CQ prog g_pipe_End [p.v] (.tup [ivs p.endB, p.endT.v, .int .i64 p.endE]) := by
 refine CQ_run rfl fun H => ?_
 simp
 refine WL_call rfl rfl rfl (PValid_cq p w) ?_
 cases hv : p.valid
 · simp [Pp.endB, Pp.endT, Pp.endE, hv, ivs, d0, lim_nil]
 by_cases hn : p.segs = []
 · simp [Pp.endB, Pp.endT, Pp.endE, hv, hn, ivs, sgs, d0, lim_nil]
 have h0 : 0 < p.segs.length := List.length_pos_iff.2 hn
 obtain ⟨z, hz⟩ : ∃ z, p.segs[p.segs.length - 1]? = some z := ⟨_, List.getElem?_eq_getElem (by omega)⟩
 have wz := w.at hz
 simp [sgs, hn]
 refine WL_call rfl rfl rfl (last_cq p z hz w.len) ?_
 simp
 refine WL_call rfl rfl rfl (Clone_cq z.en (by have := wz.en.len; omega)) ?_
 simp
 refine WL_call rfl rfl rfl (last_cq p z hz w.len) ?_
 simp [Pp.endB, Pp.endT, Pp.endE, hv, hn, hz]

theorem endT_W {p : Pp} (w : p.W) : p.endT.W := by
 unfold Pp.endT
 split
 · cases h : p.segs[p.segs.length - 1]? with
   | none => exact d0_W
   | some s => exact (w.at h).to
 · exact d0_W

theorem endB_W {p : Pp} (w : p.W) : BxW p.endB := by
 have nil : BxW [] := ⟨by simp, by simp⟩
 unfold Pp.endB
 split
 · cases h : p.segs[p.segs.length - 1]? with
   | none => exact nil
   | some s => exact (w.at h).en
 · exact nil

set_option maxHeartbeats 4000000 in
theorem PipeValid_cq (p : Pp) (stop : Nat) (tp : p.T) (hst : stop < 256) : CQ prog g_fplaw37_PipeValid [p.v, .int .u8 stop] (.bool true) := by
 refine CQ_run rfl fun H => ?_
 simp
 refine WL_call rfl rfl rfl awake_cq ?_
 simp [sgs]
 refine WL_callH rfl rfl (H1 := H ++ [some ⟨2, [p.v], false, true⟩, some ⟨1, [.int .u8 stop], false, true⟩, some ⟨1, [.bool false], false, true⟩, some ⟨2, [p.v], true, false⟩]) (vs := [pps [p]]) (by simp [prep, frzVs, frzV, sgs]; rfl) (great_cq [p] (by simp) (by simp; exact tp.L)) ?_
 rcases Bool.eq_false_or_eq_true p.great with hg | hg
 · simp [hg]
 have w := tp.W hg
 have hse := w.len
 simp [hg]
 refine WL_call rfl rfl rfl (PValid_cq p w) ?_
 simp
 refine WL_call rfl rfl rfl (RPValid_cq p w) ?_
 simp
 refine WL_call rfl rfl rfl (PEnd_cq p w) ?_
 simp
 refine WL_call rfl rfl rfl (All_cq p) ?_
 simp
 refine WK_rforB rfl (by simp [ivs, sgs, V.pure, V.cells, V.cellPure]) (all_iter p w)
   (fun k H' => k ≤ stop ∧ ∃ G, H' = H ++ ([some ⟨2, [p.v], false, true⟩, some ⟨1, [.int .u8 stop], false, true⟩, some ⟨1, [.bool false], false, true⟩, some ⟨2, [p.v], true, false⟩, some ⟨3, [p.endT.v], false, true⟩, some ⟨1, [.int .i64 k], false, true⟩] ++ G))
   (fun H' => ∃ k : Nat, (p.valid = false → k = 0) ∧ (p.valid = true → k = min p.segs.length stop) ∧ ∃ G, H' = H ++ ([some ⟨2, [p.v], false, true⟩, some ⟨1, [.int .u8 stop], false, true⟩, some ⟨1, [.bool false], false, true⟩, some ⟨2, [p.v], true, false⟩, some ⟨3, [p.endT.v], false, true⟩, some ⟨1, [.int .i64 k], false, true⟩] ++ G)) ?_ ?_ ?_ ?_
 · exact ⟨Nat.zero_le _, [], by simp⟩
 · rintro k vs H' hL ⟨hk, G, rfl⟩
   have hv : p.valid = true := by
     cases hv : p.valid with
     | true => rfl
     | false => simp [Pp.all', hv] at hL
   rw [all_get hv] at hL
   obtain ⟨s, hs, rfl⟩ := Option.map_eq_some_iff.1 hL
   refine ⟨rfl, ?_⟩
   have hlt : k < p.segs.length := (List.getElem?_eq_some_iff.1 hs).1
   have hs' : p.segs[k] = s := by rw [List.getElem?_eq_getElem hlt] at hs; injection hs
   have ws := w.at hs
   have f1 : IntKind.i64.wrap ((k : Int) + 1) = ((k + 1 : Nat) : Int) := by rw [wrap_i64] <;> omega
   have f2 : IntKind.i64.wrap (stop : Int) = stop := by rw [wrap_i64] <;> omega
   have f3 : ¬ (p.segs.length : Int) ≤ k := by omega
   have f4 : (0 : Int) ≤ k := by omega
   simp [bindE, c_fplaw37_PipeValid_l0, c_fplaw37_PipeValid_l1, sgs, f3, f4, hlt, hs']
   refine WL_call rfl rfl rfl (RBEqual_cq s.tube s.tube ws.tube ws.tube) ?_
   simp [f2]
   exact ⟨fun h => ⟨k, by simp [hv], fun _ => by omega, rfl⟩, fun h => ⟨by omega, by rw [f1]; omega⟩⟩
 · rintro H' ⟨hk, G, rfl⟩
   refine ⟨_, fun hv => by simp [Pp.all', hv], fun hv => ?_, G, rfl⟩
   rw [all_len hv] at hk ⊢
   omega
 · rintro H' ⟨k, h1, h2, G, rfl⟩
   have f2 : IntKind.i64.wrap (stop : Int) = stop := by rw [wrap_i64] <;> omega
   simp [ivs, sgs]
   refine WL_call rfl rfl rfl (RPValid_cq p w) ?_
   cases hv : p.valid
   · have hk := h1 hv
     simp [Pp.endE, Pp.endB, hv, hk]
   have hk := h2 hv
   subst hk
   simp [f2]
   refine ⟨by split <;> omega, fun _ => ⟨fun hn => ?_, fun hn => ?_⟩⟩
   · simp [Pp.endE, Pp.endB, hv, hn]
   have h0 : 0 < p.segs.length := List.length_pos_iff.2 hn
   obtain ⟨z, hz⟩ : ∃ z, p.segs[p.segs.length - 1]? = some z := ⟨_, List.getElem?_eq_getElem (by omega)⟩
   have wz := w.at hz
   have he : p.endE = 0 := by simp [Pp.endE, hv, hn]
   have ht : p.endT = z.to := by simp [Pp.endT, hv, hz]
   have hb : p.endB = z.en := by simp [Pp.endB, hv, hz]
   simp [he]
   refine WL_call rfl rfl rfl (RLast_cq p z hz w.len) ?_
   simp
   refine WL_call rfl rfl rfl (REqual_cq p.endT z.to (endT_W w) wz.to) ?_
   have e1 : IntKind.i64.wrap ((p.segs.length : Int) - 1) = ((p.segs.length - 1 : Nat) : Int) := by rw [wrap_i64] <;> omega
   obtain ⟨j, hj⟩ : ∃ j, j = p.segs.length - 1 := ⟨_, rfl⟩
   rw [← hj] at hz e1
   simp [ht, e1, hz]
   refine WL_call rfl rfl rfl (RBEqual_cq p.endB z.en (endB_W w) wz.en) ?_
   simp [hb]

end Go.Abs.W

