/- Parts of the proof: FpMtR, FpMtI. -/
import Derived.Test.YtnlmgfdifcflgaaGreatFm
/- The reference's Ends and Tube. -/
namespace Go.Abs.W
set_option maxRecDepth 100000

def dyl (l : List Dy) : V := .sl (l.map Dy.v)

theorem RTube_cq (p : Pp) (a b : Dy) (w : p.W) (hv : p.valid = true) (oa : a.Ok) (ob : b.Ok) (hda : p.during a = true) : CQ prog g_fpref37_Tube [p.v, a.v, b.v] (ivs (p.over a b)) := by
 refine CQ_run rfl fun H => ?_
 simp
 refine WL_call rfl rfl rfl (ROver_cq p a b w hv oa ob hda) ?_
 simp

theorem Out.oneDy {H0 H : Heap} {v : V} {l : List Dy} (h : Out H0 H v 3 (l.map Dy.v)) (x : Dy) (hb : l.length + 1 ≤ 1000000000) :
   ∃ v' H', stpAppend 3 40 v (.ref H.length 3 0 1) (H ++ [some ⟨3, [x.v], true, true⟩]) = some (v', H') ∧ Out H0 H' v' 3 ((l ++ [x]).map Dy.v) := by
 have := (h.grow [some ⟨3, [x.v], true, true⟩]).app (y := .ref H.length 3 0 1) (ys := [x.v]) (bytes := 40) (by simp) (by simp) (by simp) (by simp; omega)
 simpa using this

theorem at2_left {a b : Pp} (wa : a.W) (va : a.valid = true) {from' : Dy} {i k : Nat} (h : At2 a b from' i k) {s : Sg} (hs : a.segs[i]? = some s) (hk : k = b.segs.length) : At2 a b s.to (i + 1) k := by
 have fs := seg_f wa va hs
 have g := h.sa s hs
 obtain ⟨n1, n2, n3⟩ := next_sg wa va hs fs.to g.1 g.2 (Int.le_refl _)
 have hz : ¬ s.to.cmp s.to < 0 := by rw [cmp_self]; omega
 rw [if_neg hz] at n1 n2 n3
 exact ⟨fs.to, n1, h.kb, n2, fun u hu => by have := (List.getElem?_eq_some_iff.1 hu).1; omega, n3, fun z hz hz' => by have := h.eb z hz hz'; omega⟩

theorem at2_right {a b : Pp} (wb : b.W) (vb : b.valid = true) {from' : Dy} {i k : Nat} (h : At2 a b from' i k) {u : Sg} (hu : b.segs[k]? = some u) (hi : i = a.segs.length) : At2 a b u.to i (k + 1) := by
 have fu := seg_f wb vb hu
 have g := h.sb u hu
 obtain ⟨n1, n2, n3⟩ := next_sg wb vb hu fu.to g.1 g.2 (Int.le_refl _)
 have hz : ¬ u.to.cmp u.to < 0 := by rw [cmp_self]; omega
 rw [if_neg hz] at n1 n2 n3
 exact ⟨fu.to, h.ia, n1, fun s hs => by have := (List.getElem?_eq_some_iff.1 hs).1; omega, n2, fun z hz hz' => by have := h.ea z hz hz'; omega, n3⟩

set_option maxHeartbeats 4000000 in
theorem REnds_cq (a b : Pp) (last : Dy) (wa : a.W) (wb : b.W) (va : a.valid = true) (vb : b.valid = true) {s0 u0 : Sg} (hb : Beg a b s0 u0) (hn : a.segs.length + b.segs.length ≤ 1000) (ol : last.Ok)
   (hl : ∀ za zb, a.segs[a.segs.length - 1]? = some za → b.segs[b.segs.length - 1]? = some zb → last.val ≤ za.to.val ∧ last.val ≤ zb.to.val ∧ (last.val = za.to.val ∨ last.val = zb.to.val)) :
   CQ prog g_fpref37_Ends [a.v, b.v, last.v] (dyl ((pcs a b).map (·.1))) := by
 refine CQ_run rfl fun H => ?_
 obtain ⟨za, hza⟩ : ∃ z, a.segs[a.segs.length - 1]? = some z := ⟨_, List.getElem?_eq_getElem (by have := (List.getElem?_eq_some_iff.1 hb.sa).1; omega)⟩
 obtain ⟨zb, hzb⟩ : ∃ z, b.segs[b.segs.length - 1]? = some z := ⟨_, List.getElem?_eq_getElem (by have := (List.getElem?_eq_some_iff.1 hb.ub).1; omega)⟩
 obtain ⟨l1, l2, l3⟩ := hl za zb hza hzb
 simp
 refine WK_loop (fun m E H' => ∃ i k from' o f, E 3 = .ptr H.length 0 0 ∧ E 4 = .ptr (H.length + 1) 0 0 ∧ E 5 = .ptr (H.length + 2) 0 0 ∧ E 8 = .int .i64 (i : Nat) ∧ E 9 = .int .i64 (k : Nat) ∧ At2 a b from' i k ∧ m + i + k = a.segs.length + b.segs.length ∧
     Out (H ++ [some ⟨2, [a.v], false, true⟩, some ⟨2, [b.v], false, true⟩, some ⟨3, [last.v], false, true⟩]) H' (E 7) 3 (o.map Dy.v) ∧ o.length ≤ i + k ∧ m ≤ f ∧ o ++ (pcI a b f i k).map (·.1) = (pcs a b).map (·.1)) (a.segs.length + b.segs.length) ?_ ?_
 · refine ⟨0, 0, s0.fr, [], a.segs.length + b.segs.length, by simp, by simp, by simp, by simp, by simp, hb.at2 wa wb va vb, by omega, ?_, by simp, by omega, rfl⟩
   simp
   exact .nil
 · rintro m E H' ⟨i, k, from', o, f, h3, h4, h5, h8, h9, hat, hm, hout, hol, hmf, ho⟩
   have hpre := hout.pre
   have gA : ∀ l : Heap, (H' ++ l)[H.length]? = some (some ⟨2, [a.v], false, true⟩) := by
     intro l; obtain ⟨t, rfl⟩ := hpre; simp
   have gB : ∀ l : Heap, (H' ++ l)[H.length + 1]? = some (some ⟨2, [b.v], false, true⟩) := by
     intro l; obtain ⟨t, rfl⟩ := hpre; simp
   have gL : ∀ l : Heap, (H' ++ l)[H.length + 2]? = some (some ⟨3, [last.v], false, true⟩) := by
     intro l; obtain ⟨t, rfl⟩ := hpre; simp
   have gA0 : H'[H.length]? = some (some ⟨2, [a.v], false, true⟩) := by have := gA []; rwa [List.append_nil] at this
   have gB0 : H'[H.length + 1]? = some (some ⟨2, [b.v], false, true⟩) := by have := gB []; rwa [List.append_nil] at this
   have gL0 : H'[H.length + 2]? = some (some ⟨3, [last.v], false, true⟩) := by have := gL []; rwa [List.append_nil] at this
   have c1 : (i : Int) < a.segs.length ↔ i < a.segs.length := by omega
   have c2 : (k : Int) < b.segs.length ↔ k < b.segs.length := by omega
   have c3 : (k : Int) = b.segs.length ↔ k = b.segs.length := by omega
   have i0 : (0 : Int) ≤ i := by omega
   have k0 : (0 : Int) ≤ k := by omega
   have hia := hat.ia
   have hkb := hat.kb
   refine WC_round ?_
   by_cases hlt : i < a.segs.length
   · obtain ⟨s, hs⟩ : ∃ s, a.segs[i]? = some s := ⟨_, List.getElem?_eq_getElem hlt⟩
     have es : a.segs[i] = s := by rw [List.getElem?_eq_getElem hlt] at hs; injection hs
     have fs := seg_f wa va hs
     have qs := hat.sa s hs
     have f1 : IntKind.i64.wrap ((i : Int) + 1) = ((i + 1 : Nat) : Int) := by rw [wrap_i64] <;> omega
     by_cases hlk : k < b.segs.length
     · obtain ⟨u, hu⟩ : ∃ u, b.segs[k]? = some u := ⟨_, List.getElem?_eq_getElem hlk⟩
       have eu : b.segs[k] = u := by rw [List.getElem?_eq_getElem hlk] at hu; injection hu
       have fu := seg_f wb vb hu
       have qu := hat.sb u hu
       have f2 : IntKind.i64.wrap ((k : Int) + 1) = ((k + 1 : Nat) : Int) := by rw [wrap_i64] <;> omega
       have hkn : ¬ k = b.segs.length := by omega
       obtain ⟨f', rfl⟩ : ∃ f', f = f' + 1 := ⟨f - 1, by omega⟩
       simp [c_fpref37_Ends_l0, h3, h4, h8, h9, gA0, gA, gB, c1, c3, hlt, hlk, hkn, i0, k0, sgs, es, eu]
       refine WL_call rfl rfl rfl (RCmp_cq s.to u.to fs.to fu.to) ?_
       obtain ⟨t, ht⟩ : ∃ t, t = if u.to.cmp s.to < 0 then u.to else s.to := ⟨_, rfl⟩
       obtain ⟨hpc, hat'⟩ := at2_next wa wb va vb hat hs hu ht
       have hlast : t.cmp last ≤ 0 := by
         rw [cmp_val hpc.to.valid ol.valid, cmpI_le_iff]
         have k1 := seg_last wa va hs hza
         have k2 := seg_last wb vb hu hzb
         have : t.val ≤ s.to.val ∧ t.val ≤ u.to.val := by
           obtain ⟨s', u', hs', hu', _, j1, _, j2⟩ := hpc.ex
           rw [hs] at hs'; injection hs' with hs'; rw [hu] at hu'; injection hu' with hu'
           rw [hs', hu']; exact ⟨j1, j2⟩
         omega
       have ho' : (o ++ [t]) ++ (pcI a b f' (if t.cmp s.to < 0 then i else i + 1) (if t.cmp u.to < 0 then k else k + 1)).map (·.1) = (pcs a b).map (·.1) := by
         rw [← ho, ht]
         simp only [pcI, hs, hu, List.map_cons, List.append_assoc, List.singleton_append]
       have anti := cmp_anti s.to u.to
       have hob : o.length + 1 ≤ 1000000000 := by omega
       by_cases hc : u.to.cmp s.to < 0
       · have hc' : ¬ s.to.cmp u.to ≤ 0 := by omega
         rw [if_pos hc] at ht
         subst ht
         simp [hc', h4, h5, h9, gB, gL, k0, sgs, hlk, eu]
         refine WL_call rfl rfl rfl (RCmp_cq u.to last fu.to ol) ?_
         obtain ⟨v', H'', e', hout'⟩ := (hout.grow [some ⟨3, [u.to.v], false, true⟩]).oneDy u.to hob
         simp only [Dy.v] at e'
         simp at e'
         simp [hlast, e', h3, h4, h5, h8, f2]
         have hz : ¬ u.to.cmp u.to < 0 := by rw [cmp_self]; omega
         rw [if_pos hc, if_neg hz] at hat' ho'
         exact ⟨m - 1, by omega, i, rfl, k + 1, by omega, ⟨_, hat'⟩, by omega, o ++ [u.to], hout', by simp; omega, f', by omega, ho'⟩
       · have hc' : s.to.cmp u.to ≤ 0 := by omega
         rw [if_neg hc] at ht
         subst ht
         simp [hc', h3, h4, h8, h9, gA, gB, i0, k0, sgs, hlt, hlk, es, eu, c2]
         refine WL_call rfl rfl rfl (REqual_cq s.to u.to fs.to.w fu.to.w) ?_
         have hz : ¬ s.to.cmp s.to < 0 := by rw [cmp_self]; omega
         rw [if_neg hz] at hat' ho'
         obtain ⟨v', H'', e', hout'⟩ := (hout.grow [some ⟨3, [s.to.v], false, true⟩]).oneDy s.to hob
         simp only [Dy.v] at e'
         simp at e'
         by_cases heq : s.to = u.to
         · have hz2 : ¬ s.to.cmp u.to < 0 := by rw [heq, cmp_self]; omega
           rw [if_neg hz2] at hat' ho'
           simp [heq, h5, h8, h9, gL, f2]
           rw [heq] at hlast e' hout' ho' hat'
           refine WL_call rfl rfl rfl (RCmp_cq u.to last fu.to ol) ?_
           simp [hlast, e', h3, h4, h5, f1]
           exact ⟨m - 2, by omega, i + 1, by omega, k + 1, by omega, ⟨_, hat'⟩, by omega, o ++ [u.to], hout', by simp; omega, f', by omega, ho'⟩
         · have hz2 : s.to.cmp u.to < 0 := by
             have := cmp_zero fs.to fu.to
             have : ¬ s.to.cmp u.to = 0 := fun h => heq (this.1 h)
             omega
           rw [if_pos hz2] at hat' ho'
           simp [heq, h5, h8, gL]
           refine WL_call rfl rfl rfl (RCmp_cq s.to last fs.to ol) ?_
           simp [hlast, e', h3, h4, h5, h9, f1]
           exact ⟨m - 1, by omega, i + 1, by omega, k, rfl, ⟨_, hat'⟩, by omega, o ++ [s.to], hout', by simp; omega, f', by omega, ho'⟩
     · have hkn : k = b.segs.length := by omega
       have hlate : ¬ s.to.cmp last ≤ 0 := by
         rw [cmp_val fs.to.valid ol.valid, cmpI_le_iff]
         have := hat.eb zb hkn hzb
         omega
       simp [c_fpref37_Ends_l0, h3, h4, h5, h8, h9, gA0, gA, gB, gL, c1, hkn, hlt, i0, sgs, es]
       refine WL_call rfl rfl rfl (RCmp_cq s.to last fs.to ol) ?_
       simp [hlate, h3, h4, h5, h9, f1]
       rw [pcI_nil (.inr (by omega))] at ho
       exact ⟨m - 1, by omega, i + 1, by omega, k, rfl, ⟨_, at2_left wa va hat hs hkn⟩, by omega, o, hout.grow _, by omega, f, by omega, by rw [pcI_nil (.inr (by omega))]; exact ho⟩
   · have hin : i = a.segs.length := by omega
     by_cases hlk : k < b.segs.length
     · obtain ⟨u, hu⟩ : ∃ u, b.segs[k]? = some u := ⟨_, List.getElem?_eq_getElem hlk⟩
       have eu : b.segs[k] = u := by rw [List.getElem?_eq_getElem hlk] at hu; injection hu
       have fu := seg_f wb vb hu
       have qu := hat.sb u hu
       have f2 : IntKind.i64.wrap ((k : Int) + 1) = ((k + 1 : Nat) : Int) := by rw [wrap_i64] <;> omega
       have hkn : ¬ k = b.segs.length := by omega
       have hlate : ¬ u.to.cmp last ≤ 0 := by
         rw [cmp_val fu.to.valid ol.valid, cmpI_le_iff]
         have := hat.ea za hin hza
         omega
       simp [c_fpref37_Ends_l0, h3, h4, h5, h8, h9, gA0, gB0, gA, gB, gL, c1, c2, c3, hlt, hlk, hkn, k0, sgs, eu]
       refine WL_call rfl rfl rfl (RCmp_cq u.to last fu.to ol) ?_
       simp [hlate, h3, h4, h5, h8, f2]
       rw [pcI_nil (.inl (by omega))] at ho
       exact ⟨m - 1, by omega, i, rfl, k + 1, by omega, ⟨_, at2_right wb vb hat hu hin⟩, by omega, o, hout.grow _, by omega, f, by omega, by rw [pcI_nil (.inl (by omega))]; exact ho⟩
     · rw [pcI_nil (.inl (by omega))] at ho
       simp at ho
       simp [c_fpref37_Ends_l0, h3, h4, h8, h9, gA0, gB0, c1, c2, hlt, hlk, sgs]
       have := hout.fin (H1 := H) (List.prefix_append _ _)
       rw [this, ho]
       rfl

end Go.Abs.W

/- The program's Inside, where it holds. -/
namespace Go.Abs.W
set_option maxRecDepth 100000

set_option maxHeartbeats 1000000 in
theorem IndexDy_ev {H : Heap} {g : Nat} {caps : List V} (l : List Dy) (hl : l.length ≤ 9223372036854775807) (h : ∀ x ∈ l, Cb H g caps [x.v] (.bool false)) :
   Ev prog (.call g_slices_IndexFunc_Dyadic [dyl l, .fn g caps] H) (.ret (.int .i64 (-1)) H) := by
 refine Ev_run rfl ?_
 simp [dyl]
 refine WK_up (fun i E H' => H' = H ∧ E 0 = dyl l ∧ E 1 = .fn g caps ∧ E 7 = .int .i64 l.length ∧ E 8 = .int .i64 i) l.length ?_ ?_
 · simp [dyl]
 · rintro i E H' hi ⟨rfl, h0, h1, h7, h8⟩
   simp only [dyl] at h0 ⊢
   rcases Nat.lt_or_ge i l.length with hlt | hge
   · have e2 : IntKind.i64.wrap ((i : Int) + 1) = ((i + 1 : Nat) : Int) := by rw [wrap_i64] <;> omega
     simp [c_slices_IndexFunc_Dyadic_l0, h7, h8, h0, h1, hlt]
     refine WL_cb (h l[i] (List.getElem_mem hlt)) (List.prefix_refl _) rfl rfl ?_
     simp [h0, h1, h7, h8, e2]
   · have hin : i = l.length := by omega
     subst hin
     simp [c_slices_IndexFunc_Dyadic_l0, h7, h8]

theorem ContainsDy_ev {H : Heap} {g : Nat} {caps : List V} (l : List Dy) (hl : l.length ≤ 9223372036854775807) (h : ∀ x ∈ l, Cb H g caps [x.v] (.bool false)) :
   Ev prog (.call g_slices_ContainsFunc_Dyadic [dyl l, .fn g caps] H) (.ret (.bool false) H) := by
 refine Ev_run rfl ?_
 simp [dyl]
 refine WL_ev rfl rfl rfl (IndexDy_ev l hl h) ?_
 simp

theorem in1_ev {H : Heap} {ka kb : Nat} (m p : Pp) (t : Dy) (wm : m.W) (wp : p.W) (wt : t.W) (dm : m.during t = true) (dp : p.during t = true) (hm : H[ka]? = some (some ⟨2, [m.v], false, true⟩)) (hp : H[kb]? = some (some ⟨2, [p.v], false, true⟩)) :
   Ev prog (.call g_pipe_Inside_1 [t.v, .ptr ka 0 0, .ptr kb 0 0] H) (.ret (.bool (!boxIns (m.at t) (p.at t))) H) := by
 refine Ev_run rfl ?_
 have hm' : ∀ l : Heap, (H ++ l)[ka]? = some (some ⟨2, [m.v], false, true⟩) := fun l => getE_pre hm
 have hp' : ∀ l : Heap, (H ++ l)[kb]? = some (some ⟨2, [p.v], false, true⟩) := fun l => getE_pre hp
 obtain ⟨m0, mi, hmi⟩ := during_num dm
 obtain ⟨p0, pi, hpi⟩ := during_num dp
 simp [hm']
 refine WL_call rfl rfl rfl (at_cq m t wm wt mi m0 hmi) ?_
 simp [hp']
 refine WL_call rfl rfl rfl (at_cq p t wp wt pi p0 hpi) ?_
 simp
 refine WL_call rfl rfl rfl (BInside_cq (m.at t) (p.at t) (at_W wm) (at_W wp)) ?_
 simp

theorem WL_evF {n0 : Nat} {Q : AX → Env → Heap → Prop} {dst : Option Nat} {sy : Bool} {l : List AOper} {K : List Fr} {E : Env} {H H1 : Heap} {x : X} {caps args vs : List V} {xs : List X} {g : Nat} {v : V}
   (hx : getX E x = .fn g caps) (ha : xs.map (getX E) ++ caps = args) (hp : prep prog g H args = some (vs, H1)) (h : Ev prog (.call g vs H1) (.ret v H1)) (k : WL prog n0 false l K (put E dst v) H1 Q) : WLcall prog n0 false dst x xs sy l K E H Q :=
 WO_call hx ha hp ⟨_, _, h, fun h => by simp at h, k⟩

theorem Out.app2 {H0 H : Heap} {v y : V} {z bytes : Nat} {l ys : List V} (h : Out H0 H v z l) (hy : elems H y = some ys) (hz : headOk z ys = true) (hn : ys ≠ []) (hb : (l.length + ys.length) * bytes ≤ 140737488355328) :
   ∃ v' H', stpAppend z bytes v y H = some (v', H') ∧ Out H0 H' v' z (l ++ ys) ∧ ∀ (c : Nat) (k : Blk), H[c]? = some (some k) → k.arr = false → H'[c]? = some (some k) := by
 obtain ⟨v', H', e, o⟩ := h.app hy hz hn hb
 refine ⟨v', H', e, o, fun c k hc hk => ?_⟩
 unfold stpAppend at e
 rw [hy] at e
 simp only [Option.bind_some, hz, if_true] at e
 rcases h.val with ⟨h1, h2⟩ | ⟨b, blk, h1, h2, h3, h4, h5⟩
 · subst h1; subst h2
   have : appendLimit ys.length bytes = true := by simp [appendLimit]; simpa using hb
   simp only [hn, if_false, this, if_true] at e
   injection e with e; injection e with _ e
   rw [← e]; exact getE_pre hc
 · subst h2
   have : appendLimit (l.length + ys.length) bytes = true := by simp [appendLimit]; simpa using hb
   simp only [h3, hn, if_false, this] at e
   simp only [Nat.zero_add, h5, and_self, if_true, List.drop_zero, h4] at e
   injection e with e; injection e with _ e
   have hne : b ≠ c := fun q => by
     subst q
     rw [h3] at hc
     injection hc with hc; injection hc with hc
     rw [← hc] at hk; cases hk
   rw [← e]
   refine getE_pre ?_
   rw [List.getElem?_set_ne hne]; exact hc

theorem Out.oneDy2 {H0 H : Heap} {v : V} {l : List Dy} (h : Out H0 H v 3 (l.map Dy.v)) (x : Dy) (hb : l.length + 1 ≤ 1000000000) :
   ∃ v' H', stpAppend 3 40 v (.ref H.length 3 0 1) (H ++ [some ⟨3, [x.v], true, true⟩]) = some (v', H') ∧ Out H0 H' v' 3 ((l ++ [x]).map Dy.v) ∧ ∀ (c : Nat) (k : Blk), H[c]? = some (some k) → k.arr = false → H'[c]? = some (some k) := by
 obtain ⟨v', H', h1, h2, h3⟩ := (h.grow [some ⟨3, [x.v], true, true⟩]).app2 (y := .ref H.length 3 0 1) (ys := [x.v]) (bytes := 40) (by simp) (by simp) (by simp) (by simp; omega)
 exact ⟨v', H', h1, by simpa using h2, fun c k hc hk => h3 c k (getE_pre hc) hk⟩

theorem Out.frzV {H0 H : Heap} {v : V} {z : Nat} {l : List V} (h : Out H0 H v z l) : ∃ H', H0 <+: H' ∧ Go.Abs.frzV H v = some (.sl l, H') := by
 obtain ⟨H', h1, h2, _⟩ := h.frz
 refine ⟨H', h1, ?_⟩
 rcases h.val with ⟨_, e⟩ | ⟨b, blk, _, e, _⟩ <;> subst e <;> exact h2

set_option maxHeartbeats 4000000 in
theorem PInside_cq (m p : Pp) (h : Inn m p) (hn : m.segs.length + p.segs.length ≤ 10000) : CQ prog g_pipe_Inside [m.v, p.v] (.bool true) := by
 refine CQ_run rfl fun H => ?_
 have wm := h.wm
 have wp := h.wp
 obtain ⟨g, z, hg, hz, e⟩ := h.nm
 have fg := seg_f wm h.vm hg
 have fz := seg_f wp h.vp hz
 have lm := (List.getElem?_eq_some_iff.1 hg).1
 have lp := (List.getElem?_eq_some_iff.1 hz).1
 have nm : ¬ m.segs = [] := fun e => by rw [e] at lm; simp at lm
 have np : ¬ p.segs = [] := fun e => by rw [e] at lp; simp at lp
 obtain ⟨y, hy⟩ : ∃ y, m.segs[m.segs.length - 1]? = some y := ⟨_, List.getElem?_eq_getElem (by omega)⟩
 have fy := seg_f wm h.vm hy
 have hst := (boxIns_len h.st).2.2
 have d0 : m.during g.fr = true := seg_during wm h.vm hg fg.fr (Int.le_refl _) (by have := fg.lt; omega)
 have d1 : m.during y.to = true := seg_during wm h.vm hy fy.to (by have := fy.lt; omega) (Int.le_refl _)
 have dp0 := (h.at fg.fr d0).1
 have dp1 := (h.at fy.to d1).1
 have dur1 := during_cq p g.fr wp fg.fr.w
 have dur2 := during_cq p y.to wp fy.to.w
 rw [dp0] at dur1
 rw [dp1] at dur2
 have val1 := PValid_cq m wm
 have val2 := PValid_cq p wp
 rw [h.vm] at val1
 rw [h.vp] at val2
 simp
 refine WL_call rfl rfl rfl val1 ?_
 simp
 refine WL_call rfl rfl rfl val2 ?_
 simp [sgs, ivs, nm, np, hst]
 refine WL_call rfl rfl rfl (begin_cq m g hg) ?_
 simp
 refine WL_call rfl rfl rfl dur1 ?_
 simp
 refine WL_call rfl rfl rfl (last_cq m y hy wm.len) ?_
 simp
 refine WL_call rfl rfl rfl dur2 ?_
 simp
 refine WL_call rfl rfl rfl (begin_cq m g hg) ?_
 simp
 refine WK_up (fun i E H' => E 2 = .ptr H.length 0 0 ∧ E 3 = .ptr (H.length + 1) 0 0 ∧ E 60 = sgs p.segs ∧ E 61 = .int .i64 p.segs.length ∧ E 62 = .int .i64 i ∧
   ∃ o : List Dy, Out (H ++ [some ⟨2, [m.v], false, true⟩, some ⟨2, [p.v], false, true⟩]) H' (E 5) 3 (o.map Dy.v) ∧ o.length ≤ i + 1 ∧ ∀ t ∈ o, t.Ok ∧ m.during t = true) p.segs.length ?_ ?_
 · simp [sgs]
   refine ⟨[g.fr], ⟨by simp [ivs], .inr ⟨H.length + 2, [g.fr.v], by simp, by simp, by simp, by simp, by simp⟩⟩, by simp, by simp; exact ⟨fg.fr, d0⟩⟩
 · rintro i E H' hi ⟨h2, h3, h60, h61, h62, o, hout, hol, ho⟩
   simp only [sgs] at h60
   have hpre := hout.pre
   have gA : ∀ l : Heap, (H' ++ l)[H.length]? = some (some ⟨2, [m.v], false, true⟩) := by
     intro l; obtain ⟨t, rfl⟩ := hpre; simp
   have gB : ∀ l : Heap, (H' ++ l)[H.length + 1]? = some (some ⟨2, [p.v], false, true⟩) := by
     intro l; obtain ⟨t, rfl⟩ := hpre; simp
   have gA0 : H'[H.length]? = some (some ⟨2, [m.v], false, true⟩) := by have := gA []; rwa [List.append_nil] at this
   rcases Nat.lt_or_ge i p.segs.length with hlt | hge
   · obtain ⟨k, hk⟩ : ∃ k, p.segs[i]? = some k := ⟨_, List.getElem?_eq_getElem hlt⟩
     have ek : p.segs[i] = k := by rw [List.getElem?_eq_getElem hlt] at hk; injection hk
     have fk := seg_f wp h.vp hk
     have f1 : IntKind.i64.wrap ((i : Int) + 1) = ((i + 1 : Nat) : Int) := by rw [wrap_i64] <;> omega
     simp [c_pipe_Inside_l0, h2, h60, h61, h62, hlt, ek, gA]
     refine WL_call rfl rfl rfl (during_cq m k.to wm fk.to.w) ?_
     cases hd : m.during k.to
     · simp [h2, h3, h60, h61, h62, f1, sgs]
       exact ⟨o, hout.grow _, by omega, ho⟩
     · obtain ⟨v', H'', e', hout'⟩ := (hout.grow [some ⟨8, [k.v], false, true⟩]).oneDy k.to (by omega)
       simp only [Sg.v, Dy.v] at e'
       simp at e'
       simp [h2, h3, h60, h61, h62, f1, sgs, e']
       refine ⟨o ++ [k.to], hout', by simp; omega, fun t ht => ?_⟩
       rcases List.mem_append.1 ht with ht | ht
       · exact ho t ht
       · simp at ht; subst ht; exact ⟨fk.to, hd⟩
   · have hin : i = p.segs.length := by omega
     subst hin
     simp [c_pipe_Inside_l0, h2, h61, h62, gA0, sgs]
     refine WK_up (fun j E H' => E 2 = .ptr H.length 0 0 ∧ E 3 = .ptr (H.length + 1) 0 0 ∧ E 77 = sgs m.segs ∧ E 78 = .int .i64 m.segs.length ∧ E 79 = .int .i64 j ∧
       ∃ o : List Dy, Out (H ++ [some ⟨2, [m.v], false, true⟩, some ⟨2, [p.v], false, true⟩]) H' (E 5) 3 (o.map Dy.v) ∧ o.length ≤ p.segs.length + 1 + j ∧ ∀ t ∈ o, t.Ok ∧ m.during t = true) m.segs.length ?_ ?_
     · simp [h2, h3, sgs]
       exact ⟨o, hout, by omega, ho⟩
     · clear h2 h3 h60 h61 h62 hout hol ho hpre gA gB gA0
       rintro j E H' hj ⟨h2, h3, h77, h78, h79, o, hout, hol, ho⟩
       simp only [sgs] at h77
       have hpre := hout.pre
       rcases Nat.lt_or_ge j m.segs.length with hlt | hge
       · obtain ⟨s, hs⟩ : ∃ s, m.segs[j]? = some s := ⟨_, List.getElem?_eq_getElem hlt⟩
         have es : m.segs[j] = s := by rw [List.getElem?_eq_getElem hlt] at hs; injection hs
         have fs := seg_f wm h.vm hs
         have ws := wm.at hs
         have f1 : IntKind.i64.wrap ((j : Int) + 1) = ((j + 1 : Nat) : Int) := by rw [wrap_i64] <;> omega
         obtain ⟨v', H'', e', hout', hkeep⟩ := (hout.grow [some ⟨8, [s.v], false, true⟩]).oneDy2 s.to (by omega)
         have hbox := hkeep H'.length ⟨8, [s.v], false, true⟩ (by simp) rfl
         clear hkeep
         have hpre' := hout'.pre
         have gB : H''[H.length + 1]? = some (some ⟨2, [p.v], false, true⟩) := by
           obtain ⟨t, rfl⟩ := hpre'; simp
         simp only [Sg.v, Dy.v] at e'
         simp at e'
         simp [c_pipe_Inside_l2, h3, h77, h78, h79, hlt, es, e', gB, sgs]
         refine WK_up (fun i E' H3 => E' 2 = .ptr H.length 0 0 ∧ E' 3 = .ptr (H.length + 1) 0 0 ∧ E' 77 = sgs m.segs ∧ E' 78 = .int .i64 m.segs.length ∧ E' 79 = .int .i64 j ∧ E' 5 = v' ∧ E' 9 = .ptr H'.length 0 0 ∧ E' 89 = sgs p.segs ∧ E' 90 = .int .i64 p.segs.length ∧ E' 91 = .int .i64 i ∧
           Out (H ++ [some ⟨2, [m.v], false, true⟩, some ⟨2, [p.v], false, true⟩]) H3 v' 3 ((o ++ [s.to]).map Dy.v) ∧ H3[H'.length]? = some (some ⟨8, [s.v], false, true⟩)) p.segs.length ?_ ?_
         · simp [h2, h3, h77, h78, h79, sgs]
           exact ⟨by simpa [sgs] using hout', hbox⟩
         · clear hbox hout' e' hpre' gB
           rintro i E' H3 hi ⟨k2, k3, k77, k78, k79, k5, k9, k89, k90, k91, hout', hbox⟩
           simp only [sgs] at k89 k77
           rcases Nat.lt_or_ge i p.segs.length with hlt' | hge'
           · obtain ⟨k, hk⟩ : ∃ k, p.segs[i]? = some k := ⟨_, List.getElem?_eq_getElem hlt'⟩
             have ek : p.segs[i] = k := by rw [List.getElem?_eq_getElem hlt'] at hk; injection hk
             have fk := seg_f wp h.vp hk
             have wk := wp.at hk
             have f2 : IntKind.i64.wrap ((i : Int) + 1) = ((i + 1 : Nat) : Int) := by rw [wrap_i64] <;> omega
             have hbox' : ∀ l : Heap, (H3 ++ l)[H'.length]? = some (some ⟨8, [s.v], false, true⟩) := fun l => getE_pre hbox
             have hov := fun h1 h2 => h.overlap (g := s) (k := k) (List.mem_of_getElem? hs) (List.mem_of_getElem? hk) h1 h2
             simp [c_pipe_Inside_l1, k9, k89, k90, k91, hlt', ek, hbox']
             refine WL_call rfl rfl rfl (less_cq s.fr k.to ws.fr wk.to) ?_
             by_cases c1 : s.fr.cmp k.to < 0
             · simp [c1, k9, hbox']
               refine WL_call rfl rfl rfl (less_cq k.fr s.to wk.fr ws.to) ?_
               by_cases c2 : k.fr.cmp s.to < 0
               · have hins := BInside_cq s.tube k.tube ws.tube wk.tube
                 rw [hov c1 c2] at hins
                 simp [c2, k9, hbox']
                 refine WL_call rfl rfl rfl hins ?_
                 simp [k2, k3, k77, k78, k79, k5, k9, k89, k90, k91, f2, sgs, hbox']
                 simpa [sgs] using hout'.grow _
               · simp [c2, k2, k3, k77, k78, k79, k5, k9, k89, k90, k91, f2, sgs, hbox']
                 simpa [sgs] using hout'.grow _
             · simp [c1, k2, k3, k77, k78, k79, k5, k9, k89, k90, k91, f2, sgs, hbox']
               simpa [sgs] using hout'.grow _
           · have hin : i = p.segs.length := by omega
             subst hin
             simp [c_pipe_Inside_l1, k2, k3, k77, k78, k79, k5, k90, k91, f1, sgs]
             refine ⟨o ++ [s.to], hout', by simp; omega, fun t ht => ?_⟩
             rcases List.mem_append.1 ht with ht | ht
             · exact ho t ht
             · simp at ht; subst ht; exact ⟨fs.to, seg_during wm h.vm hs fs.to (by have := fs.lt; omega) (Int.le_refl _)⟩
       · have hin : j = m.segs.length := by omega
         subst hin
         obtain ⟨H4, hp4, hf4⟩ := hout.frzV
         have gA : H4[H.length]? = some (some ⟨2, [m.v], false, true⟩) := by obtain ⟨t, rfl⟩ := hp4; simp
         have gB : H4[H.length + 1]? = some (some ⟨2, [p.v], false, true⟩) := by obtain ⟨t, rfl⟩ := hp4; simp
         simp [c_pipe_Inside_l2, h2, h3, h78, h79, V.isCell]
         refine WL_evF (vs := [dyl o, .fn g_pipe_Inside_1 [.ptr H.length 0 0, .ptr (H.length + 1) 0 0]]) (H1 := H4) rfl rfl ?_ (ContainsDy_ev o (by omega) fun t ht => ?_) ?_
         · have hf : prog.fn 591 = some c_slices_ContainsFunc_Dyadic := rfl
           have hg : frzV H4 (.fn 592 [.ptr H.length 0 0, .ptr (H.length + 1) 0 0]) = some (.fn 592 [.ptr H.length 0 0, .ptr (H.length + 1) 0 0], H4) := rfl
           unfold prep
           simp only [hf]
           simp [frzVs, hf4, hg, dyl]
         · obtain ⟨ot, dt⟩ := ho t ht
           have hi := h.at ot dt
           intro H5 hp5
           refine ⟨rfl, ?_⟩
           have := in1_ev m p t wm wp ot.w dt hi.1 (getE_prefix hp5 gA) (getE_prefix hp5 gB)
           rw [hi.2] at this
           exact this
         · have hp : H <+: H4 := (List.prefix_append _ _).trans hp4
           simp [take_pre hp]

end Go.Abs.W

