/- Parts of the proof: FpHull, FpHull2, FpOver, FpOverR, FpLawAt. -/
import Derived.Test.YtnlmgfdifcflgaaGreatGr
import Derived.Test.YtnlmgfdifcflgaaGreatFd
/- Hulls of intervals and boxes. -/
namespace Go.Abs.W

def Dy.lo2 (a b : Dy) : Dy := if a.cmp b ≤ 0 then a else b
def Dy.hi2 (a b : Dy) : Dy := if 0 ≤ a.cmp b then a else b
def Iv.known (x : Iv) : Bool := !x.all && x.valid
def Iv.whole : Iv := ⟨⟨false, [], 0⟩, ⟨false, [], 0⟩, true⟩
def Iv.hull (x y : Iv) : Iv := if x.known && y.known then ⟨x.lo.lo2 y.lo, x.hi.hi2 y.hi, false⟩ else Iv.whole

theorem Dy.W.lo2 {a b : Dy} (ha : a.W) (hb : b.W) : (a.lo2 b).W := by unfold Dy.lo2; split <;> assumption
theorem Dy.W.hi2 {a b : Dy} (ha : a.W) (hb : b.W) : (a.hi2 b).W := by unfold Dy.hi2; split <;> assumption
theorem Iv.W.hull {x y : Iv} (hx : x.W) (hy : y.W) : (x.hull y).W := by
 unfold Iv.hull; split
 · exact ⟨hx.lo.lo2 hy.lo, hx.hi.hi2 hy.hi⟩
 · exact ⟨⟨by intro x hx; simp [Iv.whole] at hx, by simp [Iv.whole]⟩, ⟨by intro x hx; simp [Iv.whole] at hx, by simp [Iv.whole]⟩⟩

theorem iless_cq (a b : Dy) (wa : a.W) (wb : b.W) : CQ prog g_interval_less [a.v, b.v] (a.lo2 b).v := by
 refine CQ_run rfl fun H => ?_
 simp
 refine WL_call rfl rfl rfl (DCmp_cq a b wa wb) ?_
 simp [Dy.lo2]
 refine ⟨fun h => by simp [h], fun h => ?_⟩
 have : ¬ a.cmp b ≤ 0 := by omega
 simp [this]

theorem imore_cq (a b : Dy) (wa : a.W) (wb : b.W) : CQ prog g_interval_more [a.v, b.v] (a.hi2 b).v := by
 refine CQ_run rfl fun H => ?_
 simp
 refine WL_call rfl rfl rfl (DCmp_cq a b wa wb) ?_
 simp [Dy.hi2]
 refine ⟨fun h => by simp [h], fun h => ?_⟩
 have : ¬ 0 ≤ a.cmp b := by omega
 simp [this]

theorem least_cq (a b : Dy) (oa : a.Ok) (ob : b.Ok) : CQ prog g_fpref05_least [a.v, b.v] (a.lo2 b).v := by
 refine CQ_run rfl fun H => ?_
 simp
 refine WL_call rfl rfl rfl (RCmp_cq a b oa ob) ?_
 simp [Dy.lo2]
 refine ⟨fun h => by simp [h], fun h => ?_⟩
 have : ¬ a.cmp b ≤ 0 := by omega
 simp [this]

theorem most_cq (a b : Dy) (oa : a.Ok) (ob : b.Ok) : CQ prog g_fpref05_most [a.v, b.v] (a.hi2 b).v := by
 refine CQ_run rfl fun H => ?_
 simp
 refine WL_call rfl rfl rfl (RCmp_cq a b oa ob) ?_
 simp [Dy.hi2]
 refine ⟨fun h => by simp [h], fun h => ?_⟩
 have : ¬ 0 ≤ a.cmp b := by omega
 simp [this]

theorem RWhole_cq : CQ prog g_fpref05_Whole [] Iv.whole.v := by
 refine CQ_run rfl fun H => ?_
 simp [Iv.whole, lim]

theorem Rknown_cq (x : Iv) (w : x.W) : CQ prog g_fpref05_known [x.v] (.bool x.known) := by
 refine CQ_run rfl fun H => ?_
 simp
 refine WL_call rfl rfl rfl (RIValid_cq x w) ?_
 simp [Iv.known]
 grind

theorem known_ok {x : Iv} (w : x.W) (h : x.known = true) : x.lo.Ok ∧ x.hi.Ok := by
 simp [Iv.known] at h
 exact ⟨w.okLo h.2 h.1, w.okHi h.2 h.1⟩

theorem RHull_cq (x y : Iv) (wx : x.W) (wy : y.W) : CQ prog g_fpref05_Hull [x.v, y.v] (x.hull y).v := by
 refine CQ_run rfl fun H => ?_
 simp
 refine WL_call rfl rfl rfl (Rknown_cq x wx) ?_
 cases hx : x.known
 · simp
   refine WL_call rfl rfl rfl RWhole_cq ?_
   simp [Iv.hull, hx]
 · simp
   refine WL_call rfl rfl rfl (Rknown_cq y wy) ?_
   cases hy : y.known
   · simp
     refine WL_call rfl rfl rfl RWhole_cq ?_
     simp [Iv.hull, hy]
   · simp
     refine WL_call rfl rfl rfl (least_cq x.lo y.lo (known_ok wx hx).1 (known_ok wy hy).1) ?_
     simp
     refine WL_call rfl rfl rfl (most_cq x.hi y.hi (known_ok wx hx).2 (known_ok wy hy).2) ?_
     simp [Iv.hull, hx, hy]

end Go.Abs.W

/- Hulls of boxes, as lists that loops build. -/
namespace Go.Abs.W

def hullL : List Iv → List Iv → List Iv
 | x :: l, y :: m => x.hull y :: hullL l m
 | _, _ => []

theorem hullL_len : ∀ {l m : List Iv}, l.length = m.length → (hullL l m).length = l.length
 | [], [], _ => rfl
 | [], _ :: _, h => by simp at h
 | _ :: _, [], h => by simp at h
 | x :: l, y :: m, h => by simp [hullL, hullL_len (by simpa using h : l.length = m.length)]

theorem hullL_W : ∀ {l m : List Iv}, (∀ x ∈ l, x.W) → (∀ x ∈ m, x.W) → ∀ x ∈ hullL l m, x.W
 | x :: l, y :: m, h1, h2, z, hz => by
   rcases List.mem_cons.1 hz with rfl | hz
   · exact (h1 x (by simp)).hull (h2 y (by simp))
   · exact hullL_W (fun a ha => h1 a (by simp [ha])) (fun a ha => h2 a (by simp [ha])) z hz
 | [], _, _, _, z, hz => by simp [hullL] at hz
 | _ :: _, [], _, _, z, hz => by simp [hullL] at hz

theorem hullL_drop {l m : List Iv} {i : Nat} (h1 : i < l.length) (h2 : i < m.length) : hullL (l.drop i) (m.drop i) = l[i].hull m[i] :: hullL (l.drop (i + 1)) (m.drop (i + 1)) := by
 rw [List.drop_eq_getElem_cons h1, List.drop_eq_getElem_cons h2, hullL]

theorem RBHull_cq (a b : List Iv) (wa : BxW a) (wb : BxW b) (hlen : a.length = b.length) : CQ prog g_fpref37_Hull [ivs a, ivs b] (ivs (hullL a b)) := by
 refine CQ_run rfl fun H => ?_
 have hal := wa.len
 simp [ivs]
 refine WK_up (fun i E H' => E 0 = ivs a ∧ E 1 = ivs b ∧ E 6 = .int .i64 i ∧ ∃ o, Out H H' (E 5) 7 (o.map Iv.v) ∧ o.length = i ∧ o ++ hullL (a.drop i) (b.drop i) = hullL a b) a.length ?_ ?_
 · simp [ivs]
   exact .nil
 · rintro i E H' hi ⟨h0, h1, h6, o, h5, ho, hr⟩
   simp only [ivs] at h0 h1
   rcases Nat.lt_or_ge i a.length with h2 | h2
   · have f1 : IntKind.i64.wrap ((i : Int) + 1) = ((i + 1 : Nat) : Int) := by rw [wrap_i64] <;> omega
     have h3 : i < b.length := by omega
     rw [hullL_drop h2 h3] at hr
     simp [c_fpref37_Hull_l0, h0, h1, h6, h2, h3]
     refine WL_call rfl rfl rfl (RHull_cq a[i] b[i] (wa.all _ (List.getElem_mem h2)) (wb.all _ (List.getElem_mem h3))) ?_
     obtain ⟨v', H'', e', ho'⟩ := h5.oneIv (a[i].hull b[i]) (by omega)
     simp only [Iv.v] at e'
     simp [h0, h1, h6, e', f1, ivs]
     exact ⟨o ++ [a[i].hull b[i]], by simpa using ho', by simp; omega, by simpa using hr⟩
   · have hin : i = a.length := by omega
     subst hin
     rw [List.drop_of_length_le h2, hullL, List.append_nil] at hr
     · simp [c_fpref37_Hull_l0, h0, h6]
       have := h5.fin (H1 := H) (List.prefix_refl _)
       rw [this, hr]
     · simp

end Go.Abs.W

/- The hull of the tubes between two times. -/
namespace Go.Abs.W

theorem cmp_self (d : Dy) : d.cmp d = 0 := by
 unfold Dy.cmp cmpI; split <;> simp

theorem hull_known {x y : Iv} (hx : x.known = true) (hy : y.known = true) : (x.hull y).known = true := by
 have h1 := hx; have h2 := hy
 simp [Iv.known, Iv.valid] at hx hy
 obtain ⟨a1, a2⟩ := hx
 obtain ⟨b1, b2⟩ := hy
 simp [a1] at a2
 simp [b1] at b2
 obtain ⟨⟨a3, a4⟩, a5⟩ := a2
 obtain ⟨⟨b3, b4⟩, b5⟩ := b2
 rw [cmp_val a3 a4, cmpI_le_iff] at a5
 rw [cmp_val b3 b4, cmpI_le_iff] at b5
 have c1 : (x.lo.lo2 y.lo).valid = true ∧ (x.lo.lo2 y.lo).val ≤ x.lo.val := by
   unfold Dy.lo2; split
   · exact ⟨a3, Int.le_refl _⟩
   · rename_i h; rw [cmp_val a3 b3, cmpI_le_iff] at h; exact ⟨b3, by omega⟩
 have c2 : (x.hi.hi2 y.hi).valid = true ∧ x.hi.val ≤ (x.hi.hi2 y.hi).val := by
   unfold Dy.hi2; split
   · exact ⟨a4, Int.le_refl _⟩
   · rename_i h; rw [cmp_val a4 b4] at h
     have := cmpI_neg_iff (a := x.hi.val) (b := y.hi.val)
     exact ⟨b4, by omega⟩
 have : (x.lo.lo2 y.lo).cmp (x.hi.hi2 y.hi) ≤ 0 := by rw [cmp_val c1.1 c2.1, cmpI_le_iff]; omega
 have e : x.hull y = ⟨x.lo.lo2 y.lo, x.hi.hi2 y.hi, false⟩ := by rw [Iv.hull, if_pos (by simp [h1, h2])]
 rw [e]
 simp [Iv.known, Iv.valid, c1.1, c2.1, this]

theorem hullL_all : ∀ {l m : List Iv}, l.all Iv.known = true → m.all Iv.known = true → (hullL l m).all Iv.known = true
 | x :: l, y :: m, h1, h2 => by
   simp only [List.all_cons, Bool.and_eq_true] at h1 h2
   simp only [hullL, List.all_cons, hull_known h1.1 h2.1, hullL_all h1.2 h2.2, Bool.and_self]
 | [], _, _, _ => by simp [hullL]
 | _ :: _, [], _, _ => by simp [hullL]

theorem boxOk_iff {l : List Iv} : boxOk l = true ↔ 1 ≤ l.length ∧ l.length ≤ 8 ∧ l.all Iv.known = true := by
 simp [boxOk, Iv.known, and_assoc]

theorem hullL_ok {l m : List Iv} (h1 : boxOk l = true) (h2 : boxOk m = true) (h : l.length = m.length) : boxOk (hullL l m) = true ∧ (hullL l m).length = l.length := by
 have hl := hullL_len h
 rw [boxOk_iff] at h1 h2 ⊢
 exact ⟨⟨by omega, by omega, hullL_all h1.2.2 h2.2.2⟩, hl⟩

theorem hull_self {x : Iv} (h : x.known = true) : x.hull x = x := by
 have ha : x.all = false := by simp [Iv.known] at h; exact h.1
 have : x.lo.lo2 x.lo = x.lo := by unfold Dy.lo2; split <;> rfl
 have : x.hi.hi2 x.hi = x.hi := by unfold Dy.hi2; split <;> rfl
 cases x
 simp_all [Iv.hull]

theorem hullL_self : ∀ {l : List Iv}, l.all Iv.known = true → hullL l l = l
 | [], _ => rfl
 | x :: l, h => by
   simp only [List.all_cons, Bool.and_eq_true] at h
   rw [hullL, hull_self h.1, hullL_self h.2]

theorem BxW.hull {a b : List Iv} (wa : BxW a) (wb : BxW b) (h : a.length = b.length) : BxW (hullL a b) := ⟨by rw [hullL_len h]; exact wa.len, hullL_W wa.all wb.all⟩

def ovStep (acc : Option (List Iv)) (s : Sg) : List Iv := match acc with
 | none => s.tube
 | some o => hullL o s.tube
def ovL (a b : Dy) : Option (List Iv) → List Sg → Option (List Iv)
 | acc, [] => acc
 | acc, s :: l => if s.fr.cmp b < 0 ∧ a.cmp s.to < 0 then ovL a b (some (ovStep acc s)) l else ovL a b acc l

/-- What a box under way is. -/
def AccOk (n : Nat) (acc : Option (List Iv)) : Prop := ∀ o, acc = some o → boxOk o = true ∧ o.length = n ∧ BxW o
theorem AccOk.step {n : Nat} {acc : Option (List Iv)} {s : Sg} (h : AccOk n acc) (ws : s.W) (h1 : boxOk s.tube = true) (h2 : s.tube.length = n) : AccOk n (some (ovStep acc s)) := by
 intro o ho
 injection ho with ho
 subst ho
 cases acc with
 | none => exact ⟨h1, h2, ws.tube⟩
 | some o =>
   obtain ⟨g1, g2, g3⟩ := h o rfl
   have := hullL_ok g1 h1 (by omega)
   exact ⟨this.1, by rw [ovStep, this.2]; exact g2, g3.hull ws.tube (by omega)⟩

theorem segAt_tube {p : Pp} {i : Nat} {s : Sg} (h : p.segAt i s = true) : boxOk s.tube = true ∧ s.tube.length = p.start.length := by
 simp only [Pp.segAt, Bool.and_eq_true, decide_eq_true_eq] at h
 obtain ⟨⟨⟨⟨⟨⟨k1, k2⟩, k3⟩, k4⟩, k5⟩, k6⟩, k7⟩ := h
 simp [boxIns] at k6
 exact ⟨k6.1.1.2, k4⟩

def Pp.over (p : Pp) (a b : Dy) : List Iv := if a.cmp b = 0 then p.at a else (ovL a b none p.segs).getD []
end Go.Abs.W

/- The reference's box at a time, and its hull of the tubes between two times. -/
namespace Go.Abs.W

set_option maxHeartbeats 2000000 in
theorem RAt_cq (p : Pp) (t : Dy) (w : p.W) (hv : p.valid = true) (ot : t.Ok) (hd : p.during t = true) : CQ prog g_fpref37_At [p.v, t.v] (ivs (p.at t)) := by
 refine CQ_run rfl fun H => ?_
 have hse := w.len
 obtain ⟨h0, n, hn⟩ := during_num hd
 have hnum : p.num t = n := by simp [Pp.num, hn]
 obtain ⟨hlt, hg1, hg2⟩ := List.findIdx?_eq_some_iff_getElem.1 hn
 obtain ⟨s, hs⟩ : ∃ s, p.segs[0]? = some s := ⟨_, List.getElem?_eq_getElem h0⟩
 obtain ⟨g, hg⟩ : ∃ g, p.segs[n]? = some g := ⟨_, List.getElem?_eq_getElem hlt⟩
 have hg' : p.segs[n] = g := by rw [List.getElem?_eq_getElem hlt] at hg; injection hg
 have wg := w.at hg
 have ok := Pp.validSegs hv
 have os := (segAt_fr (w.at hs) (Pp.okAt ok hs)).1
 have og := (segAt_fr wg (Pp.okAt ok hg)).2
 have hat : p.at t = if t.cmp s.fr = 0 then p.start else if t.cmp g.to < 0 then g.tube else g.en := by simp [Pp.at, hs, hnum, hg]
 rw [hat]
 have e0 : t.cmp s.fr = 0 ↔ t = s.fr := cmp_zero ot os
 simp
 refine WL_call rfl rfl rfl (RFirst_cq p s hs) ?_
 simp
 refine WL_call rfl rfl rfl (REqual_cq t s.fr ot.w os.w) ?_
 by_cases c0 : t = s.fr
 · simp [c0, cmp_self]
 · have c0' : ¬ t.cmp s.fr = 0 := fun h => c0 (e0.1 h)
   simp [c0, c0']
   refine WK_up (fun i E H' => H' = H ++ [some ⟨2, [p.v], false, true⟩, some ⟨3, [t.v], false, true⟩] ∧ E 2 = .ptr H.length 0 0 ∧ E 3 = .ptr (H.length + 1) 0 0 ∧ E 5 = .int .i64 i) n ?_ ?_
   · simp
   · rintro i E H' hi ⟨rfl, h2, h3, h5⟩
     have hil : i < p.segs.length := by omega
     obtain ⟨u, hu⟩ : ∃ u, p.segs[i]? = some u := ⟨_, List.getElem?_eq_getElem hil⟩
     have hu' : p.segs[i] = u := by rw [List.getElem?_eq_getElem hil] at hu; injection hu
     have ou := (segAt_fr (w.at hu) (Pp.okAt ok hu)).2
     have f1 : IntKind.i64.wrap ((i : Int) + 1) = ((i + 1 : Nat) : Int) := by rw [wrap_i64] <;> omega
     simp [c_fpref37_At_l0, h2, h3, h5, sgs, hil, hu']
     refine WL_call rfl rfl rfl (RCmp_cq u.to t ou ot) ?_
     rcases Nat.lt_or_ge i n with hin | hin
     · have := hg2 i hin
       rw [hu'] at this
       simp at this
       simp [this, h2, h3, h5, f1, hin]
     · have hin' : i = n := by omega
       subst hin'
       rw [hg'] at hu'
       subst hu'
       rw [hg'] at hg1
       simp at hg1
       have hg1' : ¬ g.to.cmp t < 0 := by omega
       simp [hg1', h2, h3, h5, hil, hg']
       refine WL_call rfl rfl rfl (REqual_cq g.to t og.w ot.w) ?_
       have anti := cmp_anti t g.to
       have ez : g.to.cmp t = 0 ↔ g.to = t := cmp_zero og ot
       by_cases c1 : g.to = t
       · have c2 : ¬ t.cmp g.to < 0 := by rw [c1, cmp_self]; omega
         simp [c1, h2, h5, hil, hg']
         rw [c1] at c2
         simp [c2]
       · have c2 : t.cmp g.to < 0 := by
           have : ¬ g.to.cmp t = 0 := fun h => c1 (ez.1 h)
           omega
         simp [c1, c2, h2, h5, hil, hg']

def accR : Option (List Iv) → V
 | none => .nil
 | some o => ivs o

set_option maxHeartbeats 4000000 in
theorem ROver_cq (p : Pp) (a b : Dy) (w : p.W) (hv : p.valid = true) (oa : a.Ok) (ob : b.Ok) (hda : p.during a = true) : CQ prog g_fpref37_Over [p.v, a.v, b.v] (ivs (p.over a b)) := by
 refine CQ_run rfl fun H => ?_
 have hse := w.len
 have ok := Pp.validSegs hv
 simp
 refine WL_call rfl rfl rfl (REqual_cq a b oa.w ob.w) ?_
 have e0 : a.cmp b = 0 ↔ a = b := cmp_zero oa ob
 by_cases hab : a = b
 · simp [hab]
   subst hab
   refine WL_call rfl rfl rfl (RAt_cq p a w hv oa hda) ?_
   simp [Pp.over, cmp_self]
 have hab' : ¬ a.cmp b = 0 := fun h => hab (e0.1 h)
 have hov : p.over a b = (ovL a b none p.segs).getD [] := by rw [Pp.over, if_neg hab']
 rw [hov]
 simp [hab, sgs]
 refine WK_up (fun i E H' => H ++ [some ⟨2, [p.v], false, true⟩, some ⟨3, [a.v], false, true⟩, some ⟨3, [b.v], false, true⟩] <+: H' ∧ E 3 = .ptr H.length 0 0 ∧ E 4 = .ptr (H.length + 1) 0 0 ∧ E 5 = .ptr (H.length + 2) 0 0 ∧ E 8 = .int .i64 i ∧
   ∃ acc, E 7 = accR acc ∧ AccOk p.start.length acc ∧ ovL a b none p.segs = ovL a b acc (p.segs.drop i)) p.segs.length ?_ ?_
 · simp [sgs]
   exact ⟨none, rfl, (fun o h => by cases h), rfl⟩
 · rintro i E H' hi ⟨hH, h3, h4, h5, h8, acc, h7, hok, hr⟩
   have hH0 : H <+: H' := (List.prefix_append _ _).trans hH
   have hP : ∀ l : Heap, (H' ++ l)[H.length]? = some (some ⟨2, [p.v], false, true⟩) := by
     intro l; obtain ⟨t, rfl⟩ := hH; simp
   have hA : ∀ l : Heap, (H' ++ l)[H.length + 1]? = some (some ⟨3, [a.v], false, true⟩) := by
     intro l; obtain ⟨t, rfl⟩ := hH; simp
   have hB : ∀ l : Heap, (H' ++ l)[H.length + 2]? = some (some ⟨3, [b.v], false, true⟩) := by
     intro l; obtain ⟨t, rfl⟩ := hH; simp
   have hP0 : H'[H.length]? = some (some ⟨2, [p.v], false, true⟩) := by have := hP []; rwa [List.append_nil] at this
   rcases Nat.lt_or_ge i p.segs.length with hlt | hge
   · obtain ⟨s, hs⟩ : ∃ s, p.segs[i]? = some s := ⟨_, List.getElem?_eq_getElem hlt⟩
     have hs' : p.segs[i] = s := by rw [List.getElem?_eq_getElem hlt] at hs; injection hs
     have ws := w.at hs
     obtain ⟨bt, bl⟩ := segAt_tube (Pp.okAt ok hs)
     obtain ⟨os, oz⟩ := segAt_fr ws (Pp.okAt ok hs)
     have f1 : IntKind.i64.wrap ((i : Int) + 1) = ((i + 1 : Nat) : Int) := by rw [wrap_i64] <;> omega
     rw [List.drop_eq_getElem_cons hlt, hs', ovL] at hr
     have hH1 : ∀ x : Option Blk, H ++ [some ⟨2, [p.v], false, true⟩, some ⟨3, [a.v], false, true⟩, some ⟨3, [b.v], false, true⟩] <+: H' ++ [x] := fun _ => pre_app hH
     simp only [Pp.v, Dy.v, sgs] at hH1
     have anti := cmp_anti a s.to
     simp [c_fpref37_Over_l0, h3, h5, h8, hlt, hs', hP0, hB, sgs]
     refine WL_call rfl rfl rfl (RCmp_cq s.fr b os ob) ?_
     by_cases c1 : s.fr.cmp b < 0
     · simp [h4, c1, hA]
       refine WL_call rfl rfl rfl (RCmp_cq s.to a oz oa) ?_
       by_cases c2 : a.cmp s.to < 0
       · have c3 : 0 < s.to.cmp a := by omega
         rw [if_pos ⟨c1, c2⟩] at hr
         have hok2 := hok.step ws bt bl
         have btk : s.tube.all Iv.known = true := (boxOk_iff.1 bt).2.2
         cases acc with
         | none =>
           simp [h7, c3, accR]
           refine WL_call rfl rfl rfl (RBHull_cq s.tube s.tube ws.tube ws.tube rfl) ?_
           rw [hullL_self btk]
           simp [h3, h4, h5, h8, f1]
           exact ⟨hH1 _, some s.tube, rfl, hok2, hr⟩
         | some o =>
           obtain ⟨g1, g2, g3⟩ := hok o rfl
           obtain ⟨x, o', rfl⟩ : ∃ x o', o = x :: o' := by
             cases o with
             | nil => simp [boxOk] at g1
             | cons x o' => exact ⟨x, o', rfl⟩
           have hne : ¬ ((o'.length : Int) + 1 = 0) := by omega
           simp [h7, c3, accR, ivs, hne]
           refine WL_call rfl rfl rfl (RBHull_cq (x :: o') s.tube g3 ws.tube (by omega)) ?_
           simp [h3, h4, h5, h8, f1]
           exact ⟨hH1 _, some (hullL (x :: o') s.tube), rfl, hok2, hr⟩
       · have c3 : ¬ 0 < s.to.cmp a := by omega
         rw [if_neg (fun h => c2 h.2)] at hr
         simp [h7, c3, h3, h4, h5, h8, f1, hH1]
         exact ⟨_, rfl, hok, hr⟩
     · rw [if_neg (fun h => c1 h.1)] at hr
       simp [h7, c1, h3, h4, h5, h8, f1, hH1]
       exact ⟨_, rfl, hok, hr⟩
   · have hin : i = p.segs.length := by omega
     subst hin
     rw [List.drop_of_length_le hge, ovL] at hr
     rw [hr]
     cases acc with
     | none => simp [c_fpref37_Over_l0, h3, h8, h7, hP0, sgs, accR, take_pre hH0, ivs]
     | some o => simp [c_fpref37_Over_l0, h3, h8, h7, hP0, sgs, accR, take_pre hH0]

end Go.Abs.W

/- PipeAt returns true for each pipe and each two numbers. -/
namespace Go.Abs.W

theorem at_W {p : Pp} {t : Dy} (w : p.W) : BxW (p.at t) := by
 have nil : BxW [] := ⟨by simp, by simp⟩
 unfold Pp.at
 split
 · rename_i s g h1 h2
   split
   · exact w.start
   · split
     · exact (w.at h2).tube
     · exact (w.at h2).en
 · exact nil

end Go.Abs.W

