/- Parts of the proof: FpHull, FpHull2, FpOver, FpOverR, FpLawAt, FpLawOver. -/
import Derived.Test.YteghcekbgfhieaaFd
/- Hulls of intervals and boxes. -/
namespace Go.Abs.W

def Dy.lo2 (a b : Dy) : Dy := if a.cmp b ≤ 0 then a else b
def Dy.hi2 (a b : Dy) : Dy := if 0 ≤ a.cmp b then a else b
def Iv.known (x : Iv) : Bool := !x.all && x.valid
def Iv.whole : Iv := ⟨⟨false, [], 0⟩, ⟨false, [], 0⟩, true⟩
def Iv.hull (x y : Iv) : Iv := if x.known && y.known then ⟨x.lo.lo2 y.lo, x.hi.hi2 y.hi, false⟩ else Iv.whole

theorem Dy.W.lo2 {a b : Dy} (ha : a.W) (hb : b.W) : (a.lo2 b).W := by unfold Dy.lo2; split <;> assumption
theorem Dy.W.hi2 {a b : Dy} (ha : a.W) (hb : b.W) : (a.hi2 b).W := by unfold Dy.hi2; split <;> assumption
theorem Iv.W.hull {x y : Iv} (hx : x.W) (hy : y.W) : (x.hull y).W := by
  unfold Iv.hull; split
  · exact ⟨hx.lo.lo2 hy.lo, hx.hi.hi2 hy.hi⟩
  · exact ⟨⟨by intro x hx; simp [Iv.whole] at hx, by simp [Iv.whole]⟩, ⟨by intro x hx; simp [Iv.whole] at hx, by simp [Iv.whole]⟩⟩

theorem iless_cq (a b : Dy) (wa : a.W) (wb : b.W) : CQ prog g_interval_less [a.v, b.v] (a.lo2 b).v := by
  refine CQ_run rfl fun H => ?_
  simp
  refine WL_call rfl rfl rfl (DCmp_cq a b wa wb) ?_
  simp [Dy.lo2]
  refine ⟨fun h => by simp [h], fun h => ?_⟩
  have : ¬ a.cmp b ≤ 0 := by omega
  simp [this]

theorem imore_cq (a b : Dy) (wa : a.W) (wb : b.W) : CQ prog g_interval_more [a.v, b.v] (a.hi2 b).v := by
  refine CQ_run rfl fun H => ?_
  simp
  refine WL_call rfl rfl rfl (DCmp_cq a b wa wb) ?_
  simp [Dy.hi2]
  refine ⟨fun h => by simp [h], fun h => ?_⟩
  have : ¬ 0 ≤ a.cmp b := by omega
  simp [this]

theorem least_cq (a b : Dy) (oa : a.Ok) (ob : b.Ok) : CQ prog g_fpref05_least [a.v, b.v] (a.lo2 b).v := by
  refine CQ_run rfl fun H => ?_
  simp
  refine WL_call rfl rfl rfl (RCmp_cq a b oa ob) ?_
  simp [Dy.lo2]
  refine ⟨fun h => by simp [h], fun h => ?_⟩
  have : ¬ a.cmp b ≤ 0 := by omega
  simp [this]

theorem most_cq (a b : Dy) (oa : a.Ok) (ob : b.Ok) : CQ prog g_fpref05_most [a.v, b.v] (a.hi2 b).v := by
  refine CQ_run rfl fun H => ?_
  simp
  refine WL_call rfl rfl rfl (RCmp_cq a b oa ob) ?_
  simp [Dy.hi2]
  refine ⟨fun h => by simp [h], fun h => ?_⟩
  have : ¬ 0 ≤ a.cmp b := by omega
  simp [this]

theorem iWhole_cq : CQ prog g_interval_Whole [] Iv.whole.v := by
  refine CQ_run rfl fun H => ?_
  simp [Iv.whole, lim]
theorem RWhole_cq : CQ prog g_fpref05_Whole [] Iv.whole.v := by
  refine CQ_run rfl fun H => ?_
  simp [Iv.whole, lim]

set_option maxHeartbeats 1000000 in
theorem known_cq (l : List Iv) (hl : l.length ≤ 1000000) (w : ∀ x ∈ l, x.W) : CQ prog g_interval_known [ivs l] (.bool (l.all Iv.known)) := by
  refine CQ_run rfl fun H => ?_
  simp [ivs]
  refine WK_up (fun i E H' => H <+: H' ∧ E 5 = ivs l ∧ E 6 = .int .i64 l.length ∧ E 7 = .int .i64 i ∧ (∀ j x, j < i → l[j]? = some x → x.known = true)) l.length ?_ ?_
  · simp [ivs]
  · rintro i E H' hi ⟨hH, h5, h6, h7, hp⟩
    simp only [ivs] at h5 ⊢
    rcases Nat.lt_or_ge i l.length with hlt | hge
    · have e2 : IntKind.i64.wrap ((i : Int) + 1) = ((i + 1 : Nat) : Int) := by rw [wrap_i64] <;> omega
      have wx := w l[i] (List.getElem_mem hlt)
      have no : l[i].known = false → l.all Iv.known = false := by
        intro h
        rw [Bool.eq_false_iff]; intro h'
        rw [List.all_eq_true.1 h' _ (List.getElem_mem hlt)] at h
        cases h
      have nx : l[i].known = true → ∀ (j : Nat) (x : Iv), j < i + 1 → l[j]? = some x → x.known = true := by
        intro h j x hj hx
        rcases Nat.lt_or_ge j i with hji | hji
        · exact hp j x hji hx
        · have : j = i := by omega
          subst this
          rw [List.getElem?_eq_getElem hlt] at hx; injection hx with hx; rw [← hx]; exact h
      have T := take_pre (pre_app (l := [some ⟨7, [l[i].v], false, true⟩]) hH)
      simp only [Iv.v] at T
      cases ha : l[i].all
      · simp [c_interval_known_l0, h5, h6, h7, hlt, ha]
        rw [ha] at T
        have hr := IValid_cq l[i] wx
        simp only [Iv.v, ha] at hr
        refine WL_call rfl rfl rfl hr ?_
        cases hv : l[i].valid
        · simp [T]
          simpa using no (by simp [Iv.known, hv])
        · simp [h5, h6, h7, e2]
          exact ⟨pre_app hH, nx (by simp [Iv.known, hv, ha])⟩
      · rw [ha] at T
        simp [c_interval_known_l0, h5, h6, h7, hlt, ha, T]
        simpa using no (by simp [Iv.known, ha])
    · have hin : i = l.length := by omega
      subst hin
      have e1 : l.all Iv.known = true := by
        rw [List.all_eq_true]
        intro x hx
        obtain ⟨j, hj, rfl⟩ := List.getElem_of_mem hx
        exact hp j _ hj (List.getElem?_eq_getElem _)
      simp [c_interval_known_l0, h6, h7, e1, take_pre hH]

theorem Rknown_cq (x : Iv) (w : x.W) : CQ prog g_fpref05_known [x.v] (.bool x.known) := by
  refine CQ_run rfl fun H => ?_
  simp
  refine WL_call rfl rfl rfl (RIValid_cq x w) ?_
  simp [Iv.known]
  grind

theorem iHull_cq (x y : Iv) (wx : x.W) (wy : y.W) : CQ prog g_interval_Hull [x.v, y.v] (x.hull y).v := by
  refine CQ_run rfl fun H => ?_
  simp
  refine WL_callH rfl rfl (H1 := H ++ [some ⟨7, [x.v], false, true⟩, some ⟨7, [y.v], false, true⟩, some ⟨7, [.agg [.bool false, .nil, .int .i64 0, .bool false, .nil, .int .i64 0, .bool false]], false, true⟩, some ⟨7, [x.v, y.v], true, false⟩]) (vs := [ivs [x, y]]) (by simp [prep, frzVs, frzV]; rfl) (known_cq [x, y] (by simp) (by simp; exact ⟨wx, wy⟩)) ?_
  cases hk : x.known && y.known
  · have : ([x, y].all Iv.known) = false := by simpa using hk
    simp only [this]
    simp
    refine WL_call rfl rfl rfl iWhole_cq ?_
    simp [Iv.hull, hk]
  · have : ([x, y].all Iv.known) = true := by simpa using hk
    simp only [this]
    simp
    refine WL_call rfl rfl rfl (iless_cq x.lo y.lo wx.lo wy.lo) ?_
    simp
    refine WL_call rfl rfl rfl (imore_cq x.hi y.hi wx.hi wy.hi) ?_
    simp [Iv.hull, hk]

theorem known_ok {x : Iv} (w : x.W) (h : x.known = true) : x.lo.Ok ∧ x.hi.Ok := by
  simp [Iv.known] at h
  exact ⟨w.okLo h.2 h.1, w.okHi h.2 h.1⟩

theorem RHull_cq (x y : Iv) (wx : x.W) (wy : y.W) : CQ prog g_fpref05_Hull [x.v, y.v] (x.hull y).v := by
  refine CQ_run rfl fun H => ?_
  simp
  refine WL_call rfl rfl rfl (Rknown_cq x wx) ?_
  cases hx : x.known
  · simp
    refine WL_call rfl rfl rfl RWhole_cq ?_
    simp [Iv.hull, hx]
  · simp
    refine WL_call rfl rfl rfl (Rknown_cq y wy) ?_
    cases hy : y.known
    · simp
      refine WL_call rfl rfl rfl RWhole_cq ?_
      simp [Iv.hull, hy]
    · simp
      refine WL_call rfl rfl rfl (least_cq x.lo y.lo (known_ok wx hx).1 (known_ok wy hy).1) ?_
      simp
      refine WL_call rfl rfl rfl (most_cq x.hi y.hi (known_ok wx hx).2 (known_ok wy hy).2) ?_
      simp [Iv.hull, hx, hy]

end Go.Abs.W
/- Hulls of boxes, as lists that loops build. -/
namespace Go.Abs.W

theorem Out.oneIv {H0 H : Heap} {v : V} {l : List Iv} (h : Out H0 H v 7 (l.map Iv.v)) (x : Iv) (hb : l.length + 1 ≤ 1000000000) :
    ∃ v' H', stpAppend 7 88 v (.ref H.length 7 0 1) (H ++ [some ⟨7, [x.v], true, true⟩]) = some (v', H') ∧ Out H0 H' v' 7 ((l ++ [x]).map Iv.v) := by
  have := (h.grow [some ⟨7, [x.v], true, true⟩]).app (y := .ref H.length 7 0 1) (ys := [x.v]) (bytes := 88) (by simp) (by simp) (by simp) (by simp; omega)
  simpa using this

def hullL : List Iv → List Iv → List Iv
  | x :: l, y :: m => x.hull y :: hullL l m
  | _, _ => []

theorem hullL_len : ∀ {l m : List Iv}, l.length = m.length → (hullL l m).length = l.length
  | [], [], _ => rfl
  | [], _ :: _, h => by simp at h
  | _ :: _, [], h => by simp at h
  | x :: l, y :: m, h => by simp [hullL, hullL_len (by simpa using h : l.length = m.length)]

theorem hullL_W : ∀ {l m : List Iv}, (∀ x ∈ l, x.W) → (∀ x ∈ m, x.W) → ∀ x ∈ hullL l m, x.W
  | x :: l, y :: m, h1, h2, z, hz => by
    rcases List.mem_cons.1 hz with rfl | hz
    · exact (h1 x (by simp)).hull (h2 y (by simp))
    · exact hullL_W (fun a ha => h1 a (by simp [ha])) (fun a ha => h2 a (by simp [ha])) z hz
  | [], _, _, _, z, hz => by simp [hullL] at hz
  | _ :: _, [], _, _, z, hz => by simp [hullL] at hz

theorem hullL_drop {l m : List Iv} {i : Nat} (h1 : i < l.length) (h2 : i < m.length) : hullL (l.drop i) (m.drop i) = l[i].hull m[i] :: hullL (l.drop (i + 1)) (m.drop (i + 1)) := by
  rw [List.drop_eq_getElem_cons h1, List.drop_eq_getElem_cons h2, hullL]

def boxHull (a b : List Iv) : List Iv := if boxOk a && boxOk b && decide (a.length = b.length) then hullL a b else []

set_option maxHeartbeats 1000000 in
theorem BHull_cq (a b : List Iv) (wa : BxW a) (wb : BxW b) : CQ prog g_box_Hull [ivs a, ivs b] (ivs (boxHull a b)) := by
  refine CQ_run rfl fun H => ?_
  simp
  refine WL_call rfl rfl rfl (two_cq a b wa wb) ?_
  cases ht : boxOk a && boxOk b && decide (a.length = b.length)
  · simp [boxHull, ht, ivs]
  have hlen : a.length = b.length := by simp at ht; exact ht.2
  have hal := wa.len
  simp [ivs]
  refine WK_up (fun i E H' => E 0 = ivs a ∧ E 1 = ivs b ∧ E 11 = ivs a ∧ E 12 = .int .i64 a.length ∧ E 13 = .int .i64 i ∧ ∃ o, Out H H' (E 5) 7 (o.map Iv.v) ∧ o.length = i ∧ o ++ hullL (a.drop i) (b.drop i) = hullL a b) a.length ?_ ?_
  · simp [ivs]
    exact .nil
  · rintro i E H' hi ⟨h0, h1, h11, h12, h13, o, h5, ho, hr⟩
    simp only [ivs] at h0 h1 h11
    rcases Nat.lt_or_ge i a.length with h2 | h2
    · have f1 : IntKind.i64.wrap ((i : Int) + 1) = ((i + 1 : Nat) : Int) := by rw [wrap_i64] <;> omega
      have h3 : i < b.length := by omega
      rw [hullL_drop h2 h3] at hr
      simp [c_box_Hull_l0, h0, h1, h12, h13, h2, h3]
      refine WL_call rfl rfl rfl (iHull_cq a[i] b[i] (wa.all _ (List.getElem_mem h2)) (wb.all _ (List.getElem_mem h3))) ?_
      obtain ⟨v', H'', e', ho'⟩ := h5.oneIv (a[i].hull b[i]) (by omega)
      simp only [Iv.v] at e'
      simp [h0, h1, h11, h12, h13, e', f1, ivs]
      exact ⟨o ++ [a[i].hull b[i]], by simpa using ho', by simp; omega, by simpa using hr⟩
    · have hin : i = a.length := by omega
      subst hin
      rw [List.drop_of_length_le h2, hullL, List.append_nil] at hr
      · simp [c_box_Hull_l0, h12, h13]
        have := h5.fin (H1 := H) (List.prefix_refl _)
        rw [this, hr]
        simp [boxHull, ht]
      · simp

theorem RBHull_cq (a b : List Iv) (wa : BxW a) (wb : BxW b) (hlen : a.length = b.length) : CQ prog g_fpref37_Hull [ivs a, ivs b] (ivs (hullL a b)) := by
  refine CQ_run rfl fun H => ?_
  have hal := wa.len
  simp [ivs]
  refine WK_up (fun i E H' => E 0 = ivs a ∧ E 1 = ivs b ∧ E 6 = .int .i64 i ∧ ∃ o, Out H H' (E 5) 7 (o.map Iv.v) ∧ o.length = i ∧ o ++ hullL (a.drop i) (b.drop i) = hullL a b) a.length ?_ ?_
  · simp [ivs]
    exact .nil
  · rintro i E H' hi ⟨h0, h1, h6, o, h5, ho, hr⟩
    simp only [ivs] at h0 h1
    rcases Nat.lt_or_ge i a.length with h2 | h2
    · have f1 : IntKind.i64.wrap ((i : Int) + 1) = ((i + 1 : Nat) : Int) := by rw [wrap_i64] <;> omega
      have h3 : i < b.length := by omega
      rw [hullL_drop h2 h3] at hr
      simp [c_fpref37_Hull_l0, h0, h1, h6, h2, h3]
      refine WL_call rfl rfl rfl (RHull_cq a[i] b[i] (wa.all _ (List.getElem_mem h2)) (wb.all _ (List.getElem_mem h3))) ?_
      obtain ⟨v', H'', e', ho'⟩ := h5.oneIv (a[i].hull b[i]) (by omega)
      simp only [Iv.v] at e'
      simp [h0, h1, h6, e', f1, ivs]
      exact ⟨o ++ [a[i].hull b[i]], by simpa using ho', by simp; omega, by simpa using hr⟩
    · have hin : i = a.length := by omega
      subst hin
      rw [List.drop_of_length_le h2, hullL, List.append_nil] at hr
      · simp [c_fpref37_Hull_l0, h0, h6]
        have := h5.fin (H1 := H) (List.prefix_refl _)
        rw [this, hr]
      · simp

end Go.Abs.W
/- The hull of the tubes between two times. -/
namespace Go.Abs.W

theorem cmp_self (d : Dy) : d.cmp d = 0 := by
  unfold Dy.cmp cmpI; split <;> simp

theorem hull_known {x y : Iv} (hx : x.known = true) (hy : y.known = true) : (x.hull y).known = true := by
  have h1 := hx; have h2 := hy
  simp [Iv.known, Iv.valid] at hx hy
  obtain ⟨a1, a2⟩ := hx
  obtain ⟨b1, b2⟩ := hy
  simp [a1] at a2
  simp [b1] at b2
  obtain ⟨⟨a3, a4⟩, a5⟩ := a2
  obtain ⟨⟨b3, b4⟩, b5⟩ := b2
  rw [cmp_val a3 a4, cmpI_le_iff] at a5
  rw [cmp_val b3 b4, cmpI_le_iff] at b5
  have c1 : (x.lo.lo2 y.lo).valid = true ∧ (x.lo.lo2 y.lo).val ≤ x.lo.val := by
    unfold Dy.lo2; split
    · exact ⟨a3, Int.le_refl _⟩
    · rename_i h; rw [cmp_val a3 b3, cmpI_le_iff] at h; exact ⟨b3, by omega⟩
  have c2 : (x.hi.hi2 y.hi).valid = true ∧ x.hi.val ≤ (x.hi.hi2 y.hi).val := by
    unfold Dy.hi2; split
    · exact ⟨a4, Int.le_refl _⟩
    · rename_i h; rw [cmp_val a4 b4] at h
      have := cmpI_neg_iff (a := x.hi.val) (b := y.hi.val)
      exact ⟨b4, by omega⟩
  have : (x.lo.lo2 y.lo).cmp (x.hi.hi2 y.hi) ≤ 0 := by rw [cmp_val c1.1 c2.1, cmpI_le_iff]; omega
  have e : x.hull y = ⟨x.lo.lo2 y.lo, x.hi.hi2 y.hi, false⟩ := by rw [Iv.hull, if_pos (by simp [h1, h2])]
  rw [e]
  simp [Iv.known, Iv.valid, c1.1, c2.1, this]

theorem hullL_all : ∀ {l m : List Iv}, l.all Iv.known = true → m.all Iv.known = true → (hullL l m).all Iv.known = true
  | x :: l, y :: m, h1, h2 => by
    simp only [List.all_cons, Bool.and_eq_true] at h1 h2
    simp only [hullL, List.all_cons, hull_known h1.1 h2.1, hullL_all h1.2 h2.2, Bool.and_self]
  | [], _, _, _ => by simp [hullL]
  | _ :: _, [], _, _ => by simp [hullL]

theorem boxOk_iff {l : List Iv} : boxOk l = true ↔ 1 ≤ l.length ∧ l.length ≤ 8 ∧ l.all Iv.known = true := by
  simp [boxOk, Iv.known, and_assoc]

theorem hullL_ok {l m : List Iv} (h1 : boxOk l = true) (h2 : boxOk m = true) (h : l.length = m.length) : boxOk (hullL l m) = true ∧ (hullL l m).length = l.length := by
  have hl := hullL_len h
  rw [boxOk_iff] at h1 h2 ⊢
  exact ⟨⟨by omega, by omega, hullL_all h1.2.2 h2.2.2⟩, hl⟩

theorem hull_self {x : Iv} (h : x.known = true) : x.hull x = x := by
  have ha : x.all = false := by simp [Iv.known] at h; exact h.1
  have : x.lo.lo2 x.lo = x.lo := by unfold Dy.lo2; split <;> rfl
  have : x.hi.hi2 x.hi = x.hi := by unfold Dy.hi2; split <;> rfl
  cases x
  simp_all [Iv.hull]

theorem hullL_self : ∀ {l : List Iv}, l.all Iv.known = true → hullL l l = l
  | [], _ => rfl
  | x :: l, h => by
    simp only [List.all_cons, Bool.and_eq_true] at h
    rw [hullL, hull_self h.1, hullL_self h.2]

theorem BxW.hull {a b : List Iv} (wa : BxW a) (wb : BxW b) (h : a.length = b.length) : BxW (hullL a b) := ⟨by rw [hullL_len h]; exact wa.len, hullL_W wa.all wb.all⟩

def ovStep (acc : Option (List Iv)) (s : Sg) : List Iv := match acc with
  | none => s.tube
  | some o => hullL o s.tube
def ovL (a b : Dy) : Option (List Iv) → List Sg → Option (List Iv)
  | acc, [] => acc
  | acc, s :: l => if s.fr.cmp b < 0 ∧ a.cmp s.to < 0 then ovL a b (some (ovStep acc s)) l else ovL a b acc l

/-- What a box under way is. -/
def AccOk (n : Nat) (acc : Option (List Iv)) : Prop := ∀ o, acc = some o → boxOk o = true ∧ o.length = n ∧ BxW o
def accV : Option (List Iv) → V
  | none => .nil
  | some o => ivs o

theorem AccOk.step {n : Nat} {acc : Option (List Iv)} {s : Sg} (h : AccOk n acc) (ws : s.W) (h1 : boxOk s.tube = true) (h2 : s.tube.length = n) : AccOk n (some (ovStep acc s)) := by
  intro o ho
  injection ho with ho
  subst ho
  cases acc with
  | none => exact ⟨h1, h2, ws.tube⟩
  | some o =>
    obtain ⟨g1, g2, g3⟩ := h o rfl
    have := hullL_ok g1 h1 (by omega)
    exact ⟨this.1, by rw [ovStep, this.2]; exact g2, g3.hull ws.tube (by omega)⟩

theorem segAt_tube {p : Pp} {i : Nat} {s : Sg} (h : p.segAt i s = true) : boxOk s.tube = true ∧ s.tube.length = p.start.length := by
  simp only [Pp.segAt, Bool.and_eq_true, decide_eq_true_eq] at h
  obtain ⟨⟨⟨⟨⟨⟨k1, k2⟩, k3⟩, k4⟩, k5⟩, k6⟩, k7⟩ := h
  simp [boxIns] at k6
  exact ⟨k6.1.1.2, k4⟩

def Pp.ovE (p : Pp) (a b : Dy) : Int := if p.valid && a.valid && b.valid then (if p.during a && p.during b && !decide (b.cmp a < 0) then 0 else 2) else 1
def Pp.over (p : Pp) (a b : Dy) : List Iv := if a.cmp b = 0 then p.at a else (ovL a b none p.segs).getD []
def Pp.ovR (p : Pp) (a b : Dy) : List Iv := if p.ovE a b = 0 then p.over a b else []

set_option maxHeartbeats 4000000 in
theorem Over_cq (p : Pp) (a b : Dy) (w : p.W) (wa : a.W) (wb : b.W) : CQ prog g_pipe_Over [p.v, a.v, b.v] (.tup [ivs (p.ovR a b), .int .i64 (p.ovE a b)]) := by
  refine CQ_run rfl fun H => ?_
  have hse := w.len
  simp
  refine WL_call rfl rfl rfl (PValid_cq p w) ?_
  cases hv : p.valid
  · simp [Pp.ovR, Pp.ovE, hv, ivs]
  simp
  refine WL_call rfl rfl rfl (Valid_cq a wa.len wa.li) ?_
  cases ha : a.valid
  · simp [Pp.ovR, Pp.ovE, hv, ha, ivs]
  simp
  refine WL_call rfl rfl rfl (Valid_cq b wb.len wb.li) ?_
  cases hb : b.valid
  · simp [Pp.ovR, Pp.ovE, hv, ha, hb, ivs]
  simp
  refine WL_call rfl rfl rfl (during_cq p a w wa) ?_
  cases hda : p.during a
  · simp [Pp.ovR, Pp.ovE, hv, ha, hb, hda, ivs]
  simp
  refine WL_call rfl rfl rfl (during_cq p b w wb) ?_
  cases hdb : p.during b
  · simp [Pp.ovR, Pp.ovE, hv, ha, hb, hda, hdb, ivs]
  simp
  refine WL_call rfl rfl rfl (less_cq b a wb wa) ?_
  by_cases hba : b.cmp a < 0
  · simp [Pp.ovR, Pp.ovE, hv, ha, hb, hda, hdb, hba, ivs]
  have he : p.ovE a b = 0 := by simp [Pp.ovE, hv, ha, hb, hda, hdb]; omega
  have hR : p.ovR a b = p.over a b := by rw [Pp.ovR, if_pos he]
  rw [hR, he]
  simp [hba]
  refine WL_call rfl rfl rfl (DCmp_cq a b wa wb) ?_
  by_cases hab : a.cmp b = 0
  · simp [hab]
    obtain ⟨h0, i, hi⟩ := during_num hda
    refine WL_call rfl rfl rfl (at_cq p a w wa i h0 hi) ?_
    simp [Pp.over, hab]
  simp [hab, sgs]
  have hov : p.over a b = (ovL a b none p.segs).getD [] := by rw [Pp.over, if_neg hab]
  rw [hov]
  refine WK_up (fun i E H' => H ++ [some ⟨2, [p.v], false, true⟩, some ⟨3, [a.v], false, true⟩, some ⟨3, [b.v], false, true⟩] <+: H' ∧ E 4 = .ptr (H.length + 1) 0 0 ∧ E 5 = .ptr (H.length + 2) 0 0 ∧ E 50 = sgs p.segs ∧ E 51 = .int .i64 p.segs.length ∧ E 52 = .int .i64 i ∧
    ∃ acc, E 8 = accV acc ∧ AccOk p.start.length acc ∧ ovL a b none p.segs = ovL a b acc (p.segs.drop i)) p.segs.length ?_ ?_
  · simp [sgs]
    exact ⟨none, rfl, (fun o h => by cases h), rfl⟩
  · rintro i E H' hi ⟨hH, h4, h5, h50, h51, h52, acc, h8, hok, hr⟩
    simp only [sgs] at h50
    have hH0 : H <+: H' := (List.prefix_append _ _).trans hH
    have hA : ∀ l : Heap, (H' ++ l)[H.length + 1]? = some (some ⟨3, [a.v], false, true⟩) := by
      intro l; obtain ⟨t, rfl⟩ := hH; simp
    have hB : ∀ l : Heap, (H' ++ l)[H.length + 2]? = some (some ⟨3, [b.v], false, true⟩) := by
      intro l; obtain ⟨t, rfl⟩ := hH; simp
    rcases Nat.lt_or_ge i p.segs.length with hlt | hge
    · obtain ⟨s, hs⟩ : ∃ s, p.segs[i]? = some s := ⟨_, List.getElem?_eq_getElem hlt⟩
      have hs' : p.segs[i] = s := by rw [List.getElem?_eq_getElem hlt] at hs; injection hs
      have ws := w.at hs
      obtain ⟨bt, bl⟩ := segAt_tube (Pp.okAt (Pp.validSegs hv) hs)
      have f1 : IntKind.i64.wrap ((i : Int) + 1) = ((i + 1 : Nat) : Int) := by rw [wrap_i64] <;> omega
      rw [List.drop_eq_getElem_cons hlt, hs', ovL] at hr
      have hH1 : ∀ x : Option Blk, H ++ [some ⟨2, [p.v], false, true⟩, some ⟨3, [a.v], false, true⟩, some ⟨3, [b.v], false, true⟩] <+: H' ++ [x] := fun _ => pre_app hH
      simp only [Pp.v, Dy.v, sgs] at hH1
      simp [c_pipe_Over_l0, h50, h51, h52, h5, hlt, hs', hB]
      refine WL_call rfl rfl rfl (less_cq s.fr b ws.fr wb) ?_
      by_cases c1 : s.fr.cmp b < 0
      · simp [h4, c1, hA]
        refine WL_call rfl rfl rfl (less_cq a s.to wa ws.to) ?_
        by_cases c2 : a.cmp s.to < 0
        · rw [if_pos ⟨c1, c2⟩] at hr
          have hok2 := hok.step ws bt bl
          cases acc with
          | none =>
            simp [h8, c2, accV]
            refine WL_call rfl rfl rfl (Clone_cq s.tube (by have := ws.tube.len; omega)) ?_
            simp [h4, h5, h50, h51, h52, sgs, f1, hH1]
            exact ⟨_, rfl, hok2, hr⟩
          | some o =>
            obtain ⟨g1, g2, g3⟩ := hok o rfl
            obtain ⟨x, o', rfl⟩ : ∃ x o', o = x :: o' := by
              cases o with
              | nil => simp [boxOk] at g1
              | cons x o' => exact ⟨x, o', rfl⟩
            simp [h8, c2, accV, ivs]
            refine WL_call rfl rfl rfl (BHull_cq (x :: o') s.tube g3 ws.tube) ?_
            have hbh : boxHull (x :: o') s.tube = hullL (x :: o') s.tube := by rw [boxHull, if_pos]; simp [g1, bt]; simp at g2; omega
            rw [hbh]
            simp [h4, h5, h50, h51, h52, sgs, f1]
            exact ⟨hH1 _, some (hullL (x :: o') s.tube), rfl, hok2, hr⟩
        · rw [if_neg (fun h => c2 h.2)] at hr
          simp [h8, c2, h4, h5, h50, h51, h52, sgs, f1, hH1]
          exact ⟨_, rfl, hok, hr⟩
      · rw [if_neg (fun h => c1 h.1)] at hr
        simp [h8, c1, h4, h5, h50, h51, h52, sgs, f1, hH1]
        exact ⟨_, rfl, hok, hr⟩
    · have hin : i = p.segs.length := by omega
      subst hin
      rw [List.drop_of_length_le hge, ovL] at hr
      rw [hr]
      cases acc with
      | none => simp [c_pipe_Over_l0, h51, h52, h8, accV, take_pre hH0, ivs]
      | some o => simp [c_pipe_Over_l0, h51, h52, h8, accV, take_pre hH0]

end Go.Abs.W
/- The reference's box at a time, and its hull of the tubes between two times. -/
namespace Go.Abs.W

set_option maxHeartbeats 2000000 in
theorem RAt_cq (p : Pp) (t : Dy) (w : p.W) (hv : p.valid = true) (ot : t.Ok) (hd : p.during t = true) : CQ prog g_fpref37_At [p.v, t.v] (ivs (p.at t)) := by
  refine CQ_run rfl fun H => ?_
  have hse := w.len
  obtain ⟨h0, n, hn⟩ := during_num hd
  have hnum : p.num t = n := by simp [Pp.num, hn]
  obtain ⟨hlt, hg1, hg2⟩ := List.findIdx?_eq_some_iff_getElem.1 hn
  obtain ⟨s, hs⟩ : ∃ s, p.segs[0]? = some s := ⟨_, List.getElem?_eq_getElem h0⟩
  obtain ⟨g, hg⟩ : ∃ g, p.segs[n]? = some g := ⟨_, List.getElem?_eq_getElem hlt⟩
  have hg' : p.segs[n] = g := by rw [List.getElem?_eq_getElem hlt] at hg; injection hg
  have wg := w.at hg
  have ok := Pp.validSegs hv
  have os := (segAt_fr (w.at hs) (Pp.okAt ok hs)).1
  have og := (segAt_fr wg (Pp.okAt ok hg)).2
  have hat : p.at t = if t.cmp s.fr = 0 then p.start else if t.cmp g.to < 0 then g.tube else g.en := by simp [Pp.at, hs, hnum, hg]
  rw [hat]
  have e0 : t.cmp s.fr = 0 ↔ t = s.fr := cmp_zero ot os
  simp
  refine WL_call rfl rfl rfl (RFirst_cq p s hs) ?_
  simp
  refine WL_call rfl rfl rfl (REqual_cq t s.fr ot.w os.w) ?_
  by_cases c0 : t = s.fr
  · simp [c0, cmp_self]
  · have c0' : ¬ t.cmp s.fr = 0 := fun h => c0 (e0.1 h)
    simp [c0, c0']
    refine WK_up (fun i E H' => H' = H ++ [some ⟨2, [p.v], false, true⟩, some ⟨3, [t.v], false, true⟩] ∧ E 2 = .ptr H.length 0 0 ∧ E 3 = .ptr (H.length + 1) 0 0 ∧ E 5 = .int .i64 i) n ?_ ?_
    · simp
    · rintro i E H' hi ⟨rfl, h2, h3, h5⟩
      have hil : i < p.segs.length := by omega
      obtain ⟨u, hu⟩ : ∃ u, p.segs[i]? = some u := ⟨_, List.getElem?_eq_getElem hil⟩
      have hu' : p.segs[i] = u := by rw [List.getElem?_eq_getElem hil] at hu; injection hu
      have ou := (segAt_fr (w.at hu) (Pp.okAt ok hu)).2
      have f1 : IntKind.i64.wrap ((i : Int) + 1) = ((i + 1 : Nat) : Int) := by rw [wrap_i64] <;> omega
      simp [c_fpref37_At_l0, h2, h3, h5, sgs, hil, hu']
      refine WL_call rfl rfl rfl (RCmp_cq u.to t ou ot) ?_
      rcases Nat.lt_or_ge i n with hin | hin
      · have := hg2 i hin
        rw [hu'] at this
        simp at this
        simp [this, h2, h3, h5, f1, hin]
      · have hin' : i = n := by omega
        subst hin'
        rw [hg'] at hu'
        subst hu'
        rw [hg'] at hg1
        simp at hg1
        have hg1' : ¬ g.to.cmp t < 0 := by omega
        simp [hg1', h2, h3, h5, hil, hg']
        refine WL_call rfl rfl rfl (REqual_cq g.to t og.w ot.w) ?_
        have anti := cmp_anti t g.to
        have ez : g.to.cmp t = 0 ↔ g.to = t := cmp_zero og ot
        by_cases c1 : g.to = t
        · have c2 : ¬ t.cmp g.to < 0 := by rw [c1, cmp_self]; omega
          simp [c1, h2, h5, hil, hg']
          rw [c1] at c2
          simp [c2]
        · have c2 : t.cmp g.to < 0 := by
            have : ¬ g.to.cmp t = 0 := fun h => c1 (ez.1 h)
            omega
          simp [c1, c2, h2, h5, hil, hg']

def accR : Option (List Iv) → V
  | none => .nil
  | some o => ivs o

set_option maxHeartbeats 4000000 in
theorem ROver_cq (p : Pp) (a b : Dy) (w : p.W) (hv : p.valid = true) (oa : a.Ok) (ob : b.Ok) (hda : p.during a = true) : CQ prog g_fpref37_Over [p.v, a.v, b.v] (ivs (p.over a b)) := by
  refine CQ_run rfl fun H => ?_
  have hse := w.len
  have ok := Pp.validSegs hv
  simp
  refine WL_call rfl rfl rfl (REqual_cq a b oa.w ob.w) ?_
  have e0 : a.cmp b = 0 ↔ a = b := cmp_zero oa ob
  by_cases hab : a = b
  · simp [hab]
    subst hab
    refine WL_call rfl rfl rfl (RAt_cq p a w hv oa hda) ?_
    simp [Pp.over, cmp_self]
  have hab' : ¬ a.cmp b = 0 := fun h => hab (e0.1 h)
  have hov : p.over a b = (ovL a b none p.segs).getD [] := by rw [Pp.over, if_neg hab']
  rw [hov]
  simp [hab, sgs]
  refine WK_up (fun i E H' => H ++ [some ⟨2, [p.v], false, true⟩, some ⟨3, [a.v], false, true⟩, some ⟨3, [b.v], false, true⟩] <+: H' ∧ E 3 = .ptr H.length 0 0 ∧ E 4 = .ptr (H.length + 1) 0 0 ∧ E 5 = .ptr (H.length + 2) 0 0 ∧ E 8 = .int .i64 i ∧
    ∃ acc, E 7 = accR acc ∧ AccOk p.start.length acc ∧ ovL a b none p.segs = ovL a b acc (p.segs.drop i)) p.segs.length ?_ ?_
  · simp [sgs]
    exact ⟨none, rfl, (fun o h => by cases h), rfl⟩
  · rintro i E H' hi ⟨hH, h3, h4, h5, h8, acc, h7, hok, hr⟩
    have hH0 : H <+: H' := (List.prefix_append _ _).trans hH
    have hP : ∀ l : Heap, (H' ++ l)[H.length]? = some (some ⟨2, [p.v], false, true⟩) := by
      intro l; obtain ⟨t, rfl⟩ := hH; simp
    have hA : ∀ l : Heap, (H' ++ l)[H.length + 1]? = some (some ⟨3, [a.v], false, true⟩) := by
      intro l; obtain ⟨t, rfl⟩ := hH; simp
    have hB : ∀ l : Heap, (H' ++ l)[H.length + 2]? = some (some ⟨3, [b.v], false, true⟩) := by
      intro l; obtain ⟨t, rfl⟩ := hH; simp
    have hP0 : H'[H.length]? = some (some ⟨2, [p.v], false, true⟩) := by have := hP []; rwa [List.append_nil] at this
    rcases Nat.lt_or_ge i p.segs.length with hlt | hge
    · obtain ⟨s, hs⟩ : ∃ s, p.segs[i]? = some s := ⟨_, List.getElem?_eq_getElem hlt⟩
      have hs' : p.segs[i] = s := by rw [List.getElem?_eq_getElem hlt] at hs; injection hs
      have ws := w.at hs
      obtain ⟨bt, bl⟩ := segAt_tube (Pp.okAt ok hs)
      obtain ⟨os, oz⟩ := segAt_fr ws (Pp.okAt ok hs)
      have f1 : IntKind.i64.wrap ((i : Int) + 1) = ((i + 1 : Nat) : Int) := by rw [wrap_i64] <;> omega
      rw [List.drop_eq_getElem_cons hlt, hs', ovL] at hr
      have hH1 : ∀ x : Option Blk, H ++ [some ⟨2, [p.v], false, true⟩, some ⟨3, [a.v], false, true⟩, some ⟨3, [b.v], false, true⟩] <+: H' ++ [x] := fun _ => pre_app hH
      simp only [Pp.v, Dy.v, sgs] at hH1
      have anti := cmp_anti a s.to
      simp [c_fpref37_Over_l0, h3, h5, h8, hlt, hs', hP0, hB, sgs]
      refine WL_call rfl rfl rfl (RCmp_cq s.fr b os ob) ?_
      by_cases c1 : s.fr.cmp b < 0
      · simp [h4, c1, hA]
        refine WL_call rfl rfl rfl (RCmp_cq s.to a oz oa) ?_
        by_cases c2 : a.cmp s.to < 0
        · have c3 : 0 < s.to.cmp a := by omega
          rw [if_pos ⟨c1, c2⟩] at hr
          have hok2 := hok.step ws bt bl
          have btk : s.tube.all Iv.known = true := (boxOk_iff.1 bt).2.2
          cases acc with
          | none =>
            simp [h7, c3, accR]
            refine WL_call rfl rfl rfl (RBHull_cq s.tube s.tube ws.tube ws.tube rfl) ?_
            rw [hullL_self btk]
            simp [h3, h4, h5, h8, f1]
            exact ⟨hH1 _, some s.tube, rfl, hok2, hr⟩
          | some o =>
            obtain ⟨g1, g2, g3⟩ := hok o rfl
            obtain ⟨x, o', rfl⟩ : ∃ x o', o = x :: o' := by
              cases o with
              | nil => simp [boxOk] at g1
              | cons x o' => exact ⟨x, o', rfl⟩
            have hne : ¬ ((o'.length : Int) + 1 = 0) := by omega
            simp [h7, c3, accR, ivs, hne]
            refine WL_call rfl rfl rfl (RBHull_cq (x :: o') s.tube g3 ws.tube (by omega)) ?_
            simp [h3, h4, h5, h8, f1]
            exact ⟨hH1 _, some (hullL (x :: o') s.tube), rfl, hok2, hr⟩
        · have c3 : ¬ 0 < s.to.cmp a := by omega
          rw [if_neg (fun h => c2 h.2)] at hr
          simp [h7, c3, h3, h4, h5, h8, f1, hH1]
          exact ⟨_, rfl, hok, hr⟩
      · rw [if_neg (fun h => c1 h.1)] at hr
        simp [h7, c1, h3, h4, h5, h8, f1, hH1]
        exact ⟨_, rfl, hok, hr⟩
    · have hin : i = p.segs.length := by omega
      subst hin
      rw [List.drop_of_length_le hge, ovL] at hr
      rw [hr]
      cases acc with
      | none => simp [c_fpref37_Over_l0, h3, h8, h7, hP0, sgs, accR, take_pre hH0, ivs]
      | some o => simp [c_fpref37_Over_l0, h3, h8, h7, hP0, sgs, accR, take_pre hH0]

end Go.Abs.W
/- PipeAt returns true for each pipe and each two numbers. -/
namespace Go.Abs.W

theorem at_W {p : Pp} {t : Dy} (w : p.W) : BxW (p.at t) := by
  have nil : BxW [] := ⟨by simp, by simp⟩
  unfold Pp.at
  split
  · rename_i s g h1 h2
    split
    · exact w.start
    · split
      · exact (w.at h2).tube
      · exact (w.at h2).en
  · exact nil

theorem ovL_ok {n : Nat} {a b : Dy} : ∀ {l : List Sg} {acc : Option (List Iv)}, AccOk n acc → (∀ s ∈ l, s.W ∧ boxOk s.tube = true ∧ s.tube.length = n) → AccOk n (ovL a b acc l)
  | [], _, h, _ => h
  | s :: l, acc, h, hl => by
    have hs := hl s (by simp)
    rw [ovL]
    split
    · exact ovL_ok (h.step hs.1 hs.2.1 hs.2.2) (fun x hx => hl x (by simp [hx]))
    · exact ovL_ok h (fun x hx => hl x (by simp [hx]))

theorem tubes_ok {p : Pp} (w : p.W) (hv : p.valid = true) : ∀ s ∈ p.segs, s.W ∧ boxOk s.tube = true ∧ s.tube.length = p.start.length := by
  intro s hs
  obtain ⟨i, hi⟩ := List.getElem?_of_mem hs
  exact ⟨w.all s hs, segAt_tube (Pp.okAt (Pp.validSegs hv) hi)⟩

theorem over_W {p : Pp} {a b : Dy} (w : p.W) (hv : p.valid = true) : BxW (p.over a b) := by
  unfold Pp.over
  split
  · exact at_W w
  · have h := ovL_ok (a := a) (b := b) (acc := none) (fun o h => by cases h) (tubes_ok w hv)
    cases hq : ovL a b none p.segs with
    | none => exact ⟨by simp, by simp⟩
    | some o => exact (h o hq).2.2

theorem ovR_W {p : Pp} {a b : Dy} (w : p.W) : BxW (p.ovR a b) := by
  unfold Pp.ovR
  split
  · rename_i h
    have hv : p.valid = true := by
      unfold Pp.ovE at h; split at h
      · rename_i h'; simp at h'; exact h'.1.1
      · omega
    exact over_W w hv
  · exact ⟨by simp, by simp⟩

set_option maxHeartbeats 4000000 in
theorem PipeAt_cq (p : Pp) (t u : Dy) (tp : p.T) (tt : t.T) (tu : u.T) : CQ prog g_fplaw37_PipeAt [p.v, t.v, u.v] (.bool true) := by
  refine CQ_run rfl fun H => ?_
  simp
  refine WL_call rfl rfl rfl awake_cq ?_
  simp [sgs]
  refine WL_callH rfl rfl (H1 := H ++ [some ⟨2, [p.v], false, true⟩, some ⟨3, [t.v], false, true⟩, some ⟨3, [u.v], false, true⟩, some ⟨2, [p.v], true, false⟩]) (vs := [pps [p]]) (by simp [prep, frzVs, frzV, sgs]; rfl) (great_cq [p] (by simp) (by simp; exact tp.L)) ?_
  rcases Bool.eq_false_or_eq_true p.great with hg | hg
  · simp [hg]
  have w := tp.W hg
  simp [hg]
  refine WL_call rfl rfl rfl (long_cq' t) ?_
  rcases Bool.eq_false_or_eq_true t.long with ht | ht
  · simp [ht]
  have wt := tt.W ht
  simp [ht]
  refine WL_call rfl rfl rfl (long_cq' u) ?_
  rcases Bool.eq_false_or_eq_true u.long with hu | hu
  · simp [hu]
  have wu := tu.W hu
  simp [hu]
  refine WL_call rfl rfl rfl (At_cq p t w wt) ?_
  simp
  refine WL_call rfl rfl rfl (Over_cq p t u w wt wu) ?_
  simp
  refine WL_call rfl rfl rfl (RPValid_cq p w) ?_
  cases hv : p.valid
  · simp [Pp.atR, Pp.atE, Pp.ovR, Pp.ovE, hv, ivs]
  simp
  refine WL_call rfl rfl rfl (RValid_cq t wt) ?_
  cases htv : t.valid
  · simp [Pp.atR, Pp.atE, Pp.ovR, Pp.ovE, hv, htv, ivs]
  have ot := Dy.Ok.of wt.li htv
  simp
  refine WL_call rfl rfl rfl (RTime_cq p t w hv ot) ?_
  cases hd : p.during t
  · have he : p.atE t = 2 := by simp [Pp.atE, hv, htv, hd]
    have hR : p.atR t = [] := by simp [Pp.atR, he]
    simp [he, hR, ivs]
    refine WL_call rfl rfl rfl (RValid_cq u wu) ?_
    cases huv : u.valid
    · simp [Pp.ovR, Pp.ovE, hv, htv, huv]
    simp
    refine WL_call rfl rfl rfl (RTime_cq p t w hv ot) ?_
    simp [hd, Pp.ovR, Pp.ovE, hv, htv, huv]
  have he : p.atE t = 0 := by simp [Pp.atE, hv, htv, hd]
  have hR : p.atR t = p.at t := by rw [Pp.atR, if_pos he]
  rw [he, hR]
  simp
  refine WL_call rfl rfl rfl (RAt_cq p t w hv ot hd) ?_
  simp
  refine WL_call rfl rfl rfl (RBEqual_cq _ _ (at_W w) (at_W w)) ?_
  simp
  refine WL_call rfl rfl rfl (RValid_cq u wu) ?_
  cases huv : u.valid
  · simp [Pp.ovR, Pp.ovE, hv, htv, huv, ivs]
  have ou := Dy.Ok.of wu.li huv
  simp
  refine WL_call rfl rfl rfl (RTime_cq p t w hv ot) ?_
  simp [hd]
  refine WL_call rfl rfl rfl (RTime_cq p u w hv ou) ?_
  cases hdu : p.during u
  · simp [Pp.ovR, Pp.ovE, hv, htv, huv, hd, hdu, ivs]
  simp
  refine WL_call rfl rfl rfl (RCmp_cq t u ot ou) ?_
  have anti := cmp_anti t u
  by_cases hc : u.cmp t < 0
  · have hc' : 0 < t.cmp u := by omega
    simp [hc', Pp.ovR, Pp.ovE, hv, htv, huv, hd, hdu, hc, ivs]
  have hc' : ¬ 0 < t.cmp u := by omega
  have he2 : p.ovE t u = 0 := by simp [Pp.ovE, hv, htv, huv, hd, hdu]; omega
  have hR2 : p.ovR t u = p.over t u := by rw [Pp.ovR, if_pos he2]
  simp [hc', he2, hR2]
  refine WL_call rfl rfl rfl (ROver_cq p t u w hv ot ou hd) ?_
  simp
  refine WL_call rfl rfl rfl (RBEqual_cq _ _ (over_W w hv) (over_W w hv)) ?_
  simp

end Go.Abs.W
/- PipeOver returns true for each pipe and each three numbers. -/
namespace Go.Abs.W

theorem known_vals {x : Iv} (h : x.known = true) : x.lo.valid = true ∧ x.hi.valid = true ∧ x.lo.val ≤ x.hi.val ∧ x.all = false ∧ x.valid = true := by
  have h0 := h
  simp [Iv.known, Iv.valid] at h
  obtain ⟨a1, a2⟩ := h
  simp [a1] at a2
  obtain ⟨⟨a3, a4⟩, a5⟩ := a2
  rw [cmp_val a3 a4, cmpI_le_iff] at a5
  simp [Iv.known, a1] at h0
  exact ⟨a3, a4, a5, a1, h0⟩

theorem ins_iff {x y : Iv} (hx : x.known = true) (hy : y.known = true) : x.ins y = true ↔ y.lo.val ≤ x.lo.val ∧ x.hi.val ≤ y.hi.val := by
  obtain ⟨x1, x2, x3, x4, x5⟩ := known_vals hx
  obtain ⟨y1, y2, y3, y4, y5⟩ := known_vals hy
  simp [Iv.ins, x4, x5, y4, y5, cmp_val y1 x1, cmp_val x2 y2, cmpI_le_iff]

theorem hull_eq {x y : Iv} (hx : x.known = true) (hy : y.known = true) : x.hull y = ⟨x.lo.lo2 y.lo, x.hi.hi2 y.hi, false⟩ := by rw [Iv.hull, if_pos (by simp [hx, hy])]

theorem lo2_val {a b : Dy} (ha : a.valid = true) (hb : b.valid = true) : (a.lo2 b).val ≤ a.val ∧ (a.lo2 b).val ≤ b.val := by
  unfold Dy.lo2
  have := cmpI_le_iff (a := a.val) (b := b.val)
  rw [cmp_val ha hb]
  split <;> omega
theorem hi2_val {a b : Dy} (ha : a.valid = true) (hb : b.valid = true) : a.val ≤ (a.hi2 b).val ∧ b.val ≤ (a.hi2 b).val := by
  unfold Dy.hi2
  have := cmpI_neg_iff (a := a.val) (b := b.val)
  rw [cmp_val ha hb]
  split <;> omega

theorem ins_hull {x y z : Iv} (hx : x.known = true) (hy : y.known = true) (hz : z.known = true) (h : x.ins y = true ∨ x.ins z = true) : x.ins (y.hull z) = true := by
  obtain ⟨y1, y2, _⟩ := known_vals hy
  obtain ⟨z1, z2, _⟩ := known_vals hz
  have l := lo2_val y1 z1
  have r := hi2_val y2 z2
  rw [ins_iff hx (hull_known hy hz), hull_eq hy hz]
  simp only
  rcases h with h | h
  · rw [ins_iff hx hy] at h; omega
  · rw [ins_iff hx hz] at h; omega

theorem allB_hull_l : ∀ {l m k : List Iv}, l.all Iv.known = true → m.all Iv.known = true → k.all Iv.known = true → allB Iv.ins l m = true → allB Iv.ins l (hullL m k) = true
  | x :: l, y :: m, z :: k, h1, h2, h3, h => by
    simp only [List.all_cons, Bool.and_eq_true, allB, hullL] at h1 h2 h3 h ⊢
    exact ⟨ins_hull h1.1 h2.1 h3.1 (.inl h.1), allB_hull_l h1.2 h2.2 h3.2 h.2⟩
  | [], _, _, _, _, _, _ => by simp [allB]
  | _ :: _, [], _, _, _, _, _ => by simp [allB, hullL]
  | _ :: _, _ :: _, [], _, _, _, _ => by simp [allB, hullL]
theorem allB_hull_r : ∀ {l m k : List Iv}, l.all Iv.known = true → m.all Iv.known = true → k.all Iv.known = true → allB Iv.ins l k = true → allB Iv.ins l (hullL m k) = true
  | x :: l, y :: m, z :: k, h1, h2, h3, h => by
    simp only [List.all_cons, Bool.and_eq_true, allB, hullL] at h1 h2 h3 h ⊢
    exact ⟨ins_hull h1.1 h2.1 h3.1 (.inr h.1), allB_hull_r h1.2 h2.2 h3.2 h.2⟩
  | [], _, _, _, _, _, _ => by simp [allB]
  | _ :: _, [], _, _, _, _, _ => by simp [allB, hullL]
  | _ :: _, _ :: _, [], _, _, _, _ => by simp [allB, hullL]

/-- A box inside of what is under way stays inside. -/
theorem ov_keep {n : Nat} {a b : Dy} {y : List Iv} (hy : boxOk y = true) (hyn : y.length = n) : ∀ {l : List Sg} {o : List Iv}, AccOk n (some o) → (∀ s ∈ l, s.W ∧ boxOk s.tube = true ∧ s.tube.length = n) → allB Iv.ins y o = true →
    ∃ r, ovL a b (some o) l = some r ∧ allB Iv.ins y r = true ∧ r.length = n
  | [], o, ho, _, h => ⟨o, rfl, h, (ho o rfl).2.1⟩
  | s :: l, o, ho, hl, h => by
    have hs := hl s (by simp)
    have hl' : ∀ x ∈ l, x.W ∧ boxOk x.tube = true ∧ x.tube.length = n := fun x hx => hl x (by simp [hx])
    rw [ovL]
    split
    · refine ov_keep hy hyn (ho.step hs.1 hs.2.1 hs.2.2) hl' ?_
      exact allB_hull_l (boxOk_iff.1 hy).2.2 (boxOk_iff.1 (ho o rfl).1).2.2 (boxOk_iff.1 hs.2.1).2.2 h
    · exact ov_keep hy hyn ho hl' h

theorem ov_take {n : Nat} {a b : Dy} {y : List Iv} (hy : boxOk y = true) (hyn : y.length = n) : ∀ {l : List Sg} {acc : Option (List Iv)}, AccOk n acc → (∀ s ∈ l, s.W ∧ boxOk s.tube = true ∧ s.tube.length = n) →
    (∃ s ∈ l, s.fr.cmp b < 0 ∧ a.cmp s.to < 0 ∧ allB Iv.ins y s.tube = true) → ∃ r, ovL a b acc l = some r ∧ allB Iv.ins y r = true ∧ r.length = n
  | [], _, _, _, h => by obtain ⟨s, hs, _⟩ := h; simp at hs
  | s :: l, acc, ho, hl, h => by
    have hs := hl s (by simp)
    have hl' : ∀ x ∈ l, x.W ∧ boxOk x.tube = true ∧ x.tube.length = n := fun x hx => hl x (by simp [hx])
    obtain ⟨z, hz, c1, c2, c3⟩ := h
    rw [ovL]
    rcases List.mem_cons.1 hz with rfl | hz
    · rw [if_pos ⟨c1, c2⟩]
      refine ov_keep hy hyn (ho.step hs.1 hs.2.1 hs.2.2) hl' ?_
      cases acc with
      | none => exact c3
      | some o => exact allB_hull_r (boxOk_iff.1 hy).2.2 (boxOk_iff.1 (ho o rfl).1).2.2 (boxOk_iff.1 hs.2.1).2.2 c3
    · split
      · exact ov_take hy hyn (ho.step hs.1 hs.2.1 hs.2.2) hl' ⟨z, hz, c1, c2, c3⟩
      · exact ov_take hy hyn ho hl' ⟨z, hz, c1, c2, c3⟩

theorem sgOk_boxes {n : Nat} {bef : List Iv} {prev : Option Dy} {s : Sg} (h : sgOk n bef prev s = true) : boxOk s.tube = true ∧ s.tube.length = n ∧ boxOk s.en = true ∧ s.en.length = n ∧ allB Iv.ins s.en s.tube = true ∧ boxOk bef = true ∧ bef.length = n ∧ allB Iv.ins bef s.tube = true := by
  simp only [sgOk, Bool.and_eq_true, decide_eq_true_eq] at h
  obtain ⟨⟨⟨⟨⟨⟨h1, h2⟩, h3⟩, h4⟩, h5⟩, h6⟩, h7⟩ := h
  simp [boxIns] at h6 h7
  obtain ⟨⟨⟨a1, a2⟩, a3⟩, a4⟩ := h6
  obtain ⟨⟨⟨b1, b2⟩, b3⟩, b4⟩ := h7
  exact ⟨a2, h4, a1, by omega, a4, b1, by omega, b4⟩

/-- The segment whose tube holds the box at a time, among those between two times. -/
theorem at_seg {n : Nat} {a b t : Dy} (ha : a.valid = true) (hb : b.valid = true) (ht : t.valid = true) (h1 : a.val ≤ t.val) (h2 : t.val ≤ b.val) (hab : a.val < b.val) : ∀ {s : Sg} {l : List Sg} {bef : List Iv} {prev : Option Dy} {y : List Iv}, okFrom n bef prev (s :: l) = true →
    s.fr.val < t.val → b.val ≤ ((s :: l).getLast (by simp)).to.val → atL t (s :: l) = some y → boxOk y = true ∧ y.length = n ∧ ∃ g ∈ s :: l, g.fr.cmp b < 0 ∧ a.cmp g.to < 0 ∧ allB Iv.ins y g.tube = true
  | s, l, bef, prev, y, h, hf, hl, hy => by
    simp only [okFrom, Bool.and_eq_true] at h
    obtain ⟨k1, k2⟩ := h
    obtain ⟨g1, g2, g3, g4, g5⟩ := sgOk_facts k1
    obtain ⟨b1, b2, b3, b4, b5, b6, b7, b8⟩ := sgOk_boxes k1
    have a1 := cmp_lt ht g2
    have a3 := cmp_lt g2 ht
    have a5 := cmp_lt g1 hb
    have a6 := cmp_lt ha g2
    simp only [atL] at hy
    by_cases c1 : s.to.cmp t < 0
    · rw [if_pos c1] at hy
      cases l with
      | nil => simp [atL] at hy
      | cons x l =>
        have k2' := k2
        simp only [okFrom, Bool.and_eq_true] at k2'
        have e := (sgOk_facts k2'.1).2.2.2.2 s.to rfl g2
        rw [List.getLast_cons (by simp)] at hl
        obtain ⟨r1, r2, g, hg, r3⟩ := at_seg ha hb ht h1 h2 hab k2 (by omega) hl hy
        exact ⟨r1, r2, g, by simp [hg], r3⟩
    · rw [if_neg c1] at hy
      injection hy with hy
      by_cases c2 : t.cmp s.to < 0
      · rw [if_pos c2] at hy
        subst hy
        refine ⟨b1, b2, s, by simp, by omega, by omega, ?_⟩
        rw [allB_iff]
        intro i x z hx hz
        rw [hx] at hz; injection hz with hz; subst hz
        have := known_vals (List.all_eq_true.1 (boxOk_iff.1 b1).2.2 x (List.mem_of_getElem? hx))
        exact ins_refl this.2.2.2.2 this.2.2.2.1
      · rw [if_neg c2] at hy
        subst hy
        by_cases c3 : a.cmp s.to < 0
        · exact ⟨b3, b4, s, by simp, by omega, c3, b5⟩
        · cases l with
          | nil => simp at hl; omega
          | cons x l =>
            simp only [okFrom, Bool.and_eq_true] at k2
            obtain ⟨m1, m2, m3, m4, m5⟩ := sgOk_facts k2.1
            obtain ⟨_, _, _, _, _, n1, n2, n3⟩ := sgOk_boxes k2.1
            have e := m5 s.to rfl g2
            have a7 := cmp_lt m1 hb
            have a8 := cmp_lt ha m2
            exact ⟨b3, b4, x, by simp, by omega, by omega, n3⟩

theorem over_in {p : Pp} {a b t : Dy} (w : p.W) (hv : p.valid = true) (oa : a.Ok) (ob : b.Ok) (ot : t.Ok) (da : p.during a = true) (db : p.during b = true) (h1 : a.cmp t ≤ 0) (h2 : t.cmp b ≤ 0) (dt : p.during t = true) : boxIn (p.at t) (p.over a b) = true := by
  have va := oa.valid; have vb := ob.valid; have vt := ot.valid
  rw [cmp_val va vt, cmpI_le_iff] at h1
  rw [cmp_val vt vb, cmpI_le_iff] at h2
  obtain ⟨s, l, h⟩ := during_ne dt
  have ok := Pp.validSegs hv
  rw [segsOk_from, h] at ok
  obtain ⟨d1, d2⟩ := (during_val hv h vt).1 dt
  obtain ⟨e1, e2⟩ := (during_val hv h va).1 da
  obtain ⟨f1, f2⟩ := (during_val hv h vb).1 db
  have ok' := ok
  simp only [okFrom, Bool.and_eq_true] at ok'
  obtain ⟨g1, g2, g3, g4, g5⟩ := sgOk_facts ok'.1
  obtain ⟨b1, b2, b3, b4, b5, b6, b7, b8⟩ := sgOk_boxes ok'.1
  have vs : s.fr.valid = true := g1
  have self : ∀ y : List Iv, boxOk y = true → boxIn y y = true := by
    intro y hy
    have := boxIns_refl hy
    simp [boxIns] at this
    simp [boxIn, this]
  have z0 : t.cmp s.fr = 0 ↔ t.val = s.fr.val := by rw [cmp_val vt vs, cmpI_zero_iff]
  have at0 := at_atL (u := t) h
  have hs : (atL t (s :: l)).isSome = true := by
    obtain ⟨h0, i, hi⟩ := during_num dt
    rw [atL_find, ← h, hi]
    have := (List.findIdx?_eq_some_iff_getElem.1 hi).1
    simp [this]
  obtain ⟨y0, hy0⟩ := Option.isSome_iff_exists.1 hs
  rcases Int.lt_or_le a.val b.val with hab | hab
  · have hov : p.over a b = (ovL a b none p.segs).getD [] := by
      rw [Pp.over, if_neg]; rw [cmp_val va vb, cmpI_zero_iff]; omega
    have key : boxOk (p.at t) = true ∧ (p.at t).length = p.start.length ∧ ∃ g ∈ s :: l, g.fr.cmp b < 0 ∧ a.cmp g.to < 0 ∧ allB Iv.ins (p.at t) g.tube = true := by
      by_cases c : t.cmp s.fr = 0
      · rw [at0, if_pos c]
        have := z0.1 c
        have c1 := cmp_lt g1 vb
        have c2 := cmp_lt va g2
        exact ⟨b6, b7, s, by simp, by omega, by omega, b8⟩
      · rw [at0, if_neg c, h, hy0]
        have : t.val ≠ s.fr.val := fun e => c (z0.2 e)
        exact at_seg va vb vt h1 h2 hab ok (by omega) f2 hy0
    obtain ⟨k1, k2, k3⟩ := key
    have tk := tubes_ok w hv
    rw [h] at tk
    obtain ⟨r, r1, r2, r3⟩ := ov_take (acc := none) k1 k2 (fun o h => by cases h) tk k3
    rw [hov, h, r1]
    simp [boxIn, r2, r3, k2]
  · have : a = t := val_inj oa ot (by omega)
    subst this
    have hab' : a.cmp b = 0 := by rw [cmp_val va vb, cmpI_zero_iff]; omega
    rw [Pp.over, if_pos hab']
    refine self _ ?_
    by_cases c : a.cmp s.fr = 0
    · rw [at0, if_pos c]; exact b6
    · rw [at0, if_neg c, h, hy0]
      show boxOk y0 = true
      -- the box is a tube or an end
      have : ∀ {l : List Sg} {bef : List Iv} {prev : Option Dy} {y : List Iv}, okFrom p.start.length bef prev l = true → atL a l = some y → boxOk y = true := by
        intro l
        induction l with
        | nil => intro bef prev y _ hy; simp [atL] at hy
        | cons x l ih =>
          intro bef prev y hk hy
          simp only [okFrom, Bool.and_eq_true] at hk
          have bb := sgOk_boxes hk.1
          simp only [atL] at hy
          split at hy
          · exact ih hk.2 hy
          · injection hy with hy
            split at hy
            · rw [← hy]; exact bb.1
            · rw [← hy]; exact bb.2.2.1
      exact this ok hy0

set_option maxHeartbeats 4000000 in
theorem PipeOver_cq (p : Pp) (a b t : Dy) (tp : p.T) (ta : a.T) (tb : b.T) (tt : t.T) : CQ prog g_fplaw37_PipeOver [p.v, a.v, b.v, t.v] (.bool true) := by
  refine CQ_run rfl fun H => ?_
  simp
  refine WL_call rfl rfl rfl awake_cq ?_
  simp [sgs]
  refine WL_callH rfl rfl (H1 := H ++ [some ⟨2, [p.v], false, true⟩, some ⟨3, [a.v], false, true⟩, some ⟨3, [b.v], false, true⟩, some ⟨3, [t.v], false, true⟩, some ⟨2, [p.v], true, false⟩]) (vs := [pps [p]]) (by simp [prep, frzVs, frzV, sgs]; rfl) (great_cq [p] (by simp) (by simp; exact tp.L)) ?_
  rcases Bool.eq_false_or_eq_true p.great with hg | hg
  · simp [hg]
  have w := tp.W hg
  simp [hg]
  refine WL_call rfl rfl rfl (long_cq' a) ?_
  rcases Bool.eq_false_or_eq_true a.long with h1 | h1
  · simp [h1]
  have wa := ta.W h1
  simp [h1]
  refine WL_call rfl rfl rfl (long_cq' b) ?_
  rcases Bool.eq_false_or_eq_true b.long with h2 | h2
  · simp [h2]
  have wb := tb.W h2
  simp [h2]
  refine WL_call rfl rfl rfl (long_cq' t) ?_
  rcases Bool.eq_false_or_eq_true t.long with h3 | h3
  · simp [h3]
  have wt := tt.W h3
  simp [h3]
  refine WL_call rfl rfl rfl (Over_cq p a b w wa wb) ?_
  simp
  refine WL_call rfl rfl rfl (At_cq p t w wt) ?_
  simp
  by_cases e1' : ¬ p.ovE a b = 0
  · simp [e1']
  have e1 : p.ovE a b = 0 := by omega
  by_cases e2' : ¬ p.atE t = 0
  · simp [e1, e2']
  have e2 : p.atE t = 0 := by omega
  simp [e1, e2]
  have f1 : p.valid = true ∧ a.valid = true ∧ b.valid = true ∧ p.during a = true ∧ p.during b = true := by
    unfold Pp.ovE at e1
    split at e1
    · rename_i h; simp at h
      split at e1
      · rename_i h'; simp at h'; exact ⟨h.1.1, h.1.2, h.2, h'.1.1, h'.1.2⟩
      · omega
    · omega
  have f2 : t.valid = true ∧ p.during t = true := by
    unfold Pp.atE at e2
    split at e2
    · rename_i h; simp at h
      split at e2
      · rename_i h'; exact ⟨h.2, h'⟩
      · omega
    · omega
  obtain ⟨hv, va, vb, da, db⟩ := f1
  obtain ⟨vt, dt⟩ := f2
  have oa := Dy.Ok.of wa.li va; have ob := Dy.Ok.of wb.li vb; have ot := Dy.Ok.of wt.li vt
  refine WL_call rfl rfl rfl (RCmp_cq a t oa ot) ?_
  by_cases c1 : 0 < a.cmp t
  · simp [c1]
  simp [c1]
  refine WL_call rfl rfl rfl (RCmp_cq t b ot ob) ?_
  by_cases c2 : 0 < t.cmp b
  · simp [c2]
  simp [c2]
  refine WL_call rfl rfl rfl (RBInside_cq _ _ (atR_W w) (ovR_W w)) ?_
  have e3 : p.atR t = p.at t := by rw [Pp.atR, if_pos e2]
  have e4 : p.ovR a b = p.over a b := by rw [Pp.ovR, if_pos e1]
  simp [e3, e4, over_in w hv oa ob ot da db (by omega) (by omega) dt]

end Go.Abs.W
