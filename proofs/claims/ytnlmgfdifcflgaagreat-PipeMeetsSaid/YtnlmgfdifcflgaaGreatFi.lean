/- Parts of the proof: FpIMeet, FpLawOver, FpMeet. -/
import Derived.Test.YtnlmgfdifcflgaaGreatFe
/- What intervals and boxes have in common. -/
namespace Go.Abs.W

@[simp] theorem nlt_add2 (n k : Nat) : ¬ (n + k < n) := by omega


def Iv.zero : Iv := ⟨⟨false, [], 0⟩, ⟨false, [], 0⟩, false⟩
def Iv.meet (x y : Iv) : Option Iv :=
 if x.valid && y.valid then
   (if x.all then some y else if y.all then some x else
     if 0 < (x.lo.hi2 y.lo).cmp (x.hi.lo2 y.hi) then none else some ⟨x.lo.hi2 y.lo, x.hi.lo2 y.hi, false⟩)
 else none
def meetV (o : Option Iv) : V := .tup [(o.getD Iv.zero).v, .bool o.isSome]

theorem Iv.W.meet {x y z : Iv} (hx : x.W) (hy : y.W) (h : x.meet y = some z) : z.W := by
 unfold Iv.meet at h
 split at h
 · split at h
   · injection h with h; rw [← h]; exact hy
   · split at h
     · injection h with h; rw [← h]; exact hx
     · split at h
       · cases h
       · injection h with h; rw [← h]; exact ⟨hx.lo.hi2 hy.lo, hx.hi.lo2 hy.hi⟩
 · cases h

set_option maxHeartbeats 1000000 in
theorem iMeet_cq (x y : Iv) (wx : x.W) (wy : y.W) : CQ prog g_interval_Meet [x.v, y.v] (meetV (x.meet y)) := by
 refine CQ_run rfl fun H => ?_
 simp
 refine WL_call rfl rfl rfl (IValid_cq x wx) ?_
 cases hx : x.valid
 · simp [Iv.meet, hx, meetV, Iv.zero, lim]
 simp
 refine WL_call rfl rfl rfl (IValid_cq y wy) ?_
 cases hy : y.valid
 · simp [Iv.meet, hx, hy, meetV, Iv.zero, lim]
 rcases Bool.eq_false_or_eq_true x.all with ax | ax
 · simp [Iv.meet, hx, hy, ax, meetV]
 rcases Bool.eq_false_or_eq_true y.all with ay | ay
 · simp [Iv.meet, hx, hy, ax, ay, meetV]
 simp [ax, ay]
 refine WL_call rfl rfl rfl (imore_cq x.lo y.lo wx.lo wy.lo) ?_
 simp
 refine WL_call rfl rfl rfl (iless_cq x.hi y.hi wx.hi wy.hi) ?_
 simp
 refine WL_call rfl rfl rfl (DCmp_cq (x.lo.hi2 y.lo) (x.hi.lo2 y.hi) (wx.lo.hi2 wy.lo) (wx.hi.lo2 wy.hi)) ?_
 by_cases c : 0 < (x.lo.hi2 y.lo).cmp (x.hi.lo2 y.hi)
 · simp [c, Iv.meet, hx, hy, ax, ay, meetV, Iv.zero, lim]
 · simp [c, Iv.meet, hx, hy, ax, ay, meetV]

theorem lo2_ok {a b : Dy} (ha : a.Ok) (hb : b.Ok) : (a.lo2 b).Ok := by unfold Dy.lo2; split <;> assumption
theorem hi2_ok {a b : Dy} (ha : a.Ok) (hb : b.Ok) : (a.hi2 b).Ok := by unfold Dy.hi2; split <;> assumption

set_option maxHeartbeats 1000000 in
theorem RMeet_cq (x y : Iv) (wx : x.W) (wy : y.W) : CQ prog g_fpref05_Meet [x.v, y.v] (meetV (x.meet y)) := by
 refine CQ_run rfl fun H => ?_
 simp
 refine WL_call rfl rfl rfl (RIValid_cq x wx) ?_
 cases hx : x.valid
 · simp [Iv.meet, hx, meetV, Iv.zero, lim]
 simp
 refine WL_call rfl rfl rfl (RIValid_cq y wy) ?_
 cases hy : y.valid
 · simp [Iv.meet, hx, hy, meetV, Iv.zero, lim]
 rcases Bool.eq_false_or_eq_true x.all with ax | ax
 · simp [Iv.meet, hx, hy, ax, meetV]
 rcases Bool.eq_false_or_eq_true y.all with ay | ay
 · simp [Iv.meet, hx, hy, ax, ay, meetV]
 simp [ax, ay]
 have o1 := wx.okLo hx ax; have o2 := wx.okHi hx ax; have o3 := wy.okLo hy ay; have o4 := wy.okHi hy ay
 refine WL_call rfl rfl rfl (most_cq x.lo y.lo o1 o3) ?_
 simp
 refine WL_call rfl rfl rfl (least_cq x.hi y.hi o2 o4) ?_
 simp
 refine WL_call rfl rfl rfl (RCmp_cq (x.lo.hi2 y.lo) (x.hi.lo2 y.hi) (hi2_ok o1 o3) (lo2_ok o2 o4)) ?_
 by_cases c : 0 < (x.lo.hi2 y.lo).cmp (x.hi.lo2 y.hi)
 · simp [c, Iv.meet, hx, hy, ax, ay, meetV, Iv.zero, lim]
 · simp [c, Iv.meet, hx, hy, ax, ay, meetV]

end Go.Abs.W

/- PipeOver returns true for each pipe and each three numbers. -/
namespace Go.Abs.W

end Go.Abs.W

/- What boxes have in common; First. -/
namespace Go.Abs.W

def meetL : List Iv → List Iv → Option (List Iv)
 | x :: l, y :: m => (x.meet y).bind fun z => (meetL l m).map fun r => z :: r
 | _, _ => some []
def boxV (o : Option (List Iv)) : V := .tup [ivs (o.getD []), .bool o.isSome]
def boxMeet (a b : List Iv) : Option (List Iv) := if boxOk a && boxOk b && decide (a.length = b.length) then meetL a b else none

theorem meetL_nil {m : List Iv} : meetL [] m = some [] := by cases m <;> rfl

theorem meetL_drop {l m : List Iv} {i : Nat} (h1 : i < l.length) (h2 : i < m.length) : meetL (l.drop i) (m.drop i) = (l[i].meet m[i]).bind fun z => (meetL (l.drop (i + 1)) (m.drop (i + 1))).map fun r => z :: r := by
 rw [List.drop_eq_getElem_cons h1, List.drop_eq_getElem_cons h2, meetL]

theorem meetL_W : ∀ {l m r : List Iv}, (∀ x ∈ l, x.W) → (∀ x ∈ m, x.W) → meetL l m = some r → (∀ x ∈ r, x.W) ∧ (l.length = m.length → r.length = l.length)
 | x :: l, y :: m, r, h1, h2, h => by
   simp only [meetL, Option.bind_eq_some_iff, Option.map_eq_some_iff] at h
   obtain ⟨z, g1, r', g2, rfl⟩ := h
   obtain ⟨k1, k2⟩ := meetL_W (fun a ha => h1 a (by simp [ha])) (fun a ha => h2 a (by simp [ha])) g2
   refine ⟨fun a ha => ?_, fun hl => by simp [k2 (by simpa using hl)]⟩
   rcases List.mem_cons.1 ha with rfl | ha
   · exact (h1 x (by simp)).meet (h2 y (by simp)) g1
   · exact k1 a ha
 | [], m, r, _, _, h => by simp [meetL] at h; subst h; simp
 | _ :: _, [], r, _, _, h => by simp [meetL] at h; subst h; simp

set_option maxHeartbeats 2000000 in
theorem BMeet_cq (a b : List Iv) (wa : BxW a) (wb : BxW b) : CQ prog g_box_Meet [ivs a, ivs b] (boxV (boxMeet a b)) := by
 refine CQ_run rfl fun H => ?_
 simp
 refine WL_call rfl rfl rfl (two_cq a b wa wb) ?_
 cases ht : boxOk a && boxOk b && decide (a.length = b.length)
 · simp [boxMeet, ht, boxV, ivs]
 have hlen : a.length = b.length := by simp at ht; exact ht.2
 have hbm : boxMeet a b = meetL a b := by rw [boxMeet, if_pos ht]
 have hal := wa.len
 rw [hbm]
 simp [ivs]
 refine WK_up (fun i E H' => E 0 = ivs a ∧ E 1 = ivs b ∧ E 14 = ivs a ∧ E 15 = .int .i64 a.length ∧ E 16 = .int .i64 i ∧ ∃ o, Out H H' (E 6) 7 (o.map Iv.v) ∧ o.length = i ∧ meetL a b = (meetL (a.drop i) (b.drop i)).map (o ++ ·)) a.length ?_ ?_
 · simp [ivs]
   exact ⟨[], .nil, rfl, by simp⟩
 · rintro i E H' hi ⟨h0, h1, h14, h15, h16, o, h6, ho, hr⟩
   simp only [ivs] at h0 h1 h14
   rcases Nat.lt_or_ge i a.length with h2 | h2
   · have f1 : IntKind.i64.wrap ((i : Int) + 1) = ((i + 1 : Nat) : Int) := by rw [wrap_i64] <;> omega
     have h3 : i < b.length := by omega
     rw [meetL_drop h2 h3] at hr
     simp [c_box_Meet_l0, h0, h1, h15, h16, h2, h3]
     refine WL_call rfl rfl rfl (iMeet_cq a[i] b[i] (wa.all _ (List.getElem_mem h2)) (wb.all _ (List.getElem_mem h3))) ?_
     cases hm : a[i].meet b[i] with
     | none =>
       rw [hm] at hr
       have T := take_pre (pre_app (l := [some ⟨7, [Iv.zero.v], false, true⟩]) h6.pre)
       simp only [Iv.v] at T
       simp at hr
       simp [meetV, hr, boxV, ivs, T]
     | some z =>
       rw [hm] at hr
       obtain ⟨v', H'', e', ho'⟩ := (h6.grow [some ⟨7, [z.v], false, true⟩]).oneIv z (by omega)
       simp only [Iv.v] at e'
       simp at e'
       simp [meetV, h0, h1, h14, h15, h16, f1, ivs, e']
       refine ⟨o ++ [z], by simpa using ho', by simp; omega, ?_⟩
       rw [hr]
       cases meetL (List.drop (i + 1) a) (List.drop (i + 1) b) <;> simp
   · have hin : i = a.length := by omega
     subst hin
     rw [List.drop_of_length_le h2, meetL_nil] at hr
     obtain ⟨H3, hp3, _, e3⟩ := h6.frz
     simp [c_box_Meet_l0, h15, h16, e3, take_pre hp3, hr, boxV, ivs]

set_option maxHeartbeats 2000000 in
theorem Common_cq (a b : List Iv) (wa : BxW a) (wb : BxW b) (hlen : a.length = b.length) : CQ prog g_fpref37_Common [ivs a, ivs b] (boxV (meetL a b)) := by
 refine CQ_run rfl fun H => ?_
 have hal := wa.len
 simp [ivs]
 refine WK_up (fun i E H' => E 0 = ivs a ∧ E 1 = ivs b ∧ E 7 = .int .i64 i ∧ ∃ o, Out H H' (E 6) 7 (o.map Iv.v) ∧ o.length = i ∧ meetL a b = (meetL (a.drop i) (b.drop i)).map (o ++ ·)) a.length ?_ ?_
 · simp [ivs]
   exact ⟨[], .nil, rfl, by simp⟩
 · rintro i E H' hi ⟨h0, h1, h7, o, h6, ho, hr⟩
   simp only [ivs] at h0 h1
   rcases Nat.lt_or_ge i a.length with h2 | h2
   · have f1 : IntKind.i64.wrap ((i : Int) + 1) = ((i + 1 : Nat) : Int) := by rw [wrap_i64] <;> omega
     have h3 : i < b.length := by omega
     rw [meetL_drop h2 h3] at hr
     simp [c_fpref37_Common_l0, h0, h1, h7, h2, h3]
     refine WL_call rfl rfl rfl (RMeet_cq a[i] b[i] (wa.all _ (List.getElem_mem h2)) (wb.all _ (List.getElem_mem h3))) ?_
     cases hm : a[i].meet b[i] with
     | none =>
       rw [hm] at hr
       have T := take_pre (pre_app (l := [some ⟨7, [Iv.zero.v], false, true⟩]) h6.pre)
       simp only [Iv.v] at T
       simp at hr
       simp [meetV, hr, boxV, ivs, T]
     | some z =>
       rw [hm] at hr
       obtain ⟨v', H'', e', ho'⟩ := (h6.grow [some ⟨7, [z.v], false, true⟩]).oneIv z (by omega)
       simp only [Iv.v] at e'
       simp at e'
       simp [meetV, h0, h1, h7, f1, ivs, e']
       refine ⟨o ++ [z], by simpa using ho', by simp; omega, ?_⟩
       rw [hr]
       cases meetL (List.drop (i + 1) a) (List.drop (i + 1) b) <;> simp
   · have hin : i = a.length := by omega
     subst hin
     rw [List.drop_of_length_le h2, meetL_nil] at hr
     obtain ⟨H3, hp3, _, e3⟩ := h6.frz
     simp [c_fpref37_Common_l0, h0, h7, e3, take_pre hp3, hr, boxV, ivs]

def Pp.first (p : Pp) (b : List Iv) : Option Nat := if p.valid then p.segs.findIdx? (fun s => (boxMeet s.tube b).isSome) else none

end Go.Abs.W

