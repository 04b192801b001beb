/- Parts of the proof: FpDy, FpSlcU, FpSlc, FpBop, FpLimb, FpN2, FpDyC, FpVal, FpCmp, FpOut, FpOutI, FpRef2, FpRef2b, FpRef2c, FpRef2d, FpRef2e, FpRef2f, FpSlc2, FpIv0, FpIv, FpRef50, FpRef5, FpPipe, FpPipe2, FpPipe3, FpCut, FpRef37, FpRef37b, FpCutL, FpCutM, FpLaw37, FpAwake. -/
import Derived.Test.YtnlmgfdifcflgaaGreatFp
import Derived.Test.YtnlmgfdifcflgaaGreatFa
/- Numbers, intervals, segments, pipes as abstract values; what simp needs to run code on them. -/
namespace Go.Abs.W

structure Dy where
 neg : Bool
 m : List Nat
 e : Int
 deriving DecidableEq

structure Iv where
 lo : Dy
 hi : Dy
 all : Bool
 deriving DecidableEq

structure Sg where
 fr : Dy
 to : Dy
 tube : List Iv
 en : List Iv
 deriving DecidableEq

structure Pp where
 start : List Iv
 segs : List Sg
 deriving DecidableEq

@[simp] def Dy.v (d : Dy) : V := .agg [.bool d.neg, lim d.m, .int .i64 d.e]
@[simp] def Iv.v (x : Iv) : V := .agg [.bool x.lo.neg, lim x.lo.m, .int .i64 x.lo.e, .bool x.hi.neg, lim x.hi.m, .int .i64 x.hi.e, .bool x.all]
def ivs (l : List Iv) : V := .sl (l.map Iv.v)
@[simp] def Sg.v (s : Sg) : V := .agg [.bool s.fr.neg, lim s.fr.m, .int .i64 s.fr.e, .bool s.to.neg, lim s.to.m, .int .i64 s.to.e, ivs s.tube, ivs s.en]
def sgs (l : List Sg) : V := .sl (l.map Sg.v)
@[simp] def Pp.v (p : Pp) : V := .agg [ivs p.start, sgs p.segs]
def pps (l : List Pp) : V := .sl (l.map Pp.v)
def lims (l : List (List Nat)) : V := .sl (l.map lim)
@[simp] theorem cells_ivs {l : List Iv} : (ivs l).cells = [ivs l] := rfl
@[simp] theorem cells_sgs {l : List Sg} : (sgs l).cells = [sgs l] := rfl
@[simp] theorem isTup_ivs {l : List Iv} : (ivs l).isTup = false := rfl
@[simp] theorem isTup_sgs {l : List Sg} : (sgs l).isTup = false := rfl

/-- What Go holds: limbs of 32 bits, lists that are not too long, numbers of 64 bits. -/
structure Dy.wt (d : Dy) : Prop where
 li : Li d.m
 len : d.m.length ≤ 9223372036854775807
 lo : -9223372036854775808 ≤ d.e
 hi : d.e < 9223372036854775808


-- results
@[simp] theorem frzC_bool {H : Heap} {b : Bool} : frzC H (.bool b) = some (.bool b, H) := rfl
@[simp] theorem frzC_int {H : Heap} {k : IntKind} {n : Int} : frzC H (.int k n) = some (.int k n, H) := rfl
@[simp] theorem frzC_sl {H : Heap} {l : List V} : frzC H (.sl l) = some (.sl l, H) := rfl
@[simp] theorem frzC_lim {H : Heap} {l : List Nat} : frzC H (lim l) = some (lim l, H) := rfl
@[simp] theorem frzC_ivs {H : Heap} {l : List Iv} : frzC H (ivs l) = some (ivs l, H) := rfl
@[simp] theorem frzC_sgs {H : Heap} {l : List Sg} : frzC H (sgs l) = some (sgs l, H) := rfl
@[simp] theorem frzC_nil {H : Heap} : frzC H .nil = some (.sl [], H) := rfl
@[simp] theorem cp_bool {b : Bool} : (V.bool b).cellPure = true := rfl
@[simp] theorem cp_int {k : IntKind} {n : Int} : (V.int k n).cellPure = true := rfl
@[simp] theorem cp_sl {l : List V} : (V.sl l).cellPure = true := rfl
@[simp] theorem cp_lim {l : List Nat} : (lim l).cellPure = true := rfl
@[simp] theorem cp_ivs {l : List Iv} : (ivs l).cellPure = true := rfl
@[simp] theorem cp_sgs {l : List Sg} : (sgs l).cellPure = true := rfl
@[simp] theorem cp_nil : V.nil.cellPure = true := rfl
@[simp] theorem fin_tup {n : Nat} {H : Heap} {vs : List V} : fin false n H (.tup vs) = (pureIns H vs).bind fun (vs', H1) => some (.tup vs', H1.take n) := rfl
@[simp] theorem fin_agg {n : Nat} {H : Heap} {cs : List V} : fin false n H (.agg cs) = (pureIn H (.agg cs)).bind fun (v', H1) => some (v', H1.take n) := rfl
@[simp] theorem fin_nil {n : Nat} {H : Heap} : fin false n H .nil = some (.sl [], H.take n) := rfl
@[simp] theorem fin_ref {n : Nat} {H : Heap} {b z off len : Nat} : fin false n H (.ref b z off len) = (pureIn H (.ref b z off len)).bind fun (v', H1) => some (v', H1.take n) := rfl
@[simp] theorem fin_sgs {n : Nat} {H : Heap} {l : List Sg} : fin false n H (sgs l) = some (sgs l, H.take n) := rfl
@[simp] theorem pureIn_lim {H : Heap} {l : List Nat} : pureIn H (lim l) = some (lim l, H) := rfl
@[simp] theorem pureIn_ivs {H : Heap} {l : List Iv} : pureIn H (ivs l) = some (ivs l, H) := rfl
@[simp] theorem pureIn_sgs {H : Heap} {l : List Sg} : pureIn H (sgs l) = some (sgs l, H) := rfl
@[simp] theorem pureIn_bool {H : Heap} {b : Bool} : pureIn H (.bool b) = some (.bool b, H) := rfl
@[simp] theorem pureIn_int {H : Heap} {k : IntKind} {n : Int} : pureIn H (.int k n) = some (.int k n, H) := rfl
@[simp] theorem pureIn_sl {H : Heap} {l : List V} : pureIn H (.sl l) = some (.sl l, H) := rfl
@[simp] theorem pureIn_nil {H : Heap} : pureIn H .nil = some (.sl [], H) := rfl
@[simp] theorem pureIn_agg {H : Heap} {cs : List V} : pureIn H (.agg cs) = (frzCs H cs).bind fun (cs', H1) => if (V.agg cs').pure = true then some (.agg cs', H1) else none := by
 unfold pureIn frzV; simp only []; generalize frzCs H cs = o; cases o <;> rfl
@[simp] theorem fin_lim {n : Nat} {H : Heap} {l : List Nat} : fin false n H (lim l) = some (lim l, H.take n) := rfl
@[simp] theorem fin_ivs {n : Nat} {H : Heap} {l : List Iv} : fin false n H (ivs l) = some (ivs l, H.take n) := rfl
@[simp] theorem pureIn_ref {H : Heap} {b z off len : Nat} : pureIn H (.ref b z off len) = frzC H (.ref b z off len) := by
 show (frzC H (.ref b z off len)).bind _ = _
 unfold frzC
 simp only []
 split
 · split
   · rfl
   · rfl
 · rfl
@[simp] theorem frzC_ref {H : Heap} {b z off len : Nat} : frzC H (.ref b z off len) = match H[b]? with
   | some (some k) => if k.arr = true ∧ k.z = z ∧ off + len ≤ k.el.length then some (.sl ((k.el.drop off).take len), if k.wr then H.set b (some { k with wr := false }) else H) else none
   | _ => none := rfl
theorem appendLimit_iff {n b : Nat} : appendLimit n b = true ↔ n * b ≤ 140737488355328 := by simp [appendLimit]
attribute [simp] appendLimit_iff
attribute [simp] pureIns frzCs V.pure V.withCells splice fillC fillE elems headOk

theorem take_pre {α : Type} {H H' : List α} (h : H <+: H') : H'.take H.length = H := by
 obtain ⟨t, rfl⟩ := h; simp
theorem pre_app {α : Type} {H H' l : List α} (h : H <+: H') : H <+: H' ++ l := h.trans (List.prefix_append _ _)
@[simp] theorem pre_app_self {α : Type} {H l : List α} : H <+: H ++ l := List.prefix_append _ _

end Go.Abs.W

/- The generic functions on slices: callbacks, lists of limbs. -/
namespace Go.Abs.W

/-- What a function value answers in every later memory. -/
def Cb (H : Heap) (g : Nat) (caps args : List V) (v : V) : Prop :=
 ∀ H', H <+: H' → prep prog g H' (args ++ caps) = some (args ++ caps, H') ∧ Ev prog (.call g (args ++ caps) H') (.ret v H')

theorem Cb.mono {H H' : Heap} {g : Nat} {caps args : List V} {v : V} (h : Cb H g caps args v) (hp : H <+: H') : Cb H' g caps args v := fun K hK => h K (hp.trans hK)

def idxV (o : Option Nat) : V := match o with
 | some i => .int .i64 i
 | none => .int .i64 (-1)

theorem WL_cb {n0 : Nat} {Q : AX → Env → Heap → Prop} {d : Bool} {dst : Option Nat} {sy : Bool} {l : List AOper} {K : List Fr} {E : Env} {H H0 : Heap} {x : X} {caps args : List V} {xs : List X} {g : Nat} {v : V} (h : Cb H0 g caps args v) (hp : H0 <+: H)
   (hx : getX E x = .fn g caps) (ha : xs.map (getX E) = args) (k : WL prog n0 d l K (put E dst v) H Q) : WLcall prog n0 d dst x xs sy l K E H Q :=
 WO_call hx (by rw [ha]) (h H hp).1 ⟨_, _, (h H hp).2, fun _ => List.prefix_refl H, k⟩

/-- A call whose contract is an Ev at this very memory. -/
theorem WL_ev {n0 : Nat} {Q : AX → Env → Heap → Prop} {d : Bool} {dst : Option Nat} {sy : Bool} {l : List AOper} {K : List Fr} {E : Env} {H : Heap} {x : X} {caps args vs : List V} {xs : List X} {g : Nat} {v : V}
   (hx : getX E x = .fn g caps) (ha : xs.map (getX E) ++ caps = args) (hp : prep prog g H args = some (vs, H)) (h : Ev prog (.call g vs H) (.ret v H)) (k : WL prog n0 d l K (put E dst v) H Q) : WLcall prog n0 d dst x xs sy l K E H Q :=
 WO_call hx ha hp ⟨_, _, h, fun _ => List.prefix_refl H, k⟩

theorem Ev_run {g : Nat} {f : AFn} {args : List V} {v : V} {H : Heap} (hf : prog.fn g = some f)
   (h : WK prog H.length f.body [] (E0 args) H (fun x E1 H1 => (x = .normal ∨ x = .ret) ∧ ∃ v0, resV E1 H1 f.results = some v0 ∧ fin f.own H.length H1 v0 = some (v, H))) : Ev prog (.call g args H) (.ret v H) := by
 obtain ⟨x, E1, H1, e, hx, v0, hr, hfin⟩ := h
 exact .call hf e hx hr hfin

set_option maxHeartbeats 1000000 in
theorem IndexLm_ev {H : Heap} {g : Nat} {caps : List V} {p : (List Nat) → Bool} (l : List (List Nat)) (hl : l.length ≤ 9223372036854775807) (h : ∀ x ∈ l, Cb H g caps [lim x] (.bool (p x))) :
   Ev prog (.call g_slices_IndexFunc_uint32s [lims l, .fn g caps] H) (.ret (idxV (l.findIdx? p)) H) := by
 refine Ev_run rfl ?_
 simp [lims]
 refine WK_up (fun i E H' => H' = H ∧ E 0 = lims l ∧ E 1 = .fn g caps ∧ E 7 = .int .i64 l.length ∧ E 8 = .int .i64 i ∧ (∀ j x, j < i → l[j]? = some x → p x = false)) l.length ?_ ?_
 · simp [lims]
 · rintro i E H' hi ⟨rfl, h0, h1, h7, h8, hp⟩
   simp only [lims] at h0 ⊢
   rcases Nat.lt_or_ge i l.length with hlt | hge
   · have e2 : IntKind.i64.wrap ((i : Int) + 1) = ((i + 1 : Nat) : Int) := by rw [wrap_i64] <;> omega
     simp [c_slices_IndexFunc_uint32s_l0, h7, h8, h0, h1, hlt]
     refine WL_cb (h l[i] (List.getElem_mem hlt)) (List.prefix_refl _) rfl rfl ?_
     simp [h0, h1, h7, h8, e2]
     refine ⟨fun hpx => ?_, fun hpx => ?_⟩
     · rw [show l.findIdx? p = some i from ?_]
       · simp [idxV]
       · rw [List.findIdx?_eq_some_iff_getElem]
         refine ⟨hlt, hpx, ?_⟩
         · intro j hj
           have := hp j l[j] hj (List.getElem?_eq_getElem _)
           simp [this]
     · intro j y hj hy
       rcases Nat.lt_or_ge j i with hji | hji
       · exact hp j y hji hy
       · have : j = i := by omega
         subst this
         rw [List.getElem?_eq_getElem hlt] at hy; injection hy with hy; rw [← hy]; exact hpx
   · have hin : i = l.length := by omega
     subst hin
     have e1 : l.findIdx? p = none := by
       simp only [List.findIdx?_eq_none_iff]
       intro x hx
       obtain ⟨j, hj, rfl⟩ := List.getElem_of_mem hx
       exact hp j _ hj (List.getElem?_eq_getElem _)
     simp [c_slices_IndexFunc_uint32s_l0, h7, h8, e1, idxV]
theorem ContainsLm_ev {H : Heap} {g : Nat} {caps : List V} {p : (List Nat) → Bool} (l : List (List Nat)) (hl : l.length ≤ 9223372036854775807) (h : ∀ x ∈ l, Cb H g caps [lim x] (.bool (p x))) :
   Ev prog (.call g_slices_ContainsFunc_uint32s [lims l, .fn g caps] H) (.ret (.bool (l.any p)) H) := by
 refine Ev_run rfl ?_
 simp [lims]
 refine WL_ev rfl rfl rfl (IndexLm_ev l hl h) ?_
 rcases hq : l.findIdx? p with _ | i
 · have e1 : l.any p = false := by simpa [List.findIdx?_eq_none_iff] using hq
   simp [idxV, e1]
 · have e1 : l.any p = true := by
     rw [List.findIdx?_eq_some_iff_getElem] at hq
     obtain ⟨h1, h2, _⟩ := hq
     exact List.any_eq_true.2 ⟨_, List.getElem_mem h1, h2⟩
   simp [idxV, e1]

end Go.Abs.W

/- The generic functions on slices. -/
namespace Go.Abs.W

set_option maxHeartbeats 1000000 in
theorem IndexIv_ev {H : Heap} {g : Nat} {caps : List V} {p : Iv → Bool} (l : List Iv) (hl : l.length ≤ 9223372036854775807) (h : ∀ x ∈ l, Cb H g caps [x.v] (.bool (p x))) :
   Ev prog (.call g_slices_IndexFunc_Interval [ivs l, .fn g caps] H) (.ret (idxV (l.findIdx? p)) H) := by
 refine Ev_run rfl ?_
 simp [ivs]
 refine WK_up (fun i E H' => H' = H ∧ E 0 = ivs l ∧ E 1 = .fn g caps ∧ E 7 = .int .i64 l.length ∧ E 8 = .int .i64 i ∧ (∀ j x, j < i → l[j]? = some x → p x = false)) l.length ?_ ?_
 · simp [ivs]
 · rintro i E H' hi ⟨rfl, h0, h1, h7, h8, hp⟩
   simp only [ivs] at h0 ⊢
   rcases Nat.lt_or_ge i l.length with hlt | hge
   · have e2 : IntKind.i64.wrap ((i : Int) + 1) = ((i + 1 : Nat) : Int) := by rw [wrap_i64] <;> omega
     simp [c_slices_IndexFunc_Interval_l0, h7, h8, h0, h1, hlt]
     refine WL_cb (h l[i] (List.getElem_mem hlt)) (List.prefix_refl _) rfl rfl ?_
     simp [h0, h1, h7, h8, e2]
     refine ⟨fun hpx => ?_, fun hpx => ?_⟩
     · rw [show l.findIdx? p = some i from ?_]
       · simp [idxV]
       · rw [List.findIdx?_eq_some_iff_getElem]
         refine ⟨hlt, hpx, ?_⟩
         · intro j hj
           have := hp j l[j] hj (List.getElem?_eq_getElem _)
           simp [this]
     · intro j y hj hy
       rcases Nat.lt_or_ge j i with hji | hji
       · exact hp j y hji hy
       · have : j = i := by omega
         subst this
         rw [List.getElem?_eq_getElem hlt] at hy; injection hy with hy; rw [← hy]; exact hpx
   · have hin : i = l.length := by omega
     subst hin
     have e1 : l.findIdx? p = none := by
       simp only [List.findIdx?_eq_none_iff]
       intro x hx
       obtain ⟨j, hj, rfl⟩ := List.getElem_of_mem hx
       exact hp j _ hj (List.getElem?_eq_getElem _)
     simp [c_slices_IndexFunc_Interval_l0, h7, h8, e1, idxV]
theorem ContainsIv_ev {H : Heap} {g : Nat} {caps : List V} {p : Iv → Bool} (l : List Iv) (hl : l.length ≤ 9223372036854775807) (h : ∀ x ∈ l, Cb H g caps [x.v] (.bool (p x))) :
   Ev prog (.call g_slices_ContainsFunc_Interval [ivs l, .fn g caps] H) (.ret (.bool (l.any p)) H) := by
 refine Ev_run rfl ?_
 simp [ivs]
 refine WL_ev rfl rfl rfl (IndexIv_ev l hl h) ?_
 rcases hq : l.findIdx? p with _ | i
 · have e1 : l.any p = false := by simpa [List.findIdx?_eq_none_iff] using hq
   simp [idxV, e1]
 · have e1 : l.any p = true := by
     rw [List.findIdx?_eq_some_iff_getElem] at hq
     obtain ⟨h1, h2, _⟩ := hq
     exact List.any_eq_true.2 ⟨_, List.getElem_mem h1, h2⟩
   simp [idxV, e1]

set_option maxHeartbeats 1000000 in
theorem IndexSg_ev {H : Heap} {g : Nat} {caps : List V} {p : Sg → Bool} (l : List Sg) (hl : l.length ≤ 9223372036854775807) (h : ∀ x ∈ l, Cb H g caps [x.v] (.bool (p x))) :
   Ev prog (.call g_slices_IndexFunc_Segment [sgs l, .fn g caps] H) (.ret (idxV (l.findIdx? p)) H) := by
 refine Ev_run rfl ?_
 simp [sgs]
 refine WK_up (fun i E H' => H' = H ∧ E 0 = sgs l ∧ E 1 = .fn g caps ∧ E 7 = .int .i64 l.length ∧ E 8 = .int .i64 i ∧ (∀ j x, j < i → l[j]? = some x → p x = false)) l.length ?_ ?_
 · simp [sgs]
 · rintro i E H' hi ⟨rfl, h0, h1, h7, h8, hp⟩
   simp only [sgs] at h0 ⊢
   rcases Nat.lt_or_ge i l.length with hlt | hge
   · have e2 : IntKind.i64.wrap ((i : Int) + 1) = ((i + 1 : Nat) : Int) := by rw [wrap_i64] <;> omega
     simp [c_slices_IndexFunc_Segment_l0, h7, h8, h0, h1, hlt]
     refine WL_cb (h l[i] (List.getElem_mem hlt)) (List.prefix_refl _) rfl rfl ?_
     simp [h0, h1, h7, h8, e2]
     refine ⟨fun hpx => ?_, fun hpx => ?_⟩
     · rw [show l.findIdx? p = some i from ?_]
       · simp [idxV]
       · rw [List.findIdx?_eq_some_iff_getElem]
         refine ⟨hlt, hpx, ?_⟩
         · intro j hj
           have := hp j l[j] hj (List.getElem?_eq_getElem _)
           simp [this]
     · intro j y hj hy
       rcases Nat.lt_or_ge j i with hji | hji
       · exact hp j y hji hy
       · have : j = i := by omega
         subst this
         rw [List.getElem?_eq_getElem hlt] at hy; injection hy with hy; rw [← hy]; exact hpx
   · have hin : i = l.length := by omega
     subst hin
     have e1 : l.findIdx? p = none := by
       simp only [List.findIdx?_eq_none_iff]
       intro x hx
       obtain ⟨j, hj, rfl⟩ := List.getElem_of_mem hx
       exact hp j _ hj (List.getElem?_eq_getElem _)
     simp [c_slices_IndexFunc_Segment_l0, h7, h8, e1, idxV]
theorem ContainsSg_ev {H : Heap} {g : Nat} {caps : List V} {p : Sg → Bool} (l : List Sg) (hl : l.length ≤ 9223372036854775807) (h : ∀ x ∈ l, Cb H g caps [x.v] (.bool (p x))) :
   Ev prog (.call g_slices_ContainsFunc_Segment [sgs l, .fn g caps] H) (.ret (.bool (l.any p)) H) := by
 refine Ev_run rfl ?_
 simp [sgs]
 refine WL_ev rfl rfl rfl (IndexSg_ev l hl h) ?_
 rcases hq : l.findIdx? p with _ | i
 · have e1 : l.any p = false := by simpa [List.findIdx?_eq_none_iff] using hq
   simp [idxV, e1]
 · have e1 : l.any p = true := by
     rw [List.findIdx?_eq_some_iff_getElem] at hq
     obtain ⟨h1, h2, _⟩ := hq
     exact List.any_eq_true.2 ⟨_, List.getElem_mem h1, h2⟩
   simp [idxV, e1]

set_option maxHeartbeats 1000000 in
theorem IndexPp_ev {H : Heap} {g : Nat} {caps : List V} {p : Pp → Bool} (l : List Pp) (hl : l.length ≤ 9223372036854775807) (h : ∀ x ∈ l, Cb H g caps [x.v] (.bool (p x))) :
   Ev prog (.call g_slices_IndexFunc_Pipe [pps l, .fn g caps] H) (.ret (idxV (l.findIdx? p)) H) := by
 refine Ev_run rfl ?_
 simp [pps]
 refine WK_up (fun i E H' => H' = H ∧ E 0 = pps l ∧ E 1 = .fn g caps ∧ E 7 = .int .i64 l.length ∧ E 8 = .int .i64 i ∧ (∀ j x, j < i → l[j]? = some x → p x = false)) l.length ?_ ?_
 · simp [pps]
 · rintro i E H' hi ⟨rfl, h0, h1, h7, h8, hp⟩
   simp only [pps] at h0 ⊢
   rcases Nat.lt_or_ge i l.length with hlt | hge
   · have e2 : IntKind.i64.wrap ((i : Int) + 1) = ((i + 1 : Nat) : Int) := by rw [wrap_i64] <;> omega
     simp [c_slices_IndexFunc_Pipe_l0, h7, h8, h0, h1, hlt]
     refine WL_cb (h l[i] (List.getElem_mem hlt)) (List.prefix_refl _) rfl rfl ?_
     simp [h0, h1, h7, h8, e2]
     refine ⟨fun hpx => ?_, fun hpx => ?_⟩
     · rw [show l.findIdx? p = some i from ?_]
       · simp [idxV]
       · rw [List.findIdx?_eq_some_iff_getElem]
         refine ⟨hlt, hpx, ?_⟩
         · intro j hj
           have := hp j l[j] hj (List.getElem?_eq_getElem _)
           simp [this]
     · intro j y hj hy
       rcases Nat.lt_or_ge j i with hji | hji
       · exact hp j y hji hy
       · have : j = i := by omega
         subst this
         rw [List.getElem?_eq_getElem hlt] at hy; injection hy with hy; rw [← hy]; exact hpx
   · have hin : i = l.length := by omega
     subst hin
     have e1 : l.findIdx? p = none := by
       simp only [List.findIdx?_eq_none_iff]
       intro x hx
       obtain ⟨j, hj, rfl⟩ := List.getElem_of_mem hx
       exact hp j _ hj (List.getElem?_eq_getElem _)
     simp [c_slices_IndexFunc_Pipe_l0, h7, h8, e1, idxV]
theorem ContainsPp_ev {H : Heap} {g : Nat} {caps : List V} {p : Pp → Bool} (l : List Pp) (hl : l.length ≤ 9223372036854775807) (h : ∀ x ∈ l, Cb H g caps [x.v] (.bool (p x))) :
   Ev prog (.call g_slices_ContainsFunc_Pipe [pps l, .fn g caps] H) (.ret (.bool (l.any p)) H) := by
 refine Ev_run rfl ?_
 simp [pps]
 refine WL_ev rfl rfl rfl (IndexPp_ev l hl h) ?_
 rcases hq : l.findIdx? p with _ | i
 · have e1 : l.any p = false := by simpa [List.findIdx?_eq_none_iff] using hq
   simp [idxV, e1]
 · have e1 : l.any p = true := by
     rw [List.findIdx?_eq_some_iff_getElem] at hq
     obtain ⟨h1, h2, _⟩ := hq
     exact List.any_eq_true.2 ⟨_, List.getElem_mem h1, h2⟩
   simp [idxV, e1]

end Go.Abs.W

/- Bits of machine integers as numbers. -/
namespace Go.Abs.W

theorem ofInt_nat (w n : Nat) : (BitVec.ofInt w (n : Int)).toNat = n % 2 ^ w := by
 simp

theorem wrap_nat_u64 (n : Nat) (h : n < 18446744073709551616) : IntKind.u64.wrap (n : Int) = n := wrap_u64 (by omega) (by omega)
theorem wrap_nat_u32 (n : Nat) (h : n < 4294967296) : IntKind.u32.wrap (n : Int) = n := wrap_u32 (by omega) (by omega)
theorem wrap_nat_u32_mod (n : Nat) : IntKind.u32.wrap (n : Int) = ((n % 4294967296 : Nat) : Int) := by
 simp only [IntKind.wrap, IntKind.bits, IntKind.signed]; simp

theorem bitsI_or64 (a b : Nat) (ha : a < 2 ^ 64) (hb : b < 2 ^ 64) : bitsI .or .u64 (a : Int) (b : Int) = some (((a ||| b : Nat)) : Int) := by
 show some (IntKind.u64.wrap ((BitVec.ofInt 64 (a : Int) ||| BitVec.ofInt 64 (b : Int)).toNat : Int)) = _
 rw [BitVec.toNat_or, ofInt_nat, ofInt_nat, Nat.mod_eq_of_lt ha, Nat.mod_eq_of_lt hb]
 rw [wrap_nat_u64 _ (Nat.or_lt_two_pow ha hb)]

theorem bitsI_and64 (a b : Nat) (ha : a < 2 ^ 64) (hb : b < 2 ^ 64) : bitsI .and .u64 (a : Int) (b : Int) = some (((a &&& b : Nat)) : Int) := by
 show some (IntKind.u64.wrap ((BitVec.ofInt 64 (a : Int) &&& BitVec.ofInt 64 (b : Int)).toNat : Int)) = _
 rw [BitVec.toNat_and, ofInt_nat, ofInt_nat, Nat.mod_eq_of_lt ha, Nat.mod_eq_of_lt hb]
 rw [wrap_nat_u64 _ (Nat.lt_of_le_of_lt Nat.and_le_left ha)]

theorem bitsI_and32 (a b : Nat) (ha : a < 2 ^ 32) (hb : b < 2 ^ 32) : bitsI .and .u32 (a : Int) (b : Int) = some (((a &&& b : Nat)) : Int) := by
 show some (IntKind.u32.wrap ((BitVec.ofInt 32 (a : Int) &&& BitVec.ofInt 32 (b : Int)).toNat : Int)) = _
 rw [BitVec.toNat_and, ofInt_nat, ofInt_nat, Nat.mod_eq_of_lt ha, Nat.mod_eq_of_lt hb]
 rw [wrap_nat_u32 _ (Nat.lt_of_le_of_lt Nat.and_le_left ha)]

/-- The low half. -/
theorem bitsI_mask (a : Nat) (ha : a < 2 ^ 64) : bitsI .and .u64 (a : Int) 4294967295 = some ((a % 4294967296 : Nat) : Int) := by
 have := bitsI_and64 a 4294967295 ha (by decide)
 rw [show ((4294967295 : Nat) : Int) = 4294967295 from rfl] at this
 rw [this, show 4294967295 = 2 ^ 32 - 1 from rfl, Nat.and_two_pow_sub_one_eq_mod]

theorem bitsI_one32 (a : Nat) (ha : a < 2 ^ 32) : bitsI .and .u32 (a : Int) 1 = some ((a % 2 : Nat) : Int) := by
 have := bitsI_and32 a 1 ha (by decide)
 rw [show ((1 : Nat) : Int) = 1 from rfl] at this
 rw [this, show (1 : Nat) = 2 ^ 1 - 1 from rfl, Nat.and_two_pow_sub_one_eq_mod]

/-- A shifted number, or what fits below it. -/
theorem bitsI_or_add (x s c : Nat) (hx : x * 2 ^ s < 2 ^ 64) (hc : c < 2 ^ s) (hs : s ≤ 64) : bitsI .or .u64 ((x * 2 ^ s : Nat) : Int) (c : Int) = some ((x * 2 ^ s + c : Nat) : Int) := by
 have h2 : 2 ^ s ≤ 2 ^ 64 := Nat.pow_le_pow_right (by omega) hs
 rw [bitsI_or64 _ _ hx (by omega), Nat.mul_comm, Nat.two_pow_add_eq_or_of_lt hc]

theorem shl64 (x s : Nat) (hs : s < 64) (h : x * 2 ^ s < 2 ^ 64) : shiftI .shl .u64 (x : Int) (s : Int) = some (.int .u64 ((x * 2 ^ s : Nat) : Int)) := by
 have e1 : ¬ ((s : Int) < 0) := by omega
 have e2 : Nat.min s 64 = s := Nat.min_eq_left (by omega)
 have e3 : (x : Int) * 2 ^ s = ((x * 2 ^ s : Nat) : Int) := by simp
 simp only [shiftI, if_neg e1, bits_u64, Int.toNat_natCast, e2, e3]
 rw [wrap_nat_u64 _ h]

theorem shr64 (x s : Nat) (hs : s < 64) : shiftI .shr .u64 (x : Int) (s : Int) = some (.int .u64 ((x / 2 ^ s : Nat) : Int)) := by
 have e1 : ¬ ((s : Int) < 0) := by omega
 have e2 : Nat.min s 64 = s := Nat.min_eq_left (by omega)
 have e3 : (2 : Int) ^ s = ((2 ^ s : Nat) : Int) := by simp
 simp only [shiftI, if_neg e1, bits_u64, Int.toNat_natCast, e2, e3, fdiv_nat]

theorem shr32 (x s : Nat) (hs : s < 32) : shiftI .shr .u32 (x : Int) (s : Int) = some (.int .u32 ((x / 2 ^ s : Nat) : Int)) := by
 have e1 : ¬ ((s : Int) < 0) := by omega
 have e2 : Nat.min s 32 = s := Nat.min_eq_left (by omega)
 have e3 : (2 : Int) ^ s = ((2 ^ s : Nat) : Int) := by simp
 simp only [shiftI, if_neg e1, bits_u32, Int.toNat_natCast, e2, e3, fdiv_nat]

end Go.Abs.W

/- The limbs of a number. -/
namespace Go.Abs

def limbsF : Nat → Nat → List Nat
 | 0, _ => []
 | f + 1, n => if n = 0 then [] else (n % 4294967296) :: limbsF f (n / 4294967296)
def limbsOf (n : Nat) : List Nat := limbsF (Nat.log2 n / 32 + 1) n

theorem limbsF_eq : ∀ {f g n : Nat}, n < 4294967296 ^ f → n < 4294967296 ^ g → limbsF f n = limbsF g n
 | 0, 0, _, _, _ => rfl
 | 0, g + 1, n, h, _ => by
   have : n = 0 := by simpa using h
   simp [limbsF, this]
 | f + 1, 0, n, _, h => by
   have : n = 0 := by simpa using h
   simp [limbsF, this]
 | f + 1, g + 1, n, h1, h2 => by
   rw [Nat.pow_succ] at h1 h2
   simp only [limbsF]
   rw [limbsF_eq (f := f) (g := g) (by omega) (by omega)]
theorem limbs_fuel (n : Nat) : n < 4294967296 ^ (Nat.log2 n / 32 + 1) := by
 rw [show 4294967296 = 2 ^ 32 from rfl, ← Nat.pow_mul]
 exact Nat.lt_of_lt_of_le Nat.lt_log2_self (Nat.pow_le_pow_right (by omega) (by omega))
theorem limbsOf_zero : limbsOf 0 = [] := rfl
theorem limbsOf_pos {n : Nat} (h : n ≠ 0) : limbsOf n = (n % 4294967296) :: limbsOf (n / 4294967296) := by
 have h1 := limbs_fuel n
 rw [Nat.pow_succ] at h1
 show limbsF (Nat.log2 n / 32 + 1) n = _
 simp only [limbsF, h, if_false]
 rw [limbsF_eq (by omega) (limbs_fuel (n / 4294967296))]
 rfl

theorem natV_limbsOf (n : Nat) : natV (limbsOf n) = n := by
 induction n using Nat.strongRecOn with
 | _ n ih =>
   by_cases h : n = 0
   · subst h; rw [limbsOf_zero]; rfl
   · rw [limbsOf_pos h, natV, ih _ (by omega)]; omega

theorem li_limbsOf (n : Nat) : Li (limbsOf n) := by
 induction n using Nat.strongRecOn with
 | _ n ih =>
   by_cases h : n = 0
   · subst h; rw [limbsOf_zero]; intro x hx; simp at hx
   · rw [limbsOf_pos h]
     intro x hx
     rcases List.mem_cons.1 hx with rfl | hx
     · omega
     · exact ih _ (by omega) x hx

theorem limbsOf_ne {n : Nat} (h : n ≠ 0) : limbsOf n ≠ [] := by rw [limbsOf_pos h]; simp
theorem trim_limbsOf (n : Nat) : Trim (limbsOf n) := by
 induction n using Nat.strongRecOn with
 | _ n ih =>
   by_cases h : n = 0
   · subst h; rw [limbsOf_zero]; intro x hx; simp at hx
   · rw [limbsOf_pos h]
     intro x hx
     by_cases h1 : n / 4294967296 = 0
     · rw [h1, limbsOf_zero] at hx
       simp at hx
       omega
     · obtain ⟨y, l, hl⟩ := List.exists_cons_of_ne_nil (limbsOf_ne h1)
       rw [hl, List.getLast?_cons_cons, ← hl] at hx
       exact ih _ (by omega) x hx

theorem Trim.tail {x : Nat} {l : List Nat} (h : Trim (x :: l)) : Trim l := by
 intro y hy
 cases l with
 | nil => simp at hy
 | cons z l => exact h y (by rw [List.getLast?_cons_cons]; exact hy)

theorem natV_zero {l : List Nat} (h : Trim l) (h0 : natV l = 0) : l = [] := by
 induction l with
 | nil => rfl
 | cons x l ih =>
   simp only [natV] at h0
   have hx : x = 0 := by omega
   have hl := ih h.tail (by omega)
   subst hl; subst hx
   exact absurd rfl (h 0 (by simp))

/-- Trimmed limbs are the limbs of their number. -/
theorem limbsOf_natV {l : List Nat} (hl : Li l) (ht : Trim l) : limbsOf (natV l) = l := by
 induction l with
 | nil => exact limbsOf_zero
 | cons x l ih =>
   have h0 : natV (x :: l) ≠ 0 := fun h => by simpa using natV_zero ht h
   rw [limbsOf_pos h0]
   have := hl.cons.1
   simp only [natV]
   rw [show (x + 4294967296 * natV l) % 4294967296 = x by omega, show (x + 4294967296 * natV l) / 4294967296 = natV l by omega, ih hl.cons.2 ht.tail]

theorem trimL_limbsOf {l : List Nat} (hl : Li l) : trimL l = limbsOf (natV l) := by
 rw [← natV_trimL l, limbsOf_natV hl.trimL (trim_trimL l)]

theorem natV_inj {a b : List Nat} (ha : Li a) (hb : Li b) (ta : Trim a) (tb : Trim b) (h : natV a = natV b) : a = b := by
 rw [← limbsOf_natV ha ta, ← limbsOf_natV hb tb, h]

theorem limbsOf_len {n k : Nat} : (limbsOf n).length ≤ k ↔ n < 4294967296 ^ k := by
 constructor
 · intro h
   have := natV_lt (li_limbsOf n)
   rw [natV_limbsOf] at this
   exact Nat.lt_of_lt_of_le this (Nat.pow_le_pow_right (by omega) h)
 · intro h
   by_cases h0 : n = 0
   · rw [h0, limbsOf_zero]; simp
   · have := natV_ge (trim_limbsOf n) (limbsOf_ne h0)
     rw [natV_limbsOf] at this
     have h2 : 4294967296 ^ ((limbsOf n).length - 1) < 4294967296 ^ k := by omega
     have := (Nat.pow_lt_pow_iff_right (by omega)).1 h2
     omega

theorem limbs_bits {N B k : Nat} (h : N < 2 ^ B) (hk : B ≤ 32 * k) : (limbsOf N).length ≤ k := by
 refine limbsOf_len.2 ?_
 rw [show (4294967296 : Nat) = 2 ^ 32 from rfl, ← Nat.pow_mul]
 exact Nat.lt_of_lt_of_le h (Nat.pow_le_pow_right (by omega) hk)
theorem limbs_mono {X Y k : Nat} (h : X ≤ Y) (hl : (limbsOf Y).length ≤ k) : (limbsOf X).length ≤ k := by
 have := limbsOf_len.1 hl
 exact limbsOf_len.2 (by omega)
theorem limbs_add {X Y k : Nat} (h1 : (limbsOf X).length ≤ k) (h2 : (limbsOf Y).length ≤ k) : (limbsOf (X + Y)).length ≤ k + 1 := by
 have h3 := limbsOf_len.1 h1
 have h4 := limbsOf_len.1 h2
 refine limbsOf_len.2 ?_
 rw [Nat.pow_succ]; omega

theorem natV_set_app (l : List Nat) (t : Nat) : natV (l ++ [t]) = natV l + 4294967296 ^ l.length * t := by rw [natV_append]; simp [natV]

end Go.Abs

/- Shifts to the left. -/
namespace Go.Abs.W
attribute [local simp] stpAppend

theorem Cb_of {H : Heap} {g : Nat} {args : List V} {v : V} (hp : ∀ H, prep prog g H args = some (args, H)) (h : CQ prog g args v) : Cb H g [] args v := by
 intro H' _
 rw [List.append_nil]
 exact ⟨hp H', h H'⟩

/-- A call: what its arguments become, and its contract. -/
theorem WL_callH {n0 : Nat} {Q : AX → Env → Heap → Prop} {d : Bool} {dst : Option Nat} {sy : Bool} {l : List AOper} {K : List Fr} {E : Env} {H H1 : Heap} {x : X} {args caps vs : List V} {xs : List X} {g : Nat} {v : V} (hx : getX E x = .fn g caps)
   (ha : xs.map (getX E) ++ caps = args) (hp : prep prog g H args = some (vs, H1)) (h : CQ prog g vs v) (k : WL prog n0 d l K (put E dst v) H1 Q) (hd : (d && !sy) = true → H <+: H1 := by simp) : WLcall prog n0 d dst x xs sy l K E H Q :=
 WO_call hx ha hp (h.ct ⟨hd, k⟩)

theorem long1_cq (a : List Nat) : CQ prog g_natural_long_1 [lim a] (.bool (decide (256 < a.length))) := by
 refine CQ_run rfl fun H => ?_
 simp [lim]
 omega

theorem long_cq (l : List (List Nat)) (hl : l.length ≤ 9223372036854775807) : CQ prog g_natural_long [lims l] (.bool (l.any fun a => decide (256 < a.length))) := by
 refine CQ_run rfl fun H => ?_
 simp
 refine WL_ev rfl rfl rfl (ContainsLm_ev l hl fun x _ => Cb_of (fun _ => rfl) (long1_cq x)) ?_
 simp

theorem Clip_cq (a : List Nat) : CQ prog g_slices_Clip_uint32 [lim a] (lim a) := by
 refine CQ_run rfl fun H => ?_
 simp [lim, List.take_of_length_le]

theorem done_cq (a : List Nat) (ha : a.length ≤ 100000000) : CQ prog g_natural_done [lim a] (.tup [lim (if 256 < (trimL a).length then [] else trimL a), .int .i64 (if 256 < (trimL a).length then 9 else 0)]) := by
 refine CQ_run rfl fun H => ?_
 simp
 refine WL_call rfl rfl rfl (trim_cq a (by omega)) ?_
 simp
 refine WL_callH rfl rfl (H1 := H ++ [some ⟨1, [lim (trimL a)], true, false⟩]) (by simp [prep, frzVs, frzV]; rfl) (long_cq [trimL a] (by simp)) ?_
 simp
 refine ⟨fun h => ?_, fun h => ?_⟩
 · simp [h]; rfl
 · refine WL_call rfl rfl rfl (Clip_cq (trimL a)) ?_
   have : ¬ (256 < (trimL a).length) := by omega
   simp [this]


def shlGo (s : Nat) : Nat → List Nat → List Nat
 | c, [] => [c % 4294967296]
 | c, x :: l => ((x * 2 ^ s + c) % 4294967296) :: shlGo s ((x * 2 ^ s + c) / 4294967296) l

theorem shlGo_len {s : Nat} : ∀ {c : Nat} {l : List Nat}, (shlGo s c l).length = l.length + 1
 | _, [] => rfl
 | c, x :: l => by simp [shlGo, shlGo_len]

theorem shlGo_li {s : Nat} : ∀ {c : Nat} {l : List Nat}, Li (shlGo s c l)
 | c, [] => by intro x hx; simp [shlGo] at hx; omega
 | c, x :: l => by
   intro y hy
   rcases List.mem_cons.1 hy with rfl | hy
   · omega
   · exact shlGo_li y hy

theorem shlGo_lt {s x c : Nat} (hs : s < 32) (hx : x < 4294967296) (hc : c < 2 ^ s) : x * 2 ^ s + c < 18446744073709551616 ∧ (x * 2 ^ s + c) / 4294967296 < 2 ^ s := by
 have h1 : x * 2 ^ s + c < 4294967296 * 2 ^ s := by
   have : (x + 1) * 2 ^ s ≤ 4294967296 * 2 ^ s := Nat.mul_le_mul_right _ (by omega)
   rw [Nat.add_mul] at this
   omega
 have h2 : 2 ^ s ≤ 2 ^ 31 := Nat.pow_le_pow_right (by omega) (by omega)
 exact ⟨by omega, (Nat.div_lt_iff_lt_mul (by omega)).2 (by omega)⟩

theorem shlGo_val {s : Nat} (hs : s < 32) : ∀ {c : Nat} {l : List Nat}, Li l → c < 2 ^ s → natV (shlGo s c l) = natV l * 2 ^ s + c
 | c, [], _, hc => by
   have h2 : 2 ^ s ≤ 2 ^ 31 := Nat.pow_le_pow_right (by omega) (by omega)
   simp [shlGo, natV]
   omega
 | c, x :: l, hl, hc => by
   obtain ⟨h1, h2⟩ := shlGo_lt hs hl.cons.1 hc
   simp only [shlGo, natV]
   rw [shlGo_val hs hl.cons.2 h2, Nat.add_mul, Nat.mul_add, Nat.mul_assoc]
   omega

def shlL (a : List Nat) (n : Nat) : List Nat := List.replicate (n / 32) 0 ++ shlGo (n % 32) 0 (trimL a)

theorem shlL_val {a : List Nat} {n : Nat} (la : Li a) : natV (shlL a n) = natV a * 2 ^ n := by
 unfold shlL
 rw [natV_append, natV_zeros, List.length_replicate, shlGo_val (by omega) la.trimL (Nat.two_pow_pos _), natV_trimL, pow32]
 rw [Nat.zero_add, Nat.add_zero, Nat.mul_left_comm, ← Nat.pow_add, Nat.div_add_mod]

theorem shlL_li {a : List Nat} {n : Nat} : Li (shlL a n) := by
 refine Li.append ?_ shlGo_li
 intro x hx
 rw [(List.mem_replicate.1 hx).2]; omega

theorem trimL_len (a : List Nat) : (trimL a).length ≤ a.length := by unfold trimL; simp; omega

theorem shlL_len {a : List Nat} {n : Nat} : (shlL a n).length ≤ n / 32 + a.length + 1 := by
 unfold shlL; have := trimL_len a; simp [shlGo_len]; omega

theorem ownC_nil {n0 : Nat} {H acc : Heap} : ownC n0 H acc .nil = some (.nil, H, acc) := rfl
theorem ownC_ref {n0 : Nat} {H acc : Heap} {b z off len : Nat} : ownC n0 H acc (.ref b z off len) = match H[b]? with
   | some (some k) => if n0 ≤ b ∧ k.arr = true ∧ k.wr = true ∧ k.z = z ∧ off + len ≤ k.el.length then some (.ref (n0 + acc.length) z 0 len, H.set b none, acc ++ [some { k with el := (k.el.drop off).take len }]) else none
   | _ => none := rfl

set_option maxHeartbeats 2000000 in
theorem shl_ct (a : List Nat) (n : Nat) (ha : a.length ≤ 100000000) (la : Li a) (hn : n ≤ 1000000000) (H : Heap) (Q : V → Heap → Prop)
   (hQ : Q (.ref H.length 1 0 (shlL a n).length) (H ++ [some ⟨1, (shlL a n).map u32, true, true⟩])) : CT prog g_natural_shl [lim a, .int .i64 n] H Q := by
 refine CT_of (f := c_natural_shl) rfl (WC_of_WK ?_)
 simp
 refine WL_call rfl rfl rfl (trim_cq a (by omega)) ?_
 have hx := trimL_len a
 have lx := la.trimL
 unfold shlL at hQ
 generalize trimL a = x at *
 obtain ⟨q, hq⟩ : ∃ q, q = n / 32 := ⟨_, rfl⟩
 obtain ⟨s, hs⟩ : ∃ s, s = n % 32 := ⟨_, rfl⟩
 rw [← hq, ← hs] at hQ
 have q1 : (n : Int) / 32 = q := by omega
 have s1 : (n : Int) % 32 = s := by omega
 have hs32 : s < 32 := by omega
 have e1 : IntKind.i64.wrap (q : Int) = q := by rw [wrap_i64] <;> omega
 have e2 : IntKind.i64.wrap ((q : Int) + (x.length : Int)) = q + x.length := by rw [wrap_i64] <;> omega
 have e3 : IntKind.i64.wrap ((q : Int) + (x.length : Int) + 1) = q + x.length + 1 := by rw [wrap_i64] <;> omega
 have e4 : (0 : Int) ≤ q + x.length + 1 := by omega
 have e5 : ((q : Int) + x.length + 1).toNat = q + x.length + 1 := by omega
 have e6 : q ≤ q + x.length + 1 ∧ (q + x.length + 1) * 4 ≤ 281474976710656 ∧ q + x.length + 1 ≤ 9223372036854775807 := by omega
 simp [lim, q1, e1, e2, e3, e4, e5, e6]
 refine WK_up (fun i E H' => E 0 = lim x ∧ E 1 = .int .i64 n ∧ E 21 = lim x ∧ E 22 = .int .i64 x.length ∧ E 23 = .int .i64 i ∧
   ∃ c o G g blk, H' = H ++ G ∧ c < 2 ^ s ∧ Li o ∧ E 6 = .int .u64 (c : Nat) ∧ E 5 = .ref (H.length + g) 1 0 (q + i) ∧ G[g]? = some (some ⟨1, blk, true, true⟩) ∧ blk.take (q + i) = o.map u32 ∧ o.length = q + i ∧ q + i ≤ blk.length ∧
     o ++ shlGo s c (x.drop i) = List.replicate q 0 ++ shlGo s 0 x) x.length ?_ ?_
 · simp [lim]
   refine ⟨0, Nat.two_pow_pos s, List.replicate q 0, ?_, rfl, ?_, by simp, by omega, rfl⟩
   · intro y hy
     rw [(List.mem_replicate.1 hy).2]; omega
   · rw [Nat.min_eq_left (by omega)]; simp [u32]
 · rintro i E H' hi ⟨h0, h1, h21, h22, h23, c, o, G, g, blk, rfl, hc, lo, h6, h5, hg, hb, ho, hbl, ht⟩
   simp only [lim] at h0 h21
   have hgl := (List.getElem?_eq_some_iff.1 hg).1
   rcases Nat.lt_or_ge i x.length with hlt | hge
   · have f1 : IntKind.i64.wrap ((i : Int) + 1) = ((i + 1 : Nat) : Int) := by rw [wrap_i64] <;> omega
     have f2 : (n : Int).tmod 32 = s := by rw [Int.tmod_eq_emod_of_nonneg (by omega)]; exact s1
     have lxi : x[i] < 4294967296 := lx _ (List.getElem_mem hlt)
     have f3 : IntKind.u64.wrap (x[i] : Int) = x[i] := wrap_nat_u64 _ (by omega)
     obtain ⟨g1, g2⟩ := shlGo_lt hs32 lxi hc
     rw [List.drop_eq_getElem_cons hlt, shlGo] at ht
     obtain ⟨P, hP⟩ : ∃ P, P = x[i] * 2 ^ s := ⟨_, rfl⟩
     have f4 : shiftI .shl .u64 (x[i] : Int) (s : Int) = some (.int .u64 (P : Int)) := by rw [shl64 _ _ (by omega) (by omega), hP]
     have f5 : bitsI .or .u64 (P : Int) (c : Int) = some ((P + c : Nat) : Int) := by rw [hP]; exact bitsI_or_add _ _ _ (by omega) hc (by omega)
     rw [← hP] at g1 g2 ht
     obtain ⟨T, hT⟩ : ∃ T, T = P + c := ⟨_, rfl⟩
     rw [← hT] at f5 g1 g2 ht
     have f6 : IntKind.u32.wrap (T : Int) = ((T % 4294967296 : Nat) : Int) := wrap_nat_u32_mod T
     have f7 : shiftI .shr .u64 (T : Int) 32 = some (.int .u64 ((T / 4294967296 : Nat) : Int)) := shr64 T 32 (by omega)
     obtain ⟨L, hL⟩ : ∃ L, L = T % 4294967296 := ⟨_, rfl⟩
     obtain ⟨C, hC⟩ : ∃ C, C = T / 4294967296 := ⟨_, rfl⟩
     rw [← hL] at f6 ht
     rw [← hC] at f7 ht g2
     have f8 : (q + i + 1) * 4 ≤ 140737488355328 := by omega
     have f9 : (G ++ [some ⟨1, [V.int IntKind.u32 L], true, true⟩])[g]? = some (some ⟨1, blk, true, true⟩) := by rw [List.getElem?_append_left hgl]; exact hg
     simp [c_natural_shl_l0, h0, h1, h21, h22, h23, h5, h6, hlt, u32, f1, f2, f3, f4, f5, f6, f7, f8, hbl, f9, lim]
     refine ⟨C, g2, o ++ [L], lo.append (by intro y hy; simp at hy; omega), rfl, G.length + 1, ⟨rfl, by omega⟩, List.take (q + i) blk ++ [V.int IntKind.u32 ↑L], ?_, ?_, by simp; omega, by simp; omega, by simpa using ht⟩
     · rw [List.getElem?_append_right (by simp)]; simp
     · rw [hb, List.take_of_length_le (by simp; omega)]; simp [u32]
   · have hin : i = x.length := by omega
     subst hin
     have g1 : 2 ^ s ≤ 2 ^ 31 := Nat.pow_le_pow_right (by omega) (by omega)
     have f6 : IntKind.u32.wrap (c : Int) = c := wrap_nat_u32 c (by omega)
     have f8 : (q + x.length + 1) * 4 ≤ 140737488355328 := by omega
     have f9 : (G ++ [some ⟨1, [V.int IntKind.u32 c], true, true⟩])[g]? = some (some ⟨1, blk, true, true⟩) := by rw [List.getElem?_append_left hgl]; exact hg
     simp [c_natural_shl_l0, h22, h23, h5, h6, f6, f8, f9, hbl, fin, ownV, ownC_ref]
     simp [shlGo] at ht
     have hc32 : c % 4294967296 = c := by omega
     rw [hc32] at ht
     rw [← ht] at hQ
     rw [List.take_of_length_le (l := List.take _ blk ++ _) (by simp; omega), hb]
     have hl : (o ++ [c]).length = q + x.length + 1 := by simp [ho]
     rw [hl] at hQ
     refine ⟨_, _, ⟨rfl, rfl⟩, ?_⟩
     simpa [u32] using hQ
end Go.Abs.W

/- Dyadic numbers: what the program's functions compute. -/
namespace Go.Abs.W

def shN (a : List Nat) (n : Nat) : List Nat := if 256 < (limbsOf (natV a * 2 ^ n)).length then [] else limbsOf (natV a * 2 ^ n)

theorem Shl_cq (a : List Nat) (n : Nat) (ha : a.length ≤ 256) (la : Li a) (hn : n ≤ 65536) : CQ prog g_natural_Shl [lim a, .int .i64 n] (.tup [lim (shN a n), .int .i64 (if 256 < (limbsOf (natV a * 2 ^ n)).length then 9 else 0)]) := by
 refine CQ_run rfl fun H => ?_
 simp
 refine WL_callH rfl rfl (H1 := H ++ [some ⟨1, [lim a], true, false⟩]) (by simp [prep, frzVs, frzV]; rfl) (long_cq [a] (by simp)) ?_
 have h1 : ¬ (256 < a.length) := by omega
 have h2 : (n : Int) ≤ 65536 := by omega
 have h3 : ¬ ((65536 : Int) < n) := by omega
 have h4 : ¬ ((n : Int) < 0) := by omega
 simp [h1, h3, h4]
 refine WL_callT rfl rfl rfl (shl_ct a n (by omega) la (by omega) _ _ ?_)
 simp
 refine WL_callH rfl rfl (H1 := H ++ [some ⟨1, [lim a], true, false⟩, some ⟨1, (shlL a n).map u32, true, false⟩]) (vs := [lim (shlL a n)]) (by refine Eq.trans (b := frzVs _ _) rfl ?_; simp [frzVs, frzV, frzC_ref, lim, List.take_of_length_le]) (done_cq (shlL a n) (by have := shlL_len (a := a) (n := n); omega)) ?_
 rw [trimL_limbsOf shlL_li, shlL_val la]
 simp [shN]

theorem shifted_cq (a : List Nat) (n : Nat) (ha : a.length ≤ 256) (la : Li a) (hn : n ≤ 65536) : CQ prog g_dyadic_shifted [lim a, .int .i64 n] (lim (shN a n)) := by
 refine CQ_run rfl fun H => ?_
 simp
 refine WL_call rfl rfl rfl (Shl_cq a n ha la hn) ?_
 simp

theorem size_cq (a : List Nat) (ha : a.length ≤ 100000000) (la : Li a) : CQ prog g_dyadic_size [lim a] (.int .i64 (bitL (natV a))) := by
 refine CQ_run rfl fun H => ?_
 simp
 refine WL_call rfl rfl rfl (Bits_cq a ha la) ?_
 simp [i64]

def Dy.inR (d : Dy) : Bool :=
 bitL (natV d.m) == 0 || (decide (bitL (natV d.m) ≤ 4096) && decide (-16384 ≤ d.e) && decide (d.e ≤ 16384) && decide (bitL (natV d.m) + d.e ≤ 16384))

theorem inRange_cq (d : Dy) (ha : d.m.length ≤ 100000000) (la : Li d.m) : CQ prog g_dyadic_inRange [d.v] (.bool d.inR) := by
 refine CQ_run rfl fun H => ?_
 simp
 refine WL_call rfl rfl rfl (size_cq _ ha la) ?_
 have e1 : bitL (natV d.m) ≤ 4096 → -16384 ≤ d.e → d.e ≤ 16384 → IntKind.i64.wrap ((bitL (natV d.m) : Int) + d.e) = bitL (natV d.m) + d.e := by intros; rw [wrap_i64] <;> omega
 simp [Dy.inR]
 grind

def Dy.valid (d : Dy) : Bool :=
 match d.m with
 | [] => !d.neg && decide (d.e = 0)
 | x :: l => decide ((x :: l).length ≤ 256) && decide (x % 2 = 1) && decide ((x :: l).getLast (by simp) ≠ 0) && d.inR

set_option maxHeartbeats 1000000 in
theorem Valid_cq (d : Dy) (ha : d.m.length ≤ 100000000) (la : Li d.m) : CQ prog g_dyadic_Valid [d.v] (.bool d.valid) := by
 refine CQ_run rfl fun H => ?_
 rcases d with ⟨neg, m, e⟩
 rcases m with _ | ⟨x, l⟩
 · simp [lim, Dy.valid]
   grind
 · have hx : x < 4294967296 := la x (by simp)
   have e1 : ((l.length : Int) + 1 ≠ 0) := by omega
   have e2 : (x : Int).tmod 2 = ((x % 2 : Nat) : Int) := by rw [Int.tmod_eq_emod_of_nonneg (by omega)]; omega
   obtain ⟨y, hy⟩ : ∃ y, y = x % 2 := ⟨_, rfl⟩
   obtain ⟨t, ht⟩ : ∃ t, t = (x :: l).getLast (by simp) := ⟨_, rfl⟩
   have e3 : IntKind.i64.wrap (l.length : Int) = l.length := by rw [wrap_i64] <;> (simp at ha; omega)
   have e4 : (x :: l)[l.length]? = some t := by rw [ht, List.getLast_eq_getElem]; simp
   have e5 : ((V.int IntKind.u32 (x : Int)) :: List.map u32 l)[l.length]? = some (.int .u32 t) := by
     have := congrArg (Option.map u32) e4
     rw [← List.getElem?_map] at this
     exact this
   have e7 : ((V.int IntKind.u32 (x : Int)) :: List.map u32 l)[l.length]'(by simp) = .int .u32 t := by
     rw [List.getElem?_eq_getElem (by simp)] at e5; injection e5
   rw [← hy] at e2
   have hv : Dy.valid ⟨neg, x :: l, e⟩ = (decide (l.length + 1 ≤ 256) && decide (y = 1) && decide (t ≠ 0) && Dy.inR ⟨neg, x :: l, e⟩) := by
     simp [Dy.valid, hy, ht]
   rw [hv]
   simp [lim, u32, e1, e2, e3, e7]
   refine ⟨fun h1 => ⟨fun h2 => ⟨fun h3 => ?_, fun h3 => ?_⟩, fun h2 => ?_⟩, fun h1 => ?_⟩
   · refine WL_call rfl rfl rfl (inRange_cq ⟨neg, x :: l, e⟩ ha la) ?_
     simp
     grind
   all_goals grind
end Go.Abs.W

/- The number that a dyadic number is, times 2^16384; comparing. -/
namespace Go.Abs.W

def Dy.absN (d : Dy) : Nat := natV d.m * 2 ^ (d.e + 16384).toNat
def Dy.val (d : Dy) : Int := if d.neg then -(d.absN : Int) else d.absN
def Dy.top (d : Dy) : Int := if d.m = [] then 0 else bitL (natV d.m) + d.e
def Dy.sgn (d : Dy) : Int := if d.m = [] then 0 else if d.neg then -1 else 1
def cmpI (a b : Int) : Int := if a < b then -1 else if b < a then 1 else 0

/-- What valid says. -/
structure Dy.Ok (d : Dy) : Prop where
 li : Li d.m
 tr : Trim d.m
 len : d.m.length ≤ 256
 zero : d.m = [] → d.neg = false ∧ d.e = 0
 odd : d.m ≠ [] → natV d.m % 2 = 1
 bits : bitL (natV d.m) ≤ 4096
 elo : -16384 ≤ d.e
 ehi : d.e ≤ 16384
 top : bitL (natV d.m) + d.e ≤ 16384

theorem natV_ne {l : List Nat} (h : Trim l) (hn : l ≠ []) : natV l ≠ 0 := fun h0 => hn (natV_zero h h0)

theorem Dy.Ok.of {d : Dy} (li : Li d.m) (h : d.valid = true) : d.Ok := by
 rcases d with ⟨neg, m, e⟩
 rcases m with _ | ⟨x, l⟩
 · simp [Dy.valid] at h
   obtain ⟨h1, h2⟩ := h
   subst h1; subst h2
   exact ⟨li, by intro x hx; simp at hx, by simp, by simp, by simp, by decide, by decide, by decide, by decide⟩
 · simp only [Dy.valid, Bool.and_eq_true, decide_eq_true_eq] at h
   obtain ⟨⟨⟨h1, h2⟩, h3⟩, h4⟩ := h
   have tr : Trim (x :: l) := by
     intro y hy
     rw [List.getLast?_eq_some_getLast (by simp)] at hy
     injection hy with hy
     rw [← hy]; exact h3
   have hn := natV_ne tr (by simp)
   have hb : bitL (natV (x :: l)) ≠ 0 := by
     have := (bitL_pow hn).2.2; omega
   simp only [Dy.inR, Bool.or_eq_true, Bool.and_eq_true, decide_eq_true_eq, beq_iff_eq, hb, false_or] at h4
   obtain ⟨⟨⟨g1, g2⟩, g3⟩, g4⟩ := h4
   exact ⟨li, tr, h1, by simp, fun _ => by simp only [natV]; omega, g1, g2, g3, g4⟩

theorem Dy.Ok.valid {d : Dy} (h : d.Ok) : d.valid = true := by
 rcases d with ⟨neg, m, e⟩
 rcases m with _ | ⟨x, l⟩
 · have := h.zero rfl
   simp only at this
   simp [Dy.valid, this.1, this.2]
 · simp only [Dy.valid, Bool.and_eq_true, decide_eq_true_eq]
   refine ⟨⟨⟨h.len, ?_⟩, ?_⟩, ?_⟩
   · have := h.odd (by simp); simp only [natV] at this; omega
   · exact h.tr _ (List.getLast?_eq_some_getLast (by simp))
   · simp [Dy.inR, h.bits, h.elo, h.ehi, h.top]

/-- A number as limbs, of any length. -/
structure Dy.G (d : Dy) : Prop where
 li : Li d.m
 tr : Trim d.m
 zero : d.m = [] → d.neg = false ∧ d.e = 0
 elo : -16384 ≤ d.e
theorem Dy.Ok.toG {d : Dy} (h : d.Ok) : d.G := ⟨h.li, h.tr, h.zero, h.elo⟩
theorem Dy.G.absN_ne {d : Dy} (h : d.G) (hm : d.m ≠ []) : d.absN ≠ 0 := by
 unfold Dy.absN
 exact Nat.mul_ne_zero (natV_ne h.tr hm) (Nat.ne_of_gt (Nat.two_pow_pos _))

theorem Dy.absN_nil {d : Dy} (hm : d.m = []) : d.absN = 0 := by simp [Dy.absN, hm, natV]

theorem Dy.Ok.absN_ne {d : Dy} (h : d.Ok) (hm : d.m ≠ []) : d.absN ≠ 0 := h.toG.absN_ne hm
theorem Dy.G.absN_bounds {d : Dy} (h : d.G) (hm : d.m ≠ []) : 2 ^ (d.top + 16383).toNat ≤ d.absN ∧ d.absN < 2 ^ (d.top + 16384).toNat := by
 obtain ⟨h1, h2, h3⟩ := bitL_pow (natV_ne h.tr hm)
 have he := h.elo
 unfold Dy.top Dy.absN
 rw [if_neg hm]
 rw [show ((bitL (natV d.m) : Int) + d.e + 16383).toNat = (bitL (natV d.m) - 1) + (d.e + 16384).toNat by omega, show ((bitL (natV d.m) : Int) + d.e + 16384).toNat = bitL (natV d.m) + (d.e + 16384).toNat by omega, Nat.pow_add, Nat.pow_add]
 exact ⟨Nat.mul_le_mul_right _ h1, Nat.mul_lt_mul_of_pos_right h2 (Nat.two_pow_pos _)⟩

theorem Dy.Ok.absN_bounds {d : Dy} (h : d.Ok) (hm : d.m ≠ []) : 2 ^ (d.top + 16383).toNat ≤ d.absN ∧ d.absN < 2 ^ (d.top + 16384).toNat := h.toG.absN_bounds hm
theorem Dy.G.top_pos {d : Dy} (h : d.G) (hm : d.m ≠ []) : 1 ≤ d.top + 16384 := by
 obtain ⟨_, _, h3⟩ := bitL_pow (natV_ne h.tr hm)
 have := h.elo
 unfold Dy.top; rw [if_neg hm]; omega

theorem Dy.Ok.top_pos {d : Dy} (h : d.Ok) (hm : d.m ≠ []) : 1 ≤ d.top + 16384 := h.toG.top_pos hm
theorem absN_top_ltG {a b : Dy} (ha : a.G) (hb : b.G) (na : a.m ≠ []) (nb : b.m ≠ []) (h : a.top < b.top) : a.absN < b.absN := by
 have h1 := (ha.absN_bounds na).2
 have h2 := (hb.absN_bounds nb).1
 have h3 := ha.top_pos na
 have : 2 ^ (a.top + 16384).toNat ≤ 2 ^ (b.top + 16383).toNat := Nat.pow_le_pow_right (by omega) (by omega)
 omega

theorem absN_top_lt {a b : Dy} (ha : a.Ok) (hb : b.Ok) (na : a.m ≠ []) (nb : b.m ≠ []) (h : a.top < b.top) : a.absN < b.absN := absN_top_ltG ha.toG hb.toG na nb h

theorem absN_shift {d : Dy} {e : Int} (h1 : -16384 ≤ e) (h2 : e ≤ d.e) : d.absN = natV d.m * 2 ^ (d.e - e).toNat * 2 ^ (e + 16384).toNat := by
 unfold Dy.absN
 rw [Nat.mul_assoc, ← Nat.pow_add]
 congr 2; omega

theorem cmpN_scale {x y k : Nat} (hk : 0 < k) : cmpN (x * k) (y * k) = cmpN x y := by
 unfold cmpN
 simp only [Nat.mul_lt_mul_right hk]

theorem cmpI_nat {x y : Nat} : cmpI x y = cmpN x y := by
 unfold cmpI cmpN; split <;> split <;> (try split) <;> omega

theorem cmpI_neg {x y : Nat} : cmpI (-(x : Int)) (-(y : Int)) = - cmpN x y := by
 unfold cmpI cmpN; repeat' split
 all_goals omega

/-- Comparing by the sign, the top, and the limbs. -/
theorem val_cmpG {a b : Dy} (ha : a.G) (hb : b.G) : cmpI a.val b.val = if a.sgn < b.sgn then -1 else if b.sgn < a.sgn then 1 else if a.sgn = 0 then 0 else a.sgn * cmpN a.absN b.absN := by
 have za := ha.zero; have zb := hb.zero
 by_cases na : a.m = []
 · have h1 := Dy.absN_nil na
   have h2 := (za na).1
   by_cases nb : b.m = []
   · have h3 := Dy.absN_nil nb
     simp [Dy.val, Dy.sgn, na, nb, h1, h3, cmpI]
   · have h3 := hb.absN_ne nb
     cases hn : b.neg <;> simp [Dy.val, Dy.sgn, na, nb, h1, h2, hn, cmpI] <;> omega
 · have h1 := ha.absN_ne na
   by_cases nb : b.m = []
   · have h3 := Dy.absN_nil nb
     have h2 := (zb nb).1
     cases hn : a.neg <;> simp [Dy.val, Dy.sgn, na, nb, h3, h2, hn, cmpI] <;> omega
   · have h3 := hb.absN_ne nb
     cases hn : a.neg <;> cases hn2 : b.neg <;> simp [Dy.val, Dy.sgn, na, nb, hn, hn2, cmpI_nat, cmpI_neg] <;> simp [cmpI] <;> omega

theorem val_cmp {a b : Dy} (ha : a.Ok) (hb : b.Ok) : cmpI a.val b.val = if a.sgn < b.sgn then -1 else if b.sgn < a.sgn then 1 else if a.sgn = 0 then 0 else a.sgn * cmpN a.absN b.absN := val_cmpG ha.toG hb.toG

theorem absN_inj {a b : Dy} (ha : a.Ok) (hb : b.Ok) (na : a.m ≠ []) (nb : b.m ≠ []) (h : a.absN = b.absN) : a.m = b.m ∧ a.e = b.e := by
 have key : ∀ {a b : Dy}, a.Ok → b.Ok → a.m ≠ [] → b.m ≠ [] → a.absN = b.absN → ¬ a.e < b.e := by
   intro a b ha hb na nb h hlt
   have h1 := absN_shift (d := b) (e := a.e) ha.elo (by omega)
   unfold Dy.absN at h h1
   rw [h1] at h
   have h2 := Nat.eq_of_mul_eq_mul_right (Nat.two_pow_pos _) h
   have h3 := ha.odd na
   rw [h2, show (b.e - a.e).toNat = (b.e - a.e).toNat - 1 + 1 by omega, Nat.pow_succ, ← Nat.mul_assoc] at h3
   omega
 have he : a.e = b.e := by
   have := key ha hb na nb h
   have := key hb ha nb na h.symm
   omega
 refine ⟨?_, he⟩
 unfold Dy.absN at h
 rw [he] at h
 exact natV_inj ha.li hb.li ha.tr hb.tr (Nat.eq_of_mul_eq_mul_right (Nat.two_pow_pos _) h)

/-- Valid numbers are equal if they are the same number. -/
theorem val_inj {a b : Dy} (ha : a.Ok) (hb : b.Ok) (h : a.val = b.val) : a = b := by
 have za := ha.zero; have zb := hb.zero
 by_cases na : a.m = []
 · by_cases nb : b.m = []
   · obtain ⟨h1, h2⟩ := za na
     obtain ⟨h3, h4⟩ := zb nb
     cases a; cases b; simp_all
   · have h3 := hb.absN_ne nb
     have h1 := Dy.absN_nil na
     simp [Dy.val, h1] at h
     split at h <;> omega
 · have h1 := ha.absN_ne na
   by_cases nb : b.m = []
   · have h3 := Dy.absN_nil nb
     simp [Dy.val, h3] at h
     split at h <;> omega
   · have h3 := hb.absN_ne nb
     have hab : a.absN = b.absN ∧ a.neg = b.neg := by
       cases hn : a.neg <;> cases hn2 : b.neg <;> simp [Dy.val, hn, hn2] at h ⊢ <;> omega
     obtain ⟨h4, h5⟩ := absN_inj ha hb na nb hab.1
     cases a; cases b; simp_all

end Go.Abs.W

/- Comparing dyadic numbers. -/
namespace Go.Abs.W

def Dy.cmp (a b : Dy) : Int := if a.valid && b.valid then cmpI a.val b.val else 0

/-- Limbs as Go holds them. -/
structure Dy.W (d : Dy) : Prop where
 li : Li d.m
 len : d.m.length ≤ 100000000

theorem Dy.Ok.w {d : Dy} (h : d.Ok) : d.W := ⟨h.li, Nat.le_trans h.len (by omega)⟩

theorem Sign_cq (d : Dy) (w : d.W) : CQ prog g_dyadic_Sign [d.v] (.int .i64 (if d.valid then d.sgn else 0)) := by
 refine CQ_run rfl fun H => ?_
 simp
 refine WL_call rfl rfl rfl (Valid_cq d w.len w.li) ?_
 have e : (d.m = []) ↔ (d.m.length : Int) = 0 := by simp
 simp [lim, Dy.sgn]
 grind

theorem Top_cq (d : Dy) (w : d.W) : CQ prog g_dyadic_Top [d.v] (.int .i64 (if d.valid then d.top else 0)) := by
 refine CQ_run rfl fun H => ?_
 simp
 refine WL_call rfl rfl rfl (Valid_cq d w.len w.li) ?_
 have e : (d.m = []) ↔ (d.m.length : Int) = 0 := by simp
 simp [lim, Dy.top]
 refine ⟨fun h => by simp [h], fun h => ?_⟩
 have ok := Dy.Ok.of w.li h
 refine ⟨fun h1 _ h2 => absurd h1 h2, fun hm => ?_⟩
 refine WL_call rfl rfl rfl (size_cq d.m w.len w.li) ?_
 have e1 : IntKind.i64.wrap ((bitL (natV d.m) : Int) + d.e) = bitL (natV d.m) + d.e := by
   have := ok.bits; have := ok.elo; have := ok.ehi
   rw [wrap_i64] <;> omega
 simp [h, hm, e1]

theorem shN_of {a : List Nat} {n B : Nat} (h : natV a * 2 ^ n < 2 ^ B) (hB : B ≤ 8192) : natV (shN a n) = natV a * 2 ^ n := by
 have : (limbsOf (natV a * 2 ^ n)).length ≤ 256 := limbs_bits h (by omega)
 unfold shN; rw [if_neg (by omega), natV_limbsOf]

theorem shN_li {a : List Nat} {n : Nat} : Li (shN a n) := by
 unfold shN; split
 · intro x hx; simp at hx
 · exact li_limbsOf _
theorem shN_len {a : List Nat} {n : Nat} : (shN a n).length ≤ 256 := by
 unfold shN; split
 · simp
 · omega

set_option maxHeartbeats 1000000 in
theorem compare_cq (a b : Dy) (oa : a.Ok) (ob : b.Ok) (na : a.m ≠ []) (nb : b.m ≠ []) : CQ prog g_dyadic_compare [a.v, b.v] (.int .i64 (cmpN a.absN b.absN)) := by
 refine CQ_run rfl fun H => ?_
 have va := oa.valid
 have vb := ob.valid
 simp
 refine WL_call rfl rfl rfl (Top_cq a oa.w) ?_
 simp
 refine WL_call rfl rfl rfl (Top_cq b ob.w) ?_
 simp [va, vb]
 refine ⟨fun h => ?_, fun h => ⟨fun h2 => ?_, fun h2 => ?_⟩⟩
 · have := absN_top_lt oa ob na nb h
   simp [cmpN, this]
 · have := absN_top_lt ob oa nb na h2
   have h3 : ¬ a.absN < b.absN := by omega
   simp [cmpN, this, h3]
 · have ht : a.top = b.top := by omega
   obtain ⟨e, he⟩ : ∃ e, e = min a.e b.e := ⟨_, rfl⟩
   have he' : (if b.e < a.e then b.e else a.e) = e := by rw [he]; split <;> omega
   have h3 := oa.elo; have h4 := oa.ehi; have h5 := ob.elo; have h6 := ob.ehi
   have h7 := oa.bits; have h8 := ob.bits
   obtain ⟨i, hi⟩ : ∃ i, i = (a.e - e).toNat := ⟨_, rfl⟩
   obtain ⟨j, hj⟩ : ∃ j, j = (b.e - e).toNat := ⟨_, rfl⟩
   have f1 : IntKind.i64.wrap (a.e - e) = i := by rw [wrap_i64] <;> omega
   have f2 : IntKind.i64.wrap (b.e - e) = j := by rw [wrap_i64] <;> omega
   simp [he', f1]
   refine WL_call rfl rfl rfl (shifted_cq a.m i oa.len oa.li (by omega)) ?_
   simp [f2]
   refine WL_call rfl rfl rfl (shifted_cq b.m j ob.len ob.li (by omega)) ?_
   simp
   refine WL_call rfl rfl rfl (Cmp_cq _ _ (by have := shN_len (a := a.m) (n := i); omega) (by have := shN_len (a := b.m) (n := j); omega) shN_li shN_li) ?_
   have key : ∀ {d : Dy} {k : Nat}, d.Ok → d.m ≠ [] → natV d.m * 2 ^ k < 2 ^ (bitL (natV d.m) + k) := by
     intro d k od nd
     have := (bitL_pow (natV_ne od.tr nd)).2.1
     rw [Nat.pow_add]
     exact Nat.mul_lt_mul_of_pos_right this (Nat.two_pow_pos k)
   unfold Dy.top at ht
   rw [if_neg na, if_neg nb] at ht
   rw [shN_of (key oa na) (by omega), shN_of (key ob nb) (by omega)]
   rw [absN_shift (d := a) (e := e) (by omega) (by omega), absN_shift (d := b) (e := e) (by omega) (by omega), ← hi, ← hj, cmpN_scale (Nat.two_pow_pos _)]
   simp [i64]

set_option maxHeartbeats 1000000 in
theorem DCmp_cq (a b : Dy) (wa : a.W) (wb : b.W) : CQ prog g_dyadic_Cmp [a.v, b.v] (.int .i64 (a.cmp b)) := by
 refine CQ_run rfl fun H => ?_
 simp
 refine WL_call rfl rfl rfl (Valid_cq a wa.len wa.li) ?_
 simp
 refine ⟨fun h1 => by simp [Dy.cmp, h1], fun h1 => ?_⟩
 refine WL_call rfl rfl rfl (Valid_cq b wb.len wb.li) ?_
 simp
 refine ⟨fun h2 => by simp [Dy.cmp, h2], fun h2 => ?_⟩
 refine WL_call rfl rfl rfl (Sign_cq a wa) ?_
 simp
 refine WL_call rfl rfl rfl (Sign_cq b wb) ?_
 have oa := Dy.Ok.of wa.li h1
 have ob := Dy.Ok.of wb.li h2
 simp [h1, h2, Dy.cmp, val_cmp oa ob]
 refine ⟨fun h3 => by grind, fun h3 => ⟨fun h4 => ?_, fun h4 => ?_⟩⟩
 · have e1 : ¬ a.sgn < b.sgn := by omega
   simp [e1, h4]
 have e1 : ¬ a.sgn < b.sgn := by omega
 have e2 : ¬ b.sgn < a.sgn := by omega
 simp [e1, e2]
 refine ⟨fun h5 => by simp [h5], fun h5 => ?_⟩
 have na : a.m ≠ [] := fun h => h5 (by simp [Dy.sgn, h])
 have nb : b.m ≠ [] := fun h => by
   have : b.sgn = 0 := by simp [Dy.sgn, h]
   omega
 refine WL_call rfl rfl rfl (compare_cq a b oa ob na nb) ?_
 have e3 : IntKind.i64.wrap (a.sgn * cmpN a.absN b.absN) = a.sgn * cmpN a.absN b.absN := by
   have h6 : a.sgn = 1 ∨ a.sgn = -1 := by unfold Dy.sgn; rw [if_neg na]; split <;> simp
   have h7 : cmpN a.absN b.absN = 1 ∨ cmpN a.absN b.absN = -1 ∨ cmpN a.absN b.absN = 0 := by unfold cmpN; split <;> (try split) <;> simp
   rcases h6 with h6 | h6 <;> rcases h7 with h7 | h7 | h7 <;> rw [h6, h7] <;> decide
 simp [e3, h5]

end Go.Abs.W

/- Lists that a loop builds by appending. -/
namespace Go.Abs.W

/-- A list under way: nothing yet, or a block of its own behind the elder ones. -/
structure Out (H0 H : Heap) (v : V) (z : Nat) (l : List V) : Prop where
 pre : H0 <+: H
 val : (l = [] ∧ v = .nil) ∨ ∃ b blk, H0.length ≤ b ∧ v = .ref b z 0 l.length ∧ H[b]? = some (some ⟨z, blk, true, true⟩) ∧ blk.take l.length = l ∧ l.length ≤ blk.length

theorem Out.nil {H : Heap} {z : Nat} : Out H H .nil z [] := ⟨List.prefix_refl _, .inl ⟨rfl, rfl⟩⟩
theorem Out.grow {H0 H : Heap} {v : V} {z : Nat} {l : List V} (h : Out H0 H v z l) (t : Heap) : Out H0 (H ++ t) v z l := by
 refine ⟨pre_app h.pre, ?_⟩
 rcases h.val with h1 | ⟨b, blk, h1, h2, h3, h4⟩
 · exact .inl h1
 · exact .inr ⟨b, blk, h1, h2, by rw [List.getElem?_append_left (List.getElem?_eq_some_iff.1 h3).1]; exact h3, h4⟩

theorem prefix_set {H0 H : Heap} {b : Nat} {x : Option Blk} (h : H0 <+: H) (hb : H0.length ≤ b) : H0 <+: H.set b x := by
 obtain ⟨t, rfl⟩ := h
 rw [List.set_append_right _ _ hb]
 exact List.prefix_append _ _

theorem Out.app {H0 H : Heap} {v y : V} {z bytes : Nat} {l ys : List V} (h : Out H0 H v z l) (hy : elems H y = some ys) (hz : headOk z ys = true) (hn : ys ≠ []) (hb : (l.length + ys.length) * bytes ≤ 140737488355328) :
   ∃ v' H', stpAppend z bytes v y H = some (v', H') ∧ Out H0 H' v' z (l ++ ys) := by
 unfold stpAppend
 rw [hy]
 simp only [Option.bind_some, hz, if_true]
 rcases h.val with ⟨h1, h2⟩ | ⟨b, blk, h1, h2, h3, h4, h5⟩
 · subst h1; subst h2
   have : appendLimit ys.length bytes = true := by simp [appendLimit]; simpa using hb
   simp only [hn, if_false, this, if_true]
   refine ⟨_, _, rfl, pre_app h.pre, .inr ⟨H.length, ys, h.pre.length_le, by simp, by simp, by simp, by simp⟩⟩
 · subst h2
   have : appendLimit (l.length + ys.length) bytes = true := by simp [appendLimit]; simpa using hb
   simp only [h3, hn, if_false, this]
   simp only [Nat.zero_add, h5, and_self, if_true, List.drop_zero, h4]
   refine ⟨_, _, rfl, pre_app (prefix_set h.pre h1), .inr ⟨H.length, l ++ ys, h.pre.length_le, by simp, ?_, by rw [List.take_of_length_le]; simp, by simp⟩⟩
   rw [List.getElem?_append_right (by simp)]; simp

/-- What a list under way is when it is handed on. -/
theorem Out.frz {H0 H : Heap} {v : V} {z : Nat} {l : List V} (h : Out H0 H v z l) : ∃ H', H0 <+: H' ∧ frzC H v = some (.sl l, H') ∧ pureIn H v = some (.sl l, H') := by
 rcases h.val with ⟨h1, h2⟩ | ⟨b, blk, h1, h2, h3, h4, h5⟩
 · subst h1; subst h2; exact ⟨H, h.pre, rfl, rfl⟩
 · subst h2
   refine ⟨H.set b (some ⟨z, blk, true, false⟩), prefix_set h.pre h1, ?_, ?_⟩
   · simp [h3, h4, h5]
   · simp [h3, h4, h5]

/-- The answer of a function that returns the list. -/
theorem Out.fin {H0 H1 H : Heap} {v : V} {z : Nat} {l : List V} (h : Out H0 H v z l) (hp : H1 <+: H0) : Go.Abs.fin false H1.length H v = some (.sl l, H1) := by
 obtain ⟨H', h1, h2, h3⟩ := h.frz
 have : Go.Abs.fin false H1.length H v = (pureIn H v).bind fun (v', H1') => some (v', H1'.take H1.length) := by
   rcases h.val with ⟨_, e⟩ | ⟨b, blk, _, e, _⟩ <;> subst e <;> rfl
 rw [this, h3]
 simp [take_pre (hp.trans h1)]

/-- The list as an argument. -/
theorem Out.prep {H0 H : Heap} {v : V} {z g : Nat} {l : List V} (h : Out H0 H v z l) (hg : (prog.fn g).elim true (fun f => !f.raw) = true) : ∃ H', H0 <+: H' ∧ prep prog g H [v] = some ([.sl l], H') := by
 obtain ⟨H', h1, h2, h3⟩ := h.frz
 refine ⟨H', h1, ?_⟩
 have e : frzVs H [v] = some ([.sl l], H') := by
   have : frzV H v = frzC H v := by
     rcases h.val with ⟨_, e⟩ | ⟨b, blk, _, e, _⟩ <;> subst e <;> rfl
   simp [frzVs, this, h2]
 unfold Go.Abs.prep
 cases hq : prog.fn g with
 | none => exact e
 | some f =>
   rw [hq] at hg
   simp at hg
   simp [hg, e]

end Go.Abs.W

/- Lists of intervals that a loop builds. -/
namespace Go.Abs.W

theorem Out.oneIv {H0 H : Heap} {v : V} {l : List Iv} (h : Out H0 H v 7 (l.map Iv.v)) (x : Iv) (hb : l.length + 1 ≤ 1000000000) :
   ∃ v' H', stpAppend 7 88 v (.ref H.length 7 0 1) (H ++ [some ⟨7, [x.v], true, true⟩]) = some (v', H') ∧ Out H0 H' v' 7 ((l ++ [x]).map Iv.v) := by
 have := (h.grow [some ⟨7, [x.v], true, true⟩]).app (y := .ref H.length 7 0 1) (ys := [x.v]) (bytes := 88) (by simp) (by simp) (by simp) (by simp; omega)
 simpa using this

end Go.Abs.W

/- The reference's functions on limbs. -/
namespace Go.Abs.W

theorem bitL_half {k : Nat} (h : k ≠ 0) : bitL k = bitL (k / 2) + 1 := by
 by_cases h1 : k = 1
 · subst h1; decide
 · have := bitL_shift (n := k) (k := 1) (by omega)
   simpa using this

set_option maxHeartbeats 1000000 in
theorem rtrim_cq (l : List Nat) (hl : l.length ≤ 1000000000) : CQ prog g_fpref02_trim [lim l] (lim (trimL l)) := by
 refine CQ_run rfl fun H => ?_
 simp [lim]
 refine WK_loop (fun k E H' => H' = H ∧ E 0 = lim l ∧ k ≤ l.length ∧ E 3 = .int .i64 k ∧ trimN l k = trimN l l.length) l.length ?_ ?_
 · simp [lim]
 · rintro n E H' ⟨rfl, h0, hn, h3, ht⟩
   refine WC_round ?_
   simp only [lim] at h0
   have hlim : ∀ k, k ≤ l.length → k * 4 ≤ 140737488355328 := by omega
   have fin' : ∀ k, k = trimN l l.length → k ≤ l.length → (List.take k (List.map u32 l)) = List.map u32 (trimL l) := by
     intro k hk _; rw [trimL, hk, List.map_take]
   rcases n with _ | n
   · have ft := fin' 0 (by rw [← ht]; rfl) (by omega)
     simp [c_fpref02_trim_l0, h0, h3, stpAppend, ← ft]
   · have e1 : IntKind.i64.wrap (n : Int) = n := by rw [wrap_i64] <;> omega
     have hlt : n < l.length := by omega
     have p1 : (0 : Int) ≤ (n : Int) + 1 := by omega
     have p2 : (0 : Int) < (n : Int) + 1 := by omega
     by_cases hx : l[n] = 0
     · simp [c_fpref02_trim_l0, h0, h3, e1, hlt, hx, u32, p2]
       refine ⟨n, by omega, rfl, by omega, rfl, ?_⟩
       rw [← ht, trimN, if_pos (by rw [List.getElem?_eq_getElem hlt, hx])]
     · have hx' : ¬ ((l[n] : Int) = 0) := by omega
       have ft := fin' (n + 1) (by rw [← ht, trimN, if_neg (by rw [List.getElem?_eq_getElem hlt]; simpa using hx)]) (by omega)
       have f8 := hlim (n + 1) (by omega)
       have hne : l ≠ [] := by intro h; rw [h] at hlt; simp at hlt
       have hhd : headOk 1 (List.take (n + 1) (List.map u32 l)) = true := by
         cases l with
         | nil => exact absurd rfl hne
         | cons x l => simp [headOk]
       obtain ⟨ys, hys⟩ : ∃ ys, ys = List.take (n + 1) (List.map u32 l) := ⟨_, rfl⟩
       rw [← hys] at hhd ft
       have hyl : ys.length = n + 1 := by rw [hys]; simp; omega
       have hyn : ys ≠ [] := by intro h; rw [h] at hyl; simp at hyl
       simp only [headOk] at hhd
       simp [c_fpref02_trim_l0, h0, h3, e1, hlt, hx, u32, p1, p2, hn, stpAppend, ← hys]
       rw [if_pos hhd]
       simp [hyl, f8, hyn]
       rw [← ft, List.take_of_length_le (by omega)]


theorem rbits_nil : CQ prog g_fpref02_bits [lim []] (.int .i64 0) := by
 refine CQ_run rfl fun H => ?_
 simp [lim]

set_option maxHeartbeats 1000000 in
theorem rbits_cq (l : List Nat) (t : Nat) (hl : l.length ≤ 1000000) (ht : t < 4294967296) : CQ prog g_fpref02_bits [lim (l ++ [t])] (.int .i64 ((32 * l.length + bitL t : Nat))) := by
 refine CQ_run rfl fun H => ?_
 have e2 : IntKind.i64.wrap (l.length : Int) = l.length := by rw [wrap_i64] <;> omega
 have e3 : IntKind.i64.wrap (32 * (l.length : Int)) = 32 * l.length := by rw [wrap_i64] <;> omega
 have e4 : ¬ ((l.length : Int) + 1 = 0) := by omega
 simp [lim, e2, e3, e4, u32]
 have hb := bitL_lt ht
 refine WK_loop (fun k E H' => H' = H ∧ E 4 = .int .u32 k ∧ k ≤ t ∧ bitL k ≤ bitL t ∧ E 3 = .int .i64 ((32 * l.length + (bitL t - bitL k) : Nat))) t ?_ ?_
 · simp
 · rintro k E H' ⟨rfl, h4, hk, hbk, h3⟩
   refine WC_round ?_
   rcases Nat.eq_zero_or_pos k with rfl | hp
   · simp [c_fpref02_bits_l0, h4, h3, bitL]
   · have f1 : shiftI .shr .u32 (k : Int) 1 = some (.int .u32 ((k / 2 : Nat) : Int)) := by have := shr32 k 1 (by omega); simpa using this
     obtain ⟨j, hj⟩ : ∃ j, j = k / 2 := ⟨_, rfl⟩
     have hh := bitL_half (k := k) (by omega)
     rw [← hj] at f1 hh
     obtain ⟨c, hc⟩ : ∃ c, c = 32 * l.length + (bitL t - bitL k) := ⟨_, rfl⟩
     rw [← hc] at h3
     have f2 : IntKind.i64.wrap ((c : Int) + 1) = ((32 * l.length + (bitL t - bitL j) : Nat) : Int) := by rw [wrap_i64] <;> omega
     simp [c_fpref02_bits_l0, h4, h3, hp, f1, f2]
     exact ⟨j, by omega, rfl, by omega, by omega, rfl⟩

set_option maxHeartbeats 1000000 in
theorem rcompare_cq (x y : List Nat) (ha : x.length ≤ 9223372036854775807) (lx : Li x) (ly : Li y) (ht : x.length = y.length ∨ (Trim x ∧ Trim y)) : CQ prog g_fpref02_compare [lim x, lim y] (.int .i64 (cmpN (natV x) (natV y))) := by
 refine CQ_run rfl fun H => ?_
 by_cases hlt : x.length < y.length
 · have h1 : ¬ ((x.length : Int) = (y.length : Int)) := by omega
   have h2 := natV_lt_of_len lx (by rcases ht with h | h; omega; exact h.2) hlt
   simp [lim, hlt, h1, cmpN, h2]
 · by_cases hgt : y.length < x.length
   · have h1 : ¬ ((x.length : Int) = (y.length : Int)) := by omega
     have h2 := natV_lt_of_len ly (by rcases ht with h | h; omega; exact h.1) hgt
     have h3 : ¬ natV x < natV y := by omega
     simp [lim, hlt, h1, cmpN, h2, h3]
   · have heq : x.length = y.length := by omega
     simp [lim, heq]
     refine WK_loop (fun k E H' => H' = H ∧ E 0 = lim x ∧ E 1 = lim y ∧ k ≤ x.length ∧ E 5 = .int .i64 ((k : Int) - 1) ∧ x.drop k = y.drop k) x.length ?_ ?_
     · have e1 : IntKind.i64.wrap ((y.length : Int) - 1) = (y.length : Int) - 1 := by rw [wrap_i64] <;> omega
       have e2 : y.drop x.length = [] := by rw [heq]; exact List.drop_length
       simp [lim, e1, heq]
     · rintro n E H' ⟨rfl, h0, h1, hn, h5, hd⟩
       refine WC_round ?_
       simp only [lim] at h0 h1
       rcases n with _ | n
       · have e1 : x = y := by simpa using hd
         have e2 : ¬ ((0 : Int) ≤ -1) := by omega
         simp [c_fpref02_compare_l0, h5, e1, cmpN]
       · have e1 : (n + 1 : Int) - 1 = n := by omega
         have hx : n < x.length := by omega
         have hy : n < y.length := by omega
         have p1 : ((0 : Int) ≤ n) := by omega
         by_cases hlt : x[n] < y[n]
         · have h2 := natV_lt_of_top lx hx hy hd hlt
           simp [c_fpref02_compare_l0, h0, h1, h5, e1, p1, hx, hy, u32, hlt, cmpN, h2]
         · by_cases hgt : y[n] < x[n]
           · have h2 := natV_lt_of_top ly hy hx hd.symm hgt
             have h3 : ¬ natV x < natV y := by omega
             simp [c_fpref02_compare_l0, h0, h1, h5, e1, p1, hx, hy, u32, hlt, hgt, cmpN, h2, h3]
           · have e2 : IntKind.i64.wrap ((n : Int) - 1) = (n : Int) - 1 := by rw [wrap_i64] <;> omega
             simp [c_fpref02_compare_l0, h0, h1, h5, e1, p1, hx, hy, u32, hlt, hgt, e2]
             refine ⟨n, by omega, rfl, rfl, by omega, rfl, ?_⟩
             rw [List.drop_eq_getElem_cons hx, List.drop_eq_getElem_cons hy, hd]
             congr 1
             omega

theorem cmpN_zero {a b : Nat} : cmpN a b = 0 ↔ a = b := by unfold cmpN; split <;> (try split) <;> omega

end Go.Abs.W

/- The reference's left shift. -/
namespace Go.Abs.W

theorem Out.one {H0 H : Heap} {v : V} {l : List Nat} (h : Out H0 H v 1 (l.map u32)) (x : Nat) (hb : l.length + 1 ≤ 1000000000) :
   ∃ v' H', stpAppend 1 4 v (.ref H.length 1 0 1) (H ++ [some ⟨1, [.int .u32 x], true, true⟩]) = some (v', H') ∧ Out H0 H' v' 1 ((l ++ [x]).map u32) := by
 have := (h.grow [some ⟨1, [.int .u32 x], true, true⟩]).app (y := .ref H.length 1 0 1) (ys := [.int .u32 x]) (bytes := 4) (by simp) (by simp) (by simp) (by simp; omega)
 simpa [u32] using this

set_option maxHeartbeats 2000000 in
theorem left_cq (x : List Nat) (n : Nat) (hx : x.length ≤ 1000000) (lx : Li x) (hn : n ≤ 10000000) : CQ prog g_fpref02_left [lim x, .int .i64 n] (lim (limbsOf (natV x * 2 ^ n))) := by
 refine CQ_run rfl fun H => ?_
 obtain ⟨q, hq⟩ : ∃ q, q = n / 32 := ⟨_, rfl⟩
 obtain ⟨s, hs⟩ : ∃ s, s = n % 32 := ⟨_, rfl⟩
 have q1 : (n : Int) / 32 = q := by omega
 have s1 : (n : Int).tmod 32 = s := by rw [Int.tmod_eq_emod_of_nonneg (by omega)]; omega
 have hs32 : s < 32 := by omega
 have e1 : IntKind.i64.wrap (q : Int) = q := by rw [wrap_i64] <;> omega
 have e6 : q * 4 ≤ 281474976710656 ∧ q ≤ 9223372036854775807 := by omega
 have e7 : IntKind.u64.wrap (s : Int) = s := wrap_nat_u64 _ (by omega)
 simp [lim, q1, e1, e6]
 refine WK_up (fun i E H' => E 0 = lim x ∧ E 1 = .int .i64 n ∧ E 7 = .int .i64 i ∧ ∃ c o, c < 2 ^ s ∧ E 6 = .int .u64 (c : Nat) ∧ Out H H' (E 5) 1 (o.map u32) ∧ o.length = q + i ∧ Li o ∧
     o ++ shlGo s c (x.drop i) = List.replicate q 0 ++ shlGo s 0 x) x.length ?_ ?_
 · simp [lim]
   refine ⟨0, Nat.two_pow_pos s, rfl, List.replicate q 0, ⟨by simp, .inr ⟨H.length, List.replicate q (V.int IntKind.u32 0), by simp, by simp, by simp, by simp [u32], by simp⟩⟩, by simp, ?_, rfl⟩
   intro y hy
   rw [(List.mem_replicate.1 hy).2]; omega
 · rintro i E H' hi ⟨h0, h1, h7, c, o, hc, h6, h5, ho, lo, ht⟩
   simp only [lim] at h0
   rcases Nat.lt_or_ge i x.length with hlt | hge
   · have f1 : IntKind.i64.wrap ((i : Int) + 1) = ((i + 1 : Nat) : Int) := by rw [wrap_i64] <;> omega
     have lxi : x[i] < 4294967296 := lx _ (List.getElem_mem hlt)
     have f3 : IntKind.u64.wrap (x[i] : Int) = x[i] := wrap_nat_u64 _ (by omega)
     obtain ⟨g1, g2⟩ := shlGo_lt hs32 lxi hc
     rw [List.drop_eq_getElem_cons hlt, shlGo] at ht
     obtain ⟨P, hP⟩ : ∃ P, P = x[i] * 2 ^ s := ⟨_, rfl⟩
     have f4 : shiftI .shl .u64 (x[i] : Int) (s : Int) = some (.int .u64 (P : Int)) := by rw [shl64 _ _ (by omega) (by omega), hP]
     have f5 : bitsI .or .u64 (P : Int) (c : Int) = some ((P + c : Nat) : Int) := by rw [hP]; exact bitsI_or_add _ _ _ (by omega) hc (by omega)
     rw [← hP] at g1 g2 ht
     obtain ⟨T, hT⟩ : ∃ T, T = P + c := ⟨_, rfl⟩
     rw [← hT] at f5 g1 g2 ht
     have f6 : bitsI .and .u64 (T : Int) 4294967295 = some ((T % 4294967296 : Nat) : Int) := bitsI_mask T (by omega)
     have f7 : shiftI .shr .u64 (T : Int) 32 = some (.int .u64 ((T / 4294967296 : Nat) : Int)) := shr64 T 32 (by omega)
     obtain ⟨L, hL⟩ : ∃ L, L = T % 4294967296 := ⟨_, rfl⟩
     obtain ⟨C, hC⟩ : ∃ C, C = T / 4294967296 := ⟨_, rfl⟩
     rw [← hL] at f6 ht
     rw [← hC] at f7 ht g2
     have f8 : IntKind.u32.wrap (L : Int) = L := wrap_nat_u32 _ (by omega)
     obtain ⟨v', H'', e', ho'⟩ := h5.one L (by omega)
     simp [c_fpref02_left_l0, h0, h1, h6, h7, hlt, u32, f1, s1, f3, f4, f5, f6, f7, f8, e7, e', lim]
     exact ⟨C, g2, rfl, o ++ [L], ho', by simp; omega, lo.append (by intro y hy; simp at hy; omega), by simpa using ht⟩
   · have hin : i = x.length := by omega
     subst hin
     have g1 : 2 ^ s ≤ 2 ^ 31 := Nat.pow_le_pow_right (by omega) (by omega)
     have f6 : IntKind.u32.wrap (c : Int) = c := wrap_nat_u32 c (by omega)
     obtain ⟨v', H'', e', ho'⟩ := h5.one c (by omega)
     simp [c_fpref02_left_l0, h0, h6, h7, f6, e']
     obtain ⟨H3, hp3, e3⟩ := ho'.prep (g := g_fpref02_trim) rfl
     refine WL_callH rfl rfl e3 (rtrim_cq (o ++ [c]) (by simp; omega)) ?_
     have hv : natV (o ++ [c]) = natV x * 2 ^ n := by
       simp [shlGo] at ht
       have : c % 4294967296 = c := by omega
       rw [this] at ht
       rw [ht, natV_append, natV_zeros, List.length_replicate, shlGo_val hs32 lx (Nat.two_pow_pos _), pow32, Nat.zero_add, Nat.add_zero, Nat.mul_left_comm, ← Nat.pow_add, hq, hs, Nat.div_add_mod]
     rw [trimL_limbsOf (lo.append (by intro y hy; simp at hy; omega)), hv]
     simp [take_pre hp3, lim]

end Go.Abs.W

/- The reference's sums and differences of limbs. -/
namespace Go.Abs.W

def dig (l : List Nat) (i : Nat) : Nat := (l[i]?).getD 0

theorem dig_lt {l : List Nat} (h : Li l) (i : Nat) : dig l i < 4294967296 := by
 unfold dig
 cases hq : l[i]? with
 | none => simp
 | some x => exact h x (List.mem_of_getElem? hq)
theorem dig_in {l : List Nat} {i : Nat} (h : i < l.length) : dig l i = l[i] := by simp [dig, h]
theorem dig_out {l : List Nat} {i : Nat} (h : l.length ≤ i) : dig l i = 0 := by simp [dig, h]

theorem natV_take_succ (l : List Nat) (i : Nat) : natV (l.take (i + 1)) = natV (l.take i) + 4294967296 ^ i * dig l i := by
 rcases Nat.lt_or_ge i l.length with h | h
 · rw [List.take_add_one, List.getElem?_eq_getElem h, dig_in h, natV_append, List.length_take, Nat.min_eq_left (by omega)]
   simp [natV]
 · rw [List.take_of_length_le (by omega), List.take_of_length_le h, dig_out h]; simp

theorem natV_take_all {l : List Nat} {i : Nat} (h : l.length ≤ i) : natV (l.take i) = natV l := by rw [List.take_of_length_le h]

theorem plus_step {o a b : List Nat} {i c T : Nat} (ho : o.length = i) (h : natV o + 4294967296 ^ i * c = natV (a.take i) + natV (b.take i)) (hT : T = c + dig a i + dig b i) :
   natV (o ++ [T % 4294967296]) + 4294967296 ^ (i + 1) * (T / 4294967296) = natV (a.take (i + 1)) + natV (b.take (i + 1)) := by
 rw [natV_take_succ, natV_take_succ, natV_set_app, ho, Nat.pow_succ, Nat.mul_assoc]
 have : 4294967296 ^ i * (T % 4294967296) + 4294967296 ^ i * (4294967296 * (T / 4294967296)) = 4294967296 ^ i * c + 4294967296 ^ i * dig a i + 4294967296 ^ i * dig b i := by
   rw [← Nat.mul_add, Nat.mod_add_div, hT, Nat.mul_add, Nat.mul_add]
 omega

set_option maxHeartbeats 4000000 in
theorem plus_cq (a b : List Nat) (ha : a.length ≤ 1000000) (hb : b.length ≤ 1000000) (la : Li a) (lb : Li b) : CQ prog g_fpref02_plus [lim a, lim b] (lim (limbsOf (natV a + natV b))) := by
 refine CQ_run rfl fun H => ?_
 simp [lim]
 refine WK_up (fun i E H' => E 0 = lim a ∧ E 1 = lim b ∧ E 7 = .int .i64 i ∧ ∃ c o, c < 2 ∧ E 6 = .int .u64 (c : Nat) ∧ Out H H' (E 5) 1 (o.map u32) ∧ o.length = i ∧ Li o ∧
     natV o + 4294967296 ^ i * c = natV (a.take i) + natV (b.take i)) (max a.length b.length) ?_ ?_
 · simp [lim]
   exact ⟨0, by omega, rfl, [], .nil, rfl, by intro x hx; simp at hx, by simp [natV]⟩
 · rintro i E H' hi ⟨h0, h1, h7, c, o, hc, h6, h5, ho, lo, ht⟩
   simp only [lim] at h0 h1
   obtain ⟨T, hT⟩ : ∃ T, T = c + dig a i + dig b i := ⟨_, rfl⟩
   have da := dig_lt la i
   have db := dig_lt lb i
   have st := plus_step ho ht hT
   obtain ⟨L, hL⟩ : ∃ L, L = T % 4294967296 := ⟨_, rfl⟩
   obtain ⟨C, hC⟩ : ∃ C, C = T / 4294967296 := ⟨_, rfl⟩
   have f6 : bitsI .and .u64 (T : Int) 4294967295 = some ((T % 4294967296 : Nat) : Int) := bitsI_mask T (by omega)
   have f7 : shiftI .shr .u64 (T : Int) 32 = some (.int .u64 ((T / 4294967296 : Nat) : Int)) := shr64 T 32 (by omega)
   rw [← hL] at f6 st
   rw [← hC] at f7 st
   have f8 : IntKind.u32.wrap (L : Int) = L := wrap_nat_u32 _ (by omega)
   obtain ⟨v', H'', e', ho'⟩ := h5.one L (by omega)
   have f1 : IntKind.i64.wrap ((i : Int) + 1) = ((i + 1 : Nat) : Int) := by rw [wrap_i64] <;> omega
   have go : i < max a.length b.length → ∃ c, c < 2 ∧ (C : Int) = (c : Nat) ∧ ∃ o, Out H H'' v' 1 (List.map u32 o) ∧ o.length = i + 1 ∧ Li o ∧ natV o + 4294967296 ^ (i + 1) * c = natV (a.take (i + 1)) + natV (b.take (i + 1)) :=
     fun _ => ⟨C, by omega, rfl, o ++ [L], ho', by simp; omega, lo.append (by intro y hy; simp at hy; omega), st⟩
   rcases Nat.lt_or_ge i a.length with h2 | h2 <;> rcases Nat.lt_or_ge i b.length with h3 | h3
   · have t1 : IntKind.u64.wrap (a[i] : Int) = a[i] := wrap_nat_u64 _ (by rw [dig_in h2] at da; omega)
     have t2 : IntKind.u64.wrap (b[i] : Int) = b[i] := wrap_nat_u64 _ (by rw [dig_in h3] at db; omega)
     have t3 : IntKind.u64.wrap ((c : Int) + a[i]) = (c : Int) + a[i] := by rw [dig_in h2] at da; rw [wrap_u64] <;> omega
     have t4 : IntKind.u64.wrap ((c : Int) + a[i] + b[i]) = T := by rw [hT, dig_in h2, dig_in h3]; rw [dig_in h2] at da; rw [dig_in h3] at db; rw [wrap_u64] <;> omega
     simp [c_fpref02_plus_l0, h0, h1, h6, h7, h2, h3, u32, t1, t2, t3, t4, f1, f6, f7, f8, e', lim]
     exact ⟨by omega, go (by omega)⟩
   · have t1 : IntKind.u64.wrap (a[i] : Int) = a[i] := wrap_nat_u64 _ (by rw [dig_in h2] at da; omega)
     have t3 : IntKind.u64.wrap ((c : Int) + a[i]) = T := by rw [hT, dig_in h2, dig_out h3]; rw [dig_in h2] at da; rw [wrap_u64] <;> omega
     have h3' : ¬ i < b.length := by omega
     simp [c_fpref02_plus_l0, h0, h1, h6, h7, h2, h3', u32, t1, t3, f1, f6, f7, f8, e', lim]
     exact ⟨by omega, go (by omega)⟩
   · have t2 : IntKind.u64.wrap (b[i] : Int) = b[i] := wrap_nat_u64 _ (by rw [dig_in h3] at db; omega)
     have t4 : IntKind.u64.wrap ((c : Int) + b[i]) = T := by rw [hT, dig_out h2, dig_in h3]; rw [dig_in h3] at db; rw [wrap_u64] <;> omega
     have h2' : ¬ i < a.length := by omega
     simp [c_fpref02_plus_l0, h0, h1, h6, h7, h2', h3, u32, t2, t4, f1, f6, f7, f8, e', lim]
     exact ⟨by omega, go (by omega)⟩
   · have h2' : ¬ i < a.length := by omega
     have h3' : ¬ i < b.length := by omega
     have k6 : IntKind.u32.wrap (c : Int) = c := wrap_nat_u32 c (by omega)
     obtain ⟨v', H'', e', ho'⟩ := h5.one c (by omega)
     simp [c_fpref02_plus_l0, h0, h1, h6, h7, h2', h3', k6, e']
     obtain ⟨H3, hp3, e3⟩ := ho'.prep (g := g_fpref02_trim) rfl
     refine WL_callH rfl rfl e3 (rtrim_cq (o ++ [c]) (by simp; omega)) ?_
     rw [trimL_limbsOf (lo.append (by intro y hy; simp at hy; omega)), natV_set_app, ho, ht, natV_take_all h2, natV_take_all h3]
     simp [take_pre hp3, lim]

theorem minus_step {o a b : List Nat} {i c T : Nat} (ho : o.length = i) (h : natV o + natV (b.take i) = natV (a.take i) + 4294967296 ^ i * c) (hc : c < 2) (da : dig a i < 4294967296) (db : dig b i < 4294967296) (hT : T + (c + dig b i) = dig a i + 4294967296) :
   natV (o ++ [T % 4294967296]) + natV (b.take (i + 1)) = natV (a.take (i + 1)) + 4294967296 ^ (i + 1) * (1 - T / 4294967296) ∧ T / 4294967296 ≤ 1 := by
 have hT2 : T / 4294967296 ≤ 1 := by omega
 refine ⟨?_, hT2⟩
 rw [natV_take_succ, natV_take_succ, natV_set_app, ho, Nat.pow_succ, Nat.mul_assoc]
 have : 4294967296 ^ i * (T % 4294967296) + 4294967296 ^ i * (c + dig b i) = 4294967296 ^ i * dig a i + 4294967296 ^ i * (4294967296 * (1 - T / 4294967296)) := by
   rw [← Nat.mul_add, ← Nat.mul_add]
   congr 1; omega
 rw [Nat.mul_add] at this
 omega

set_option maxHeartbeats 4000000 in
theorem minus_cq (a b : List Nat) (ha : a.length ≤ 1000000) (hb : b.length ≤ a.length) (la : Li a) (lb : Li b) (hle : natV b ≤ natV a) : CQ prog g_fpref02_minus [lim a, lim b] (lim (limbsOf (natV a - natV b))) := by
 refine CQ_run rfl fun H => ?_
 simp [lim]
 refine WK_up (fun i E H' => E 0 = lim a ∧ E 1 = lim b ∧ E 7 = .int .i64 i ∧ ∃ c o, c < 2 ∧ E 6 = .int .u64 (c : Nat) ∧ Out H H' (E 5) 1 (o.map u32) ∧ o.length = i ∧ Li o ∧
     natV o + natV (b.take i) = natV (a.take i) + 4294967296 ^ i * c) a.length ?_ ?_
 · simp [lim]
   exact ⟨0, by omega, rfl, [], .nil, rfl, by intro x hx; simp at hx, by simp [natV]⟩
 · rintro i E H' hi ⟨h0, h1, h7, c, o, hc, h6, h5, ho, lo, ht⟩
   simp only [lim] at h0 h1
   rcases Nat.lt_or_ge i a.length with h2 | h2
   · have da := dig_lt la i
     have db := dig_lt lb i
     obtain ⟨T, hT⟩ : ∃ T, T = dig a i + 4294967296 - (c + dig b i) := ⟨_, rfl⟩
     have hT' : T + (c + dig b i) = dig a i + 4294967296 := by omega
     obtain ⟨st, hC1⟩ := minus_step ho ht hc da db hT'
     obtain ⟨L, hL⟩ : ∃ L, L = T % 4294967296 := ⟨_, rfl⟩
     obtain ⟨C, hC⟩ : ∃ C, C = T / 4294967296 := ⟨_, rfl⟩
     have f6 : bitsI .and .u64 (T : Int) 4294967295 = some ((T % 4294967296 : Nat) : Int) := bitsI_mask T (by omega)
     have f7 : shiftI .shr .u64 (T : Int) 32 = some (.int .u64 ((T / 4294967296 : Nat) : Int)) := shr64 T 32 (by omega)
     rw [← hL] at f6 st
     rw [← hC] at f7 st hC1
     have f8 : IntKind.u32.wrap (L : Int) = L := wrap_nat_u32 _ (by omega)
     have f9 : IntKind.u64.wrap (1 - (C : Int)) = ((1 - C : Nat) : Int) := by rw [wrap_u64] <;> omega
     obtain ⟨D, hD⟩ : ∃ D, D = 1 - C := ⟨_, rfl⟩
     rw [← hD] at f9 st
     obtain ⟨v', H'', e', ho'⟩ := h5.one L (by omega)
     have f1 : IntKind.i64.wrap ((i : Int) + 1) = ((i + 1 : Nat) : Int) := by rw [wrap_i64] <;> omega
     have go : ∃ c, c < 2 ∧ (D : Int) = (c : Nat) ∧ ∃ o, Out H H'' v' 1 (List.map u32 o) ∧ o.length = i + 1 ∧ Li o ∧ natV o + natV (b.take (i + 1)) = natV (a.take (i + 1)) + 4294967296 ^ (i + 1) * c :=
       ⟨D, by omega, rfl, o ++ [L], ho', by simp; omega, lo.append (by intro y hy; simp at hy; omega), st⟩
     rw [dig_in h2] at da hT'
     have t1 : IntKind.u64.wrap (a[i] : Int) = a[i] := wrap_nat_u64 _ (by omega)
     have t2 : IntKind.u64.wrap ((a[i] : Int) + 4294967296) = (a[i] : Int) + 4294967296 := by rw [wrap_u64] <;> omega
     rcases Nat.lt_or_ge i b.length with h3 | h3
     · rw [dig_in h3] at db hT'
       have t3 : IntKind.u64.wrap (b[i] : Int) = b[i] := wrap_nat_u64 _ (by omega)
       have t4 : IntKind.u64.wrap ((c : Int) + b[i]) = (c : Int) + b[i] := by rw [wrap_u64] <;> omega
       have t5 : IntKind.u64.wrap ((a[i] : Int) + 4294967296 - ((c : Int) + b[i])) = T := by rw [wrap_u64] <;> omega
       simp [c_fpref02_minus_l0, h0, h1, h6, h7, h2, h3, u32, t1, t2, t3, t4, t5, f1, f6, f7, f8, f9, e', lim]
       exact go
     · rw [dig_out h3] at db hT'
       have h3' : ¬ i < b.length := by omega
       have t5 : IntKind.u64.wrap ((a[i] : Int) + 4294967296 - (c : Int)) = T := by rw [wrap_u64] <;> omega
       simp [c_fpref02_minus_l0, h0, h1, h6, h7, h2, h3', u32, t1, t2, t5, f1, f6, f7, f8, f9, e', lim]
       exact go
   · have h2' : ¬ i < a.length := by omega
     have hin : i = a.length := by omega
     simp [c_fpref02_minus_l0, h0, h7, h2']
     obtain ⟨H3, hp3, e3⟩ := h5.prep (g := g_fpref02_trim) rfl
     refine WL_callH rfl rfl e3 (rtrim_cq o (by omega)) ?_
     have hlt := natV_lt lo
     rw [natV_take_all h2, natV_take_all (l := b) (by omega)] at ht
     rw [ho] at hlt
     have hv : natV o = natV a - natV b := by
       rcases Nat.eq_zero_or_pos c with h0 | h0
       · subst h0; omega
       · have : c = 1 := by omega
         subst this; omega
     rw [trimL_limbsOf lo, hv]
     simp [take_pre hp3, lim]

end Go.Abs.W

/- Trailing zeros, and shifts to the right. -/
namespace Go.Abs.W

/-- The number of the zero bits at the bottom. -/
def tzF : Nat → Nat → Nat
 | 0, _ => 0
 | f + 1, n => if n % 2 = 1 then 0 else tzF f (n / 2) + 1
def tz (n : Nat) : Nat := tzF (Nat.log2 n) n

theorem tz_odd {n : Nat} (h : n % 2 = 1) : tz n = 0 := by
 unfold tz
 cases Nat.log2 n <;> simp [tzF, h]
theorem tz_even {n : Nat} (h0 : n ≠ 0) (h : n % 2 = 0) : tz n = tz (n / 2) + 1 := by
 have e : Nat.log2 n = Nat.log2 (n / 2) + 1 := by rw [Nat.log2_def, if_pos (by omega)]
 unfold tz
 rw [e, tzF, if_neg (by omega)]

theorem tz_bit {n : Nat} (h0 : n ≠ 0) : n / 2 ^ tz n % 2 = 1 ∧ (∀ i, i < tz n → n / 2 ^ i % 2 = 0) ∧ n % 2 ^ tz n = 0 := by
 induction n using Nat.strongRecOn with
 | _ n ih =>
   by_cases h : n % 2 = 1
   · rw [tz_odd h]; simp [h, Nat.mod_one]
   · have h1 : n % 2 = 0 := by omega
     obtain ⟨i1, i2, i3⟩ := ih (n / 2) (by omega) (by omega)
     rw [tz_even h0 h1]
     have e : ∀ k, n / 2 ^ (k + 1) = n / 2 / 2 ^ k := by intro k; rw [Nat.pow_succ, Nat.mul_comm, Nat.div_div_eq_div_mul]
     refine ⟨by rw [e]; exact i1, ?_, ?_⟩
     · intro i hi
       cases i with
       | zero => simpa using h1
       | succ i => rw [e]; exact i2 i (by omega)
     · rw [Nat.pow_succ, Nat.mul_comm, Nat.mod_mul, i3, h1]

theorem tz_le {n : Nat} (h0 : n ≠ 0) : 2 ^ tz n ≤ n := by
 obtain ⟨h1, _, h3⟩ := tz_bit h0
 rcases Nat.lt_or_ge n (2 ^ tz n) with h | h
 · rw [Nat.div_eq_of_lt h] at h1; simp at h1
 · exact h

theorem natV_drop (l : List Nat) (i : Nat) : natV (l.drop i) = dig l i + 4294967296 * natV (l.drop (i + 1)) := by
 rcases Nat.lt_or_ge i l.length with h | h
 · rw [List.drop_eq_getElem_cons h, dig_in h]; rfl
 · rw [List.drop_of_length_le h, List.drop_of_length_le (by omega), dig_out h]; rfl

theorem natV_split (l : List Nat) (i : Nat) : natV l = natV (l.take i) + 4294967296 ^ i * natV (l.drop i) := by
 rcases Nat.lt_or_ge i l.length with h | h
 · have := natV_append (l.take i) (l.drop i)
   rw [List.take_append_drop, List.length_take, Nat.min_eq_left (by omega)] at this
   exact this
 · rw [List.drop_of_length_le h, List.take_of_length_le h]; simp [natV]

theorem natV_div {l : List Nat} (hl : Li l) (i : Nat) : natV l / 4294967296 ^ i = natV (l.drop i) := by
 have h1 := natV_lt (hl.take i)
 have h2 : 4294967296 ^ (l.take i).length ≤ 4294967296 ^ i := Nat.pow_le_pow_right (by omega) (by simp; omega)
 rw [natV_split l i, Nat.add_mul_div_left _ _ (Nat.pow_pos (by omega)), Nat.div_eq_of_lt (by omega), Nat.zero_add]

theorem bit_at {l : List Nat} (hl : Li l) (n : Nat) : natV l / 2 ^ n % 2 = dig l (n / 32) / 2 ^ (n % 32) % 2 := by
 obtain ⟨q, hq⟩ : ∃ q, q = n / 32 := ⟨_, rfl⟩
 obtain ⟨s, hs⟩ : ∃ s, s = n % 32 := ⟨_, rfl⟩
 have e : 2 ^ n = 4294967296 ^ q * 2 ^ s := by rw [pow32, ← Nat.pow_add, hq, hs, Nat.div_add_mod]
 rw [← hq, ← hs, e, ← Nat.div_div_eq_div_mul, natV_div hl, natV_drop]
 have e2 : 4294967296 = 2 ^ s * (2 ^ (31 - s) * 2) := by rw [← Nat.pow_succ, ← Nat.pow_add, show s + (31 - s + 1) = 32 by omega]
 rw [e2, Nat.mul_assoc, Nat.add_mul_div_left _ _ (Nat.two_pow_pos s), Nat.mul_comm (2 ^ (31 - s)) 2, Nat.mul_assoc, Nat.add_mul_mod_self_left]

set_option maxHeartbeats 1000000 in
theorem zeros_cq (m : List Nat) (hm : m.length ≤ 1000000) (lm : Li m) (h0 : natV m ≠ 0) : CQ prog g_fpref02_zeros [lim m] (.int .i64 (tz (natV m))) := by
 refine CQ_run rfl fun H => ?_
 obtain ⟨b1, b2, b3⟩ := tz_bit h0
 have hlen : ∀ i, i ≤ tz (natV m) → i / 32 < m.length := by
   intro i hi
   have h1 := tz_le h0
   have h2 := natV_lt lm
   rw [pow32] at h2
   have h3 : 2 ^ tz (natV m) < 2 ^ (32 * m.length) := by omega
   have := (Nat.pow_lt_pow_iff_right (by omega)).1 h3
   omega
 simp [lim]
 refine WK_up (fun i E H' => H' = H ∧ E 0 = lim m ∧ E 3 = .int .i64 i) (tz (natV m)) ?_ ?_
 · simp [lim]
 · rintro i E H' hi ⟨rfl, h0, h3⟩
   simp only [lim] at h0
   have hq := hlen i hi
   have hlast := hlen _ (Nat.le_refl _)
   have hb := bit_at lm i
   rw [dig_in hq] at hb
   have lq : m[i / 32] < 4294967296 := lm _ (List.getElem_mem hq)
   obtain ⟨q, hq'⟩ : ∃ q, q = i / 32 := ⟨_, rfl⟩
   obtain ⟨s, hs⟩ : ∃ s, s = i % 32 := ⟨_, rfl⟩
   have q1 : (i : Int) / 32 = q := by omega
   have s1 : (i : Int).tmod 32 = s := by rw [Int.tmod_eq_emod_of_nonneg (by omega)]; omega
   have e1 : IntKind.i64.wrap (q : Int) = q := by rw [wrap_i64] <;> omega
   have e2 : IntKind.u64.wrap (s : Int) = s := wrap_nat_u64 _ (by omega)
   simp only [← hq', ← hs] at hb hq lq
   have f1 : shiftI .shr .u32 (m[q] : Int) (s : Int) = some (.int .u32 ((m[q] / 2 ^ s : Nat) : Int)) := shr32 _ _ (by omega)
   obtain ⟨y, hy⟩ : ∃ y, y = m[q] / 2 ^ s := ⟨_, rfl⟩
   have hy2 : y < 2 ^ 32 := by rw [hy]; exact Nat.lt_of_le_of_lt (Nat.div_le_self _ _) lq
   rw [← hy] at f1 hb
   have f2 := bitsI_one32 y hy2
   obtain ⟨z, hz⟩ : ∃ z, z = y % 2 := ⟨_, rfl⟩
   rw [← hz] at f2 hb
   have f3 : IntKind.i64.wrap ((i : Int) + 1) = ((i + 1 : Nat) : Int) := by rw [wrap_i64] <;> omega
   rcases Nat.lt_or_ge i (tz (natV m)) with hlt | hge
   · have : z = 0 := by rw [← hb]; exact b2 i hlt
     subst this
     simp [c_fpref02_zeros_l0, h0, h3, q1, s1, e1, e2, hq, u32, f1, f2, f3, hlt, lim]
   · have hin : i = tz (natV m) := by omega
     have : z = 1 := by rw [← hb, hin]; exact b1
     subst this
     simp [c_fpref02_zeros_l0, h0, h3, q1, s1, e1, e2, hq, u32, f1, f2, ← hin]

theorem right_step {M i s : Nat} (o : List Nat) (ho : o.length = i) (h : natV o = M / 2 ^ s % 4294967296 ^ i) : natV (o ++ [M / 2 ^ s / 4294967296 ^ i % 4294967296]) = M / 2 ^ s % 4294967296 ^ (i + 1) := by
 rw [natV_set_app, ho, h, Nat.pow_succ, Nat.mod_mul]

theorem right_limb {l : List Nat} (hl : Li l) (i s : Nat) (hs : s < 32) : natV l / 2 ^ s / 4294967296 ^ i % 4294967296 = (dig l i + 4294967296 * dig l (i + 1)) / 2 ^ s % 4294967296 := by
 rw [Nat.div_div_eq_div_mul, Nat.mul_comm, ← Nat.div_div_eq_div_mul, natV_div hl, natV_drop, natV_drop l (i + 1), Nat.mul_add, ← Nat.add_assoc, ← Nat.mul_assoc]
 have e2 : 4294967296 * 4294967296 = 2 ^ s * (2 ^ (32 - s) * 4294967296) := by
   rw [← Nat.mul_assoc, ← Nat.pow_add, show s + (32 - s) = 32 by omega]
 rw [e2, Nat.mul_assoc, Nat.add_mul_div_left _ _ (Nat.two_pow_pos s), Nat.mul_comm (2 ^ (32 - s)) 4294967296, Nat.mul_assoc, Nat.add_mul_mod_self_left]

theorem headOk_u32 (l : List Nat) : headOk 1 (l.map u32) = true := by
 cases l with
 | nil => rfl
 | cons x l => simp [headOk]

set_option maxHeartbeats 4000000 in
theorem right_cq (m : List Nat) (n : Nat) (hm : m.length ≤ 1000000) (lm : Li m) (hn : n ≤ 100000000) : CQ prog g_fpref02_right [lim m, .int .i64 n] (lim (limbsOf (natV m / 2 ^ n))) := by
 refine CQ_run rfl fun H => ?_
 obtain ⟨q, hq'⟩ : ∃ q, q = n / 32 := ⟨_, rfl⟩
 obtain ⟨s, hs⟩ : ∃ s, s = n % 32 := ⟨_, rfl⟩
 have q1 : (n : Int) / 32 = q := by omega
 have s1 : (n : Int).tmod 32 = s := by rw [Int.tmod_eq_emod_of_nonneg (by omega)]; omega
 have hs32 : s < 32 := by omega
 have e1 : IntKind.i64.wrap (q : Int) = q := by rw [wrap_i64] <;> omega
 have e2 : IntKind.u64.wrap (s : Int) = s := wrap_nat_u64 _ (by omega)
 have e : natV m / 2 ^ n = natV (m.drop q) / 2 ^ s := by
   rw [show n = 32 * q + s by omega, Nat.pow_add, ← pow32, ← Nat.div_div_eq_div_mul, natV_div lm]
 rw [e]
 rcases Nat.lt_or_ge q m.length with hlt | hge
 · have h1 : ¬ ((m.length : Int) ≤ q) := by omega
   obtain ⟨x, hx⟩ : ∃ x, x = m.drop q := ⟨_, rfl⟩
   have lx : Li x := by rw [hx]; exact lm.drop _
   have hx2 : List.drop q (List.map u32 m) = List.map u32 x := by rw [hx, List.map_drop]
   have hxl : x.length ≤ 1000000 := by rw [hx]; simp; omega
   rw [← hx]
   have hho := headOk_u32 x
   rw [← hx2] at hho
   simp only [headOk] at hho
   have hq2 : q ≤ m.length := by omega
   have ht : List.take m.length (List.map u32 m) = List.map u32 m := List.take_of_length_le (by simp)
   simp [lim, q1, e1, h1, hq2, ht]
   rw [if_pos (.inr hho), hx2]
   simp
   refine WK_up (fun i E H' => E 0 = lim x ∧ E 1 = .int .i64 n ∧ E 6 = .int .i64 i ∧ ∃ o, Out H H' (E 5) 1 (o.map u32) ∧ o.length = i ∧ Li o ∧ natV o = natV x / 2 ^ s % 4294967296 ^ i) x.length ?_ ?_
   · simp [lim]
     exact ⟨[], .nil, rfl, by intro x hx; simp at hx, by simp [natV, Nat.mod_one]⟩
   · rintro i E H' hi ⟨g0, g1, g6, o, g5, ho, lo, hv⟩
     simp only [lim] at g0
     rcases Nat.lt_or_ge i x.length with h2 | h2
     · have f1 : IntKind.i64.wrap ((i : Int) + 1) = ((i + 1 : Nat) : Int) := by rw [wrap_i64] <;> omega
       have f1' : IntKind.i64.wrap ((i : Int) + 1) = (i : Int) + 1 := by rw [wrap_i64] <;> omega
       have f0 : (0 : Int) ≤ (i : Int) + 1 := by omega
       have da := dig_lt lx i
       have db := dig_lt lx (i + 1)
       have st := right_step (M := natV x) (s := s) o ho hv
       rw [right_limb lx i s hs32] at st
       obtain ⟨T, hT⟩ : ∃ T, T = dig x i + 4294967296 * dig x (i + 1) := ⟨_, rfl⟩
       have hT2 : T < 2 ^ 64 := by omega
       have f4 : shiftI .shr .u64 (T : Int) (s : Int) = some (.int .u64 ((T / 2 ^ s : Nat) : Int)) := shr64 T s (by omega)
       rw [← hT] at st
       obtain ⟨Y, hY⟩ : ∃ Y, Y = T / 2 ^ s := ⟨_, rfl⟩
       have hY2 : Y < 2 ^ 64 := by rw [hY]; exact Nat.lt_of_le_of_lt (Nat.div_le_self _ _) hT2
       rw [← hY] at f4 st
       have f5 := bitsI_mask Y hY2
       obtain ⟨L, hL⟩ : ∃ L, L = Y % 4294967296 := ⟨_, rfl⟩
       rw [← hL] at f5 st
       have f6 : IntKind.u32.wrap (L : Int) = L := wrap_nat_u32 _ (by omega)
       obtain ⟨v', H'', e', ho'⟩ := g5.one L (by omega)
       have go : ∃ o, Out H H'' v' 1 (List.map u32 o) ∧ o.length = i + 1 ∧ Li o ∧ natV o = natV x / 2 ^ s % 4294967296 ^ (i + 1) :=
         ⟨o ++ [L], ho', by simp; omega, lo.append (by intro y hy; simp at hy; omega), st⟩
       rw [dig_in h2] at da hT
       have t1 : IntKind.u64.wrap (x[i] : Int) = x[i] := wrap_nat_u64 _ (by omega)
       rcases Nat.lt_or_ge (i + 1) x.length with h3 | h3
       · rw [dig_in h3] at db hT
         have t2 : IntKind.u64.wrap (x[i + 1] : Int) = x[i + 1] := wrap_nat_u64 _ (by omega)
         have h3' : (i : Int) + 1 < x.length := by omega
         have t3 : shiftI .shl .u64 (x[i + 1] : Int) 32 = some (.int .u64 ((x[i + 1] * 2 ^ 32 : Nat) : Int)) := shl64 _ 32 (by omega) (by omega)
         have t4 : bitsI .or .u64 (x[i] : Int) ((x[i + 1] * 2 ^ 32 : Nat) : Int) = some (T : Int) := by
           have := bitsI_or_add x[i + 1] 32 x[i] (by omega) (by omega) (by omega)
           rw [bitsI_or64 _ _ (by omega) (by omega)] at this ⊢
           rw [Nat.or_comm, this, hT]
           congr 2; omega
         obtain ⟨P, hP⟩ : ∃ P, P = x[i + 1] * 2 ^ 32 := ⟨_, rfl⟩
         rw [← hP] at t3 t4
         simp [c_fpref02_right_l0, g0, g1, g6, h2, h3, h3', u32, t1, t2, t3, t4, s1, e2, f0, f1', f4, f5, f6, e', lim]
         exact go
       · rw [dig_out h3] at hT
         have hT' : x[i] = T := by omega
         have h3' : ¬ (i : Int) + 1 < x.length := by omega
         rw [hT'] at t1
         simp [c_fpref02_right_l0, g0, g1, g6, h2, h3', u32, hT', t1, s1, e2, f1', f4, f5, f6, e', lim]
         exact go
     · have h2' : ¬ i < x.length := by omega
       simp [c_fpref02_right_l0, g0, g6, h2']
       obtain ⟨H3, hp3, e3⟩ := g5.prep (g := g_fpref02_trim) rfl
       refine WL_callH rfl rfl e3 (rtrim_cq o (by omega)) ?_
       have hv2 : natV o = natV x / 2 ^ s := by
         have := natV_lt lx
         rw [hv, Nat.mod_eq_of_lt]
         rw [show i = x.length by omega]
         exact Nat.lt_of_le_of_lt (Nat.div_le_self _ _) this
       rw [trimL_limbsOf lo, hv2]
       simp [take_pre hp3, lim]
 · have h1 : ((m.length : Int) ≤ q) := by omega
   rw [List.drop_of_length_le hge]
   simp [lim, q1, e1, h1, natV, limbsOf_zero]

end Go.Abs.W

/- The reference's dyadic numbers. -/
namespace Go.Abs.W

def Dy.of (neg : Bool) (n : Nat) (e : Int) : Dy := if n = 0 then ⟨false, [], 0⟩ else ⟨neg, limbsOf (n / 2 ^ tz n), e + tz n⟩

theorem natV_bound {m : List Nat} (lm : Li m) (h : natV m ≠ 0) : tz (natV m) < 32 * m.length := by
 have h1 := tz_le h
 have h2 := natV_lt lm
 rw [pow32] at h2
 exact (Nat.pow_lt_pow_iff_right (by omega : 1 < 2)).1 (Nat.lt_of_le_of_lt h1 h2)

set_option maxHeartbeats 1000000 in
theorem Of_cq (neg : Bool) (m : List Nat) (e : Int) (hm : m.length ≤ 100000) (lm : Li m) (he1 : -1000000 ≤ e) (he2 : e ≤ 1000000) : CQ prog g_fpref02_Of [.bool neg, lim m, .int .i64 e] (Dy.of neg (natV m) e).v := by
 refine CQ_run rfl fun H => ?_
 simp
 refine WL_call rfl rfl rfl (rtrim_cq m (by omega)) ?_
 rw [trimL_limbsOf lm]
 by_cases h0 : natV m = 0
 · simp [h0, limbsOf_zero, lim, Dy.of]
 · obtain ⟨x, hx⟩ : ∃ x, x = limbsOf (natV m) := ⟨_, rfl⟩
   have hxv : natV x = natV m := by rw [hx, natV_limbsOf]
   have lx : Li x := by rw [hx]; exact li_limbsOf _
   have hxl : x.length ≤ m.length := by rw [hx]; exact limbsOf_len.2 (natV_lt lm)
   have hne : x ≠ [] := by rw [hx]; exact limbsOf_ne h0
   have hl : ¬ (x.length : Int) = 0 := by
     intro h; exact hne (List.eq_nil_of_length_eq_zero (by omega))
   have hb := natV_bound lx (by rw [hxv]; exact h0)
   have f1 : IntKind.i64.wrap (e + (tz (natV m) : Int)) = e + tz (natV m) := by rw [hxv] at hb; rw [wrap_i64] <;> omega
   rw [← hx]
   simp [lim, hne]
   refine WL_call rfl rfl rfl (zeros_cq x (by omega) lx (by rw [hxv]; exact h0)) ?_
   simp
   refine WL_call rfl rfl rfl (right_cq x (tz (natV x)) (by omega) lx (by omega)) ?_
   rw [hxv]
   simp [f1, Dy.of, h0, lim]

def Dy.neg' (d : Dy) : Dy := ⟨!d.neg && decide (d.m ≠ []), d.m, d.e⟩

theorem Neg_cq (d : Dy) : CQ prog g_fpref02_Neg [d.v] d.neg'.v := by
 refine CQ_run rfl fun H => ?_
 simp [lim, Dy.neg']
 all_goals first | done | grind

theorem RSign_cq (d : Dy) : CQ prog g_fpref02_Sign [d.v] (.int .i64 d.sgn) := by
 refine CQ_run rfl fun H => ?_
 simp [lim, Dy.sgn]
 grind

def sumX (d : Dy) (e : Int) : Nat := natV d.m * 2 ^ (d.e - e).toNat
def Dy.sum (a b : Dy) : Dy :=
 if a.m = [] then b else if b.m = [] then a else
 let e := min a.e b.e
 if a.neg = b.neg then Dy.of a.neg (sumX a e + sumX b e) e
 else if sumX b e ≤ sumX a e then Dy.of a.neg (sumX a e - sumX b e) e else Dy.of b.neg (sumX b e - sumX a e) e

theorem limbs_len {d : Dy} (h : d.m.length ≤ 600) {k : Nat} (hk : k ≤ 100000) (li : Li d.m) : (limbsOf (natV d.m * 2 ^ k)).length ≤ 4000 := by
 have h1 := natV_lt li
 rw [pow32] at h1
 refine limbs_bits (B := 32 * d.m.length + k) ?_ (by omega)
 rw [Nat.pow_add]
 exact Nat.mul_lt_mul_of_pos_right h1 (Nat.two_pow_pos k)

structure Dy.M (d : Dy) : Prop where
 li : Li d.m
 len : d.m.length ≤ 600
 lo : -20000 ≤ d.e
 hi : d.e ≤ 20000

theorem Dy.Ok.toM {d : Dy} (h : d.Ok) : d.M := ⟨h.li, by have := h.len; omega, by have := h.elo; omega, by have := h.ehi; omega⟩

set_option maxHeartbeats 2000000 in
theorem Sum_cq (a b : Dy) (ma : a.M) (mb : b.M) : CQ prog g_fpref02_Sum [a.v, b.v] (a.sum b).v := by
 refine CQ_run rfl fun H => ?_
 by_cases na : a.m = []
 · simp [lim, na, Dy.sum]
 by_cases nb : b.m = []
 · have h1 : ¬ (a.m.length : Int) = 0 := by intro h; exact na (List.eq_nil_of_length_eq_zero (by omega))
   simp [lim, na, nb, Dy.sum]
 have h1 : ¬ (a.m.length : Int) = 0 := by intro h; exact na (List.eq_nil_of_length_eq_zero (by omega))
 have h2 : ¬ (b.m.length : Int) = 0 := by intro h; exact nb (List.eq_nil_of_length_eq_zero (by omega))
 have h3 := ma.lo; have h4 := ma.hi; have h5 := mb.lo; have h6 := mb.hi
 obtain ⟨e, he⟩ : ∃ e, e = min a.e b.e := ⟨_, rfl⟩
 have he' : (if b.e < a.e then b.e else a.e) = e := by rw [he]; split <;> omega
 obtain ⟨i, hi⟩ : ∃ i, i = (a.e - e).toNat := ⟨_, rfl⟩
 obtain ⟨j, hj⟩ : ∃ j, j = (b.e - e).toNat := ⟨_, rfl⟩
 have f1 : IntKind.i64.wrap (a.e - e) = i := by rw [wrap_i64] <;> omega
 have f2 : IntKind.i64.wrap (b.e - e) = j := by rw [wrap_i64] <;> omega
 have hX : sumX a e = natV a.m * 2 ^ i := by rw [sumX, ← hi]
 have hY : sumX b e = natV b.m * 2 ^ j := by rw [sumX, ← hj]
 unfold Dy.sum
 rw [if_neg na, if_neg nb]
 simp only [← he, hX, hY]
 have lX := limbs_len (d := a) ma.len (k := i) (by omega) ma.li
 have lY := limbs_len (d := b) mb.len (k := j) (by omega) mb.li
 simp [lim, na, nb, he', f1]
 refine WL_call rfl rfl rfl (left_cq a.m i (by have := ma.len; omega) ma.li (by omega)) ?_
 simp [f2]
 refine WL_call rfl rfl rfl (left_cq b.m j (by have := mb.len; omega) mb.li (by omega)) ?_
 generalize natV a.m * 2 ^ i = X at *
 generalize natV b.m * 2 ^ j = Y at *
 simp
 refine ⟨fun hs => ?_, fun hs => ?_⟩
 · refine WL_call rfl rfl rfl (plus_cq (limbsOf X) (limbsOf Y) (by omega) (by omega) (li_limbsOf _) (li_limbsOf _)) ?_
   simp [natV_limbsOf]
   refine WL_call rfl rfl rfl (Of_cq a.neg (limbsOf (X + Y)) e ?_ (li_limbsOf _) (by omega) (by omega)) ?_
   · have := limbs_add lX lY
     omega
   · simp [hs, natV_limbsOf, lim]
 · refine WL_call rfl rfl rfl (rcompare_cq (limbsOf X) (limbsOf Y) (by omega) (li_limbsOf _) (li_limbsOf _) (.inr ⟨trim_limbsOf _, trim_limbsOf _⟩)) ?_
   simp [natV_limbsOf, hs]
   have hc : (0 : Int) ≤ cmpN X Y ↔ Y ≤ X := by unfold cmpN; split <;> (try split) <;> omega
   refine ⟨fun h => ?_, fun h => ?_⟩
   · have h' : Y ≤ X := hc.1 h
     have hlen : (limbsOf Y).length ≤ (limbsOf X).length := by
       refine limbsOf_len.2 (Nat.lt_of_le_of_lt h' ?_)
       have := natV_lt (li_limbsOf X); rwa [natV_limbsOf] at this
     refine WL_call rfl rfl rfl (minus_cq (limbsOf X) (limbsOf Y) (by omega) hlen (li_limbsOf _) (li_limbsOf _) (by rw [natV_limbsOf, natV_limbsOf]; exact h')) ?_
     simp [natV_limbsOf]
     refine WL_call rfl rfl rfl (Of_cq a.neg (limbsOf (X - Y)) e ?_ (li_limbsOf _) (by omega) (by omega)) ?_
     · have : (limbsOf (X - Y)).length ≤ 4000 := limbs_mono (Nat.sub_le X Y) lX
       omega
     · simp [natV_limbsOf, h', lim]
   · have h' : ¬ Y ≤ X := fun h' => by have := hc.2 h'; omega
     have hlen : (limbsOf X).length ≤ (limbsOf Y).length := by
       have := natV_lt (li_limbsOf Y)
       rw [natV_limbsOf] at this
       exact limbsOf_len.2 (by omega)
     refine WL_call rfl rfl rfl (minus_cq (limbsOf Y) (limbsOf X) (by omega) hlen (li_limbsOf _) (li_limbsOf _) (by rw [natV_limbsOf, natV_limbsOf]; omega)) ?_
     simp [natV_limbsOf]
     refine WL_call rfl rfl rfl (Of_cq b.neg (limbsOf (Y - X)) e ?_ (li_limbsOf _) (by omega) (by omega)) ?_
     · have : (limbsOf (Y - X)).length ≤ 4000 := limbs_mono (Nat.sub_le Y X) lY
       omega
     · simp [natV_limbsOf, h', lim]

end Go.Abs.W

/- The reference: valid numbers, comparing. -/
namespace Go.Abs.W

theorem rbits_trim (m : List Nat) (hm : m.length ≤ 1000000) (lm : Li m) (tm : Trim m) : CQ prog g_fpref02_bits [lim m] (.int .i64 (bitL (natV m))) := by
 rcases snoc_cases m with rfl | ⟨l, t, rfl⟩
 · exact rbits_nil
 · have := rbits_cq l t (by simp at hm; omega) (lm t (by simp))
   rwa [← bitL_top (fun y hy => lm y (by simp [hy])) (tm t (by simp))] at this

theorem RTopG_cq (d : Dy) (h : d.G) (m : d.M) : CQ prog g_fpref02_Top [d.v] (.int .i64 d.top) := by
 refine CQ_run rfl fun H => ?_
 by_cases hm : d.m = []
 · simp [lim, hm, Dy.top]
 · have h1 : ¬ (d.m.length : Int) = 0 := by intro h; exact hm (List.eq_nil_of_length_eq_zero (by omega))
   have h2 := m.len; have h3 := m.lo; have h4 := m.hi
   have h5 : bitL (natV d.m) ≤ 32 * d.m.length := by
     have hl := natV_lt h.li
     rw [pow32] at hl
     rcases Nat.lt_or_ge (32 * d.m.length) (bitL (natV d.m)) with h6 | h6
     · exfalso
       by_cases h0 : natV d.m = 0
       · rw [h0] at h6
         have z : bitL 0 = 0 := rfl
         omega
       · have hp := (bitL_pow h0).1
         have := Nat.pow_le_pow_right (n := 2) (by omega) (show 32 * d.m.length ≤ bitL (natV d.m) - 1 by omega)
         omega
     · exact h6
   have e1 : IntKind.i64.wrap ((bitL (natV d.m) : Int) + d.e) = bitL (natV d.m) + d.e := by rw [wrap_i64] <;> omega
   simp [lim, hm]
   refine WL_call rfl rfl rfl (rbits_trim d.m (by omega) h.li h.tr) ?_
   simp [Dy.top, hm, e1]

set_option maxHeartbeats 1000000 in
theorem RValid_cq (d : Dy) (w : d.W) : CQ prog g_fpref02_Valid [d.v] (.bool d.valid) := by
 refine CQ_run rfl fun H => ?_
 rcases d with ⟨neg, m, e⟩
 have la := w.li
 have ha := w.len
 simp only at la ha
 rcases m with _ | ⟨x, l⟩
 · simp [lim, Dy.valid]
   grind
 · have hx : x < 4294967296 := la x (by simp)
   have e1 : ((l.length : Int) + 1 ≠ 0) := by omega
   have e2 := bitsI_one32 x hx
   obtain ⟨y, hy⟩ : ∃ y, y = x % 2 := ⟨_, rfl⟩
   obtain ⟨t, ht⟩ : ∃ t, t = (x :: l).getLast (by simp) := ⟨_, rfl⟩
   simp at ha
   have e3 : IntKind.i64.wrap (l.length : Int) = l.length := by rw [wrap_i64] <;> omega
   have e4 : (x :: l)[l.length]? = some t := by rw [ht, List.getLast_eq_getElem]; simp
   have e7 : ((V.int IntKind.u32 (x : Int)) :: List.map u32 l)[l.length]'(by simp) = .int .u32 t := by
     have := congrArg (Option.map u32) e4
     rw [← List.getElem?_map] at this
     have e5 : ((V.int IntKind.u32 (x : Int)) :: List.map u32 l)[l.length]? = some (.int .u32 t) := this
     rw [List.getElem?_eq_getElem (by simp)] at e5; injection e5
   rw [← hy] at e2
   have hv : Dy.valid ⟨neg, x :: l, e⟩ = (decide (l.length + 1 ≤ 256) && decide (y = 1) && decide (t ≠ 0) && Dy.inR ⟨neg, x :: l, e⟩) := by
     simp [Dy.valid, hy, ht]
   rw [hv]
   have hy1 : y = 0 ∨ y = 1 := by omega
   by_cases h256 : 256 < l.length + 1
   · have h256' : (256 : Int) < (l.length : Int) + 1 := by omega
     have h256'' : ¬ l.length + 1 ≤ 256 := by omega
     have h3 : ¬ l.length ≤ 255 := by omega
     simp [lim, u32, e1, h256', h256'']
   by_cases ht0 : t = 0
   · subst ht0
     simp [lim, u32, e1, e3, e7]
   · have ht0' : ¬ (t : Int) = 0 := by omega
     have tr : Trim (x :: l) := by
       intro z hz
       rw [List.getLast?_eq_some_getLast (by simp)] at hz
       injection hz with hz
       rw [← hz, ← ht]; exact ht0
     have hb0 : bitL (natV (x :: l)) ≠ 0 := by
       have := (bitL_pow (natV_ne tr (by simp))).2.2; omega
     simp [lim, u32, e1, e2, e3, e7, ht0]
     have hin : Dy.inR ⟨neg, x :: l, e⟩ = (decide (bitL (natV (x :: l)) ≤ 4096) && decide (-16384 ≤ e) && decide (e ≤ 16384) && decide (bitL (natV (x :: l)) + e ≤ 16384)) := by
       simp [Dy.inR, hb0]
     rw [hin]
     have e8 : bitL (natV (x :: l)) ≤ 4096 → -16384 ≤ e → e ≤ 16384 → IntKind.i64.wrap ((bitL (natV (x :: l)) : Int) + e) = bitL (natV (x :: l)) + e := by intros; rw [wrap_i64] <;> omega
     have hr := rbits_trim (x :: l) (by simp; omega) la tr
     generalize bitL (natV (x :: l)) = B at *
     repeat' first
       | (refine WL_call rfl rfl rfl hr ?_; simp)
       | refine And.intro ?_ ?_
       | intro _
     all_goals first | (simp [*]; done) | grind

theorem of_sgn {neg : Bool} {n : Nat} {e : Int} : (Dy.of neg n e).sgn = if n = 0 then 0 else if neg then -1 else 1 := by
 unfold Dy.of
 by_cases h : n = 0
 · simp [h, Dy.sgn]
 · have h1 := tz_le h
   have h2 : n / 2 ^ tz n ≠ 0 := by
     have := (Nat.le_div_iff_mul_le (Nat.two_pow_pos (tz n)) (x := 1) (y := n)).2 (by omega)
     omega
   simp [h, Dy.sgn, limbsOf_ne h2]

theorem sum_sgn {a b : Dy} (oa : a.G) (ob : b.G) (na : a.m ≠ []) (nb : b.m ≠ []) (hneg : a.neg = b.neg) : (a.sum b.neg').sgn = b.sgn * cmpN a.absN b.absN := by
 have h3 := oa.elo; have h5 := ob.elo
 obtain ⟨e, he⟩ : ∃ e, e = min a.e b.e := ⟨_, rfl⟩
 have hA : a.absN = sumX a e * 2 ^ (e + 16384).toNat := absN_shift (by omega) (by omega)
 have hB : b.absN = sumX b e * 2 ^ (e + 16384).toNat := absN_shift (by omega) (by omega)
 have hB' : sumX b.neg' e = sumX b e := rfl
 rw [hA, hB, cmpN_scale (Nat.two_pow_pos _)]
 have hne : ¬ a.neg = b.neg'.neg := by simp [Dy.neg', nb, hneg]
 unfold Dy.sum
 rw [if_neg na, if_neg (show ¬ b.neg'.m = [] from nb)]
 simp only [show b.neg'.e = b.e from rfl, ← he, if_neg hne, hB']
 have hbn : b.neg'.neg = !b.neg := by simp [Dy.neg', nb]
 have hs : b.sgn = if b.neg then -1 else 1 := by simp [Dy.sgn, nb]
 rw [hs]
 generalize sumX a e = X at *
 generalize sumX b e = Y at *
 rcases Nat.lt_trichotomy X Y with h | h | h
 · have h1 : ¬ Y ≤ X := by omega
   have h2 : ¬ Y - X = 0 := by omega
   rw [if_neg h1, of_sgn, hbn, if_neg h2]
   simp only [cmpN, if_pos h]
   cases b.neg <;> simp
 · subst h
   rw [if_pos (Nat.le_refl _), of_sgn, if_pos (by omega)]
   simp [cmpN]
 · have h1 : Y ≤ X := by omega
   have h2 : ¬ X - Y = 0 := by omega
   have h3 : ¬ X < Y := by omega
   rw [if_pos h1, of_sgn, hneg, if_neg h2]
   simp [cmpN, if_neg h3, h]

set_option maxHeartbeats 1000000 in
theorem RCmpG_cq (a b : Dy) (oa : a.G) (ob : b.G) (ma : a.M) (mb : b.M) : CQ prog g_fpref02_Cmp [a.v, b.v] (.int .i64 (cmpI a.val b.val)) := by
 refine CQ_run rfl fun H => ?_
 rw [val_cmpG oa ob]
 simp
 refine WL_call rfl rfl rfl (RSign_cq a) ?_
 simp
 refine WL_call rfl rfl rfl (RSign_cq b) ?_
 by_cases hne : a.sgn = b.sgn
 · have n1 : ¬ a.sgn < b.sgn := by omega
   have n2 : ¬ b.sgn < a.sgn := by omega
   simp [hne]
   by_cases h0 : b.sgn = 0
   · simp [h0]
   · have na : a.m ≠ [] := fun h => h0 (by rw [← hne]; simp [Dy.sgn, h])
     have nb : b.m ≠ [] := fun h => h0 (by simp [Dy.sgn, h])
     have hneg : a.neg = b.neg := by
       unfold Dy.sgn at hne; rw [if_neg na, if_neg nb] at hne
       cases ha : a.neg <;> cases hb : b.neg <;> simp [ha, hb] at hne ⊢
     simp [h0]
     refine WL_call rfl rfl rfl (RTopG_cq a oa ma) ?_
     simp
     refine WL_call rfl rfl rfl (RTopG_cq b ob mb) ?_
     simp
     by_cases ht : a.top = b.top
     · simp [ht]
       refine WL_call rfl rfl rfl (Neg_cq b) ?_
       simp
       refine WL_call rfl rfl rfl (Sum_cq a b.neg' ma ⟨mb.li, mb.len, mb.lo, mb.hi⟩) ?_
       simp
       refine WL_call rfl rfl rfl (RSign_cq _) ?_
       simp
       exact sum_sgn oa ob na nb hneg
     · simp [ht]
       refine WL_call rfl rfl rfl (RTopG_cq a oa ma) ?_
       simp
       refine WL_call rfl rfl rfl (RTopG_cq b ob mb) ?_
       simp
       have hs : b.sgn = 1 ∨ b.sgn = -1 := by unfold Dy.sgn; rw [if_neg nb]; split <;> simp
       have key : (a.top < b.top ∧ cmpN a.absN b.absN = -1) ∨ (¬ a.top < b.top ∧ cmpN a.absN b.absN = 1) := by
         rcases Int.lt_or_gt_of_ne ht with h | h
         · have := absN_top_ltG oa ob na nb h
           exact .inl ⟨h, by simp [cmpN, this]⟩
         · have := absN_top_ltG ob oa nb na h
           exact .inr ⟨by omega, by simp [cmpN, this]; omega⟩
       rcases hs with hs | hs <;> rcases key with ⟨k1, k2⟩ | ⟨k1, k2⟩ <;> simp [hs, k1, k2]
 · simp [hne]
   grind

theorem RCmp_cq (a b : Dy) (oa : a.Ok) (ob : b.Ok) : CQ prog g_fpref02_Cmp [a.v, b.v] (.int .i64 (a.cmp b)) := by
 have hcmp : a.cmp b = cmpI a.val b.val := by simp [Dy.cmp, oa.valid, ob.valid]
 rw [hcmp]
 exact RCmpG_cq a b oa.toG ob.toG oa.toM ob.toM

theorem natV_inj_len : ∀ {a b : List Nat}, Li a → Li b → a.length = b.length → natV a = natV b → a = b
 | [], [], _, _, _, _ => rfl
 | [], _ :: _, _, _, h, _ => by simp at h
 | _ :: _, [], _, _, h, _ => by simp at h
 | x :: l, y :: m, la, lb, h, e => by
   simp only [natV] at e
   have h1 := la.cons.1
   have h2 := lb.cons.1
   have : x = y := by omega
   rw [this, natV_inj_len la.cons.2 lb.cons.2 (by simpa using h) (by omega)]

theorem REqual_cq (a b : Dy) (wa : a.W) (wb : b.W) : CQ prog g_fpref02_Equal [a.v, b.v] (.bool (decide (a = b))) := by
 refine CQ_run rfl fun H => ?_
 have e : decide (a = b) = (decide (a.neg = b.neg) && decide (a.e = b.e) && decide (a.m = b.m)) := by
   cases a; cases b; simp [and_comm]
   grind
 rw [e]
 have hl : (a.m.length : Int) = b.m.length ↔ a.m.length = b.m.length := by omega
 by_cases hn : a.neg = b.neg
 · by_cases he : a.e = b.e
   · by_cases hm : a.m.length = b.m.length
     · simp [lim, hn, he, hm]
       refine WL_call rfl rfl rfl (rcompare_cq a.m b.m (by have := wa.len; omega) wa.li wb.li (.inl hm)) ?_
       simp [cmpN_zero]
       constructor
       · intro h
         exact natV_inj_len wa.li wb.li hm h
       · intro h; rw [h]
     · have hm' : ¬ (a.m.length : Int) = b.m.length := by omega
       have hm2 : ¬ a.m = b.m := fun h => hm (by rw [h])
       simp [lim, hn, he, hm', hm2]
   · simp [lim, hn, he]
 · simp [lim, hn]

end Go.Abs.W

/- EqualFunc and Clone on lists of intervals. -/
namespace Go.Abs.W
attribute [local simp] stpAppend

def allB {α : Type} (p : α → α → Bool) : List α → List α → Bool
 | x :: l, y :: m => p x y && allB p l m
 | _, _ => true

theorem allB_iff {α : Type} {p : α → α → Bool} : ∀ {l m : List α}, allB p l m = true ↔ ∀ (i : Nat) (x y : α), l[i]? = some x → m[i]? = some y → p x y = true
 | [], m => by simp [allB]
 | x :: l, [] => by simp [allB]
 | x :: l, y :: m => by
   simp only [allB, Bool.and_eq_true, allB_iff]
   constructor
   · rintro ⟨h1, h2⟩ i a b ha hb
     cases i with
     | zero => simp at ha hb; subst ha; subst hb; exact h1
     | succ i => exact h2 i a b (by simpa using ha) (by simpa using hb)
   · intro h
     exact ⟨h 0 x y rfl rfl, fun i a b ha hb => h (i + 1) a b (by simpa using ha) (by simpa using hb)⟩

set_option maxHeartbeats 1000000 in
theorem EqualIv_ev {H : Heap} {g : Nat} {caps : List V} {p : Iv → Iv → Bool} (l m : List Iv) (hl : l.length ≤ 9223372036854775807) (h : ∀ x ∈ l, ∀ y ∈ m, Cb H g caps [x.v, y.v] (.bool (p x y))) :
   Ev prog (.call g_slices_EqualFunc_Interval [ivs l, ivs m, .fn g caps] H) (.ret (.bool (decide (l.length = m.length) && allB p l m)) H) := by
 refine Ev_run rfl ?_
 simp [ivs]
 refine ⟨fun hne => by simp [show l.length ≠ m.length by omega], fun heq => ?_⟩
 replace heq : l.length = m.length := by omega
 refine WK_up (fun i E H' => H <+: H' ∧ E 1 = ivs m ∧ E 2 = .fn g caps ∧ E 15 = ivs l ∧ E 16 = .int .i64 l.length ∧ E 17 = .int .i64 i ∧ (∀ j x y, j < i → l[j]? = some x → m[j]? = some y → p x y = true)) l.length ?_ ?_
 · simp [ivs]
 · rintro i E H' hi ⟨hH, h1, h2, h15, h16, h17, hp⟩
   simp only [ivs] at h1 h15 ⊢
   rcases Nat.lt_or_ge i l.length with hlt | hge
   · have e2 : IntKind.i64.wrap ((i : Int) + 1) = ((i + 1 : Nat) : Int) := by rw [wrap_i64] <;> omega
     have hlt2 : i < m.length := by omega
     simp [c_slices_EqualFunc_Interval_l0, h1, h15, h16, h17, h2, hlt, hlt2]
     refine WL_cb (h l[i] (List.getElem_mem hlt) m[i] (List.getElem_mem hlt2)) (pre_app hH) rfl rfl ?_
     simp [h1, h15, h16, h17, h2, e2, take_pre (pre_app hH), pre_app hH]
     refine ⟨fun hpx _ => ?_, fun hpx j x y hj hx hy => ?_⟩
     · rw [Bool.eq_false_iff]
       intro ha
       rw [allB_iff] at ha
       rw [ha i _ _ (List.getElem?_eq_getElem hlt) (List.getElem?_eq_getElem hlt2)] at hpx
       cases hpx
     · rcases Nat.lt_or_ge j i with hji | hji
       · exact hp j x y hji hx hy
       · have : j = i := by omega
         subst this
         rw [List.getElem?_eq_getElem hlt] at hx; rw [List.getElem?_eq_getElem hlt2] at hy
         injection hx with hx; injection hy with hy; rw [← hx, ← hy]; exact hpx
   · have hin : i = l.length := by omega
     subst hin
     have e1 : allB p l m = true := by
       rw [allB_iff]
       intro j x y hx hy
       exact hp j x y (List.getElem?_eq_some_iff.1 hx).1 hx hy
     simp [c_slices_EqualFunc_Interval_l0, h16, h17, e1, heq, take_pre hH]

theorem Clone_nil : CQ prog g_slices_Clone_Interval [.nil] (ivs []) := by
 refine CQ_run rfl fun H => ?_
 simp [ivs]
theorem Clone_emp : CQ prog g_slices_Clone_Interval [.emp] (ivs []) := by
 refine CQ_run rfl fun H => ?_
 simp [ivs]

theorem Clone_cq (l : List Iv) (hl : l.length ≤ 1000000000) : CQ prog g_slices_Clone_Interval [ivs l] (ivs l) := by
 cases l with
 | nil => exact CQ_emp (pre := []) (post := []) Clone_nil Clone_emp
 | cons x l =>
   refine CQ_run rfl fun H => ?_
   simp at hl
   have e1 : (l.length + 1) * 88 ≤ 140737488355328 := by omega
   simp [ivs, e1]
   exact List.take_of_length_le (by simp)

end Go.Abs.W

/- Intervals and boxes: what the program's functions compute. -/
namespace Go.Abs.W

def Dy.zero : Dy := ⟨false, [], 0⟩
def Dy.isZ (d : Dy) : Bool := !d.neg && decide (d.m = []) && decide (d.e = 0)
def Iv.valid (x : Iv) : Bool := if x.all then x.lo.isZ && x.hi.isZ else x.lo.valid && x.hi.valid && decide (x.lo.cmp x.hi ≤ 0)
structure Iv.W (x : Iv) : Prop where
 lo : x.lo.W
 hi : x.hi.W
def Iv.ins (x y : Iv) : Bool := x.valid && y.valid && (y.all || (!x.all && decide (y.lo.cmp x.lo ≤ 0) && decide (x.hi.cmp y.hi ≤ 0)))
theorem isZ_cq (d : Dy) : CQ prog g_interval_Valid_1 [d.v] (.bool d.isZ) := by
 refine CQ_run rfl fun H => ?_
 simp [lim, Dy.isZ]
 grind

theorem IValid_cq (x : Iv) (w : x.W) : CQ prog g_interval_Valid [x.v] (.bool x.valid) := by
 refine CQ_run rfl fun H => ?_
 simp
 repeat' first
   | (refine WL_call rfl rfl rfl (isZ_cq x.lo) ?_; simp)
   | (refine WL_call rfl rfl rfl (isZ_cq x.hi) ?_; simp)
   | (refine WL_call rfl rfl rfl (Valid_cq x.lo w.lo.len w.lo.li) ?_; simp)
   | (refine WL_call rfl rfl rfl (Valid_cq x.hi w.hi.len w.hi.li) ?_; simp)
   | (refine WL_call rfl rfl rfl (DCmp_cq x.lo x.hi w.lo w.hi) ?_; simp)
   | refine And.intro ?_ ?_
   | intro _
 all_goals first | (simp [Iv.valid, *]; done) | (simp [Iv.valid, *]; grind) | grind [Iv.valid]

set_option maxHeartbeats 1000000 in
theorem IInside_cq (x y : Iv) (wx : x.W) (wy : y.W) : CQ prog g_interval_Inside [x.v, y.v] (.bool (x.ins y)) := by
 refine CQ_run rfl fun H => ?_
 simp
 repeat' first
   | (refine WL_call rfl rfl rfl (IValid_cq x wx) ?_; simp)
   | (refine WL_call rfl rfl rfl (IValid_cq y wy) ?_; simp)
   | (refine WL_call rfl rfl rfl (DCmp_cq y.lo x.lo wy.lo wx.lo) ?_; simp)
   | (refine WL_call rfl rfl rfl (DCmp_cq x.hi y.hi wx.hi wy.hi) ?_; simp)
   | refine And.intro ?_ ?_
   | intro _
 all_goals first | (simp [Iv.ins, *]; done) | (simp [Iv.ins, *]; grind) | grind [Iv.ins]

end Go.Abs.W

/- Boxes: what the program's functions compute. -/
namespace Go.Abs.W

structure BxW (l : List Iv) : Prop where
 len : l.length ≤ 100000000
 all : ∀ x ∈ l, x.W
def boxOk (l : List Iv) : Bool := decide (1 ≤ l.length) && decide (l.length ≤ 8) && l.all fun x => !x.all && x.valid
def boxIns (a b : List Iv) : Bool := boxOk a && boxOk b && decide (a.length = b.length) && allB Iv.ins a b

theorem BV1_cq (x : Iv) (w : x.W) : CQ prog g_box_Valid_1 [x.v] (.bool (x.all || !x.valid)) := by
 refine CQ_run rfl fun H => ?_
 simp
 repeat' first
   | (refine WL_call rfl rfl rfl (IValid_cq x w) ?_; simp)
   | refine And.intro ?_ ?_
   | intro _
 all_goals first | (simp [*]; done) | (simp [*]; grind) | grind

theorem BValid_cq (l : List Iv) (w : BxW l) : CQ prog g_box_Valid [ivs l] (.bool (boxOk l)) := by
 refine CQ_run rfl fun H => ?_
 have hl := w.len
 have hq : (l.any fun x => x.all || !x.valid) = !(l.all fun x => !x.all && x.valid) := by simp [List.not_all_eq_any_not]
 unfold boxOk
 generalize l.all (fun x => !x.all && x.valid) = c at *
 simp [ivs]
 repeat' first
   | (refine WL_ev rfl rfl rfl (ContainsIv_ev l (by omega) fun x hx => Cb_of (fun _ => rfl) (BV1_cq x (w.all x hx))) ?_; simp [hq])
   | refine And.intro ?_ ?_
   | intro _
 all_goals first | (simp [*]; done) | (simp [*]; grind) | grind

theorem two_cq (a b : List Iv) (wa : BxW a) (wb : BxW b) : CQ prog g_box_two [ivs a, ivs b] (.bool (boxOk a && boxOk b && decide (a.length = b.length))) := by
 refine CQ_run rfl fun H => ?_
 simp
 repeat' first
   | (refine WL_call rfl rfl rfl (BValid_cq a wa) ?_; simp [ivs])
   | (refine WL_call rfl rfl rfl (BValid_cq b wb) ?_; simp)
   | refine And.intro ?_ ?_
   | intro _
 all_goals first | (simp [*]; done) | (simp [*]; grind) | grind

theorem BInside_cq (a b : List Iv) (wa : BxW a) (wb : BxW b) : CQ prog g_box_Inside [ivs a, ivs b] (.bool (boxIns a b)) := by
 refine CQ_run rfl fun H => ?_
 have hl := wa.len
 have hl2 := wb.len
 simp
 repeat' first
   | (refine WL_call rfl rfl rfl (two_cq a b wa wb) ?_; simp)
   | (refine WL_ev rfl rfl rfl (EqualIv_ev a b (by omega) fun x hx y hy => Cb_of (fun _ => rfl) (IInside_cq x y (wa.all x hx) (wb.all y hy))) ?_; simp)
   | refine And.intro ?_ ?_
   | intro _
 all_goals first | (simp [boxIns, *]; done) | (simp [boxIns, *]; grind) | grind [boxIns]

end Go.Abs.W

/- The reference's intervals and boxes. -/
namespace Go.Abs.W

theorem cmpI_anti (a b : Int) : cmpI a b = - cmpI b a := by
 unfold cmpI; repeat' split
 all_goals omega
theorem cmp_anti (a b : Dy) : a.cmp b = - b.cmp a := by
 unfold Dy.cmp
 rw [Bool.and_comm, cmpI_anti]
 split <;> simp
theorem cmp_val {a b : Dy} (ha : a.valid = true) (hb : b.valid = true) : a.cmp b = cmpI a.val b.val := by simp [Dy.cmp, ha, hb]
theorem cmpI_neg_iff {a b : Int} : cmpI a b < 0 ↔ a < b := by
 unfold cmpI; repeat' split
 all_goals omega
theorem cmpI_le_iff {a b : Int} : cmpI a b ≤ 0 ↔ a ≤ b := by
 unfold cmpI; repeat' split
 all_goals omega
theorem cmpI_zero_iff {a b : Int} : cmpI a b = 0 ↔ a = b := by
 unfold cmpI; repeat' split
 all_goals omega
theorem cmp_zero {a b : Dy} (oa : a.Ok) (ob : b.Ok) : a.cmp b = 0 ↔ a = b := by
 rw [cmp_val oa.valid ob.valid, cmpI_zero_iff]
 exact ⟨val_inj oa ob, fun h => by rw [h]⟩

theorem Iv.W.okLo {x : Iv} (w : x.W) (hv : x.valid = true) (ha : x.all = false) : x.lo.Ok := by
 simp [Iv.valid, ha] at hv; exact Dy.Ok.of w.lo.li hv.1.1
theorem Iv.W.okHi {x : Iv} (w : x.W) (hv : x.valid = true) (ha : x.all = false) : x.hi.Ok := by
 simp [Iv.valid, ha] at hv; exact Dy.Ok.of w.hi.li hv.1.2

theorem RisZ_cq (d : Dy) : CQ prog g_fpref05_zero [d.v] (.bool d.isZ) := by
 refine CQ_run rfl fun H => ?_
 simp [lim, Dy.isZ]
 grind

theorem RIValid_cq (x : Iv) (w : x.W) : CQ prog g_fpref05_Valid [x.v] (.bool x.valid) := by
 refine CQ_run rfl fun H => ?_
 simp
 repeat' first
   | (refine WL_call rfl rfl rfl (RisZ_cq x.lo) ?_; simp)
   | (refine WL_call rfl rfl rfl (RisZ_cq x.hi) ?_; simp)
   | (refine WL_call rfl rfl rfl (RValid_cq x.lo w.lo) ?_; simp)
   | (refine WL_call rfl rfl rfl (RValid_cq x.hi w.hi) ?_; simp)
   | (refine WL_call rfl rfl rfl (RCmp_cq x.lo x.hi (Dy.Ok.of w.lo.li (by assumption)) (Dy.Ok.of w.hi.li (by assumption))) ?_; simp)
   | refine And.intro ?_ ?_
   | intro _
 all_goals first | (simp [Iv.valid, *]; done) | (simp [Iv.valid, *]; grind) | grind [Iv.valid]

set_option maxHeartbeats 1000000 in
theorem RIInside_cq (x y : Iv) (wx : x.W) (wy : y.W) : CQ prog g_fpref05_Inside [x.v, y.v] (.bool (x.ins y)) := by
 refine CQ_run rfl fun H => ?_
 simp
 repeat' first
   | (refine WL_call rfl rfl rfl (RIValid_cq x wx) ?_; simp [*])
   | (refine WL_call rfl rfl rfl (RIValid_cq y wy) ?_; simp [*])
   | (refine WL_call rfl rfl rfl (RCmp_cq y.lo x.lo (wy.okLo (by assumption) (by assumption)) (wx.okLo (by assumption) (by assumption))) ?_; simp)
   | (refine WL_call rfl rfl rfl (RCmp_cq x.hi y.hi (wx.okHi (by assumption) (by assumption)) (wy.okHi (by assumption) (by assumption))) ?_; simp)
   | refine And.intro ?_ ?_
   | intro _
 all_goals first | (simp [Iv.ins, *]; done) | (simp [Iv.ins, *]; grind) | grind [Iv.ins]

theorem RIEqual_cq (x y : Iv) (wx : x.W) (wy : y.W) : CQ prog g_fpref05_Equal [x.v, y.v] (.bool (decide (x = y))) := by
 refine CQ_run rfl fun H => ?_
 have e : decide (x = y) = (decide (x.all = y.all) && decide (x.lo = y.lo) && decide (x.hi = y.hi)) := by
   cases x; cases y; simp; grind
 rw [e]
 simp
 repeat' first
   | (refine WL_call rfl rfl rfl (REqual_cq x.lo y.lo wx.lo wy.lo) ?_; simp [*])
   | (refine WL_call rfl rfl rfl (REqual_cq x.hi y.hi wx.hi wy.hi) ?_; simp [*])
   | refine And.intro ?_ ?_
   | intro _
 all_goals first | (simp [*]; done) | (simp [*]; grind) | grind

end Go.Abs.W

/- The reference: boxes. -/
namespace Go.Abs.W

set_option maxHeartbeats 1000000 in
theorem RBox_cq (l : List Iv) (w : BxW l) : CQ prog g_fpref37_Box [ivs l] (.bool (boxOk l)) := by
 refine CQ_run rfl fun H => ?_
 have hl := w.len
 simp [ivs]
 refine WK_up (fun i E H' => H' = H ∧ E 0 = ivs l ∧ E 3 = .int .i64 i ∧ (∀ j x, j < i → l[j]? = some x → (!x.all && x.valid) = true)) l.length ?_ ?_
 · simp [ivs]
 · rintro i E H' hi ⟨rfl, h0, h3, hp⟩
   simp only [ivs] at h0 ⊢
   rcases Nat.lt_or_ge i l.length with hlt | hge
   · have e2 : IntKind.i64.wrap ((i : Int) + 1) = ((i + 1 : Nat) : Int) := by rw [wrap_i64] <;> omega
     have wx := w.all l[i] (List.getElem_mem hlt)
     have no : (!l[i].all && l[i].valid) = false → boxOk l = false := by
       intro h
       unfold boxOk
       rw [show (l.all fun x => !x.all && x.valid) = false from ?_]
       · simp
       · rw [Bool.eq_false_iff]; intro h'
         rw [List.all_eq_true.1 h' _ (List.getElem_mem hlt)] at h
         cases h
     have nx : (!l[i].all && l[i].valid) = true → ∀ (j : Nat) (x : Iv), j < i + 1 → l[j]? = some x → (!x.all && x.valid) = true := by
       intro h j x hj hx
       rcases Nat.lt_or_ge j i with hji | hji
       · exact hp j x hji hx
       · have : j = i := by omega
         subst this
         rw [List.getElem?_eq_getElem hlt] at hx; injection hx with hx; rw [← hx]; exact h
     simp [c_fpref37_Box_l0, h0, h3, hlt]
     refine WL_call rfl rfl rfl (RIValid_cq l[i] wx) ?_
     simp [h0, h3, hlt, e2]
     cases hv : l[i].valid <;> cases ha : l[i].all
     all_goals simp [hv, ha] at no nx ⊢
     all_goals first | exact no | exact fun j x hj hx => nx j x hj hx | trace_state
   · have hin : i = l.length := by omega
     subst hin
     have e1 : (l.all fun x => !x.all && x.valid) = true := by
       rw [List.all_eq_true]
       intro x hx
       obtain ⟨j, hj, rfl⟩ := List.getElem_of_mem hx
       exact hp j _ hj (List.getElem?_eq_getElem _)
     simp [c_fpref37_Box_l0, h0, h3, boxOk, e1]
     grind

def boxIn (a b : List Iv) : Bool := decide (a.length = b.length) && allB Iv.ins a b

set_option maxHeartbeats 1000000 in
theorem RBInside_cq (l m : List Iv) (wl : BxW l) (wm : BxW m) : CQ prog g_fpref37_Inside [ivs l, ivs m] (.bool (boxIn l m)) := by
 refine CQ_run rfl fun H => ?_
 have hll := wl.len
 simp [ivs, boxIn]
 refine ⟨fun hne => by simp [show l.length ≠ m.length by omega], fun heq => ?_⟩
 replace heq : l.length = m.length := by omega
 refine WK_up (fun i E H' => H' = H ∧ E 0 = ivs l ∧ E 1 = ivs m ∧ E 5 = .int .i64 i ∧ (∀ j x y, j < i → l[j]? = some x → m[j]? = some y → x.ins y = true)) l.length ?_ ?_
 · simp [ivs]
 · rintro i E H' hi ⟨rfl, h0, h1, h5, hp⟩
   simp only [ivs] at h0 h1 ⊢
   rcases Nat.lt_or_ge i l.length with hlt | hge
   · have e2 : IntKind.i64.wrap ((i : Int) + 1) = ((i + 1 : Nat) : Int) := by rw [wrap_i64] <;> omega
     have hlt2 : i < m.length := by omega
     simp [c_fpref37_Inside_l0, h0, h1, h5, hlt, hlt2]
     refine WL_call rfl rfl rfl (RIInside_cq l[i] m[i] (wl.all _ (List.getElem_mem hlt)) (wm.all _ (List.getElem_mem hlt2))) ?_
     simp [h0, h1, h5, e2]
     refine ⟨fun hpx _ => ?_, fun hpx j x y hj hx hy => ?_⟩
     · rw [Bool.eq_false_iff]
       intro ha
       rw [allB_iff] at ha
       rw [ha i _ _ (List.getElem?_eq_getElem hlt) (List.getElem?_eq_getElem hlt2)] at hpx
       cases hpx
     · rcases Nat.lt_or_ge j i with hji | hji
       · exact hp j x y hji hx hy
       · have : j = i := by omega
         subst this
         rw [List.getElem?_eq_getElem hlt] at hx; rw [List.getElem?_eq_getElem hlt2] at hy
         injection hx with hx; injection hy with hy; rw [← hx, ← hy]; exact hpx
   · have hin : i = l.length := by omega
     subst hin
     have e1 : allB Iv.ins l m = true := by
       rw [allB_iff]
       intro j x y hx hy
       exact hp j x y (List.getElem?_eq_some_iff.1 hx).1 hx hy
     simp [c_fpref37_Inside_l0, h0, h5, e1, heq]

set_option maxHeartbeats 1000000 in
theorem RBEqual_cq (l m : List Iv) (wl : BxW l) (wm : BxW m) : CQ prog g_fpref37_Equal [ivs l, ivs m] (.bool (decide (l = m))) := by
 refine CQ_run rfl fun H => ?_
 have hll := wl.len
 simp [ivs]
 refine ⟨fun hne => ?_, fun heq => ?_⟩
 · intro h; rw [h] at hne; exact hne rfl
 replace heq : l.length = m.length := by omega
 refine WK_up (fun i E H' => H' = H ∧ E 0 = ivs l ∧ E 1 = ivs m ∧ E 5 = .int .i64 i ∧ (∀ j x y, j < i → l[j]? = some x → m[j]? = some y → x = y)) l.length ?_ ?_
 · simp [ivs]
 · rintro i E H' hi ⟨rfl, h0, h1, h5, hp⟩
   simp only [ivs] at h0 h1 ⊢
   rcases Nat.lt_or_ge i l.length with hlt | hge
   · have e2 : IntKind.i64.wrap ((i : Int) + 1) = ((i + 1 : Nat) : Int) := by rw [wrap_i64] <;> omega
     have hlt2 : i < m.length := by omega
     simp [c_fpref37_Equal_l0, h0, h1, h5, hlt, hlt2]
     refine WL_call rfl rfl rfl (RIEqual_cq l[i] m[i] (wl.all _ (List.getElem_mem hlt)) (wm.all _ (List.getElem_mem hlt2))) ?_
     simp [h0, h1, h5, e2]
     refine ⟨fun hpx h => ?_, fun hpx j x y hj hx hy => ?_⟩
     · subst h; exact hpx rfl
     · rcases Nat.lt_or_ge j i with hji | hji
       · exact hp j x y hji hx hy
       · have : j = i := by omega
         subst this
         rw [List.getElem?_eq_getElem hlt] at hx; rw [List.getElem?_eq_getElem hlt2] at hy
         injection hx with hx; injection hy with hy; rw [← hx, ← hy]; exact hpx
   · have hin : i = l.length := by omega
     subst hin
     have e1 : l = m := by
       refine List.ext_getElem? fun j => ?_
       rcases Nat.lt_or_ge j l.length with hj | hj
       · rw [List.getElem?_eq_getElem hj, List.getElem?_eq_getElem (by omega)]
         congr 1
         exact hp j _ _ hj (List.getElem?_eq_getElem hj) (List.getElem?_eq_getElem (by omega))
       · rw [List.getElem?_eq_none hj, List.getElem?_eq_none (by omega)]
     simp [c_fpref37_Equal_l0, h0, h5, ← e1]

end Go.Abs.W

/- Pipes: what the program's functions compute. -/
namespace Go.Abs.W

structure Sg.W (s : Sg) : Prop where
 fr : s.fr.W
 to : s.to.W
 tube : BxW s.tube
 en : BxW s.en
structure Pp.W (p : Pp) : Prop where
 start : BxW p.start
 len : p.segs.length ≤ 100000000
 all : ∀ s ∈ p.segs, s.W

/-- The box before a segment. -/
def Pp.bef (p : Pp) : Nat → List Iv
 | 0 => p.start
 | i + 1 => (p.segs[i]?).elim [] Sg.en
def Pp.lnk (p : Pp) (i : Nat) (s : Sg) : Bool := match i with
 | 0 => true
 | i + 1 => (p.segs[i]?).elim false fun q => decide (s.fr.cmp q.to = 0)
def Pp.segAt (p : Pp) (i : Nat) (s : Sg) : Bool := s.fr.valid && s.to.valid && decide (s.fr.cmp s.to < 0) && decide (s.tube.length = p.start.length) && p.lnk i s && boxIns s.en s.tube && boxIns (p.bef i) s.tube
def Pp.segsOk (p : Pp) : Bool := (List.range p.segs.length).all fun i => (p.segs[i]?).elim true (p.segAt i)
def Pp.valid (p : Pp) : Bool := boxOk p.start && decide (p.start.length ≤ 4) && decide (p.segs.length ≤ 1000) && p.segsOk

theorem less_cq (a b : Dy) (wa : a.W) (wb : b.W) : CQ prog g_pipe_less [a.v, b.v] (.bool (decide (a.cmp b < 0))) := by
 refine CQ_run rfl fun H => ?_
 simp
 refine WL_call rfl rfl rfl (DCmp_cq a b wa wb) ?_
 simp

theorem begin_cq (p : Pp) (s : Sg) (h : p.segs[0]? = some s) : CQ prog g_pipe_begin [p.v] s.fr.v := by
 refine CQ_run rfl fun H => ?_
 simp [sgs, h]

theorem last_cq (p : Pp) (s : Sg) (h : p.segs[p.segs.length - 1]? = some s) (hl : p.segs.length ≤ 100000000) : CQ prog g_pipe_last [p.v] s.v := by
 refine CQ_run rfl fun H => ?_
 have h0 : 0 < p.segs.length := by have := (List.getElem?_eq_some_iff.1 h).1; omega
 have e1 : IntKind.i64.wrap ((p.segs.length : Int) - 1) = ((p.segs.length - 1 : Nat) : Int) := by rw [wrap_i64] <;> omega
 obtain ⟨k, hk⟩ : ∃ k, k = p.segs.length - 1 := ⟨_, rfl⟩
 rw [← hk] at h e1
 simp [sgs, e1, h]

def Pp.during (p : Pp) (t : Dy) : Bool := match p.segs[0]?, p.segs[p.segs.length - 1]? with
 | some s, some z => !decide (t.cmp s.fr < 0) && !decide (z.to.cmp t < 0)
 | _, _ => false

theorem Pp.W.at {p : Pp} (w : p.W) {i : Nat} {s : Sg} (h : p.segs[i]? = some s) : s.W := w.all s (List.mem_of_getElem? h)

set_option maxHeartbeats 1000000 in
theorem during_cq (p : Pp) (t : Dy) (w : p.W) (wt : t.W) : CQ prog g_pipe_during [p.v, t.v] (.bool (p.during t)) := by
 refine CQ_run rfl fun H => ?_
 rcases Nat.eq_zero_or_pos p.segs.length with h0 | h0
 · have h1 : p.segs = [] := List.eq_nil_of_length_eq_zero h0
   simp [sgs, Pp.during, h1]
 · obtain ⟨s, hs⟩ : ∃ s, p.segs[0]? = some s := ⟨_, List.getElem?_eq_getElem h0⟩
   obtain ⟨z, hz⟩ : ∃ z, p.segs[p.segs.length - 1]? = some z := ⟨_, List.getElem?_eq_getElem (by omega)⟩
   have e1 : (0 : Int) < p.segs.length := by omega
   unfold Pp.during
   rw [hs, hz]
   simp [sgs]
   repeat' first
     | (refine WL_call rfl rfl rfl (begin_cq p s hs) ?_; simp)
     | (refine WL_call rfl rfl rfl (last_cq p z hz w.len) ?_; simp)
     | (refine WL_call rfl rfl rfl (less_cq t s.fr wt (w.at hs).fr) ?_; simp)
     | (refine WL_call rfl rfl rfl (less_cq z.to t (w.at hz).to wt) ?_; simp)
     | refine And.intro ?_ ?_
     | intro _
   all_goals first | (simp [*]; done) | (simp [*]; grind) | grind

theorem Pp.W.bef {p : Pp} (w : p.W) (i : Nat) : BxW (p.bef i) := by
 cases i with
 | zero => exact w.start
 | succ i =>
   show BxW ((p.segs[i]?).elim [] Sg.en)
   cases h : p.segs[i]? with
   | none => exact ⟨by simp, by simp⟩
   | some s => exact (w.at h).en

theorem segsOk_iff {p : Pp} : p.segsOk = true ↔ ∀ i s, p.segs[i]? = some s → p.segAt i s = true := by
 unfold Pp.segsOk
 rw [List.all_eq_true]
 constructor
 · intro h i s hs
   have := h i (List.mem_range.2 (List.getElem?_eq_some_iff.1 hs).1)
   rw [hs] at this
   exact this
 · intro h i hi
   have hlt := List.mem_range.1 hi
   rw [List.getElem?_eq_getElem hlt]
   exact h i _ (List.getElem?_eq_getElem hlt)

set_option maxHeartbeats 4000000 in
theorem PValid_cq (p : Pp) (w : p.W) : CQ prog g_pipe_Valid [p.v] (.bool p.valid) := by
 refine CQ_run rfl fun H => ?_
 simp [ivs, sgs]
 have hst := w.start.len
 have hse := w.len
 refine WL_call rfl rfl rfl (BValid_cq p.start w.start) ?_
 cases hb : boxOk p.start
 · simp [Pp.valid, hb]
 rcases Nat.lt_or_ge 4 p.start.length with h4 | h4
 · have e1 : (4 : Int) < p.start.length := by omega
   simp [Pp.valid, e1]
   intro _ h; omega
 rcases Nat.lt_or_ge 1000 p.segs.length with h5 | h5
 · have e1 : ¬ (4 : Int) < p.start.length := by omega
   have e2 : (1000 : Int) < p.segs.length := by omega
   simp [Pp.valid, e1, e2]
   intro _ _ h; omega
 have e1 : ¬ (4 : Int) < p.start.length := by omega
 have e2 : ¬ (1000 : Int) < p.segs.length := by omega
 simp [e1, e2]
 refine WK_up (fun i E H' => H ++ [some ⟨2, [p.v], false, true⟩] <+: H' ∧ E 1 = .ptr H.length 0 0 ∧ E 27 = sgs p.segs ∧ E 28 = .int .i64 p.segs.length ∧ E 29 = .int .i64 i ∧ E 3 = .int .i64 p.start.length ∧ E 4 = ivs (p.bef i) ∧
   (∀ j s, j < i → p.segs[j]? = some s → p.segAt j s = true)) p.segs.length ?_ ?_
 · simp [ivs, sgs, Pp.bef]
 · rintro i E H' hi ⟨hH, h1, h27, h28, h29, h3, h4', hp⟩
   simp only [sgs, ivs] at h27 h4'
   have hH0 : H <+: H' := (List.prefix_append _ _).trans hH
   have hB : ∀ l : Heap, (H' ++ l)[H.length]? = some (some ⟨2, [p.v], false, true⟩) := by
     intro l
     obtain ⟨t, rfl⟩ := hH
     simp
   have hv : p.valid = p.segsOk := by simp [Pp.valid, hb, h4, h5]
   rcases Nat.lt_or_ge i p.segs.length with hlt | hge
   · obtain ⟨s, hs⟩ : ∃ s, p.segs[i]? = some s := ⟨_, List.getElem?_eq_getElem hlt⟩
     have hs' : p.segs[i] = s := by rw [List.getElem?_eq_getElem hlt] at hs; injection hs
     have ws := w.at hs
     have wb := w.bef i
     have f1 : IntKind.i64.wrap ((i : Int) + 1) = ((i + 1 : Nat) : Int) := by rw [wrap_i64] <;> omega
     have hbef : p.bef (i + 1) = s.en := by simp [Pp.bef, hs]
     have no : p.segAt i s = false → p.valid = false := by
       intro h
       rw [hv, Bool.eq_false_iff]
       intro h'
       rw [segsOk_iff.1 h' i s hs] at h
       cases h
     have nx : p.segAt i s = true → ∀ (j : Nat) (s' : Sg), j < i + 1 → p.segs[j]? = some s' → p.segAt j s' = true := by
       intro h j u hj hu
       rcases Nat.lt_or_ge j i with hji | hji
       · exact hp j u hji hu
       · have : j = i := by omega
         subst this
         rw [hs] at hu; injection hu with hu; rw [← hu]; exact h
     have T := take_pre (pre_app (l := [some ⟨8, [s.v], false, true⟩]) hH0)
     have hH1 : H ++ [some ⟨2, [p.v], false, true⟩] <+: H' ++ [some ⟨8, [s.v], false, true⟩] := pre_app hH
     simp only [Sg.v, Pp.v, ivs, sgs] at T hH1
     rcases i with _ | k
     · simp [c_pipe_Valid_l0, h27, h28, h29, hlt, hs']
       repeat' first
         | (refine WL_call rfl rfl rfl (Valid_cq s.fr ws.fr.len ws.fr.li) ?_; simp)
         | (refine WL_call rfl rfl rfl (Valid_cq s.to ws.to.len ws.to.li) ?_; simp)
         | (refine WL_call rfl rfl rfl (less_cq s.fr s.to ws.fr ws.to) ?_; simp [ivs, h3])
         | (refine WL_call rfl rfl rfl (BInside_cq s.en s.tube ws.en ws.tube) ?_; simp [h4'])
         | (refine WL_call rfl rfl rfl (BInside_cq _ s.tube wb ws.tube) ?_; simp [T, h1, h27, h28, h29, h3])
         | refine And.intro ?_ ?_
         | intro _
       all_goals first
         | (apply no; simp [Pp.segAt, *]; done)
         | (apply no; simp [Pp.segAt, *]; omega)
         | exact T
         | (exfalso; omega)
         | exact hH1
         | rfl
         | (rw [wrap_i64] <;> omega)
         | (simp [Pp.bef, hs]; done)
         | (refine nx ?_; simp [Pp.segAt, Pp.lnk, *]; done)
         | (refine nx ?_; simp [Pp.segAt, Pp.lnk, *]; omega)
         | (refine nx ?_ _ _ ?_ (by assumption)
            · simp [Pp.segAt, Pp.lnk, *]; omega
            · omega)
         | trace_state
     · obtain ⟨q, hq⟩ : ∃ q, p.segs[k]? = some q := ⟨_, List.getElem?_eq_getElem (by omega)⟩
       have wq := w.at hq
       have f2 : IntKind.i64.wrap (k : Int) = k := by rw [wrap_i64] <;> omega
       have f3 : (0 : Int) < (k : Int) + 1 := by omega
       have f4 : (0 : Int) ≤ k := by omega
       have f5 : (0 : Int) ≤ (k : Int) + 1 := by omega
       simp [c_pipe_Valid_l0, h27, h28, h29, hlt, hs', f5]
       repeat' first
         | (refine WL_call rfl rfl rfl (Valid_cq s.fr ws.fr.len ws.fr.li) ?_; simp)
         | (refine WL_call rfl rfl rfl (Valid_cq s.to ws.to.len ws.to.li) ?_; simp)
         | (refine WL_call rfl rfl rfl (less_cq s.fr s.to ws.fr ws.to) ?_; simp [ivs, sgs, f3, f2, f4, hq, h1, h3, hB])
         | (refine WL_call rfl rfl rfl (DCmp_cq s.fr q.to ws.fr wq.to) ?_; simp)
         | (refine WL_call rfl rfl rfl (BInside_cq s.en s.tube ws.en ws.tube) ?_; simp [h4'])
         | (refine WL_call rfl rfl rfl (BInside_cq _ s.tube wb ws.tube) ?_; simp [T, h1, h27, h28, h29, h3])
         | refine And.intro ?_ ?_
         | intro _
       all_goals first
         | (apply no; simp [Pp.segAt, Pp.lnk, *]; done)
         | (apply no; simp [Pp.segAt, Pp.lnk, *]; omega)
         | exact T
         | (exfalso; omega)
         | exact hH1
         | rfl
         | (rw [wrap_i64] <;> omega)
         | (simp [Pp.bef, hs]; done)
         | (refine nx ?_; simp [Pp.segAt, Pp.lnk, *]; done)
         | (refine nx ?_; simp [Pp.segAt, Pp.lnk, *]; omega)
         | (refine nx ?_ _ _ ?_ (by assumption)
            · simp [Pp.segAt, Pp.lnk, *]; omega
            · omega)
         | trace_state
   · have hin : i = p.segs.length := by omega
     subst hin
     have : p.valid = true := by
       rw [hv, segsOk_iff]
       intro j s hs
       exact hp j s (List.getElem?_eq_some_iff.1 hs).1 hs
     simp [c_pipe_Valid_l0, h28, h29, this, take_pre hH0]
end Go.Abs.W

/- The box at a time. -/
namespace Go.Abs.W

theorem getE_pre {α : Type} {H l : List α} {b : Nat} {x : α} (h : H[b]? = some x) : (H ++ l)[b]? = some x := by
 rw [List.getElem?_append_left (List.getElem?_eq_some_iff.1 h).1]; exact h
theorem getE_prefix {α : Type} {H H' : List α} {b : Nat} {x : α} (hp : H <+: H') (h : H[b]? = some x) : H'[b]? = some x := by
 obtain ⟨l, rfl⟩ := hp; exact getE_pre h

theorem at1_ev {H : Heap} {b : Nat} (s : Sg) (t : Dy) (ws : s.W) (wt : t.W) (hb : H[b]? = some (some ⟨3, [t.v], false, true⟩)) : Ev prog (.call g_pipe_at_1 [s.v, .ptr b 0 0] H) (.ret (.bool (!decide (s.to.cmp t < 0))) H) := by
 refine Ev_run rfl ?_
 have hb' : ∀ l : Heap, (H ++ l)[b]? = some (some ⟨3, [t.v], false, true⟩) := fun l => getE_pre hb
 simp [hb']
 refine WL_call rfl rfl rfl (less_cq s.to t ws.to wt) ?_
 simp

theorem at1_cb {H : Heap} {b : Nat} (s : Sg) (t : Dy) (ws : s.W) (wt : t.W) (hb : H[b]? = some (some ⟨3, [t.v], false, true⟩)) : Cb H g_pipe_at_1 [.ptr b 0 0] [s.v] (.bool (!decide (s.to.cmp t < 0))) :=
 fun _ hp => ⟨rfl, at1_ev s t ws wt (getE_prefix hp hb)⟩

/-- The number of the segment for a time. -/
def Pp.num (p : Pp) (t : Dy) : Nat := (p.segs.findIdx? fun s => !decide (s.to.cmp t < 0)).getD 0
def Pp.at (p : Pp) (t : Dy) : List Iv := match p.segs[0]?, p.segs[p.num t]? with
 | some s, some g => if t.cmp s.fr = 0 then p.start else if t.cmp g.to < 0 then g.tube else g.en
 | _, _ => []

set_option maxHeartbeats 1000000 in
theorem at_cq (p : Pp) (t : Dy) (w : p.W) (wt : t.W) (i : Nat) (h0 : 0 < p.segs.length) (hi : (p.segs.findIdx? fun s => !decide (s.to.cmp t < 0)) = some i) : CQ prog g_pipe_at [p.v, t.v] (ivs (p.at t)) := by
 refine CQ_run rfl fun H => ?_
 obtain ⟨s, hs⟩ : ∃ s, p.segs[0]? = some s := ⟨_, List.getElem?_eq_getElem h0⟩
 have hlt : i < p.segs.length := (List.findIdx?_eq_some_iff_getElem.1 hi).1
 obtain ⟨g, hg⟩ : ∃ g, p.segs[i]? = some g := ⟨_, List.getElem?_eq_getElem hlt⟩
 have hg' : p.segs[i] = g := by rw [List.getElem?_eq_getElem hlt] at hg; injection hg
 have wg := w.at hg
 have hn : p.num t = i := by simp [Pp.num, hi]
 simp
 refine WL_call rfl rfl rfl (begin_cq p s hs) ?_
 simp
 refine WL_call rfl rfl rfl (DCmp_cq t s.fr wt (w.at hs).fr) ?_
 simp
 refine ⟨fun h => ?_, fun h => ?_⟩
 · refine WL_call rfl rfl rfl (Clone_cq p.start (by have := w.start.len; omega)) ?_
   simp [Pp.at, hs, hn, hg, h]
 · refine WL_ev rfl rfl rfl (IndexSg_ev p.segs (by have := w.len; omega) fun x hx => at1_cb x t (w.all x hx) wt (by simp)) ?_
   simp [idxV, hi, sgs, hlt, hg']
   refine WL_call rfl rfl rfl (less_cq t g.to wt wg.to) ?_
   simp
   refine ⟨fun h2 => ?_, fun h2 => ?_⟩
   · refine WL_call rfl rfl rfl (Clone_cq g.tube (by have := wg.tube.len; omega)) ?_
     simp [Pp.at, hs, hn, hg, h, h2]
   · have h3 : ¬ (t.cmp g.to < 0) := by omega
     simp [hlt, hg']
     refine WL_call rfl rfl rfl (Clone_cq g.en (by have := wg.en.len; omega)) ?_
     simp [Pp.at, hs, hn, hg, h, h3]

theorem during_num {p : Pp} {t : Dy} (h : p.during t = true) : 0 < p.segs.length ∧ ∃ i, (p.segs.findIdx? fun s => !decide (s.to.cmp t < 0)) = some i := by
 unfold Pp.during at h
 split at h
 · rename_i s z hs hz
   refine ⟨(List.getElem?_eq_some_iff.1 hs).1, ?_⟩
   simp only [Bool.and_eq_true] at h
   cases hq : p.segs.findIdx? fun s => !decide (s.to.cmp t < 0) with
   | some i => exact ⟨i, rfl⟩
   | none =>
     rw [List.findIdx?_eq_none_iff] at hq
     have := hq z (List.mem_of_getElem? hz)
     rw [h.2] at this
     cases this
 · cases h

def Pp.atE (p : Pp) (t : Dy) : Int := if p.valid && t.valid then (if p.during t then 0 else 2) else 1
def Pp.atR (p : Pp) (t : Dy) : List Iv := if p.atE t = 0 then p.at t else []

theorem At_cq (p : Pp) (t : Dy) (w : p.W) (wt : t.W) : CQ prog g_pipe_At [p.v, t.v] (.tup [ivs (p.atR t), .int .i64 (p.atE t)]) := by
 refine CQ_run rfl fun H => ?_
 simp
 refine WL_call rfl rfl rfl (PValid_cq p w) ?_
 cases hv : p.valid
 · simp [Pp.atR, Pp.atE, hv, ivs]
 · simp
   refine WL_call rfl rfl rfl (Valid_cq t wt.len wt.li) ?_
   cases ht : t.valid
   · simp [Pp.atR, Pp.atE, hv, ht, ivs]
   · simp
     refine WL_call rfl rfl rfl (during_cq p t w wt) ?_
     cases hd : p.during t
     · simp [Pp.atR, Pp.atE, hv, ht, hd, ivs]
     · simp
       obtain ⟨h0, i, hi⟩ := during_num hd
       refine WL_call rfl rfl rfl (at_cq p t w wt i h0 hi) ?_
       simp [Pp.atR, Pp.atE, hv, ht, hd]

end Go.Abs.W

/- Copies of pipes. -/
namespace Go.Abs.W
attribute [local simp] stpAppend

@[simp] theorem add_lt_self {n k : Nat} : (n + k < n) = False := by simp

theorem ownC_ivs {n0 : Nat} {H acc : Heap} {l : List Iv} : ownC n0 H acc (ivs l) = some (ivs l, H, acc) := rfl

def outV (H : Heap) (g : Nat) : Nat → V
 | 0 => .nil
 | i + 1 => .ref (H.length + (g + 3)) 8 0 (i + 1)

set_option maxHeartbeats 4000000 in
theorem copied_wk (p : Pp) (w : p.W) (H : Heap) (Q : V → Heap → Prop) 
   (hq : Q (.agg [ivs p.start, if p.segs = [] then .nil else .ref H.length 8 0 p.segs.length]) (if p.segs = [] then H else H ++ [some ⟨8, p.segs.map Sg.v, true, true⟩])) : CT prog g_pipe_copied [p.v] H Q := by
 refine CT_of (f := c_pipe_copied) rfl (WC_of_WK ?_)
 have hse := w.len
 simp
 refine WL_call rfl rfl rfl (Clone_cq p.start (by have := w.start.len; omega)) ?_
 simp [sgs]
 refine WK_up (fun i E H' => ∃ g G, H' = H ++ (some ⟨2, [p.v], false, true⟩ :: some ⟨2, [.agg [.nil, .nil]], false, true⟩ :: some ⟨2, [.agg [ivs p.start, outV H g i]], false, true⟩ :: G) ∧
   E 1 = .ptr H.length 0 0 ∧ E 2 = .ptr (H.length + 1) 0 0 ∧ E 3 = .ptr (H.length + 2) 0 0 ∧ E 11 = sgs p.segs ∧ E 12 = .int .i64 p.segs.length ∧ E 13 = .int .i64 i ∧
   (0 < i → G[g]? = some (some ⟨8, (p.segs.take i).map Sg.v, true, true⟩))) p.segs.length ?_ ?_
 · simp [sgs, outV]
 · rintro i E H' hi ⟨g, G, rfl, h1, h2, h3, h11, h12, h13, hg⟩
   simp only [sgs] at h11
   rcases Nat.lt_or_ge i p.segs.length with hlt | hge
   · obtain ⟨s, hs⟩ : ∃ s, p.segs[i]? = some s := ⟨_, List.getElem?_eq_getElem hlt⟩
     have hs' : p.segs[i] = s := by rw [List.getElem?_eq_getElem hlt] at hs; injection hs
     have ws := w.at hs
     have f1 : IntKind.i64.wrap ((i : Int) + 1) = ((i + 1 : Nat) : Int) := by rw [wrap_i64] <;> omega
     have f8 : (i + 1) * 128 ≤ 140737488355328 := by omega
     rcases i with _ | k
     · simp [c_pipe_copied_l0, h11, h12, h13, hlt, hs']
       refine WL_call rfl rfl rfl (Clone_cq s.tube (by have := ws.tube.len; omega)) ?_
       simp
       refine WL_call rfl rfl rfl (Clone_cq s.en (by have := ws.en.len; omega)) ?_
       simp [h1, h2, h3, h11, h12, h13, outV]
       refine ⟨_, _, ⟨rfl, rfl⟩, rfl, by decide, ?_⟩
       rw [List.getElem?_append_right (by omega)]
       simp
       obtain ⟨l, hl⟩ : ∃ l, p.segs = s :: l := by
         cases hq : p.segs with
         | nil => rw [hq] at hs; simp at hs
         | cons x l => rw [hq] at hs; simp at hs; exact ⟨l, by rw [hs]⟩
       simp [hl]
     · have hg := hg (by omega)
       have hgl := (List.getElem?_eq_some_iff.1 hg).1
       have hg' : ∀ l : Heap, (G ++ l)[g]? = some (some ⟨8, (p.segs.take (k + 1)).map Sg.v, true, true⟩) := fun l => getE_pre hg
       have f2 : IntKind.i64.wrap ((k : Int) + 1 + 1) = (k : Int) + 1 + 1 := by rw [wrap_i64] <;> omega
       have f3 : (k : Int) + 1 < p.segs.length := by omega
       have f5 : (0 : Int) ≤ (k : Int) + 1 := by omega
       have f6 : min (k + 1) p.segs.length = k + 1 := by omega
       have f9 : k + 1 ≤ p.segs.length := by omega
       simp [c_pipe_copied_l0, h11, h12, h13, hlt, hs', f3, f5]
       refine WL_call rfl rfl rfl (Clone_cq s.tube (by have := ws.tube.len; omega)) ?_
       simp
       refine WL_call rfl rfl rfl (Clone_cq s.en (by have := ws.en.len; omega)) ?_
       simp [h1, h2, h3, h11, h12, h13, outV, hg', f2, f6, f8]
       refine ⟨_, _, ⟨rfl, rfl⟩, rfl, ?_⟩
       rw [List.getElem?_append_right (by simp)]
       have key : List.take (k + 1) (List.map Sg.v p.segs) ++ [s.v] = List.take (k + 1 + 1) (List.map Sg.v p.segs) := by
         rw [List.take_add_one (i := k + 1)]; simp [hlt, hs']
       simp [List.take_take]
       exact key
   · have hin : i = p.segs.length := by omega
     subst hin
     rcases hn : p.segs.length with _ | k
     · have hnil : p.segs = [] := List.eq_nil_of_length_eq_zero hn
       simp [hnil] at hq h12 h13
       simp [c_pipe_copied_l0, h2, h3, h12, h13, outV, fin, ownV, ownCs, ownC_nil, ownC_ivs]
       exact ⟨_, _, ⟨rfl, rfl⟩, hq⟩
     · have hnil : p.segs ≠ [] := by intro h; rw [h] at hn; simp at hn
       have hg := hg (by omega)
       simp [hnil] at hq
       simp [c_pipe_copied_l0, h2, h3, h12, h13, hn, outV, fin, ownV, ownCs, ownC_ref, ownC_ivs, hg]
       refine ⟨_, _, ⟨rfl, rfl⟩, ?_⟩
       rw [hn] at hq
       rw [List.take_of_length_le (i := k + 1) (l := List.take (k + 1) _) (by simp; omega), List.take_of_length_le (by simp; omega)]
       exact hq
end Go.Abs.W

/- Cutting a pipe. -/
namespace Go.Abs.W

def cutS (t : Dy) : List Sg → List Sg
 | [] => []
 | s :: l => if t.cmp s.to < 0 then (if s.fr.cmp t < 0 then [{ s with to := t, en := s.tube }] else []) else s :: cutS t l

def Pp.cutR (p : Pp) (t : Dy) : Pp := if p.atE t = 0 then ⟨p.start, cutS t p.segs⟩ else ⟨[], []⟩

theorem cutS_all {t : Dy} : ∀ {l : List Sg}, (∀ s ∈ l, ¬ t.cmp s.to < 0) → cutS t l = l
 | [], _ => rfl
 | s :: l, h => by rw [cutS, if_neg (h s (by simp)), cutS_all fun x hx => h x (by simp [hx])]

theorem cutS_at {t : Dy} {s : Sg} : ∀ {l : List Sg} {i : Nat}, (∀ j u, j < i → l[j]? = some u → ¬ t.cmp u.to < 0) → l[i]? = some s → t.cmp s.to < 0 →
   cutS t l = l.take i ++ (if s.fr.cmp t < 0 then [{ s with to := t, en := s.tube }] else [])
 | [], i, _, hs, _ => by simp at hs
 | u :: l, 0, _, hs, ht => by
   simp at hs; subst hs
   rw [cutS, if_pos ht]; simp
 | u :: l, i + 1, h, hs, ht => by
   rw [cutS, if_neg (h 0 u (by omega) rfl), cutS_at (fun j v hj hv => h (j + 1) v (Nat.succ_lt_succ hj) (by simpa using hv)) (by simpa using hs) ht]
   rfl

theorem take_set_succ {α : Type} {l : List α} {i : Nat} {x : α} (h : i < l.length) : (l.set i x).take (i + 1) = l.take i ++ [x] := by
 rw [List.take_add_one]; simp [h, List.take_set_of_le]

set_option maxHeartbeats 4000000 in
theorem Cut_cq (p : Pp) (t : Dy) (w : p.W) (wt : t.W) : CQ prog g_pipe_Cut [p.v, t.v] (.tup [(p.cutR t).v, .int .i64 (p.atE t)]) := by
 refine CQ_run rfl fun H => ?_
 simp
 refine WL_call rfl rfl rfl (At_cq p t w wt) ?_
 simp
 refine ⟨fun he => ?_, fun he => ?_⟩
 · simp [Pp.cutR, he, ivs, sgs]
 have h0 : 0 < p.segs.length := by
   have : p.during t = true := by
     unfold Pp.atE at he; split at he
     · split at he
       · assumption
       · omega
     · omega
   exact (during_num this).1
 have hne : p.segs ≠ [] := by intro h; rw [h] at h0; simp at h0
 have hse := w.len
 refine WL_callT rfl rfl rfl (copied_wk p w _ _ ?_)
 simp [hne, he]
 refine WK_up (fun i E H' => ∃ G, H' = H ++ (some ⟨2, [p.v], false, true⟩ :: some ⟨3, [t.v], false, true⟩ :: some ⟨2, [.agg [.nil, .nil]], false, true⟩ :: some ⟨8, p.segs.map Sg.v, true, true⟩ ::
     some ⟨2, [.agg [ivs p.start, .ref (H.length + 3) 8 0 p.segs.length]], false, true⟩ :: G) ∧
   E 2 = .ptr H.length 0 0 ∧ E 3 = .ptr (H.length + 1) 0 0 ∧ E 4 = .ptr (H.length + 2) 0 0 ∧ E 8 = .ptr (H.length + 4) 0 0 ∧ E 24 = .ref (H.length + 3) 8 0 p.segs.length ∧ E 25 = .int .i64 p.segs.length ∧ E 26 = .int .i64 i ∧
   (∀ j u, j < i → p.segs[j]? = some u → ¬ t.cmp u.to < 0)) p.segs.length ?_ ?_
 · simp
 · rintro i E H' hi ⟨G, rfl, h2, h3, h4, h8, h24, h25, h26, hp⟩
   rcases Nat.lt_or_ge i p.segs.length with hlt | hge
   · obtain ⟨s, hs⟩ : ∃ s, p.segs[i]? = some s := ⟨_, List.getElem?_eq_getElem hlt⟩
     have hs' : p.segs[i] = s := by rw [List.getElem?_eq_getElem hlt] at hs; injection hs
     have ws := w.at hs
     have f1 : IntKind.i64.wrap ((i : Int) + 1) = ((i + 1 : Nat) : Int) := by rw [wrap_i64] <;> omega
     simp [c_pipe_Cut_l0, h3, h24, h25, h26, hlt, hs']
     refine WL_call rfl rfl rfl (less_cq t s.to wt ws.to) ?_
     simp [h2, h3, h4, h8, h24, h25, h26]
     refine ⟨fun hc => ⟨by simpa using f1, ?_⟩, fun hc => ?_⟩
     · intro j u hj hu
       rcases Nat.lt_or_ge j i with hji | hji
       · have := hp j u hji hu; omega
       · have : j = i := by omega
         subst this
         rw [hs] at hu; injection hu with hu; rw [← hu]; exact hc
     have hcut := cutS_at (t := t) hp hs hc
     refine WL_call rfl rfl rfl (less_cq s.fr t ws.fr wt) ?_
     have f2 : IntKind.i64.wrap ((i : Int) + 1) = (i : Int) + 1 := by rw [wrap_i64] <;> omega
     have f3 : (0 : Int) ≤ (i : Int) + 1 := by omega
     have f4 : i + 1 ≤ p.segs.length := by omega
     simp [h3, h4, h8, hi, V.lowB]
     refine ⟨fun hd => ?_, fun hd => ?_⟩
     · rw [if_pos hd] at hcut
       refine WL_call rfl rfl rfl (Clone_cq s.tube (by have := ws.tube.len; omega)) ?_
       simp [h4, h8, hlt, hs', f2, f3, f4, apart]
       refine ⟨by simp [Pp.cutR, he], ?_⟩
       rw [take_set_succ (by simpa using hlt)]
       simp [Pp.cutR, he, hcut, sgs]
     · rw [if_neg (by omega)] at hcut
       simp [Pp.cutR, he, hcut, sgs]
   · have hin : i = p.segs.length := by omega
     subst hin
     simp [c_pipe_Cut_l0, h4, h8, h25, h26]
     have := cutS_all (t := t) (l := p.segs) (fun u hu => by
       obtain ⟨j, hj, rfl⟩ := List.getElem_of_mem hu
       exact hp j _ hj (List.getElem?_eq_getElem _))
     simp [Pp.cutR, he, this, sgs, List.take_of_length_le]

end Go.Abs.W

/- The reference's pipes. -/
namespace Go.Abs.W
attribute [local simp] stpAppend

theorem RFirst_cq (p : Pp) (s : Sg) (h : p.segs[0]? = some s) : CQ prog g_fpref37_First [p.v] s.fr.v := by
 refine CQ_run rfl fun H => ?_
 simp [sgs, h]

theorem RLast_cq (p : Pp) (s : Sg) (h : p.segs[p.segs.length - 1]? = some s) (hl : p.segs.length ≤ 100000000) : CQ prog g_fpref37_Last [p.v] s.to.v := by
 refine CQ_run rfl fun H => ?_
 have h0 : 0 < p.segs.length := by have := (List.getElem?_eq_some_iff.1 h).1; omega
 have e1 : IntKind.i64.wrap ((p.segs.length : Int) - 1) = ((p.segs.length - 1 : Nat) : Int) := by rw [wrap_i64] <;> omega
 obtain ⟨k, hk⟩ : ∃ k, k = p.segs.length - 1 := ⟨_, rfl⟩
 rw [← hk] at h e1
 simp [sgs, e1, h]

theorem RBefore0_cq (p : Pp) : CQ prog g_fpref37_Before [p.v, .int .i64 0] (ivs p.start) := by
 refine CQ_run rfl fun H => ?_
 simp
theorem RBeforeS_cq (p : Pp) (k : Nat) (s : Sg) (hk : k ≤ 100000000) (h : p.segs[k]? = some s) : CQ prog g_fpref37_Before [p.v, .int .i64 ((k : Int) + 1)] (ivs s.en) := by
 refine CQ_run rfl fun H => ?_
 have e1 : IntKind.i64.wrap (k : Int) = k := by rw [wrap_i64] <;> omega
 have e2 : ¬ (k : Int) + 1 = 0 := by omega
 simp [sgs, e1, e2, h]

theorem Pp.okAt {p : Pp} (h : p.segsOk = true) {i : Nat} {s : Sg} (hs : p.segs[i]? = some s) : p.segAt i s = true := segsOk_iff.1 h i s hs
theorem Pp.validSegs {p : Pp} (h : p.valid = true) : p.segsOk = true := by simp [Pp.valid] at h; exact h.2

theorem segAt_fr {p : Pp} {i : Nat} {s : Sg} (w : s.W) (h : p.segAt i s = true) : s.fr.Ok ∧ s.to.Ok := by
 simp only [Pp.segAt, Bool.and_eq_true] at h
 exact ⟨Dy.Ok.of w.fr.li h.1.1.1.1.1.1, Dy.Ok.of w.to.li h.1.1.1.1.1.2⟩

set_option maxHeartbeats 8000000 in
theorem RPValid_cq (p : Pp) (w : p.W) : CQ prog g_fpref37_Valid [p.v] (.bool p.valid) := by
 refine CQ_run rfl fun H => ?_
 simp [ivs, sgs]
 have hst := w.start.len
 have hse := w.len
 refine WL_call rfl rfl rfl (RBox_cq p.start w.start) ?_
 cases hb : boxOk p.start
 · simp [Pp.valid, hb]
 rcases Nat.lt_or_ge 4 p.start.length with h4 | h4
 · have e1 : (4 : Int) < p.start.length := by omega
   simp [Pp.valid, e1]
   intro _ h; omega
 rcases Nat.lt_or_ge 1000 p.segs.length with h5 | h5
 · have e1 : ¬ (4 : Int) < p.start.length := by omega
   have e2 : (1000 : Int) < p.segs.length := by omega
   simp [Pp.valid, e1, e2]
   intro _ _ h; omega
 have e1 : ¬ (4 : Int) < p.start.length := by omega
 have e2 : ¬ (1000 : Int) < p.segs.length := by omega
 simp [e1, e2]
 refine WK_up (fun i E H' => H ++ [some ⟨2, [p.v], false, true⟩] <+: H' ∧ E 1 = .ptr H.length 0 0 ∧ E 3 = .int .i64 i ∧
   (∀ j s, j < i → p.segs[j]? = some s → p.segAt j s = true)) p.segs.length ?_ ?_
 · simp [ivs, sgs]
 · rintro i E H' hi ⟨hH, h1, h3, hp⟩
   have hH0 : H <+: H' := (List.prefix_append _ _).trans hH
   have hB : ∀ l : Heap, (H' ++ l)[H.length]? = some (some ⟨2, [p.v], false, true⟩) := by
     intro l
     obtain ⟨t, rfl⟩ := hH
     simp
   have hB0 : H'[H.length]? = some (some ⟨2, [p.v], false, true⟩) := by have := hB []; rwa [List.append_nil] at this
   have hv : p.valid = p.segsOk := by simp [Pp.valid, hb, h4, h5]
   rcases Nat.lt_or_ge i p.segs.length with hlt | hge
   · obtain ⟨s, hs⟩ : ∃ s, p.segs[i]? = some s := ⟨_, List.getElem?_eq_getElem hlt⟩
     have hs' : p.segs[i] = s := by rw [List.getElem?_eq_getElem hlt] at hs; injection hs
     have ws := w.at hs
     have wb := w.bef i
     have f1 : IntKind.i64.wrap ((i : Int) + 1) = ((i + 1 : Nat) : Int) := by rw [wrap_i64] <;> omega
     have no : p.segAt i s = false → p.valid = false := by
       intro h
       rw [hv, Bool.eq_false_iff]
       intro h'
       rw [segsOk_iff.1 h' i s hs] at h
       cases h
     have nx : p.segAt i s = true → ∀ (j : Nat) (s' : Sg), j < i + 1 → p.segs[j]? = some s' → p.segAt j s' = true := by
       intro h j u hj hu
       rcases Nat.lt_or_ge j i with hji | hji
       · exact hp j u hji hu
       · have : j = i := by omega
         subst this
         rw [hs] at hu; injection hu with hu; rw [← hu]; exact h
     have T := take_pre (pre_app (l := [some ⟨8, [s.v], false, true⟩]) hH0)
     have hH1 : H ++ [some ⟨2, [p.v], false, true⟩] <+: H' ++ [some ⟨8, [s.v], false, true⟩] := pre_app hH
     have bI : ∀ a b : List Iv, boxIns a b = (boxOk a && boxOk b && boxIn a b) := by
       intro a b; simp [boxIns, boxIn, Bool.and_assoc]
     simp only [Sg.v, Pp.v, ivs, sgs] at T hH1
     rcases i with _ | k
     · simp [c_fpref37_Valid_l0, h1, h3, hlt, hs', hB0, sgs]
       repeat' first
         | (refine WL_call rfl rfl rfl (RValid_cq s.fr ws.fr) ?_; simp)
         | (refine WL_call rfl rfl rfl (RValid_cq s.to ws.to) ?_; simp)
         | (refine WL_call rfl rfl rfl (RCmp_cq s.fr s.to (Dy.Ok.of ws.fr.li (by assumption)) (Dy.Ok.of ws.to.li (by assumption))) ?_; simp [ivs, h3])
         | (refine WL_call rfl rfl rfl (RBox_cq s.tube ws.tube) ?_; simp)
         | (refine WL_call rfl rfl rfl (RBox_cq s.en ws.en) ?_; simp [ivs, h1, hB])
         | (refine WL_call rfl rfl rfl (RBInside_cq s.en s.tube ws.en ws.tube) ?_; simp [ivs, h1, h3, hB])
         | (refine WL_call rfl rfl rfl (RBefore0_cq p) ?_; simp [ivs])
         | (refine WL_call rfl rfl rfl (RBInside_cq p.start s.tube w.start ws.tube) ?_; simp [h1, h3, T])
         | refine And.intro ?_ ?_
         | intro _
       all_goals first
         | (apply no; simp [Pp.segAt, Pp.bef, *]; done)
         | (apply no; simp [Pp.segAt, Pp.bef, *]; omega)
         | exact T
         | (exfalso; omega)
         | exact hH1
         | rfl
         | (rw [wrap_i64] <;> omega)
         | (refine nx ?_; simp [Pp.segAt, Pp.lnk, bI, Pp.bef, *]; done)
         | (refine nx ?_ _ _ ?_ (by assumption)
            · simp [Pp.segAt, Pp.lnk, Pp.bef, *]; omega
            · omega)
         | trace_state
     · obtain ⟨q, hq⟩ : ∃ q, p.segs[k]? = some q := ⟨_, List.getElem?_eq_getElem (by omega)⟩
       have wq := w.at hq
       have qa := hp k q (by omega) hq
       have oq := (segAt_fr wq qa).2
       have hL : s.fr.valid = true → (s.fr.cmp q.to = 0 ↔ s.fr = q.to) := fun h => cmp_zero (Dy.Ok.of ws.fr.li h) oq
       have bq : boxOk q.en = true := by
         simp [Pp.segAt, bI] at qa; exact qa.1.2.1.1
       have mk : s.fr.valid = true → s.to.valid = true → s.fr.cmp s.to < 0 → s.fr = q.to → boxOk s.tube = true → boxOk s.en = true → (s.tube.length : Int) = p.start.length → boxIn s.en s.tube = true → boxIn q.en s.tube = true → p.segAt (k + 1) s = true := by
         intro g1 g2 g3 g4 g5 g6 g7 g8 g9
         have g4' := (hL g1).2 g4
         have g7' : s.tube.length = p.start.length := by omega
         simp [Pp.segAt, Pp.lnk, bI, Pp.bef, hq, g1, g2, g3, g4', g5, g6, g7', g8, g9, bq]
       have f2 : IntKind.i64.wrap (k : Int) = k := by rw [wrap_i64] <;> omega
       have f3 : (0 : Int) < (k : Int) + 1 := by omega
       have f4 : (0 : Int) ≤ k := by omega
       have f5 : (0 : Int) ≤ (k : Int) + 1 := by omega
       have f6 : (k : Int) + 1 < p.segs.length := by omega
       simp [c_fpref37_Valid_l0, h1, h3, hlt, hs', hB0, sgs, f5, f6]
       repeat' first
         | (refine WL_call rfl rfl rfl (RValid_cq s.fr ws.fr) ?_; simp)
         | (refine WL_call rfl rfl rfl (RValid_cq s.to ws.to) ?_; simp)
         | (refine WL_call rfl rfl rfl (RCmp_cq s.fr s.to (Dy.Ok.of ws.fr.li (by assumption)) (Dy.Ok.of ws.to.li (by assumption))) ?_; simp [ivs, sgs, f2, f3, f4, hq, h1, h3, hB])
         | (refine WL_call rfl rfl rfl (REqual_cq s.fr q.to ws.fr wq.to) ?_; simp)
         | (refine WL_call rfl rfl rfl (RBox_cq s.tube ws.tube) ?_; simp)
         | (refine WL_call rfl rfl rfl (RBox_cq s.en ws.en) ?_; simp [ivs, h1, hB])
         | (refine WL_call rfl rfl rfl (RBInside_cq s.en s.tube ws.en ws.tube) ?_; simp [ivs, h1, h3, hB])
         | (refine WL_call rfl rfl rfl (RBeforeS_cq p k q (by omega) hq) ?_; simp [ivs])
         | (refine WL_call rfl rfl rfl (RBInside_cq q.en s.tube wq.en ws.tube) ?_; simp [h1, h3, T])
         | refine And.intro ?_ ?_
         | intro _
       all_goals first
         | (apply no; simp [Pp.segAt, Pp.lnk, Pp.bef, *]; done)
         | (apply no; simp [Pp.segAt, Pp.lnk, Pp.bef, *]; omega)
         | exact T
         | (exfalso; omega)
         | exact hH1
         | rfl
         | (rw [wrap_i64] <;> omega)
         | (refine nx ?_; simp [Pp.segAt, Pp.lnk, bI, Pp.bef, *]; done)
         | (refine nx ?_ _ _ ?_ (by assumption)
            · simp [Pp.segAt, Pp.lnk, Pp.bef, *]; omega
            · omega)
         | exact nx (mk (by assumption) (by assumption) (by assumption) (by assumption) (by assumption) (by assumption) (by assumption) (by assumption) (by assumption)) _ _ (by omega) (by assumption)
         | trace_state
   · have hin : i = p.segs.length := by omega
     subst hin
     have : p.valid = true := by
       rw [hv, segsOk_iff]
       intro j s hs
       exact hp j s (List.getElem?_eq_some_iff.1 hs).1 hs
     simp [c_fpref37_Valid_l0, h1, h3, hB0, sgs, this, take_pre hH0]

end Go.Abs.W

/- The reference's cut, and the comparison of pipes. -/
namespace Go.Abs.W
attribute [local simp] stpAppend

@[simp] theorem lowB_lim {n : Nat} {l : List Nat} : (lim l).lowB n = true := rfl
@[simp] theorem lowB_ivs {n : Nat} {l : List Iv} : (ivs l).lowB n = true := rfl
@[simp] theorem lowB_sgs {n : Nat} {l : List Sg} : (sgs l).lowB n = true := rfl
@[simp] theorem lowB_sl {n : Nat} {l : List V} : (V.sl l).lowB n = true := rfl
@[simp] theorem lowB_bool {n : Nat} {b : Bool} : (V.bool b).lowB n = true := rfl
@[simp] theorem lowB_int {n : Nat} {k : IntKind} {i : Int} : (V.int k i).lowB n = true := rfl

set_option maxHeartbeats 4000000 in
theorem Same_cq (p q : Pp) (wp : p.W) (wq : q.W) : CQ prog g_fpref37_Same [p.v, q.v] (.bool (decide (p = q))) := by
 refine CQ_run rfl fun H => ?_
 have hpl := wp.len
 have e : decide (p = q) = (decide (p.start = q.start) && decide (p.segs = q.segs)) := by
   cases p; cases q; simp
 rw [e]
 simp [sgs]
 refine WL_call rfl rfl rfl (RBEqual_cq p.start q.start wp.start wq.start) ?_
 by_cases hst : p.start = q.start
 · by_cases hl : p.segs.length = q.segs.length
   · simp [hst, hl]
     refine WK_up (fun i E H' => H ++ [some ⟨2, [p.v], false, true⟩, some ⟨2, [q.v], false, true⟩] <+: H' ∧ E 2 = .ptr H.length 0 0 ∧ E 3 = .ptr (H.length + 1) 0 0 ∧ E 5 = .int .i64 i ∧ (∀ j x y, j < i → p.segs[j]? = some x → q.segs[j]? = some y → x = y)) p.segs.length ?_ ?_
     · simp [sgs, hst]
     · rintro i E H' hi ⟨hH, h2, h3, h5, hp⟩
       have hH0 : H <+: H' := (List.prefix_append _ _).trans hH
       have hB : ∀ l : Heap, (H' ++ l)[H.length]? = some (some ⟨2, [p.v], false, true⟩) := by
         intro l; obtain ⟨t, rfl⟩ := hH; simp
       have hC : ∀ l : Heap, (H' ++ l)[H.length + 1]? = some (some ⟨2, [q.v], false, true⟩) := by
         intro l; obtain ⟨t, rfl⟩ := hH; simp
       have hB0 : H'[H.length]? = some (some ⟨2, [p.v], false, true⟩) := by have := hB []; rwa [List.append_nil] at this
       have hC0 : H'[H.length + 1]? = some (some ⟨2, [q.v], false, true⟩) := by have := hC []; rwa [List.append_nil] at this
       have hBl : H.length < H'.length := (List.getElem?_eq_some_iff.1 hB0).1
       have hCl : H.length + 1 < H'.length := (List.getElem?_eq_some_iff.1 hC0).1
       have hap : ∀ n, (H.length + 1 == H'.length + n) = false := by intro n; simp; omega
       have hap0 : (H.length + 1 == H'.length) = false := by simp; omega
       have hne1 : ¬ (H.length + 1 = H'.length) := by omega
       rcases Nat.lt_or_ge i p.segs.length with hlt | hge
       · obtain ⟨s, hs⟩ : ∃ s, p.segs[i]? = some s := ⟨_, List.getElem?_eq_getElem hlt⟩
         obtain ⟨t, ht⟩ : ∃ t, q.segs[i]? = some t := ⟨_, List.getElem?_eq_getElem (by omega)⟩
         have hlt2 : i < q.segs.length := by omega
         have hs' : p.segs[i] = s := by rw [List.getElem?_eq_getElem hlt] at hs; injection hs
         have ht' : q.segs[i] = t := by rw [List.getElem?_eq_getElem hlt2] at ht; injection ht
         have ws := wp.at hs
         have wt := wq.at ht
         have f1 : IntKind.i64.wrap ((i : Int) + 1) = ((i + 1 : Nat) : Int) := by rw [wrap_i64] <;> omega
         simp [c_fpref37_Same_l0, h2, h3, h5, hB0, hC0, hlt, hlt2, hs', ht', sgs, apart, hne1]
         have no : ¬ s = t → ¬ p.segs = q.segs := by
           intro h h'
           rw [h', ht] at hs; injection hs with hs; exact h hs.symm
         have nx : s = t → ∀ (j : Nat) (x y : Sg), j < i + 1 → p.segs[j]? = some x → q.segs[j]? = some y → x = y := by
           intro h j x y hj hx hy
           rcases Nat.lt_or_ge j i with hji | hji
           · exact hp j x y hji hx hy
           · have : j = i := by omega
             subst this
             rw [hs] at hx; rw [ht] at hy
             injection hx with hx; injection hy with hy; rw [← hx, ← hy]; exact h
         have mk : s.fr = t.fr → s.to = t.to → s.tube = t.tube → s.en = t.en → s = t := by
           intro a b c d; cases s; cases t; simp at a b c d; simp [a, b, c, d]
         have T := take_pre (pre_app (l := [some ⟨8, [s.v], false, true⟩, some ⟨8, [t.v], false, true⟩]) hH0)
         have hH1 : H ++ [some ⟨2, [p.v], false, true⟩, some ⟨2, [q.v], false, true⟩] <+: H' ++ [some ⟨8, [s.v], false, true⟩, some ⟨8, [t.v], false, true⟩] := pre_app hH
         simp only [Sg.v, Pp.v, sgs] at T hH1
         repeat' first
           | (refine WL_call rfl rfl rfl (REqual_cq s.fr t.fr ws.fr wt.fr) ?_; simp)
           | (refine WL_call rfl rfl rfl (REqual_cq s.to t.to ws.to wt.to) ?_; simp)
           | (refine WL_call rfl rfl rfl (RBEqual_cq s.tube t.tube ws.tube wt.tube) ?_; simp)
           | (refine WL_call rfl rfl rfl (RBEqual_cq s.en t.en ws.en wt.en) ?_; simp [h2, h3, h5, T])
           | refine And.intro ?_ ?_
           | intro h
         all_goals first
           | exact no (fun h => by subst h; contradiction) (by assumption)
           | exact no (fun h => by subst h; simp_all) (by assumption)
           | exact T
           | exact hH1
           | (simpa using f1)
           | exact nx (mk (by assumption) (by assumption) (by assumption) (by assumption)) _ _ _ (by omega) (by assumption) (by assumption)
           | trace_state
       · have hin : i = p.segs.length := by omega
         subst hin
         have e1 : p.segs = q.segs := by
           refine List.ext_getElem? fun j => ?_
           rcases Nat.lt_or_ge j p.segs.length with hj | hj
           · rw [List.getElem?_eq_getElem hj, List.getElem?_eq_getElem (by omega)]
             congr 1
             exact hp j _ _ hj (List.getElem?_eq_getElem hj) (List.getElem?_eq_getElem (by omega))
           · rw [List.getElem?_eq_none hj, List.getElem?_eq_none (by omega)]
         simp [c_fpref37_Same_l0, h2, h5, hB0, sgs, take_pre hH0]
         exact e1
   · have hl' : ¬ (p.segs.length : Int) = q.segs.length := by omega
     have hne : ¬ p.segs = q.segs := fun h => hl (by rw [h])
     simp [hst, hl', hne]
 · simp [hst]

end Go.Abs.W

/- Cutting a valid pipe, in plain lists. -/
namespace Go.Abs.W

def sgOk (n : Nat) (bef : List Iv) (prev : Option Dy) (s : Sg) : Bool := s.fr.valid && s.to.valid && decide (s.fr.cmp s.to < 0) && decide (s.tube.length = n) && (prev.elim true fun q => decide (s.fr.cmp q = 0)) && boxIns s.en s.tube && boxIns bef s.tube
def okFrom (n : Nat) (bef : List Iv) (prev : Option Dy) : List Sg → Bool
 | [] => true
 | s :: l => sgOk n bef prev s && okFrom n s.en (some s.to) l

def befAt (bef : List Iv) (l : List Sg) : Nat → List Iv
 | 0 => bef
 | i + 1 => (l[i]?).elim [] Sg.en
def prevAt (prev : Option Dy) (l : List Sg) : Nat → Option Dy
 | 0 => prev
 | i + 1 => (l[i]?).map Sg.to

theorem okFrom_iff {n : Nat} : ∀ {l : List Sg} {bef : List Iv} {prev : Option Dy}, okFrom n bef prev l = true ↔
   ∀ i s, l[i]? = some s → sgOk n (befAt bef l i) (prevAt prev l i) s = true
 | [], bef, prev => by simp [okFrom]
 | x :: l, bef, prev => by
   simp only [okFrom, Bool.and_eq_true, okFrom_iff (l := l)]
   constructor
   · rintro ⟨h1, h2⟩ i s hs
     cases i with
     | zero => simp at hs; subst hs; exact h1
     | succ i =>
       have := h2 i s (by simpa using hs)
       cases i with
       | zero => exact this
       | succ i => exact this
   · intro h
     refine ⟨h 0 x rfl, fun i s hs => ?_⟩
     have := h (i + 1) s (by simpa using hs)
     cases i with
     | zero => exact this
     | succ i => exact this

theorem segAt_sgOk {p : Pp} {i : Nat} {s : Sg} (hs : p.segs[i]? = some s) : p.segAt i s = sgOk p.start.length (befAt p.start p.segs i) (prevAt none p.segs i) s := by
 cases i with
 | zero => rfl
 | succ i =>
   have hlt : i < p.segs.length := by have := (List.getElem?_eq_some_iff.1 hs).1; omega
   simp only [Pp.segAt, sgOk, Pp.lnk, Pp.bef, befAt, prevAt, List.getElem?_eq_getElem hlt, Option.elim_some, Option.map_some]

theorem segsOk_from {p : Pp} : p.segsOk = okFrom p.start.length p.start none p.segs := by
 rw [Bool.eq_iff_iff, segsOk_iff, okFrom_iff]
 constructor
 · intro h i s hs; rw [← segAt_sgOk hs]; exact h i s hs
 · intro h i s hs; rw [segAt_sgOk hs]; exact h i s hs

theorem ins_refl {x : Iv} (h : x.valid = true) (ha : x.all = false) : x.ins x = true := by
 have : ∀ d : Dy, d.cmp d ≤ 0 := by
   intro d; unfold Dy.cmp cmpI; split <;> simp
 simp [Iv.ins, h, ha, this]

theorem boxIns_refl {b : List Iv} (h : boxOk b = true) : boxIns b b = true := by
 simp only [boxIns, h, Bool.and_self, decide_true, Bool.true_and]
 rw [allB_iff]
 intro i x y hx hy
 rw [hx] at hy; injection hy with hy; subst hy
 simp [boxOk] at h
 have := h.2 x (List.mem_of_getElem? hx)
 exact ins_refl this.2 this.1

theorem cmp_lt {a b : Dy} (ha : a.valid = true) (hb : b.valid = true) : a.cmp b < 0 ↔ a.val < b.val := by rw [cmp_val ha hb, cmpI_neg_iff]

end Go.Abs.W

/- What cutting does to a valid pipe. -/
namespace Go.Abs.W

def Pp.cut (p : Pp) (t : Dy) : Pp := ⟨p.start, cutS t p.segs⟩

end Go.Abs.W

/- The law's own functions. -/
namespace Go.Abs.W

theorem Int_cq (n : Nat) (hn : n < 2147483648) : CQ prog g_fpref02_Int [.int .i64 n] (Dy.of false n 0).v := by
 refine CQ_run rfl fun H => ?_
 have e1 : IntKind.u64.wrap (n : Int) = n := wrap_nat_u64 _ (by omega)
 have e2 : ¬ (n : Int) < 0 := by omega
 have e3 := bitsI_mask n (by omega)
 rw [Nat.mod_eq_of_lt (by omega)] at e3
 have e4 : IntKind.u32.wrap (n : Int) = n := wrap_nat_u32 _ (by omega)
 have e5 : shiftI .shr .u64 (n : Int) 32 = some (.int .u64 ((n / 2 ^ 32 : Nat) : Int)) := shr64 n 32 (by omega)
 rw [Nat.div_eq_of_lt (by omega)] at e5
 have e6 : IntKind.u32.wrap 0 = 0 := by decide
 simp [e1, e2, e3, e4, e5, e6]
 refine WL_callH rfl rfl (H1 := H ++ [some ⟨3, [.agg [.bool false, .nil, .int .i64 0]], false, true⟩, some ⟨1, [.int .u32 n, .int .u32 0], true, false⟩]) (vs := [.bool false, lim [n, 0], .int .i64 0]) (by simp [prep, frzVs, frzV]; rfl) (Of_cq false [n, 0] 0 (by simp) (by intro x hx; simp at hx; omega) (by omega) (by omega)) ?_
 have : natV [n, 0] = n := by simp [natV]
 rw [this]
 simp

def d0 : Dy := ⟨false, [], 0⟩
def d1 : Dy := ⟨false, [1], 0⟩
def d2 : Dy := ⟨false, [1], 1⟩
def d3 : Dy := ⟨false, [3], 0⟩
theorem limbsOf_small {n : Nat} (h : n < 4294967296) (h0 : n ≠ 0) : limbsOf n = [n] := by
 rw [limbsOf_pos h0, Nat.mod_eq_of_lt h, Nat.div_eq_of_lt h, limbsOf_zero]
theorem of_0 : Dy.of false 0 0 = d0 := rfl
theorem of_1 : Dy.of false 1 0 = d1 := by simp [Dy.of, d1, tz_odd, limbsOf_small]
theorem of_2 : Dy.of false 2 0 = d2 := by
 have : tz 2 = 1 := by rw [tz_even (by omega) (by omega)]; simp [tz_odd]
 simp [Dy.of, d2, this, limbsOf_small]
theorem of_3 : Dy.of false 3 0 = d3 := by simp [Dy.of, d3, tz_odd, limbsOf_small]

theorem n_cq (n : Nat) (hn : n < 2147483648) : CQ prog g_fplaw37_n [.int .i64 n] (Dy.of false n 0).v := by
 refine CQ_run rfl fun H => ?_
 simp
 refine WL_call rfl rfl rfl (Int_cq n hn) ?_
 simp

theorem of_cq (a b : Nat) (ha : a < 2147483648) (hb : b < 2147483648) : CQ prog g_fplaw37_of [.int .i64 a, .int .i64 b] (ivs [⟨Dy.of false a 0, Dy.of false b 0, false⟩]) := by
 refine CQ_run rfl fun H => ?_
 simp
 refine WL_call rfl rfl rfl (n_cq a ha) ?_
 simp
 refine WL_call rfl rfl rfl (n_cq b hb) ?_
 simp [ivs]

def iv (a b : Dy) : List Iv := [⟨a, b, false⟩]
def exP : Pp := ⟨iv d0 d0, [⟨d0, d1, iv d0 d2, iv d1 d1⟩, ⟨d1, d3, iv d1 d3, iv d3 d3⟩]⟩

theorem example_cq : CQ prog g_fplaw37_example [] exP.v := by
 refine CQ_run rfl fun H => ?_
 simp
 have o00 := of_cq 0 0 (by omega) (by omega)
 have o02 := of_cq 0 2 (by omega) (by omega)
 have o11 := of_cq 1 1 (by omega) (by omega)
 have o13 := of_cq 1 3 (by omega) (by omega)
 have o33 := of_cq 3 3 (by omega) (by omega)
 have n0 := n_cq 0 (by omega)
 have n1 := n_cq 1 (by omega)
 have n3 := n_cq 3 (by omega)
 rw [of_0] at n0 o00 o02; rw [of_1] at n1 o11 o13; rw [of_3] at n3 o13 o33; rw [of_2] at o02
 refine WL_call rfl rfl rfl o00 ?_
 simp
 refine WL_call rfl rfl rfl n0 ?_
 simp
 refine WL_call rfl rfl rfl n1 ?_
 simp
 refine WL_call rfl rfl rfl o02 ?_
 simp
 refine WL_call rfl rfl rfl o11 ?_
 simp
 refine WL_call rfl rfl rfl n1 ?_
 simp
 refine WL_call rfl rfl rfl n3 ?_
 simp
 refine WL_call rfl rfl rfl o13 ?_
 simp
 refine WL_call rfl rfl rfl o33 ?_
 simp [exP, sgs, iv]

end Go.Abs.W

/- The example of the chapter, and the limits. -/
namespace Go.Abs.W

theorem d0_W : d0.W := ⟨by intro x hx; simp [d0] at hx, by simp [d0]⟩
theorem d1_W : d1.W := ⟨by intro x hx; simp [d1] at hx; omega, by simp [d1]⟩
theorem d2_W : d2.W := ⟨by intro x hx; simp [d2] at hx; omega, by simp [d2]⟩
theorem d3_W : d3.W := ⟨by intro x hx; simp [d3] at hx; omega, by simp [d3]⟩
theorem iv_W {a b : Dy} (ha : a.W) (hb : b.W) : BxW (iv a b) := ⟨by simp [iv], by intro x hx; simp [iv] at hx; subst hx; exact ⟨ha, hb⟩⟩
theorem ex_W : exP.W := by
 refine ⟨iv_W d0_W d0_W, by simp [exP], fun s hs => ?_⟩
 simp [exP] at hs
 rcases hs with rfl | rfl
 · exact ⟨d0_W, d1_W, iv_W d0_W d2_W, iv_W d1_W d1_W⟩
 · exact ⟨d1_W, d3_W, iv_W d1_W d3_W, iv_W d3_W d3_W⟩

theorem ex_e1 : exP.atE d1 = 0 := by decide +kernel
theorem ex_e2 : exP.atE d2 = 0 := by decide +kernel
theorem ex_a1 : exP.at d1 = iv d1 d1 := by decide +kernel
theorem ex_a2 : exP.at d2 = iv d1 d3 := by decide +kernel
theorem ex_c2 : cutS d2 exP.segs = [⟨d0, d1, iv d0 d2, iv d1 d1⟩, ⟨d1, d2, iv d1 d3, iv d1 d3⟩] := by decide +kernel
theorem ex_v : exP.valid = true := by decide +kernel

set_option maxHeartbeats 4000000 in
theorem awake_cq : CQ prog g_fplaw37_awake [] (.bool true) := by
 refine CQ_run rfl fun H => ?_
 have n1 := n_cq 1 (by omega)
 have n2 := n_cq 2 (by omega)
 have o11 := of_cq 1 1 (by omega) (by omega)
 have o13 := of_cq 1 3 (by omega) (by omega)
 rw [of_1] at n1 o11 o13; rw [of_2] at n2; rw [of_3] at o13
 have a1 : exP.atR d1 = iv d1 d1 := by rw [Pp.atR, if_pos ex_e1, ex_a1]
 have a2 : exP.atR d2 = iv d1 d3 := by rw [Pp.atR, if_pos ex_e2, ex_a2]
 have c2 : exP.cutR d2 = ⟨iv d0 d0, [⟨d0, d1, iv d0 d2, iv d1 d1⟩, ⟨d1, d2, iv d1 d3, iv d1 d3⟩]⟩ := by rw [Pp.cutR, if_pos ex_e2, ex_c2]; rfl
 have t1 := At_cq exP d1 ex_W d1_W
 have t2 := At_cq exP d2 ex_W d2_W
 have t3 := Cut_cq exP d2 ex_W d2_W
 rw [a1, ex_e1] at t1
 rw [a2, ex_e2] at t2
 rw [c2, ex_e2] at t3
 have w11 := iv_W d1_W d1_W
 have w13 := iv_W d1_W d3_W
 simp
 refine WL_call rfl rfl rfl example_cq ?_
 simp
 refine WL_call rfl rfl rfl n1 ?_
 simp
 refine WL_call rfl rfl rfl t1 ?_
 simp
 refine WL_call rfl rfl rfl n2 ?_
 simp
 refine WL_call rfl rfl rfl t2 ?_
 simp
 refine WL_call rfl rfl rfl n2 ?_
 simp
 refine WL_call rfl rfl rfl t3 ?_
 simp
 refine WL_call rfl rfl rfl o11 ?_
 simp
 refine WL_call rfl rfl rfl (RBEqual_cq (iv d1 d1) (iv d1 d1) w11 w11) ?_
 simp
 refine WL_call rfl rfl rfl o13 ?_
 simp
 refine WL_call rfl rfl rfl (RBEqual_cq (iv d1 d3) (iv d1 d3) w13 w13) ?_
 simp [sgs]
 refine WL_call rfl rfl rfl o13 ?_
 simp
 refine WL_call rfl rfl rfl (RBEqual_cq (iv d1 d3) (iv d1 d3) w13 w13) ?_
 simp
 refine WL_call rfl rfl rfl (PValid_cq exP ex_W) ?_
 simp [ex_v]

def Dy.long (d : Dy) : Bool := decide (20 < d.m.length)
def wideB (b : List Iv) : Bool := decide (10 < b.length) || b.any fun x => x.lo.long || x.hi.long
def Sg.great (s : Sg) : Bool := s.fr.long || s.to.long || wideB s.tube || wideB s.en
def Pp.great (p : Pp) : Bool := decide (30 < p.segs.length) || wideB p.start || p.segs.any Sg.great

theorem long_cq' (d : Dy) : CQ prog g_fplaw37_long [d.v] (.bool d.long) := by
 refine CQ_run rfl fun H => ?_
 simp [lim, Dy.long]
 omega

theorem wide1_cq (x : Iv) : CQ prog g_fplaw37_wide_1 [x.v] (.bool (x.lo.long || x.hi.long)) := by
 refine CQ_run rfl fun H => ?_
 simp
 repeat' first
   | (refine WL_call rfl rfl rfl (long_cq' x.lo) ?_; simp)
   | (refine WL_call rfl rfl rfl (long_cq' x.hi) ?_; simp)
   | refine And.intro ?_ ?_
   | intro _
 all_goals first | (simp [*]; done) | grind

theorem wide_cq (b : List Iv) (hb : b.length ≤ 9223372036854775807) : CQ prog g_fplaw37_wide [ivs b] (.bool (wideB b)) := by
 refine CQ_run rfl fun H => ?_
 have e : (10 : Int) < b.length ↔ 10 < b.length := by omega
 simp [ivs]
 repeat' first
   | (refine WL_ev rfl rfl rfl (ContainsIv_ev b hb fun x hx => Cb_of (fun _ => rfl) (wide1_cq x)) ?_; simp)
   | refine And.intro ?_ ?_
   | intro _
 all_goals first | (simp [wideB, *]; done) | (simp [wideB]; omega) | (simp [wideB]; grind)

theorem great11_cq (s : Sg) (h1 : s.tube.length ≤ 9223372036854775807) (h2 : s.en.length ≤ 9223372036854775807) : CQ prog g_fplaw37_great_1_1 [s.v] (.bool s.great) := by
 refine CQ_run rfl fun H => ?_
 simp
 repeat' first
   | (refine WL_call rfl rfl rfl (long_cq' s.fr) ?_; simp)
   | (refine WL_call rfl rfl rfl (long_cq' s.to) ?_; simp)
   | (refine WL_call rfl rfl rfl (wide_cq s.tube h1) ?_; simp)
   | (refine WL_call rfl rfl rfl (wide_cq s.en h2) ?_; simp)
   | refine And.intro ?_ ?_
   | intro _
 all_goals (simp [Sg.great, *])

structure Pp.L (p : Pp) : Prop where
 start : p.start.length ≤ 9223372036854775807
 segs : p.segs.length ≤ 9223372036854775807
 all : ∀ s ∈ p.segs, s.tube.length ≤ 9223372036854775807 ∧ s.en.length ≤ 9223372036854775807

theorem great1_cq (p : Pp) (w : p.L) : CQ prog g_fplaw37_great_1 [p.v] (.bool p.great) := by
 refine CQ_run rfl fun H => ?_
 have e : (30 : Int) < p.segs.length ↔ 30 < p.segs.length := by omega
 simp [sgs]
 repeat' first
   | (refine WL_call rfl rfl rfl (wide_cq p.start w.start) ?_; simp)
   | (refine WL_ev rfl rfl rfl (ContainsSg_ev p.segs w.segs fun x hx => Cb_of (fun _ => rfl) (great11_cq x (w.all x hx).1 (w.all x hx).2)) ?_; simp)
   | refine And.intro ?_ ?_
   | intro _
 all_goals first | (simp [Pp.great, *]; done) | (simp [Pp.great]; omega) | (simp [Pp.great]; grind)

theorem great_cq (l : List Pp) (hl : l.length ≤ 9223372036854775807) (w : ∀ p ∈ l, p.L) : CQ prog g_fplaw37_great [pps l] (.bool (l.any Pp.great)) := by
 refine CQ_run rfl fun H => ?_
 simp
 refine WL_ev rfl rfl rfl (ContainsPp_ev l hl fun x hx => Cb_of (fun _ => rfl) (great1_cq x (w x hx))) ?_
 simp

theorem zero_cq (p : Pp) : CQ prog g_fplaw37_zero [p.v] (.bool (decide (p.start = []) && decide (p.segs = []))) := by
 refine CQ_run rfl fun H => ?_
 simp [ivs, sgs]
 grind

end Go.Abs.W

