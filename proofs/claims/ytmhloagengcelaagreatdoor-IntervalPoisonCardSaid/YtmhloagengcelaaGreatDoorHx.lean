/- Parts of the proof: FpIvPo. -/
import Derived.Test.YtmhloagengcelaaGreatDoorHr
import Derived.Test.YtmhloagengcelaaGreatDoorHp
/- The law IntervalPoison. -/
namespace Go.Abs.W

/-- A call whose contract is an Ev at the memory that the arguments' freezing leaves. -/
theorem WL_evH {n0 : Nat} {Q : AX → Env → Heap → Prop} {d : Bool} {dst : Option Nat} {l : List AOper} {K : List Fr} {E : Env} {H H1 : Heap} {x : X} {caps args vs : List V} {xs : List X} {g : Nat} {v : V}
    (hx : getX E x = .fn g caps) (ha : xs.map (getX E) ++ caps = args) (hp : prep prog g H args = some (vs, H1)) (h : Ev prog (.call g vs H1) (.ret v H1)) (k : WL prog n0 d l K (put E dst v) H1 Q) : WLcall prog n0 d dst x xs true l K E H Q :=
  WO_call hx ha hp ⟨_, _, h, fun h => by simp at h, k⟩

theorem all_ev {H : Heap} {b : Nat} (hb : H[b]? = some (some ⟨7, [Iv.whole.v], false, true⟩)) (l : List Iv) (hl : l.length ≤ 1000000) (h : ∀ y ∈ l, y = Iv.whole) :
    Ev prog (.call g_fplaw05_IntervalPoison_1 [ivs l, .ptr b 0 0] H) (.ret (.bool true) H) := by
  refine Ev_run rfl ?_
  simp [ivs]
  refine WK_up (fun i E H' => H <+: H' ∧ E 1 = .ptr b 0 0 ∧ E 6 = ivs l ∧ E 7 = .int .i64 l.length ∧ E 8 = .int .i64 i) l.length ?_ ?_
  · simp [ivs]
  · rintro i E H' hi ⟨hH, h1, h6, h7, h8⟩
    simp only [ivs] at h6 ⊢
    have hb' : H'[b]? = some (some ⟨7, [Iv.whole.v], false, true⟩) := by
      obtain ⟨G, rfl⟩ := hH
      rw [List.getElem?_append_left (List.getElem?_eq_some_iff.1 hb).1]; exact hb
    have hbl : b < H'.length := (List.getElem?_eq_some_iff.1 hb').1
    rcases Nat.lt_or_ge i l.length with hlt | hge
    · have e2 : IntKind.i64.wrap ((i : Int) + 1) = ((i + 1 : Nat) : Int) := by rw [wrap_i64] <;> omega
      have hy : l[i] = Iv.whole := h _ (List.getElem_mem hlt)
      have hbe : H'[b]'hbl = some ⟨7, [Iv.whole.v], false, true⟩ := (List.getElem?_eq_some_iff.1 hb').2
      simp [c_fplaw05_IntervalPoison_1_l0, h1, h6, h7, h8, hlt, hy, hbe, hbl, List.getElem?_append_left]
      refine WL_call rfl rfl rfl (same5_refl Iv.whole_W) ?_
      simp [h1, h6, h7, h8, e2]
      exact pre_app hH
    · have hin : i = l.length := by omega
      subst hin
      simp [c_fplaw05_IntervalPoison_1_l0, h7, h8, take_pre hH]

theorem known_whole : Iv.whole.known = false := rfl
theorem poison_facts (x : Iv) (k p : Int) : ∀ y ∈ [Iv.whole.add x p, x.add Iv.whole p, Iv.whole.add x.neg p, x.add Iv.whole.neg p, Iv.whole.mul x p, x.mul Iv.whole p, Iv.whole.div x p, x.div Iv.whole p, Iv.whole.sq p, Iv.whole.pow k p, Iv.whole.sqrt p,
    Iv.whole.neg, Iv.whole.abs, Iv.whole.scl k, Iv.whole.hull x, x.hull Iv.whole], y = Iv.whole := by
  have hk := known_whole
  have hn : Iv.whole.neg = Iv.whole := rfl
  have ha : Iv.whole.abs = Iv.whole := rfl
  have hall : Iv.whole.all = true := rfl
  intro y hy
  simp only [List.mem_cons, List.not_mem_nil, or_false] at hy
  rcases hy with rfl | rfl | rfl | rfl | rfl | rfl | rfl | rfl | rfl | rfl | rfl | rfl | rfl | rfl | rfl | rfl
  · simp [Iv.add, hk]
  · simp [Iv.add, hk]
  · simp [Iv.add, hk]
  · rw [hn]; simp [Iv.add, hk]
  · simp [Iv.mul, hk]
  · simp [Iv.mul, hk]
  · simp [Iv.div, hk]
  · simp [Iv.div, hk]
  · simp [Iv.sq, ha, hall]
  · simp [Iv.pow, hk]
  · simp [Iv.sqrt, hk]
  · rfl
  · rfl
  · simp [Iv.scl, hk]
  · simp [Iv.hull, hk]
  · simp [Iv.hull, hk]

theorem div_undef {y x : Iv} {p : Int} (h : x.sgn = 0) : y.div x p = Iv.whole := by simp [Iv.div, h]
theorem sqrt_undef {x : Iv} {p : Int} (h : x.sgn ≤ 0) : x.sqrt p = Iv.whole := by
  unfold Iv.sqrt
  unfold Iv.sgn at h
  cases hk : x.known
  · simp
  · rw [hk] at h
    have : ¬ 0 < x.lo.sgn := by
      intro h2
      simp [h2] at h
    simp [this]
theorem poison_in {x : Iv} (hv : x.valid = true) : x.ins Iv.whole = true ∧ (x.all = false → Iv.whole.ins x = false) := by
  have h1 : Iv.whole.valid = true := rfl
  have h2 : Iv.whole.all = true := rfl
  exact ⟨by simp [Iv.ins, hv, h1, h2], fun ha => by simp [Iv.ins, ha, h2]⟩

set_option maxHeartbeats 2000000 in
theorem poison_cq (x : Iv) (k p : Int) (lx : x.Lm) : CQ prog g_fplaw05_IntervalPoison [x.v, .int .i64 k, .int .i64 p] (.bool true) := by
  refine CQ_run rfl fun H => ?_
  have gc := great5_cq [x] (by simp)
  simp
  refine WL_call rfl rfl rfl awake5_cq ?_
  simp
  refine WL_callH rfl rfl (H1 := H ++ [some ⟨7, [x.v], false, true⟩, some ⟨7, [x.v], true, false⟩]) (vs := [ivs [x]]) (by simp [prep, frzVs, frzV]; rfl) gc ?_
  cases gx : x.great
  · have wx := W_of_great lx gx
    have w0 := Iv.whole_W
    have pf := poison_facts x k p
    have nx := neg_W wx
    have nw := neg_W w0
    have c0 := IAdd_cq Iv.whole x p w0 wx
    rw [pf (Iv.whole.add x p) (by simp)] at c0
    have c1 := IAdd_cq x Iv.whole p wx w0
    rw [pf (x.add Iv.whole p) (by simp)] at c1
    have c2 := ISub_cq Iv.whole x p w0 wx
    rw [pf (Iv.whole.add x.neg p) (by simp)] at c2
    have c3 := ISub_cq x Iv.whole p wx w0
    rw [pf (x.add Iv.whole.neg p) (by simp)] at c3
    have c4 := IMul_cq Iv.whole x p w0 wx
    rw [pf (Iv.whole.mul x p) (by simp)] at c4
    have c5 := IMul_cq x Iv.whole p wx w0
    rw [pf (x.mul Iv.whole p) (by simp)] at c5
    have c6 := IDiv_cq Iv.whole x p w0 wx
    rw [pf (Iv.whole.div x p) (by simp)] at c6
    have c7 := IDiv_cq x Iv.whole p wx w0
    rw [pf (x.div Iv.whole p) (by simp)] at c7
    have c8 := ISquare_cq Iv.whole p w0
    rw [pf (Iv.whole.sq p) (by simp)] at c8
    have c9 := IPower_cq Iv.whole k p w0
    rw [pf (Iv.whole.pow k p) (by simp)] at c9
    have c10 := ISqrt_cq Iv.whole p w0
    rw [pf (Iv.whole.sqrt p) (by simp)] at c10
    have c11 := INeg_cq Iv.whole w0
    rw [pf (Iv.whole.neg) (by simp)] at c11
    have c12 := IAbs_cq Iv.whole w0
    rw [pf (Iv.whole.abs) (by simp)] at c12
    have c13 := IScale_cq Iv.whole k w0
    rw [pf (Iv.whole.scl k) (by simp)] at c13
    have c14 := iHull_cq Iv.whole x w0 wx
    rw [pf (Iv.whole.hull x) (by simp)] at c14
    have c15 := iHull_cq x Iv.whole wx w0
    rw [pf (x.hull Iv.whole) (by simp)] at c15
    simp [gx]
    refine WL_call rfl rfl rfl iWhole_cq ?_
    simp [V.isCell]
    refine WL_call rfl rfl rfl c0 ?_
    simp
    refine WL_call rfl rfl rfl c1 ?_
    simp
    refine WL_call rfl rfl rfl c2 ?_
    simp
    refine WL_call rfl rfl rfl c3 ?_
    simp
    refine WL_call rfl rfl rfl c4 ?_
    simp
    refine WL_call rfl rfl rfl c5 ?_
    simp
    refine WL_call rfl rfl rfl c6 ?_
    simp
    refine WL_call rfl rfl rfl c7 ?_
    simp
    refine WL_call rfl rfl rfl c8 ?_
    simp
    refine WL_call rfl rfl rfl c9 ?_
    simp
    refine WL_call rfl rfl rfl c10 ?_
    simp
    refine WL_call rfl rfl rfl c11 ?_
    simp
    refine WL_call rfl rfl rfl c12 ?_
    simp
    refine WL_call rfl rfl rfl c13 ?_
    simp
    refine WL_call rfl rfl rfl c14 ?_
    simp
    refine WL_call rfl rfl rfl c15 ?_
    simp
    refine WL_evH (H1 := H ++ [some ⟨7, [x.v], false, true⟩, some ⟨7, [x.v], true, false⟩, some ⟨7, [Iv.whole.v], false, true⟩, some ⟨7, List.replicate 16 Iv.whole.v, true, false⟩]) (vs := [ivs (List.replicate 16 Iv.whole), .ptr (H.length + 2) 0 0]) rfl rfl (by simp [prep, frzVs, frzV]; rfl) (all_ev (by simp) _ (by simp) (fun y hy => List.eq_of_mem_replicate hy)) ?_
    generalize (some ⟨7, List.replicate 16 Iv.whole.v, true, false⟩ : Option Blk) = D
    have w11 : (nI 1 1).W := nI_W (by omega) (by omega)
    have dc := IDiv_cq (nI 1 1) x p w11 wx
    have sc := ISqrt_cq x p wx
    have oc := of5_cq 1 1 (by omega) (by omega) (by omega) (by omega)
    generalize nI 1 1 = u at *
    simp
    refine WL_call rfl rfl rfl (ISign_cq x wx) ?_
    by_cases h0 : x.sgn = 0
    · rw [div_undef h0] at dc
      rw [sqrt_undef (by omega)] at sc
      simp [h0]
      refine WL_call rfl rfl rfl oc ?_
      simp
      refine WL_call rfl rfl rfl dc ?_
      simp
      refine WL_evH (H1 := H ++ [some ⟨7, [x.v], false, true⟩, some ⟨7, [x.v], true, false⟩, some ⟨7, [Iv.whole.v], false, true⟩, D, some ⟨7, [Iv.whole.v], true, false⟩]) (vs := [ivs [Iv.whole], .ptr (H.length + 2) 0 0]) rfl rfl (by simp [prep, frzVs, frzV]; rfl) (all_ev (by simp) _ (by simp) (by simp)) ?_
      simp
      refine WL_call rfl rfl rfl (ISign_cq x wx) ?_
      simp [h0]
      refine WL_call rfl rfl rfl sc ?_
      simp
      refine WL_evH (H1 := H ++ [some ⟨7, [x.v], false, true⟩, some ⟨7, [x.v], true, false⟩, some ⟨7, [Iv.whole.v], false, true⟩, D, some ⟨7, [Iv.whole.v], true, false⟩, some ⟨7, [Iv.whole.v], true, false⟩]) (vs := [ivs [Iv.whole], .ptr (H.length + 2) 0 0]) rfl rfl (by simp [prep, frzVs, frzV]; rfl) (all_ev (by simp) _ (by simp) (by simp)) ?_
      simp
      refine WL_call rfl rfl rfl (IValid_cq x wx) ?_
      cases hv : x.valid
      · simp
      · have i1 := IInside_cq x Iv.whole wx w0
        have i2 := IInside_cq Iv.whole x w0 wx
        rw [(poison_in hv).1] at i1
        simp
        refine WL_call rfl rfl rfl i1 ?_
        cases ha : x.all
        · rw [(poison_in hv).2 ha] at i2
          simp [ha] at i2
          simp
          refine WL_call rfl rfl rfl i2 ?_
          simp
        · simp
    · simp [h0]
      by_cases h1 : x.sgn ≤ 0
      · rw [sqrt_undef h1] at sc
        refine WL_call rfl rfl rfl (ISign_cq x wx) ?_
        simp [h1]
        refine WL_call rfl rfl rfl sc ?_
        simp
        refine WL_evH (H1 := H ++ [some ⟨7, [x.v], false, true⟩, some ⟨7, [x.v], true, false⟩, some ⟨7, [Iv.whole.v], false, true⟩, D, some ⟨7, [Iv.whole.v], true, false⟩]) (vs := [ivs [Iv.whole], .ptr (H.length + 2) 0 0]) rfl rfl (by simp [prep, frzVs, frzV]; rfl) (all_ev (by simp) _ (by simp) (by simp)) ?_
        simp
        refine WL_call rfl rfl rfl (IValid_cq x wx) ?_
        cases hv : x.valid
        · simp
        · have i1 := IInside_cq x Iv.whole wx w0
          have i2 := IInside_cq Iv.whole x w0 wx
          rw [(poison_in hv).1] at i1
          simp
          refine WL_call rfl rfl rfl i1 ?_
          cases ha : x.all
          · rw [(poison_in hv).2 ha] at i2
            simp [ha] at i2
            simp
            refine WL_call rfl rfl rfl i2 ?_
            simp
          · simp
      · refine WL_call rfl rfl rfl (ISign_cq x wx) ?_
        simp [h1]
        refine WL_call rfl rfl rfl (IValid_cq x wx) ?_
        cases hv : x.valid
        · simp
        · have i1 := IInside_cq x Iv.whole wx w0
          have i2 := IInside_cq Iv.whole x w0 wx
          rw [(poison_in hv).1] at i1
          simp
          refine WL_call rfl rfl rfl i1 ?_
          cases ha : x.all
          · rw [(poison_in hv).2 ha] at i2
            simp [ha] at i2
            simp
            refine WL_call rfl rfl rfl i2 ?_
            simp
          · simp
  · simp [gx]

end Go.Abs.W

