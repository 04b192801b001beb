/- Parts of the proof: FpIvSt. -/
import Derived.Test.YtmhloagengcelaaGreatDoorHm
/- The laws IntervalSets and IntervalMeasures. -/
namespace Go.Abs.W

theorem isZ_eq {d : Dy} (h : d.isZ = true) : d = Dy.zero := by
  obtain ⟨a, m, e⟩ := d
  simp [Dy.isZ] at h
  simp [Dy.zero, h]
theorem cmp_self {a : Dy} (h : a.Ok) : a.cmp a = 0 := (cmp_zero h h).2 rfl
theorem cmp_le_le {a b : Dy} (ha : a.Ok) (hb : b.Ok) (h1 : a.cmp b ≤ 0) (h2 : b.cmp a ≤ 0) : a = b := by
  rw [cmp_ok ha hb, cmpI_le] at h1
  rw [cmp_ok hb ha, cmpI_le] at h2
  exact val_inj ha hb (by omega)

theorem ins_anti {x y : Iv} (wx : x.W) (wy : y.W) : (x.ins y && y.ins x) = (x.valid && y.valid && decide (x = y)) := by
  cases hx : x.valid
  · simp [Iv.ins, hx]
  cases hy : y.valid
  · simp [Iv.ins, hx, hy]
  cases ax : x.all <;> cases ay : y.all
  · have l1 := wx.okLo hx ax
    have l2 := wx.okHi hx ax
    have l3 := wy.okLo hy ay
    have l4 := wy.okHi hy ay
    rw [Bool.eq_iff_iff]
    simp [Iv.ins, hx, hy, ax, ay]
    constructor
    · rintro ⟨⟨h1, h2⟩, h3, h4⟩
      have e1 := cmp_le_le l1 l3 h3 h1
      have e2 := cmp_le_le l2 l4 h2 h4
      obtain ⟨a, b, c⟩ := x
      obtain ⟨a', b', c'⟩ := y
      simp_all
    · rintro rfl
      simp [cmp_self l1, cmp_self l2]
  · have : ¬ x = y := by rintro rfl; rw [ax] at ay; cases ay
    simp [Iv.ins, hx, hy, ax, ay, this]
  · have : ¬ x = y := by rintro rfl; rw [ax] at ay; cases ay
    simp [Iv.ins, hx, hy, ax, ay, this]
  · have : x = y := by
      obtain ⟨a, b, c⟩ := x
      obtain ⟨a', b', c'⟩ := y
      simp [Iv.valid] at ax ay hx hy
      subst ax ay
      simp at hx hy
      rw [isZ_eq hx.1, isZ_eq hx.2, isZ_eq hy.1, isZ_eq hy.2]
    subst this
    simp [Iv.ins, hx, ax]

theorem meet_W' {x y : Iv} (wx : x.W) (wy : y.W) : ((x.meet y).getD Iv.zero).W := by
  cases h : x.meet y
  · exact zero0_W
  · exact wx.meet wy h
theorem hull_W {x y : Iv} (wx : x.W) (wy : y.W) : (x.hull y).W := by
  unfold Iv.hull; split
  · exact ⟨wx.lo.lo2 wy.lo, wx.hi.hi2 wy.hi⟩
  · exact Iv.whole_W

set_option maxHeartbeats 1000000 in
theorem sets_cq (x y : Iv) (d : Dy) (lx : x.Lm) (ly : y.Lm) (ld : Li d.m) : CQ prog g_fplaw05_IntervalSets [x.v, y.v, d.v] (.bool true) := by
  refine CQ_run rfl fun H => ?_
  have gc := great5_cq [x, y] (by simp)
  have hc := huge5_cq [d] (by simp)
  simp
  refine WL_call rfl rfl rfl awake5_cq ?_
  simp
  refine WL_callH rfl rfl (H1 := H ++ [some ⟨7, [x.v], false, true⟩, some ⟨7, [y.v], false, true⟩, some ⟨3, [d.v], false, true⟩, some ⟨7, [x.v, y.v], true, false⟩]) (vs := [ivs [x, y]]) (by simp [prep, frzVs, frzV]; rfl) gc ?_
  cases gx : x.great
  · cases gy : y.great
    · have wx := W_of_great lx gx
      have wy := W_of_great ly gy
      simp [gx, gy]
      refine WL_callH rfl rfl (H1 := H ++ [some ⟨7, [x.v], false, true⟩, some ⟨7, [y.v], false, true⟩, some ⟨3, [d.v], false, true⟩, some ⟨7, [x.v, y.v], true, false⟩, some ⟨3, [d.v], true, false⟩]) (vs := [dys [d]]) (by simp [prep, frzVs, frzV]; rfl) hc ?_
      cases gd : d.huge
      · have wd : d.W := ⟨ld, by simp [Dy.huge] at gd; omega⟩
        have m1 := iMeet_cq x y wx wy
        have m2 := RMeet_cq x y wx wy
        have wm := meet_W' wx wy
        have wh := hull_W wx wy
        have eq := IEqual_cq x y wx wy
        rw [ins_anti wx wy] at eq
        unfold meetV at m1 m2
        generalize (x.meet y).getD Iv.zero = z at *
        generalize (x.meet y).isSome = b at *
        simp [gd]
        refine WL_call rfl rfl rfl m1 ?_
        simp
        refine WL_call rfl rfl rfl m2 ?_
        simp
        refine WL_call rfl rfl rfl (same5_refl wm) ?_
        simp
        refine WL_call rfl rfl rfl (iHull_cq x y wx wy) ?_
        simp
        refine WL_call rfl rfl rfl (RHull_cq x y wx wy) ?_
        simp
        refine WL_call rfl rfl rfl (same5_refl wh) ?_
        simp
        refine WL_call rfl rfl rfl (IHas_cq x d wx wd) ?_
        simp
        refine WL_call rfl rfl rfl (RIHas_cq x d wx wd) ?_
        simp
        refine WL_call rfl rfl rfl (IInside_cq x y wx wy) ?_
        simp
        refine WL_call rfl rfl rfl (RIInside_cq x y wx wy) ?_
        simp
        refine WL_call rfl rfl rfl (IInterior_cq x y wx wy) ?_
        simp
        refine WL_call rfl rfl rfl (RIInterior_cq x y wx wy) ?_
        simp
        refine WL_call rfl rfl rfl eq ?_
        simp
        refine WL_call rfl rfl rfl (RIValid_cq x wx) ?_
        cases hx : x.valid
        · simp
          refine WL_call rfl rfl rfl (ISign_cq x wx) ?_
          simp
          refine WL_call rfl rfl rfl (RISign_cq x wx) ?_
          simp
        · simp
          refine WL_call rfl rfl rfl (RIValid_cq y wy) ?_
          cases hy : y.valid
          · simp
            refine WL_call rfl rfl rfl (ISign_cq x wx) ?_
            simp
            refine WL_call rfl rfl rfl (RISign_cq x wx) ?_
            simp
          · simp
            refine WL_call rfl rfl rfl (same5_cq x y wx wy) ?_
            simp
            refine WL_call rfl rfl rfl (ISign_cq x wx) ?_
            simp
            refine WL_call rfl rfl rfl (RISign_cq x wx) ?_
            simp
      · simp [gd]
    · simp [gx, gy]
  · simp [gx]

end Go.Abs.W

