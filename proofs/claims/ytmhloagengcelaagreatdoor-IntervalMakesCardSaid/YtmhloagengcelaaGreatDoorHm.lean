/- Parts of the proof: FpIvMk. -/
import Derived.Test.YtmhloagengcelaaGreatDoorHh
/- The laws IntervalMakes, IntervalSets and IntervalMeasures. -/
namespace Go.Abs.W

theorem same5_at {x y : Iv} {v w : V} (wx : x.W) (wy : y.W) (hv : v = x.v) (hw : w = y.v) : CQ prog g_fplaw05_same [v, w] (.bool (decide (x = y))) := by
  subst hv hw; exact same5_cq x y wx wy

theorem makes_cq (x : Iv) (lx : x.Lm) : CQ prog g_fplaw05_IntervalMakes [x.v] (.bool true) := by
  refine CQ_run rfl fun H => ?_
  have gc := great5_cq [x] (by simp)
  simp
  refine WL_call rfl rfl rfl awake5_cq ?_
  simp
  refine WL_callH rfl rfl (H1 := H ++ [some ⟨7, [x.v], false, true⟩, some ⟨7, [x.v], true, false⟩]) (vs := [ivs [x]]) (by simp [prep, frzVs, frzV]; rfl) gc ?_
  cases gx : x.great
  · have wx := W_of_great lx gx
    have wt : (Iv.mk x.lo x.hi false).W := ⟨wx.lo, wx.hi⟩
    have nc := INew_cq x.lo x.hi wx.lo wx.hi
    have pc := IPoint_cq x.lo wx.lo
    simp [gx]
    cases hv : (Iv.mk x.lo x.hi false).valid
    · rw [hv] at nc
      simp at nc
      refine WL_call rfl rfl rfl nc ?_
      simp
      refine WL_call rfl rfl rfl (RIValid_cq (Iv.mk x.lo x.hi false) wt) ?_
      simp [hv]
      refine WL_call rfl rfl rfl (same5_at (x := Iv.zero0) (y := Iv.zero0) zero0_W zero0_W rfl rfl) ?_
      simp
      cases hd : x.lo.valid
      · rw [hd] at pc
        simp at pc
        refine WL_call rfl rfl rfl pc ?_
        simp
        refine WL_call rfl rfl rfl (RValid_cq x.lo wx.lo) ?_
        simp [hd]
        refine WL_call rfl rfl rfl RWhole_cq ?_
        simp
        refine WL_call rfl rfl rfl (same5_refl Iv.whole_W) ?_
        simp
        refine WL_call rfl rfl rfl (IValid_cq x wx) ?_
        simp
        refine WL_call rfl rfl rfl (RIValid_cq x wx) ?_
        simp
        refine WL_call rfl rfl rfl iWhole_cq ?_
        simp
        refine WL_call rfl rfl rfl RWhole_cq ?_
        simp
        refine WL_call rfl rfl rfl (same5_refl Iv.whole_W) ?_
        simp
      · rw [hd] at pc
        simp at pc
        refine WL_call rfl rfl rfl pc ?_
        simp
        refine WL_call rfl rfl rfl (RValid_cq x.lo wx.lo) ?_
        simp [hd]
        refine WL_call rfl rfl rfl (RPoint_cq x.lo) ?_
        simp
        refine WL_call rfl rfl rfl (same5_refl (pt_W wx.lo)) ?_
        simp
        refine WL_call rfl rfl rfl (IValid_cq x wx) ?_
        simp
        refine WL_call rfl rfl rfl (RIValid_cq x wx) ?_
        simp
        refine WL_call rfl rfl rfl iWhole_cq ?_
        simp
        refine WL_call rfl rfl rfl RWhole_cq ?_
        simp
        refine WL_call rfl rfl rfl (same5_refl Iv.whole_W) ?_
        simp
    · rw [hv] at nc
      simp at nc
      refine WL_call rfl rfl rfl nc ?_
      simp
      refine WL_call rfl rfl rfl (RIValid_cq (Iv.mk x.lo x.hi false) wt) ?_
      simp [hv]
      refine WL_call rfl rfl rfl (same5_refl wt) ?_
      simp
      cases hd : x.lo.valid
      · rw [hd] at pc
        simp at pc
        refine WL_call rfl rfl rfl pc ?_
        simp
        refine WL_call rfl rfl rfl (RValid_cq x.lo wx.lo) ?_
        simp [hd]
        refine WL_call rfl rfl rfl RWhole_cq ?_
        simp
        refine WL_call rfl rfl rfl (same5_refl Iv.whole_W) ?_
        simp
        refine WL_call rfl rfl rfl (IValid_cq x wx) ?_
        simp
        refine WL_call rfl rfl rfl (RIValid_cq x wx) ?_
        simp
        refine WL_call rfl rfl rfl iWhole_cq ?_
        simp
        refine WL_call rfl rfl rfl RWhole_cq ?_
        simp
        refine WL_call rfl rfl rfl (same5_refl Iv.whole_W) ?_
        simp
      · rw [hd] at pc
        simp at pc
        refine WL_call rfl rfl rfl pc ?_
        simp
        refine WL_call rfl rfl rfl (RValid_cq x.lo wx.lo) ?_
        simp [hd]
        refine WL_call rfl rfl rfl (RPoint_cq x.lo) ?_
        simp
        refine WL_call rfl rfl rfl (same5_refl (pt_W wx.lo)) ?_
        simp
        refine WL_call rfl rfl rfl (IValid_cq x wx) ?_
        simp
        refine WL_call rfl rfl rfl (RIValid_cq x wx) ?_
        simp
        refine WL_call rfl rfl rfl iWhole_cq ?_
        simp
        refine WL_call rfl rfl rfl RWhole_cq ?_
        simp
        refine WL_call rfl rfl rfl (same5_refl Iv.whole_W) ?_
        simp
  · simp [gx]

end Go.Abs.W

