/- Parts of the proof: FpIvH. -/
import Derived.Test.YtmhloagengcelaaGreatDoorHs
/- Package interval and its reference: New, Point, Has, Interior, Equal, Mid, Width. -/
namespace Go.Abs.W

def Iv.has (x : Iv) (d : Dy) : Bool := x.valid && d.valid && (x.all || (decide (x.lo.cmp d ≤ 0) && decide (d.cmp x.hi ≤ 0)))
def Iv.inn (x y : Iv) : Bool := x.valid && y.valid && (y.all || (!x.all && decide (y.lo.cmp x.lo < 0) && decide (x.hi.cmp y.hi < 0)))
def Iv.zero0 : Iv := ⟨Dy.zero, Dy.zero, false⟩
theorem zero0_W : Iv.zero0.W := ⟨Dy.zero_W, Dy.zero_W⟩
set_option maxHeartbeats 1000000 in
theorem IHas_cq (x : Iv) (d : Dy) (wx : x.W) (wd : d.W) : CQ prog g_interval_Has [x.v, d.v] (.bool (x.has d)) := by
  refine CQ_run rfl fun H => ?_
  simp
  repeat' first
    | (refine WL_call rfl rfl rfl (IValid_cq x wx) ?_; simp)
    | (refine WL_call rfl rfl rfl (Valid_cq d wd.len wd.li) ?_; simp)
    | (refine WL_call rfl rfl rfl (DCmp_cq x.lo d wx.lo wd) ?_; simp)
    | (refine WL_call rfl rfl rfl (DCmp_cq d x.hi wd wx.hi) ?_; simp)
    | refine And.intro ?_ ?_
    | intro _
  all_goals first | (simp [Iv.has, *]; done) | (simp [Iv.has, *]; grind) | grind [Iv.has]

set_option maxHeartbeats 1000000 in
theorem RIHas_cq (x : Iv) (d : Dy) (wx : x.W) (wd : d.W) : CQ prog g_fpref05_Has [x.v, d.v] (.bool (x.has d)) := by
  refine CQ_run rfl fun H => ?_
  simp
  repeat' first
    | (refine WL_call rfl rfl rfl (RIValid_cq x wx) ?_; simp [*])
    | (refine WL_call rfl rfl rfl (RValid_cq d wd) ?_; simp [*])
    | (refine WL_call rfl rfl rfl (RCmp_cq x.lo d (wx.okLo (by assumption) (by assumption)) (Dy.Ok.of wd.li (by assumption))) ?_; simp)
    | (refine WL_call rfl rfl rfl (RCmp_cq d x.hi (Dy.Ok.of wd.li (by assumption)) (wx.okHi (by assumption) (by assumption))) ?_; simp)
    | refine And.intro ?_ ?_
    | intro _
  all_goals first | (simp [Iv.has, *]; done) | (simp [Iv.has, *]; grind) | grind [Iv.has]

set_option maxHeartbeats 1000000 in
theorem IInterior_cq (x y : Iv) (wx : x.W) (wy : y.W) : CQ prog g_interval_Interior [x.v, y.v] (.bool (x.inn y)) := by
  refine CQ_run rfl fun H => ?_
  simp
  repeat' first
    | (refine WL_call rfl rfl rfl (IValid_cq x wx) ?_; simp)
    | (refine WL_call rfl rfl rfl (IValid_cq y wy) ?_; simp)
    | (refine WL_call rfl rfl rfl (DCmp_cq y.lo x.lo wy.lo wx.lo) ?_; simp)
    | (refine WL_call rfl rfl rfl (DCmp_cq x.hi y.hi wx.hi wy.hi) ?_; simp)
    | refine And.intro ?_ ?_
    | intro _
  all_goals first | (simp [Iv.inn, *]; done) | (simp [Iv.inn, *]; grind) | grind [Iv.inn]

set_option maxHeartbeats 1000000 in
theorem RIInterior_cq (x y : Iv) (wx : x.W) (wy : y.W) : CQ prog g_fpref05_Interior [x.v, y.v] (.bool (x.inn y)) := by
  refine CQ_run rfl fun H => ?_
  simp
  repeat' first
    | (refine WL_call rfl rfl rfl (RIValid_cq x wx) ?_; simp [*])
    | (refine WL_call rfl rfl rfl (RIValid_cq y wy) ?_; simp [*])
    | (refine WL_call rfl rfl rfl (RCmp_cq y.lo x.lo (wy.okLo (by assumption) (by assumption)) (wx.okLo (by assumption) (by assumption))) ?_; simp)
    | (refine WL_call rfl rfl rfl (RCmp_cq x.hi y.hi (wx.okHi (by assumption) (by assumption)) (wy.okHi (by assumption) (by assumption))) ?_; simp)
    | refine And.intro ?_ ?_
    | intro _
  all_goals first | (simp [Iv.inn, *]; done) | (simp [Iv.inn, *]; grind) | grind [Iv.inn]

theorem IEqual_cq (x y : Iv) (wx : x.W) (wy : y.W) : CQ prog g_interval_Equal [x.v, y.v] (.bool (x.ins y && y.ins x)) := by
  refine CQ_run rfl fun H => ?_
  simp
  refine WL_call rfl rfl rfl (IInside_cq x y wx wy) ?_
  cases h1 : x.ins y
  · simp
  · simp
    refine WL_call rfl rfl rfl (IInside_cq y x wy wx) ?_
    simp

end Go.Abs.W

