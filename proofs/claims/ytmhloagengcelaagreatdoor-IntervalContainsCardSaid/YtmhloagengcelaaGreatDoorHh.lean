/- Parts of the proof: FpIvH. -/
import Derived.Test.YtmhloagengcelaaGreatDoorHs
/- Package interval and its reference: New, Point, Has, Interior, Equal, Mid, Width. -/
namespace Go.Abs.W

def Iv.has (x : Iv) (d : Dy) : Bool := x.valid && d.valid && (x.all || (decide (x.lo.cmp d ≤ 0) && decide (d.cmp x.hi ≤ 0)))
set_option maxHeartbeats 1000000 in
theorem IHas_cq (x : Iv) (d : Dy) (wx : x.W) (wd : d.W) : CQ prog g_interval_Has [x.v, d.v] (.bool (x.has d)) := by
 refine CQ_run rfl fun H => ?_
 simp
 repeat' first
   | (refine WL_call rfl rfl rfl (IValid_cq x wx) ?_; simp)
   | (refine WL_call rfl rfl rfl (Valid_cq d wd.len wd.li) ?_; simp)
   | (refine WL_call rfl rfl rfl (DCmp_cq x.lo d wx.lo wd) ?_; simp)
   | (refine WL_call rfl rfl rfl (DCmp_cq d x.hi wd wx.hi) ?_; simp)
   | refine And.intro ?_ ?_
   | intro _
 all_goals first | (simp [Iv.has, *]; done) | (simp [Iv.has, *]; grind) | grind [Iv.has]

end Go.Abs.W

