/- Parts of the proof: FpIvG. -/
import Derived.Test.YtmhloagengcelaaGreatDoorHs
/- The law IntervalQuotients. -/
namespace Go.Abs.W

theorem sqrt_W {x : Iv} {p : Int} : (x.sqrt p).W := by
  unfold Iv.sqrt; split
  · exact made_W rSqrt_ok.w rSqrt_ok.w
  · exact Iv.whole_W

theorem quots_cq (x y : Iv) (p : Int) (lx : x.Lm) (ly : y.Lm) : CQ prog g_fplaw05_IntervalQuotients [x.v, y.v, .int .i64 p] (.bool true) := by
  refine CQ_run rfl fun H => ?_
  have gc := great5_cq [x, y] (by simp)
  simp
  refine WL_call rfl rfl rfl awake5_cq ?_
  simp
  refine WL_callH rfl rfl (H1 := H ++ [some ⟨7, [x.v], false, true⟩, some ⟨7, [y.v], false, true⟩, some ⟨7, [x.v, y.v], true, false⟩]) (vs := [ivs [x, y]]) (by simp [prep, frzVs, frzV]; rfl) gc ?_
  cases gx : x.great
  · cases gy : y.great
    · have wx := W_of_great lx gx
      have wy := W_of_great ly gy
      simp [gx, gy]
      refine WL_call rfl rfl rfl (IDiv_cq x y p wx wy) ?_
      simp
      refine WL_call rfl rfl rfl (RIDiv_cq x y p wx wy) ?_
      simp
      refine WL_call rfl rfl rfl (same5_refl div_W) ?_
      simp
      refine WL_call rfl rfl rfl (ISqrt_cq x p wx) ?_
      simp
      refine WL_call rfl rfl rfl (RISqrt_cq x p wx) ?_
      simp
      refine WL_call rfl rfl rfl (same5_refl sqrt_W) ?_
      simp
    · simp [gx, gy]
  · simp [gx]

end Go.Abs.W

