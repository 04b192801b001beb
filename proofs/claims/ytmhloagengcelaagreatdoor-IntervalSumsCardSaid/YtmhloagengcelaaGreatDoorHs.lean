/- Parts of the proof: FpIvS. -/
import Derived.Test.YtmhloagengcelaaGreatDoorFi
/- The law IntervalSums. -/
namespace Go.Abs.W

/-- Limbs, of any number. -/
def Iv.Lm (x : Iv) : Prop := Li x.lo.m ∧ Li x.hi.m
theorem W_of_great {x : Iv} (h : x.Lm) (g : x.great = false) : x.W := by
  simp [Iv.great, Dy.huge] at g
  exact ⟨⟨h.1, by omega⟩, ⟨h.2, by omega⟩⟩

theorem same5_refl {x : Iv} (wx : x.W) : CQ prog g_fplaw05_same [x.v, x.v] (.bool true) := same5_t wx rfl

theorem rnd_W {x : Iv} {p : Int} : (x.rnd p).W := by
  unfold Iv.rnd; split
  · exact made_W rRound_ok.w rRound_ok.w
  · exact Iv.whole_W

theorem sums_cq (x y : Iv) (p : Int) (lx : x.Lm) (ly : y.Lm) : CQ prog g_fplaw05_IntervalSums [x.v, y.v, .int .i64 p] (.bool true) := by
  refine CQ_run rfl fun H => ?_
  have gc := great5_cq [x, y] (by simp)
  simp
  refine WL_call rfl rfl rfl awake5_cq ?_
  simp
  refine WL_callH rfl rfl (H1 := H ++ [some ⟨7, [x.v], false, true⟩, some ⟨7, [y.v], false, true⟩, some ⟨7, [x.v, y.v], true, false⟩]) (vs := [ivs [x, y]]) (by simp [prep, frzVs, frzV]; rfl) gc ?_
  cases gx : x.great
  · cases gy : y.great
    · have wx := W_of_great lx gx
      have wy := W_of_great ly gy
      simp [gx, gy]
      refine WL_call rfl rfl rfl (IAdd_cq x y p wx wy) ?_
      simp
      refine WL_call rfl rfl rfl (RIAdd_cq x y p wx wy) ?_
      simp
      refine WL_call rfl rfl rfl (same5_refl add_W) ?_
      simp
      refine WL_call rfl rfl rfl (ISub_cq x y p wx wy) ?_
      simp
      refine WL_call rfl rfl rfl (RISub_cq x y p wx wy) ?_
      simp
      refine WL_call rfl rfl rfl (same5_refl add_W) ?_
      simp
      refine WL_call rfl rfl rfl (INeg_cq x wx) ?_
      simp
      refine WL_call rfl rfl rfl (RINeg_cq x wx) ?_
      simp
      refine WL_call rfl rfl rfl (same5_refl (neg_W wx)) ?_
      simp
      refine WL_call rfl rfl rfl (IRound_cq x p wx) ?_
      simp
      refine WL_call rfl rfl rfl (RIRound_cq x p wx) ?_
      simp
      refine WL_call rfl rfl rfl (same5_refl rnd_W) ?_
      simp
    · simp [gx, gy]
  · simp [gx]

end Go.Abs.W
