/- Parts of the proof: FpIvMs. -/
import Derived.Test.YtmhloagengcelaaGreatDoorHm
/- The law IntervalMeasures. -/
namespace Go.Abs.W

theorem wid_W {x : Iv} {p : Int} : (x.wid p).1.W := by
  unfold Iv.wid; split
  · exact rAdd_ok.w
  · exact Dy.zero_W
theorem mid_W {x : Iv} {p : Int} (wx : x.W) : (x.mid p).W := by
  unfold Iv.mid; split
  · split
    · exact scl_W
    · exact wx.lo
  · exact Dy.zero_W
theorem REqual_refl {a : Dy} (wa : a.W) : CQ prog g_fpref02_Equal [a.v, a.v] (.bool true) := by simpa using REqual_cq a a wa wa

theorem measures_cq (x : Iv) (p : Int) (lx : x.Lm) : CQ prog g_fplaw05_IntervalMeasures [x.v, .int .i64 p] (.bool true) := by
  refine CQ_run rfl fun H => ?_
  have gc := great5_cq [x] (by simp)
  simp
  refine WL_call rfl rfl rfl awake5_cq ?_
  simp
  refine WL_callH rfl rfl (H1 := H ++ [some ⟨7, [x.v], false, true⟩, some ⟨7, [x.v], true, false⟩]) (vs := [ivs [x]]) (by simp [prep, frzVs, frzV]; rfl) gc ?_
  cases gx : x.great
  · have wx := W_of_great lx gx
    have z0 := REqual_refl Dy.zero_W
    have m1 := IMag_cq x wx
    have m2 := IMig_cq x wx
    have hk0 : x.known = (!x.all && x.valid) := rfl
    simp [gx]
    refine WL_call rfl rfl rfl (IWidth_cq x p wx) ?_
    simp
    refine WL_call rfl rfl rfl (RIWidth_cq x p wx) ?_
    simp
    refine WL_call rfl rfl rfl (REqual_refl wid_W) ?_
    simp
    refine WL_call rfl rfl rfl (IMid_cq x p wx) ?_
    simp
    refine WL_call rfl rfl rfl (RIMid_cq x p wx) ?_
    simp
    refine WL_call rfl rfl rfl (REqual_refl (mid_W wx)) ?_
    simp
    cases hk : x.known
    · rw [hk] at m1 m2
      simp at m1 m2
      refine WL_call rfl rfl rfl m1 ?_
      simp
      refine WL_call rfl rfl rfl m2 ?_
      simp
      refine WL_call rfl rfl rfl (RIValid_cq x wx) ?_
      cases hv : x.valid
      · simp
        refine WL_call rfl rfl rfl z0 ?_
        simp
        refine WL_call rfl rfl rfl z0 ?_
        simp
      · have ha : x.all = true := by rw [hk, hv] at hk0; simpa using hk0
        simp [ha]
        refine WL_call rfl rfl rfl z0 ?_
        simp
        refine WL_call rfl rfl rfl z0 ?_
        simp
    · have hb : x.all = false ∧ x.valid = true := by rw [hk] at hk0; simpa using hk0.symm
      have g1 := RMag_cq x wx hk
      have g2 := RMig_cq x wx hk
      simp [hb] at g1 g2
      rw [hk] at m1 m2
      simp at m1 m2
      refine WL_call rfl rfl rfl m1 ?_
      simp
      refine WL_call rfl rfl rfl m2 ?_
      simp
      refine WL_call rfl rfl rfl (RIValid_cq x wx) ?_
      simp [hb]
      refine WL_call rfl rfl rfl g1 ?_
      simp
      refine WL_call rfl rfl rfl (REqual_refl (mag_ok wx hk).w) ?_
      simp
      refine WL_call rfl rfl rfl g2 ?_
      simp
      refine WL_call rfl rfl rfl (REqual_refl (mig_ok wx hk).w) ?_
      simp
  · simp [gx]

end Go.Abs.W

