/- Parts of the proof: FpIvH. -/
import Derived.Test.YtmhloagengcelaaGreatDoorHs
/- Package interval and its reference: New, Point, Has, Interior, Equal, Mid, Width. -/
namespace Go.Abs.W

def Iv.pt (d : Dy) : Iv := ⟨d, d, false⟩
def Iv.zero0 : Iv := ⟨Dy.zero, Dy.zero, false⟩
theorem zero0_W : Iv.zero0.W := ⟨Dy.zero_W, Dy.zero_W⟩
theorem pt_W {d : Dy} (w : d.W) : (Iv.pt d).W := ⟨w, w⟩

theorem INew_cq (a b : Dy) (wa : a.W) (wb : b.W) : CQ prog g_interval_New [a.v, b.v] (.tup [(if (Iv.mk a b false).valid = true then Iv.mk a b false else Iv.zero0).v, .int .i64 (if (Iv.mk a b false).valid = true then 0 else 1)]) := by
  refine CQ_run rfl fun H => ?_
  have c := IValid_cq (Iv.mk a b false) ⟨wa, wb⟩
  simp
  refine WL_call rfl rfl rfl c ?_
  cases hv : (Iv.mk a b false).valid
  · simp [Iv.zero0, Dy.zero, lim]
  · simp [lim]

theorem IPoint_cq (d : Dy) (w : d.W) : CQ prog g_interval_Point [d.v] (if d.valid = true then Iv.pt d else Iv.whole).v := by
  refine CQ_run rfl fun H => ?_
  simp
  refine WL_call rfl rfl rfl (Valid_cq d w.len w.li) ?_
  cases hv : d.valid
  · simp
    refine WL_call rfl rfl rfl iWhole_cq ?_
    simp [Iv.whole, lim]
  · simp [Iv.pt, lim]
theorem RPoint_cq (d : Dy) : CQ prog g_fpref05_Point [d.v] (Iv.pt d).v := by
  refine CQ_run rfl fun H => ?_
  simp [Iv.pt, lim]

end Go.Abs.W

