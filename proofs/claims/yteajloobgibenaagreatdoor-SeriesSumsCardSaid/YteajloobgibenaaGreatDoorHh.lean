/- Parts of the proof: FpIvH. -/
import Derived.Test.YteajloobgibenaaGreatDoorHs
/- Package interval and its reference: New, Point, Has, Interior, Equal, Mid, Width. -/
namespace Go.Abs.W

def Iv.pt (d : Dy) : Iv := ⟨d, d, false⟩
theorem pt_W {d : Dy} (w : d.W) : (Iv.pt d).W := ⟨w, w⟩

theorem IPoint_cq (d : Dy) (w : d.W) : CQ prog g_interval_Point [d.v] (if d.valid = true then Iv.pt d else Iv.whole).v := by
 refine CQ_run rfl fun H => ?_
 simp
 refine WL_call rfl rfl rfl (Valid_cq d w.len w.li) ?_
 cases hv : d.valid
 · simp
   refine WL_call rfl rfl rfl iWhole_cq ?_
   simp [Iv.whole, lim]
 · simp [Iv.pt, lim]
theorem RPoint_cq (d : Dy) : CQ prog g_fpref05_Point [d.v] (Iv.pt d).v := by
 refine CQ_run rfl fun H => ?_
 simp [Iv.pt, lim]

end Go.Abs.W

