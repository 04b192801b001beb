/- Parts of the proof: FpIvH. -/
import Derived.Test.YtmhloagengcelaaGreatDoorHs
/- Package interval and its reference: New, Point, Has, Interior, Equal, Mid, Width. -/
namespace Go.Abs.W

theorem scl_W {d : Dy} {k : Int} : (d.scl k).W := by
  unfold Dy.scl
  split
  · unfold Dy.chk
    split
    · rename_i h; exact (Dy.of_ok h).w
    · exact Dy.zero_W
  · exact Dy.zero_W

end Go.Abs.W

