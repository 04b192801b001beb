/- Parts of the proof: FpIvS. -/
import Derived.Test.YtmhloagengcelaaGreatDoorFi
/- The law IntervalSums. -/
namespace Go.Abs.W

/-- Limbs, of any number. -/
def Iv.Lm (x : Iv) : Prop := Li x.lo.m ∧ Li x.hi.m
theorem W_of_great {x : Iv} (h : x.Lm) (g : x.great = false) : x.W := by
 simp [Iv.great, Dy.huge] at g
 exact ⟨⟨h.1, by omega⟩, ⟨h.2, by omega⟩⟩

theorem rnd_W {x : Iv} {p : Int} : (x.rnd p).W := by
 unfold Iv.rnd; split
 · exact made_W rRound_ok.w rRound_ok.w
 · exact Iv.whole_W

end Go.Abs.W

