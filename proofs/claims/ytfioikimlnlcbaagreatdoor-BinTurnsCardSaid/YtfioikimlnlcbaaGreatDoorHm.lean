/- Parts of the proof: FpIvS, FpIvH, FpIvMk, FpIvMs. -/
import Derived.Test.YtfioikimlnlcbaaGreatDoorFi
namespace Go.Abs.W
def Iv.pt (d:Dy):Iv:=⟨d,d,false⟩
def Iv.has (x:Iv)(d:Dy):Bool:=x.valid&&d.valid&&(x.all || (decide (x.lo.cmp d<=0)&&decide (d.cmp x.hi<=0)))
set_option maxHeartbeats 1000000 in
theorem qabe (x:Iv)(d:Dy)(wx:x.W)(wd:d.W):CQ prog qt5 [x.v,d.v] (.bool (x.has d)):=by
 refine qaf rfl fun H=>?_
 simp;repeat' first
  | (refine qab rfl rfl rfl (qpb x wx) ?_;simp)
  | (refine qab rfl rfl rfl (qfv d wd.len wd.li) ?_;simp)
  | (refine qab rfl rfl rfl (ql6 x.lo d wx.lo wd) ?_;simp)
  | (refine qab rfl rfl rfl (ql6 d x.hi wd wx.hi) ?_;simp)
  |refine And.intro ?_ ?_
  |intro _
 all_goals first| (simp[Iv.has, *];done)| (simp[Iv.has, *];grind)|grind [Iv.has]
theorem scl_W {d:Dy}{k:Int}:(d.scl k).W:=by
 unfold Dy.scl;split
 ·unfold Dy.chk;split
  ·rename_i h;exact(Dy.of_ok h).w
  ·exact Dy.zero_W
 ·exact Dy.zero_W
end Go.Abs.W
