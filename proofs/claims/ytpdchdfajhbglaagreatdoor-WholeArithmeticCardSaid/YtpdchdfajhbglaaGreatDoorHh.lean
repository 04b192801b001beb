/- Parts of the proof: FpIvH. -/
import Derived.Test.YtpdchdfajhbglaaGreatDoorHs
namespace Go.Abs.W
def Iv.pt (d:Dy):Iv:=⟨d,d,false⟩
def Iv.has (x:Iv)(d:Dy):Bool:=x.valid&&d.valid&&(x.all || (decide (x.lo.cmp d<=0)&&decide (d.cmp x.hi<=0)))
theorem pt_W {d:Dy}(w:d.W):(Iv.pt d).W:=⟨w,w⟩
theorem qif (d:Dy)(w:d.W):CQ prog qqv [d.v] (if d.valid=true then Iv.pt d else Iv.whole).v:=by
 refine qag rfl fun H=>?_
 simp;refine qaa rfl rfl rfl (qdu d w.len w.li) ?_;cases hv:d.valid
 ·simp;refine zq qal ?_;simp[Iv.whole,lim]
 ·simp[Iv.pt,lim]
set_option maxHeartbeats 1000000 in
theorem q26 (x:Iv)(d:Dy)(wx:x.W)(wd:d.W):CQ prog qub [x.v,d.v] (.bool (x.has d)):=by
 refine qag rfl fun H=>?_
 simp;repeat' first
  | (refine qaa rfl rfl rfl (qeb x wx) ?_;simp)
  | (refine qaa rfl rfl rfl (qdu d wd.len wd.li) ?_;simp)
  | (refine qaa rfl rfl rfl (qd7 x.lo d wx.lo wd) ?_;simp)
  | (refine qaa rfl rfl rfl (qd7 d x.hi wd wx.hi) ?_;simp)
  |refine And.intro ?_ ?_
  |intro _
 all_goals first| (simp[Iv.has, *];done)| (simp[Iv.has, *];grind)|grind [Iv.has]
theorem qacf (x y:Iv)(wx:x.W)(wy:y.W):CQ prog qqw [x.v,y.v] (.bool (x.ins y&&y.ins x)):=by
 refine qag rfl fun H=>?_
 simp;refine qaa rfl rfl rfl (qkc x y wx wy) ?_;cases h1:x.ins y
 ·simp
 ·simp;refine qaa rfl rfl rfl (qkc y x wy wx) ?_;simp
def Iv.wid (x:Iv)(p:Int):Dy × Int:=if(x.known&&precB p)=true then rAdd x.hi x.lo.neg' p true else(Dy.zero,1)
theorem qacc (x:Iv)(p:Int)(wx:x.W):CQ prog qqq [x.v,.int .i64 p] (.tup [(x.wid p).1.v,.bool (decide ((x.wid p).2=0))]):=by
 refine qag rfl fun H=>?_
 simp;refine qaq rfl rfl (H1:=H++[some ⟨7,[x.v],false,true⟩,some ⟨3,[.agg [.bool false,.nil,.int .i64 0]],false,true⟩,some ⟨7,[x.v],true,false⟩]) (vs:=[ivs [x]]) (by simp[prep,frzVs,frzV];rfl) (qdp [x] (by simp) (by simpa using wx)) ?_;cases hk:x.known
 ·simp[hk,Iv.wid,Dy.zero,lim]
 ·obtain⟨h1,h2⟩:=qai wx hk;have hn:=qws h1;simp[hk];refine qaa rfl rfl rfl (qdb p) ?_;cases hp:precB p
  ·simp[Iv.wid,hp,Dy.zero,lim]
  ·simp;refine qaa rfl rfl rfl (qty x.lo wx.lo) ?_;rw[qrc h1];simp;refine qaa rfl rfl rfl (q51 x.hi x.lo.neg' p wx.hi hn.w) ?_;simp[Iv.wid,hk,hp,lim]
theorem scl_W {d:Dy}{k:Int}:(d.scl k).W:=by
 unfold Dy.scl;split
 ·unfold Dy.chk;split
  ·rename_i h;exact(Dy.of_ok h).w
  ·exact Dy.zero_W
 ·exact Dy.zero_W
end Go.Abs.W
