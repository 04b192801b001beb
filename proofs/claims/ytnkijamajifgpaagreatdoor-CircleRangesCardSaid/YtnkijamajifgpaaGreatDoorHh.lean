/- Parts of the proof: FpIvH. -/
import Derived.Test.YtnkijamajifgpaaGreatDoorHs
namespace Go.Abs.W
def Iv.pt (d:Dy):Iv:=⟨d,d,false⟩
def Iv.has (x:Iv)(d:Dy):Bool:=x.valid&&d.valid&&(x.all || (decide (x.lo.cmp d<=0)&&decide (d.cmp x.hi<=0)))
theorem pt_W {d:Dy}(w:d.W):(Iv.pt d).W:=⟨w,w⟩
theorem qxm (d:Dy)(w:d.W):CQ prog qtw [d.v] (if d.valid=true then Iv.pt d else Iv.whole).v:=by
 refine qah rfl fun H=>?_
 simp;refine qaa rfl rfl rfl (qgh d w.len w.li) ?_;cases hv:d.valid
 ·simp;refine zq qc7 ?_;simp[Iv.whole,lim]
 ·simp[Iv.pt,lim]
theorem qhb (d:Dy):CQ prog qwa [d.v] (Iv.pt d).v:=by
 refine qah rfl fun H=>?_
 simp[Iv.pt,lim]
set_option maxHeartbeats 1000000 in
theorem qaoz (x:Iv)(d:Dy)(wx:x.W)(wd:d.W):CQ prog qxv [x.v,d.v] (.bool (x.has d)):=by
 refine qah rfl fun H=>?_
 simp;repeat' first
  | (refine qaa rfl rfl rfl (qmd x wx) ?_;simp)
  | (refine qaa rfl rfl rfl (qgh d wd.len wd.li) ?_;simp)
  | (refine qaa rfl rfl rfl (qn1 x.lo d wx.lo wd) ?_;simp)
  | (refine qaa rfl rfl rfl (qn1 d x.hi wd wx.hi) ?_;simp)
  |refine And.intro ?_ ?_
  |intro _
 all_goals first| (simp[Iv.has, *];done)| (simp[Iv.has, *];grind)|grind [Iv.has]
def Iv.wid (x:Iv)(p:Int):Dy × Int:=if(x.known&&precB p)=true then rAdd x.hi x.lo.neg' p true else(Dy.zero,1)
theorem qahd (x:Iv)(p:Int)(wx:x.W):CQ prog qtt [x.v,.int .i64 p] (.tup [(x.wid p).1.v,.bool (decide ((x.wid p).2=0))]):=by
 refine qah rfl fun H=>?_
 simp;refine qau rfl rfl (H1:=H++[some ⟨7,[x.v],false,true⟩,some ⟨3,[.agg [.bool false,.nil,.int .i64 0]],false,true⟩,some ⟨7,[x.v],true,false⟩]) (vs:=[ivs [x]]) (by simp[prep,frzVs,frzV];rfl) (q01 [x] (by simp) (by simpa using wx)) ?_;cases hk:x.known
 ·simp[hk,Iv.wid,Dy.zero,lim]
 ·obtain⟨h1,h2⟩:=qai wx hk;have hn:=qa9 h1;simp[hk];refine qaa rfl rfl rfl (q3o p) ?_;cases hp:precB p
  ·simp[Iv.wid,hp,Dy.zero,lim]
  ·simp;refine qaa rfl rfl rfl (qahe x.lo wx.lo) ?_;rw[qaiy h1];simp;refine qaa rfl rfl rfl (qakl x.hi x.lo.neg' p wx.hi hn.w) ?_;simp[Iv.wid,hk,hp,lim]
theorem scl_W {d:Dy}{k:Int}:(d.scl k).W:=by
 unfold Dy.scl;split
 ·unfold Dy.chk;split
  ·rename_i h;exact(Dy.of_ok h).w
  ·exact Dy.zero_W
 ·exact Dy.zero_W
end Go.Abs.W
