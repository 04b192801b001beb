/- Parts of the proof: FpIvH. -/
import Derived.Test.YtpdchdfajhbglaaGreatDoorHs
namespace Go.Abs.W
def Iv.pt (d:Dy):Iv:=⟨d,d,false⟩
def Iv.has (x:Iv)(d:Dy):Bool:=x.valid&&d.valid&&(x.all || (decide (x.lo.cmp d<=0)&&decide (d.cmp x.hi<=0)))
theorem pt_W {d:Dy}(w:d.W):(Iv.pt d).W:=⟨w,w⟩
theorem qjz (d:Dy)(w:d.W):CQ prog qta [d.v] (if d.valid=true then Iv.pt d else Iv.whole).v:=by
 refine qag rfl fun H=>?_
 simp;refine qab rfl rfl rfl (qez d w.len w.li) ?_;cases hv:d.valid
 ·simp;refine zq qal ?_;simp[Iv.whole,lim]
 ·simp[Iv.pt,lim]
theorem qafz (d:Dy):CQ prog qvp [d.v] (Iv.pt d).v:=by
 refine qag rfl fun H=>?_
 simp[Iv.pt,lim]
def Iv.wid (x:Iv)(p:Int):Dy × Int:=if(x.known&&precB p)=true then rAdd x.hi x.lo.neg' p true else(Dy.zero,1)
theorem qaf0 (x:Iv)(p:Int)(wx:x.W):CQ prog qs4 [x.v,.int .i64 p] (.tup [(x.wid p).1.v,.bool (decide ((x.wid p).2=0))]):=by
 refine qag rfl fun H=>?_
 simp;refine qak rfl rfl (H1:=H++[some ⟨7,[x.v],false,true⟩,some ⟨3,[.agg [.bool false,.nil,.int .i64 0]],false,true⟩,some ⟨7,[x.v],true,false⟩]) (vs:=[ivs [x]]) (by simp[prep,frzVs,frzV];rfl) (qdn [x] (by simp) (by simpa using wx)) ?_;cases hk:x.known
 ·simp[hk,Iv.wid,Dy.zero,lim]
 ·obtain⟨h1,h2⟩:=qai wx hk;have hn:=qrq h1;simp[hk];refine qab rfl rfl rfl (qc0 p) ?_;cases hp:precB p
  ·simp[Iv.wid,hp,Dy.zero,lim]
  ·simp;refine qab rfl rfl rfl (qqq x.lo wx.lo) ?_;rw[qo9 h1];simp;refine qab rfl rfl rfl (q9o x.hi x.lo.neg' p wx.hi hn.w) ?_;simp[Iv.wid,hk,hp,lim]
theorem scl_W {d:Dy}{k:Int}:(d.scl k).W:=by
 unfold Dy.scl;split
 ·unfold Dy.chk;split
  ·rename_i h;exact(Dy.of_ok h).w
  ·exact Dy.zero_W
 ·exact Dy.zero_W
end Go.Abs.W
