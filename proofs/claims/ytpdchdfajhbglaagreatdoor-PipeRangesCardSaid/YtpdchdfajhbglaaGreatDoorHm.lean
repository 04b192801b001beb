/- Parts of the proof: FpIvS, FpIvG, FpIvH, FpIvMk, FpIvMs. -/
import Derived.Test.YtpdchdfajhbglaaGreatDoorFi
namespace Go.Abs.W
def Iv.Lm (x:Iv):Prop:=Li x.lo.m/\Li x.hi.m
def Iv.pt (d:Dy):Iv:=⟨d,d,false⟩
def Iv.has (x:Iv)(d:Dy):Bool:=x.valid&&d.valid&&(x.all || (decide (x.lo.cmp d<=0)&&decide (d.cmp x.hi<=0)))
theorem pt_W {d:Dy}(w:d.W):(Iv.pt d).W:=⟨w,w⟩
theorem qlu (d:Dy)(w:d.W):CQ prog qtd [d.v] (if d.valid=true then Iv.pt d else Iv.whole).v:=by
 refine qaf rfl fun H=>?_
 simp;refine qaa rfl rfl rfl (qcf d w.len w.li) ?_;cases hv:d.valid
 ·simp;refine zq qak ?_;simp[Iv.whole,lim]
 ·simp[Iv.pt,lim]
def Iv.wid (x:Iv)(p:Int):Dy × Int:=if(x.known&&precB p)=true then rAdd x.hi x.lo.neg' p true else(Dy.zero,1)
theorem qafb (x:Iv)(p:Int)(wx:x.W):CQ prog qs7 [x.v,.int .i64 p] (.tup [(x.wid p).1.v,.bool (decide ((x.wid p).2=0))]):=by
 refine qaf rfl fun H=>?_
 simp;refine qam rfl rfl (H1:=H++[some ⟨7,[x.v],false,true⟩,some ⟨3,[.agg [.bool false,.nil,.int .i64 0]],false,true⟩,some ⟨7,[x.v],true,false⟩]) (vs:=[ivs [x]]) (by simp[prep,frzVs,frzV];rfl) (qdg [x] (by simp) (by simpa using wx)) ?_;cases hk:x.known
 ·simp[hk,Iv.wid,Dy.zero,lim]
 ·obtain⟨h1,h2⟩:=qai wx hk;have hn:=qh9 h1;simp[hk];refine qaa rfl rfl rfl (qcw p) ?_;cases hp:precB p
  ·simp[Iv.wid,hp,Dy.zero,lim]
  ·simp;refine qaa rfl rfl rfl (qqp x.lo wx.lo) ?_;rw[qo1 h1];simp;refine qaa rfl rfl rfl (q86 x.hi x.lo.neg' p wx.hi hn.w) ?_;simp[Iv.wid,hk,hp,lim]
theorem scl_W {d:Dy}{k:Int}:(d.scl k).W:=by
 unfold Dy.scl;split
 ·unfold Dy.chk;split
  ·rename_i h;exact(Dy.of_ok h).w
  ·exact Dy.zero_W
 ·exact Dy.zero_W
theorem wid_W {x:Iv}{p:Int}:(x.wid p).1.W:=by
 unfold Iv.wid;split
 ·exact rAdd_ok.w
 ·exact Dy.zero_W
end Go.Abs.W
