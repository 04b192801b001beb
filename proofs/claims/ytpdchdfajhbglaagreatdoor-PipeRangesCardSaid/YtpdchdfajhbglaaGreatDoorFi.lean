/- Parts of the proof: FpR03, FpR03b, FpIvA, FpIvB, FpIvC, FpIvD, FpIvE, FpIvF. -/
import Derived.Test.YtpdchdfajhbglaaGreatDoorFh
import Derived.Test.YtpdchdfajhbglaaGreatDoorFg
import Derived.Test.YtpdchdfajhbglaaGreatDoorFg
import Derived.Test.YtpdchdfajhbglaaGreatDoorFe
namespace Go.Abs.W
theorem qag2 {q b:Nat}(h:bitL q<=b):(qae q).length<=b/32+1:=
 qe1 (Nat.lt_of_lt_of_le (qb6 q) (Nat.pow_le_pow_right (by omega) h)) (by omega)
theorem Dy.Ok.size {d:Dy}(h:d.Ok):d.m.length<=10000/\Li d.m/\-100000<=d.e/\d.e<=100000:=by
 have h1:=h.elo;have h2:=h.ehi;have h3:=h.len;exact⟨by omega,h.li,by omega,by omega⟩
def Iv.made (r s:Dy × Int):Iv:=if r.2=0/\s.2=0 then⟨r.1,s.1,false⟩else Iv.whole
def Iv.add (x y:Iv)(p:Int):Iv:=if(x.known&&y.known&&precB p)=true then Iv.made (rAdd x.lo y.lo p false) (rAdd x.hi y.hi p true)else Iv.whole
def Iv.neg (x:Iv):Iv:=if x.known=true then⟨x.hi.neg',x.lo.neg',false⟩else Iv.whole
def Iv.rnd (x:Iv)(p:Int):Iv:=if(x.known&&precB p)=true then Iv.made (qbz x.lo p false) (qbz x.hi p true)else Iv.whole
def Iv.scl (x:Iv)(k:Int):Iv:=if x.known=true then Iv.made (x.lo.scl k,x.lo.sclE k) (x.hi.scl k,x.hi.sclE k)else Iv.whole
def Iv.sgn (x:Iv):Int:=if x.known=true then(if 0<x.lo.sgn then 1 else if x.hi.sgn<0 then -1 else 0)else 0
def Iv.sqrt (x:Iv)(p:Int):Iv:=if(x.known&&precB p&&decide (0<x.lo.sgn))=true then Iv.made (rSqrt x.lo p false) (rSqrt x.hi p true)else Iv.whole
theorem Dy.zero_W : Dy.zero.W:=Dy.zero_ok.w
theorem Iv.whole_W : Iv.whole.W:=⟨Dy.zero_W,Dy.zero_W⟩
theorem rRound_ok {d:Dy}{p:Int}{up:Bool}:(qbz d p up).1.Ok:=by
 unfold qbz;split
 ·rename_i h;obtain⟨_,h1,h2⟩:=qdb h;exact qr9 (by omega) (by omega)
 ·exact Dy.zero_ok
theorem rAdd_ok {a b:Dy}{p:Int}{up:Bool}:(rAdd a b p up).1.Ok:=by
 unfold rAdd;split
 ·rename_i h;obtain⟨_,h1,h2⟩:=qdb h;exact qr9 (by omega) (by omega)
 ·exact Dy.zero_ok
theorem rMul_ok {a b:Dy}{p:Int}{up:Bool}:(rMul a b p up).1.Ok:=by
 unfold rMul;split
 ·rename_i h;obtain⟨_,h1,h2⟩:=qdb h;exact qr9 (by omega) (by omega)
 ·exact Dy.zero_ok
theorem rDiv_ok {a b:Dy}{p:Int}{up:Bool}:(rDiv a b p up).1.Ok:=by
 unfold rDiv;split
 ·rename_i h;obtain⟨_,h1,h2⟩:=qdb h;split
  ·exact Dy.zero_ok
  ·split
   ·exact Dy.zero_ok
   ·exact qr9 (by omega) (by omega)
 ·exact Dy.zero_ok
theorem rSqrt_ok {d:Dy}{p:Int}{up:Bool}:(rSqrt d p up).1.Ok:=by
 unfold rSqrt;split
 ·rename_i h;obtain⟨_,h1,h2⟩:=qdb h;split
  ·exact Dy.zero_ok
  ·split
   ·exact Dy.zero_ok
   ·exact qr9 (by omega) (by omega)
 ·exact Dy.zero_ok
theorem qan3 {neg:Bool}{n:Nat}{e:Int}:(Dy.of neg n e).chk.Ok:=by
 unfold Dy.chk;split
 ·rename_i h;exact Dy.of_ok h
 ·exact Dy.zero_ok
theorem qaib {d:Dy}{k:Int}:(d.scl k).Ok:=by
 unfold Dy.scl;split
 ·exact qan3
 ·exact Dy.zero_ok
theorem qq1 {r s:Dy × Int}(hr:r.1.W)(hs:s.1.W):(Iv.made r s).W:=by
 unfold Iv.made;split
 ·exact⟨hr,hs⟩
 ·exact Iv.whole_W
theorem ql5 (r s:Dy × Int):CQ prog qvh [r.1.v,.int .i64 r.2,s.1.v,.int .i64 s.2] (Iv.made r s).v:=by
 refine qaf rfl fun H=>?_
 by_cases hr:r.2=0
 ·by_cases hs:s.2=0
  ·simp[hr,hs,Iv.made,lim]
  ·simp[hr,hs];refine zq qak ?_;simp[Iv.made,hs,lim]
 ·simp[hr];refine zq qak ?_;simp[Iv.made,hr,lim]
theorem qcw (p:Int):CQ prog qpg [.int .i64 p] (.bool (precB p)):=by
 refine qaf rfl fun H=>?_
 simp[precB];grind
theorem qafa (p:Int):CQ prog qxs [.int .i64 p] (.bool (precB p)):=by
 refine qaf rfl fun H=>?_
 simp[precB];grind
theorem qo1 {d:Dy}(h:d.Ok):d.opp=d.neg':=by
 unfold Dy.opp Dy.neg';rw[h.valid];by_cases hm:d.m=[]
 ·obtain⟨h1,h2⟩:=h.zero hm;simp[hm,h2,Dy.zero]
 ·simp[hm]
theorem qh9 {d:Dy}(h:d.Ok):d.neg'.Ok:=by
 refine⟨h.li,h.tr,h.len,?_,h.odd,h.bits,h.elo,h.ehi,h.top⟩;intro hm;have hm':d.m=[]:=hm;exact⟨by simp[Dy.neg',hm'],(h.zero hm').2⟩
theorem neg_W {x:Iv}(w:x.W):x.neg.W:=by
 unfold Iv.neg;split
 ·rename_i h;obtain⟨h1,h2⟩:=qai w h;exact⟨(qh9 h2).w,(qh9 h1).w⟩
 ·exact Iv.whole_W
theorem add_W {x y:Iv}{p:Int}:(x.add y p).W:=by
 unfold Iv.add;split
 ·exact qq1 rAdd_ok.w rAdd_ok.w
 ·exact Iv.whole_W
theorem q6q (x y:Iv)(p:Int)(wx:x.W)(wy:y.W):CQ prog qxo [x.v,y.v,.int .i64 p] (x.add y p).v:=by
 refine qaf rfl fun H=>?_
 simp;refine qam rfl rfl (H1:=H++[some ⟨7,[x.v],false,true⟩,some ⟨7,[y.v],false,true⟩,some ⟨7,[.agg [.bool false,.nil,.int .i64 0,.bool false,.nil,.int .i64 0,.bool false]],false,true⟩,some ⟨7,[x.v,y.v],true,false⟩]) (vs:=[ivs [x,y]]) (by simp[prep,frzVs,frzV];rfl) (qdg [x,y] (by simp) (by simp;exact⟨wx,wy⟩)) ?_;cases hk:x.known&&y.known
 ·have:([x,y].all Iv.known)=false:=by simpa using hk
  simp only[this];simp;refine zq qak ?_;simp[Iv.add,hk,lim]
 ·have:([x,y].all Iv.known)=true:=by simpa using hk
  simp only[this];simp;refine qaa rfl rfl rfl (qcw p) ?_;cases hp:precB p
  ·simp;refine zq qak ?_;simp[Iv.add,hp,lim]
  ·simp;refine qaa rfl rfl rfl (qaar x.lo y.lo p wx.lo wy.lo) ?_;simp;refine qaa rfl rfl rfl (q86 x.hi y.hi p wx.hi wy.hi) ?_;simp;refine qaa rfl rfl rfl (ql5 (rAdd x.lo y.lo p false) (rAdd x.hi y.hi p true)) ?_;simp[Iv.add,hk,hp,lim]
theorem qafd (x:Iv)(wx:x.W):CQ prog qxj [x.v] x.neg.v:=by
 refine qaf rfl fun H=>?_
 simp;refine qam rfl rfl (H1:=H++[some ⟨7,[x.v],false,true⟩,some ⟨7,[.agg [.bool false,.nil,.int .i64 0,.bool false,.nil,.int .i64 0,.bool false]],false,true⟩,some ⟨7,[x.v],true,false⟩]) (vs:=[ivs [x]]) (by simp[prep,frzVs,frzV];rfl) (qdg [x] (by simp) (by simpa using wx)) ?_;cases hk:x.known
 ·simp[hk];refine zq qak ?_;simp[Iv.neg,hk,lim]
 ·obtain⟨h1,h2⟩:=qai wx hk;have n1:=qqp x.lo wx.lo;have n2:=qqp x.hi wx.hi;rw[qo1 h1]at n1;rw[qo1 h2]at n2;simp[hk];refine zq n2 ?_;simp;refine zq n1 ?_;simp[Iv.neg,hk,lim]
theorem qalp (x y:Iv)(p:Int)(wx:x.W)(wy:y.W):CQ prog qxi [x.v,y.v,.int .i64 p] (x.add y.neg p).v:=by
 refine qaf rfl fun H=>?_
 simp;refine qaa rfl rfl rfl (qafd y wy) ?_;simp;refine qaa rfl rfl rfl (q6q x y.neg p wx (neg_W wy)) ?_;simp[lim]
theorem qow (x:Iv)(p:Int)(wx:x.W):CQ prog qtb [x.v,.int .i64 p] (x.rnd p).v:=by
 refine qaf rfl fun H=>?_
 simp;refine qam rfl rfl (H1:=H++[some ⟨7,[x.v],false,true⟩,some ⟨7,[.agg [.bool false,.nil,.int .i64 0,.bool false,.nil,.int .i64 0,.bool false]],false,true⟩,some ⟨7,[x.v],true,false⟩]) (vs:=[ivs [x]]) (by simp[prep,frzVs,frzV];rfl) (qdg [x] (by simp) (by simpa using wx)) ?_;cases hk:x.known
 ·simp[hk];refine zq qak ?_;simp[Iv.rnd,hk,lim]
 ·simp[hk];refine qaa rfl rfl rfl (qcw p) ?_;cases hp:precB p
  ·simp;refine zq qak ?_;simp[Iv.rnd,hp,lim]
  ·simp;refine qaa rfl rfl rfl (q6t x.lo p wx.lo) ?_;simp;refine qaa rfl rfl rfl (Up_cq x.hi p wx.hi) ?_;simp;refine qaa rfl rfl rfl (ql5 (qbz x.lo p false) (qbz x.hi p true)) ?_;simp[Iv.rnd,hk,hp,lim]
theorem qw7 (x:Iv)(k:Int)(wx:x.W):CQ prog qta [x.v,.int .i64 k] (x.scl k).v:=by
 refine qaf rfl fun H=>?_
 simp;refine qam rfl rfl (H1:=H++[some ⟨7,[x.v],false,true⟩,some ⟨7,[.agg [.bool false,.nil,.int .i64 0,.bool false,.nil,.int .i64 0,.bool false]],false,true⟩,some ⟨7,[x.v],true,false⟩]) (vs:=[ivs [x]]) (by simp[prep,frzVs,frzV];rfl) (qdg [x] (by simp) (by simpa using wx)) ?_;cases hk:x.known
 ·simp[hk];refine zq qak ?_;simp[Iv.scl,hk,lim]
 ·simp[hk];refine qaa rfl rfl rfl (q4t x.lo k wx.lo) ?_;simp;refine qaa rfl rfl rfl (q4t x.hi k wx.hi) ?_;simp;refine qaa rfl rfl rfl (ql5 (x.lo.scl k,x.lo.sclE k) (x.hi.scl k,x.hi.sclE k)) ?_;simp[Iv.scl,hk,lim]
theorem q82 (x:Iv)(wx:x.W):CQ prog qvl [x.v] (.int .i64 x.sgn):=by
 refine qaf rfl fun H=>?_
 simp;refine qam rfl rfl (H1:=H++[some ⟨7,[x.v],false,true⟩,some ⟨7,[x.v],true,false⟩]) (vs:=[ivs [x]]) (by simp[prep,frzVs,frzV];rfl) (qdg [x] (by simp) (by simpa using wx)) ?_;cases hk:x.known
 ·simp[hk,Iv.sgn]
 ·obtain⟨h1,h2⟩:=qai wx hk;have s1:=qjm x.lo wx.lo;have s2:=qjm x.hi wx.hi;rw[h1.valid]at s1;rw[h2.valid]at s2;simp[hk];refine zq s1 ?_;by_cases hp:0<x.lo.sgn
  ·simp[Iv.sgn,hk,hp]
  ·simp[hp];refine zq s2 ?_;by_cases hn:x.hi.sgn<0
   ·simp[Iv.sgn,hk,hp,hn]
   ·simp[Iv.sgn,hk,hp,hn]
theorem qah1 (x:Iv)(p:Int)(wx:x.W):CQ prog qvk [x.v,.int .i64 p] (x.sqrt p).v:=by
 refine qaf rfl fun H=>?_
 simp;refine qam rfl rfl (H1:=H++[some ⟨7,[x.v],false,true⟩,some ⟨7,[.agg [.bool false,.nil,.int .i64 0,.bool false,.nil,.int .i64 0,.bool false]],false,true⟩,some ⟨7,[x.v],true,false⟩]) (vs:=[ivs [x]]) (by simp[prep,frzVs,frzV];rfl) (qdg [x] (by simp) (by simpa using wx)) ?_;cases hk:x.known
 ·simp[hk];refine zq qak ?_;simp[Iv.sqrt,hk,lim]
 ·obtain⟨h1,h2⟩:=qai wx hk;have s1:=qjm x.lo wx.lo;rw[h1.valid]at s1;simp[hk];refine qaa rfl rfl rfl (qcw p) ?_;cases hp:precB p
  ·simp;refine zq qak ?_;simp[Iv.sqrt,hp,lim]
  ·simp;refine zq s1 ?_;by_cases hs:0<x.lo.sgn
   ·have hs':¬x.lo.sgn<=0:=by omega
    simp[hs'];refine qaa rfl rfl rfl (q6i x.lo p wx.lo) ?_;simp;refine qaa rfl rfl rfl (qae7 x.hi p wx.hi) ?_;simp;refine qaa rfl rfl rfl (ql5 (rSqrt x.lo p false) (rSqrt x.hi p true)) ?_;simp[Iv.sqrt,hk,hp,hs,lim]
   ·have hs':x.lo.sgn<=0:=by omega
    simp[hs'];refine zq qak ?_;simp[Iv.sqrt,hs,lim]
theorem qj1 {a b:Dy}(ha:a.Ok)(hb:b.Ok):a.cmp b=cmpI a.val b.val:=by simp[Dy.cmp,ha.valid,hb.valid]
theorem cmpI_le {x y:Int}:cmpI x y<=0↔x<=y:=by unfold cmpI;split<;>(try split)<;>omega
theorem q6a {x y:Int}:0<=cmpI x y↔y<=x:=by unfold cmpI;split<;>(try split)<;>omega
theorem qak7 {x y:Int}:cmpI x y<0↔x<y:=by unfold cmpI;split<;>(try split)<;>omega
theorem qak8 {x y:Int}:0<cmpI x y↔y<x:=by unfold cmpI;split<;>(try split)<;>omega
theorem ql3 {a b:Dy}(ha:a.Ok)(hb:b.Ok):(a.lo2 b).val=min a.val b.val:=by
 unfold Dy.lo2;rw[qj1 ha hb];split
 ·rename_i h;rw[cmpI_le]at h;omega
 ·rename_i h;rw[cmpI_le]at h;omega
theorem ql6 {a b:Dy}(ha:a.Ok)(hb:b.Ok):(a.hi2 b).val=max a.val b.val:=by
 unfold Dy.hi2;rw[qj1 ha hb];split
 ·rename_i h;rw[q6a]at h;omega
 ·rename_i h;rw[q6a]at h;omega
theorem qgd {d:Dy}:d.neg'.val=- d.val:=by
 by_cases hm:d.m=[]
 ·have h1:d.absN=0:=Dy.absN_nil hm;have h2:d.neg'.absN=0:=Dy.absN_nil hm;simp[Dy.val,h1,h2]
 ·have h2:d.neg'.absN=d.absN:=rfl;have h3:d.neg'.neg=!d.neg:=by simp[Dy.neg',hm]
  unfold Dy.val;rw[h2,h3];cases d.neg<;>simp
theorem qh5 {d:Dy}(h:d.Ok):(0<d.sgn↔0<d.val)/\(d.sgn<0↔d.val<0):=by
 by_cases hm:d.m=[]
 ·have h1:d.absN=0:=Dy.absN_nil hm;simp[Dy.sgn,Dy.val,hm,h1]
 ·have h1:=h.absN_ne hm;unfold Dy.sgn Dy.val;rw[if_neg hm];cases d.neg<;>simp<;>omega
theorem qgn {d:Dy}(h:d.Ok):d.abs.Ok:=by
 unfold Dy.abs;split
 ·rename_i h2;exact⟨h.li,h.tr,h.len,fun hm=>absurd hm h2.2,h.odd,h.bits,h.elo,h.ehi,h.top⟩
 ·exact Dy.zero_ok
theorem qhs : Dy.zero.val=0:=by
 unfold Dy.val;rw[Dy.absN_nil rfl];rfl
theorem qwy {d:Dy}(h:d.Ok):d.abs.val=d.val.natAbs:=by
 unfold Dy.abs;rw[h.valid];by_cases hm:d.m=[]
 ·have h1:d.absN=0:=Dy.absN_nil hm;simp[hm,qhs];simp[Dy.val,h1]
 ·have h2:(⟨false,d.m,d.e⟩:Dy).absN=d.absN:=rfl;simp only[true_and,ne_eq,hm,not_false_eq_true,if_true];unfold Dy.val;rw[h2];cases d.neg<;>simp
theorem qal {x:Iv}(w:x.W)(h:x.known=true):x.lo.val<=x.hi.val:=by
 obtain⟨h1,h2⟩:=qai w h;simp[Iv.known]at h;have hv:=h.2;rw[Iv.valid,if_neg (by simp[h.1])]at hv;simp[qj1 h1 h2,cmpI_le]at hv;exact hv.2
def Iv.mag (x:Iv):Dy:=x.lo.abs.hi2 x.hi.abs
def Iv.mig (x:Iv):Dy:=if x.sgn=0 then Dy.zero else x.lo.abs.lo2 x.hi.abs
def Iv.abs (x:Iv):Iv:=if x.known=true then⟨x.mig,x.mag,false⟩else Iv.whole
theorem qpq {x:Iv}(w:x.W)(h:x.known=true):x.mag.Ok:=qac6 (qgn (qai w h).1) (qgn (qai w h).2)
theorem qacj {x:Iv}(w:x.W)(h:x.known=true):x.mig.Ok:=by
 unfold Iv.mig;split
 ·exact Dy.zero_ok
 ·exact qacr (qgn (qai w h).1) (qgn (qai w h).2)
theorem abs_W {x:Iv}(w:x.W):x.abs.W:=by
 unfold Iv.abs;split
 ·rename_i h;exact⟨(qacj w h).w,(qpq w h).w⟩
 ·exact Iv.whole_W
theorem q6p (x:Iv)(wx:x.W):CQ prog qxm [x.v] (.tup [(if x.known=true then x.mag else Dy.zero).v,.bool x.known]):=by
 refine qaf rfl fun H=>?_
 simp;refine qam rfl rfl (H1:=H++[some ⟨7,[x.v],false,true⟩,some ⟨3,[.agg [.bool false,.nil,.int .i64 0]],false,true⟩,some ⟨7,[x.v],true,false⟩]) (vs:=[ivs [x]]) (by simp[prep,frzVs,frzV];rfl) (qdg [x] (by simp) (by simpa using wx)) ?_;cases hk:x.known
 ·simp[hk,Dy.zero,lim]
 ·obtain⟨h1,h2⟩:=qai wx hk;simp[hk];refine qaa rfl rfl rfl (qw9 x.lo wx.lo) ?_;simp;refine qaa rfl rfl rfl (qw9 x.hi wx.hi) ?_;simp;refine qaa rfl rfl rfl (q0f x.lo.abs x.hi.abs (qgn h1).w (qgn h2).w) ?_;simp[Iv.mag,lim]
theorem qalq (x:Iv)(wx:x.W):CQ prog qxl [x.v] (.tup [(if x.known=true then x.mig else Dy.zero).v,.bool x.known]):=by
 refine qaf rfl fun H=>?_
 simp;refine qam rfl rfl (H1:=H++[some ⟨7,[x.v],false,true⟩,some ⟨3,[.agg [.bool false,.nil,.int .i64 0]],false,true⟩,some ⟨7,[x.v],true,false⟩]) (vs:=[ivs [x]]) (by simp[prep,frzVs,frzV];rfl) (qdg [x] (by simp) (by simpa using wx)) ?_;cases hk:x.known
 ·simp[hk,Dy.zero,lim]
 ·obtain⟨h1,h2⟩:=qai wx hk;simp[hk];refine qaa rfl rfl rfl (q82 x wx) ?_;by_cases hs:x.sgn=0
  ·simp[hs,Iv.mig,Dy.zero,lim]
  ·simp[hs];refine qaa rfl rfl rfl (qw9 x.lo wx.lo) ?_;simp;refine qaa rfl rfl rfl (qw9 x.hi wx.hi) ?_;simp;refine qaa rfl rfl rfl (q0g x.lo.abs x.hi.abs (qgn h1).w (qgn h2).w) ?_;simp[Iv.mig,hs,lim]
theorem qafg (x:Iv)(wx:x.W):CQ prog qxp [x.v] x.abs.v:=by
 refine qaf rfl fun H=>?_
 have m1:=qalq x wx;have m2:=q6p x wx;simp;refine qam rfl rfl (H1:=H++[some ⟨7,[x.v],false,true⟩,some ⟨7,[.agg [.bool false,.nil,.int .i64 0,.bool false,.nil,.int .i64 0,.bool false]],false,true⟩,some ⟨7,[x.v],true,false⟩]) (vs:=[ivs [x]]) (by simp[prep,frzVs,frzV];rfl) (qdg [x] (by simp) (by simpa using wx)) ?_;cases hk:x.known
 ·simp[hk];refine zq qak ?_;simp[Iv.abs,hk,lim]
 ·rw[hk]at m1 m2;simp at m1 m2;simp[hk];refine zq m1 ?_;simp;refine zq m2 ?_;simp[Iv.abs,hk,lim]
def pairs (x y:Iv):List (Dy × Dy):=[(x.lo,y.lo),(x.lo,y.hi),(x.hi,y.lo),(x.hi,y.hi)]
def accLo (f:Dy->Dy->Dy × Int):List (Dy × Dy)->Nat->Dy
 |_,0=>Dy.zero
 |l,i+1=>if i=0 then(f ((l.getD i (Dy.zero,Dy.zero)).1) ((l.getD i (Dy.zero,Dy.zero)).2)).1 else(accLo f l i).lo2 (f ((l.getD i (Dy.zero,Dy.zero)).1) ((l.getD i (Dy.zero,Dy.zero)).2)).1
def accHi (f:Dy->Dy->Dy × Int):List (Dy × Dy)->Nat->Dy
 |_,0=>Dy.zero
 |l,i+1=>if i=0 then(f ((l.getD i (Dy.zero,Dy.zero)).1) ((l.getD i (Dy.zero,Dy.zero)).2)).1 else(accHi f l i).hi2 (f ((l.getD i (Dy.zero,Dy.zero)).1) ((l.getD i (Dy.zero,Dy.zero)).2)).1
def Iv.four (f g:Dy->Dy->Dy × Int)(x y:Iv):Iv:=
 if(pairs x y).all (fun q=>decide ((f q.1 q.2).2=0)&&decide ((g q.1 q.2).2=0))=true then⟨accLo f (pairs x y) 4,accHi g (pairs x y) 4,false⟩else Iv.whole
theorem q8l {a b:Dy}(ha:a.Ok)(hb:b.Ok):(b.cmp a<0↔¬a.cmp b<=0)/\(0<b.cmp a↔¬0<=a.cmp b):=by
 rw[qj1 ha hb,qj1 hb ha,qak7,qak8,cmpI_le,q6a];omega
def zIv : V:=.agg [.bool false,.nil,.int .i64 0,.bool false,.nil,.int .i64 0,.bool false]
theorem q90 {n0:Nat}{Q:AX->Env->Heap->Prop}(H G:Heap)(E:Env)(x y:Iv)(p:Int)(gd gu:Nat)(f g:Dy->Dy->Dy × Int)
 (hd:∀H args,prep prog gd H args=frzVs H args) (hu:∀H args,prep prog gu H args=frzVs H args)
 (cd:∀a b:Dy,a.W->b.W->CQ prog gd [a.v,b.v,.int .i64 p] (.tup [(f a b).1.v,.int .i64 (f a b).2])) (cu:∀a b:Dy,a.W->b.W->CQ prog gu [a.v,b.v,.int .i64 p] (.tup [(g a b).1.v,.int .i64 (g a b).2]))
 (okf:∀a b,(f a b).1.Ok) (okg:∀a b,(g a b).1.Ok) (i:Nat) (hi:i<4) (a b:Dy) (wa:a.W) (wb:b.W) (cs:List V) (A:Blk)
 (hl6:6<=cs.length-i*6) (ht6:List.take 6 (List.drop (i*6) cs)=[.bool a.neg,lim a.m,.int .i64 a.e,.bool b.neg,lim b.m,.int .i64 b.e])
 (lo hi2:Dy) (olo:lo.Ok) (ohi:hi2.Ok) (w:V) (hw:(i=0/\w=zIv)\/(i≠0/\w=Iv.v ⟨lo,hi2,false⟩))
 (h2:E 2=.int .i64 p) (h3:E 3=.fn gd []) (h4:E 4=.fn gu []) (h10:E 10=.ptr (H.length+2) 0 0) (h12:E 12=.ptr (H.length+4) 0 0) (h40:E 40=.agg cs) (h41:E 41=.int .i64 i)
 (hbad:((f a b).2≠0\/(g a b).2≠0)->∀E1 G1,E1 10=.ptr (H.length+2) 0 0->Q .ret E1 (H++some ⟨7,[x.v],false,true⟩ :: some ⟨7,[y.v],false,true⟩ :: some ⟨7,[Iv.whole.v],false,true⟩ :: some A :: some ⟨7,[w],false,true⟩ :: G1))
 (hgood:(f a b).2=0->(g a b).2=0->∀E1 G1,E1 2=.int .i64 p->E1 3=.fn gd []->E1 4=.fn gu []->E1 10=.ptr (H.length+2) 0 0->E1 12=.ptr (H.length+4) 0 0->E1 40=.agg cs->E1 41=.int .i64 ((i+1:Nat):Int) ->
  Q .normal E1 (H++some ⟨7,[x.v],false,true⟩ :: some ⟨7,[y.v],false,true⟩ :: some ⟨7,[zIv],false,true⟩ :: some A :: some ⟨7,[Iv.v ⟨if i=0 then(f a b).1 else lo.lo2 (f a b).1,if i=0 then(g a b).1 else hi2.hi2 (g a b).1,false⟩],false,true⟩ :: G1)) (hn0:n0=H.length) :
 WK prog n0 qdi [] E (H++some ⟨7,[x.v],false,true⟩ :: some ⟨7,[y.v],false,true⟩ :: some ⟨7,[zIv],false,true⟩ :: some A :: some ⟨7,[w],false,true⟩ :: G) Q:=by
 subst hn0;have e1:IntKind.i64.wrap ((i:Int)+1)=((i+1:Nat):Int):=by rw[wrap_i64]<;>omega
 have c1:=cd a b wa wb;have c2:=cu a b wa wb;have hi':(i:Int)<4:=by omega
 simp[qdi,h2,h3,h40,h41,hi,hi',hl6,ht6];refine qaa (g:=gd) (caps:=[]) (args:=[a.v,b.v,.int .i64 p]) (vs:=[a.v,b.v,.int .i64 p]) rfl rfl (by rw[hd];rfl) c1 ?_;simp[h4,h2];refine qaa (g:=gu) (caps:=[]) (args:=[a.v,b.v,.int .i64 p]) (vs:=[a.v,b.v,.int .i64 p]) rfl rfl (by rw[hu];rfl) c2 ?_;by_cases b1:(f a b).2=0
 ·by_cases b2:(g a b).2=0
  ·rcases hw with ⟨rfl,rfl⟩|⟨h0,rfl⟩
   ·simp[b1,b2,zIv,h41,h12];simp[zIv]at hgood;exact hgood b1 b2 _ _ (by simp[h2]) (by simp[h3]) (by simp[h4]) (by simp[h10]) (by simp[h12]) (by simp[h40]) (by simpa using e1)
   ·have h0':¬(i:Int)=0:=by omega
    simp[b1,b2,h0,h12,zIv];simp[zIv,h0]at hgood;obtain⟨f1,f2⟩:=q8l olo (okf a b);obtain⟨f3,f4⟩:=q8l ohi (okg a b);refine qaa rfl rfl rfl (qei _ _ (okf a b).w olo.w) ?_;by_cases q1:(f a b).1.cmp lo<0
    ·simp[q1,h0,h12];refine qaa rfl rfl rfl (qei _ _ (okg a b).w ohi.w) ?_;by_cases q2:0<(g a b).1.cmp hi2
     ·simp[q2,h12,h41];have q3:=f1.1 q1;have q4:=f4.1 q2;simp[Dy.lo2,Dy.hi2,q3,q4]at hgood;exact hgood b1 b2 _ _ (by simp[h2]) (by simp[h3]) (by simp[h4]) (by simp[h10]) (by simp[h12]) (by simp[h40]) (by simp[e1])
     ·simp[q2,h41];have q3:=f1.1 q1;have q4:0<=hi2.cmp (g a b).1:=Decidable.byContradiction fun h=>q2 (f4.2 h)
      simp[Dy.lo2,Dy.hi2,q3,q4]at hgood;exact hgood b1 b2 _ _ (by simp[h2]) (by simp[h3]) (by simp[h4]) (by simp[h10]) (by simp[h12]) (by simp[h40]) (by simp[e1])
    ·simp[q1,h0,h12];have q3:lo.cmp (f a b).1<=0:=Decidable.byContradiction fun h=>q1 (f1.2 h)
     refine qaa rfl rfl rfl (qei _ _ (okg a b).w ohi.w) ?_;by_cases q2:0<(g a b).1.cmp hi2
     ·simp[q2,h12,h41];have q4:=f4.1 q2;simp[Dy.lo2,Dy.hi2,q3,q4]at hgood;exact hgood b1 b2 _ _ (by simp[h2]) (by simp[h3]) (by simp[h4]) (by simp[h10]) (by simp[h12]) (by simp[h40]) (by simp[e1])
     ·simp[q2,h41];have q4:0<=hi2.cmp (g a b).1:=Decidable.byContradiction fun h=>q2 (f4.2 h)
      simp[Dy.lo2,Dy.hi2,q3,q4]at hgood;exact hgood b1 b2 _ _ (by simp[h2]) (by simp[h3]) (by simp[h4]) (by simp[h10]) (by simp[h12]) (by simp[h40]) (by simp[e1])
  ·simp[b1,b2];refine zq qak ?_;simp[h10];simp at hbad;exact hbad (.inr b2) _ _ (by simp[h10])
 ·simp[b1];refine zq qak ?_;simp[h10];simp at hbad;exact hbad (.inl b1) _ _ (by simp[h10])
def qah (x y:Iv)(i:Nat):Dy × Dy:=(pairs x y).getD i (Dy.zero,Dy.zero)
def qwl (x y:Iv):List V:=[.bool x.lo.neg,lim x.lo.m,.int .i64 x.lo.e,.bool y.lo.neg,lim y.lo.m,.int .i64 y.lo.e,.bool x.lo.neg,lim x.lo.m,.int .i64 x.lo.e,.bool y.hi.neg,lim y.hi.m,.int .i64 y.hi.e,
 .bool x.hi.neg,lim x.hi.m,.int .i64 x.hi.e,.bool y.lo.neg,lim y.lo.m,.int .i64 y.lo.e,.bool x.hi.neg,lim x.hi.m,.int .i64 x.hi.e,.bool y.hi.neg,lim y.hi.m,.int .i64 y.hi.e]
theorem qaeh {x y:Iv}{i:Nat}(hi:i<4):6<=(qwl x y).length-i*6/\List.take 6 (List.drop (i*6) (qwl x y))=[.bool (qah x y i).1.neg,lim (qah x y i).1.m,.int .i64 (qah x y i).1.e,.bool (qah x y i).2.neg,lim (qah x y i).2.m,.int .i64 (qah x y i).2.e]:=by
 obtain rfl|rfl|rfl|rfl:i=0\/i=1\/i=2\/i=3:=by omega
 all_goals simp[qwl,qah,pairs]
theorem qago {x y:Iv}(wx:x.W)(wy:y.W){i:Nat}(hi:i<4):(qah x y i).1.W/\(qah x y i).2.W:=by
 obtain rfl|rfl|rfl|rfl:i=0\/i=1\/i=2\/i=3:=by omega
 all_goals simp[qah,pairs,wx.lo,wx.hi,wy.lo,wy.hi]
theorem qdc {f:Dy->Dy->Dy × Int}{x y:Iv}{i:Nat}:accLo f (pairs x y) (i+1)=if i=0 then(f (qah x y i).1 (qah x y i).2).1 else(accLo f (pairs x y) i).lo2 (f (qah x y i).1 (qah x y i).2).1:=rfl
theorem qdd {f:Dy->Dy->Dy × Int}{x y:Iv}{i:Nat}:accHi f (pairs x y) (i+1)=if i=0 then(f (qah x y i).1 (qah x y i).2).1 else(accHi f (pairs x y) i).hi2 (f (qah x y i).1 (qah x y i).2).1:=rfl
theorem qcm {f:Dy->Dy->Dy × Int}(okf:∀a b,(f a b).1.Ok){x y:Iv}:∀i,(accLo f (pairs x y) i).Ok
 |0=>Dy.zero_ok
 |i+1=>by
  rw[qdc];split
  ·exact okf _ _
  ·exact qacr (qcm okf i) (okf _ _)
theorem qcn {f:Dy->Dy->Dy × Int}(okf:∀a b,(f a b).1.Ok){x y:Iv}:∀i,(accHi f (pairs x y) i).Ok
 |0=>Dy.zero_ok
 |i+1=>by
  rw[qdd];split
  ·exact okf _ _
  ·exact qac6 (qcn okf i) (okf _ _)
def good4 (f g:Dy->Dy->Dy × Int)(x y:Iv)(i:Nat):Prop:=∀j,j<i->(f (qah x y j).1 (qah x y j).2).2=0/\(g (qah x y j).1 (qah x y j).2).2=0
theorem qfd {f g:Dy->Dy->Dy × Int}{x y:Iv}(h:good4 f g x y 4):Iv.four f g x y=⟨accLo f (pairs x y) 4,accHi g (pairs x y) 4,false⟩:=by
 have h0:=h 0 (by omega);have h1:=h 1 (by omega);have h2:=h 2 (by omega);have h3:=h 3 (by omega);simp[qah,pairs]at h0 h1 h2 h3;unfold Iv.four;rw[if_pos];simp[pairs,h0,h1,h2,h3]
theorem q76 {f g:Dy->Dy->Dy × Int}{x y:Iv}{i:Nat}(hi:i<4)(h:(f (qah x y i).1 (qah x y i).2).2≠0\/(g (qah x y i).1 (qah x y i).2).2≠0):Iv.four f g x y=Iv.whole:=by
 unfold Iv.four;rw[if_neg];intro hc;simp[pairs]at hc;obtain rfl|rfl|rfl|rfl:i=0\/i=1\/i=2\/i=3:=by omega
 all_goals simp[qah,pairs]at h
 all_goals obtain⟨a,b,c,d⟩:=hc
 all_goals rcases h with h|h
 all_goals simp_all
theorem qade (x y:Iv)(p:Int)(gd gu:Nat)(f g:Dy->Dy->Dy × Int)(wx:x.W)(wy:y.W)
 (hd:∀H args,prep prog gd H args=frzVs H args) (hu:∀H args,prep prog gu H args=frzVs H args)
 (cd:∀a b:Dy,a.W->b.W->CQ prog gd [a.v,b.v,.int .i64 p] (.tup [(f a b).1.v,.int .i64 (f a b).2])) (cu:∀a b:Dy,a.W->b.W->CQ prog gu [a.v,b.v,.int .i64 p] (.tup [(g a b).1.v,.int .i64 (g a b).2]))
 (okf:∀a b,(f a b).1.Ok) (okg:∀a b,(g a b).1.Ok):CQ prog qvj [x.v,y.v,.int .i64 p,.fn gd [],.fn gu []] (Iv.four f g x y).v:=by
 refine qaf rfl fun H=>?_
 simp;refine qc5 (fun k E H'=>∃i w G,k=4-i/\i<=4/\((i=0/\w=zIv)\/(i≠0/\w=Iv.v ⟨accLo f (pairs x y) i,accHi g (pairs x y) i,false⟩))/\good4 f g x y i /\
  E 2=.int .i64 p/\E 3=.fn gd []/\E 4=.fn gu []/\E 10=.ptr (H.length+2) 0 0/\E 12=.ptr (H.length+4) 0 0/\E 40=.agg (qwl x y)/\E 41=.int .i64 i /\
  H'=H++some ⟨7,[x.v],false,true⟩ :: some ⟨7,[y.v],false,true⟩ :: some ⟨7,[zIv],false,true⟩ :: some ⟨24,[.agg (qwl x y)],false,true⟩ :: some ⟨7,[w],false,true⟩ :: G) 4 ?_ ?_
 ·refine⟨0,zIv,[],rfl,by omega,.inl ⟨rfl,rfl⟩,fun j hj=>by omega,?_,?_,?_,?_,?_,?_,?_,?_⟩<;>simp[qwl,zIv]
 ·rintro k E H' ⟨i,w,G,hk,hi,hw,hg,h2,h3,h4,h10,h12,h40,h41,rfl⟩;refine qas ?_;by_cases h4':i<4
  ·obtain⟨hl,ht⟩:=qaeh (x:=x) (y:=y) h4';obtain⟨wa,wb⟩:=qago wx wy h4';refine q90 H G E x y p gd gu f g hd hu cd cu okf okg i h4' _ _ wa wb (qwl x y) _ hl ht _ _ (qcm okf i) (qcn okg i) w hw h2 h3 h4 h10 h12 h40 h41 ?_ ?_ rfl
   ·intro hb E1 G1 e10;simp[e10,q76 h4' hb,Iv.whole,lim]
   ·intro b1 b2 E1 G1 e2 e3 e4 e10 e12 e40 e41;refine⟨4-(i+1),by omega,i+1,_,G1,rfl,by omega,.inr ⟨by omega,?_⟩,?_,e2,e3,e4,e10,e12,e40,e41,rfl⟩
    ·rw[qdc,qdd]
    ·intro j hj;by_cases h:j<i
     ·exact hg j h
     ·have:j=i:=by omega
      subst this;exact⟨b1,b2⟩
  ·have:i=4:=by omega
   subst this;rcases hw with ⟨h,_⟩|⟨_,rfl⟩
   ·omega
   ·simp[qdi,h41,h10,h12,qfd hg,lim,zIv]
def Iv.mul (x y:Iv)(p:Int):Iv:=if(x.known&&y.known&&precB p)=true then Iv.four (fun a b=>rMul a b p false) (fun a b=>rMul a b p true) x y else Iv.whole
def Iv.div (x y:Iv)(p:Int):Iv:=if(x.known&&y.known&&precB p&&decide (y.sgn≠0))=true then Iv.four (fun a b=>rDiv a b p false) (fun a b=>rDiv a b p true) x y else Iv.whole
theorem qaik {f g:Dy->Dy->Dy × Int}(okf:∀a b,(f a b).1.Ok)(okg:∀a b,(g a b).1.Ok){x y:Iv}:(Iv.four f g x y).W:=by
 unfold Iv.four;split
 ·exact⟨(qcm okf 4).w,(qcn okg 4).w⟩
 ·exact Iv.whole_W
theorem mul_W {x y:Iv}{p:Int}:(x.mul y p).W:=by
 unfold Iv.mul;split
 ·exact qaik (fun _ _=>rMul_ok) (fun _ _=>rMul_ok)
 ·exact Iv.whole_W
theorem div_W {x y:Iv}{p:Int}:(x.div y p).W:=by
 unfold Iv.div;split
 ·exact qaik (fun _ _=>rDiv_ok) (fun _ _=>rDiv_ok)
 ·exact Iv.whole_W
theorem qafe (x y:Iv)(p:Int)(wx:x.W)(wy:y.W):CQ prog qxk [x.v,y.v,.int .i64 p] (x.mul y p).v:=by
 refine qaf rfl fun H=>?_
 simp;refine qam rfl rfl (H1:=H++[some ⟨7,[x.v],false,true⟩,some ⟨7,[y.v],false,true⟩,some ⟨7,[.agg [.bool false,.nil,.int .i64 0,.bool false,.nil,.int .i64 0,.bool false]],false,true⟩,some ⟨7,[x.v,y.v],true,false⟩]) (vs:=[ivs [x,y]]) (by simp[prep,frzVs,frzV];rfl) (qdg [x,y] (by simp) (by simp;exact⟨wx,wy⟩)) ?_;cases hk:x.known&&y.known
 ·have:([x,y].all Iv.known)=false:=by simpa using hk
  simp only[this];simp;refine zq qak ?_;simp[Iv.mul,hk,lim]
 ·have:([x,y].all Iv.known)=true:=by simpa using hk
  simp only[this];simp;refine qaa rfl rfl rfl (qcw p) ?_;cases hp:precB p
  ·simp;refine zq qak ?_;simp[Iv.mul,hp,lim]
  ·simp;refine qaa rfl rfl rfl (qade x y p qie ql8 (fun a b=>rMul a b p false) (fun a b=>rMul a b p true) wx wy (fun _ _=>rfl) (fun _ _=>rfl) (fun a b wa wb=>qsi a b p wa wb) (fun a b wa wb=>q1u a b p wa wb) (fun _ _=>rMul_ok) (fun _ _=>rMul_ok)) ?_;simp[Iv.mul,hk,hp,lim]
theorem qaff (x y:Iv)(p:Int)(wx:x.W)(wy:y.W):CQ prog qxn [x.v,y.v,.int .i64 p] (x.div y p).v:=by
 refine qaf rfl fun H=>?_
 simp;refine qam rfl rfl (H1:=H++[some ⟨7,[x.v],false,true⟩,some ⟨7,[y.v],false,true⟩,some ⟨7,[.agg [.bool false,.nil,.int .i64 0,.bool false,.nil,.int .i64 0,.bool false]],false,true⟩,some ⟨7,[x.v,y.v],true,false⟩]) (vs:=[ivs [x,y]]) (by simp[prep,frzVs,frzV];rfl) (qdg [x,y] (by simp) (by simp;exact⟨wx,wy⟩)) ?_;cases hk:x.known&&y.known
 ·have:([x,y].all Iv.known)=false:=by simpa using hk
  simp only[this];simp;refine zq qak ?_;simp[Iv.div,hk,lim]
 ·have:([x,y].all Iv.known)=true:=by simpa using hk
  simp only[this];simp;refine qaa rfl rfl rfl (qcw p) ?_;cases hp:precB p
  ·simp;refine zq qak ?_;simp[Iv.div,hp,lim]
  ·simp;refine qaa rfl rfl rfl (q82 y wy) ?_;by_cases hs:y.sgn=0
   ·simp[hs];refine zq qak ?_;simp[Iv.div,hs,lim]
   ·simp[hs];refine qaa rfl rfl rfl (qade x y p qny qq5 (fun a b=>rDiv a b p false) (fun a b=>rDiv a b p true) wx wy (fun _ _=>rfl) (fun _ _=>rfl) (fun a b wa wb=>qzr a b p wa wb) (fun a b wa wb=>q84 a b p wa wb) (fun _ _=>rDiv_ok) (fun _ _=>rDiv_ok)) ?_;simp[Iv.div,hk,hp,hs,lim]
def Iv.sq (x:Iv)(p:Int):Iv:=if(!x.abs.all&&precB p)=true then Iv.made (rMul x.abs.lo x.abs.lo p false) (rMul x.abs.hi x.abs.hi p true)else Iv.whole
theorem sq_W {x:Iv}{p:Int}:(x.sq p).W:=by
 unfold Iv.sq;split
 ·exact qq1 rMul_ok.w rMul_ok.w
 ·exact Iv.whole_W
theorem qzq (x:Iv)(p:Int)(wx:x.W):CQ prog qrz [x.v,.int .i64 p] (x.sq p).v:=by
 refine qaf rfl fun H=>?_
 have wy:=abs_W wx;simp;refine qaa rfl rfl rfl (qafg x wx) ?_;generalize hy:x.abs=y at *
 cases ha:y.all
 ·simp[ha];refine qaa rfl rfl rfl (qcw p) ?_;cases hp:precB p
  ·simp;refine zq qak ?_;simp[Iv.sq,hy,hp,lim]
  ·simp;refine qaa rfl rfl rfl (qsi y.lo y.lo p wy.lo wy.lo) ?_;simp;refine qaa rfl rfl rfl (q1u y.hi y.hi p wy.hi wy.hi) ?_;simp;refine qaa rfl rfl rfl (ql5 (rMul y.lo y.lo p false) (rMul y.hi y.hi p true)) ?_;simp[Iv.sq,hy,ha,hp,lim]
 ·simp[ha];refine zq qak ?_;simp[Iv.sq,hy,ha,lim]
def nD (k:Int):Dy:=Dy.of (decide (k<0)) k.natAbs 0
def nI (a b:Int):Iv:=⟨nD a,nD b,false⟩
def Dy.huge (d:Dy):Bool:=decide (512<d.m.length)
def Iv.great (x:Iv):Bool:=x.lo.huge ||x.hi.huge
theorem nD_ok {k:Int}(h:k.natAbs<=4611686018427387904):(nD k).Ok:=by
 unfold nD;have hb:bitL k.natAbs<=64:=qbc (by omega);exact Dy.of_ok (Dy.of_inR (by omega) (by omega) (by omega))
theorem nI_W {a b:Int}(ha:a.natAbs<=4611686018427387904)(hb:b.natAbs<=4611686018427387904):(nI a b).W:=⟨(nD_ok ha).w,(nD_ok hb).w⟩
end Go.Abs.W
