import Derived.Test.YtblicjipogbhmaaGreatDoorFi
namespace Go.Abs.W
def Iv.Lm (x:Iv):Prop:=Li x.lo.m/\Li x.hi.m
def Iv.pt (d:Dy):Iv:=⟨d,d,false⟩
def Iv.has (x:Iv)(d:Dy):Bool:=x.valid&&d.valid&&(x.all || (decide (x.lo.cmp d<=0)&&decide (d.cmp x.hi<=0)))
theorem dX {d:Dy}(w:d.W):(Iv.pt d).W:=⟨w,w⟩
theorem qN (d:Dy)(w:d.W):CQ prog Zo [d.v] (if d.valid=true then Iv.pt d else Iv.whole).v:=by
 refine ap rfl fun H=>?_
 simp;refine ak rfl rfl rfl (kE d w.len w.li) ?_;cases hv:d.valid
 ·simp;refine zq dA ?_;simp[Iv.whole,lim]
 ·simp[Iv.pt,lim]
theorem tT (d:Dy):CQ prog q2f [d.v] (Iv.pt d).v:=by
 refine ap rfl fun H=>?_
 simp[Iv.pt,lim]
set_option maxHeartbeats 1000000 in
theorem MA (x:Iv)(d:Dy)(b:x.W)(a:d.W):CQ prog q8o [x.v,d.v] (.bool (x.has d)):=by
 refine ap rfl fun H=>?_
 simp;repeat' first
  | (refine ak rfl rfl rfl (Cz x b) ?_;simp[*])
  | (refine ak rfl rfl rfl (qP d a) ?_;simp[*])
  | (refine ak rfl rfl rfl (px x.lo d (b.okLo (by assumption) (by assumption)) (Dy.Ok.of a.li (by assumption))) ?_;simp)
  | (refine ak rfl rfl rfl (px d x.hi (Dy.Ok.of a.li (by assumption)) (b.okHi (by assumption) (by assumption))) ?_;simp)
  |refine And.intro ?_ ?_
  |intro _
 all_goals first| (simp[Iv.has, *];done)| (simp[Iv.has, *];grind)|grind [Iv.has]
def Iv.wid (x:Iv)(p:Int):Dy × Int:=if(x.known&&af p)=true then aV x.hi x.lo.neg' p true else(Dy.zero,1)
def Iv.mid (x:Iv)(p:Int):Dy:=
 if(x.known&&af p)=true then
  (if(aV x.lo x.hi p false).2=0/\(aV x.lo x.hi p false).1.sclE (-1)=0/\x.has ((aV x.lo x.hi p false).1.scl (-1))=true then(aV x.lo x.hi p false).1.scl (-1)else x.lo)
 else Dy.zero
theorem Ov (x:Iv)(p:Int)(b:x.W):CQ prog qy3 [x.v,.int .i64 p] (.tup [(x.wid p).1.v,.bool (decide ((x.wid p).2=0))]):=by
 refine ap rfl fun H=>?_
 simp;refine bt rfl rfl (H1:=H++[some ⟨7,[x.v],false,true⟩,some ⟨3,[.agg [.bool false,.nil,.int .i64 0]],false,true⟩,some ⟨7,[x.v],true,false⟩]) (vs:=[aC [x]]) (by simp[prep,ah,aF];rfl) (kf [x] (by simp) (by simpa using b)) ?_;cases a:x.known
 ·simp[a,Iv.wid,Dy.zero,lim]
 ·obtain⟨c,f⟩:=bg b a;have e:=gh c;simp[a];refine ak rfl rfl rfl (ra p) ?_;cases d:af p
  ·simp[Iv.wid,d,Dy.zero,lim]
  ·simp;refine ak rfl rfl rfl (Bq x.lo b.lo) ?_;rw[B3 c];simp;refine ak rfl rfl rfl (yC x.hi x.lo.neg' p b.hi e.w) ?_;simp[Iv.wid,a,d,lim]
theorem Nt {neg:Bool}{m:Nat}{e:Int}{more:Bool}{p:Nat}{up:Bool}(h:(aN neg m e more p up).2≠0):(aN neg m e more p up).1=Dy.zero:=by
 revert h;unfold aN
 split
 ·split
  ·intro _;rfl
  ·intro h;exact absurd rfl h
 ·intro h;exact absurd rfl h
theorem Of {a b:Dy}{p:Int}{up:Bool}(h:(aV a b p up).2≠0):(aV a b p up).1=Dy.zero:=by
 revert h;unfold aV
 split
 ·exact Nt
 ·intro _;rfl
theorem QI (x:Iv)(p:Int)(f:x.W):CQ prog q2c [x.v,.int .i64 p] (.tup [(x.wid p).1.v,.bool (decide ((x.wid p).2=0))]):=by
 refine ap rfl fun H=>?_
 simp;refine ak rfl rfl rfl (tU p) ?_;cases e:af p
 ·simp[Iv.wid,e,Dy.zero,lim]
 ·simp;refine ak rfl rfl rfl (kH x f) ?_;cases c:x.known
  ·simp[c,Iv.wid,Dy.zero,lim]
  ·obtain⟨h,j⟩:=bg f c;have i:=gh h;simp;refine ak rfl rfl rfl (mA x.lo) ?_;simp;refine ak rfl rfl rfl (B6 x.hi x.lo.neg' p true f.hi i.w) ?_;have g:=Of (a:=x.hi) (b:=x.lo.neg') (p:=p) (up:=true);by_cases d:(aV x.hi x.lo.neg' p true).2=0
   ·simp[Iv.wid,c,e,d,lim]
   ·simp[Iv.wid,c,e,d,lim,g d,Dy.zero]
theorem kX {d:Dy}{k:Int}:(d.scl k).W:=by
 unfold Dy.scl;split
 ·unfold Dy.chk;split
  ·rename_i h;exact(Dy.of_ok h).w
  ·exact Dy.zero_W
 ·exact Dy.zero_W
theorem MB (x:Iv)(p:Int)(c:x.W):CQ prog q8n [x.v,.int .i64 p] (x.mid p).v:=by
 refine ap rfl fun H=>?_
 simp;refine ak rfl rfl rfl (tU p) ?_;cases g:af p
 ·simp[Iv.mid,g,Dy.zero,lim]
 ·simp;refine ak rfl rfl rfl (kH x c) ?_;cases f:x.known
  ·simp[f,Iv.mid,Dy.zero,lim]
  ·simp;refine ak rfl rfl rfl (B6 x.lo x.hi p false c.lo c.hi) ?_;have ok:=rAdd_ok (a:=x.lo) (b:=x.hi) (p:=p) (up:=false);have h:x.mid p=if(aV x.lo x.hi p false).2=0/\(aV x.lo x.hi p false).1.sclE (-1)=0/\x.has ((aV x.lo x.hi p false).1.scl (-1))=true then(aV x.lo x.hi p false).1.scl (-1)else x.lo:=by simp[Iv.mid,f,g]
   rw[h];generalize aV x.lo x.hi p false=r at *
   simp;refine ak rfl rfl rfl (UO r.1 (-1) ok.w) ?_;by_cases d:r.2=0
   ·by_cases e:r.1.sclE (-1)=0
    ·simp[d,e];refine ak rfl rfl rfl (MA x (r.1.scl (-1)) c kX) ?_;cases i:x.has (r.1.scl (-1))<;>simp[lim]
    ·simp[d,e,lim]
   ·simp[d,lim]
theorem ux {x:Iv}{p:Int}:(x.wid p).1.W:=by
 unfold Iv.wid;split
 ·exact rAdd_ok.w
 ·exact Dy.zero_W
