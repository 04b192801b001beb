/- Parts of the proof: FpR03, FpR03b, FpIvA, FpIvB, FpIvC, FpIvD, FpIvE, FpIvF. -/
import Derived.Test.YtfioikimlnlcbaaGreatDoorFh
import Derived.Test.YtfioikimlnlcbaaGreatDoorFg
import Derived.Test.YtfioikimlnlcbaaGreatDoorFg
import Derived.Test.YtfioikimlnlcbaaGreatDoorFe
namespace Go.Abs.W
theorem qacu {q b:Nat}(h:bitL q<=b):(qae q).length<=b/32+1:=
 qeh (Nat.lt_of_lt_of_le (qbw q) (Nat.pow_le_pow_right (by omega) h)) (by omega)
theorem Dy.Ok.size {d:Dy}(h:d.Ok):d.m.length<=10000/\Li d.m/\-100000<=d.e/\d.e<=100000:=by
 have h1:=h.elo;have h2:=h.ehi;have h3:=h.len;exact⟨by omega,h.li,by omega,by omega⟩
def Iv.made (r s:Dy × Int):Iv:=if r.2=0/\s.2=0 then⟨r.1,s.1,false⟩else Iv.whole
def Iv.add (x y:Iv)(p:Int):Iv:=if(x.known&&y.known&&precB p)=true then Iv.made (rAdd x.lo y.lo p false) (rAdd x.hi y.hi p true)else Iv.whole
def Iv.neg (x:Iv):Iv:=if x.known=true then⟨x.hi.neg',x.lo.neg',false⟩else Iv.whole
def Iv.rnd (x:Iv)(p:Int):Iv:=if(x.known&&precB p)=true then Iv.made (qee x.lo p false) (qee x.hi p true)else Iv.whole
def Iv.scl (x:Iv)(k:Int):Iv:=if x.known=true then Iv.made (x.lo.scl k,x.lo.sclE k) (x.hi.scl k,x.hi.sclE k)else Iv.whole
def Iv.sgn (x:Iv):Int:=if x.known=true then(if 0<x.lo.sgn then 1 else if x.hi.sgn<0 then -1 else 0)else 0
theorem Dy.zero_W : Dy.zero.W:=Dy.zero_ok.w
theorem Iv.whole_W : Iv.whole.W:=⟨Dy.zero_W,Dy.zero_W⟩
theorem rRound_ok {d:Dy}{p:Int}{up:Bool}:(qee d p up).1.Ok:=by
 unfold qee;split
 ·rename_i h;obtain⟨_,h1,h2⟩:=qg0 h;exact qs8 (by omega) (by omega)
 ·exact Dy.zero_ok
theorem rAdd_ok {a b:Dy}{p:Int}{up:Bool}:(rAdd a b p up).1.Ok:=by
 unfold rAdd;split
 ·rename_i h;obtain⟨_,h1,h2⟩:=qg0 h;exact qs8 (by omega) (by omega)
 ·exact Dy.zero_ok
theorem qk6 {a b:Dy}{p:Int}{up:Bool}:(rMul a b p up).1.Ok:=by
 unfold rMul;split
 ·rename_i h;obtain⟨_,h1,h2⟩:=qg0 h;exact qs8 (by omega) (by omega)
 ·exact Dy.zero_ok
theorem qv2 {a b:Dy}{p:Int}{up:Bool}:(rDiv a b p up).1.Ok:=by
 unfold rDiv;split
 ·rename_i h;obtain⟨_,h1,h2⟩:=qg0 h;split
  ·exact Dy.zero_ok
  ·split
   ·exact Dy.zero_ok
   ·exact qs8 (by omega) (by omega)
 ·exact Dy.zero_ok
theorem q80 {r s:Dy × Int}(hr:r.1.W)(hs:s.1.W):(Iv.made r s).W:=by
 unfold Iv.made;split
 ·exact⟨hr,hs⟩
 ·exact Iv.whole_W
theorem qacx (r s:Dy × Int):CQ prog qsb [r.1.v,.int .i64 r.2,s.1.v,.int .i64 s.2] (Iv.made r s).v:=by
 refine qaf rfl fun H=>?_
 by_cases hr:r.2=0
 ·by_cases hs:s.2=0
  ·simp[hr,hs,Iv.made,lim]
  ·simp[hr,hs];refine zq qcs ?_;simp[Iv.made,hs,lim]
 ·simp[hr];refine zq qcs ?_;simp[Iv.made,hr,lim]
theorem qyn (p:Int):CQ prog qmk [.int .i64 p] (.bool (precB p)):=by
 refine qaf rfl fun H=>?_
 simp[precB];grind
theorem qaa8 (p:Int):CQ prog qt7 [.int .i64 p] (.bool (precB p)):=by
 refine qaf rfl fun H=>?_
 simp[precB];grind
theorem add_W {x y:Iv}{p:Int}:(x.add y p).W:=by
 unfold Iv.add;split
 ·exact q80 rAdd_ok.w rAdd_ok.w
 ·exact Iv.whole_W
theorem qabd (x:Iv)(k:Int)(wx:x.W):CQ prog qq0 [x.v,.int .i64 k] (x.scl k).v:=by
 refine qaf rfl fun H=>?_
 simp;refine qau rfl rfl (H1:=H++[some ⟨7,[x.v],false,true⟩,some ⟨7,[.agg [.bool false,.nil,.int .i64 0,.bool false,.nil,.int .i64 0,.bool false]],false,true⟩,some ⟨7,[x.v],true,false⟩]) (vs:=[ivs [x]]) (by simp[prep,frzVs,frzV];rfl) (q3t [x] (by simp) (by simpa using wx)) ?_;cases hk:x.known
 ·simp[hk];refine zq qcs ?_;simp[Iv.scl,hk,lim]
 ·simp[hk];refine qab rfl rfl rfl (q0t x.lo k wx.lo) ?_;simp;refine qab rfl rfl rfl (q0t x.hi k wx.hi) ?_;simp;refine qab rfl rfl rfl (qacx (x.lo.scl k,x.lo.sclE k) (x.hi.scl k,x.hi.sclE k)) ?_;simp[Iv.scl,hk,lim]
theorem qlf {a b:Dy}(ha:a.Ok)(hb:b.Ok):a.cmp b=cmpI a.val b.val:=by simp[Dy.cmp,ha.valid,hb.valid]
theorem qj1 {x y:Int}:cmpI x y<=0↔x<=y:=by unfold cmpI;split<;>(try split)<;>omega
theorem qw9 {x y:Int}:0<=cmpI x y↔y<=x:=by unfold cmpI;split<;>(try split)<;>omega
theorem qahu {x y:Int}:cmpI x y<0↔x<y:=by unfold cmpI;split<;>(try split)<;>omega
theorem qahv {x y:Int}:0<cmpI x y↔y<x:=by unfold cmpI;split<;>(try split)<;>omega
theorem q1h {a b:Dy}(ha:a.Ok)(hb:b.Ok):(a.lo2 b).val=min a.val b.val:=by
 unfold Dy.lo2;rw[qlf ha hb];split
 ·rename_i h;rw[qj1]at h;omega
 ·rename_i h;rw[qj1]at h;omega
theorem q1l {a b:Dy}(ha:a.Ok)(hb:b.Ok):(a.hi2 b).val=max a.val b.val:=by
 unfold Dy.hi2;rw[qlf ha hb];split
 ·rename_i h;rw[qw9]at h;omega
 ·rename_i h;rw[qw9]at h;omega
theorem sgn_val {d:Dy}(h:d.Ok):(0<d.sgn↔0<d.val)/\(d.sgn<0↔d.val<0):=by
 by_cases hm:d.m=[]
 ·have h1:d.absN=0:=Dy.absN_nil hm;simp[Dy.sgn,Dy.val,hm,h1]
 ·have h1:=h.absN_ne hm;unfold Dy.sgn Dy.val;rw[if_neg hm];cases d.neg<;>simp<;>omega
theorem qn2 : Dy.zero.val=0:=by
 unfold Dy.val;rw[Dy.absN_nil rfl];rfl
theorem qgt {x:Iv}(w:x.W)(h:x.known=true):x.lo.val<=x.hi.val:=by
 obtain⟨h1,h2⟩:=qb3 w h;simp[Iv.known]at h;have hv:=h.2;rw[Iv.valid,if_neg (by simp[h.1])]at hv;simp[qlf h1 h2,qj1]at hv;exact hv.2
def Iv.mag (x:Iv):Dy:=x.lo.abs.hi2 x.hi.abs
def Iv.mig (x:Iv):Dy:=if x.sgn=0 then Dy.zero else x.lo.abs.lo2 x.hi.abs
def Iv.abs (x:Iv):Iv:=if x.known=true then⟨x.mig,x.mag,false⟩else Iv.whole
def pairs (x y:Iv):List (Dy × Dy):=[(x.lo,y.lo),(x.lo,y.hi),(x.hi,y.lo),(x.hi,y.hi)]
def accLo (f:Dy->Dy->Dy × Int):List (Dy × Dy)->Nat->Dy
 |_,0=>Dy.zero
 |l,i+1=>if i=0 then(f ((l.getD i (Dy.zero,Dy.zero)).1) ((l.getD i (Dy.zero,Dy.zero)).2)).1 else(accLo f l i).lo2 (f ((l.getD i (Dy.zero,Dy.zero)).1) ((l.getD i (Dy.zero,Dy.zero)).2)).1
def accHi (f:Dy->Dy->Dy × Int):List (Dy × Dy)->Nat->Dy
 |_,0=>Dy.zero
 |l,i+1=>if i=0 then(f ((l.getD i (Dy.zero,Dy.zero)).1) ((l.getD i (Dy.zero,Dy.zero)).2)).1 else(accHi f l i).hi2 (f ((l.getD i (Dy.zero,Dy.zero)).1) ((l.getD i (Dy.zero,Dy.zero)).2)).1
def Iv.four (f g:Dy->Dy->Dy × Int)(x y:Iv):Iv:=
 if(pairs x y).all (fun q=>decide ((f q.1 q.2).2=0)&&decide ((g q.1 q.2).2=0))=true then⟨accLo f (pairs x y) 4,accHi g (pairs x y) 4,false⟩else Iv.whole
theorem q4f {a b:Dy}(ha:a.Ok)(hb:b.Ok):(b.cmp a<0↔¬a.cmp b<=0)/\(0<b.cmp a↔¬0<=a.cmp b):=by
 rw[qlf ha hb,qlf hb ha,qahu,qahv,qj1,qw9];omega
def zIv : V:=.agg [.bool false,.nil,.int .i64 0,.bool false,.nil,.int .i64 0,.bool false]
theorem q58 {n0:Nat}{Q:AX->Env->Heap->Prop}(H G:Heap)(E:Env)(x y:Iv)(p:Int)(gd gu:Nat)(f g:Dy->Dy->Dy × Int)
 (hd:∀H args,prep prog gd H args=frzVs H args) (hu:∀H args,prep prog gu H args=frzVs H args)
 (cd:∀a b:Dy,a.W->b.W->CQ prog gd [a.v,b.v,.int .i64 p] (.tup [(f a b).1.v,.int .i64 (f a b).2])) (cu:∀a b:Dy,a.W->b.W->CQ prog gu [a.v,b.v,.int .i64 p] (.tup [(g a b).1.v,.int .i64 (g a b).2]))
 (okf:∀a b,(f a b).1.Ok) (okg:∀a b,(g a b).1.Ok) (i:Nat) (hi:i<4) (a b:Dy) (wa:a.W) (wb:b.W) (cs:List V) (A:Blk)
 (hl6:6<=cs.length-i*6) (ht6:List.take 6 (List.drop (i*6) cs)=[.bool a.neg,lim a.m,.int .i64 a.e,.bool b.neg,lim b.m,.int .i64 b.e])
 (lo hi2:Dy) (olo:lo.Ok) (ohi:hi2.Ok) (w:V) (hw:(i=0/\w=zIv)\/(i≠0/\w=Iv.v ⟨lo,hi2,false⟩))
 (h2:E 2=.int .i64 p) (h3:E 3=.fn gd []) (h4:E 4=.fn gu []) (h10:E 10=.ptr (H.length+2) 0 0) (h12:E 12=.ptr (H.length+4) 0 0) (h40:E 40=.agg cs) (h41:E 41=.int .i64 i)
 (hbad:((f a b).2≠0\/(g a b).2≠0)->∀E1 G1,E1 10=.ptr (H.length+2) 0 0->Q .ret E1 (H++some ⟨7,[x.v],false,true⟩ :: some ⟨7,[y.v],false,true⟩ :: some ⟨7,[Iv.whole.v],false,true⟩ :: some A :: some ⟨7,[w],false,true⟩ :: G1))
 (hgood:(f a b).2=0->(g a b).2=0->∀E1 G1,E1 2=.int .i64 p->E1 3=.fn gd []->E1 4=.fn gu []->E1 10=.ptr (H.length+2) 0 0->E1 12=.ptr (H.length+4) 0 0->E1 40=.agg cs->E1 41=.int .i64 ((i+1:Nat):Int) ->
  Q .normal E1 (H++some ⟨7,[x.v],false,true⟩ :: some ⟨7,[y.v],false,true⟩ :: some ⟨7,[zIv],false,true⟩ :: some A :: some ⟨7,[Iv.v ⟨if i=0 then(f a b).1 else lo.lo2 (f a b).1,if i=0 then(g a b).1 else hi2.hi2 (g a b).1,false⟩],false,true⟩ :: G1)) (hn0:n0=H.length) :
 WK prog n0 qc2 [] E (H++some ⟨7,[x.v],false,true⟩ :: some ⟨7,[y.v],false,true⟩ :: some ⟨7,[zIv],false,true⟩ :: some A :: some ⟨7,[w],false,true⟩ :: G) Q:=by
 subst hn0;have e1:IntKind.i64.wrap ((i:Int)+1)=((i+1:Nat):Int):=by rw[wrap_i64]<;>omega
 have c1:=cd a b wa wb;have c2:=cu a b wa wb;have hi':(i:Int)<4:=by omega
 simp[qc2,h2,h3,h40,h41,hi,hi',hl6,ht6];refine qab (g:=gd) (caps:=[]) (args:=[a.v,b.v,.int .i64 p]) (vs:=[a.v,b.v,.int .i64 p]) rfl rfl (by rw[hd];rfl) c1 ?_;simp[h4,h2];refine qab (g:=gu) (caps:=[]) (args:=[a.v,b.v,.int .i64 p]) (vs:=[a.v,b.v,.int .i64 p]) rfl rfl (by rw[hu];rfl) c2 ?_;by_cases b1:(f a b).2=0
 ·by_cases b2:(g a b).2=0
  ·rcases hw with ⟨rfl,rfl⟩|⟨h0,rfl⟩
   ·simp[b1,b2,zIv,h41,h12];simp[zIv]at hgood;exact hgood b1 b2 _ _ (by simp[h2]) (by simp[h3]) (by simp[h4]) (by simp[h10]) (by simp[h12]) (by simp[h40]) (by simpa using e1)
   ·have h0':¬(i:Int)=0:=by omega
    simp[b1,b2,h0,h12,zIv];simp[zIv,h0]at hgood;obtain⟨f1,f2⟩:=q4f olo (okf a b);obtain⟨f3,f4⟩:=q4f ohi (okg a b);refine qab rfl rfl rfl (ql6 _ _ (okf a b).w olo.w) ?_;by_cases q1:(f a b).1.cmp lo<0
    ·simp[q1,h0,h12];refine qab rfl rfl rfl (ql6 _ _ (okg a b).w ohi.w) ?_;by_cases q2:0<(g a b).1.cmp hi2
     ·simp[q2,h12,h41];have q3:=f1.1 q1;have q4:=f4.1 q2;simp[Dy.lo2,Dy.hi2,q3,q4]at hgood;exact hgood b1 b2 _ _ (by simp[h2]) (by simp[h3]) (by simp[h4]) (by simp[h10]) (by simp[h12]) (by simp[h40]) (by simp[e1])
     ·simp[q2,h41];have q3:=f1.1 q1;have q4:0<=hi2.cmp (g a b).1:=Decidable.byContradiction fun h=>q2 (f4.2 h)
      simp[Dy.lo2,Dy.hi2,q3,q4]at hgood;exact hgood b1 b2 _ _ (by simp[h2]) (by simp[h3]) (by simp[h4]) (by simp[h10]) (by simp[h12]) (by simp[h40]) (by simp[e1])
    ·simp[q1,h0,h12];have q3:lo.cmp (f a b).1<=0:=Decidable.byContradiction fun h=>q1 (f1.2 h)
     refine qab rfl rfl rfl (ql6 _ _ (okg a b).w ohi.w) ?_;by_cases q2:0<(g a b).1.cmp hi2
     ·simp[q2,h12,h41];have q4:=f4.1 q2;simp[Dy.lo2,Dy.hi2,q3,q4]at hgood;exact hgood b1 b2 _ _ (by simp[h2]) (by simp[h3]) (by simp[h4]) (by simp[h10]) (by simp[h12]) (by simp[h40]) (by simp[e1])
     ·simp[q2,h41];have q4:0<=hi2.cmp (g a b).1:=Decidable.byContradiction fun h=>q2 (f4.2 h)
      simp[Dy.lo2,Dy.hi2,q3,q4]at hgood;exact hgood b1 b2 _ _ (by simp[h2]) (by simp[h3]) (by simp[h4]) (by simp[h10]) (by simp[h12]) (by simp[h40]) (by simp[e1])
  ·simp[b1,b2];refine zq qcs ?_;simp[h10];simp at hbad;exact hbad (.inr b2) _ _ (by simp[h10])
 ·simp[b1];refine zq qcs ?_;simp[h10];simp at hbad;exact hbad (.inl b1) _ _ (by simp[h10])
def qai (x y:Iv)(i:Nat):Dy × Dy:=(pairs x y).getD i (Dy.zero,Dy.zero)
def qta (x y:Iv):List V:=[.bool x.lo.neg,lim x.lo.m,.int .i64 x.lo.e,.bool y.lo.neg,lim y.lo.m,.int .i64 y.lo.e,.bool x.lo.neg,lim x.lo.m,.int .i64 x.lo.e,.bool y.hi.neg,lim y.hi.m,.int .i64 y.hi.e,
 .bool x.hi.neg,lim x.hi.m,.int .i64 x.hi.e,.bool y.lo.neg,lim y.lo.m,.int .i64 y.lo.e,.bool x.hi.neg,lim x.hi.m,.int .i64 x.hi.e,.bool y.hi.neg,lim y.hi.m,.int .i64 y.hi.e]
theorem qaae {x y:Iv}{i:Nat}(hi:i<4):6<=(qta x y).length-i*6/\List.take 6 (List.drop (i*6) (qta x y))=[.bool (qai x y i).1.neg,lim (qai x y i).1.m,.int .i64 (qai x y i).1.e,.bool (qai x y i).2.neg,lim (qai x y i).2.m,.int .i64 (qai x y i).2.e]:=by
 obtain rfl|rfl|rfl|rfl:i=0\/i=1\/i=2\/i=3:=by omega
 all_goals simp[qta,qai,pairs]
theorem qack {x y:Iv}(wx:x.W)(wy:y.W){i:Nat}(hi:i<4):(qai x y i).1.W/\(qai x y i).2.W:=by
 obtain rfl|rfl|rfl|rfl:i=0\/i=1\/i=2\/i=3:=by omega
 all_goals simp[qai,pairs,wx.lo,wx.hi,wy.lo,wy.hi]
theorem qg1 {f:Dy->Dy->Dy × Int}{x y:Iv}{i:Nat}:accLo f (pairs x y) (i+1)=if i=0 then(f (qai x y i).1 (qai x y i).2).1 else(accLo f (pairs x y) i).lo2 (f (qai x y i).1 (qai x y i).2).1:=rfl
theorem qg2 {f:Dy->Dy->Dy × Int}{x y:Iv}{i:Nat}:accHi f (pairs x y) (i+1)=if i=0 then(f (qai x y i).1 (qai x y i).2).1 else(accHi f (pairs x y) i).hi2 (f (qai x y i).1 (qai x y i).2).1:=rfl
theorem qii {f:Dy->Dy->Dy × Int}(okf:∀a b,(f a b).1.Ok){x y:Iv}:∀i,(accLo f (pairs x y) i).Ok
 |0=>Dy.zero_ok
 |i+1=>by
  rw[qg1];split
  ·exact okf _ _
  ·exact qaj1 (qii okf i) (okf _ _)
theorem qij {f:Dy->Dy->Dy × Int}(okf:∀a b,(f a b).1.Ok){x y:Iv}:∀i,(accHi f (pairs x y) i).Ok
 |0=>Dy.zero_ok
 |i+1=>by
  rw[qg2];split
  ·exact okf _ _
  ·exact qaka (qij okf i) (okf _ _)
def good4 (f g:Dy->Dy->Dy × Int)(x y:Iv)(i:Nat):Prop:=∀j,j<i->(f (qai x y j).1 (qai x y j).2).2=0/\(g (qai x y j).1 (qai x y j).2).2=0
theorem qot {f g:Dy->Dy->Dy × Int}{x y:Iv}(h:good4 f g x y 4):Iv.four f g x y=⟨accLo f (pairs x y) 4,accHi g (pairs x y) 4,false⟩:=by
 have h0:=h 0 (by omega);have h1:=h 1 (by omega);have h2:=h 2 (by omega);have h3:=h 3 (by omega);simp[qai,pairs]at h0 h1 h2 h3;unfold Iv.four;rw[if_pos];simp[pairs,h0,h1,h2,h3]
theorem qac3 {f g:Dy->Dy->Dy × Int}{x y:Iv}{i:Nat}(hi:i<4)(h:(f (qai x y i).1 (qai x y i).2).2≠0\/(g (qai x y i).1 (qai x y i).2).2≠0):Iv.four f g x y=Iv.whole:=by
 unfold Iv.four;rw[if_neg];intro hc;simp[pairs]at hc;obtain rfl|rfl|rfl|rfl:i=0\/i=1\/i=2\/i=3:=by omega
 all_goals simp[qai,pairs]at h
 all_goals obtain⟨a,b,c,d⟩:=hc
 all_goals rcases h with h|h
 all_goals simp_all
theorem qahf (x y:Iv)(p:Int)(gd gu:Nat)(f g:Dy->Dy->Dy × Int)(wx:x.W)(wy:y.W)
 (hd:∀H args,prep prog gd H args=frzVs H args) (hu:∀H args,prep prog gu H args=frzVs H args)
 (cd:∀a b:Dy,a.W->b.W->CQ prog gd [a.v,b.v,.int .i64 p] (.tup [(f a b).1.v,.int .i64 (f a b).2])) (cu:∀a b:Dy,a.W->b.W->CQ prog gu [a.v,b.v,.int .i64 p] (.tup [(g a b).1.v,.int .i64 (g a b).2]))
 (okf:∀a b,(f a b).1.Ok) (okg:∀a b,(g a b).1.Ok):CQ prog qsc [x.v,y.v,.int .i64 p,.fn gd [],.fn gu []] (Iv.four f g x y).v:=by
 refine qaf rfl fun H=>?_
 simp;refine qbu (fun k E H'=>∃i w G,k=4-i/\i<=4/\((i=0/\w=zIv)\/(i≠0/\w=Iv.v ⟨accLo f (pairs x y) i,accHi g (pairs x y) i,false⟩))/\good4 f g x y i /\
  E 2=.int .i64 p/\E 3=.fn gd []/\E 4=.fn gu []/\E 10=.ptr (H.length+2) 0 0/\E 12=.ptr (H.length+4) 0 0/\E 40=.agg (qta x y)/\E 41=.int .i64 i /\
  H'=H++some ⟨7,[x.v],false,true⟩ :: some ⟨7,[y.v],false,true⟩ :: some ⟨7,[zIv],false,true⟩ :: some ⟨24,[.agg (qta x y)],false,true⟩ :: some ⟨7,[w],false,true⟩ :: G) 4 ?_ ?_
 ·refine⟨0,zIv,[],rfl,by omega,.inl ⟨rfl,rfl⟩,fun j hj=>by omega,?_,?_,?_,?_,?_,?_,?_,?_⟩<;>simp[qta,zIv]
 ·rintro k E H' ⟨i,w,G,hk,hi,hw,hg,h2,h3,h4,h10,h12,h40,h41,rfl⟩;refine qa1 ?_;by_cases h4':i<4
  ·obtain⟨hl,ht⟩:=qaae (x:=x) (y:=y) h4';obtain⟨wa,wb⟩:=qack wx wy h4';refine q58 H G E x y p gd gu f g hd hu cd cu okf okg i h4' _ _ wa wb (qta x y) _ hl ht _ _ (qii okf i) (qij okg i) w hw h2 h3 h4 h10 h12 h40 h41 ?_ ?_ rfl
   ·intro hb E1 G1 e10;simp[e10,qac3 h4' hb,Iv.whole,lim]
   ·intro b1 b2 E1 G1 e2 e3 e4 e10 e12 e40 e41;refine⟨4-(i+1),by omega,i+1,_,G1,rfl,by omega,.inr ⟨by omega,?_⟩,?_,e2,e3,e4,e10,e12,e40,e41,rfl⟩
    ·rw[qg1,qg2]
    ·intro j hj;by_cases h:j<i
     ·exact hg j h
     ·have:j=i:=by omega
      subst this;exact⟨b1,b2⟩
  ·have:i=4:=by omega
   subst this;rcases hw with ⟨h,_⟩|⟨_,rfl⟩
   ·omega
   ·simp[qc2,h41,h10,h12,qot hg,lim,zIv]
def Iv.mul (x y:Iv)(p:Int):Iv:=if(x.known&&y.known&&precB p)=true then Iv.four (fun a b=>rMul a b p false) (fun a b=>rMul a b p true) x y else Iv.whole
def Iv.div (x y:Iv)(p:Int):Iv:=if(x.known&&y.known&&precB p&&decide (y.sgn≠0))=true then Iv.four (fun a b=>rDiv a b p false) (fun a b=>rDiv a b p true) x y else Iv.whole
theorem qae6 {f g:Dy->Dy->Dy × Int}(okf:∀a b,(f a b).1.Ok)(okg:∀a b,(g a b).1.Ok){x y:Iv}:(Iv.four f g x y).W:=by
 unfold Iv.four;split
 ·exact⟨(qii okf 4).w,(qij okg 4).w⟩
 ·exact Iv.whole_W
theorem mul_W {x y:Iv}{p:Int}:(x.mul y p).W:=by
 unfold Iv.mul;split
 ·exact qae6 (fun _ _=>qk6) (fun _ _=>qk6)
 ·exact Iv.whole_W
theorem div_W {x y:Iv}{p:Int}:(x.div y p).W:=by
 unfold Iv.div;split
 ·exact qae6 (fun _ _=>qv2) (fun _ _=>qv2)
 ·exact Iv.whole_W
theorem qail (x y:Iv)(p:Int)(wx:x.W)(wy:y.W):CQ prog qt4 [x.v,y.v,.int .i64 p] (x.mul y p).v:=by
 refine qaf rfl fun H=>?_
 simp;refine qau rfl rfl (H1:=H++[some ⟨7,[x.v],false,true⟩,some ⟨7,[y.v],false,true⟩,some ⟨7,[.agg [.bool false,.nil,.int .i64 0,.bool false,.nil,.int .i64 0,.bool false]],false,true⟩,some ⟨7,[x.v,y.v],true,false⟩]) (vs:=[ivs [x,y]]) (by simp[prep,frzVs,frzV];rfl) (q3t [x,y] (by simp) (by simp;exact⟨wx,wy⟩)) ?_;cases hk:x.known&&y.known
 ·have:([x,y].all Iv.known)=false:=by simpa using hk
  simp only[this];simp;refine zq qcs ?_;simp[Iv.mul,hk,lim]
 ·have:([x,y].all Iv.known)=true:=by simpa using hk
  simp only[this];simp;refine qab rfl rfl rfl (qyn p) ?_;cases hp:precB p
  ·simp;refine zq qcs ?_;simp[Iv.mul,hp,lim]
  ·simp;refine qab rfl rfl rfl (qahf x y p qlb qog (fun a b=>rMul a b p false) (fun a b=>rMul a b p true) wx wy (fun _ _=>rfl) (fun _ _=>rfl) (fun a b wa wb=>q6v a b p wa wb) (fun a b wa wb=>qad8 a b p wa wb) (fun _ _=>qk6) (fun _ _=>qk6)) ?_;simp[Iv.mul,hk,hp,lim]
def Iv.sq (x:Iv)(p:Int):Iv:=if(!x.abs.all&&precB p)=true then Iv.made (rMul x.abs.lo x.abs.lo p false) (rMul x.abs.hi x.abs.hi p true)else Iv.whole
def nD (k:Int):Dy:=Dy.of (decide (k<0)) k.natAbs 0
def nI (a b:Int):Iv:=⟨nD a,nD b,false⟩
theorem nD_ok {k:Int}(h:k.natAbs<=4611686018427387904):(nD k).Ok:=by
 unfold nD;have hb:bitL k.natAbs<=64:=qax (by omega);exact Dy.of_ok (Dy.of_inR (by omega) (by omega) (by omega))
theorem nI_W {a b:Int}(ha:a.natAbs<=4611686018427387904)(hb:b.natAbs<=4611686018427387904):(nI a b).W:=⟨(nD_ok ha).w,(nD_ok hb).w⟩
end Go.Abs.W
