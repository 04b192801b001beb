/- Parts of the proof: FpDy, FpSlcU, FpSlc, FpSlc2, FpBop, FpLimb, FpN2, FpDyC, FpVal, FpCmp, FpOut, FpOutI, FpRef2, FpRef2b, FpRef2c, FpRef2d, FpRef2e, FpRef2f, FpIv0, FpRef50, FpHull, FpIMeet. -/
import Derived.Test.YtpdchdfajhbglaaGreatDoorFb
namespace Go.Abs.W
structure Dy where
 neg:Bool
 m:List Nat
 e:Int
 deriving DecidableEq
structure Iv where
 lo:Dy
 hi:Dy
 all:Bool
 deriving DecidableEq
structure Sg where
 fr:Dy
 to:Dy
 tube:List Iv
 en:List Iv
 deriving DecidableEq
structure Pp where
 start:List Iv
 segs:List Sg
 deriving DecidableEq
@[simp] def Dy.v (d:Dy):V:=.agg [.bool d.neg,lim d.m,.int .i64 d.e]
@[simp] def Iv.v (x:Iv):V:=.agg [.bool x.lo.neg,lim x.lo.m,.int .i64 x.lo.e,.bool x.hi.neg,lim x.hi.m,.int .i64 x.hi.e,.bool x.all]
def ivs (l:List Iv):V:=.sl (l.map Iv.v)
@[simp] def Sg.v (s:Sg):V:=.agg [.bool s.fr.neg,lim s.fr.m,.int .i64 s.fr.e,.bool s.to.neg,lim s.to.m,.int .i64 s.to.e,ivs s.tube,ivs s.en]
def sgs (l:List Sg):V:=.sl (l.map Sg.v)
@[simp] def Pp.v (p:Pp):V:=.agg [ivs p.start,sgs p.segs]
def pps (l:List Pp):V:=.sl (l.map Pp.v)
def lims (l:List (List Nat)):V:=.sl (l.map lim)
@[simp] theorem qan7 {l:List Iv}:(ivs l).cells=[ivs l]:=rfl
@[simp] theorem qan5 {l:List Sg}:(sgs l).cells=[sgs l]:=rfl
@[simp] theorem qank {l:List Iv}:(ivs l).isTup=false:=rfl
@[simp] theorem qani {l:List Sg}:(sgs l).isTup=false:=rfl
structure Dy.wt (d:Dy):Prop where
 li:Li d.m
 len:d.m.length<=9223372036854775807
 lo:-9223372036854775808<=d.e
 hi:d.e<9223372036854775808
@[simp] theorem qant {H:Heap}{b:Bool}:frzC H (.bool b)=some (.bool b,H):=rfl
@[simp] theorem qapp {H:Heap}{k:IntKind}{n:Int}:frzC H (.int k n)=some (.int k n,H):=rfl
@[simp] theorem qapv {H:Heap}{l:List V}:frzC H (.sl l)=some (.sl l,H):=rfl
@[simp] theorem qapn {H:Heap}{l:List Nat}:frzC H (lim l)=some (lim l,H):=rfl
@[simp] theorem qapo {H:Heap}{l:List Iv}:frzC H (ivs l)=some (ivs l,H):=rfl
@[simp] theorem qapm {H:Heap}{l:List Sg}:frzC H (sgs l)=some (sgs l,H):=rfl
@[simp] theorem q1d {H:Heap}:frzC H .nil=some (.sl [],H):=rfl
@[simp] theorem qap3 {b:Bool}:(V.bool b).cellPure=true:=rfl
@[simp] theorem qap8 {k:IntKind}{n:Int}:(V.int k n).cellPure=true:=rfl
@[simp] theorem cp_sl {l:List V}:(V.sl l).cellPure=true:=rfl
@[simp] theorem qap6 {l:List Nat}:(lim l).cellPure=true:=rfl
@[simp] theorem qap7 {l:List Iv}:(ivs l).cellPure=true:=rfl
@[simp] theorem qap4 {l:List Sg}:(sgs l).cellPure=true:=rfl
@[simp] theorem qap5 : V.nil.cellPure=true:=rfl
@[simp] theorem qapw {n:Nat}{H:Heap}{vs:List V}:fin false n H (.tup vs)=(qcp H vs).bind fun(vs',H1)=>some (.tup vs',H1.take n):=rfl
@[simp] theorem qap2 {n:Nat}{H:Heap}{cs:List V}:fin false n H (.agg cs)=(qck H (.agg cs)).bind fun(v',H1)=>some (v',H1.take n):=rfl
@[simp] theorem qapz {n:Nat}{H:Heap}:fin false n H .nil=some (.sl [],H.take n):=rfl
@[simp] theorem qapy {n:Nat}{H:Heap}{b z off len:Nat}:fin false n H (.ref b z off len)=(qck H (.ref b z off len)).bind fun(v',H1)=>some (v',H1.take n):=rfl
@[simp] theorem qapx {n:Nat}{H:Heap}{l:List Sg}:fin false n H (sgs l)=some (sgs l,H.take n):=rfl
@[simp] theorem qalz {H:Heap}{l:List Nat}:qck H (lim l)=some (lim l,H):=rfl
@[simp] theorem qal0 {H:Heap}{l:List Iv}:qck H (ivs l)=some (ivs l,H):=rfl
@[simp] theorem qalx {H:Heap}{l:List Sg}:qck H (sgs l)=some (sgs l,H):=rfl
@[simp] theorem qajv {H:Heap}{b:Bool}:qck H (.bool b)=some (.bool b,H):=rfl
@[simp] theorem qal1 {H:Heap}{k:IntKind}{n:Int}:qck H (.int k n)=some (.int k n,H):=rfl
@[simp] theorem qamr {H:Heap}{l:List V}:qck H (.sl l)=some (.sl l,H):=rfl
@[simp] theorem qyn {H:Heap}:qck H .nil=some (.sl [],H):=rfl
@[simp] theorem qal2 {H:Heap}{cs:List V}:qck H (.agg cs)=(frzCs H cs).bind fun(cs',H1)=>if(V.agg cs').pure=true then some (.agg cs',H1)else none:=by
 unfold qck frzV;simp only[];generalize frzCs H cs=o;cases o<;>rfl
@[simp] theorem qap0 {n:Nat}{H:Heap}{l:List Nat}:fin false n H (lim l)=some (lim l,H.take n):=rfl
@[simp] theorem qap1 {n:Nat}{H:Heap}{l:List Iv}:fin false n H (ivs l)=some (ivs l,H.take n):=rfl
@[simp] theorem qaly {H:Heap}{b z off len:Nat}:qck H (.ref b z off len)=frzC H (.ref b z off len):=by
 show(frzC H (.ref b z off len)).bind _=_;unfold frzC;simp only[];split
 ·split
  ·rfl
  ·rfl
 ·rfl
@[simp] theorem qcd {H:Heap}{b z off len:Nat}:frzC H (.ref b z off len)=match H[b]? with
 |some (some k)=>if k.arr=true/\k.z=z/\off+len<=k.el.length then some (.sl ((k.el.drop off).take len),if k.wr then H.set b (some { k with wr:=false })else H)else none
 |_=>none:=rfl
theorem qwx {n b:Nat}:qbd n b=true↔n*b<=140737488355328:=by simp[qbd]
attribute [simp] qwx
attribute [simp] qcp frzCs V.pure V.withCells qd8 fillC fillE elems qe2
theorem qb5 {α:Type}{H H':List α}(h:H <+: H'):H'.take H.length=H:=by
 obtain⟨t,rfl⟩:=h;simp
theorem qd9 {α:Type}{H H' l:List α}(h:H <+: H'):H <+: H'++l:=h.trans (List.prefix_append _ _)
@[simp] theorem qaid {α:Type}{H l:List α}:H <+: H++l:=List.prefix_append _ _
def Cb (H:Heap)(g:Nat)(caps args:List V)(v:V):Prop:=
 ∀H',H <+: H'->prep prog g H' (args++caps)=some (args++caps,H')/\Ev prog (.call g (args++caps) H') (.ret v H')
theorem Cb.mono {H H':Heap}{g:Nat}{caps args:List V}{v:V}(h:Cb H g caps args v)(hp:H <+: H'):Cb H' g caps args v:=fun K hK=>h K (hp.trans hK)
def idxV (o:Option Nat):V:=match o with
 |some i=>.int .i64 i
 |none=>.int .i64 (-1)
theorem WL_cb {n0:Nat}{Q:AX->Env->Heap->Prop}{d:Bool}{dst:Option Nat}{sy:Bool}{l:List AOper}{K:List Fr}{E:Env}{H H0:Heap}{x:X}{caps args:List V}{xs:List X}{g:Nat}{v:V}(h:Cb H0 g caps args v)(hp:H0 <+: H)
 (hx:getX E x=.fn g caps) (ha:xs.map (getX E)=args) (k:WL prog n0 d l K (put E dst v) H Q):qw1 prog n0 d dst x xs sy l K E H Q:=
 qw0 hx (by rw[ha]) (h H hp).1 ⟨_,_,(h H hp).2,fun _=>List.prefix_refl H,k⟩
theorem WL_ev {n0:Nat}{Q:AX->Env->Heap->Prop}{d:Bool}{dst:Option Nat}{sy:Bool}{l:List AOper}{K:List Fr}{E:Env}{H:Heap}{x:X}{caps args vs:List V}{xs:List X}{g:Nat}{v:V}
 (hx:getX E x=.fn g caps) (ha:xs.map (getX E)++caps=args) (hp:prep prog g H args=some (vs,H)) (h:Ev prog (.call g vs H) (.ret v H)) (k:WL prog n0 d l K (put E dst v) H Q):qw1 prog n0 d dst x xs sy l K E H Q:=
 qw0 hx ha hp ⟨_,_,h,fun _=>List.prefix_refl H,k⟩
theorem qjn {g:Nat}{f:AFn}{args:List V}{v:V}{H:Heap}(hf:prog.fn g=some f)
 (h:WK prog H.length f.body [] (E0 args) H (fun x E1 H1=>(x=.normal\/x=.ret)/\∃v0,resV E1 H1 f.results=some v0/\fin f.own H.length H1 v0=some (v,H))):Ev prog (.call g args H) (.ret v H):=by
 obtain⟨x,E1,H1,e,hx,v0,hr,hfin⟩:=h;exact .call hf e hx hr hfin
set_option maxHeartbeats 1000000 in
theorem qaak {H:Heap}{g:Nat}{caps:List V}{p:(List Nat)->Bool}(l:List (List Nat))(hl:l.length<=9223372036854775807)(h:∀x ∈ l,Cb H g caps [lim x] (.bool (p x))) :
 Ev prog (.call qjo [lims l,.fn g caps] H) (.ret (idxV (l.findIdx? p)) H):=by
 refine qjn rfl ?_;simp[lims];refine WK_up (fun i E H'=>H'=H/\E 0=lims l/\E 1=.fn g caps/\E 7=.int .i64 l.length/\E 8=.int .i64 i/\(∀j x,j<i->l[j]?=some x->p x=false)) l.length ?_ ?_
 ·simp[lims]
 ·rintro i E H' hi ⟨rfl,h0,h1,h7,h8,hp⟩;simp only[lims]at h0 ⊢;rcases Nat.lt_or_ge i l.length with hlt|hge
  ·have e2:IntKind.i64.wrap ((i:Int)+1)=((i+1:Nat):Int):=by rw[wrap_i64]<;>omega
   simp[qbn,h7,h8,h0,h1,hlt];refine WL_cb (h l[i] (List.getElem_mem hlt)) (List.prefix_refl _) rfl rfl ?_;simp[h0,h1,h7,h8,e2];refine⟨fun hpx=>?_,fun hpx=>?_⟩
   ·rw[show l.findIdx? p=some i from ?_]
    ·simp[idxV]
    ·rw[List.findIdx?_eq_some_iff_getElem];refine⟨hlt,hpx,?_⟩
     ·intro j hj;have:=hp j l[j] hj (List.getElem?_eq_getElem _);simp[this]
   ·intro j y hj hy;rcases Nat.lt_or_ge j i with hji|hji
    ·exact hp j y hji hy
    ·have:j=i:=by omega
     subst this;rw[List.getElem?_eq_getElem hlt]at hy;injection hy with hy;rw[<-hy];exact hpx
  ·have hin:i=l.length:=by omega
   subst hin;have e1:l.findIdx? p=none:=by
    simp only[List.findIdx?_eq_none_iff];intro x hx;obtain⟨j,hj,rfl⟩:=List.getElem_of_mem hx;exact hp j _ hj (List.getElem?_eq_getElem _)
   simp[qbn,h7,h8,e1,idxV]
theorem q1z {H:Heap}{g:Nat}{caps:List V}{p:(List Nat)->Bool}(l:List (List Nat))(hl:l.length<=9223372036854775807)(h:∀x ∈ l,Cb H g caps [lim x] (.bool (p x))) :
 Ev prog (.call qgp [lims l,.fn g caps] H) (.ret (.bool (l.any p)) H):=by
 refine qjn rfl ?_;simp[lims];refine WL_ev rfl rfl rfl (qaak l hl h) ?_;rcases hq:l.findIdx? p with _|i
 ·have e1:l.any p=false:=by simpa[List.findIdx?_eq_none_iff]using hq
  simp[idxV,e1]
 ·have e1:l.any p=true:=by
   rw[List.findIdx?_eq_some_iff_getElem]at hq;obtain⟨h1,h2,_⟩:=hq;exact List.any_eq_true.2 ⟨_,List.getElem_mem h1,h2⟩
  simp[idxV,e1]
set_option maxHeartbeats 4000000
theorem qaal {H:Heap}{g:Nat}{caps:List V}{p:Iv->Bool}(l:List Iv)(hl:l.length<=9223372036854775807)(h:∀x ∈ l,Cb H g caps [x.v] (.bool (p x))) :
 Ev prog (.call qic [ivs l,.fn g caps] H) (.ret (idxV (l.findIdx? p)) H):=by
 refine qjn rfl ?_;simp[ivs];refine WK_up (fun i E H'=>H'=H/\E 0=ivs l/\E 1=.fn g caps/\E 7=.int .i64 l.length/\E 8=.int .i64 i/\(∀j x,j<i->l[j]?=some x->p x=false)) l.length ?_ ?_
 ·simp[ivs]
 ·rintro i E H' hi ⟨rfl,h0,h1,h7,h8,hp⟩;simp only[ivs]at h0 ⊢;rcases Nat.lt_or_ge i l.length with hlt|hge
  ·have e2:IntKind.i64.wrap ((i:Int)+1)=((i+1:Nat):Int):=by rw[wrap_i64]<;>omega
   simp[qbi,h7,h8,h0,h1,hlt];refine WL_cb (h l[i] (List.getElem_mem hlt)) (List.prefix_refl _) rfl rfl ?_;simp[h0,h1,h7,h8,e2];refine⟨fun hpx=>?_,fun hpx=>?_⟩
   ·rw[show l.findIdx? p=some i from ?_]
    ·simp[idxV]
    ·rw[List.findIdx?_eq_some_iff_getElem];refine⟨hlt,hpx,?_⟩
     ·intro j hj;have:=hp j l[j] hj (List.getElem?_eq_getElem _);simp[this]
   ·intro j y hj hy;rcases Nat.lt_or_ge j i with hji|hji
    ·exact hp j y hji hy
    ·have:j=i:=by omega
     subst this;rw[List.getElem?_eq_getElem hlt]at hy;injection hy with hy;rw[<-hy];exact hpx
  ·have hin:i=l.length:=by omega
   subst hin;have e1:l.findIdx? p=none:=by
    simp only[List.findIdx?_eq_none_iff];intro x hx;obtain⟨j,hj,rfl⟩:=List.getElem_of_mem hx;exact hp j _ hj (List.getElem?_eq_getElem _)
   simp[qbi,h7,h8,e1,idxV]
theorem qrm {H:Heap}{g:Nat}{caps:List V}{p:Iv->Bool}(l:List Iv)(hl:l.length<=9223372036854775807)(h:∀x ∈ l,Cb H g caps [x.v] (.bool (p x))) :
 Ev prog (.call qgl [ivs l,.fn g caps] H) (.ret (.bool (l.any p)) H):=by
 refine qjn rfl ?_;simp[ivs];refine WL_ev rfl rfl rfl (qaal l hl h) ?_;rcases hq:l.findIdx? p with _|i
 ·have e1:l.any p=false:=by simpa[List.findIdx?_eq_none_iff]using hq
  simp[idxV,e1]
 ·have e1:l.any p=true:=by
   rw[List.findIdx?_eq_some_iff_getElem]at hq;obtain⟨h1,h2,_⟩:=hq;exact List.any_eq_true.2 ⟨_,List.getElem_mem h1,h2⟩
  simp[idxV,e1]
theorem qzp {H:Heap}{g:Nat}{caps:List V}{p:Sg->Bool}(l:List Sg)(hl:l.length<=9223372036854775807)(h:∀x ∈ l,Cb H g caps [x.v] (.bool (p x))) :
 Ev prog (.call qjp [sgs l,.fn g caps] H) (.ret (idxV (l.findIdx? p)) H):=by
 refine qjn rfl ?_;simp[sgs];refine WK_up (fun i E H'=>H'=H/\E 0=sgs l/\E 1=.fn g caps/\E 7=.int .i64 l.length/\E 8=.int .i64 i/\(∀j x,j<i->l[j]?=some x->p x=false)) l.length ?_ ?_
 ·simp[sgs]
 ·rintro i E H' hi ⟨rfl,h0,h1,h7,h8,hp⟩;simp only[sgs]at h0 ⊢;rcases Nat.lt_or_ge i l.length with hlt|hge
  ·have e2:IntKind.i64.wrap ((i:Int)+1)=((i+1:Nat):Int):=by rw[wrap_i64]<;>omega
   simp[qbo,h7,h8,h0,h1,hlt];refine WL_cb (h l[i] (List.getElem_mem hlt)) (List.prefix_refl _) rfl rfl ?_;simp[h0,h1,h7,h8,e2];refine⟨fun hpx=>?_,fun hpx=>?_⟩
   ·rw[show l.findIdx? p=some i from ?_]
    ·simp[idxV]
    ·rw[List.findIdx?_eq_some_iff_getElem];refine⟨hlt,hpx,?_⟩
     ·intro j hj;have:=hp j l[j] hj (List.getElem?_eq_getElem _);simp[this]
   ·intro j y hj hy;rcases Nat.lt_or_ge j i with hji|hji
    ·exact hp j y hji hy
    ·have:j=i:=by omega
     subst this;rw[List.getElem?_eq_getElem hlt]at hy;injection hy with hy;rw[<-hy];exact hpx
  ·have hin:i=l.length:=by omega
   subst hin;have e1:l.findIdx? p=none:=by
    simp only[List.findIdx?_eq_none_iff];intro x hx;obtain⟨j,hj,rfl⟩:=List.getElem_of_mem hx;exact hp j _ hj (List.getElem?_eq_getElem _)
   simp[qbo,h7,h8,e1,idxV]
theorem q1x {H:Heap}{g:Nat}{caps:List V}{p:Sg->Bool}(l:List Sg)(hl:l.length<=9223372036854775807)(h:∀x ∈ l,Cb H g caps [x.v] (.bool (p x))) :
 Ev prog (.call qgq [sgs l,.fn g caps] H) (.ret (.bool (l.any p)) H):=by
 refine qjn rfl ?_;simp[sgs];refine WL_ev rfl rfl rfl (qzp l hl h) ?_;rcases hq:l.findIdx? p with _|i
 ·have e1:l.any p=false:=by simpa[List.findIdx?_eq_none_iff]using hq
  simp[idxV,e1]
 ·have e1:l.any p=true:=by
   rw[List.findIdx?_eq_some_iff_getElem]at hq;obtain⟨h1,h2,_⟩:=hq;exact List.any_eq_true.2 ⟨_,List.getElem_mem h1,h2⟩
  simp[idxV,e1]
theorem qaaj {H:Heap}{g:Nat}{caps:List V}{p:Pp->Bool}(l:List Pp)(hl:l.length<=9223372036854775807)(h:∀x ∈ l,Cb H g caps [x.v] (.bool (p x))) :
 Ev prog (.call ql7 [pps l,.fn g caps] H) (.ret (idxV (l.findIdx? p)) H):=by
 refine qjn rfl ?_;simp[pps];refine WK_up (fun i E H'=>H'=H/\E 0=pps l/\E 1=.fn g caps/\E 7=.int .i64 l.length/\E 8=.int .i64 i/\(∀j x,j<i->l[j]?=some x->p x=false)) l.length ?_ ?_
 ·simp[pps]
 ·rintro i E H' hi ⟨rfl,h0,h1,h7,h8,hp⟩;simp only[pps]at h0 ⊢;rcases Nat.lt_or_ge i l.length with hlt|hge
  ·have e2:IntKind.i64.wrap ((i:Int)+1)=((i+1:Nat):Int):=by rw[wrap_i64]<;>omega
   simp[qb9,h7,h8,h0,h1,hlt];refine WL_cb (h l[i] (List.getElem_mem hlt)) (List.prefix_refl _) rfl rfl ?_;simp[h0,h1,h7,h8,e2];refine⟨fun hpx=>?_,fun hpx=>?_⟩
   ·rw[show l.findIdx? p=some i from ?_]
    ·simp[idxV]
    ·rw[List.findIdx?_eq_some_iff_getElem];refine⟨hlt,hpx,?_⟩
     ·intro j hj;have:=hp j l[j] hj (List.getElem?_eq_getElem _);simp[this]
   ·intro j y hj hy;rcases Nat.lt_or_ge j i with hji|hji
    ·exact hp j y hji hy
    ·have:j=i:=by omega
     subst this;rw[List.getElem?_eq_getElem hlt]at hy;injection hy with hy;rw[<-hy];exact hpx
  ·have hin:i=l.length:=by omega
   subst hin;have e1:l.findIdx? p=none:=by
    simp only[List.findIdx?_eq_none_iff];intro x hx;obtain⟨j,hj,rfl⟩:=List.getElem_of_mem hx;exact hp j _ hj (List.getElem?_eq_getElem _)
   simp[qb9,h7,h8,e1,idxV]
theorem q1y {H:Heap}{g:Nat}{caps:List V}{p:Pp->Bool}(l:List Pp)(hl:l.length<=9223372036854775807)(h:∀x ∈ l,Cb H g caps [x.v] (.bool (p x))) :
 Ev prog (.call qjq [pps l,.fn g caps] H) (.ret (.bool (l.any p)) H):=by
 refine qjn rfl ?_;simp[pps];refine WL_ev rfl rfl rfl (qaaj l hl h) ?_;rcases hq:l.findIdx? p with _|i
 ·have e1:l.any p=false:=by simpa[List.findIdx?_eq_none_iff]using hq
  simp[idxV,e1]
 ·have e1:l.any p=true:=by
   rw[List.findIdx?_eq_some_iff_getElem]at hq;obtain⟨h1,h2,_⟩:=hq;exact List.any_eq_true.2 ⟨_,List.getElem_mem h1,h2⟩
  simp[idxV,e1]
end Go.Abs.W
namespace Go.Abs.W
attribute [local simp] qby
def allB {α:Type}(p:α->α->Bool):List α->List α->Bool
 |x :: l,y :: m=>p x y&&allB p l m
 |_,_=>true
theorem qo9 {α:Type}{p:α->α->Bool}:∀{l m:List α},allB p l m=true↔∀(i:Nat) (x y:α),l[i]?=some x->m[i]?=some y->p x y=true
 | [],m=>by simp[allB]
 |x :: l,[]=>by simp[allB]
 |x :: l,y :: m=>by
  simp only[allB,Bool.and_eq_true,qo9];constructor
  ·rintro⟨h1,h2⟩ i a b ha hb;cases i with
   |zero=>simp at ha hb;subst ha;subst hb;exact h1
   |succ i=>exact h2 i a b (by simpa using ha) (by simpa using hb)
  ·intro h;exact⟨h 0 x y rfl rfl,fun i a b ha hb=>h (i+1) a b (by simpa using ha) (by simpa using hb)⟩
set_option maxHeartbeats 1000000 in
theorem qaan {H:Heap}{g:Nat}{caps:List V}{p:Iv->Iv->Bool}(l m:List Iv)(hl:l.length<=9223372036854775807)(h:∀x ∈ l,∀y ∈ m,Cb H g caps [x.v,y.v] (.bool (p x y))) :
 Ev prog (.call qid [ivs l,ivs m,.fn g caps] H) (.ret (.bool (decide (l.length=m.length)&&allB p l m)) H):=by
 refine qjn rfl ?_;simp[ivs];refine⟨fun hne=>by simp[show l.length≠m.length by omega],fun heq=>?_⟩
 replace heq:l.length=m.length:=by omega
 refine WK_up (fun i E H'=>H <+: H'/\E 1=ivs m/\E 2=.fn g caps/\E 15=ivs l/\E 16=.int .i64 l.length/\E 17=.int .i64 i/\(∀j x y,j<i->l[j]?=some x->m[j]?=some y->p x y=true)) l.length ?_ ?_
 ·simp[ivs]
 ·rintro i E H' hi ⟨hH,h1,h2,h15,h16,h17,hp⟩;simp only[ivs]at h1 h15 ⊢;rcases Nat.lt_or_ge i l.length with hlt|hge
  ·have e2:IntKind.i64.wrap ((i:Int)+1)=((i+1:Nat):Int):=by rw[wrap_i64]<;>omega
   have hlt2:i<m.length:=by omega
   simp[qbj,h1,h15,h16,h17,h2,hlt,hlt2];refine WL_cb (h l[i] (List.getElem_mem hlt) m[i] (List.getElem_mem hlt2)) (qd9 hH) rfl rfl ?_;simp[h1,h15,h16,h17,h2,e2,qb5 (qd9 hH),qd9 hH];refine⟨fun hpx _=>?_,fun hpx j x y hj hx hy=>?_⟩
   ·rw[Bool.eq_false_iff];intro ha;rw[qo9]at ha;rw[ha i _ _ (List.getElem?_eq_getElem hlt) (List.getElem?_eq_getElem hlt2)]at hpx;cases hpx
   ·rcases Nat.lt_or_ge j i with hji|hji
    ·exact hp j x y hji hx hy
    ·have:j=i:=by omega
     subst this;rw[List.getElem?_eq_getElem hlt]at hx;rw[List.getElem?_eq_getElem hlt2]at hy;injection hx with hx;injection hy with hy;rw[<-hx,<-hy];exact hpx
  ·have hin:i=l.length:=by omega
   subst hin;have e1:allB p l m=true:=by
    rw[qo9];intro j x y hx hy;exact hp j x y (List.getElem?_eq_some_iff.1 hx).1 hx hy
   simp[qbj,h16,h17,e1,heq,qb5 hH]
theorem qli (w n:Nat):(BitVec.ofInt w (n:Int)).toNat=n%2^w:=by
 simp
theorem qaj (n:Nat)(h:n<18446744073709551616):IntKind.u64.wrap (n:Int)=n:=qbe (by omega) (by omega)
theorem qaw (n:Nat)(h:n<4294967296):IntKind.u32.wrap (n:Int)=n:=qafn (by omega) (by omega)
theorem qa9 (n:Nat):IntKind.u32.wrap (n:Int)=((n%4294967296:Nat):Int):=by
 simp only[IntKind.wrap,IntKind.bits,IntKind.signed];simp
theorem qsg (a b:Nat)(ha:a<2^64)(hb:b<2^64):bitsI .or .u64 (a:Int) (b:Int)=some (((a |||b:Nat)):Int):=by
 show some (IntKind.u64.wrap ((BitVec.ofInt 64 (a:Int) |||BitVec.ofInt 64 (b:Int)).toNat:Int))=_;rw[BitVec.toNat_or,qli,qli,Nat.mod_eq_of_lt ha,Nat.mod_eq_of_lt hb];rw[qaj _ (Nat.or_lt_two_pow ha hb)]
theorem q6b (a b:Nat)(ha:a<2^64)(hb:b<2^64):bitsI .and .u64 (a:Int) (b:Int)=some (((a &&& b:Nat)):Int):=by
 show some (IntKind.u64.wrap ((BitVec.ofInt 64 (a:Int) &&& BitVec.ofInt 64 (b:Int)).toNat:Int))=_;rw[BitVec.toNat_and,qli,qli,Nat.mod_eq_of_lt ha,Nat.mod_eq_of_lt hb];rw[qaj _ (Nat.lt_of_le_of_lt Nat.and_le_left ha)]
theorem qnb (a b:Nat)(ha:a<2^32)(hb:b<2^32):bitsI .and .u32 (a:Int) (b:Int)=some (((a &&& b:Nat)):Int):=by
 show some (IntKind.u32.wrap ((BitVec.ofInt 32 (a:Int) &&& BitVec.ofInt 32 (b:Int)).toNat:Int))=_;rw[BitVec.toNat_and,qli,qli,Nat.mod_eq_of_lt ha,Nat.mod_eq_of_lt hb];rw[qaw _ (Nat.lt_of_le_of_lt Nat.and_le_left ha)]
theorem qhz (a:Nat)(ha:a<2^64):bitsI .and .u64 (a:Int) 4294967295=some ((a%4294967296:Nat):Int):=by
 have:=q6b a 4294967295 ha (by decide);rw[show((4294967295:Nat):Int)=4294967295 from rfl]at this;rw[this,show 4294967295=2^32-1 from rfl,Nat.and_two_pow_sub_one_eq_mod]
theorem qwu (a:Nat)(ha:a<2^32):bitsI .and .u32 (a:Int) 1=some ((a%2:Nat):Int):=by
 have:=qnb a 1 ha (by decide);rw[show((1:Nat):Int)=1 from rfl]at this;rw[this,show(1:Nat)=2^1-1 from rfl,Nat.and_two_pow_sub_one_eq_mod]
theorem qdw (x s c:Nat)(hx:x*2^s<2^64)(hc:c<2^s)(hs:s<=64):bitsI .or .u64 ((x*2^s:Nat):Int) (c:Int)=some ((x*2^s+c:Nat):Int):=by
 have h2:2^s<=2^64:=Nat.pow_le_pow_right (by omega) hs;rw[qsg _ _ hx (by omega),Nat.mul_comm,Nat.two_pow_add_eq_or_of_lt hc]
theorem shl64 (x s:Nat)(hs:s<64)(h:x*2^s<2^64):qbf .shl .u64 (x:Int) (s:Int)=some (.int .u64 ((x*2^s:Nat):Int)):=by
 have e1:¬((s:Int)<0):=by omega
 have e2:Nat.min s 64=s:=Nat.min_eq_left (by omega);have e3:(x:Int)*2^s=((x*2^s:Nat):Int):=by simp
 simp only[qbf,if_neg e1,q8q,Int.toNat_natCast,e2,e3];rw[qaj _ h]
theorem shr64 (x s:Nat)(hs:s<64):qbf .shr .u64 (x:Int) (s:Int)=some (.int .u64 ((x/2^s:Nat):Int)):=by
 have e1:¬((s:Int)<0):=by omega
 have e2:Nat.min s 64=s:=Nat.min_eq_left (by omega);have e3:(2:Int)^s=((2^s:Nat):Int):=by simp
 simp only[qbf,if_neg e1,q8q,Int.toNat_natCast,e2,e3,qt3]
theorem shr32 (x s:Nat)(hs:s<32):qbf .shr .u32 (x:Int) (s:Int)=some (.int .u32 ((x/2^s:Nat):Int)):=by
 have e1:¬((s:Int)<0):=by omega
 have e2:Nat.min s 32=s:=Nat.min_eq_left (by omega);have e3:(2:Int)^s=((2^s:Nat):Int):=by simp
 simp only[qbf,if_neg e1,qahp,Int.toNat_natCast,e2,e3,qt3]
end Go.Abs.W
namespace Go.Abs
def qq3 : Nat->Nat->List Nat
 |0,_=>[]
 |f+1,n=>if n=0 then []else(n%4294967296) :: qq3 f (n/4294967296)
def qae (n:Nat):List Nat:=qq3 (Nat.log2 n/32+1) n
theorem q22 : ∀{f g n:Nat},n<4294967296^f->n<4294967296^g->qq3 f n=qq3 g n
 |0,0,_,_,_=>rfl
 |0,g+1,n,h,_=>by
  have:n=0:=by simpa using h
  simp[qq3,this]
 |f+1,0,n,_,h=>by
  have:n=0:=by simpa using h
  simp[qq3,this]
 |f+1,g+1,n,h1,h2=>by
  rw[Nat.pow_succ]at h1 h2;simp only[qq3];rw[q22 (f:=f) (g:=g) (by omega) (by omega)]
theorem qyz (n:Nat):n<4294967296^(Nat.log2 n/32+1):=by
 rw[show 4294967296=2^32 from rfl,<-Nat.pow_mul];exact Nat.lt_of_lt_of_le Nat.lt_log2_self (Nat.pow_le_pow_right (by omega) (by omega))
theorem qa4 : qae 0=[]:=rfl
theorem qeu {n:Nat}(h:n≠0):qae n=(n%4294967296) :: qae (n/4294967296):=by
 have h1:=qyz n;rw[Nat.pow_succ]at h1;show qq3 (Nat.log2 n/32+1) n=_;simp only[qq3,h,if_false];rw[q22 (by omega) (qyz (n/4294967296))];rfl
theorem qac (n:Nat):natV (qae n)=n:=by
 induction n using Nat.strongRecOn with
 |_ n ih=>
  by_cases h:n=0
  ·subst h;rw[qa4];rfl
  ·rw[qeu h,natV,ih _ (by omega)];omega
theorem qag (n:Nat):Li (qae n):=by
 induction n using Nat.strongRecOn with
 |_ n ih=>
  by_cases h:n=0
  ·subst h;rw[qa4];intro x hx;simp at hx
  ·rw[qeu h];intro x hx;rcases List.mem_cons.1 hx with rfl|hx
   ·omega
   ·exact ih _ (by omega) x hx
theorem qda {n:Nat}(h:n≠0):qae n≠[]:=by rw[qeu h];simp
theorem qe0 (n:Nat):Trim (qae n):=by
 induction n using Nat.strongRecOn with
 |_ n ih=>
  by_cases h:n=0
  ·subst h;rw[qa4];intro x hx;simp at hx
  ·rw[qeu h];intro x hx;by_cases h1:n/4294967296=0
   ·rw[h1,qa4]at hx;simp at hx;omega
   ·obtain⟨y,l,hl⟩:=List.exists_cons_of_ne_nil (qda h1);rw[hl,List.getLast?_cons_cons,<-hl]at hx;exact ih _ (by omega) x hx
theorem Trim.tail {x:Nat}{l:List Nat}(h:Trim (x :: l)):Trim l:=by
 intro y hy;cases l with
 |nil=>simp at hy
 |cons z l=>exact h y (by rw[List.getLast?_cons_cons];exact hy)
theorem q2v {l:List Nat}(h:Trim l)(h0:natV l=0):l=[]:=by
 induction l with
 |nil=>rfl
 |cons x l ih=>
  simp only[natV]at h0;have hx:x=0:=by omega
  have hl:=ih h.tail (by omega);subst hl;subst hx;exact absurd rfl (h 0 (by simp))
theorem qjy {l:List Nat}(hl:Li l)(ht:Trim l):qae (natV l)=l:=by
 induction l with
 |nil=>exact qa4
 |cons x l ih=>
  have h0:natV (x :: l)≠0:=fun h=>by simpa using q2v ht h
  rw[qeu h0];have:=hl.cons.1;simp only[natV];rw[show(x+4294967296*natV l)%4294967296=x by omega,show(x+4294967296*natV l)/4294967296=natV l by omega,ih hl.cons.2 ht.tail]
theorem qap {l:List Nat}(hl:Li l):trimL l=qae (natV l):=by
 rw[<-qlk l,qjy hl.trimL (qoy l)]
theorem qagq {a b:List Nat}(ha:Li a)(hb:Li b)(ta:Trim a)(tb:Trim b)(h:natV a=natV b):a=b:=by
 rw[<-qjy ha ta,<-qjy hb tb,h]
theorem limbsOf_len {n k:Nat}:(qae n).length<=k↔n<4294967296^k:=by
 constructor
 ·intro h;have:=qao (qag n);rw[qac]at this;exact Nat.lt_of_lt_of_le this (Nat.pow_le_pow_right (by omega) h)
 ·intro h;by_cases h0:n=0
  ·rw[h0,qa4];simp
  ·have:=qacf (qe0 n) (qda h0);rw[qac]at this;have h2:4294967296^((qae n).length-1)<4294967296^k:=by omega
   have:=(Nat.pow_lt_pow_iff_right (by omega)).1 h2;omega
theorem qe1 {N B k:Nat}(h:N<2^B)(hk:B<=32*k):(qae N).length<=k:=by
 refine limbsOf_len.2 ?_;rw[show(4294967296:Nat)=2^32 from rfl,<-Nat.pow_mul];exact Nat.lt_of_lt_of_le h (Nat.pow_le_pow_right (by omega) hk)
theorem qbw {X Y k:Nat}(h:X<=Y)(hl:(qae Y).length<=k):(qae X).length<=k:=by
 have:=limbsOf_len.1 hl;exact limbsOf_len.2 (by omega)
theorem q21 {X Y k:Nat}(h1:(qae X).length<=k)(h2:(qae Y).length<=k):(qae (X+Y)).length<=k+1:=by
 have h3:=limbsOf_len.1 h1;have h4:=limbsOf_len.1 h2;refine limbsOf_len.2 ?_;rw[Nat.pow_succ];omega
theorem qjv (l:List Nat)(t:Nat):natV (l++[t])=natV l+4294967296^l.length*t:=by rw[qb0];simp[natV]
end Go.Abs
namespace Go.Abs.W
attribute [local simp] qby
theorem Cb_of {H:Heap}{g:Nat}{args:List V}{v:V}(hp:∀H,prep prog g H args=some (args,H))(h:CQ prog g args v):Cb H g [] args v:=by
 intro H' _;rw[List.append_nil];exact⟨hp H',h H'⟩
theorem qam {n0:Nat}{Q:AX->Env->Heap->Prop}{d:Bool}{dst:Option Nat}{sy:Bool}{l:List AOper}{K:List Fr}{E:Env}{H H1:Heap}{x:X}{args caps vs:List V}{xs:List X}{g:Nat}{v:V}(hx:getX E x=.fn g caps)
 (ha:xs.map (getX E)++caps=args) (hp:prep prog g H args=some (vs,H1)) (h:CQ prog g vs v) (k:WL prog n0 d l K (put E dst v) H1 Q) (hd:(d&&!sy)=true->H <+: H1:=by simp):qw1 prog n0 d dst x xs sy l K E H Q:=
 qw0 hx ha hp (h.ct ⟨hd,k⟩)
theorem qag0 (a:List Nat):CQ prog qs2 [lim a] (.bool (decide (256<a.length))):=by
 refine qaf rfl fun H=>?_
 simp[lim];omega
theorem qnw (l:List (List Nat))(hl:l.length<=9223372036854775807):CQ prog qxg [lims l] (.bool (l.any fun a=>decide (256<a.length))):=by
 refine qaf rfl fun H=>?_
 simp;refine WL_ev rfl rfl rfl (q1z l hl fun x _=>Cb_of (fun _=>rfl) (qag0 x)) ?_;simp
theorem q10 (a:List Nat):CQ prog qpf [lim a] (lim a):=by
 refine qaf rfl fun H=>?_
 simp[lim,List.take_of_length_le]
theorem qad0 (a:List Nat)(ha:a.length<=100000000):CQ prog qj9 [lim a] (.tup [lim (if 256<(trimL a).length then []else trimL a),.int .i64 (if 256<(trimL a).length then 9 else 0)]):=by
 refine qaf rfl fun H=>?_
 simp;refine qaa rfl rfl rfl (qbx a (by omega)) ?_;simp;refine qam rfl rfl (H1:=H++[some ⟨1,[lim (trimL a)],true,false⟩]) (by simp[prep,frzVs,frzV];rfl) (qnw [trimL a] (by simp)) ?_;simp;refine⟨fun h=>?_,fun h=>?_⟩
 ·simp[h];rfl
 ·refine qaa rfl rfl rfl (q10 (trimL a)) ?_;have:¬(256<(trimL a).length):=by omega
  simp[this]
def shlGo (s:Nat):Nat->List Nat->List Nat
 |c,[]=>[c%4294967296]
 |c,x :: l=>((x*2^s+c)%4294967296) :: shlGo s ((x*2^s+c)/4294967296) l
theorem qui {s:Nat}:∀{c:Nat} {l:List Nat},(shlGo s c l).length=l.length+1
 |_,[]=>rfl
 |c,x :: l=>by simp[shlGo,qui]
theorem q65 {s:Nat}:∀{c:Nat} {l:List Nat},Li (shlGo s c l)
 |c,[]=>by intro x hx;simp[shlGo]at hx;omega
 |c,x :: l=>by
  intro y hy;rcases List.mem_cons.1 hy with rfl|hy
  ·omega
  ·exact q65 y hy
theorem qz2 {s x c:Nat}(hs:s<32)(hx:x<4294967296)(hc:c<2^s):x*2^s+c<18446744073709551616/\(x*2^s+c)/4294967296<2^s:=by
 have h1:x*2^s+c<4294967296*2^s:=by
  have:(x+1)*2^s<=4294967296*2^s:=Nat.mul_le_mul_right _ (by omega);rw[Nat.add_mul]at this;omega
 have h2:2^s<=2^31:=Nat.pow_le_pow_right (by omega) (by omega);exact⟨by omega,(Nat.div_lt_iff_lt_mul (by omega)).2 (by omega)⟩
theorem quh {s:Nat}(hs:s<32):∀{c:Nat} {l:List Nat},Li l->c<2^s->natV (shlGo s c l)=natV l*2^s+c
 |c,[],_,hc=>by
  have h2:2^s<=2^31:=Nat.pow_le_pow_right (by omega) (by omega);simp[shlGo,natV];omega
 |c,x :: l,hl,hc=>by
  obtain⟨h1,h2⟩:=qz2 hs hl.cons.1 hc;simp only[shlGo,natV];rw[quh hs hl.cons.2 h2,Nat.add_mul,Nat.mul_add,Nat.mul_assoc];omega
def shlL (a:List Nat)(n:Nat):List Nat:=List.replicate (n/32) 0++shlGo (n%32) 0 (trimL a)
theorem qtv {a:List Nat}{n:Nat}(la:Li a):natV (shlL a n)=natV a*2^n:=by
 unfold shlL;rw[qb0,qrs,List.length_replicate,quh (by omega) la.trimL (Nat.two_pow_pos _),qlk,pow32];rw[Nat.zero_add,Nat.add_zero,Nat.mul_left_comm,<-Nat.pow_add,Nat.div_add_mod]
theorem qz0 {a:List Nat}{n:Nat}:Li (shlL a n):=by
 refine Li.append ?_ q65;intro x hx;rw[(List.mem_replicate.1 hx).2];omega
theorem qh3 (a:List Nat):(trimL a).length<=a.length:=by unfold trimL;simp;omega
theorem qz1 {a:List Nat}{n:Nat}:(shlL a n).length<=n/32+a.length+1:=by
 unfold shlL;have:=qh3 a;simp[qui];omega
theorem qz8 {n0:Nat}{H acc:Heap}{b z off len:Nat}:ownC n0 H acc (.ref b z off len)=match H[b]? with
 |some (some k)=>if n0<=b/\k.arr=true/\k.wr=true/\k.z=z/\off+len<=k.el.length then some (.ref (n0+acc.length) z 0 len,H.set b none,acc++[some { k with el:=(k.el.drop off).take len }])else none
 |_=>none:=rfl
set_option maxHeartbeats 2000000 in
theorem q64 (a:List Nat)(n:Nat)(ha:a.length<=100000000)(la:Li a)(hn:n<=1000000000)(H:Heap)(Q:V->Heap->Prop)
 (hQ:Q (.ref H.length 1 0 (shlL a n).length) (H++[some ⟨1,(shlL a n).map u32,true,true⟩])):CT prog q0r [lim a,.int .i64 n] H Q:=by
 refine CT_of (f:=qhw) rfl (qj4 ?_);simp;refine qaa rfl rfl rfl (qbx a (by omega)) ?_;have hx:=qh3 a;have lx:=la.trimL;unfold shlL at hQ;generalize trimL a=x at *
 have⟨q,hq⟩:∃q,q=n/32:=⟨_,rfl⟩
 have⟨s,hs⟩:∃s,s=n%32:=⟨_,rfl⟩
 rw[<-hq,<-hs]at hQ;have q1:(n:Int)/32=q:=by omega
 have s1:(n:Int)%32=s:=by omega
 have hs32:s<32:=by omega
 have e1:IntKind.i64.wrap (q:Int)=q:=by rw[wrap_i64]<;>omega
 have e2:IntKind.i64.wrap ((q:Int)+(x.length:Int))=q+x.length:=by rw[wrap_i64]<;>omega
 have e3:IntKind.i64.wrap ((q:Int)+(x.length:Int)+1)=q+x.length+1:=by rw[wrap_i64]<;>omega
 have e4:(0:Int)<=q+x.length+1:=by omega
 have e5:((q:Int)+x.length+1).toNat=q+x.length+1:=by omega
 have e6:q<=q+x.length+1/\(q+x.length+1)*4<=281474976710656/\q+x.length+1<=9223372036854775807:=by omega
 simp[lim,q1,e1,e2,e3,e4,e5,e6];refine WK_up (fun i E H'=>E 0=lim x/\E 1=.int .i64 n/\E 21=lim x/\E 22=.int .i64 x.length/\E 23=.int .i64 i /\
  ∃c o G g blk,H'=H++G/\c<2^s/\Li o/\E 6=.int .u64 (c:Nat)/\E 5=.ref (H.length+g) 1 0 (q+i)/\G[g]?=some (some ⟨1,blk,true,true⟩)/\blk.take (q+i)=o.map u32/\o.length=q+i/\q+i<=blk.length /\
   o++shlGo s c (x.drop i)=List.replicate q 0++shlGo s 0 x) x.length ?_ ?_
 ·simp[lim];refine⟨0,Nat.two_pow_pos s,List.replicate q 0,?_,rfl,?_,by simp,by omega,rfl⟩
  ·intro y hy;rw[(List.mem_replicate.1 hy).2];omega
  ·rw[Nat.min_eq_left (by omega)];simp[u32]
 ·rintro i E H' hi ⟨h0,h1,h21,h22,h23,c,o,G,g,blk,rfl,hc,lo,h6,h5,hg,hb,ho,hbl,ht⟩;simp only[lim]at h0 h21;have hgl:=(List.getElem?_eq_some_iff.1 hg).1;rcases Nat.lt_or_ge i x.length with hlt|hge
  ·have f1:IntKind.i64.wrap ((i:Int)+1)=((i+1:Nat):Int):=by rw[wrap_i64]<;>omega
   have f2:(n:Int).tmod 32=s:=by rw[Int.tmod_eq_emod_of_nonneg (by omega)];exact s1
   have lxi:x[i]<4294967296:=lx _ (List.getElem_mem hlt);have f3:IntKind.u64.wrap (x[i]:Int)=x[i]:=qaj _ (by omega);obtain⟨g1,g2⟩:=qz2 hs32 lxi hc;rw[List.drop_eq_getElem_cons hlt,shlGo]at ht;have⟨P,hP⟩:∃P,P=x[i]*2^s:=⟨_,rfl⟩
   have f4:qbf .shl .u64 (x[i]:Int) (s:Int)=some (.int .u64 (P:Int)):=by rw[shl64 _ _ (by omega) (by omega),hP]
   have f5:bitsI .or .u64 (P:Int) (c:Int)=some ((P+c:Nat):Int):=by rw[hP];exact qdw _ _ _ (by omega) hc (by omega)
   rw[<-hP]at g1 g2 ht;have⟨T,hT⟩:∃T,T=P+c:=⟨_,rfl⟩
   rw[<-hT]at f5 g1 g2 ht;have f6:IntKind.u32.wrap (T:Int)=((T%4294967296:Nat):Int):=qa9 T;have f7:qbf .shr .u64 (T:Int) 32=some (.int .u64 ((T/4294967296:Nat):Int)):=shr64 T 32 (by omega);have⟨L,hL⟩:∃L,L=T%4294967296:=⟨_,rfl⟩
   have⟨C,hC⟩:∃C,C=T/4294967296:=⟨_,rfl⟩
   rw[<-hL]at f6 ht;rw[<-hC]at f7 ht g2;have f8:(q+i+1)*4<=140737488355328:=by omega
   have f9:(G++[some ⟨1,[V.int IntKind.u32 L],true,true⟩])[g]?=some (some ⟨1,blk,true,true⟩):=by rw[List.getElem?_append_left hgl];exact hg
   simp[qgt,h0,h1,h21,h22,h23,h5,h6,hlt,u32,f1,f2,f3,f4,f5,f6,f7,f8,hbl,f9,lim];refine⟨C,g2,o++[L],lo.append (by intro y hy;simp at hy;omega),rfl,G.length+1,⟨rfl,by omega⟩,List.take (q+i) blk++[V.int IntKind.u32 ↑L],?_,?_,by simp;omega,by simp;omega,by simpa using ht⟩
   ·rw[List.getElem?_append_right (by simp)];simp
   ·rw[hb,List.take_of_length_le (by simp;omega)];simp[u32]
  ·have hin:i=x.length:=by omega
   subst hin;have g1:2^s<=2^31:=Nat.pow_le_pow_right (by omega) (by omega);have f6:IntKind.u32.wrap (c:Int)=c:=qaw c (by omega);have f8:(q+x.length+1)*4<=140737488355328:=by omega
   have f9:(G++[some ⟨1,[V.int IntKind.u32 c],true,true⟩])[g]?=some (some ⟨1,blk,true,true⟩):=by rw[List.getElem?_append_left hgl];exact hg
   simp[qgt,h22,h23,h5,h6,f6,f8,f9,hbl,fin,ownV,qz8];simp[shlGo]at ht;have hc32:c%4294967296=c:=by omega
   rw[hc32]at ht;rw[<-ht]at hQ;rw[List.take_of_length_le (l:=List.take _ blk++_) (by simp;omega),hb];have hl:(o++[c]).length=q+x.length+1:=by simp[ho]
   rw[hl]at hQ;refine⟨_,_,⟨rfl,rfl⟩,?_⟩;simpa[u32]using hQ
def shN (a:List Nat)(n:Nat):List Nat:=if 256<(qae (natV a*2^n)).length then []else qae (natV a*2^n)
theorem qae8 (a:List Nat)(n:Nat)(ha:a.length<=256)(la:Li a)(hn:n<=65536):CQ prog qq6 [lim a,.int .i64 n] (.tup [lim (shN a n),.int .i64 (if 256<(qae (natV a*2^n)).length then 9 else 0)]):=by
 refine qaf rfl fun H=>?_
 simp;refine qam rfl rfl (H1:=H++[some ⟨1,[lim a],true,false⟩]) (by simp[prep,frzVs,frzV];rfl) (qnw [a] (by simp)) ?_;have h1:¬(256<a.length):=by omega
 have h2:(n:Int)<=65536:=by omega
 have h3:¬((65536:Int)<n):=by omega
 have h4:¬((n:Int)<0):=by omega
 simp[h1,h3,h4];refine qco rfl rfl rfl (q64 a n (by omega) la (by omega) _ _ ?_);simp;refine qam rfl rfl (H1:=H++[some ⟨1,[lim a],true,false⟩,some ⟨1,(shlL a n).map u32,true,false⟩]) (vs:=[lim (shlL a n)]) (by refine Eq.trans (b:=frzVs _ _) rfl ?_;simp[frzVs,frzV,qcd,lim,List.take_of_length_le]) (qad0 (shlL a n) (by have:=qz1 (a:=a) (n:=n);omega)) ?_;rw[qap qz0,qtv la];simp[shN]
theorem qyg (a:List Nat)(n:Nat)(ha:a.length<=256)(la:Li a)(hn:n<=65536):CQ prog qtn [lim a,.int .i64 n] (lim (shN a n)):=by
 refine qaf rfl fun H=>?_
 simp;refine qaa rfl rfl rfl (qae8 a n ha la hn) ?_;simp
theorem q43 (a:List Nat)(ha:a.length<=100000000)(la:Li a):CQ prog q03 [lim a] (.int .i64 (bitL (natV a))):=by
 refine qaf rfl fun H=>?_
 simp;refine qaa rfl rfl rfl (qnh a ha la) ?_;simp[i64]
def Dy.inR (d:Dy):Bool:=
 bitL (natV d.m) == 0 || (decide (bitL (natV d.m)<=4096)&&decide (-16384<=d.e)&&decide (d.e<=16384)&&decide (bitL (natV d.m)+d.e<=16384))
theorem qy0 (d:Dy)(ha:d.m.length<=100000000)(la:Li d.m):CQ prog qto [d.v] (.bool d.inR):=by
 refine qaf rfl fun H=>?_
 simp;refine qaa rfl rfl rfl (q43 _ ha la) ?_;have e1:bitL (natV d.m)<=4096->-16384<=d.e->d.e<=16384->IntKind.i64.wrap ((bitL (natV d.m):Int)+d.e)=bitL (natV d.m)+d.e:=by intros;rw[wrap_i64]<;>omega
 simp[Dy.inR];grind
def Dy.valid (d:Dy):Bool:=
 match d.m with
 | []=>!d.neg&&decide (d.e=0)
 |x :: l=>decide ((x :: l).length<=256)&&decide (x%2=1)&&decide ((x :: l).getLast (by simp)≠0)&&d.inR
set_option maxHeartbeats 1000000 in
theorem qcf (d:Dy)(ha:d.m.length<=100000000)(la:Li d.m):CQ prog qx1 [d.v] (.bool d.valid):=by
 refine qaf rfl fun H=>?_
 rcases d with ⟨neg,m,e⟩;rcases m with _|⟨x,l⟩
 ·simp[lim,Dy.valid];grind
 ·have hx:x<4294967296:=la x (by simp);have e1:((l.length:Int)+1≠0):=by omega
  have e2:(x:Int).tmod 2=((x%2:Nat):Int):=by rw[Int.tmod_eq_emod_of_nonneg (by omega)];omega
  have⟨y,hy⟩:∃y,y=x%2:=⟨_,rfl⟩
  have⟨t,ht⟩:∃t,t=(x :: l).getLast (by simp):=⟨_,rfl⟩
  have e3:IntKind.i64.wrap (l.length:Int)=l.length:=by rw[wrap_i64]<;>(simp at ha;omega)
  have e4:(x :: l)[l.length]?=some t:=by rw[ht,List.getLast_eq_getElem];simp
  have e5:((V.int IntKind.u32 (x:Int)) :: List.map u32 l)[l.length]?=some (.int .u32 t):=by
   have:=congrArg (Option.map u32) e4;rw[<-List.getElem?_map]at this;exact this
  have e7:((V.int IntKind.u32 (x:Int)) :: List.map u32 l)[l.length]'(by simp)=.int .u32 t:=by
   rw[List.getElem?_eq_getElem (by simp)]at e5;injection e5
  rw[<-hy]at e2;have hv:Dy.valid ⟨neg,x :: l,e⟩=(decide (l.length+1<=256)&&decide (y=1)&&decide (t≠0)&&Dy.inR ⟨neg,x :: l,e⟩):=by
   simp[Dy.valid,hy,ht]
  rw[hv];simp[lim,u32,e1,e2,e3,e7];refine⟨fun h1=>⟨fun h2=>⟨fun h3=>?_,fun h3=>?_⟩,fun h2=>?_⟩,fun h1=>?_⟩
  ·refine qaa rfl rfl rfl (qy0 ⟨neg,x :: l,e⟩ ha la) ?_;simp;grind
  all_goals grind
def Dy.absN (d:Dy):Nat:=natV d.m*2^(d.e+16384).toNat
def Dy.val (d:Dy):Int:=if d.neg then -(d.absN:Int)else d.absN
def Dy.top (d:Dy):Int:=if d.m=[]then 0 else bitL (natV d.m)+d.e
def Dy.sgn (d:Dy):Int:=if d.m=[]then 0 else if d.neg then -1 else 1
def cmpI (a b:Int):Int:=if a<b then -1 else if b<a then 1 else 0
structure Dy.Ok (d:Dy):Prop where
 li:Li d.m
 tr:Trim d.m
 len:d.m.length<=256
 zero:d.m=[]->d.neg=false/\d.e=0
 odd:d.m≠[]->natV d.m%2=1
 bits:bitL (natV d.m)<=4096
 elo:-16384<=d.e
 ehi:d.e<=16384
 top:bitL (natV d.m)+d.e<=16384
theorem qcq {l:List Nat}(h:Trim l)(hn:l≠[]):natV l≠0:=fun h0=>hn (q2v h h0)
theorem Dy.Ok.of {d:Dy}(li:Li d.m)(h:d.valid=true):d.Ok:=by
 rcases d with ⟨neg,m,e⟩;rcases m with _|⟨x,l⟩
 ·simp[Dy.valid]at h;obtain⟨h1,h2⟩:=h;subst h1;subst h2;exact⟨li,by intro x hx;simp at hx,by simp,by simp,by simp,by decide,by decide,by decide,by decide⟩
 ·simp only[Dy.valid,Bool.and_eq_true,decide_eq_true_eq]at h;obtain⟨⟨⟨h1,h2⟩,h3⟩,h4⟩:=h;have tr:Trim (x :: l):=by
   intro y hy;rw[List.getLast?_eq_some_getLast (by simp)]at hy;injection hy with hy
   rw[<-hy];exact h3
  have hn:=qcq tr (by simp);have hb:bitL (natV (x :: l))≠0:=by
   have:=(qa0 hn).2.2;omega
  simp only[Dy.inR,Bool.or_eq_true,Bool.and_eq_true,decide_eq_true_eq,beq_iff_eq,hb,false_or]at h4;obtain⟨⟨⟨g1,g2⟩,g3⟩,g4⟩:=h4;exact⟨li,tr,h1,by simp,fun _=>by simp only[natV];omega,g1,g2,g3,g4⟩
theorem Dy.Ok.valid {d:Dy}(h:d.Ok):d.valid=true:=by
 rcases d with ⟨neg,m,e⟩;rcases m with _|⟨x,l⟩
 ·have:=h.zero rfl;simp only at this;simp[Dy.valid,this.1,this.2]
 ·simp only[Dy.valid,Bool.and_eq_true,decide_eq_true_eq];refine⟨⟨⟨h.len,?_⟩,?_⟩,?_⟩
  ·have:=h.odd (by simp);simp only[natV]at this;omega
  ·exact h.tr _ (List.getLast?_eq_some_getLast (by simp))
  ·simp[Dy.inR,h.bits,h.elo,h.ehi,h.top]
structure Dy.G (d:Dy):Prop where
 li:Li d.m
 tr:Trim d.m
 zero:d.m=[]->d.neg=false/\d.e=0
 elo:-16384<=d.e
theorem Dy.Ok.toG {d:Dy}(h:d.Ok):d.G:=⟨h.li,h.tr,h.zero,h.elo⟩
theorem Dy.G.absN_ne {d:Dy}(h:d.G)(hm:d.m≠[]):d.absN≠0:=by
 unfold Dy.absN;exact Nat.mul_ne_zero (qcq h.tr hm) (Nat.ne_of_gt (Nat.two_pow_pos _))
theorem Dy.absN_nil {d:Dy}(hm:d.m=[]):d.absN=0:=by simp[Dy.absN,hm,natV]
theorem Dy.Ok.absN_ne {d:Dy}(h:d.Ok)(hm:d.m≠[]):d.absN≠0:=h.toG.absN_ne hm
theorem Dy.G.absN_bounds {d:Dy}(h:d.G)(hm:d.m≠[]):2^(d.top+16383).toNat<=d.absN/\d.absN<2^(d.top+16384).toNat:=by
 obtain⟨h1,h2,h3⟩:=qa0 (qcq h.tr hm);have he:=h.elo;unfold Dy.top Dy.absN;rw[if_neg hm];rw[show((bitL (natV d.m):Int)+d.e+16383).toNat=(bitL (natV d.m)-1)+(d.e+16384).toNat by omega,show((bitL (natV d.m):Int)+d.e+16384).toNat=bitL (natV d.m)+(d.e+16384).toNat by omega,Nat.pow_add,Nat.pow_add];exact⟨Nat.mul_le_mul_right _ h1,Nat.mul_lt_mul_of_pos_right h2 (Nat.two_pow_pos _)⟩
theorem Dy.Ok.absN_bounds {d:Dy}(h:d.Ok)(hm:d.m≠[]):2^(d.top+16383).toNat<=d.absN/\d.absN<2^(d.top+16384).toNat:=h.toG.absN_bounds hm
theorem Dy.G.top_pos {d:Dy}(h:d.G)(hm:d.m≠[]):1<=d.top+16384:=by
 obtain⟨_,_,h3⟩:=qa0 (qcq h.tr hm);have:=h.elo;unfold Dy.top;rw[if_neg hm];omega
theorem Dy.Ok.top_pos {d:Dy}(h:d.Ok)(hm:d.m≠[]):1<=d.top+16384:=h.toG.top_pos hm
theorem qou {a b:Dy}(ha:a.G)(hb:b.G)(na:a.m≠[])(nb:b.m≠[])(h:a.top<b.top):a.absN<b.absN:=by
 have h1:=(ha.absN_bounds na).2;have h2:=(hb.absN_bounds nb).1;have h3:=ha.top_pos na;have:2^(a.top+16384).toNat<=2^(b.top+16383).toNat:=Nat.pow_le_pow_right (by omega) (by omega);omega
theorem qwz {a b:Dy}(ha:a.Ok)(hb:b.Ok)(na:a.m≠[])(nb:b.m≠[])(h:a.top<b.top):a.absN<b.absN:=qou ha.toG hb.toG na nb h
theorem qh2 {d:Dy}{e:Int}(h1:-16384<=e)(h2:e<=d.e):d.absN=natV d.m*2^(d.e-e).toNat*2^(e+16384).toNat:=by
 unfold Dy.absN;rw[Nat.mul_assoc,<-Nat.pow_add]
 congr 2;omega
theorem qzh {x y k:Nat}(hk:0<k):cmpN (x*k) (y*k)=cmpN x y:=by
 unfold cmpN;simp only[Nat.mul_lt_mul_right hk]
theorem qahl {x y:Nat}:cmpI x y=cmpN x y:=by
 unfold cmpI cmpN;split<;>split<;>(try split)<;>omega
theorem qahk {x y:Nat}:cmpI (-(x:Int)) (-(y:Int))=- cmpN x y:=by
 unfold cmpI cmpN;repeat' split
 all_goals omega
theorem q6w {a b:Dy}(ha:a.G)(hb:b.G):cmpI a.val b.val=if a.sgn<b.sgn then -1 else if b.sgn<a.sgn then 1 else if a.sgn=0 then 0 else a.sgn*cmpN a.absN b.absN:=by
 have za:=ha.zero;have zb:=hb.zero;by_cases na:a.m=[]
 ·have h1:=Dy.absN_nil na;have h2:=(za na).1;by_cases nb:b.m=[]
  ·have h3:=Dy.absN_nil nb;simp[Dy.val,Dy.sgn,na,nb,h1,h3,cmpI]
  ·have h3:=hb.absN_ne nb;cases hn:b.neg<;>simp[Dy.val,Dy.sgn,na,nb,h1,h2,hn,cmpI]<;>omega
 ·have h1:=ha.absN_ne na;by_cases nb:b.m=[]
  ·have h3:=Dy.absN_nil nb;have h2:=(zb nb).1;cases hn:a.neg<;>simp[Dy.val,Dy.sgn,na,nb,h3,h2,hn,cmpI]<;>omega
  ·have h3:=hb.absN_ne nb;cases hn:a.neg<;>cases hn2:b.neg<;>simp[Dy.val,Dy.sgn,na,nb,hn,hn2,qahl,qahk]<;>simp[cmpI]<;>omega
theorem qai6 {a b:Dy}(ha:a.Ok)(hb:b.Ok):cmpI a.val b.val=if a.sgn<b.sgn then -1 else if b.sgn<a.sgn then 1 else if a.sgn=0 then 0 else a.sgn*cmpN a.absN b.absN:=q6w ha.toG hb.toG
theorem qahs {a b:Dy}(ha:a.Ok)(hb:b.Ok)(na:a.m≠[])(nb:b.m≠[])(h:a.absN=b.absN):a.m=b.m/\a.e=b.e:=by
 have key:∀{a b:Dy},a.Ok->b.Ok->a.m≠[]->b.m≠[]->a.absN=b.absN->¬a.e<b.e:=by
  intro a b ha hb na nb h hlt;have h1:=qh2 (d:=b) (e:=a.e) ha.elo (by omega);unfold Dy.absN at h h1;rw[h1]at h;have h2:=Nat.eq_of_mul_eq_mul_right (Nat.two_pow_pos _) h;have h3:=ha.odd na;rw[h2,show(b.e-a.e).toNat=(b.e-a.e).toNat-1+1 by omega,Nat.pow_succ,<-Nat.mul_assoc]at h3;omega
 have he:a.e=b.e:=by
  have:=key ha hb na nb h;have:=key hb ha nb na h.symm;omega
 refine⟨?_,he⟩;unfold Dy.absN at h;rw[he]at h;exact qagq ha.li hb.li ha.tr hb.tr (Nat.eq_of_mul_eq_mul_right (Nat.two_pow_pos _) h)
theorem q4v {a b:Dy}(ha:a.Ok)(hb:b.Ok)(h:a.val=b.val):a=b:=by
 have za:=ha.zero;have zb:=hb.zero;by_cases na:a.m=[]
 ·by_cases nb:b.m=[]
  ·obtain⟨h1,h2⟩:=za na;obtain⟨h3,h4⟩:=zb nb;cases a;cases b;simp_all
  ·have h3:=hb.absN_ne nb;have h1:=Dy.absN_nil na;simp[Dy.val,h1]at h;split at h<;>omega
 ·have h1:=ha.absN_ne na;by_cases nb:b.m=[]
  ·have h3:=Dy.absN_nil nb;simp[Dy.val,h3]at h;split at h<;>omega
  ·have h3:=hb.absN_ne nb;have hab:a.absN=b.absN/\a.neg=b.neg:=by
    cases hn:a.neg<;>cases hn2:b.neg<;>simp[Dy.val,hn,hn2]at h ⊢<;>omega
   obtain⟨h4,h5⟩:=qahs ha hb na nb hab.1;cases a;cases b;simp_all
set_option maxHeartbeats 4000000
def Dy.cmp (a b:Dy):Int:=if a.valid&&b.valid then cmpI a.val b.val else 0
structure Dy.W (d:Dy):Prop where
 li:Li d.m
 len:d.m.length<=100000000
theorem Dy.Ok.w {d:Dy}(h:d.Ok):d.W:=⟨h.li,Nat.le_trans h.len (by omega)⟩
theorem qjm (d:Dy)(w:d.W):CQ prog q04 [d.v] (.int .i64 (if d.valid then d.sgn else 0)):=by
 refine qaf rfl fun H=>?_
 simp;refine qaa rfl rfl rfl (qcf d w.len w.li) ?_;have e:(d.m=[])↔(d.m.length:Int)=0:=by simp
 simp[lim,Dy.sgn];grind
theorem qj5 (d:Dy)(w:d.W):CQ prog q3g [d.v] (.int .i64 (if d.valid then d.top else 0)):=by
 refine qaf rfl fun H=>?_
 simp;refine qaa rfl rfl rfl (qcf d w.len w.li) ?_;have e:(d.m=[])↔(d.m.length:Int)=0:=by simp
 simp[lim,Dy.top];refine⟨fun h=>by simp[h],fun h=>?_⟩;have ok:=Dy.Ok.of w.li h;refine⟨fun h1 _ h2=>absurd h1 h2,fun hm=>?_⟩;refine qaa rfl rfl rfl (q43 d.m w.len w.li) ?_;have e1:IntKind.i64.wrap ((bitL (natV d.m):Int)+d.e)=bitL (natV d.m)+d.e:=by
  have:=ok.bits;have:=ok.elo;have:=ok.ehi;rw[wrap_i64]<;>omega
 simp[h,hm,e1]
theorem qah8 {a:List Nat}{n B:Nat}(h:natV a*2^n<2^B)(hB:B<=8192):natV (shN a n)=natV a*2^n:=by
 have:(qae (natV a*2^n)).length<=256:=qe1 h (by omega);unfold shN;rw[if_neg (by omega),qac]
theorem qah9 {a:List Nat}{n:Nat}:Li (shN a n):=by
 unfold shN;split
 ·intro x hx;simp at hx
 ·exact qag _
theorem qabj {a:List Nat}{n:Nat}:(shN a n).length<=256:=by
 unfold shN;split
 ·simp
 ·omega
theorem q99 (a b:Dy)(oa:a.Ok)(ob:b.Ok)(na:a.m≠[])(nb:b.m≠[]):CQ prog qtp [a.v,b.v] (.int .i64 (cmpN a.absN b.absN)):=by
 refine qaf rfl fun H=>?_
 have va:=oa.valid;have vb:=ob.valid;simp;refine qaa rfl rfl rfl (qj5 a oa.w) ?_;simp;refine qaa rfl rfl rfl (qj5 b ob.w) ?_;simp[va,vb];refine⟨fun h=>?_,fun h=>⟨fun h2=>?_,fun h2=>?_⟩⟩
 ·have:=qwz oa ob na nb h;simp[cmpN,this]
 ·have:=qwz ob oa nb na h2;have h3:¬a.absN<b.absN:=by omega
  simp[cmpN,this,h3]
 ·have ht:a.top=b.top:=by omega
  have⟨e,he⟩:∃e,e=min a.e b.e:=⟨_,rfl⟩
  have he':(if b.e<a.e then b.e else a.e)=e:=by rw[he];split<;>omega
  have h3:=oa.elo;have h4:=oa.ehi;have h5:=ob.elo;have h6:=ob.ehi;have h7:=oa.bits;have h8:=ob.bits;have⟨i,hi⟩:∃i,i=(a.e-e).toNat:=⟨_,rfl⟩
  have⟨j,hj⟩:∃j,j=(b.e-e).toNat:=⟨_,rfl⟩
  have f1:IntKind.i64.wrap (a.e-e)=i:=by rw[wrap_i64]<;>omega
  have f2:IntKind.i64.wrap (b.e-e)=j:=by rw[wrap_i64]<;>omega
  simp[he',f1];refine qaa rfl rfl rfl (qyg a.m i oa.len oa.li (by omega)) ?_;simp[f2];refine qaa rfl rfl rfl (qyg b.m j ob.len ob.li (by omega)) ?_;simp;refine qaa rfl rfl rfl (qpw _ _ (by have:=qabj (a:=a.m) (n:=i);omega) (by have:=qabj (a:=b.m) (n:=j);omega) qah9 qah9) ?_;have key:∀{d:Dy} {k:Nat},d.Ok->d.m≠[]->natV d.m*2^k<2^(bitL (natV d.m)+k):=by
   intro d k od nd;have:=(qa0 (qcq od.tr nd)).2.1;rw[Nat.pow_add];exact Nat.mul_lt_mul_of_pos_right this (Nat.two_pow_pos k)
  unfold Dy.top at ht;rw[if_neg na,if_neg nb]at ht;rw[qah8 (key oa na) (by omega),qah8 (key ob nb) (by omega)];rw[qh2 (d:=a) (e:=e) (by omega) (by omega),qh2 (d:=b) (e:=e) (by omega) (by omega),<-hi,<-hj,qzh (Nat.two_pow_pos _)];simp[i64]
theorem qei (a b:Dy)(wa:a.W)(wb:b.W):CQ prog q3i [a.v,b.v] (.int .i64 (a.cmp b)):=by
 refine qaf rfl fun H=>?_
 simp;refine qaa rfl rfl rfl (qcf a wa.len wa.li) ?_;simp;refine⟨fun h1=>by simp[Dy.cmp,h1],fun h1=>?_⟩;refine qaa rfl rfl rfl (qcf b wb.len wb.li) ?_;simp;refine⟨fun h2=>by simp[Dy.cmp,h2],fun h2=>?_⟩;refine qaa rfl rfl rfl (qjm a wa) ?_;simp;refine qaa rfl rfl rfl (qjm b wb) ?_;have oa:=Dy.Ok.of wa.li h1;have ob:=Dy.Ok.of wb.li h2;simp[h1,h2,Dy.cmp,qai6 oa ob];refine⟨fun h3=>by grind,fun h3=>⟨fun h4=>?_,fun h4=>?_⟩⟩
 ·have e1:¬a.sgn<b.sgn:=by omega
  simp[e1,h4]
 have e1:¬a.sgn<b.sgn:=by omega
 have e2:¬b.sgn<a.sgn:=by omega
 simp[e1,e2];refine⟨fun h5=>by simp[h5],fun h5=>?_⟩;have na:a.m≠[]:=fun h=>h5 (by simp[Dy.sgn,h])
 have nb:b.m≠[]:=fun h=>by
  have:b.sgn=0:=by simp[Dy.sgn,h]
  omega
 refine qaa rfl rfl rfl (q99 a b oa ob na nb) ?_;have e3:IntKind.i64.wrap (a.sgn*cmpN a.absN b.absN)=a.sgn*cmpN a.absN b.absN:=by
  have h6:a.sgn=1\/a.sgn=-1:=by unfold Dy.sgn;rw[if_neg na];split<;>simp
  have h7:cmpN a.absN b.absN=1\/cmpN a.absN b.absN=-1\/cmpN a.absN b.absN=0:=by unfold cmpN;split<;>(try split)<;>simp
  rcases h6 with h6|h6<;>rcases h7 with h7|h7|h7<;>rw[h6,h7]<;>decide
 simp[e3,h5]
end Go.Abs.W
namespace Go.Abs.W
structure Out (H0 H:Heap)(v:V)(z:Nat)(l:List V):Prop where
 pre:H0 <+: H
 val:(l=[]/\v=.nil)\/∃b blk,H0.length<=b/\v=.ref b z 0 l.length/\H[b]?=some (some ⟨z,blk,true,true⟩)/\blk.take l.length=l/\l.length<=blk.length
theorem Out.nil {H:Heap}{z:Nat}:Out H H .nil z []:=⟨List.prefix_refl _,.inl ⟨rfl,rfl⟩⟩
theorem Out.grow {H0 H:Heap}{v:V}{z:Nat}{l:List V}(h:Out H0 H v z l)(t:Heap):Out H0 (H++t) v z l:=by
 refine⟨qd9 h.pre,?_⟩;rcases h.val with h1|⟨b,blk,h1,h2,h3,h4⟩
 ·exact .inl h1
 ·exact .inr ⟨b,blk,h1,h2,by rw[List.getElem?_append_left (List.getElem?_eq_some_iff.1 h3).1];exact h3,h4⟩
theorem qyo {H0 H:Heap}{b:Nat}{x:Option Blk}(h:H0 <+: H)(hb:H0.length<=b):H0 <+: H.set b x:=by
 obtain⟨t,rfl⟩:=h;rw[List.set_append_right _ _ hb];exact List.prefix_append _ _
theorem Out.app {H0 H:Heap}{v y:V}{z bytes:Nat}{l ys:List V}(h:Out H0 H v z l)(hy:elems H y=some ys)(hz:qe2 z ys=true)(hn:ys≠[])(hb:(l.length+ys.length)*bytes<=140737488355328) :
 ∃v' H',qby z bytes v y H=some (v',H')/\Out H0 H' v' z (l++ys):=by
 unfold qby;rw[hy];simp only[Option.bind_some,hz,if_true];rcases h.val with ⟨h1,h2⟩|⟨b,blk,h1,h2,h3,h4,h5⟩
 ·subst h1;subst h2;have:qbd ys.length bytes=true:=by simp[qbd];simpa using hb
  simp only[hn,if_false,this,if_true];refine⟨_,_,rfl,qd9 h.pre,.inr ⟨H.length,ys,h.pre.length_le,by simp,by simp,by simp,by simp⟩⟩
 ·subst h2;have:qbd (l.length+ys.length) bytes=true:=by simp[qbd];simpa using hb
  simp only[h3,hn,if_false,this];simp only[Nat.zero_add,h5,and_self,if_true,List.drop_zero,h4];refine⟨_,_,rfl,qd9 (qyo h.pre h1),.inr ⟨H.length,l++ys,h.pre.length_le,by simp,?_,by rw[List.take_of_length_le];simp,by simp⟩⟩;rw[List.getElem?_append_right (by simp)];simp
theorem Out.frz {H0 H:Heap}{v:V}{z:Nat}{l:List V}(h:Out H0 H v z l):∃H',H0 <+: H'/\frzC H v=some (.sl l,H')/\qck H v=some (.sl l,H'):=by
 rcases h.val with ⟨h1,h2⟩|⟨b,blk,h1,h2,h3,h4,h5⟩
 ·subst h1;subst h2;exact⟨H,h.pre,rfl,rfl⟩
 ·subst h2;refine⟨H.set b (some ⟨z,blk,true,false⟩),qyo h.pre h1,?_,?_⟩
  ·simp[h3,h4,h5]
  ·simp[h3,h4,h5]
theorem Out.fin {H0 H1 H:Heap}{v:V}{z:Nat}{l:List V}(h:Out H0 H v z l)(hp:H1 <+: H0):Go.Abs.fin false H1.length H v=some (.sl l,H1):=by
 obtain⟨H',h1,h2,h3⟩:=h.frz;have:Go.Abs.fin false H1.length H v=(qck H v).bind fun(v',H1')=>some (v',H1'.take H1.length):=by
  rcases h.val with ⟨_,e⟩|⟨b,blk,_,e,_⟩<;>subst e<;>rfl
 rw[this,h3];simp[qb5 (hp.trans h1)]
theorem Out.prep {H0 H:Heap}{v:V}{z g:Nat}{l:List V}(h:Out H0 H v z l)(hg:(prog.fn g).elim true (fun f=>!f.raw)=true):∃H',H0 <+: H'/\prep prog g H [v]=some ([.sl l],H'):=by
 obtain⟨H',h1,h2,h3⟩:=h.frz;refine⟨H',h1,?_⟩;have e:frzVs H [v]=some ([.sl l],H'):=by
  have:frzV H v=frzC H v:=by
   rcases h.val with ⟨_,e⟩|⟨b,blk,_,e,_⟩<;>subst e<;>rfl
  simp[frzVs,this,h2]
 unfold Go.Abs.prep;cases hq:prog.fn g with
 |none=>exact e
 |some f=>
  rw[hq]at hg;simp at hg;simp[hg,e]
theorem Out.oneIv {H0 H:Heap}{v:V}{l:List Iv}(h:Out H0 H v 7 (l.map Iv.v))(x:Iv)(hb:l.length+1<=1000000000) :
 ∃v' H',qby 7 88 v (.ref H.length 7 0 1) (H++[some ⟨7,[x.v],true,true⟩])=some (v',H')/\Out H0 H' v' 7 ((l++[x]).map Iv.v):=by
 have:=(h.grow [some ⟨7,[x.v],true,true⟩]).app (y:=.ref H.length 7 0 1) (ys:=[x.v]) (bytes:=88) (by simp) (by simp) (by simp) (by simp;omega);simpa using this
set_option maxHeartbeats 4000000
theorem qaeq {k:Nat}(h:k≠0):bitL k=bitL (k/2)+1:=by
 by_cases h1:k=1
 ·subst h1;decide
 ·have:=qh0 (n:=k) (k:=1) (by omega);simpa using this
theorem qqw (l:List Nat)(hl:l.length<=1000000000):CQ prog qek [lim l] (lim (trimL l)):=by
 refine qaf rfl fun H=>?_
 simp[lim];refine qc5 (fun k E H'=>H'=H/\E 0=lim l/\k<=l.length/\E 3=.int .i64 k/\trimN l k=trimN l l.length) l.length ?_ ?_
 ·simp[lim]
 ·rintro n E H' ⟨rfl,h0,hn,h3,ht⟩;refine qas ?_;simp only[lim]at h0;have hlim:∀k,k<=l.length->k*4<=140737488355328:=by omega
  have fin':∀k,k=trimN l l.length->k<=l.length->(List.take k (List.map u32 l))=List.map u32 (trimL l):=by
   intro k hk _;rw[trimL,hk,List.map_take]
  rcases n with _|n
  ·have ft:=fin' 0 (by rw[<-ht];rfl) (by omega);simp[qd7,h0,h3,qby,<-ft]
  ·have e1:IntKind.i64.wrap (n:Int)=n:=by rw[wrap_i64]<;>omega
   have hlt:n<l.length:=by omega
   have p1:(0:Int)<=(n:Int)+1:=by omega
   have p2:(0:Int)<(n:Int)+1:=by omega
   by_cases hx:l[n]=0
   ·simp[qd7,h0,h3,e1,hlt,hx,u32,p2];refine⟨n,by omega,rfl,by omega,rfl,?_⟩;rw[<-ht,trimN,if_pos (by rw[List.getElem?_eq_getElem hlt,hx])]
   ·have hx':¬((l[n]:Int)=0):=by omega
    have ft:=fin' (n+1) (by rw[<-ht,trimN,if_neg (by rw[List.getElem?_eq_getElem hlt];simpa using hx)]) (by omega);have f8:=hlim (n+1) (by omega);have hne:l≠[]:=by intro h;rw[h]at hlt;simp at hlt
    have hhd:qe2 1 (List.take (n+1) (List.map u32 l))=true:=by
     cases l with
     |nil=>exact absurd rfl hne
     |cons x l=>simp[qe2]
    have⟨ys,hys⟩:∃ys,ys=List.take (n+1) (List.map u32 l):=⟨_,rfl⟩
    rw[<-hys]at hhd ft;have hyl:ys.length=n+1:=by rw[hys];simp;omega
    have hyn:ys≠[]:=by intro h;rw[h]at hyl;simp at hyl
    simp only[qe2]at hhd;simp[qd7,h0,h3,e1,hlt,hx,u32,p1,p2,hn,qby,<-hys];rw[if_pos hhd];simp[hyl,f8,hyn];rw[<-ft,List.take_of_length_le (by omega)]
theorem qabu : CQ prog qka [lim []] (.int .i64 0):=by
 refine qaf rfl fun H=>?_
 simp[lim]
theorem qagj (l:List Nat)(t:Nat)(hl:l.length<=1000000)(ht:t<4294967296):CQ prog qka [lim (l++[t])] (.int .i64 ((32*l.length+bitL t:Nat))):=by
 refine qaf rfl fun H=>?_
 have e2:IntKind.i64.wrap (l.length:Int)=l.length:=by rw[wrap_i64]<;>omega
 have e3:IntKind.i64.wrap (32*(l.length:Int))=32*l.length:=by rw[wrap_i64]<;>omega
 have e4:¬((l.length:Int)+1=0):=by omega
 simp[lim,e2,e3,e4,u32];have hb:=qwv ht;refine qc5 (fun k E H'=>H'=H/\E 4=.int .u32 k/\k<=t/\bitL k<=bitL t/\E 3=.int .i64 ((32*l.length+(bitL t-bitL k):Nat))) t ?_ ?_
 ·simp
 ·rintro k E H' ⟨rfl,h4,hk,hbk,h3⟩;refine qas ?_;rcases Nat.eq_zero_or_pos k with rfl|hp
  ·simp[qf6,h4,h3,bitL]
  ·have f1:qbf .shr .u32 (k:Int) 1=some (.int .u32 ((k/2:Nat):Int)):=by have:=shr32 k 1 (by omega);simpa using this
   have⟨j,hj⟩:∃j,j=k/2:=⟨_,rfl⟩
   have hh:=qaeq (k:=k) (by omega);rw[<-hj]at f1 hh;have⟨c,hc⟩:∃c,c=32*l.length+(bitL t-bitL k):=⟨_,rfl⟩
   rw[<-hc]at h3;have f2:IntKind.i64.wrap ((c:Int)+1)=((32*l.length+(bitL t-bitL j):Nat):Int):=by rw[wrap_i64]<;>omega
   simp[qf6,h4,h3,hp,f1,f2];exact⟨j,by omega,rfl,by omega,by omega,rfl⟩
theorem qur (x y:List Nat)(ha:x.length<=9223372036854775807)(lx:Li x)(ly:Li y)(ht:x.length=y.length\/(Trim x/\Trim y)):CQ prog qr1 [lim x,lim y] (.int .i64 (cmpN (natV x) (natV y))):=by
 refine qaf rfl fun H=>?_
 by_cases hlt:x.length<y.length
 ·have h1:¬((x.length:Int)=(y.length:Int)):=by omega
  have h2:=qej lx (by rcases ht with h|h;omega;exact h.2) hlt;simp[lim,hlt,h1,cmpN,h2]
 ·by_cases hgt:y.length<x.length
  ·have h1:¬((x.length:Int)=(y.length:Int)):=by omega
   have h2:=qej ly (by rcases ht with h|h;omega;exact h.1) hgt;have h3:¬natV x<natV y:=by omega
   simp[lim,hlt,h1,cmpN,h2,h3]
  ·have heq:x.length=y.length:=by omega
   simp[lim,heq];refine qc5 (fun k E H'=>H'=H/\E 0=lim x/\E 1=lim y/\k<=x.length/\E 5=.int .i64 ((k:Int)-1)/\x.drop k=y.drop k) x.length ?_ ?_
   ·have e1:IntKind.i64.wrap ((y.length:Int)-1)=(y.length:Int)-1:=by rw[wrap_i64]<;>omega
    have e2:y.drop x.length=[]:=by rw[heq];exact List.drop_length
    simp[lim,e1,heq]
   ·rintro n E H' ⟨rfl,h0,h1,hn,h5,hd⟩;refine qas ?_;simp only[lim]at h0 h1;rcases n with _|n
    ·have e1:x=y:=by simpa using hd
     have e2:¬((0:Int)<=-1):=by omega
     simp[qbs,h5,e1,cmpN]
    ·have e1:(n+1:Int)-1=n:=by omega
     have hx:n<x.length:=by omega
     have hy:n<y.length:=by omega
     have p1:((0:Int)<=n):=by omega
     by_cases hlt:x[n]<y[n]
     ·have h2:=qge lx hx hy hd hlt;simp[qbs,h0,h1,h5,e1,p1,hx,hy,u32,hlt,cmpN,h2]
     ·by_cases hgt:y[n]<x[n]
      ·have h2:=qge ly hy hx hd.symm hgt;have h3:¬natV x<natV y:=by omega
       simp[qbs,h0,h1,h5,e1,p1,hx,hy,u32,hlt,hgt,cmpN,h2,h3]
      ·have e2:IntKind.i64.wrap ((n:Int)-1)=(n:Int)-1:=by rw[wrap_i64]<;>omega
       simp[qbs,h0,h1,h5,e1,p1,hx,hy,u32,hlt,hgt,e2];refine⟨n,by omega,rfl,rfl,by omega,rfl,?_⟩;rw[List.drop_eq_getElem_cons hx,List.drop_eq_getElem_cons hy,hd]
       congr 1
       omega
theorem qaeg {a b:Nat}:cmpN a b=0↔a=b:=by unfold cmpN;split<;>(try split)<;>omega
end Go.Abs.W
namespace Go.Abs.W
theorem Out.one {H0 H:Heap}{v:V}{l:List Nat}(h:Out H0 H v 1 (l.map u32))(x:Nat)(hb:l.length+1<=1000000000) :
 ∃v' H',qby 1 4 v (.ref H.length 1 0 1) (H++[some ⟨1,[.int .u32 x],true,true⟩])=some (v',H')/\Out H0 H' v' 1 ((l++[x]).map u32):=by
 have:=(h.grow [some ⟨1,[.int .u32 x],true,true⟩]).app (y:=.ref H.length 1 0 1) (ys:=[.int .u32 x]) (bytes:=4) (by simp) (by simp) (by simp) (by simp;omega);simpa[u32]using this
set_option maxHeartbeats 2000000 in
theorem qacx (x:List Nat)(n:Nat)(hx:x.length<=1000000)(lx:Li x)(hn:n<=10000000):CQ prog qxv [lim x,.int .i64 n] (lim (qae (natV x*2^n))):=by
 refine qaf rfl fun H=>?_
 have⟨q,hq⟩:∃q,q=n/32:=⟨_,rfl⟩
 have⟨s,hs⟩:∃s,s=n%32:=⟨_,rfl⟩
 have q1:(n:Int)/32=q:=by omega
 have s1:(n:Int).tmod 32=s:=by rw[Int.tmod_eq_emod_of_nonneg (by omega)];omega
 have hs32:s<32:=by omega
 have e1:IntKind.i64.wrap (q:Int)=q:=by rw[wrap_i64]<;>omega
 have e6:q*4<=281474976710656/\q<=9223372036854775807:=by omega
 have e7:IntKind.u64.wrap (s:Int)=s:=qaj _ (by omega);simp[lim,q1,e1,e6];refine WK_up (fun i E H'=>E 0=lim x/\E 1=.int .i64 n/\E 7=.int .i64 i/\∃c o,c<2^s/\E 6=.int .u64 (c:Nat)/\Out H H' (E 5) 1 (o.map u32)/\o.length=q+i/\Li o /\
  o++shlGo s c (x.drop i)=List.replicate q 0++shlGo s 0 x) x.length ?_ ?_
 ·simp[lim];refine⟨0,Nat.two_pow_pos s,rfl,List.replicate q 0,⟨by simp,.inr ⟨H.length,List.replicate q (V.int IntKind.u32 0),by simp,by simp,by simp,by simp[u32],by simp⟩⟩,by simp,?_,rfl⟩;intro y hy;rw[(List.mem_replicate.1 hy).2];omega
 ·rintro i E H' hi ⟨h0,h1,h7,c,o,hc,h6,h5,ho,lo,ht⟩;simp only[lim]at h0;rcases Nat.lt_or_ge i x.length with hlt|hge
  ·have f1:IntKind.i64.wrap ((i:Int)+1)=((i+1:Nat):Int):=by rw[wrap_i64]<;>omega
   have lxi:x[i]<4294967296:=lx _ (List.getElem_mem hlt);have f3:IntKind.u64.wrap (x[i]:Int)=x[i]:=qaj _ (by omega);obtain⟨g1,g2⟩:=qz2 hs32 lxi hc;rw[List.drop_eq_getElem_cons hlt,shlGo]at ht;have⟨P,hP⟩:∃P,P=x[i]*2^s:=⟨_,rfl⟩
   have f4:qbf .shl .u64 (x[i]:Int) (s:Int)=some (.int .u64 (P:Int)):=by rw[shl64 _ _ (by omega) (by omega),hP]
   have f5:bitsI .or .u64 (P:Int) (c:Int)=some ((P+c:Nat):Int):=by rw[hP];exact qdw _ _ _ (by omega) hc (by omega)
   rw[<-hP]at g1 g2 ht;have⟨T,hT⟩:∃T,T=P+c:=⟨_,rfl⟩
   rw[<-hT]at f5 g1 g2 ht;have f6:bitsI .and .u64 (T:Int) 4294967295=some ((T%4294967296:Nat):Int):=qhz T (by omega);have f7:qbf .shr .u64 (T:Int) 32=some (.int .u64 ((T/4294967296:Nat):Int)):=shr64 T 32 (by omega);have⟨L,hL⟩:∃L,L=T%4294967296:=⟨_,rfl⟩
   have⟨C,hC⟩:∃C,C=T/4294967296:=⟨_,rfl⟩
   rw[<-hL]at f6 ht;rw[<-hC]at f7 ht g2;have f8:IntKind.u32.wrap (L:Int)=L:=qaw _ (by omega);obtain⟨v',H'',e',ho'⟩:=h5.one L (by omega);simp[qf4,h0,h1,h6,h7,hlt,u32,f1,s1,f3,f4,f5,f6,f7,f8,e7,e',lim];exact⟨C,g2,rfl,o++[L],ho',by simp;omega,lo.append (by intro y hy;simp at hy;omega),by simpa using ht⟩
  ·have hin:i=x.length:=by omega
   subst hin;have g1:2^s<=2^31:=Nat.pow_le_pow_right (by omega) (by omega);have f6:IntKind.u32.wrap (c:Int)=c:=qaw c (by omega);obtain⟨v',H'',e',ho'⟩:=h5.one c (by omega);simp[qf4,h0,h6,h7,f6,e'];obtain⟨H3,hp3,e3⟩:=ho'.prep (g:=qek) rfl;refine qam rfl rfl e3 (qqw (o++[c]) (by simp;omega)) ?_;have hv:natV (o++[c])=natV x*2^n:=by
    simp[shlGo]at ht;have:c%4294967296=c:=by omega
    rw[this]at ht;rw[ht,qb0,qrs,List.length_replicate,quh hs32 lx (Nat.two_pow_pos _),pow32,Nat.zero_add,Nat.add_zero,Nat.mul_left_comm,<-Nat.pow_add,hq,hs,Nat.div_add_mod]
   rw[qap (lo.append (by intro y hy;simp at hy;omega)),hv];simp[qb5 hp3,lim]
set_option maxHeartbeats 4000000
def dig (l:List Nat)(i:Nat):Nat:=(l[i]?).getD 0
theorem qcs {l:List Nat}(h:Li l)(i:Nat):dig l i<4294967296:=by
 unfold dig;cases hq:l[i]? with
 |none=>simp
 |some x=>exact h x (List.mem_of_getElem? hq)
theorem qa2 {l:List Nat}{i:Nat}(h:i<l.length):dig l i=l[i]:=by simp[dig,h]
theorem qmc {l:List Nat}{i:Nat}(h:l.length<=i):dig l i=0:=by simp[dig,h]
theorem qaq (l:List Nat)(i:Nat):natV (l.take (i+1))=natV (l.take i)+4294967296^i*dig l i:=by
 rcases Nat.lt_or_ge i l.length with h|h
 ·rw[List.take_add_one,List.getElem?_eq_getElem h,qa2 h,qb0,List.length_take,Nat.min_eq_left (by omega)];simp[natV]
 ·rw[List.take_of_length_le (by omega),List.take_of_length_le h,qmc h];simp
theorem qay {l:List Nat}{i:Nat}(h:l.length<=i):natV (l.take i)=natV l:=by rw[List.take_of_length_le h]
theorem qab9 {o a b:List Nat}{i c T:Nat}(ho:o.length=i)(h:natV o+4294967296^i*c=natV (a.take i)+natV (b.take i))(hT:T=c+dig a i+dig b i) :
 natV (o++[T%4294967296])+4294967296^(i+1)*(T/4294967296)=natV (a.take (i+1))+natV (b.take (i+1)):=by
 rw[qaq,qaq,qjv,ho,Nat.pow_succ,Nat.mul_assoc];have:4294967296^i*(T%4294967296)+4294967296^i*(4294967296*(T/4294967296))=4294967296^i*c+4294967296^i*dig a i+4294967296^i*dig b i:=by
  rw[<-Nat.mul_add,Nat.mod_add_div,hT,Nat.mul_add,Nat.mul_add]
 omega
theorem qajy (a b:List Nat)(ha:a.length<=1000000)(hb:b.length<=1000000)(la:Li a)(lb:Li b):CQ prog qxu [lim a,lim b] (lim (qae (natV a+natV b))):=by
 refine qaf rfl fun H=>?_
 simp[lim];refine WK_up (fun i E H'=>E 0=lim a/\E 1=lim b/\E 7=.int .i64 i/\∃c o,c<2/\E 6=.int .u64 (c:Nat)/\Out H H' (E 5) 1 (o.map u32)/\o.length=i/\Li o /\
  natV o+4294967296^i*c=natV (a.take i)+natV (b.take i)) (max a.length b.length) ?_ ?_
 ·simp[lim];exact⟨0,by omega,rfl,[],.nil,rfl,by intro x hx;simp at hx,by simp[natV]⟩
 ·rintro i E H' hi ⟨h0,h1,h7,c,o,hc,h6,h5,ho,lo,ht⟩;simp only[lim]at h0 h1;have⟨T,hT⟩:∃T,T=c+dig a i+dig b i:=⟨_,rfl⟩
  have da:=qcs la i;have db:=qcs lb i;have st:=qab9 ho ht hT;have⟨L,hL⟩:∃L,L=T%4294967296:=⟨_,rfl⟩
  have⟨C,hC⟩:∃C,C=T/4294967296:=⟨_,rfl⟩
  have f6:bitsI .and .u64 (T:Int) 4294967295=some ((T%4294967296:Nat):Int):=qhz T (by omega);have f7:qbf .shr .u64 (T:Int) 32=some (.int .u64 ((T/4294967296:Nat):Int)):=shr64 T 32 (by omega);rw[<-hL]at f6 st;rw[<-hC]at f7 st;have f8:IntKind.u32.wrap (L:Int)=L:=qaw _ (by omega);obtain⟨v',H'',e',ho'⟩:=h5.one L (by omega);have f1:IntKind.i64.wrap ((i:Int)+1)=((i+1:Nat):Int):=by rw[wrap_i64]<;>omega
  have go:i<max a.length b.length->∃c,c<2/\(C:Int)=(c:Nat)/\∃o,Out H H'' v' 1 (List.map u32 o)/\o.length=i+1/\Li o/\natV o+4294967296^(i+1)*c=natV (a.take (i+1))+natV (b.take (i+1)):=
   fun _=>⟨C,by omega,rfl,o++[L],ho',by simp;omega,lo.append (by intro y hy;simp at hy;omega),st⟩
  rcases Nat.lt_or_ge i a.length with h2|h2<;>rcases Nat.lt_or_ge i b.length with h3|h3
  ·have t1:IntKind.u64.wrap (a[i]:Int)=a[i]:=qaj _ (by rw[qa2 h2]at da;omega);have t2:IntKind.u64.wrap (b[i]:Int)=b[i]:=qaj _ (by rw[qa2 h3]at db;omega);have t3:IntKind.u64.wrap ((c:Int)+a[i])=(c:Int)+a[i]:=by rw[qa2 h2]at da;rw[qbe]<;>omega
   have t4:IntKind.u64.wrap ((c:Int)+a[i]+b[i])=T:=by rw[hT,qa2 h2,qa2 h3];rw[qa2 h2]at da;rw[qa2 h3]at db;rw[qbe]<;>omega
   simp[qct,h0,h1,h6,h7,h2,h3,u32,t1,t2,t3,t4,f1,f6,f7,f8,e',lim];exact⟨by omega,go (by omega)⟩
  ·have t1:IntKind.u64.wrap (a[i]:Int)=a[i]:=qaj _ (by rw[qa2 h2]at da;omega);have t3:IntKind.u64.wrap ((c:Int)+a[i])=T:=by rw[hT,qa2 h2,qmc h3];rw[qa2 h2]at da;rw[qbe]<;>omega
   have h3':¬i<b.length:=by omega
   simp[qct,h0,h1,h6,h7,h2,h3',u32,t1,t3,f1,f6,f7,f8,e',lim];exact⟨by omega,go (by omega)⟩
  ·have t2:IntKind.u64.wrap (b[i]:Int)=b[i]:=qaj _ (by rw[qa2 h3]at db;omega);have t4:IntKind.u64.wrap ((c:Int)+b[i])=T:=by rw[hT,qmc h2,qa2 h3];rw[qa2 h3]at db;rw[qbe]<;>omega
   have h2':¬i<a.length:=by omega
   simp[qct,h0,h1,h6,h7,h2',h3,u32,t2,t4,f1,f6,f7,f8,e',lim];exact⟨by omega,go (by omega)⟩
  ·have h2':¬i<a.length:=by omega
   have h3':¬i<b.length:=by omega
   have k6:IntKind.u32.wrap (c:Int)=c:=qaw c (by omega);obtain⟨v',H'',e',ho'⟩:=h5.one c (by omega);simp[qct,h0,h1,h6,h7,h2',h3',k6,e'];obtain⟨H3,hp3,e3⟩:=ho'.prep (g:=qek) rfl;refine qam rfl rfl e3 (qqw (o++[c]) (by simp;omega)) ?_;rw[qap (lo.append (by intro y hy;simp at hy;omega)),qjv,ho,ht,qay h2,qay h3];simp[qb5 hp3,lim]
theorem q9o {o a b:List Nat}{i c T:Nat}(ho:o.length=i)(h:natV o+natV (b.take i)=natV (a.take i)+4294967296^i*c)(hc:c<2)(da:dig a i<4294967296)(db:dig b i<4294967296)(hT:T+(c+dig b i)=dig a i+4294967296) :
 natV (o++[T%4294967296])+natV (b.take (i+1))=natV (a.take (i+1))+4294967296^(i+1)*(1-T/4294967296)/\T/4294967296<=1:=by
 have hT2:T/4294967296<=1:=by omega
 refine⟨?_,hT2⟩;rw[qaq,qaq,qjv,ho,Nat.pow_succ,Nat.mul_assoc];have:4294967296^i*(T%4294967296)+4294967296^i*(c+dig b i)=4294967296^i*dig a i+4294967296^i*(4294967296*(1-T/4294967296)):=by
  rw[<-Nat.mul_add,<-Nat.mul_add]
  congr 1;omega
 rw[Nat.mul_add]at this;omega
theorem q7s (a b:List Nat)(ha:a.length<=1000000)(hb:b.length<=a.length)(la:Li a)(lb:Li b)(hle:natV b<=natV a):CQ prog qvx [lim a,lim b] (lim (qae (natV a-natV b))):=by
 refine qaf rfl fun H=>?_
 simp[lim];refine WK_up (fun i E H'=>E 0=lim a/\E 1=lim b/\E 7=.int .i64 i/\∃c o,c<2/\E 6=.int .u64 (c:Nat)/\Out H H' (E 5) 1 (o.map u32)/\o.length=i/\Li o /\
  natV o+natV (b.take i)=natV (a.take i)+4294967296^i*c) a.length ?_ ?_
 ·simp[lim];exact⟨0,by omega,rfl,[],.nil,rfl,by intro x hx;simp at hx,by simp[natV]⟩
 ·rintro i E H' hi ⟨h0,h1,h7,c,o,hc,h6,h5,ho,lo,ht⟩;simp only[lim]at h0 h1;rcases Nat.lt_or_ge i a.length with h2|h2
  ·have da:=qcs la i;have db:=qcs lb i;have⟨T,hT⟩:∃T,T=dig a i+4294967296-(c+dig b i):=⟨_,rfl⟩
   have hT':T+(c+dig b i)=dig a i+4294967296:=by omega
   obtain⟨st,hC1⟩:=q9o ho ht hc da db hT';have⟨L,hL⟩:∃L,L=T%4294967296:=⟨_,rfl⟩
   have⟨C,hC⟩:∃C,C=T/4294967296:=⟨_,rfl⟩
   have f6:bitsI .and .u64 (T:Int) 4294967295=some ((T%4294967296:Nat):Int):=qhz T (by omega);have f7:qbf .shr .u64 (T:Int) 32=some (.int .u64 ((T/4294967296:Nat):Int)):=shr64 T 32 (by omega);rw[<-hL]at f6 st;rw[<-hC]at f7 st hC1;have f8:IntKind.u32.wrap (L:Int)=L:=qaw _ (by omega);have f9:IntKind.u64.wrap (1-(C:Int))=((1-C:Nat):Int):=by rw[qbe]<;>omega
   have⟨D,hD⟩:∃D,D=1-C:=⟨_,rfl⟩
   rw[<-hD]at f9 st;obtain⟨v',H'',e',ho'⟩:=h5.one L (by omega);have f1:IntKind.i64.wrap ((i:Int)+1)=((i+1:Nat):Int):=by rw[wrap_i64]<;>omega
   have go:∃c,c<2/\(D:Int)=(c:Nat)/\∃o,Out H H'' v' 1 (List.map u32 o)/\o.length=i+1/\Li o/\natV o+natV (b.take (i+1))=natV (a.take (i+1))+4294967296^(i+1)*c:=
    ⟨D,by omega,rfl,o++[L],ho',by simp;omega,lo.append (by intro y hy;simp at hy;omega),st⟩
   rw[qa2 h2]at da hT';have t1:IntKind.u64.wrap (a[i]:Int)=a[i]:=qaj _ (by omega);have t2:IntKind.u64.wrap ((a[i]:Int)+4294967296)=(a[i]:Int)+4294967296:=by rw[qbe]<;>omega
   rcases Nat.lt_or_ge i b.length with h3|h3
   ·rw[qa2 h3]at db hT';have t3:IntKind.u64.wrap (b[i]:Int)=b[i]:=qaj _ (by omega);have t4:IntKind.u64.wrap ((c:Int)+b[i])=(c:Int)+b[i]:=by rw[qbe]<;>omega
    have t5:IntKind.u64.wrap ((a[i]:Int)+4294967296-((c:Int)+b[i]))=T:=by rw[qbe]<;>omega
    simp[qdl,h0,h1,h6,h7,h2,h3,u32,t1,t2,t3,t4,t5,f1,f6,f7,f8,f9,e',lim];exact go
   ·rw[qmc h3]at db hT';have h3':¬i<b.length:=by omega
    have t5:IntKind.u64.wrap ((a[i]:Int)+4294967296-(c:Int))=T:=by rw[qbe]<;>omega
    simp[qdl,h0,h1,h6,h7,h2,h3',u32,t1,t2,t5,f1,f6,f7,f8,f9,e',lim];exact go
  ·have h2':¬i<a.length:=by omega
   have hin:i=a.length:=by omega
   simp[qdl,h0,h7,h2'];obtain⟨H3,hp3,e3⟩:=h5.prep (g:=qek) rfl;refine qam rfl rfl e3 (qqw o (by omega)) ?_;have hlt:=qao lo;rw[qay h2,qay (l:=b) (by omega)]at ht;rw[ho]at hlt;have hv:natV o=natV a-natV b:=by
    rcases Nat.eq_zero_or_pos c with h0|h0
    ·subst h0;omega
    ·have:c=1:=by omega
     subst this;omega
   rw[qap lo,hv];simp[qb5 hp3,lim]
end Go.Abs.W
namespace Go.Abs.W
set_option maxHeartbeats 4000000
def tzF : Nat->Nat->Nat
 |0,_=>0
 |f+1,n=>if n%2=1 then 0 else tzF f (n/2)+1
def tz (n:Nat):Nat:=tzF (Nat.log2 n) n
theorem qyd {n:Nat}(h:n%2=1):tz n=0:=by
 unfold tz;cases Nat.log2 n<;>simp[tzF,h]
theorem q4w {n:Nat}(h0:n≠0)(h:n%2=0):tz n=tz (n/2)+1:=by
 have e:Nat.log2 n=Nat.log2 (n/2)+1:=by rw[Nat.log2_def,if_pos (by omega)]
 unfold tz;rw[e,tzF,if_neg (by omega)]
theorem qpl {n:Nat}(h0:n≠0):n/2^tz n%2=1/\(∀i,i<tz n->n/2^i%2=0)/\n%2^tz n=0:=by
 induction n using Nat.strongRecOn with
 |_ n ih=>
  by_cases h:n%2=1
  ·rw[qyd h];simp[h,Nat.mod_one]
  ·have h1:n%2=0:=by omega
   obtain⟨i1,i2,i3⟩:=ih (n/2) (by omega) (by omega);rw[q4w h0 h1];have e:∀k,n/2^(k+1)=n/2/2^k:=by intro k;rw[Nat.pow_succ,Nat.mul_comm,Nat.div_div_eq_div_mul]
   refine⟨by rw[e];exact i1,?_,?_⟩
   ·intro i hi;cases i with
    |zero=>simpa using h1
    |succ i=>rw[e];exact i2 i (by omega)
   ·rw[Nat.pow_succ,Nat.mul_comm,Nat.mod_mul,i3,h1]
theorem tz_le {n:Nat}(h0:n≠0):2^tz n<=n:=by
 obtain⟨h1,_,h3⟩:=qpl h0;rcases Nat.lt_or_ge n (2^tz n)with h|h
 ·rw[Nat.div_eq_of_lt h]at h1;simp at h1
 ·exact h
theorem qbg (l:List Nat)(i:Nat):natV (l.drop i)=dig l i+4294967296*natV (l.drop (i+1)):=by
 rcases Nat.lt_or_ge i l.length with h|h
 ·rw[List.drop_eq_getElem_cons h,qa2 h];rfl
 ·rw[List.drop_of_length_le h,List.drop_of_length_le (by omega),qmc h];rfl
theorem qdz (l:List Nat)(i:Nat):natV l=natV (l.take i)+4294967296^i*natV (l.drop i):=by
 rcases Nat.lt_or_ge i l.length with h|h
 ·have:=qb0 (l.take i) (l.drop i);rw[List.take_append_drop,List.length_take,Nat.min_eq_left (by omega)]at this;exact this
 ·rw[List.drop_of_length_le h,List.take_of_length_le h];simp[natV]
theorem qjw {l:List Nat}(hl:Li l)(i:Nat):natV l/4294967296^i=natV (l.drop i):=by
 have h1:=qao (hl.take i);have h2:4294967296^(l.take i).length<=4294967296^i:=Nat.pow_le_pow_right (by omega) (by simp;omega);rw[qdz l i,Nat.add_mul_div_left _ _ (Nat.pow_pos (by omega)),Nat.div_eq_of_lt (by omega),Nat.zero_add]
theorem qaoc {l:List Nat}(hl:Li l)(n:Nat):natV l/2^n%2=dig l (n/32)/2^(n%32)%2:=by
 have⟨q,hq⟩:∃q,q=n/32:=⟨_,rfl⟩
 have⟨s,hs⟩:∃s,s=n%32:=⟨_,rfl⟩
 have e:2^n=4294967296^q*2^s:=by rw[pow32,<-Nat.pow_add,hq,hs,Nat.div_add_mod]
 rw[<-hq,<-hs,e,<-Nat.div_div_eq_div_mul,qjw hl,qbg];have e2:4294967296=2^s*(2^(31-s)*2):=by rw[<-Nat.pow_succ,<-Nat.pow_add,show s+(31-s+1)=32 by omega]
 rw[e2,Nat.mul_assoc,Nat.add_mul_div_left _ _ (Nat.two_pow_pos s),Nat.mul_comm (2^(31-s)) 2,Nat.mul_assoc,Nat.add_mul_mod_self_left]
theorem qafl (m:List Nat)(hm:m.length<=1000000)(lm:Li m)(h0:natV m≠0):CQ prog qvv [lim m] (.int .i64 (tz (natV m))):=by
 refine qaf rfl fun H=>?_
 obtain⟨b1,b2,b3⟩:=qpl h0;have hlen:∀i,i<=tz (natV m)->i/32<m.length:=by
  intro i hi;have h1:=tz_le h0;have h2:=qao lm;rw[pow32]at h2;have h3:2^tz (natV m)<2^(32*m.length):=by omega
  have:=(Nat.pow_lt_pow_iff_right (by omega)).1 h3;omega
 simp[lim];refine WK_up (fun i E H'=>H'=H/\E 0=lim m/\E 3=.int .i64 i) (tz (natV m)) ?_ ?_
 ·simp[lim]
 ·rintro i E H' hi ⟨rfl,h0,h3⟩;simp only[lim]at h0;have hq:=hlen i hi;have hlast:=hlen _ (Nat.le_refl _);have hb:=qaoc lm i;rw[qa2 hq]at hb;have lq:m[i/32]<4294967296:=lm _ (List.getElem_mem hq);have⟨q,hq'⟩:∃q,q=i/32:=⟨_,rfl⟩
  have⟨s,hs⟩:∃s,s=i%32:=⟨_,rfl⟩
  have q1:(i:Int)/32=q:=by omega
  have s1:(i:Int).tmod 32=s:=by rw[Int.tmod_eq_emod_of_nonneg (by omega)];omega
  have e1:IntKind.i64.wrap (q:Int)=q:=by rw[wrap_i64]<;>omega
  have e2:IntKind.u64.wrap (s:Int)=s:=qaj _ (by omega);simp only[<-hq',<-hs]at hb hq lq;have f1:qbf .shr .u32 (m[q]:Int) (s:Int)=some (.int .u32 ((m[q]/2^s:Nat):Int)):=shr32 _ _ (by omega);have⟨y,hy⟩:∃y,y=m[q]/2^s:=⟨_,rfl⟩
  have hy2:y<2^32:=by rw[hy];exact Nat.lt_of_le_of_lt (Nat.div_le_self _ _) lq
  rw[<-hy]at f1 hb;have f2:=qwu y hy2;have⟨z,hz⟩:∃z,z=y%2:=⟨_,rfl⟩
  rw[<-hz]at f2 hb;have f3:IntKind.i64.wrap ((i:Int)+1)=((i+1:Nat):Int):=by rw[wrap_i64]<;>omega
  rcases Nat.lt_or_ge i (tz (natV m))with hlt|hge
  ·have:z=0:=by rw[<-hb];exact b2 i hlt
   subst this;simp[qfo,h0,h3,q1,s1,e1,e2,hq,u32,f1,f2,f3,hlt,lim]
  ·have hin:i=tz (natV m):=by omega
   have:z=1:=by rw[<-hb,hin];exact b1
   subst this;simp[qfo,h0,h3,q1,s1,e1,e2,hq,u32,f1,f2,<-hin]
theorem q9i {M i s:Nat}(o:List Nat)(ho:o.length=i)(h:natV o=M/2^s%4294967296^i):natV (o++[M/2^s/4294967296^i%4294967296])=M/2^s%4294967296^(i+1):=by
 rw[qjv,ho,h,Nat.pow_succ,Nat.mod_mul]
theorem qyk {l:List Nat}(hl:Li l)(i s:Nat)(hs:s<32):natV l/2^s/4294967296^i%4294967296=(dig l i+4294967296*dig l (i+1))/2^s%4294967296:=by
 rw[Nat.div_div_eq_div_mul,Nat.mul_comm,<-Nat.div_div_eq_div_mul,qjw hl,qbg,qbg l (i+1),Nat.mul_add,<-Nat.add_assoc,<-Nat.mul_assoc];have e2:4294967296*4294967296=2^s*(2^(32-s)*4294967296):=by
  rw[<-Nat.mul_assoc,<-Nat.pow_add,show s+(32-s)=32 by omega]
 rw[e2,Nat.mul_assoc,Nat.add_mul_div_left _ _ (Nat.two_pow_pos s),Nat.mul_comm (2^(32-s)) 4294967296,Nat.mul_assoc,Nat.add_mul_mod_self_left]
theorem qy2 (l:List Nat):qe2 1 (l.map u32)=true:=by
 cases l with
 |nil=>rfl
 |cons x l=>simp[qe2]
theorem qagi (m:List Nat)(n:Nat)(hm:m.length<=1000000)(lm:Li m)(hn:n<=100000000):CQ prog qvw [lim m,.int .i64 n] (lim (qae (natV m/2^n))):=by
 refine qaf rfl fun H=>?_
 have⟨q,hq'⟩:∃q,q=n/32:=⟨_,rfl⟩
 have⟨s,hs⟩:∃s,s=n%32:=⟨_,rfl⟩
 have q1:(n:Int)/32=q:=by omega
 have s1:(n:Int).tmod 32=s:=by rw[Int.tmod_eq_emod_of_nonneg (by omega)];omega
 have hs32:s<32:=by omega
 have e1:IntKind.i64.wrap (q:Int)=q:=by rw[wrap_i64]<;>omega
 have e2:IntKind.u64.wrap (s:Int)=s:=qaj _ (by omega);have e:natV m/2^n=natV (m.drop q)/2^s:=by
  rw[show n=32*q+s by omega,Nat.pow_add,<-pow32,<-Nat.div_div_eq_div_mul,qjw lm]
 rw[e];rcases Nat.lt_or_ge q m.length with hlt|hge
 ·have h1:¬((m.length:Int)<=q):=by omega
  have⟨x,hx⟩:∃x,x=m.drop q:=⟨_,rfl⟩
  have lx:Li x:=by rw[hx];exact lm.drop _
  have hx2:List.drop q (List.map u32 m)=List.map u32 x:=by rw[hx,List.map_drop]
  have hxl:x.length<=1000000:=by rw[hx];simp;omega
  rw[<-hx];have hho:=qy2 x;rw[<-hx2]at hho;simp only[qe2]at hho;have hq2:q<=m.length:=by omega
  have ht:List.take m.length (List.map u32 m)=List.map u32 m:=List.take_of_length_le (by simp);simp[lim,q1,e1,h1,hq2,ht];rw[if_pos (.inr hho),hx2];simp;refine WK_up (fun i E H'=>E 0=lim x/\E 1=.int .i64 n/\E 6=.int .i64 i/\∃o,Out H H' (E 5) 1 (o.map u32)/\o.length=i/\Li o/\natV o=natV x/2^s%4294967296^i) x.length ?_ ?_
  ·simp[lim];exact⟨[],.nil,rfl,by intro x hx;simp at hx,by simp[natV,Nat.mod_one]⟩
  ·rintro i E H' hi ⟨g0,g1,g6,o,g5,ho,lo,hv⟩;simp only[lim]at g0;rcases Nat.lt_or_ge i x.length with h2|h2
   ·have f1:IntKind.i64.wrap ((i:Int)+1)=((i+1:Nat):Int):=by rw[wrap_i64]<;>omega
    have f1':IntKind.i64.wrap ((i:Int)+1)=(i:Int)+1:=by rw[wrap_i64]<;>omega
    have f0:(0:Int)<=(i:Int)+1:=by omega
    have da:=qcs lx i;have db:=qcs lx (i+1);have st:=q9i (M:=natV x) (s:=s) o ho hv;rw[qyk lx i s hs32]at st;have⟨T,hT⟩:∃T,T=dig x i+4294967296*dig x (i+1):=⟨_,rfl⟩
    have hT2:T<2^64:=by omega
    have f4:qbf .shr .u64 (T:Int) (s:Int)=some (.int .u64 ((T/2^s:Nat):Int)):=shr64 T s (by omega);rw[<-hT]at st;have⟨Y,hY⟩:∃Y,Y=T/2^s:=⟨_,rfl⟩
    have hY2:Y<2^64:=by rw[hY];exact Nat.lt_of_le_of_lt (Nat.div_le_self _ _) hT2
    rw[<-hY]at f4 st;have f5:=qhz Y hY2;have⟨L,hL⟩:∃L,L=Y%4294967296:=⟨_,rfl⟩
    rw[<-hL]at f5 st;have f6:IntKind.u32.wrap (L:Int)=L:=qaw _ (by omega);obtain⟨v',H'',e',ho'⟩:=g5.one L (by omega);have go:∃o,Out H H'' v' 1 (List.map u32 o)/\o.length=i+1/\Li o/\natV o=natV x/2^s%4294967296^(i+1):=
     ⟨o++[L],ho',by simp;omega,lo.append (by intro y hy;simp at hy;omega),st⟩
    rw[qa2 h2]at da hT;have t1:IntKind.u64.wrap (x[i]:Int)=x[i]:=qaj _ (by omega);rcases Nat.lt_or_ge (i+1) x.length with h3|h3
    ·rw[qa2 h3]at db hT;have t2:IntKind.u64.wrap (x[i+1]:Int)=x[i+1]:=qaj _ (by omega);have h3':(i:Int)+1<x.length:=by omega
     have t3:qbf .shl .u64 (x[i+1]:Int) 32=some (.int .u64 ((x[i+1]*2^32:Nat):Int)):=shl64 _ 32 (by omega) (by omega);have t4:bitsI .or .u64 (x[i]:Int) ((x[i+1]*2^32:Nat):Int)=some (T:Int):=by
      have:=qdw x[i+1] 32 x[i] (by omega) (by omega) (by omega);rw[qsg _ _ (by omega) (by omega)]at this ⊢;rw[Nat.or_comm,this,hT]
      congr 2;omega
     have⟨P,hP⟩:∃P,P=x[i+1]*2^32:=⟨_,rfl⟩
     rw[<-hP]at t3 t4;simp[qdk,g0,g1,g6,h2,h3,h3',u32,t1,t2,t3,t4,s1,e2,f0,f1',f4,f5,f6,e',lim];exact go
    ·rw[qmc h3]at hT;have hT':x[i]=T:=by omega
     have h3':¬(i:Int)+1<x.length:=by omega
     rw[hT']at t1;simp[qdk,g0,g1,g6,h2,h3',u32,hT',t1,s1,e2,f1',f4,f5,f6,e',lim];exact go
   ·have h2':¬i<x.length:=by omega
    simp[qdk,g0,g6,h2'];obtain⟨H3,hp3,e3⟩:=g5.prep (g:=qek) rfl;refine qam rfl rfl e3 (qqw o (by omega)) ?_;have hv2:natV o=natV x/2^s:=by
     have:=qao lx;rw[hv,Nat.mod_eq_of_lt];rw[show i=x.length by omega];exact Nat.lt_of_le_of_lt (Nat.div_le_self _ _) this
    rw[qap lo,hv2];simp[qb5 hp3,lim]
 ·have h1:((m.length:Int)<=q):=by omega
  rw[List.drop_of_length_le hge];simp[lim,q1,e1,h1,natV,qa4]
end Go.Abs.W
namespace Go.Abs.W
set_option maxHeartbeats 4000000
def Dy.of (neg:Bool)(n:Nat)(e:Int):Dy:=if n=0 then⟨false,[],0⟩else⟨neg,qae (n/2^tz n),e+tz n⟩
theorem qyx {m:List Nat}(lm:Li m)(h:natV m≠0):tz (natV m)<32*m.length:=by
 have h1:=tz_le h;have h2:=qao lm;rw[pow32]at h2;exact(Nat.pow_lt_pow_iff_right (by omega:1<2)).1 (Nat.lt_of_le_of_lt h1 h2)
theorem Of_cq (neg:Bool)(m:List Nat)(e:Int)(hm:m.length<=100000)(lm:Li m)(he1:-1000000<=e)(he2:e<=1000000):CQ prog q3d [.bool neg,lim m,.int .i64 e] (Dy.of neg (natV m) e).v:=by
 refine qaf rfl fun H=>?_
 simp;refine qaa rfl rfl rfl (qqw m (by omega)) ?_;rw[qap lm];by_cases h0:natV m=0
 ·simp[h0,qa4,lim,Dy.of]
 ·have⟨x,hx⟩:∃x,x=qae (natV m):=⟨_,rfl⟩
  have hxv:natV x=natV m:=by rw[hx,qac]
  have lx:Li x:=by rw[hx];exact qag _
  have hxl:x.length<=m.length:=by rw[hx];exact limbsOf_len.2 (qao lm)
  have hne:x≠[]:=by rw[hx];exact qda h0
  have hl:¬(x.length:Int)=0:=by
   intro h;exact hne (List.eq_nil_of_length_eq_zero (by omega))
  have hb:=qyx lx (by rw[hxv];exact h0);have f1:IntKind.i64.wrap (e+(tz (natV m):Int))=e+tz (natV m):=by rw[hxv]at hb;rw[wrap_i64]<;>omega
  rw[<-hx];simp[lim,hne];refine qaa rfl rfl rfl (qafl x (by omega) lx (by rw[hxv];exact h0)) ?_;simp;refine qaa rfl rfl rfl (qagi x (tz (natV x)) (by omega) lx (by omega)) ?_;rw[hxv];simp[f1,Dy.of,h0,lim]
def Dy.neg' (d:Dy):Dy:=⟨!d.neg&&decide (d.m≠[]),d.m,d.e⟩
theorem qaoz (d:Dy):CQ prog q01 [d.v] d.neg'.v:=by
 refine qaf rfl fun H=>?_
 simp[lim,Dy.neg'];all_goals first|done|grind
theorem q1s (d:Dy):CQ prog qxw [d.v] (.int .i64 d.sgn):=by
 refine qaf rfl fun H=>?_
 simp[lim,Dy.sgn];grind
def sumX (d:Dy)(e:Int):Nat:=natV d.m*2^(d.e-e).toNat
def Dy.sum (a b:Dy):Dy:=
 if a.m=[]then b else if b.m=[]then a else
 let e:=min a.e b.e
 if a.neg=b.neg then Dy.of a.neg (sumX a e+sumX b e) e
 else if sumX b e<=sumX a e then Dy.of a.neg (sumX a e-sumX b e) e else Dy.of b.neg (sumX b e-sumX a e) e
theorem q20 {d:Dy}(h:d.m.length<=600){k:Nat}(hk:k<=100000)(li:Li d.m):(qae (natV d.m*2^k)).length<=4000:=by
 have h1:=qao li;rw[pow32]at h1;refine qe1 (B:=32*d.m.length+k) ?_ (by omega);rw[Nat.pow_add];exact Nat.mul_lt_mul_of_pos_right h1 (Nat.two_pow_pos k)
structure Dy.M (d:Dy):Prop where
 li:Li d.m
 len:d.m.length<=600
 lo:-20000<=d.e
 hi:d.e<=20000
theorem Dy.Ok.toM {d:Dy}(h:d.Ok):d.M:=⟨h.li,by have:=h.len;omega,by have:=h.elo;omega,by have:=h.ehi;omega⟩
theorem qaov (a b:Dy)(ma:a.M)(mb:b.M):CQ prog q00 [a.v,b.v] (a.sum b).v:=by
 refine qaf rfl fun H=>?_
 by_cases na:a.m=[]
 ·simp[lim,na,Dy.sum]
 by_cases nb:b.m=[]
 ·have h1:¬(a.m.length:Int)=0:=by intro h;exact na (List.eq_nil_of_length_eq_zero (by omega))
  simp[lim,na,nb,Dy.sum]
 have h1:¬(a.m.length:Int)=0:=by intro h;exact na (List.eq_nil_of_length_eq_zero (by omega))
 have h2:¬(b.m.length:Int)=0:=by intro h;exact nb (List.eq_nil_of_length_eq_zero (by omega))
 have h3:=ma.lo;have h4:=ma.hi;have h5:=mb.lo;have h6:=mb.hi;have⟨e,he⟩:∃e,e=min a.e b.e:=⟨_,rfl⟩
 have he':(if b.e<a.e then b.e else a.e)=e:=by rw[he];split<;>omega
 have⟨i,hi⟩:∃i,i=(a.e-e).toNat:=⟨_,rfl⟩
 have⟨j,hj⟩:∃j,j=(b.e-e).toNat:=⟨_,rfl⟩
 have f1:IntKind.i64.wrap (a.e-e)=i:=by rw[wrap_i64]<;>omega
 have f2:IntKind.i64.wrap (b.e-e)=j:=by rw[wrap_i64]<;>omega
 have hX:sumX a e=natV a.m*2^i:=by rw[sumX,<-hi]
 have hY:sumX b e=natV b.m*2^j:=by rw[sumX,<-hj]
 unfold Dy.sum;rw[if_neg na,if_neg nb];simp only[<-he,hX,hY];have lX:=q20 (d:=a) ma.len (k:=i) (by omega) ma.li;have lY:=q20 (d:=b) mb.len (k:=j) (by omega) mb.li;simp[lim,na,nb,he',f1];refine qaa rfl rfl rfl (qacx a.m i (by have:=ma.len;omega) ma.li (by omega)) ?_;simp[f2];refine qaa rfl rfl rfl (qacx b.m j (by have:=mb.len;omega) mb.li (by omega)) ?_;generalize natV a.m*2^i=X at *
 generalize natV b.m*2^j=Y at *
 simp;refine⟨fun hs=>?_,fun hs=>?_⟩
 ·refine qaa rfl rfl rfl (qajy (qae X) (qae Y) (by omega) (by omega) (qag _) (qag _)) ?_;simp[qac];refine qaa rfl rfl rfl (Of_cq a.neg (qae (X+Y)) e ?_ (qag _) (by omega) (by omega)) ?_
  ·have:=q21 lX lY;omega
  ·simp[hs,qac,lim]
 ·refine qaa rfl rfl rfl (qur (qae X) (qae Y) (by omega) (qag _) (qag _) (.inr ⟨qe0 _,qe0 _⟩)) ?_;simp[qac,hs];have hc:(0:Int)<=cmpN X Y↔Y<=X:=by unfold cmpN;split<;>(try split)<;>omega
  refine⟨fun h=>?_,fun h=>?_⟩
  ·have h':Y<=X:=hc.1 h;have hlen:(qae Y).length<=(qae X).length:=by
    refine limbsOf_len.2 (Nat.lt_of_le_of_lt h' ?_);have:=qao (qag X);rwa[qac]at this
   refine qaa rfl rfl rfl (q7s (qae X) (qae Y) (by omega) hlen (qag _) (qag _) (by rw[qac,qac];exact h')) ?_;simp[qac];refine qaa rfl rfl rfl (Of_cq a.neg (qae (X-Y)) e ?_ (qag _) (by omega) (by omega)) ?_
   ·have:(qae (X-Y)).length<=4000:=qbw (Nat.sub_le X Y) lX;omega
   ·simp[qac,h',lim]
  ·have h':¬Y<=X:=fun h'=>by have:=hc.2 h';omega
   have hlen:(qae X).length<=(qae Y).length:=by
    have:=qao (qag Y);rw[qac]at this;exact limbsOf_len.2 (by omega)
   refine qaa rfl rfl rfl (q7s (qae Y) (qae X) (by omega) hlen (qag _) (qag _) (by rw[qac,qac];omega)) ?_;simp[qac];refine qaa rfl rfl rfl (Of_cq b.neg (qae (Y-X)) e ?_ (qag _) (by omega) (by omega)) ?_
   ·have:(qae (Y-X)).length<=4000:=qbw (Nat.sub_le Y X) lY;omega
   ·simp[qac,h',lim]
end Go.Abs.W
namespace Go.Abs.W
set_option maxHeartbeats 4000000
theorem qyl (m:List Nat)(hm:m.length<=1000000)(lm:Li m)(tm:Trim m):CQ prog qka [lim m] (.int .i64 (bitL (natV m))):=by
 rcases qyf m with rfl|⟨l,t,rfl⟩
 ·exact qabu
 ·have:=qagj l t (by simp at hm;omega) (lm t (by simp));rwa[<-q8r (fun y hy=>lm y (by simp[hy])) (tm t (by simp))]at this
theorem qt9 (d:Dy)(h:d.G)(m:d.M):CQ prog q0z [d.v] (.int .i64 d.top):=by
 refine qaf rfl fun H=>?_
 by_cases hm:d.m=[]
 ·simp[lim,hm,Dy.top]
 ·have h1:¬(d.m.length:Int)=0:=by intro h;exact hm (List.eq_nil_of_length_eq_zero (by omega))
  have h2:=m.len;have h3:=m.lo;have h4:=m.hi;have h5:bitL (natV d.m)<=32*d.m.length:=by
   have hl:=qao h.li;rw[pow32]at hl;rcases Nat.lt_or_ge (32*d.m.length) (bitL (natV d.m))with h6|h6
   ·exfalso;by_cases h0:natV d.m=0
    ·rw[h0]at h6;have z:bitL 0=0:=rfl;omega
    ·have hp:=(qa0 h0).1;have:=Nat.pow_le_pow_right (n:=2) (by omega) (show 32*d.m.length<=bitL (natV d.m)-1 by omega);omega
   ·exact h6
  have e1:IntKind.i64.wrap ((bitL (natV d.m):Int)+d.e)=bitL (natV d.m)+d.e:=by rw[wrap_i64]<;>omega
  simp[lim,hm];refine qaa rfl rfl rfl (qyl d.m (by omega) h.li h.tr) ?_;simp[Dy.top,hm,e1]
theorem qlt (d:Dy)(w:d.W):CQ prog qvy [d.v] (.bool d.valid):=by
 refine qaf rfl fun H=>?_
 rcases d with ⟨neg,m,e⟩;have la:=w.li;have ha:=w.len;simp only at la ha;rcases m with _|⟨x,l⟩
 ·simp[lim,Dy.valid];grind
 ·have hx:x<4294967296:=la x (by simp);have e1:((l.length:Int)+1≠0):=by omega
  have e2:=qwu x hx;have⟨y,hy⟩:∃y,y=x%2:=⟨_,rfl⟩
  have⟨t,ht⟩:∃t,t=(x :: l).getLast (by simp):=⟨_,rfl⟩
  simp at ha;have e3:IntKind.i64.wrap (l.length:Int)=l.length:=by rw[wrap_i64]<;>omega
  have e4:(x :: l)[l.length]?=some t:=by rw[ht,List.getLast_eq_getElem];simp
  have e7:((V.int IntKind.u32 (x:Int)) :: List.map u32 l)[l.length]'(by simp)=.int .u32 t:=by
   have:=congrArg (Option.map u32) e4;rw[<-List.getElem?_map]at this;have e5:((V.int IntKind.u32 (x:Int)) :: List.map u32 l)[l.length]?=some (.int .u32 t):=this;rw[List.getElem?_eq_getElem (by simp)]at e5;injection e5
  rw[<-hy]at e2;have hv:Dy.valid ⟨neg,x :: l,e⟩=(decide (l.length+1<=256)&&decide (y=1)&&decide (t≠0)&&Dy.inR ⟨neg,x :: l,e⟩):=by
   simp[Dy.valid,hy,ht]
  rw[hv];have hy1:y=0\/y=1:=by omega
  by_cases h256:256<l.length+1
  ·have h256':(256:Int)<(l.length:Int)+1:=by omega
   have h256'':¬l.length+1<=256:=by omega
   have h3:¬l.length<=255:=by omega
   simp[lim,u32,e1,h256',h256'']
  by_cases ht0:t=0
  ·subst ht0;simp[lim,u32,e1,e3,e7]
  ·have ht0':¬(t:Int)=0:=by omega
   have tr:Trim (x :: l):=by
    intro z hz;rw[List.getLast?_eq_some_getLast (by simp)]at hz;injection hz with hz
    rw[<-hz,<-ht];exact ht0
   have hb0:bitL (natV (x :: l))≠0:=by
    have:=(qa0 (qcq tr (by simp))).2.2;omega
   simp[lim,u32,e1,e2,e3,e7,ht0];have hin:Dy.inR ⟨neg,x :: l,e⟩=(decide (bitL (natV (x :: l))<=4096)&&decide (-16384<=e)&&decide (e<=16384)&&decide (bitL (natV (x :: l))+e<=16384)):=by
    simp[Dy.inR,hb0]
   rw[hin];have e8:bitL (natV (x :: l))<=4096->-16384<=e->e<=16384->IntKind.i64.wrap ((bitL (natV (x :: l)):Int)+e)=bitL (natV (x :: l))+e:=by intros;rw[wrap_i64]<;>omega
   have hr:=qyl (x :: l) (by simp;omega) la tr;generalize bitL (natV (x :: l))=B at *
   repeat' first
    | (refine zq hr ?_;simp)
    |refine And.intro ?_ ?_
    |intro _
   all_goals first| (simp[*];done)|grind
theorem qacc {neg:Bool}{n:Nat}{e:Int}:(Dy.of neg n e).sgn=if n=0 then 0 else if neg then -1 else 1:=by
 unfold Dy.of;by_cases h:n=0
 ·simp[h,Dy.sgn]
 ·have h1:=tz_le h;have h2:n/2^tz n≠0:=by
   have:=(Nat.le_div_iff_mul_le (Nat.two_pow_pos (tz n)) (x:=1) (y:=n)).2 (by omega);omega
  simp[h,Dy.sgn,qda h2]
theorem qajc {a b:Dy}(oa:a.G)(ob:b.G)(na:a.m≠[])(nb:b.m≠[])(hneg:a.neg=b.neg):(a.sum b.neg').sgn=b.sgn*cmpN a.absN b.absN:=by
 have h3:=oa.elo;have h5:=ob.elo;have⟨e,he⟩:∃e,e=min a.e b.e:=⟨_,rfl⟩
 have hA:a.absN=sumX a e*2^(e+16384).toNat:=qh2 (by omega) (by omega);have hB:b.absN=sumX b e*2^(e+16384).toNat:=qh2 (by omega) (by omega);have hB':sumX b.neg' e=sumX b e:=rfl;rw[hA,hB,qzh (Nat.two_pow_pos _)];have hne:¬a.neg=b.neg'.neg:=by simp[Dy.neg',nb,hneg]
 unfold Dy.sum;rw[if_neg na,if_neg (show ¬b.neg'.m=[] from nb)];simp only[show b.neg'.e=b.e from rfl,<-he,if_neg hne,hB'];have hbn:b.neg'.neg=!b.neg:=by simp[Dy.neg',nb]
 have hs:b.sgn=if b.neg then -1 else 1:=by simp[Dy.sgn,nb]
 rw[hs];generalize sumX a e=X at *
 generalize sumX b e=Y at *
 rcases Nat.lt_trichotomy X Y with h|h|h
 ·have h1:¬Y<=X:=by omega
  have h2:¬Y-X=0:=by omega
  rw[if_neg h1,qacc,hbn,if_neg h2];simp only[cmpN,if_pos h];cases b.neg<;>simp
 ·subst h;rw[if_pos (Nat.le_refl _),qacc,if_pos (by omega)];simp[cmpN]
 ·have h1:Y<=X:=by omega
  have h2:¬X-Y=0:=by omega
  have h3:¬X<Y:=by omega
  rw[if_pos h1,qacc,hneg,if_neg h2];simp[cmpN,if_neg h3,h]
theorem qahz (a b:Dy)(oa:a.G)(ob:b.G)(ma:a.M)(mb:b.M):CQ prog qq9 [a.v,b.v] (.int .i64 (cmpI a.val b.val)):=by
 refine qaf rfl fun H=>?_
 rw[q6w oa ob];simp;refine qaa rfl rfl rfl (q1s a) ?_;simp;refine qaa rfl rfl rfl (q1s b) ?_;by_cases hne:a.sgn=b.sgn
 ·have n1:¬a.sgn<b.sgn:=by omega
  have n2:¬b.sgn<a.sgn:=by omega
  simp[hne];by_cases h0:b.sgn=0
  ·simp[h0]
  ·have na:a.m≠[]:=fun h=>h0 (by rw[<-hne];simp[Dy.sgn,h])
   have nb:b.m≠[]:=fun h=>h0 (by simp[Dy.sgn,h])
   have hneg:a.neg=b.neg:=by
    unfold Dy.sgn at hne;rw[if_neg na,if_neg nb]at hne;cases ha:a.neg<;>cases hb:b.neg<;>simp[ha,hb]at hne ⊢
   simp[h0];refine qaa rfl rfl rfl (qt9 a oa ma) ?_;simp;refine qaa rfl rfl rfl (qt9 b ob mb) ?_;simp;by_cases ht:a.top=b.top
   ·simp[ht];refine qaa rfl rfl rfl (qaoz b) ?_;simp;refine qaa rfl rfl rfl (qaov a b.neg' ma ⟨mb.li,mb.len,mb.lo,mb.hi⟩) ?_;simp;refine qaa rfl rfl rfl (q1s _) ?_;simp;exact qajc oa ob na nb hneg
   ·simp[ht];refine qaa rfl rfl rfl (qt9 a oa ma) ?_;simp;refine qaa rfl rfl rfl (qt9 b ob mb) ?_;simp;have hs:b.sgn=1\/b.sgn=-1:=by unfold Dy.sgn;rw[if_neg nb];split<;>simp
    have key:(a.top<b.top/\cmpN a.absN b.absN=-1)\/(¬a.top<b.top/\cmpN a.absN b.absN=1):=by
     rcases Int.lt_or_gt_of_ne ht with h|h
     ·have:=qou oa ob na nb h;exact .inl ⟨h,by simp[cmpN,this]⟩
     ·have:=qou ob oa nb na h;exact .inr ⟨by omega,by simp[cmpN,this];omega⟩
    rcases hs with hs|hs<;>rcases key with ⟨k1,k2⟩|⟨k1,k2⟩<;>simp[hs,k1,k2]
 ·simp[hne];grind
theorem qqo (a b:Dy)(oa:a.Ok)(ob:b.Ok):CQ prog qq9 [a.v,b.v] (.int .i64 (a.cmp b)):=by
 have hcmp:a.cmp b=cmpI a.val b.val:=by simp[Dy.cmp,oa.valid,ob.valid]
 rw[hcmp];exact qahz a b oa.toG ob.toG oa.toM ob.toM
theorem qnv : ∀{a b:List Nat},Li a->Li b->a.length=b.length->natV a=natV b->a=b
 | [],[],_,_,_,_=>rfl
 | [],_ :: _,_,_,h,_=>by simp at h
 |_ :: _,[],_,_,h,_=>by simp at h
 |x :: l,y :: m,la,lb,h,e=>by
  simp only[natV]at e;have h1:=la.cons.1;have h2:=lb.cons.1;have:x=y:=by omega
  rw[this,qnv la.cons.2 lb.cons.2 (by simpa using h) (by omega)]
theorem qw2 (a b:Dy)(wa:a.W)(wb:b.W):CQ prog qvz [a.v,b.v] (.bool (decide (a=b))):=by
 refine qaf rfl fun H=>?_
 have e:decide (a=b)=(decide (a.neg=b.neg)&&decide (a.e=b.e)&&decide (a.m=b.m)):=by
  cases a;cases b;simp[and_comm];grind
 rw[e];have hl:(a.m.length:Int)=b.m.length↔a.m.length=b.m.length:=by omega
 by_cases hn:a.neg=b.neg
 ·by_cases he:a.e=b.e
  ·by_cases hm:a.m.length=b.m.length
   ·simp[lim,hn,he,hm];refine qaa rfl rfl rfl (qur a.m b.m (by have:=wa.len;omega) wa.li wb.li (.inl hm)) ?_;simp[qaeg];constructor
    ·intro h;exact qnv wa.li wb.li hm h
    ·intro h;rw[h]
   ·have hm':¬(a.m.length:Int)=b.m.length:=by omega
    have hm2:¬a.m=b.m:=fun h=>hm (by rw[h])
    simp[lim,hn,he,hm',hm2]
  ·simp[lim,hn,he]
 ·simp[lim,hn]
end Go.Abs.W
namespace Go.Abs.W
def Dy.zero : Dy:=⟨false,[],0⟩
def Dy.isZ (d:Dy):Bool:=!d.neg&&decide (d.m=[])&&decide (d.e=0)
def Iv.valid (x:Iv):Bool:=if x.all then x.lo.isZ&&x.hi.isZ else x.lo.valid&&x.hi.valid&&decide (x.lo.cmp x.hi<=0)
structure Iv.W (x:Iv):Prop where
 lo:x.lo.W
 hi:x.hi.W
def Iv.ins (x y:Iv):Bool:=x.valid&&y.valid&&(y.all || (!x.all&&decide (y.lo.cmp x.lo<=0)&&decide (x.hi.cmp y.hi<=0)))
theorem qaii (d:Dy):CQ prog qq8 [d.v] (.bool d.isZ):=by
 refine qaf rfl fun H=>?_
 simp[lim,Dy.isZ];grind
theorem qgo (x:Iv)(w:x.W):CQ prog qs9 [x.v] (.bool x.valid):=by
 refine qaf rfl fun H=>?_
 simp;repeat' first
  | (refine qaa rfl rfl rfl (qaii x.lo) ?_;simp)
  | (refine qaa rfl rfl rfl (qaii x.hi) ?_;simp)
  | (refine qaa rfl rfl rfl (qcf x.lo w.lo.len w.lo.li) ?_;simp)
  | (refine qaa rfl rfl rfl (qcf x.hi w.hi.len w.hi.li) ?_;simp)
  | (refine qaa rfl rfl rfl (qei x.lo x.hi w.lo w.hi) ?_;simp)
  |refine And.intro ?_ ?_
  |intro _
 all_goals first| (simp[Iv.valid, *];done)| (simp[Iv.valid, *];grind)|grind [Iv.valid]
set_option maxHeartbeats 1000000 in
theorem qaam (x y:Iv)(wx:x.W)(wy:y.W):CQ prog qr0 [x.v,y.v] (.bool (x.ins y)):=by
 refine qaf rfl fun H=>?_
 simp;repeat' first
  | (refine qaa rfl rfl rfl (qgo x wx) ?_;simp)
  | (refine qaa rfl rfl rfl (qgo y wy) ?_;simp)
  | (refine qaa rfl rfl rfl (qei y.lo x.lo wy.lo wx.lo) ?_;simp)
  | (refine qaa rfl rfl rfl (qei x.hi y.hi wx.hi wy.hi) ?_;simp)
  |refine And.intro ?_ ?_
  |intro _
 all_goals first| (simp[Iv.ins, *];done)| (simp[Iv.ins, *];grind)|grind [Iv.ins]
theorem qak6 {a b:Dy}(ha:a.valid=true)(hb:b.valid=true):a.cmp b=cmpI a.val b.val:=by simp[Dy.cmp,ha,hb]
theorem q1o {a b:Int}:cmpI a b=0↔a=b:=by
 unfold cmpI;repeat' split
 all_goals omega
theorem q1n {a b:Dy}(oa:a.Ok)(ob:b.Ok):a.cmp b=0↔a=b:=by
 rw[qak6 oa.valid ob.valid,q1o];exact⟨q4v oa ob,fun h=>by rw[h]⟩
theorem Iv.W.okLo {x:Iv}(w:x.W)(hv:x.valid=true)(ha:x.all=false):x.lo.Ok:=by
 simp[Iv.valid,ha]at hv;exact Dy.Ok.of w.lo.li hv.1.1
theorem Iv.W.okHi {x:Iv}(w:x.W)(hv:x.valid=true)(ha:x.all=false):x.hi.Ok:=by
 simp[Iv.valid,ha]at hv;exact Dy.Ok.of w.hi.li hv.1.2
theorem qae9 (d:Dy):CQ prog qxq [d.v] (.bool d.isZ):=by
 refine qaf rfl fun H=>?_
 simp[lim,Dy.isZ];grind
theorem qpb (x:Iv)(w:x.W):CQ prog qvt [x.v] (.bool x.valid):=by
 refine qaf rfl fun H=>?_
 simp;repeat' first
  | (refine qaa rfl rfl rfl (qae9 x.lo) ?_;simp)
  | (refine qaa rfl rfl rfl (qae9 x.hi) ?_;simp)
  | (refine qaa rfl rfl rfl (qlt x.lo w.lo) ?_;simp)
  | (refine qaa rfl rfl rfl (qlt x.hi w.hi) ?_;simp)
  | (refine qaa rfl rfl rfl (qqo x.lo x.hi (Dy.Ok.of w.lo.li (by assumption)) (Dy.Ok.of w.hi.li (by assumption))) ?_;simp)
  |refine And.intro ?_ ?_
  |intro _
 all_goals first| (simp[Iv.valid, *];done)| (simp[Iv.valid, *];grind)|grind [Iv.valid]
set_option maxHeartbeats 1000000 in
theorem q6j (x y:Iv)(wx:x.W)(wy:y.W):CQ prog qtf [x.v,y.v] (.bool (x.ins y)):=by
 refine qaf rfl fun H=>?_
 simp;repeat' first
  | (refine qaa rfl rfl rfl (qpb x wx) ?_;simp[*])
  | (refine qaa rfl rfl rfl (qpb y wy) ?_;simp[*])
  | (refine qaa rfl rfl rfl (qqo y.lo x.lo (wy.okLo (by assumption) (by assumption)) (wx.okLo (by assumption) (by assumption))) ?_;simp)
  | (refine qaa rfl rfl rfl (qqo x.hi y.hi (wx.okHi (by assumption) (by assumption)) (wy.okHi (by assumption) (by assumption))) ?_;simp)
  |refine And.intro ?_ ?_
  |intro _
 all_goals first| (simp[Iv.ins, *];done)| (simp[Iv.ins, *];grind)|grind [Iv.ins]
theorem qpc (x y:Iv)(wx:x.W)(wy:y.W):CQ prog qvu [x.v,y.v] (.bool (decide (x=y))):=by
 refine qaf rfl fun H=>?_
 have e:decide (x=y)=(decide (x.all=y.all)&&decide (x.lo=y.lo)&&decide (x.hi=y.hi)):=by
  cases x;cases y;simp;grind
 rw[e];simp;repeat' first
  | (refine qaa rfl rfl rfl (qw2 x.lo y.lo wx.lo wy.lo) ?_;simp[*])
  | (refine qaa rfl rfl rfl (qw2 x.hi y.hi wx.hi wy.hi) ?_;simp[*])
  |refine And.intro ?_ ?_
  |intro _
 all_goals first| (simp[*];done)| (simp[*];grind)|grind
def Dy.lo2 (a b:Dy):Dy:=if a.cmp b<=0 then a else b
def Dy.hi2 (a b:Dy):Dy:=if 0<=a.cmp b then a else b
def Iv.known (x:Iv):Bool:=!x.all&&x.valid
def Iv.whole : Iv:=⟨⟨false,[],0⟩,⟨false,[],0⟩,true⟩
def Iv.hull (x y:Iv):Iv:=if x.known&&y.known then⟨x.lo.lo2 y.lo,x.hi.hi2 y.hi,false⟩else Iv.whole
theorem Dy.W.lo2 {a b:Dy}(ha:a.W)(hb:b.W):(a.lo2 b).W:=by unfold Dy.lo2;split<;>assumption
theorem Dy.W.hi2 {a b:Dy}(ha:a.W)(hb:b.W):(a.hi2 b).W:=by unfold Dy.hi2;split<;>assumption
theorem Iv.W.hull {x y:Iv}(hx:x.W)(hy:y.W):(x.hull y).W:=by
 unfold Iv.hull;split
 ·exact⟨hx.lo.lo2 hy.lo,hx.hi.hi2 hy.hi⟩
 ·exact⟨⟨by intro x hx;simp[Iv.whole]at hx,by simp[Iv.whole]⟩,⟨by intro x hx;simp[Iv.whole]at hx,by simp[Iv.whole]⟩⟩
theorem q0g (a b:Dy)(wa:a.W)(wb:b.W):CQ prog qvi [a.v,b.v] (a.lo2 b).v:=by
 refine qaf rfl fun H=>?_
 simp;refine qaa rfl rfl rfl (qei a b wa wb) ?_;simp[Dy.lo2];refine⟨fun h=>by simp[h],fun h=>?_⟩;have:¬a.cmp b<=0:=by omega
 simp[this]
theorem q0f (a b:Dy)(wa:a.W)(wb:b.W):CQ prog qvg [a.v,b.v] (a.hi2 b).v:=by
 refine qaf rfl fun H=>?_
 simp;refine qaa rfl rfl rfl (qei a b wa wb) ?_;simp[Dy.hi2];refine⟨fun h=>by simp[h],fun h=>?_⟩;have:¬0<=a.cmp b:=by omega
 simp[this]
theorem qag4 (a b:Dy)(oa:a.Ok)(ob:b.Ok):CQ prog qvq [a.v,b.v] (a.lo2 b).v:=by
 refine qaf rfl fun H=>?_
 simp;refine qaa rfl rfl rfl (qqo a b oa ob) ?_;simp[Dy.lo2];refine⟨fun h=>by simp[h],fun h=>?_⟩;have:¬a.cmp b<=0:=by omega
 simp[this]
theorem qaj9 (a b:Dy)(oa:a.Ok)(ob:b.Ok):CQ prog qxr [a.v,b.v] (a.hi2 b).v:=by
 refine qaf rfl fun H=>?_
 simp;refine qaa rfl rfl rfl (qqo a b oa ob) ?_;simp[Dy.hi2];refine⟨fun h=>by simp[h],fun h=>?_⟩;have:¬0<=a.cmp b:=by omega
 simp[this]
theorem qak : CQ prog qs8 [] Iv.whole.v:=by
 refine qaf rfl fun H=>?_
 simp[Iv.whole,lim]
theorem q4s : CQ prog qvs [] Iv.whole.v:=by
 refine qaf rfl fun H=>?_
 simp[Iv.whole,lim]
set_option maxHeartbeats 1000000 in
theorem qdg (l:List Iv)(hl:l.length<=1000000)(w:∀x ∈ l,x.W):CQ prog qs6 [ivs l] (.bool (l.all Iv.known)):=by
 refine qaf rfl fun H=>?_
 simp[ivs];refine WK_up (fun i E H'=>H <+: H'/\E 5=ivs l/\E 6=.int .i64 l.length/\E 7=.int .i64 i/\(∀j x,j<i->l[j]?=some x->x.known=true)) l.length ?_ ?_
 ·simp[ivs]
 ·rintro i E H' hi ⟨hH,h5,h6,h7,hp⟩;simp only[ivs]at h5 ⊢;rcases Nat.lt_or_ge i l.length with hlt|hge
  ·have e2:IntKind.i64.wrap ((i:Int)+1)=((i+1:Nat):Int):=by rw[wrap_i64]<;>omega
   have wx:=w l[i] (List.getElem_mem hlt);have no:l[i].known=false->l.all Iv.known=false:=by
    intro h;rw[Bool.eq_false_iff];intro h';rw[List.all_eq_true.1 h' _ (List.getElem_mem hlt)]at h;cases h
   have nx:l[i].known=true->∀(j:Nat) (x:Iv),j<i+1->l[j]?=some x->x.known=true:=by
    intro h j x hj hx;rcases Nat.lt_or_ge j i with hji|hji
    ·exact hp j x hji hx
    ·have:j=i:=by omega
     subst this;rw[List.getElem?_eq_getElem hlt]at hx;injection hx with hx;rw[<-hx];exact h
   have T:=qb5 (qd9 (l:=[some ⟨7,[l[i].v],false,true⟩]) hH);simp only[Iv.v]at T;cases ha:l[i].all
   ·simp[qc1,h5,h6,h7,hlt,ha];rw[ha]at T;have hr:=qgo l[i] wx;simp only[Iv.v,ha]at hr;refine zq hr ?_;cases hv:l[i].valid
    ·simp[T];simpa using no (by simp[Iv.known,hv])
    ·simp[h5,h6,h7,e2];exact⟨qd9 hH,nx (by simp[Iv.known,hv,ha])⟩
   ·rw[ha]at T;simp[qc1,h5,h6,h7,hlt,ha,T];simpa using no (by simp[Iv.known,ha])
  ·have hin:i=l.length:=by omega
   subst hin;have e1:l.all Iv.known=true:=by
    rw[List.all_eq_true];intro x hx;obtain⟨j,hj,rfl⟩:=List.getElem_of_mem hx;exact hp j _ hj (List.getElem?_eq_getElem _)
   simp[qc1,h6,h7,e1,qb5 hH]
theorem q4r (x:Iv)(w:x.W):CQ prog qvr [x.v] (.bool x.known):=by
 refine qaf rfl fun H=>?_
 simp;refine qaa rfl rfl rfl (qpb x w) ?_;simp[Iv.known];grind
theorem q72 (x y:Iv)(wx:x.W)(wy:y.W):CQ prog qvn [x.v,y.v] (x.hull y).v:=by
 refine qaf rfl fun H=>?_
 simp;refine qam rfl rfl (H1:=H++[some ⟨7,[x.v],false,true⟩,some ⟨7,[y.v],false,true⟩,some ⟨7,[.agg [.bool false,.nil,.int .i64 0,.bool false,.nil,.int .i64 0,.bool false]],false,true⟩,some ⟨7,[x.v,y.v],true,false⟩]) (vs:=[ivs [x,y]]) (by simp[prep,frzVs,frzV];rfl) (qdg [x,y] (by simp) (by simp;exact⟨wx,wy⟩)) ?_;cases hk:x.known&&y.known
 ·have:([x,y].all Iv.known)=false:=by simpa using hk
  simp only[this];simp;refine zq qak ?_;simp[Iv.hull,hk]
 ·have:([x,y].all Iv.known)=true:=by simpa using hk
  simp only[this];simp;refine qaa rfl rfl rfl (q0g x.lo y.lo wx.lo wy.lo) ?_;simp;refine qaa rfl rfl rfl (q0f x.hi y.hi wx.hi wy.hi) ?_;simp[Iv.hull,hk]
theorem qai {x:Iv}(w:x.W)(h:x.known=true):x.lo.Ok/\x.hi.Ok:=by
 simp[Iv.known]at h;exact⟨w.okLo h.2 h.1,w.okHi h.2 h.1⟩
theorem q80 (x y:Iv)(wx:x.W)(wy:y.W):CQ prog qxt [x.v,y.v] (x.hull y).v:=by
 refine qaf rfl fun H=>?_
 simp;refine qaa rfl rfl rfl (q4r x wx) ?_;cases hx:x.known
 ·simp;refine zq q4s ?_;simp[Iv.hull,hx]
 ·simp;refine qaa rfl rfl rfl (q4r y wy) ?_;cases hy:y.known
  ·simp;refine zq q4s ?_;simp[Iv.hull,hy]
  ·simp;refine qaa rfl rfl rfl (qag4 x.lo y.lo (qai wx hx).1 (qai wy hy).1) ?_;simp;refine qaa rfl rfl rfl (qaj9 x.hi y.hi (qai wx hx).2 (qai wy hy).2) ?_;simp[Iv.hull,hx,hy]
@[simp] theorem qapj (n k:Nat):¬(n+k<n):=by omega
def Iv.zero : Iv:=⟨⟨false,[],0⟩,⟨false,[],0⟩,false⟩
def Iv.meet (x y:Iv):Option Iv:=
 if x.valid&&y.valid then
  (if x.all then some y else if y.all then some x else
   if 0<(x.lo.hi2 y.lo).cmp (x.hi.lo2 y.hi)then none else some ⟨x.lo.hi2 y.lo,x.hi.lo2 y.hi,false⟩)
 else none
def meetV (o:Option Iv):V:=.tup [(o.getD Iv.zero).v,.bool o.isSome]
theorem Iv.W.meet {x y z:Iv}(hx:x.W)(hy:y.W)(h:x.meet y=some z):z.W:=by
 unfold Iv.meet at h;split at h
 ·split at h
  ·injection h with h;rw[<-h];exact hy
  ·split at h
   ·injection h with h;rw[<-h];exact hx
   ·split at h
    ·cases h
    ·injection h with h;rw[<-h];exact⟨hx.lo.hi2 hy.lo,hx.hi.lo2 hy.hi⟩
 ·cases h
set_option maxHeartbeats 1000000 in
theorem qag6 (x y:Iv)(wx:x.W)(wy:y.W):CQ prog qvm [x.v,y.v] (meetV (x.meet y)):=by
 refine qaf rfl fun H=>?_
 simp;refine qaa rfl rfl rfl (qgo x wx) ?_;cases hx:x.valid
 ·simp[Iv.meet,hx,meetV,Iv.zero,lim]
 simp;refine qaa rfl rfl rfl (qgo y wy) ?_;cases hy:y.valid
 ·simp[Iv.meet,hx,hy,meetV,Iv.zero,lim]
 rcases Bool.eq_false_or_eq_true x.all with ax|ax
 ·simp[Iv.meet,hx,hy,ax,meetV]
 rcases Bool.eq_false_or_eq_true y.all with ay|ay
 ·simp[Iv.meet,hx,hy,ax,ay,meetV]
 simp[ax,ay];refine qaa rfl rfl rfl (q0f x.lo y.lo wx.lo wy.lo) ?_;simp;refine qaa rfl rfl rfl (q0g x.hi y.hi wx.hi wy.hi) ?_;simp;refine qaa rfl rfl rfl (qei (x.lo.hi2 y.lo) (x.hi.lo2 y.hi) (wx.lo.hi2 wy.lo) (wx.hi.lo2 wy.hi)) ?_;by_cases c:0<(x.lo.hi2 y.lo).cmp (x.hi.lo2 y.hi)
 ·simp[c,Iv.meet,hx,hy,ax,ay,meetV,Iv.zero,lim]
 ·simp[c,Iv.meet,hx,hy,ax,ay,meetV]
theorem qacr {a b:Dy}(ha:a.Ok)(hb:b.Ok):(a.lo2 b).Ok:=by unfold Dy.lo2;split<;>assumption
theorem qac6 {a b:Dy}(ha:a.Ok)(hb:b.Ok):(a.hi2 b).Ok:=by unfold Dy.hi2;split<;>assumption
end Go.Abs.W
