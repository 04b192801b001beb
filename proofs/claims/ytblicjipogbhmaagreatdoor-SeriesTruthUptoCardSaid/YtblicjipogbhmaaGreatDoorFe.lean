import Derived.Test.YtblicjipogbhmaaGreatDoorFb
namespace Go.Abs.W
structure Dy where
 neg:Bool
 m:List Nat
 e:Int
 deriving DecidableEq
structure Iv where
 lo:Dy
 hi:Dy
 all:Bool
 deriving DecidableEq
structure Sg where
 fr:Dy
 to:Dy
 tube:List Iv
 en:List Iv
 deriving DecidableEq
structure Pp where
 start:List Iv
 segs:List Sg
 deriving DecidableEq
@[simp] def Dy.v (d:Dy):V:=.agg [.bool d.neg,lim d.m,.int .i64 d.e]
@[simp] def Iv.v (x:Iv):V:=.agg [.bool x.lo.neg,lim x.lo.m,.int .i64 x.lo.e,.bool x.hi.neg,lim x.hi.m,.int .i64 x.hi.e,.bool x.all]
def aC (l:List Iv):V:=.sl (l.map Iv.v)
@[simp] def Sg.v (s:Sg):V:=.agg [.bool s.fr.neg,lim s.fr.m,.int .i64 s.fr.e,.bool s.to.neg,lim s.to.m,.int .i64 s.to.e,aC s.tube,aC s.en]
def kW (l:List Sg):V:=.sl (l.map Sg.v)
@[simp] def Pp.v (p:Pp):V:=.agg [aC p.start,kW p.segs]
def fM (l:List (List Nat)):V:=.sl (l.map lim)
@[simp] theorem qhY {l:List Iv}:(aC l).cells=[aC l]:=rfl
@[simp] theorem qiA {l:List Sg}:(kW l).cells=[kW l]:=rfl
@[simp] theorem qiD {l:List Iv}:(aC l).isTup=false:=rfl
@[simp] theorem qiF {l:List Sg}:(kW l).isTup=false:=rfl
structure Dy.wt (d:Dy):Prop where
 li:Li d.m
 len:d.m.length<=9223372036854775807
 lo:-9223372036854775808<=d.e
 hi:d.e<9223372036854775808
@[simp] theorem qiI {H:ab}{b:Bool}:bm H (.bool b)=some (.bool b,H):=rfl
@[simp] theorem qhJ {H:ab}{k:IntKind}{n:Int}:bm H (.int k n)=some (.int k n,H):=rfl
@[simp] theorem qhE {H:ab}{l:List V}:bm H (.sl l)=some (.sl l,H):=rfl
@[simp] theorem qhO {H:ab}{l:List Nat}:bm H (lim l)=some (lim l,H):=rfl
@[simp] theorem qhN {H:ab}{l:List Iv}:bm H (aC l)=some (aC l,H):=rfl
@[simp] theorem qhP {H:ab}{l:List Sg}:bm H (kW l)=some (kW l,H):=rfl
@[simp] theorem Uu {H:ab}:bm H .nil=some (.sl [],H):=rfl
@[simp] theorem qgW {b:Bool}:(V.bool b).cellPure=true:=rfl
@[simp] theorem qgR {k:IntKind}{n:Int}:(V.int k n).cellPure=true:=rfl
@[simp] theorem qcJ {l:List V}:(V.sl l).cellPure=true:=rfl
@[simp] theorem qgT {l:List Nat}:(lim l).cellPure=true:=rfl
@[simp] theorem qgS {l:List Iv}:(aC l).cellPure=true:=rfl
@[simp] theorem qgV {l:List Sg}:(kW l).cellPure=true:=rfl
@[simp] theorem qgU : V.nil.cellPure=true:=rfl
@[simp] theorem qhD {n:Nat}{H:ab}{vs:List V}:fin false n H (.tup vs)=(gM H vs).bind fun(vs',H1)=>some (.tup vs',H1.take n):=rfl
@[simp] theorem qgX {n:Nat}{H:ab}{cs:List V}:fin false n H (.agg cs)=(d6 H (.agg cs)).bind fun(v',H1)=>some (v',H1.take n):=rfl
@[simp] theorem qhA {n:Nat}{H:ab}:fin false n H .nil=some (.sl [],H.take n):=rfl
@[simp] theorem qhB {n:Nat}{H:ab}{b z off len:Nat}:fin false n H (.ref b z off len)=(d6 H (.ref b z off len)).bind fun(v',H1)=>some (v',H1.take n):=rfl
@[simp] theorem qhC {n:Nat}{H:ab}{l:List Sg}:fin false n H (kW l)=some (kW l,H.take n):=rfl
@[simp] theorem qfR {H:ab}{l:List Nat}:d6 H (lim l)=some (lim l,H):=rfl
@[simp] theorem qgJ {H:ab}{l:List Iv}:d6 H (aC l)=some (aC l,H):=rfl
@[simp] theorem qfT {H:ab}{l:List Sg}:d6 H (kW l)=some (kW l,H):=rfl
@[simp] theorem qgL {H:ab}{b:Bool}:d6 H (.bool b)=some (.bool b,H):=rfl
@[simp] theorem qgI {H:ab}{k:IntKind}{n:Int}:d6 H (.int k n)=some (.int k n,H):=rfl
@[simp] theorem qiN {H:ab}{l:List V}:d6 H (.sl l)=some (.sl l,H):=rfl
@[simp] theorem Z9 {H:ab}:d6 H .nil=some (.sl [],H):=rfl
@[simp] theorem qgH {H:ab}{cs:List V}:d6 H (.agg cs)=(cq H cs).bind fun(cs',H1)=>if(V.agg cs').pure=true then some (.agg cs',H1)else none:=by
 unfold d6 aF;simp only[];generalize cq H cs=o;cases o<;>rfl
@[simp] theorem qgZ {n:Nat}{H:ab}{l:List Nat}:fin false n H (lim l)=some (lim l,H.take n):=rfl
@[simp] theorem qgY {n:Nat}{H:ab}{l:List Iv}:fin false n H (aC l)=some (aC l,H.take n):=rfl
@[simp] theorem qfS {H:ab}{b z off len:Nat}:d6 H (.ref b z off len)=bm H (.ref b z off len):=by
 show(bm H (.ref b z off len)).bind _=_;unfold bm;simp only[];split
 ·split
  ·rfl
  ·rfl
 ·rfl
@[simp] theorem gk {H:ab}{b z off len:Nat}:bm H (.ref b z off len)=match H[b]? with
 |some (some k)=>if k.arr=true/\k.z=z/\off+len<=k.el.length then some (.sl ((k.el.drop off).take len),if k.wr then H.set b (some { k with wr:=false })else H)else none
 |_=>none:=rfl
theorem q3r {n b:Nat}:jo n b=true↔n*b<=140737488355328:=by simp[jo]
attribute [simp] q3r
attribute [simp] gM cq V.pure V.withCells fZ gz er elems fF
theorem jn {b:Type}{H a:List b}(h:H <+: a):a.take H.length=H:=by
 obtain⟨t,rfl⟩:=h;simp
theorem jx {b:Type}{H a l:List b}(h:H <+: a):H <+: a++l:=h.trans (Wl _ _)
@[simp] theorem qgO {α:Type}{H l:List α}:H <+: H++l:=Wl _ _
def Cb (H:ab)(g:Nat)(caps args:List V)(v:V):Prop:=
 ∀H',H <+: H'->prep prog g H' (args++caps)=some (args++caps,H')/\Ev prog (.call g (args++caps) H') (.ret v H')
theorem Cb.mono {H a:ab}{g:Nat}{caps args:List V}{v:V}(h:Cb H g caps args v)(c:H <+: a):Cb a g caps args v:=fun K b=>h K (c.trans b)
def eH (o:Option Nat):V:=match o with
 |some i=>.int .i64 i
 |none=>.int .i64 (-1)
theorem fD {n0:Nat}{Q:AX->aA->ab->Prop}{d:Bool}{dst:Option Nat}{i:Bool}{l:List AOper}{K:List Fr}{E:aA}{H a:ab}{x:X}{caps args:List V}{c:List X}{g:Nat}{v:V}(h:Cb a g caps args v)(b:a <+: H)
 (f:am E x=.fn g caps) (e:c.map (am E)=args) (k:WL prog n0 d l K (put E dst v) H Q):mw prog n0 d dst x c i l K E H Q:=
 qy f (by rw[e]) (h H b).1 ⟨_,_,(h H b).2,fun _=>VJ H,k⟩
theorem bW {n0:Nat}{Q:AX->aA->ab->Prop}{d:Bool}{dst:Option Nat}{f:Bool}{l:List AOper}{K:List Fr}{E:aA}{H:ab}{x:X}{caps args vs:List V}{a:List X}{g:Nat}{v:V}
 (e:am E x=.fn g caps) (b:a.map (am E)++caps=args) (c:prep prog g H args=some (vs,H)) (h:Ev prog (.call g vs H) (.ret v H)) (k:WL prog n0 d l K (put E dst v) H Q):mw prog n0 d dst x a f l K E H Q:=
 qy e b c ⟨_,_,h,fun _=>VJ H,k⟩
theorem iM {g:Nat}{f:AFn}{args:List V}{v:V}{H:ab}(i:prog.fn g=some f)
 (h:WK prog H.length f.body [] (E0 args) H (fun x d b=>(x=.normal\/x=.ret)/\∃c,d8 d b f.results=some c/\fin f.own H.length b c=some (v,H))):Ev prog (.call g args H) (.ret v H):=by
 obtain⟨x,d,b,e,k,c,j,a⟩:=h;exact .call i e k j a
set_option maxHeartbeats 1000000 in
theorem QE {H:ab}{g:Nat}{caps:List V}{p:(List Nat)->Bool}(l:List (List Nat))(w:l.length<=9223372036854775807)(h:∀x ∈ l,Cb H g caps [lim x] (.bool (p x))) :
 Ev prog (.call qmt [fM l,.fn g caps] H) (.ret (eH (l.findIdx? p)) H):=by
 refine iM rfl ?_;simp[fM];refine aJ (fun i E q=>q=H/\E 0=fM l/\E 1=.fn g caps/\E 7=.int .i64 l.length/\E 8=.int .i64 i/\(∀j x,j<i->l[j]?=some x->p x=false)) l.length ?_ ?_
 ·simp[fM]
 ·rintro i E q hi ⟨rfl,f,r,k,m,o⟩;simp only[fM]at f ⊢;rcases Vm i l.length with a|u
  ·have t:IntKind.i64.wrap ((i:Int)+1)=((i+1:Nat):Int):=by rw[wrap_i64]<;>omega
   simp[JU,k,m,f,r,a];refine fD (h l[i] (Vy a)) (VJ _) rfl rfl ?_;simp[f,r,k,m,t];refine⟨fun b=>?_,fun b=>?_⟩
   ·rw[show l.findIdx? p=some i from ?_]
    ·simp[eH]
    ·rw[WI];refine⟨a,b,?_⟩
     ·intro j e;have:=o j l[j] e (k9 _);simp[this]
   ·intro j y e d;rcases Vm j i with c|c
    ·exact o j y c d
    ·have:j=i:=by omega
     subst this;rw[k9 a]at d;injection d with d;rw[<-d];exact b
  ·have n:i=l.length:=by omega
   subst n;have s:l.findIdx? p=none:=by
    simp only[W8];intro x v;obtain⟨j,e,rfl⟩:=Xf v;exact o j _ e (k9 _)
   simp[JU,k,m,s,eH]
theorem q90 {H:ab}{g:Nat}{caps:List V}{p:(List Nat)->Bool}(l:List (List Nat))(e:l.length<=9223372036854775807)(h:∀x ∈ l,Cb H g caps [lim x] (.bool (p x))) :
 Ev prog (.call qim [fM l,.fn g caps] H) (.ret (.bool (l.any p)) H):=by
 refine iM rfl ?_;simp[fM];refine bW rfl rfl rfl (QE l e h) ?_;rcases b:l.findIdx? p with _|i
 ·have a:l.any p=false:=by simpa[W8]using b
  simp[eH,a]
 ·have a:l.any p=true:=by
   rw[WI]at b;obtain⟨c,d,_⟩:=b;exact List.any_eq_true.2 ⟨_,Vy c,d⟩
  simp[eH,a]
set_option maxHeartbeats 1000000 in
theorem QD {H:ab}{g:Nat}{caps:List V}{p:Iv->Bool}(l:List Iv)(w:l.length<=9223372036854775807)(h:∀x ∈ l,Cb H g caps [x.v] (.bool (p x))) :
 Ev prog (.call qkq [aC l,.fn g caps] H) (.ret (eH (l.findIdx? p)) H):=by
 refine iM rfl ?_;simp[aC];refine aJ (fun i E q=>q=H/\E 0=aC l/\E 1=.fn g caps/\E 7=.int .i64 l.length/\E 8=.int .i64 i/\(∀j x,j<i->l[j]?=some x->p x=false)) l.length ?_ ?_
 ·simp[aC]
 ·rintro i E q hi ⟨rfl,f,r,k,m,o⟩;simp only[aC]at f ⊢;rcases Vm i l.length with a|u
  ·have t:IntKind.i64.wrap ((i:Int)+1)=((i+1:Nat):Int):=by rw[wrap_i64]<;>omega
   simp[JX,k,m,f,r,a];refine fD (h l[i] (Vy a)) (VJ _) rfl rfl ?_;simp[f,r,k,m,t];refine⟨fun b=>?_,fun b=>?_⟩
   ·rw[show l.findIdx? p=some i from ?_]
    ·simp[eH]
    ·rw[WI];refine⟨a,b,?_⟩
     ·intro j e;have:=o j l[j] e (k9 _);simp[this]
   ·intro j y e d;rcases Vm j i with c|c
    ·exact o j y c d
    ·have:j=i:=by omega
     subst this;rw[k9 a]at d;injection d with d;rw[<-d];exact b
  ·have n:i=l.length:=by omega
   subst n;have s:l.findIdx? p=none:=by
    simp only[W8];intro x v;obtain⟨j,e,rfl⟩:=Xf v;exact o j _ e (k9 _)
   simp[JX,k,m,s,eH]
theorem YW {H:ab}{g:Nat}{caps:List V}{p:Iv->Bool}(l:List Iv)(e:l.length<=9223372036854775807)(h:∀x ∈ l,Cb H g caps [x.v] (.bool (p x))) :
 Ev prog (.call qii [aC l,.fn g caps] H) (.ret (.bool (l.any p)) H):=by
 refine iM rfl ?_;simp[aC];refine bW rfl rfl rfl (QD l e h) ?_;rcases b:l.findIdx? p with _|i
 ·have a:l.any p=false:=by simpa[W8]using b
  simp[eH,a]
 ·have a:l.any p=true:=by
   rw[WI]at b;obtain⟨c,d,_⟩:=b;exact List.any_eq_true.2 ⟨_,Vy c,d⟩
  simp[eH,a]
attribute [local simp] fP
def allB {α:Type}(p:α->α->Bool):List α->List α->Bool
 |x :: l,y :: m=>p x y&&allB p l m
 |_,_=>true
theorem B9 {e:Type}{p:e->e->Bool}:∀{l m:List e},allB p l m=true↔∀(i:Nat) (x y:e),l[i]?=some x->m[i]?=some y->p x y=true
 | [],m=>by simp[allB]
 |x :: l,[]=>by simp[allB]
 |x :: l,y :: m=>by
  simp only[allB,VA,B9];constructor
  ·rintro⟨f,g⟩ i a b c d;cases i with
   |zero=>simp at c d;subst c;subst d;exact f
   |succ i=>exact g i a b (by simpa using c) (by simpa using d)
  ·intro h;exact⟨h 0 x y rfl rfl,fun i a b c d=>h (i+1) a b (by simpa using c) (by simpa using d)⟩
set_option maxHeartbeats 1000000 in
theorem QC {H:ab}{g:Nat}{caps:List V}{p:Iv->Iv->Bool}(l m:List Iv)(G:l.length<=9223372036854775807)(h:∀x ∈ l,∀y ∈ m,Cb H g caps [x.v,y.v] (.bool (p x y))) :
 Ev prog (.call qkr [aC l,aC m,.fn g caps] H) (.ret (.bool (decide (l.length=m.length)&&allB p l m)) H):=by
 refine iM rfl ?_;simp[aC];refine⟨fun D=>by simp[show l.length≠m.length by omega],fun o=>?_⟩
 replace o:l.length=m.length:=by omega
 refine aJ (fun i E u=>H <+: u/\E 1=aC m/\E 2=.fn g caps/\E 15=aC l/\E 16=.int .i64 l.length/\E 17=.int .i64 i/\(∀j x y,j<i->l[j]?=some x->m[j]?=some y->p x y=true)) l.length ?_ ?_
 ·simp[aC]
 ·rintro i E u hi ⟨r,s,v,e,f,k,z⟩;simp only[aC]at s e ⊢;rcases Vm i l.length with b|C
  ·have B:IntKind.i64.wrap ((i:Int)+1)=((i+1:Nat):Int):=by rw[wrap_i64]<;>omega
   have a:i<m.length:=by omega
   simp[JW,s,e,f,k,v,b,a];refine fD (h l[i] (Vy b) m[i] (Vy a)) (jx r) rfl rfl ?_;simp[s,e,f,k,v,B,jn (jx r),jx r];refine⟨fun c _=>?_,fun c j x y F d n=>?_⟩
   ·rw[aaI];intro w;rw[B9]at w;rw[w i _ _ (k9 b) (k9 a)]at c;cases c
   ·rcases Vm j i with q|q
    ·exact z j x y q d n
    ·have:j=i:=by omega
     subst this;rw[k9 b]at d;rw[k9 a]at n;injection d with d;injection n with n;rw[<-d,<-n];exact c
  ·have t:i=l.length:=by omega
   subst t;have A:allB p l m=true:=by
    rw[B9];intro j x y d n;exact z j x y (Vi.1 d).1 d n
   simp[JW,f,k,A,o,jn r]
theorem mQ (w n:Nat):(BitVec.ofInt w (n:Int)).toNat=n%2^w:=by
 simp
theorem cJ (n:Nat)(h:n<18446744073709551616):IntKind.u64.wrap (n:Int)=n:=ee (by omega) (by omega)
theorem eN (n:Nat)(h:n<4294967296):IntKind.u32.wrap (n:Int)=n:=Oq (by omega) (by omega)
theorem nJ (n:Nat):IntKind.u32.wrap (n:Int)=((n%4294967296:Nat):Int):=by
 simp only[IntKind.wrap,IntKind.bits,IntKind.signed];simp
theorem D3 (a b:Nat)(c:a<2^64)(d:b<2^64):aR .or .u64 (a:Int) (b:Int)=some (((a |||b:Nat)):Int):=by
 show some (IntKind.u64.wrap ((BitVec.ofInt 64 (a:Int) |||BitVec.ofInt 64 (b:Int)).toNat:Int))=_;rw[abh,mQ,mQ,VO c,VO d];rw[cJ _ (abJ c d)]
theorem Q5 (a b:Nat)(c:a<2^64)(d:b<2^64):aR .and .u64 (a:Int) (b:Int)=some (((a &&& b:Nat)):Int):=by
 show some (IntKind.u64.wrap ((BitVec.ofInt 64 (a:Int) &&& BitVec.ofInt 64 (b:Int)).toNat:Int))=_;rw[aaS,mQ,mQ,VO c,VO d];rw[cJ _ (V4 Nat.and_le_left c)]
theorem CD (a b:Nat)(c:a<2^32)(d:b<2^32):aR .and .u32 (a:Int) (b:Int)=some (((a &&& b:Nat)):Int):=by
 show some (IntKind.u32.wrap ((BitVec.ofInt 32 (a:Int) &&& BitVec.ofInt 32 (b:Int)).toNat:Int))=_;rw[aaS,mQ,mQ,VO c,VO d];rw[eN _ (V4 Nat.and_le_left c)]
theorem kh (a:Nat)(b:a<2^64):aR .and .u64 (a:Int) 4294967295=some ((a%4294967296:Nat):Int):=by
 have:=Q5 a 4294967295 b (by decide);rw[show((4294967295:Nat):Int)=4294967295 from rfl]at this;rw[this,show 4294967295=2^32-1 from rfl,XK]
theorem CE (a:Nat)(b:a<2^32):aR .and .u32 (a:Int) 1=some ((a%2:Nat):Int):=by
 have:=CD a 1 b (by decide);rw[show((1:Nat):Int)=1 from rfl]at this;rw[this,show(1:Nat)=2^1-1 from rfl,XK]
theorem q9 (x s c:Nat)(d:x*2^s<2^64)(a:c<2^s)(b:s<=64):aR .or .u64 ((x*2^s:Nat):Int) (c:Int)=some ((x*2^s+c:Nat):Int):=by
 have e:2^s<=2^64:=Vg (by omega) b;rw[D3 _ _ d (by omega),VE,aav a]
theorem eU (x s:Nat)(d:s<64)(h:x*2^s<2^64):cH .shl .u64 (x:Int) (s:Int)=some (.int .u64 ((x*2^s:Nat):Int)):=by
 have a:¬((s:Int)<0):=by omega
 have b:Nat.min s 64=s:=WW (by omega);have c:(x:Int)*2^s=((x*2^s:Nat):Int):=by simp
 simp only[cH,Vk a,zk,W3,b,c];rw[cJ _ h]
theorem cf (x s:Nat)(d:s<64):cH .shr .u64 (x:Int) (s:Int)=some (.int .u64 ((x/2^s:Nat):Int)):=by
 have a:¬((s:Int)<0):=by omega
 have b:Nat.min s 64=s:=WW (by omega);have c:(2:Int)^s=((2^s:Nat):Int):=by simp
 simp only[cH,Vk a,zk,W3,b,c,Cc]
theorem fm (x s:Nat)(d:s<32):cH .shr .u32 (x:Int) (s:Int)=some (.int .u32 ((x/2^s:Nat):Int)):=by
 have a:¬((s:Int)<0):=by omega
 have b:Nat.min s 32=s:=WW (by omega);have c:(2:Int)^s=((2^s:Nat):Int):=by simp
 simp only[cH,Vk a,Ul,W3,b,c,Cc]
end Go.Abs.W
namespace Go.Abs
def mW : Nat->Nat->List Nat
 |0,_=>[]
 |f+1,n=>if n=0 then []else(n%4294967296) :: mW f (n/4294967296)
def aB (n:Nat):List Nat:=mW (Nat.log2 n/32+1) n
theorem AM : ∀{f g n:Nat},n<4294967296^f->n<4294967296^g->mW f n=mW g n
 |0,0,_,_,_=>rfl
 |0,g+1,n,h,_=>by
  have:n=0:=by simpa using h
  simp[mW,this]
 |f+1,0,n,_,h=>by
  have:n=0:=by simpa using h
  simp[mW,this]
 |f+1,g+1,n,a,b=>by
  rw[VH]at a b;simp only[mW];rw[AM (f:=f) (g:=g) (by omega) (by omega)]
theorem q57 (n:Nat):n<4294967296^(Nat.log2 n/32+1):=by
 rw[show 4294967296=2^32 from rfl,<-abP];exact Vx Nat.lt_log2_self (Vg (by omega) (by omega))
theorem kr : aB 0=[]:=rfl
theorem ue {n:Nat}(h:n≠0):aB n=(n%4294967296) :: aB (n/4294967296):=by
 have a:=q57 n;rw[VH]at a;show mW (Nat.log2 n/32+1) n=_;simp only[mW,h,V8];rw[AM (by omega) (q57 (n/4294967296))];rfl
theorem aP (n:Nat):aa (aB n)=n:=by
 induction n using Nat.strongRecOn with
 |_ n a=>
  by_cases h:n=0
  ·subst h;rw[kr];rfl
  ·rw[ue h,aa,a _ (by omega)];omega
theorem aY (n:Nat):Li (aB n):=by
 induction n using Nat.strongRecOn with
 |_ n b=>
  by_cases h:n=0
  ·subst h;rw[kr];intro x a;simp at a
  ·rw[ue h];intro x a;rcases Wz.1 a with rfl|a
   ·omega
   ·exact b _ (by omega) x a
theorem lE {n:Nat}(h:n≠0):aB n≠[]:=by rw[ue h];simp
theorem uf (n:Nat):Trim (aB n):=by
 induction n using Nat.strongRecOn with
 |_ n d=>
  by_cases h:n=0
  ·subst h;rw[kr];intro x a;simp at a
  ·rw[ue h];intro x a;by_cases b:n/4294967296=0
   ·rw[b,kr]at a;simp at a;omega
   ·obtain⟨y,l,c⟩:=List.exists_cons_of_ne_nil (lE b);rw[c,aaT,<-c]at a;exact d _ (by omega) x a
theorem Trim.tail {x:Nat}{l:List Nat}(h:Trim (x :: l)):Trim l:=by
 intro y a;cases l with
 |nil=>simp at a
 |cons z l=>exact h y (by rw[aaT];exact a)
theorem Bc {l:List Nat}(h:Trim l)(a:aa l=0):l=[]:=by
 induction l with
 |nil=>rfl
 |cons x l d=>
  simp only[aa]at a;have c:x=0:=by omega
  have b:=d h.tail (by omega);subst b;subst c;exact absurd rfl (h 0 (by simp))
theorem CL {l:List Nat}(a:Li l)(b:Trim l):aB (aa l)=l:=by
 induction l with
 |nil=>exact kr
 |cons x l d=>
  have c:aa (x :: l)≠0:=fun h=>by simpa using Bc b h
  rw[ue c];have:=a.cons.1;simp only[aa];rw[show(x+4294967296*aa l)%4294967296=x by omega,show(x+4294967296*aa l)/4294967296=aa l by omega,d a.cons.2 b.tail]
theorem eh {l:List Nat}(a:Li l):trimL l=aB (aa l):=by
 rw[<-uX l,CL a.trimL (Cy l)]
theorem N8 {a b:List Nat}(c:Li a)(d:Li b)(e:Trim a)(tb:Trim b)(h:aa a=aa b):a=b:=by
 rw[<-CL c e,<-CL d tb,h]
theorem limbsOf_len {n k:Nat}:(aB n).length<=k↔n<4294967296^k:=by
 constructor
 ·intro h;have:=bz (aY n);rw[aP]at this;exact Vx this (Vg (by omega) h)
 ·intro h;by_cases a:n=0
  ·rw[a,kr];simp
  ·have:=x9 (uf n) (lE a);rw[aP]at this;have b:4294967296^((aB n).length-1)<4294967296^k:=by omega
   have:=(Xb (by omega)).1 b;omega
theorem ny {N B k:Nat}(h:N<2^B)(a:B<=32*k):(aB N).length<=k:=by
 refine limbsOf_len.2 ?_;rw[show(4294967296:Nat)=2^32 from rfl,<-abP];exact Vx h (Vg (by omega) a)
theorem i6 {X Y k:Nat}(h:X<=Y)(a:(aB Y).length<=k):(aB X).length<=k:=by
 have:=limbsOf_len.1 a;exact limbsOf_len.2 (by omega)
theorem AN {X Y k:Nat}(a:(aB X).length<=k)(b:(aB Y).length<=k):(aB (X+Y)).length<=k+1:=by
 have c:=limbsOf_len.1 a;have d:=limbsOf_len.1 b;refine limbsOf_len.2 ?_;rw[VH];omega
theorem CM (l:List Nat)(t:Nat):aa (l++[t])=aa l+4294967296^l.length*t:=by rw[lF];simp[aa]
end Go.Abs
namespace Go.Abs.W
attribute [local simp] fP
theorem iu {H:ab}{g:Nat}{args:List V}{v:V}(b:∀H,prep prog g H args=some (args,H))(h:CQ prog g args v):Cb H g [] args v:=by
 intro a _;rw[XB];exact⟨b a,h a⟩
theorem bt {n0:Nat}{Q:AX->aA->ab->Prop}{d:Bool}{dst:Option Nat}{a:Bool}{l:List AOper}{K:List Fr}{E:aA}{H H1:ab}{x:X}{args caps vs:List V}{b:List X}{g:Nat}{v:V}(i:am E x=.fn g caps)
 (c:b.map (am E)++caps=args) (f:prep prog g H args=some (vs,H1)) (h:CQ prog g vs v) (k:WL prog n0 d l K (put E dst v) H1 Q) (e:(d&&!a)=true->H <+: H1:=by simp):mw prog n0 d dst x b a l K E H Q:=
 qy i c f (h.ct ⟨e,k⟩)
theorem Ng (a:List Nat):CQ prog qyz [lim a] (.bool (decide (256<a.length))):=by
 refine ap rfl fun H=>?_
 simp[lim];omega
theorem pC (l:List (List Nat))(b:l.length<=9223372036854775807):CQ prog q37 [fM l] (.bool (l.any fun a=>decide (256<a.length))):=by
 refine ap rfl fun H=>?_
 simp;refine bW rfl rfl rfl (q90 l b fun x _=>iu (fun _=>rfl) (Ng x)) ?_;simp
theorem DB (a:List Nat):CQ prog qt6 [lim a] (lim a):=by
 refine ap rfl fun H=>?_
 simp[lim,VC]
theorem xC (a:List Nat)(b:a.length<=100000000):CQ prog Gu [lim a] (.tup [lim (if 256<(trimL a).length then []else trimL a),.int .i64 (if 256<(trimL a).length then 9 else 0)]):=by
 refine ap rfl fun H=>?_
 simp;refine ak rfl rfl rfl (gj a (by omega)) ?_;simp;refine bt rfl rfl (H1:=H++[some ⟨1,[lim (trimL a)],true,false⟩]) (by simp[prep,ah,aF];rfl) (pC [trimL a] (by simp)) ?_;simp;refine⟨fun h=>?_,fun h=>?_⟩
 ·simp[h];rfl
 ·refine ak rfl rfl rfl (DB (trimL a)) ?_;have:¬(256<(trimL a).length):=by omega
  simp[this]
def cB (s:Nat):Nat->List Nat->List Nat
 |c,[]=>[c%4294967296]
 |c,x :: l=>((x*2^s+c)%4294967296) :: cB s ((x*2^s+c)/4294967296) l
theorem U6 {s:Nat}:∀{c:Nat} {l:List Nat},(cB s c l).length=l.length+1
 |_,[]=>rfl
 |c,x :: l=>by simp[cB,U6]
theorem Ag {s:Nat}:∀{c:Nat} {l:List Nat},Li (cB s c l)
 |c,[]=>by intro x b;simp[cB]at b;omega
 |c,x :: l=>by
  intro y a;rcases Wz.1 a with rfl|a
  ·omega
  ·exact Ag y a
theorem UJ {s x c:Nat}(e:s<32)(f:x<4294967296)(d:c<2^s):x*2^s+c<18446744073709551616/\(x*2^s+c)/4294967296<2^s:=by
 have a:x*2^s+c<4294967296*2^s:=by
  have:(x+1)*2^s<=4294967296*2^s:=Vn _ (by omega);rw[VI]at this;omega
 have b:2^s<=2^31:=Vg (by omega) (by omega);exact⟨by omega,(VW (by omega)).2 (by omega)⟩
theorem U7 {s:Nat}(e:s<32):∀{c:Nat} {l:List Nat},Li l->c<2^s->aa (cB s c l)=aa l*2^s+c
 |c,[],_,b=>by
  have a:2^s<=2^31:=Vg (by omega) (by omega);simp[cB,aa];omega
 |c,x :: l,d,b=>by
  obtain⟨f,a⟩:=UJ e d.cons.1 b;simp only[cB,aa];rw[U7 e d.cons.2 a,VI,VM,Vt];omega
def df (a:List Nat)(n:Nat):List Nat:=List.replicate (n/32) 0++cB (n%32) 0 (trimL a)
theorem B5 {a:List Nat}{n:Nat}(b:Li a):aa (df a n)=aa a*2^n:=by
 unfold df;rw[lF,qW,aaf,U7 (by omega) b.trimL (Vl _),uX,bB];rw[W1,VF,WM,<-Vs,Wy]
theorem DK {a:List Nat}{n:Nat}:Li (df a n):=by
 refine Li.append ?_ Ag;intro x b;rw[(List.mem_replicate.1 b).2];omega
theorem nu (a:List Nat):(trimL a).length<=a.length:=by unfold trimL;simp;omega
theorem UK {a:List Nat}{n:Nat}:(df a n).length<=n/32+a.length+1:=by
 unfold df;have:=nu a;simp[U6];omega
theorem zA {n0:Nat}{H acc:ab}:fL n0 H acc .nil=some (.nil,H,acc):=rfl
theorem zB {n0:Nat}{H acc:ab}{b z off len:Nat}:fL n0 H acc (.ref b z off len)=match H[b]? with
 |some (some k)=>if n0<=b/\k.arr=true/\k.wr=true/\k.z=z/\off+len<=k.el.length then some (.ref (n0+acc.length) z 0 len,H.set b none,acc++[some { k with el:=(k.el.drop off).take len }])else if b<n0 then some (.ref b z off len,H,acc)else none
 |_=>none:=rfl
set_option maxHeartbeats 2000000 in
theorem o6 (a:List Nat)(n:Nat)(ha:a.length<=100000000)(la:Li a)(hn:n<=1000000000)(H:ab)(Q:V->ab->Prop)
 (k:Q (.ref H.length 1 0 (df a n).length) (H++[some ⟨1,(df a n).map u32,true,true⟩])):CT prog q72 [lim a,.int .i64 n] H Q:=by
 refine ms (f:=CO) rfl (pK ?_);simp;refine ak rfl rfl rfl (gj a (by omega)) ?_;have hx:=nu a;have lx:=la.trimL;unfold df at k;generalize trimL a=x at *
 have⟨q,hq⟩:∃q,q=n/32:=⟨_,rfl⟩
 have⟨s,hs⟩:∃s,s=n%32:=⟨_,rfl⟩
 rw[<-hq,<-hs]at k;have q1:(n:Int)/32=q:=by omega
 have s1:(n:Int)%32=s:=by omega
 have t:s<32:=by omega
 have O:IntKind.i64.wrap (q:Int)=q:=by rw[wrap_i64]<;>omega
 have S:IntKind.i64.wrap ((q:Int)+(x.length:Int))=q+x.length:=by rw[wrap_i64]<;>omega
 have U:IntKind.i64.wrap ((q:Int)+(x.length:Int)+1)=q+x.length+1:=by rw[wrap_i64]<;>omega
 have W:(0:Int)<=q+x.length+1:=by omega
 have Y:((q:Int)+x.length+1).toNat=q+x.length+1:=by omega
 have Z:q<=q+x.length+1/\(q+x.length+1)*4<=281474976710656/\q+x.length+1<=9223372036854775807:=by omega
 simp[lim,q1,O,S,U,W,Y,Z];refine aJ (fun i E F=>E 0=lim x/\E 1=.int .i64 n/\E 21=lim x/\E 22=.int .i64 x.length/\E 23=.int .i64 i /\
  ∃c o G g blk,F=H++G/\c<2^s/\Li o/\E 6=.int .u64 (c:Nat)/\E 5=.ref (H.length+g) 1 0 (q+i)/\G[g]?=some (some ⟨1,blk,true,true⟩)/\blk.take (q+i)=o.map u32/\o.length=q+i/\q+i<=blk.length /\
   o++cB s c (x.drop i)=List.replicate q 0++cB s 0 x) x.length ?_ ?_
 ·simp[lim];refine⟨0,Vl s,List.replicate q 0,?_,rfl,?_,by simp,by omega,rfl⟩
  ·intro y B;rw[(List.mem_replicate.1 B).2];omega
  ·rw[WW (by omega)];simp[u32]
 ·rintro i E F hi ⟨I,h1,e,h,j,c,o,G,g,blk,rfl,N,lo,K,J,z,M,ho,m,b⟩;simp only[lim]at I e;have r:=(Vi.1 z).1;rcases Vm i x.length with d|hge
  ·have f1:IntKind.i64.wrap ((i:Int)+1)=((i+1:Nat):Int):=by rw[wrap_i64]<;>omega
   have f2:(n:Int).tmod 32=s:=by rw[VZ (by omega)];exact s1
   have D:x[i]<4294967296:=lx _ (Vy d);have f3:IntKind.u64.wrap (x[i]:Int)=x[i]:=cJ _ (by omega);obtain⟨v,u⟩:=UJ t D N;rw[Wo d,cB]at b;have⟨P,w⟩:∃P,P=x[i]*2^s:=⟨_,rfl⟩
   have f4:cH .shl .u64 (x[i]:Int) (s:Int)=some (.int .u64 (P:Int)):=by rw[eU _ _ (by omega) (by omega),w]
   have f5:aR .or .u64 (P:Int) (c:Int)=some ((P+c:Nat):Int):=by rw[w];exact q9 _ _ _ (by omega) N (by omega)
   rw[<-w]at v u b;have⟨T,hT⟩:∃T,T=P+c:=⟨_,rfl⟩
   rw[<-hT]at f5 v u b;have f6:IntKind.u32.wrap (T:Int)=((T%4294967296:Nat):Int):=nJ T;have f7:cH .shr .u64 (T:Int) 32=some (.int .u64 ((T/4294967296:Nat):Int)):=cf T 32 (by omega);have⟨L,hL⟩:∃L,L=T%4294967296:=⟨_,rfl⟩
   have⟨C,hC⟩:∃C,C=T/4294967296:=⟨_,rfl⟩
   rw[<-hL]at f6 b;rw[<-hC]at f7 b u;have f8:(q+i+1)*4<=140737488355328:=by omega
   have f9:(G++[some ⟨1,[V.int IntKind.u32 L],true,true⟩])[g]?=some (some ⟨1,blk,true,true⟩):=by rw[Vr r];exact z
   simp[Ip,I,h1,e,h,j,J,K,d,u32,f1,f2,f3,f4,f5,f6,f7,f8,m,f9,lim];refine⟨C,u,o++[L],lo.append (by intro y B;simp at B;omega),rfl,G.length+1,⟨rfl,by omega⟩,List.take (q+i) blk++[V.int IntKind.u32 ↑L],?_,?_,by simp;omega,by simp;omega,by simpa using b⟩
   ·rw[VD (by simp)];simp
   ·rw[M,VC (by simp;omega)];simp[u32]
  ·have A:i=x.length:=by omega
   subst A;have v:2^s<=2^31:=Vg (by omega) (by omega);have f6:IntKind.u32.wrap (c:Int)=c:=eN c (by omega);have f8:(q+x.length+1)*4<=140737488355328:=by omega
   have f9:(G++[some ⟨1,[V.int IntKind.u32 c],true,true⟩])[g]?=some (some ⟨1,blk,true,true⟩):=by rw[Vr r];exact z
   simp[Ip,h,j,J,K,f6,f8,f9,m,fin,fK,zB];simp[cB]at b;have p:c%4294967296=c:=by omega
   rw[p]at b;rw[<-b]at k;rw[VC (l:=List.take _ blk++_) (by simp;omega),M];have hl:(o++[c]).length=q+x.length+1:=by simp[ho]
   rw[hl]at k;refine⟨_,_,⟨rfl,rfl⟩,?_⟩;simpa[u32]using k
def kV (a:List Nat)(n:Nat):List Nat:=if 256<(aB (aa a*2^n)).length then []else aB (aa a*2^n)
theorem rf (a:List Nat)(n:Nat)(h:a.length<=256)(c:Li a)(i:n<=65536):CQ prog Y3 [lim a,.int .i64 n] (.tup [lim (kV a n),.int .i64 (if 256<(aB (aa a*2^n)).length then 9 else 0)]):=by
 refine ap rfl fun H=>?_
 simp;refine bt rfl rfl (H1:=H++[some ⟨1,[lim a],true,false⟩]) (by simp[prep,ah,aF];rfl) (pC [a] (by simp)) ?_;have d:¬(256<a.length):=by omega
 have g:(n:Int)<=65536:=by omega
 have e:¬((65536:Int)<n):=by omega
 have f:¬((n:Int)<0):=by omega
 simp[d,e,f];refine pL rfl rfl rfl (o6 a n (by omega) c (by omega) _ _ ?_);simp;refine bt rfl rfl (H1:=H++[some ⟨1,[lim a],true,false⟩,some ⟨1,(df a n).map u32,true,false⟩]) (vs:=[lim (df a n)]) (by refine WZ (b:=ah _ _) rfl ?_;simp[ah,aF,gk,lim,VC]) (xC (df a n) (by have:=UK (a:=a) (n:=n);omega)) ?_;rw[eh DK,B5 c];simp[kV]
theorem q5e (a:List Nat)(n:Nat)(b:a.length<=256)(d:Li a)(c:n<=65536):CQ prog qzn [lim a,.int .i64 n] (lim (kV a n)):=by
 refine ap rfl fun H=>?_
 simp;refine ak rfl rfl rfl (rf a n b d c) ?_;simp
theorem sV (a:List Nat)(b:a.length<=100000000)(c:Li a):CQ prog q80 [lim a] (.int .i64 (ac (aa a))):=by
 refine ap rfl fun H=>?_
 simp;refine ak rfl rfl rfl (po a b c) ?_;simp[i64]
def Dy.inR (d:Dy):Bool:=
 ac (aa d.m) == 0 || (decide (ac (aa d.m)<=4096)&&decide (-16384<=d.e)&&decide (d.e<=16384)&&decide (ac (aa d.m)+d.e<=16384))
theorem q59 (d:Dy)(a:d.m.length<=100000000)(b:Li d.m):CQ prog qzo [d.v] (.bool d.inR):=by
 refine ap rfl fun H=>?_
 simp;refine ak rfl rfl rfl (sV _ a b) ?_;have c:ac (aa d.m)<=4096->-16384<=d.e->d.e<=16384->IntKind.i64.wrap ((ac (aa d.m):Int)+d.e)=ac (aa d.m)+d.e:=by intros;rw[wrap_i64]<;>omega
 simp[Dy.inR];grind
def Dy.valid (d:Dy):Bool:=
 match d.m with
 | []=>!d.neg&&decide (d.e=0)
 |x :: l=>decide ((x :: l).length<=256)&&decide (x%2=1)&&decide ((x :: l).getLast (by simp)≠0)&&d.inR
set_option maxHeartbeats 1000000 in
theorem kE (d:Dy)(c:d.m.length<=100000000)(h:Li d.m):CQ prog Y8 [d.v] (.bool d.valid):=by
 refine ap rfl fun H=>?_
 rcases d with ⟨neg,m,e⟩;rcases m with _|⟨x,l⟩
 ·simp[lim,Dy.valid];grind
 ·have r:x<4294967296:=h x (by simp);have i:((l.length:Int)+1≠0):=by omega
  have a:(x:Int).tmod 2=((x%2:Nat):Int):=by rw[VZ (by omega)];omega
  have⟨y,g⟩:∃y,y=x%2:=⟨_,rfl⟩
  have⟨t,f⟩:∃t,t=(x :: l).getLast (by simp):=⟨_,rfl⟩
  have j:IntKind.i64.wrap (l.length:Int)=l.length:=by rw[wrap_i64]<;>(simp at c;omega)
  have k:(x :: l)[l.length]?=some t:=by rw[f,aaU];simp
  have b:((V.int IntKind.u32 (x:Int)) :: List.map u32 l)[l.length]?=some (.int .u32 t):=by
   have:=W2 (Option.map u32) k;rw[<-WE]at this;exact this
  have n:((V.int IntKind.u32 (x:Int)) :: List.map u32 l)[l.length]'(by simp)=.int .u32 t:=by
   rw[k9 (by simp)]at b;injection b
  rw[<-g]at a;have hv:Dy.valid ⟨neg,x :: l,e⟩=(decide (l.length+1<=256)&&decide (y=1)&&decide (t≠0)&&Dy.inR ⟨neg,x :: l,e⟩):=by
   simp[Dy.valid,g,f]
  rw[hv];simp[lim,u32,i,a,j,n];refine⟨fun o=>⟨fun p=>⟨fun q=>?_,fun q=>?_⟩,fun p=>?_⟩,fun o=>?_⟩
  ·refine ak rfl rfl rfl (q59 ⟨neg,x :: l,e⟩ c h) ?_;simp;grind
  all_goals grind
def Dy.absN (d:Dy):Nat:=aa d.m*2^(d.e+16384).toNat
def Dy.val (d:Dy):Int:=if d.neg then -(d.absN:Int)else d.absN
def Dy.top (d:Dy):Int:=if d.m=[]then 0 else ac (aa d.m)+d.e
def Dy.sgn (d:Dy):Int:=if d.m=[]then 0 else if d.neg then -1 else 1
def cG (a b:Int):Int:=if a<b then -1 else if b<a then 1 else 0
structure Dy.Ok (d:Dy):Prop where
 li:Li d.m
 tr:Trim d.m
 len:d.m.length<=256
 zero:d.m=[]->d.neg=false/\d.e=0
 odd:d.m≠[]->aa d.m%2=1
 bits:ac (aa d.m)<=4096
 elo:-16384<=d.e
 ehi:d.e<=16384
 top:ac (aa d.m)+d.e<=16384
theorem gf {l:List Nat}(h:Trim l)(b:l≠[]):aa l≠0:=fun a=>b (Bc h a)
theorem Dy.Ok.of {d:Dy}(li:Li d.m)(h:d.valid=true):d.Ok:=by
 rcases d with ⟨neg,m,e⟩;rcases m with _|⟨x,l⟩
 ·simp[Dy.valid]at h;obtain⟨b,c⟩:=h;subst b;subst c;exact⟨li,by intro x q;simp at q,by simp,by simp,by simp,by decide,by decide,by decide,by decide⟩
 ·simp only[Dy.valid,VA,VT]at h;obtain⟨⟨⟨b,c⟩,n⟩,f⟩:=h;have tr:Trim (x :: l):=by
   intro y a;rw[W9 (by simp)]at a;injection a with a
   rw[<-a];exact n
  have p:=gf tr (by simp);have o:ac (aa (x :: l))≠0:=by
   have:=(eF p).2.2;omega
  simp only[Dy.inR,WF,VA,VT,abC,o,false_or]at f;obtain⟨⟨⟨g,i⟩,j⟩,k⟩:=f;exact⟨li,tr,b,by simp,fun _=>by simp only[aa];omega,g,i,j,k⟩
theorem Dy.Ok.valid {d:Dy}(h:d.Ok):d.valid=true:=by
 rcases d with ⟨neg,m,e⟩;rcases m with _|⟨x,l⟩
 ·have:=h.zero rfl;simp only at this;simp[Dy.valid,this.1,this.2]
 ·simp only[Dy.valid,VA,VT];refine⟨⟨⟨h.len,?_⟩,?_⟩,?_⟩
  ·have:=h.odd (by simp);simp only[aa]at this;omega
  ·exact h.tr _ (W9 (by simp))
  ·simp[Dy.inR,h.bits,h.elo,h.ehi,h.top]
structure Dy.G (d:Dy):Prop where
 li:Li d.m
 tr:Trim d.m
 zero:d.m=[]->d.neg=false/\d.e=0
 elo:-16384<=d.e
theorem Dy.Ok.toG {d:Dy}(h:d.Ok):d.G:=⟨h.li,h.tr,h.zero,h.elo⟩
theorem Dy.G.absN_ne {d:Dy}(h:d.G)(a:d.m≠[]):d.absN≠0:=by
 unfold Dy.absN;exact XD (gf h.tr a) (abK (Vl _))
theorem Dy.absN_nil {d:Dy}(a:d.m=[]):d.absN=0:=by simp[Dy.absN,a,aa]
theorem Dy.Ok.absN_ne {d:Dy}(h:d.Ok)(a:d.m≠[]):d.absN≠0:=h.toG.absN_ne a
theorem Dy.G.absN_bounds {d:Dy}(h:d.G)(a:d.m≠[]):2^(d.top+16383).toNat<=d.absN/\d.absN<2^(d.top+16384).toNat:=by
 obtain⟨b,c,e⟩:=eF (gf h.tr a);have f:=h.elo;unfold Dy.top Dy.absN;rw[Vk a];rw[show((ac (aa d.m):Int)+d.e+16383).toNat=(ac (aa d.m)-1)+(d.e+16384).toNat by omega,show((ac (aa d.m):Int)+d.e+16384).toNat=ac (aa d.m)+(d.e+16384).toNat by omega,Vs,Vs];exact⟨Vn _ b,V7 c (Vl _)⟩
theorem Dy.Ok.absN_bounds {d:Dy}(h:d.Ok)(a:d.m≠[]):2^(d.top+16383).toNat<=d.absN/\d.absN<2^(d.top+16384).toNat:=h.toG.absN_bounds a
theorem Dy.G.top_pos {d:Dy}(h:d.G)(a:d.m≠[]):1<=d.top+16384:=by
 obtain⟨_,_,b⟩:=eF (gf h.tr a);have:=h.elo;unfold Dy.top;rw[Vk a];omega
theorem Dy.Ok.top_pos {d:Dy}(h:d.Ok)(a:d.m≠[]):1<=d.top+16384:=h.toG.top_pos a
theorem Eh {a b:Dy}(c:a.G)(e:b.G)(d:a.m≠[])(f:b.m≠[])(h:a.top<b.top):a.absN<b.absN:=by
 have g:=(c.absN_bounds d).2;have i:=(e.absN_bounds f).1;have j:=c.top_pos d;have:2^(a.top+16384).toNat<=2^(b.top+16383).toNat:=Vg (by omega) (by omega);omega
theorem q3s {a b:Dy}(c:a.Ok)(d:b.Ok)(e:a.m≠[])(f:b.m≠[])(h:a.top<b.top):a.absN<b.absN:=Eh c.toG d.toG e f h
theorem ub {d:Dy}{e:Int}(a:-16384<=e)(b:e<=d.e):d.absN=aa d.m*2^(d.e-e).toNat*2^(e+16384).toNat:=by
 unfold Dy.absN;rw[Vt,<-Vs]
 congr 2;omega
theorem ZT {x y k:Nat}(a:0<k):aL (x*k) (y*k)=aL x y:=by
 unfold aL;simp only[Nat.mul_lt_mul_right a]
theorem Np {x y:Nat}:cG x y=aL x y:=by
 unfold cG aL;split<;>split<;>(try split)<;>omega
theorem Nq {x y:Nat}:cG (-(x:Int)) (-(y:Int))=- aL x y:=by
 unfold cG aL;repeat' split
 all_goals omega
theorem z7 {a b:Dy}(k:a.G)(i:b.G):cG a.val b.val=if a.sgn<b.sgn then -1 else if b.sgn<a.sgn then 1 else if a.sgn=0 then 0 else a.sgn*aL a.absN b.absN:=by
 have l:=k.zero;have m:=i.zero;by_cases d:a.m=[]
 ·have g:=Dy.absN_nil d;have h:=(l d).1;by_cases c:b.m=[]
  ·have e:=Dy.absN_nil c;simp[Dy.val,Dy.sgn,d,c,g,e,cG]
  ·have e:=i.absN_ne c;cases f:b.neg<;>simp[Dy.val,Dy.sgn,d,c,g,h,f,cG]<;>omega
 ·have g:=k.absN_ne d;by_cases c:b.m=[]
  ·have e:=Dy.absN_nil c;have h:=(m c).1;cases f:a.neg<;>simp[Dy.val,Dy.sgn,d,c,e,h,f,cG]<;>omega
  ·have e:=i.absN_ne c;cases f:a.neg<;>cases j:b.neg<;>simp[Dy.val,Dy.sgn,d,c,f,j,Np,Nq]<;>simp[cG]<;>omega
theorem Md {a b:Dy}(c:a.Ok)(d:b.Ok):cG a.val b.val=if a.sgn<b.sgn then -1 else if b.sgn<a.sgn then 1 else if a.sgn=0 then 0 else a.sgn*aL a.absN b.absN:=z7 c.toG d.toG
theorem MM {a b:Dy}(c:a.Ok)(f:b.Ok)(i:a.m≠[])(j:b.m≠[])(h:a.absN=b.absN):a.m=b.m/\a.e=b.e:=by
 have g:∀{a b:Dy},a.Ok->b.Ok->a.m≠[]->b.m≠[]->a.absN=b.absN->¬a.e<b.e:=by
  intro a b c f i j h o;have k:=ub (d:=b) (e:=a.e) c.elo (by omega);unfold Dy.absN at h k;rw[k]at h;have m:=Xe (Vl _) h;have n:=c.odd i;rw[m,show(b.e-a.e).toNat=(b.e-a.e).toNat-1+1 by omega,VH,<-Vt]at n;omega
 have l:a.e=b.e:=by
  have:=g c f i j h;have:=g f c j i h.symm;omega
 refine⟨?_,l⟩;unfold Dy.absN at h;rw[l]at h;exact N8 c.li f.li c.tr f.tr (Xe (Vl _) h)
theorem qF {a b:Dy}(i:a.Ok)(e:b.Ok)(h:a.val=b.val):a=b:=by
 have n:=i.zero;have o:=e.zero;by_cases f:a.m=[]
 ·by_cases c:b.m=[]
  ·obtain⟨g,p⟩:=n f;obtain⟨d,l⟩:=o c;cases a;cases b;simp_all
  ·have d:=e.absN_ne c;have g:=Dy.absN_nil f;simp[Dy.val,g]at h;split at h<;>omega
 ·have g:=i.absN_ne f;by_cases c:b.m=[]
  ·have d:=Dy.absN_nil c;simp[Dy.val,d]at h;split at h<;>omega
  ·have d:=e.absN_ne c;have j:a.absN=b.absN/\a.neg=b.neg:=by
    cases m:a.neg<;>cases k:b.neg<;>simp[Dy.val,m,k]at h ⊢<;>omega
   obtain⟨l,q⟩:=MM i e f c j.1;cases a;cases b;simp_all
set_option maxHeartbeats 4000000
def Dy.cmp (a b:Dy):Int:=if a.valid&&b.valid then cG a.val b.val else 0
structure Dy.W (d:Dy):Prop where
 li:Li d.m
 len:d.m.length<=100000000
theorem Dy.Ok.w {d:Dy}(h:d.Ok):d.W:=⟨h.li,Vp h.len (by omega)⟩
theorem mX (d:Dy)(w:d.W):CQ prog q81 [d.v] (.int .i64 (if d.valid then d.sgn else 0)):=by
 refine ap rfl fun H=>?_
 simp;refine ak rfl rfl rfl (kE d w.len w.li) ?_;have e:(d.m=[])↔(d.m.length:Int)=0:=by simp
 simp[lim,Dy.sgn];grind
theorem lf (d:Dy)(w:d.W):CQ prog RT [d.v] (.int .i64 (if d.valid then d.top else 0)):=by
 refine ap rfl fun H=>?_
 simp;refine ak rfl rfl rfl (kE d w.len w.li) ?_;have e:(d.m=[])↔(d.m.length:Int)=0:=by simp
 simp[lim,Dy.top];refine⟨fun h=>by simp[h],fun h=>?_⟩;have ok:=Dy.Ok.of w.li h;refine⟨fun b _ c=>absurd b c,fun f=>?_⟩;refine ak rfl rfl rfl (sV d.m w.len w.li) ?_;have a:IntKind.i64.wrap ((ac (aa d.m):Int)+d.e)=ac (aa d.m)+d.e:=by
  have:=ok.bits;have:=ok.elo;have:=ok.ehi;rw[wrap_i64]<;>omega
 simp[h,f,a]
theorem vZ {a:List Nat}{n B:Nat}(h:aa a*2^n<2^B)(b:B<=8192):aa (kV a n)=aa a*2^n:=by
 have:(aB (aa a*2^n)).length<=256:=ny h (by omega);unfold kV;rw[Vk (by omega),aP]
theorem vY {a:List Nat}{n:Nat}:Li (kV a n):=by
 unfold kV;split
 ·intro x b;simp at b
 ·exact aY _
theorem ye {a:List Nat}{n:Nat}:(kV a n).length<=256:=by
 unfold kV;split
 ·simp
 ·omega
theorem Qk (a b:Dy)(c:a.Ok)(f:b.Ok)(l:a.m≠[])(m:b.m≠[]):CQ prog qzp [a.v,b.v] (.int .i64 (aL a.absN b.absN)):=by
 refine ap rfl fun H=>?_
 have x:=c.valid;have y:=f.valid;simp;refine ak rfl rfl rfl (lf a c.w) ?_;simp;refine ak rfl rfl rfl (lf b f.w) ?_;simp[x,y];refine⟨fun h=>?_,fun h=>⟨fun p=>?_,fun p=>?_⟩⟩
 ·have:=q3s c f l m h;simp[aL,this]
 ·have:=q3s f c m l p;have q:¬a.absN<b.absN:=by omega
  simp[aL,this,q]
 ·have r:a.top=b.top:=by omega
  have⟨e,u⟩:∃e,e=min a.e b.e:=⟨_,rfl⟩
  have o:(if b.e<a.e then b.e else a.e)=e:=by rw[u];split<;>omega
  have q:=c.elo;have z:=c.ehi;have A:=f.elo;have B:=f.ehi;have C:=c.bits;have D:=f.bits;have⟨i,hi⟩:∃i,i=(a.e-e).toNat:=⟨_,rfl⟩
  have⟨j,v⟩:∃j,j=(b.e-e).toNat:=⟨_,rfl⟩
  have s:IntKind.i64.wrap (a.e-e)=i:=by rw[wrap_i64]<;>omega
  have t:IntKind.i64.wrap (b.e-e)=j:=by rw[wrap_i64]<;>omega
  simp[o,s];refine ak rfl rfl rfl (q5e a.m i c.len c.li (by omega)) ?_;simp[t];refine ak rfl rfl rfl (q5e b.m j f.len f.li (by omega)) ?_;simp;refine ak rfl rfl rfl (my _ _ (by have:=ye (a:=a.m) (n:=i);omega) (by have:=ye (a:=b.m) (n:=j);omega) vY vY) ?_;have g:∀{d:Dy} {k:Nat},d.Ok->d.m≠[]->aa d.m*2^k<2^(ac (aa d.m)+k):=by
   intro d k od w;have:=(eF (gf od.tr w)).2.1;rw[Vs];exact V7 this (Vl k)
  unfold Dy.top at r;rw[Vk l,Vk m]at r;rw[vZ (g c l) (by omega),vZ (g f m) (by omega)];rw[ub (d:=a) (e:=e) (by omega) (by omega),ub (d:=b) (e:=e) (by omega) (by omega),<-hi,<-v,ZT (Vl _)];simp[i64]
theorem lj (a b:Dy)(i:a.W)(j:b.W):CQ prog RR [a.v,b.v] (.int .i64 (a.cmp b)):=by
 refine ap rfl fun H=>?_
 simp;refine ak rfl rfl rfl (kE a i.len i.li) ?_;simp;refine⟨fun d=>by simp[Dy.cmp,d],fun d=>?_⟩;refine ak rfl rfl rfl (kE b j.len j.li) ?_;simp;refine⟨fun e=>by simp[Dy.cmp,e],fun e=>?_⟩;refine ak rfl rfl rfl (mX a i) ?_;simp;refine ak rfl rfl rfl (mX b j) ?_;have n:=Dy.Ok.of i.li d;have o:=Dy.Ok.of j.li e;simp[d,e,Dy.cmp,Md n o];refine⟨fun r=>by grind,fun r=>⟨fun l=>?_,fun l=>?_⟩⟩
 ·have k:¬a.sgn<b.sgn:=by omega
  simp[k,l]
 have k:¬a.sgn<b.sgn:=by omega
 have p:¬b.sgn<a.sgn:=by omega
 simp[k,p];refine⟨fun f=>by simp[f],fun f=>?_⟩;have m:a.m≠[]:=fun h=>f (by simp[Dy.sgn,h])
 have s:b.m≠[]:=fun h=>by
  have:b.sgn=0:=by simp[Dy.sgn,h]
  omega
 refine ak rfl rfl rfl (Qk a b n o m s) ?_;have q:IntKind.i64.wrap (a.sgn*aL a.absN b.absN)=a.sgn*aL a.absN b.absN:=by
  have g:a.sgn=1\/a.sgn=-1:=by unfold Dy.sgn;rw[Vk m];split<;>simp
  have c:aL a.absN b.absN=1\/aL a.absN b.absN=-1\/aL a.absN b.absN=0:=by unfold aL;split<;>(try split)<;>simp
  rcases g with g|g<;>rcases c with c|c|c<;>rw[g,c]<;>decide
 simp[q,f]
end Go.Abs.W
namespace Go.Abs.W
structure Out (H0 H:ab)(v:V)(z:Nat)(l:List V):Prop where
 pre:H0 <+: H
 val:(l=[]/\v=.nil)\/∃b blk,H0.length<=b/\v=.ref b z 0 l.length/\H[b]?=some (some ⟨z,blk,true,true⟩)/\blk.take l.length=l/\l.length<=blk.length
theorem Out.nil {H:ab}{z:Nat}:Out H H .nil z []:=⟨VJ _,.inl ⟨rfl,rfl⟩⟩
theorem Out.grow {c H:ab}{v:V}{z:Nat}{l:List V}(h:Out c H v z l)(t:ab):Out c (H++t) v z l:=by
 refine⟨jx h.pre,?_⟩;rcases h.val with a|⟨b,blk,a,e,d,f⟩
 ·exact .inl a
 ·exact .inr ⟨b,blk,a,e,by rw[Vr (Vi.1 d).1];exact d,f⟩
theorem qX {a H:ab}{b:Nat}{x:Option Blk}(h:a <+: H)(c:a.length<=b):a <+: H.set b x:=by
 obtain⟨t,rfl⟩:=h;rw[aae _ _ c];exact Wl _ _
theorem Out.app {e H:ab}{v y:V}{z bytes:Nat}{l ys:List V}(h:Out e H v z l)(n:elems H y=some ys)(hz:fF z ys=true)(g:ys≠[])(f:(l.length+ys.length)*bytes<=140737488355328) :
 ∃i d,fP z bytes v y H=some (i,d)/\Out e d i z (l++ys):=by
 unfold fP;rw[n];simp only[V3,hz,Wm];rcases h.val with ⟨a,c⟩|⟨b,blk,a,c,j,k,m⟩
 ·subst a;subst c;have:jo ys.length bytes=true:=by simp[jo];simpa using f
  simp only[g,V8,this,Wm];refine⟨_,_,rfl,jx h.pre,.inr ⟨H.length,ys,h.pre.length_le,by simp,by simp,by simp,by simp⟩⟩
 ·subst c;have:jo (l.length+ys.length) bytes=true:=by simp[jo];simpa using f
  simp only[j,g,V8,this];simp only[W1,m,and_self,Wm,aaA,k];refine⟨_,_,rfl,jx (qX h.pre a),.inr ⟨H.length,l++ys,h.pre.length_le,by simp,?_,by rw[VC];simp,by simp⟩⟩;rw[VD (by simp)];simp
theorem Out.frz {e H:ab}{v:V}{z:Nat}{l:List V}(h:Out e H v z l):∃a,e <+: a/\bm H v=some (.sl l,a)/\d6 H v=some (.sl l,a):=by
 rcases h.val with ⟨c,d⟩|⟨b,blk,c,d,f,g,i⟩
 ·subst c;subst d;exact⟨H,h.pre,rfl,rfl⟩
 ·subst d;refine⟨H.set b (some ⟨z,blk,true,false⟩),qX h.pre c,?_,?_⟩
  ·simp[f,g,i]
  ·simp[f,g,i]
theorem Out.fin {c H1 H:ab}{v:V}{z:Nat}{l:List V}(h:Out c H v z l)(g:H1 <+: c):Go.Abs.fin false H1.length H v=some (.sl l,H1):=by
 obtain⟨j,d,k,f⟩:=h.frz;have:Go.Abs.fin false H1.length H v=(d6 H v).bind fun(i,a)=>some (i,a.take H1.length):=by
  rcases h.val with ⟨_,e⟩|⟨b,blk,_,e,_⟩<;>subst e<;>rfl
 rw[this,f];simp[jn (g.trans d)]
theorem Out.prep {d H:ab}{v:V}{z g:Nat}{l:List V}(h:Out d H v z l)(c:(prog.fn g).elim true (fun f=>!f.raw)=true):∃a,d <+: a/\prep prog g H [v]=some ([.sl l],a):=by
 obtain⟨a,i,j,m⟩:=h.frz;refine⟨a,i,?_⟩;have e:ah H [v]=some ([.sl l],a):=by
  have:aF H v=bm H v:=by
   rcases h.val with ⟨_,e⟩|⟨b,blk,_,e,_⟩<;>subst e<;>rfl
  simp[ah,this,j]
 unfold Go.Abs.prep;cases k:prog.fn g with
 |none=>exact e
 |some f=>
  rw[k]at c;simp at c;simp[c,e]
theorem Out.oneIv {b H:ab}{v:V}{l:List Iv}(h:Out b H v 7 (l.map Iv.v))(x:Iv)(d:l.length+1<=1000000000) :
 ∃c a,fP 7 88 v (.ref H.length 7 0 1) (H++[some ⟨7,[x.v],true,true⟩])=some (c,a)/\Out b a c 7 ((l++[x]).map Iv.v):=by
 have:=(h.grow [some ⟨7,[x.v],true,true⟩]).app (y:=.ref H.length 7 0 1) (ys:=[x.v]) (bytes:=88) (by simp) (by simp) (by simp) (by simp;omega);simpa using this
set_option maxHeartbeats 4000000
theorem Ak {k:Nat}(h:k≠0):ac k=ac (k/2)+1:=by
 by_cases a:k=1
 ·subst a;decide
 ·have:=uc (n:=k) (k:=1) (by omega);simpa using this
theorem tM (l:List Nat)(z:l.length<=1000000000):CQ prog uh [lim l] (lim (trimL l)):=by
 refine ap rfl fun H=>?_
 simp[lim];refine e9 (fun k E s=>s=H/\E 0=lim l/\k<=l.length/\E 3=.int .i64 k/\a9 l k=a9 l l.length) l.length ?_ ?_
 ·simp[lim]
 ·rintro n E s ⟨rfl,i,v,o,q⟩;refine b9 ?_;simp only[lim]at i;have f:∀k,k<=l.length->k*4<=140737488355328:=by omega
  have b:∀k,k=a9 l l.length->k<=l.length->(List.take k (List.map u32 l))=List.map u32 (trimL l):=by
   intro k u _;rw[trimL,u,aaL]
  rcases n with _|n
  ·have g:=b 0 (by rw[<-q];rfl) (by omega);simp[Dd,i,o,fP,<-g]
  ·have t:IntKind.i64.wrap (n:Int)=n:=by rw[wrap_i64]<;>omega
   have a:n<l.length:=by omega
   have y:(0:Int)<=(n:Int)+1:=by omega
   have p2:(0:Int)<(n:Int)+1:=by omega
   by_cases j:l[n]=0
   ·simp[Dd,i,o,t,a,j,u32,p2];refine⟨n,by omega,rfl,by omega,rfl,?_⟩;rw[<-q,a9,Vh (by rw[k9 a,j])]
   ·have w:¬((l[n]:Int)=0):=by omega
    have g:=b (n+1) (by rw[<-q,a9,Vk (by rw[k9 a];simpa using j)]) (by omega);have f8:=f (n+1) (by omega);have p:l≠[]:=by intro h;rw[h]at a;simp at a
    have c:fF 1 (List.take (n+1) (List.map u32 l))=true:=by
     cases l with
     |nil=>exact absurd rfl p
     |cons x l=>simp[fF]
    have⟨m,e⟩:∃m,m=List.take (n+1) (List.map u32 l):=⟨_,rfl⟩
    rw[<-e]at c g;have d:m.length=n+1:=by rw[e];simp;omega
    have r:m≠[]:=by intro h;rw[h]at d;simp at d
    simp only[fF]at c;simp[Dd,i,o,t,a,j,u32,y,p2,v,fP,<-e];rw[Vh c];simp[d,f8,r];rw[<-g,VC (by omega)]
theorem PQ : CQ prog Gt [lim []] (.int .i64 0):=by
 refine ap rfl fun H=>?_
 simp[lim]
theorem NE (l:List Nat)(t:Nat)(v:l.length<=1000000)(r:t<4294967296):CQ prog Gt [lim (l++[t])] (.int .i64 ((32*l.length+ac t:Nat))):=by
 refine ap rfl fun H=>?_
 have f:IntKind.i64.wrap (l.length:Int)=l.length:=by rw[wrap_i64]<;>omega
 have g:IntKind.i64.wrap (32*(l.length:Int))=32*l.length:=by rw[wrap_i64]<;>omega
 have h:¬((l.length:Int)+1=0):=by omega
 simp[lim,f,g,h,u32];have s:=tG r;refine e9 (fun k E b=>b=H/\E 4=.int .u32 k/\k<=t/\ac k<=ac t/\E 3=.int .i64 ((32*l.length+(ac t-ac k):Nat))) t ?_ ?_
 ·simp
 ·rintro k E b ⟨rfl,e,u,m,a⟩;refine b9 ?_;rcases Wu k with rfl|q
  ·simp[IF,e,a,ac]
  ·have d:cH .shr .u32 (k:Int) 1=some (.int .u32 ((k/2:Nat):Int)):=by have:=fm k 1 (by omega);simpa using this
   have⟨j,p⟩:∃j,j=k/2:=⟨_,rfl⟩
   have o:=Ak (k:=k) (by omega);rw[<-p]at d o;have⟨c,n⟩:∃c,c=32*l.length+(ac t-ac k):=⟨_,rfl⟩
   rw[<-n]at a;have i:IntKind.i64.wrap ((c:Int)+1)=((32*l.length+(ac t-ac j):Nat):Int):=by rw[wrap_i64]<;>omega
   simp[IF,e,a,q,d,i];exact⟨j,by omega,rfl,by omega,by omega,rfl⟩
theorem q0v (x y:List Nat)(v:x.length<=9223372036854775807)(t:Li x)(u:Li y)(s:x.length=y.length\/(Trim x/\Trim y)):CQ prog qxs [lim x,lim y] (.int .i64 (aL (aa x) (aa y))):=by
 refine ap rfl fun H=>?_
 by_cases a:x.length<y.length
 ·have c:¬((x.length:Int)=(y.length:Int)):=by omega
  have e:=u9 t (by rcases s with h|h;omega;exact h.2) a;simp[lim,a,c,aL,e]
 ·by_cases b:y.length<x.length
  ·have c:¬((x.length:Int)=(y.length:Int)):=by omega
   have e:=u9 u (by rcases s with h|h;omega;exact h.1) b;have p:¬aa x<aa y:=by omega
   simp[lim,a,c,aL,e,p]
  ·have f:x.length=y.length:=by omega
   simp[lim,f];refine e9 (fun k E r=>r=H/\E 0=lim x/\E 1=lim y/\k<=x.length/\E 5=.int .i64 ((k:Int)-1)/\x.drop k=y.drop k) x.length ?_ ?_
   ·have d:IntKind.i64.wrap ((y.length:Int)-1)=(y.length:Int)-1:=by rw[wrap_i64]<;>omega
    have o:y.drop x.length=[]:=by rw[f];exact List.drop_length
    simp[lim,d,f]
   ·rintro n E r ⟨rfl,j,c,w,l,m⟩;refine b9 ?_;simp only[lim]at j c;rcases n with _|n
    ·have d:x=y:=by simpa using m
     have o:¬((0:Int)<=-1):=by omega
     simp[vf,l,d,aL]
    ·have d:(n+1:Int)-1=n:=by omega
     have g:n<x.length:=by omega
     have i:n<y.length:=by omega
     have q:((0:Int)<=n):=by omega
     by_cases a:x[n]<y[n]
     ·have e:=CY t g i m a;simp[vf,j,c,l,d,q,g,i,u32,a,aL,e]
     ·by_cases b:y[n]<x[n]
      ·have e:=CY u i g m.symm b;have p:¬aa x<aa y:=by omega
       simp[vf,j,c,l,d,q,g,i,u32,a,b,aL,e,p]
      ·have o:IntKind.i64.wrap ((n:Int)-1)=(n:Int)-1:=by rw[wrap_i64]<;>omega
       simp[vf,j,c,l,d,q,g,i,u32,a,b,o];refine⟨n,by omega,rfl,rfl,by omega,rfl,?_⟩;rw[Wo g,Wo i,m]
       congr 1
       omega
theorem OQ {a b:Nat}:aL a b=0↔a=b:=by unfold aL;split<;>(try split)<;>omega
end Go.Abs.W
namespace Go.Abs.W
theorem Out.one {b H:ab}{v:V}{l:List Nat}(h:Out b H v 1 (l.map u32))(x:Nat)(d:l.length+1<=1000000000) :
 ∃c a,fP 1 4 v (.ref H.length 1 0 1) (H++[some ⟨1,[.int .u32 x],true,true⟩])=some (c,a)/\Out b a c 1 ((l++[x]).map u32):=by
 have:=(h.grow [some ⟨1,[.int .u32 x],true,true⟩]).app (y:=.ref H.length 1 0 1) (ys:=[.int .u32 x]) (bytes:=4) (by simp) (by simp) (by simp) (by simp;omega);simpa[u32]using this
set_option maxHeartbeats 2000000 in
theorem xH (x:List Nat)(n:Nat)(hx:x.length<=1000000)(D:Li x)(hn:n<=10000000):CQ prog q4t [lim x,.int .i64 n] (lim (aB (aa x*2^n))):=by
 refine ap rfl fun H=>?_
 have⟨q,S⟩:∃q,q=n/32:=⟨_,rfl⟩
 have⟨s,U⟩:∃s,s=n%32:=⟨_,rfl⟩
 have W:(n:Int)/32=q:=by omega
 have Y:(n:Int).tmod 32=s:=by rw[VZ (by omega)];omega
 have b:s<32:=by omega
 have F:IntKind.i64.wrap (q:Int)=q:=by rw[wrap_i64]<;>omega
 have I:q*4<=281474976710656/\q<=9223372036854775807:=by omega
 have J:IntKind.u64.wrap (s:Int)=s:=cJ _ (by omega);simp[lim,W,F,I];refine aJ (fun i E v=>E 0=lim x/\E 1=.int .i64 n/\E 7=.int .i64 i/\∃c o,c<2^s/\E 6=.int .u64 (c:Nat)/\Out H v (E 5) 1 (o.map u32)/\o.length=q+i/\Li o /\
  o++cB s c (x.drop i)=List.replicate q 0++cB s 0 x) x.length ?_ ?_
 ·simp[lim];refine⟨0,Vl s,rfl,List.replicate q 0,⟨by simp,.inr ⟨H.length,List.replicate q (V.int IntKind.u32 0),by simp,by simp,by simp,by simp[u32],by simp⟩⟩,by simp,?_,rfl⟩;intro y f;rw[(List.mem_replicate.1 f).2];omega
 ·rintro i E v hi ⟨m,M,A,c,o,B,z,w,ho,lo,a⟩;simp only[lim]at m;rcases Vm i x.length with d|Q
  ·have K:IntKind.i64.wrap ((i:Int)+1)=((i+1:Nat):Int):=by rw[wrap_i64]<;>omega
   have u:x[i]<4294967296:=D _ (Vy d);have f3:IntKind.u64.wrap (x[i]:Int)=x[i]:=cJ _ (by omega);obtain⟨l,h⟩:=UJ b u B;rw[Wo d,cB]at a;have⟨P,p⟩:∃P,P=x[i]*2^s:=⟨_,rfl⟩
   have f4:cH .shl .u64 (x[i]:Int) (s:Int)=some (.int .u64 (P:Int)):=by rw[eU _ _ (by omega) (by omega),p]
   have f5:aR .or .u64 (P:Int) (c:Int)=some ((P+c:Nat):Int):=by rw[p];exact q9 _ _ _ (by omega) B (by omega)
   rw[<-p]at l h a;have⟨T,hT⟩:∃T,T=P+c:=⟨_,rfl⟩
   rw[<-hT]at f5 l h a;have f6:aR .and .u64 (T:Int) 4294967295=some ((T%4294967296:Nat):Int):=kh T (by omega);have f7:cH .shr .u64 (T:Int) 32=some (.int .u64 ((T/4294967296:Nat):Int)):=cf T 32 (by omega);have⟨L,O⟩:∃L,L=T%4294967296:=⟨_,rfl⟩
   have⟨C,N⟩:∃C,C=T/4294967296:=⟨_,rfl⟩
   rw[<-O]at f6 a;rw[<-N]at f7 a h;have f8:IntKind.u32.wrap (L:Int)=L:=eN _ (by omega);obtain⟨Z,j,k,e⟩:=w.one L (by omega);simp[IH,m,M,z,A,d,u32,K,Y,f3,f4,f5,f6,f7,f8,J,k,lim];exact⟨C,h,rfl,o++[L],e,by simp;omega,lo.append (by intro y f;simp at f;omega),by simpa using a⟩
  ·have r:i=x.length:=by omega
   subst r;have l:2^s<=2^31:=Vg (by omega) (by omega);have f6:IntKind.u32.wrap (c:Int)=c:=eN c (by omega);obtain⟨Z,j,k,e⟩:=w.one c (by omega);simp[IH,m,z,A,f6,k];obtain⟨H3,t,G⟩:=e.prep (g:=uh) rfl;refine bt rfl rfl G (tM (o++[c]) (by simp;omega)) ?_;have hv:aa (o++[c])=aa x*2^n:=by
    simp[cB]at a;have:c%4294967296=c:=by omega
    rw[this]at a;rw[a,lF,qW,aaf,U7 b D (Vl _),bB,W1,VF,WM,<-Vs,S,U,Wy]
   rw[eh (lo.append (by intro y f;simp at f;omega)),hv];simp[jn t,lim]
set_option maxHeartbeats 4000000
def aw (l:List Nat)(i:Nat):Nat:=(l[i]?).getD 0
theorem dz {l:List Nat}(h:Li l)(i:Nat):aw l i<4294967296:=by
 unfold aw;cases a:l[i]? with
 |none=>simp
 |some x=>exact h x (VX a)
theorem ce {l:List Nat}{i:Nat}(h:i<l.length):aw l i=l[i]:=by simp[aw,h]
theorem kd {l:List Nat}{i:Nat}(h:l.length<=i):aw l i=0:=by simp[aw,h]
theorem fI (l:List Nat)(i:Nat):aa (l.take (i+1))=aa (l.take i)+4294967296^i*aw l i:=by
 rcases Vm i l.length with h|h
 ·rw[aaH,k9 h,ce h,lF,Xt,WW (by omega)];simp[aa]
 ·rw[VC (by omega),VC h,kd h];simp
theorem eX {l:List Nat}{i:Nat}(h:l.length<=i):aa (l.take i)=aa l:=by rw[VC h]
theorem AY {o a b:List Nat}{i c T:Nat}(d:o.length=i)(h:aa o+4294967296^i*c=aa (a.take i)+aa (b.take i))(hT:T=c+aw a i+aw b i) :
 aa (o++[T%4294967296])+4294967296^(i+1)*(T/4294967296)=aa (a.take (i+1))+aa (b.take (i+1)):=by
 rw[fI,fI,CM,d,VH,Vt];have:4294967296^i*(T%4294967296)+4294967296^i*(4294967296*(T/4294967296))=4294967296^i*c+4294967296^i*aw a i+4294967296^i*aw b i:=by
  rw[<-VM,aar,hT,VM,VM]
 omega
theorem L2 (a b:List Nat)(W:a.length<=1000000)(Y:b.length<=1000000)(Q:Li a)(S:Li b):CQ prog q4s [lim a,lim b] (lim (aB (aa a+aa b))):=by
 refine ap rfl fun H=>?_
 simp[lim];refine aJ (fun i E F=>E 0=lim a/\E 1=lim b/\E 7=.int .i64 i/\∃c o,c<2/\E 6=.int .u64 (c:Nat)/\Out H F (E 5) 1 (o.map u32)/\o.length=i/\Li o /\
  aa o+4294967296^i*c=aa (a.take i)+aa (b.take i)) (max a.length b.length) ?_ ?_
 ·simp[lim];exact⟨0,by omega,rfl,[],.nil,rfl,by intro x P;simp at P,by simp[aa]⟩
 ·rintro i E F hi ⟨n,p,s,c,o,Z,r,G,I,lo,J⟩;simp only[lim]at n p;have⟨T,hT⟩:∃T,T=c+aw a i+aw b i:=⟨_,rfl⟩
  have l:=dz Q i;have q:=dz S i;have st:=AY I J hT;have⟨L,O⟩:∃L,L=T%4294967296:=⟨_,rfl⟩
  have⟨C,N⟩:∃C,C=T/4294967296:=⟨_,rfl⟩
  have f6:aR .and .u64 (T:Int) 4294967295=some ((T%4294967296:Nat):Int):=kh T (by omega);have f7:cH .shr .u64 (T:Int) 32=some (.int .u64 ((T/4294967296:Nat):Int)):=cf T 32 (by omega);rw[<-O]at f6 st;rw[<-N]at f7 st;have f8:IntKind.u32.wrap (L:Int)=L:=eN _ (by omega);obtain⟨K,k,m,j⟩:=G.one L (by omega);have t:IntKind.i64.wrap ((i:Int)+1)=((i+1:Nat):Int):=by rw[wrap_i64]<;>omega
  have u:i<max a.length b.length->∃c,c<2/\(C:Int)=(c:Nat)/\∃o,Out H k K 1 (List.map u32 o)/\o.length=i+1/\Li o/\aa o+4294967296^(i+1)*c=aa (a.take (i+1))+aa (b.take (i+1)):=
   fun _=>⟨C,by omega,rfl,o++[L],j,by simp;omega,lo.append (by intro y w;simp at w;omega),st⟩
  rcases Vm i a.length with d|d<;>rcases Vm i b.length with e|e
  ·have z:IntKind.u64.wrap (a[i]:Int)=a[i]:=cJ _ (by rw[ce d]at l;omega);have A:IntKind.u64.wrap (b[i]:Int)=b[i]:=cJ _ (by rw[ce e]at q;omega);have B:IntKind.u64.wrap ((c:Int)+a[i])=(c:Int)+a[i]:=by rw[ce d]at l;rw[ee]<;>omega
   have D:IntKind.u64.wrap ((c:Int)+a[i]+b[i])=T:=by rw[hT,ce d,ce e];rw[ce d]at l;rw[ce e]at q;rw[ee]<;>omega
   simp[va,n,p,r,s,d,e,u32,z,A,B,D,t,f6,f7,f8,m,lim];exact⟨by omega,u (by omega)⟩
  ·have z:IntKind.u64.wrap (a[i]:Int)=a[i]:=cJ _ (by rw[ce d]at l;omega);have B:IntKind.u64.wrap ((c:Int)+a[i])=T:=by rw[hT,ce d,kd e];rw[ce d]at l;rw[ee]<;>omega
   have h:¬i<b.length:=by omega
   simp[va,n,p,r,s,d,h,u32,z,B,t,f6,f7,f8,m,lim];exact⟨by omega,u (by omega)⟩
  ·have A:IntKind.u64.wrap (b[i]:Int)=b[i]:=cJ _ (by rw[ce e]at q;omega);have D:IntKind.u64.wrap ((c:Int)+b[i])=T:=by rw[hT,kd d,ce e];rw[ce e]at q;rw[ee]<;>omega
   have f:¬i<a.length:=by omega
   simp[va,n,p,r,s,f,e,u32,A,D,t,f6,f7,f8,m,lim];exact⟨by omega,u (by omega)⟩
  ·have f:¬i<a.length:=by omega
   have h:¬i<b.length:=by omega
   have k6:IntKind.u32.wrap (c:Int)=c:=eN c (by omega);obtain⟨K,k,m,j⟩:=G.one c (by omega);simp[va,n,p,r,s,f,h,k6,m];obtain⟨U,v,M⟩:=j.prep (g:=uh) rfl;refine bt rfl rfl M (tM (o++[c]) (by simp;omega)) ?_;rw[eh (lo.append (by intro y w;simp at w;omega)),CM,I,J,eX d,eX e];simp[jn v,lim]
theorem q55 {o a b:List Nat}{i c T:Nat}(e:o.length=i)(h:aa o+aa (b.take i)=aa (a.take i)+4294967296^i*c)(j:c<2)(f:aw a i<4294967296)(g:aw b i<4294967296)(hT:T+(c+aw b i)=aw a i+4294967296) :
 aa (o++[T%4294967296])+aa (b.take (i+1))=aa (a.take (i+1))+4294967296^(i+1)*(1-T/4294967296)/\T/4294967296<=1:=by
 have d:T/4294967296<=1:=by omega
 refine⟨?_,d⟩;rw[fI,fI,CM,e,VH,Vt];have:4294967296^i*(T%4294967296)+4294967296^i*(c+aw b i)=4294967296^i*aw a i+4294967296^i*(4294967296*(1-T/4294967296)):=by
  rw[<-VM,<-VM]
  congr 1;omega
 rw[VM]at this;omega
theorem zT (a b:List Nat)(ha:a.length<=1000000)(hb:b.length<=a.length)(la:Li a)(lb:Li b)(Y:aa b<=aa a):CQ prog q2m [lim a,lim b] (lim (aB (aa a-aa b))):=by
 refine ap rfl fun H=>?_
 simp[lim];refine aJ (fun i E w=>E 0=lim a/\E 1=lim b/\E 7=.int .i64 i/\∃c o,c<2/\E 6=.int .u64 (c:Nat)/\Out H w (E 5) 1 (o.map u32)/\o.length=i/\Li o /\
  aa o+aa (b.take i)=aa (a.take i)+4294967296^i*c) a.length ?_ ?_
 ·simp[lim];exact⟨0,by omega,rfl,[],.nil,rfl,by intro x Z;simp at Z,by simp[aa]⟩
 ·rintro i E w hi ⟨e,m,q,c,o,U,I,G,J,lo,K⟩;simp only[lim]at e m;rcases Vm i a.length with f|f
  ·have z:=dz la i;have k:=dz lb i;have⟨T,hT⟩:∃T,T=aw a i+4294967296-(c+aw b i):=⟨_,rfl⟩
   have d:T+(c+aw b i)=aw a i+4294967296:=by omega
   obtain⟨st,r⟩:=q55 J K U z k d;have⟨L,S⟩:∃L,L=T%4294967296:=⟨_,rfl⟩
   have⟨C,P⟩:∃C,C=T/4294967296:=⟨_,rfl⟩
   have f6:aR .and .u64 (T:Int) 4294967295=some ((T%4294967296:Nat):Int):=kh T (by omega);have f7:cH .shr .u64 (T:Int) 32=some (.int .u64 ((T/4294967296:Nat):Int)):=cf T 32 (by omega);rw[<-S]at f6 st;rw[<-P]at f7 st r;have f8:IntKind.u32.wrap (L:Int)=L:=eN _ (by omega);have f9:IntKind.u64.wrap (1-(C:Int))=((1-C:Nat):Int):=by rw[ee]<;>omega
   have⟨D,Q⟩:∃D,D=1-C:=⟨_,rfl⟩
   rw[<-Q]at f9 st;obtain⟨v',j,A,t⟩:=G.one L (by omega);have B:IntKind.i64.wrap ((i:Int)+1)=((i+1:Nat):Int):=by rw[wrap_i64]<;>omega
   have F:∃c,c<2/\(D:Int)=(c:Nat)/\∃o,Out H j v' 1 (List.map u32 o)/\o.length=i+1/\Li o/\aa o+aa (b.take (i+1))=aa (a.take (i+1))+4294967296^(i+1)*c:=
    ⟨D,by omega,rfl,o++[L],t,by simp;omega,lo.append (by intro y hy;simp at hy;omega),st⟩
   rw[ce f]at z d;have M:IntKind.u64.wrap (a[i]:Int)=a[i]:=cJ _ (by omega);have N:IntKind.u64.wrap ((a[i]:Int)+4294967296)=(a[i]:Int)+4294967296:=by rw[ee]<;>omega
   rcases Vm i b.length with h|h
   ·rw[ce h]at k d;have t3:IntKind.u64.wrap (b[i]:Int)=b[i]:=cJ _ (by omega);have t4:IntKind.u64.wrap ((c:Int)+b[i])=(c:Int)+b[i]:=by rw[ee]<;>omega
    have v:IntKind.u64.wrap ((a[i]:Int)+4294967296-((c:Int)+b[i]))=T:=by rw[ee]<;>omega
    simp[C7,e,m,I,q,f,h,u32,M,N,t3,t4,v,B,f6,f7,f8,f9,A,lim];exact F
   ·rw[kd h]at k d;have p:¬i<b.length:=by omega
    have v:IntKind.u64.wrap ((a[i]:Int)+4294967296-(c:Int))=T:=by rw[ee]<;>omega
    simp[C7,e,m,I,q,f,p,u32,M,N,v,B,f6,f7,f8,f9,A,lim];exact F
  ·have n:¬i<a.length:=by omega
   have W:i=a.length:=by omega
   simp[C7,e,q,n];obtain⟨H3,u,O⟩:=G.prep (g:=uh) rfl;refine bt rfl rfl O (tM o (by omega)) ?_;have s:=bz lo;rw[eX f,eX (l:=b) (by omega)]at K;rw[J]at s;have hv:aa o=aa a-aa b:=by
    rcases Wu c with e|e
    ·subst e;omega
    ·have:c=1:=by omega
     subst this;omega
   rw[eh lo,hv];simp[jn u,lim]
end Go.Abs.W
namespace Go.Abs.W
set_option maxHeartbeats 4000000
def BZ : Nat->Nat->Nat
 |0,_=>0
 |f+1,n=>if n%2=1 then 0 else BZ f (n/2)+1
def tz (n:Nat):Nat:=BZ (Nat.log2 n) n
theorem r7 {n:Nat}(h:n%2=1):tz n=0:=by
 unfold tz;cases Nat.log2 n<;>simp[BZ,h]
theorem yv {n:Nat}(a:n≠0)(h:n%2=0):tz n=tz (n/2)+1:=by
 have e:Nat.log2 n=Nat.log2 (n/2)+1:=by rw[Nat.log2_def,Vh (by omega)]
 unfold tz;rw[e,BZ,Vk (by omega)]
theorem mE {n:Nat}(b:n≠0):n/2^tz n%2=1/\(∀i,i<tz n->n/2^i%2=0)/\n%2^tz n=0:=by
 induction n using Nat.strongRecOn with
 |_ n g=>
  by_cases h:n%2=1
  ·rw[r7 h];simp[h,XO]
  ·have a:n%2=0:=by omega
   obtain⟨c,d,f⟩:=g (n/2) (by omega) (by omega);rw[yv b a];have e:∀k,n/2^(k+1)=n/2/2^k:=by intro k;rw[VH,VE,Ww]
   refine⟨by rw[e];exact c,?_,?_⟩
   ·intro i hi;cases i with
    |zero=>simpa using a
    |succ i=>rw[e];exact d i (by omega)
   ·rw[VH,VE,aak,f,a]
theorem gZ {n:Nat}(b:n≠0):2^tz n<=n:=by
 obtain⟨a,_,c⟩:=mE b;rcases Vm n (2^tz n)with h|h
 ·rw[We h]at a;simp at a
 ·exact h
theorem fH (l:List Nat)(i:Nat):aa (l.drop i)=aw l i+4294967296*aa (l.drop (i+1)):=by
 rcases Vm i l.length with h|h
 ·rw[Wo h,ce h];rfl
 ·rw[W7 h,W7 (by omega),kd h];rfl
theorem kJ (l:List Nat)(i:Nat):aa l=aa (l.take i)+4294967296^i*aa (l.drop i):=by
 rcases Vm i l.length with h|h
 ·have:=lF (l.take i) (l.drop i);rw[Xy,Xt,WW (by omega)]at this;exact this
 ·rw[W7 h,VC h];simp[aa]
theorem mP {l:List Nat}(a:Li l)(i:Nat):aa l/4294967296^i=aa (l.drop i):=by
 have b:=bz (a.take i);have c:4294967296^(l.take i).length<=4294967296^i:=Vg (by omega) (by simp;omega);rw[kJ l i,X0 _ _ (Xs (by omega)),We (by omega),W1]
theorem ri {l:List Nat}(d:Li l)(n:Nat):aa l/2^n%2=aw l (n/32)/2^(n%32)%2:=by
 have⟨q,a⟩:∃q,q=n/32:=⟨_,rfl⟩
 have⟨s,b⟩:∃s,s=n%32:=⟨_,rfl⟩
 have e:2^n=4294967296^q*2^s:=by rw[bB,<-Vs,a,b,Wy]
 rw[<-a,<-b,e,<-Ww,mP d,fH];have c:4294967296=2^s*(2^(31-s)*2):=by rw[<-VH,<-Vs,show s+(31-s+1)=32 by omega]
 rw[c,Vt,X0 _ _ (Vl s),VE (2^(31-s)) 2,Vt,XA]
theorem Ou (m:List Nat)(G:m.length<=1000000)(lm:Li m)(b:aa m≠0):CQ prog q2j [lim m] (.int .i64 (tz (aa m))):=by
 refine ap rfl fun H=>?_
 obtain⟨w,x,D⟩:=mE b;have a:∀i,i<=tz (aa m)->i/32<m.length:=by
  intro i hi;have F:=gZ b;have A:=bz lm;rw[bB]at A;have g:2^tz (aa m)<2^(32*m.length):=by omega
  have:=(Xb (by omega)).1 g;omega
 simp[lim];refine aJ (fun i E o=>o=H/\E 0=lim m/\E 3=.int .i64 i) (tz (aa m)) ?_ ?_
 ·simp[lim]
 ·rintro i E o hi ⟨rfl,b,g⟩;simp only[lim]at b;have f:=a i hi;have k:=a _ (Vo _);have c:=ri lm i;rw[ce f]at c;have lq:m[i/32]<4294967296:=lm _ (Vy f);have⟨q,l⟩:∃q,q=i/32:=⟨_,rfl⟩
  have⟨s,C⟩:∃s,s=i%32:=⟨_,rfl⟩
  have u:(i:Int)/32=q:=by omega
  have v:(i:Int).tmod 32=s:=by rw[VZ (by omega)];omega
  have p:IntKind.i64.wrap (q:Int)=q:=by rw[wrap_i64]<;>omega
  have r:IntKind.u64.wrap (s:Int)=s:=cJ _ (by omega);simp only[<-l,<-C]at c f lq;have h:cH .shr .u32 (m[q]:Int) (s:Int)=some (.int .u32 ((m[q]/2^s:Nat):Int)):=fm _ _ (by omega);have⟨y,t⟩:∃y,y=m[q]/2^s:=⟨_,rfl⟩
  have n:y<2^32:=by rw[t];exact V4 (VY _ _) lq
  rw[<-t]at h c;have j:=CE y n;have⟨z,hz⟩:∃z,z=y%2:=⟨_,rfl⟩
  rw[<-hz]at j c;have f3:IntKind.i64.wrap ((i:Int)+1)=((i+1:Nat):Int):=by rw[wrap_i64]<;>omega
  rcases Vm i (tz (aa m))with e|B
  ·have:z=0:=by rw[<-c];exact x i e
   subst this;simp[I2,b,g,u,v,p,r,f,u32,h,j,f3,e,lim]
  ·have d:i=tz (aa m):=by omega
   have:z=1:=by rw[<-c,d];exact w
   subst this;simp[I2,b,g,u,v,p,r,f,u32,h,j,<-d]
theorem q5j {M i s:Nat}(o:List Nat)(a:o.length=i)(h:aa o=M/2^s%4294967296^i):aa (o++[M/2^s/4294967296^i%4294967296])=M/2^s%4294967296^(i+1):=by
 rw[CM,a,h,VH,aak]
theorem DW {l:List Nat}(b:Li l)(i s:Nat)(c:s<32):aa l/2^s/4294967296^i%4294967296=(aw l i+4294967296*aw l (i+1))/2^s%4294967296:=by
 rw[Ww,VE,<-Ww,mP b,fH,fH l (i+1),VM,<-Yg,<-Vt];have a:4294967296*4294967296=2^s*(2^(32-s)*4294967296):=by
  rw[<-Vt,<-Vs,show s+(32-s)=32 by omega]
 rw[a,Vt,X0 _ _ (Vl s),VE (2^(32-s)) 4294967296,Vt,XA]
theorem Z6 (l:List Nat):fF 1 (l.map u32)=true:=by
 cases l with
 |nil=>rfl
 |cons x l=>simp[fF]
theorem NH (m:List Nat)(n:Nat)(hm:m.length<=1000000)(lm:Li m)(hn:n<=100000000):CQ prog q2l [lim m,.int .i64 n] (lim (aB (aa m/2^n))):=by
 refine ap rfl fun H=>?_
 have⟨q,hq'⟩:∃q,q=n/32:=⟨_,rfl⟩
 have⟨s,hs⟩:∃s,s=n%32:=⟨_,rfl⟩
 have Z:(n:Int)/32=q:=by omega
 have s1:(n:Int).tmod 32=s:=by rw[VZ (by omega)];omega
 have h:s<32:=by omega
 have N:IntKind.i64.wrap (q:Int)=q:=by rw[wrap_i64]<;>omega
 have O:IntKind.u64.wrap (s:Int)=s:=cJ _ (by omega);have e:aa m/2^n=aa (m.drop q)/2^s:=by
  rw[show n=32*q+s by omega,Vs,<-bB,<-Ww,mP lm]
 rw[e];rcases Vm q m.length with hlt|B
 ·have v:¬((m.length:Int)<=q):=by omega
  have⟨x,c⟩:∃x,x=m.drop q:=⟨_,rfl⟩
  have r:Li x:=by rw[c];exact lm.drop _
  have j:List.drop q (List.map u32 m)=List.map u32 x:=by rw[c,List.map_drop]
  have hxl:x.length<=1000000:=by rw[c];simp;omega
  rw[<-c];have b:=Z6 x;rw[<-j]at b;simp only[fF]at b;have F:q<=m.length:=by omega
  have ht:List.take m.length (List.map u32 m)=List.map u32 m:=VC (by simp);simp[lim,Z,N,v,F,ht];rw[Vh (.inr b),j];simp;refine aJ (fun i E J=>E 0=lim x/\E 1=.int .i64 n/\E 6=.int .i64 i/\∃o,Out H J (E 5) 1 (o.map u32)/\o.length=i/\Li o/\aa o=aa x/2^s%4294967296^i) x.length ?_ ?_
  ·simp[lim];exact⟨[],.nil,rfl,by intro x c;simp at c,by simp[aa,XO]⟩
  ·rintro i E J hi ⟨k,Q,u,o,S,ho,lo,hv⟩;simp only[lim]at k;rcases Vm i x.length with l|l
   ·have f1:IntKind.i64.wrap ((i:Int)+1)=((i+1:Nat):Int):=by rw[wrap_i64]<;>omega
    have d:IntKind.i64.wrap ((i:Int)+1)=(i:Int)+1:=by rw[wrap_i64]<;>omega
    have f0:(0:Int)<=(i:Int)+1:=by omega
    have da:=dz r i;have db:=dz r (i+1);have st:=q5j (M:=aa x) (s:=s) o ho hv;rw[DW r i s h]at st;have⟨T,hT⟩:∃T,T=aw x i+4294967296*aw x (i+1):=⟨_,rfl⟩
    have z:T<2^64:=by omega
    have f4:cH .shr .u64 (T:Int) (s:Int)=some (.int .u64 ((T/2^s:Nat):Int)):=cf T s (by omega);rw[<-hT]at st;have⟨Y,W⟩:∃Y,Y=T/2^s:=⟨_,rfl⟩
    have A:Y<2^64:=by rw[W];exact V4 (VY _ _) z
    rw[<-W]at f4 st;have f5:=kh Y A;have⟨L,hL⟩:∃L,L=Y%4294967296:=⟨_,rfl⟩
    rw[<-hL]at f5 st;have f6:IntKind.u32.wrap (L:Int)=L:=eN _ (by omega);obtain⟨v',t,K,C⟩:=S.one L (by omega);have U:∃o,Out H t v' 1 (List.map u32 o)/\o.length=i+1/\Li o/\aa o=aa x/2^s%4294967296^(i+1):=
     ⟨o++[L],C,by simp;omega,lo.append (by intro y hy;simp at hy;omega),st⟩
    rw[ce l]at da hT;have I:IntKind.u64.wrap (x[i]:Int)=x[i]:=cJ _ (by omega);rcases Vm (i+1) x.length with p|p
    ·rw[ce p]at db hT;have t2:IntKind.u64.wrap (x[i+1]:Int)=x[i+1]:=cJ _ (by omega);have a:(i:Int)+1<x.length:=by omega
     have t3:cH .shl .u64 (x[i+1]:Int) 32=some (.int .u64 ((x[i+1]*2^32:Nat):Int)):=eU _ 32 (by omega) (by omega);have t4:aR .or .u64 (x[i]:Int) ((x[i+1]*2^32:Nat):Int)=some (T:Int):=by
      have:=q9 x[i+1] 32 x[i] (by omega) (by omega) (by omega);rw[D3 _ _ (by omega) (by omega)]at this ⊢;rw[abQ,this,hT]
      congr 2;omega
     have⟨P,hP⟩:∃P,P=x[i+1]*2^32:=⟨_,rfl⟩
     rw[<-hP]at t3 t4;simp[C8,k,Q,u,l,p,a,u32,I,t2,t3,t4,s1,O,f0,d,f4,f5,f6,K,lim];exact U
    ·rw[kd p]at hT;have f:x[i]=T:=by omega
     have a:¬(i:Int)+1<x.length:=by omega
     rw[f]at I;simp[C8,k,Q,u,l,a,u32,f,I,s1,O,d,f4,f5,f6,K,lim];exact U
   ·have w:¬i<x.length:=by omega
    simp[C8,k,u,w];obtain⟨H3,D,e3⟩:=S.prep (g:=uh) rfl;refine bt rfl rfl e3 (tM o (by omega)) ?_;have G:aa o=aa x/2^s:=by
     have:=bz r;rw[hv,VO];rw[show i=x.length by omega];exact V4 (VY _ _) this
    rw[eh lo,G];simp[jn D,lim]
 ·have v:((m.length:Int)<=q):=by omega
  rw[W7 B];simp[lim,Z,N,v,aa,kr]
end Go.Abs.W
namespace Go.Abs.W
set_option maxHeartbeats 4000000
def Dy.of (neg:Bool)(n:Nat)(e:Int):Dy:=if n=0 then⟨false,[],0⟩else⟨neg,aB (n/2^tz n),e+tz n⟩
theorem q53 {m:List Nat}(lm:Li m)(h:aa m≠0):tz (aa m)<32*m.length:=by
 have b:=gZ h;have a:=bz lm;rw[bB]at a;exact(Xb (by omega:1<2)).1 (V4 b a)
theorem ew (neg:Bool)(m:List Nat)(e:Int)(o:m.length<=100000)(lm:Li m)(j:-1000000<=e)(k:e<=1000000):CQ prog RW [.bool neg,lim m,.int .i64 e] (Dy.of neg (aa m) e).v:=by
 refine ap rfl fun H=>?_
 simp;refine ak rfl rfl rfl (tM m (by omega)) ?_;rw[eh lm];by_cases b:aa m=0
 ·simp[b,kr,lim,Dy.of]
 ·have⟨x,d⟩:∃x,x=aB (aa m):=⟨_,rfl⟩
  have a:aa x=aa m:=by rw[d,aP]
  have f:Li x:=by rw[d];exact aY _
  have l:x.length<=m.length:=by rw[d];exact limbsOf_len.2 (bz lm)
  have c:x≠[]:=by rw[d];exact lE b
  have n:¬(x.length:Int)=0:=by
   intro h;exact c (VK (by omega))
  have i:=q53 f (by rw[a];exact b);have g:IntKind.i64.wrap (e+(tz (aa m):Int))=e+tz (aa m):=by rw[a]at i;rw[wrap_i64]<;>omega
  rw[<-d];simp[lim,c];refine ak rfl rfl rfl (Ou x (by omega) f (by rw[a];exact b)) ?_;simp;refine ak rfl rfl rfl (NH x (tz (aa x)) (by omega) f (by omega)) ?_;rw[a];simp[g,Dy.of,b,lim]
def Dy.neg' (d:Dy):Dy:=⟨!d.neg&&decide (d.m≠[]),d.m,d.e⟩
theorem mA (d:Dy):CQ prog q8v [d.v] d.neg'.v:=by
 refine ap rfl fun H=>?_
 simp[lim,Dy.neg'];all_goals first|done|grind
theorem uH (d:Dy):CQ prog q4u [d.v] (.int .i64 d.sgn):=by
 refine ap rfl fun H=>?_
 simp[lim,Dy.sgn];grind
def a7 (d:Dy)(e:Int):Nat:=aa d.m*2^(d.e-e).toNat
def Dy.sum (a b:Dy):Dy:=
 if a.m=[]then b else if b.m=[]then a else
 let e:=min a.e b.e
 if a.neg=b.neg then Dy.of a.neg (a7 a e+a7 b e) e
 else if a7 b e<=a7 a e then Dy.of a.neg (a7 a e-a7 b e) e else Dy.of b.neg (a7 b e-a7 a e) e
theorem AO {d:Dy}(h:d.m.length<=600){k:Nat}(b:k<=100000)(li:Li d.m):(aB (aa d.m*2^k)).length<=4000:=by
 have a:=bz li;rw[bB]at a;refine ny (B:=32*d.m.length+k) ?_ (by omega);rw[Vs];exact V7 a (Vl k)
structure Dy.M (d:Dy):Prop where
 li:Li d.m
 len:d.m.length<=600
 lo:-20000<=d.e
 hi:d.e<=20000
theorem Dy.Ok.toM {d:Dy}(h:d.Ok):d.M:=⟨h.li,by have:=h.len;omega,by have:=h.elo;omega,by have:=h.ehi;omega⟩
theorem vv (a b:Dy)(g:a.M)(l:b.M):CQ prog q8u [a.v,b.v] (a.sum b).v:=by
 refine ap rfl fun H=>?_
 by_cases m:a.m=[]
 ·simp[lim,m,Dy.sum]
 by_cases n:b.m=[]
 ·have w:¬(a.m.length:Int)=0:=by intro h;exact m (VK (by omega))
  simp[lim,m,n,Dy.sum]
 have w:¬(a.m.length:Int)=0:=by intro h;exact m (VK (by omega))
 have A:¬(b.m.length:Int)=0:=by intro h;exact n (VK (by omega))
 have B:=g.lo;have C:=g.hi;have D:=l.lo;have E:=l.hi;have⟨e,r⟩:∃e,e=min a.e b.e:=⟨_,rfl⟩
 have o:(if b.e<a.e then b.e else a.e)=e:=by rw[r];split<;>omega
 have⟨i,hi⟩:∃i,i=(a.e-e).toNat:=⟨_,rfl⟩
 have⟨j,z⟩:∃j,j=(b.e-e).toNat:=⟨_,rfl⟩
 have u:IntKind.i64.wrap (a.e-e)=i:=by rw[wrap_i64]<;>omega
 have v:IntKind.i64.wrap (b.e-e)=j:=by rw[wrap_i64]<;>omega
 have x:a7 a e=aa a.m*2^i:=by rw[a7,<-hi]
 have y:a7 b e=aa b.m*2^j:=by rw[a7,<-z]
 unfold Dy.sum;rw[Vk m,Vk n];simp only[<-r,x,y];have s:=AO (d:=a) g.len (k:=i) (by omega) g.li;have t:=AO (d:=b) l.len (k:=j) (by omega) l.li;simp[lim,m,n,o,u];refine ak rfl rfl rfl (xH a.m i (by have:=g.len;omega) g.li (by omega)) ?_;simp[v];refine ak rfl rfl rfl (xH b.m j (by have:=l.len;omega) l.li (by omega)) ?_;generalize aa a.m*2^i=X at *
 generalize aa b.m*2^j=Y at *
 simp;refine⟨fun p=>?_,fun p=>?_⟩
 ·refine ak rfl rfl rfl (L2 (aB X) (aB Y) (by omega) (by omega) (aY _) (aY _)) ?_;simp[aP];refine ak rfl rfl rfl (ew a.neg (aB (X+Y)) e ?_ (aY _) (by omega) (by omega)) ?_
  ·have:=AN s t;omega
  ·simp[p,aP,lim]
 ·refine ak rfl rfl rfl (q0v (aB X) (aB Y) (by omega) (aY _) (aY _) (.inr ⟨uf _,uf _⟩)) ?_;simp[aP,p];have q:(0:Int)<=aL X Y↔Y<=X:=by unfold aL;split<;>(try split)<;>omega
  refine⟨fun h=>?_,fun h=>?_⟩
  ·have f:Y<=X:=q.1 h;have c:(aB Y).length<=(aB X).length:=by
    refine limbsOf_len.2 (V4 f ?_);have:=bz (aY X);rwa[aP]at this
   refine ak rfl rfl rfl (zT (aB X) (aB Y) (by omega) c (aY _) (aY _) (by rw[aP,aP];exact f)) ?_;simp[aP];refine ak rfl rfl rfl (ew a.neg (aB (X-Y)) e ?_ (aY _) (by omega) (by omega)) ?_
   ·have:(aB (X-Y)).length<=4000:=i6 (Xq X Y) s;omega
   ·simp[aP,f,lim]
  ·have f:¬Y<=X:=fun f=>by have:=q.2 f;omega
   have c:(aB X).length<=(aB Y).length:=by
    have:=bz (aY Y);rw[aP]at this;exact limbsOf_len.2 (by omega)
   refine ak rfl rfl rfl (zT (aB Y) (aB X) (by omega) c (aY _) (aY _) (by rw[aP,aP];omega)) ?_;simp[aP];refine ak rfl rfl rfl (ew b.neg (aB (Y-X)) e ?_ (aY _) (by omega) (by omega)) ?_
   ·have:(aB (Y-X)).length<=4000:=i6 (Xq Y X) t;omega
   ·simp[aP,f,lim]
end Go.Abs.W
namespace Go.Abs.W
set_option maxHeartbeats 4000000
theorem q5l (m:List Nat)(a:m.length<=1000000)(lm:Li m)(tm:Trim m):CQ prog Gt [lim m] (.int .i64 (ac (aa m))):=by
 rcases q5d m with rfl|⟨l,t,rfl⟩
 ·exact PQ
 ·have:=NE l t (by simp at a;omega) (lm t (by simp));rwa[<-zj (fun y b=>lm y (by simp[b])) (tm t (by simp))]at this
theorem uI (d:Dy)(h:d.G)(m:d.M):CQ prog YQ [d.v] (.int .i64 d.top):=by
 refine ap rfl fun H=>?_
 by_cases a:d.m=[]
 ·simp[lim,a,Dy.top]
 ·have g:¬(d.m.length:Int)=0:=by intro h;exact a (VK (by omega))
  have i:=m.len;have j:=m.lo;have k:=m.hi;have l:ac (aa d.m)<=32*d.m.length:=by
   have f:=bz h.li;rw[bB]at f;rcases Vm (32*d.m.length) (ac (aa d.m))with b|b
   ·exfalso;by_cases c:aa d.m=0
    ·rw[c]at b;have z:ac 0=0:=rfl;omega
    ·have o:=(eF c).1;have:=Vg (n:=2) (by omega) (show 32*d.m.length<=ac (aa d.m)-1 by omega);omega
   ·exact b
  have e:IntKind.i64.wrap ((ac (aa d.m):Int)+d.e)=ac (aa d.m)+d.e:=by rw[wrap_i64]<;>omega
  simp[lim,a];refine ak rfl rfl rfl (q5l d.m (by omega) h.li h.tr) ?_;simp[Dy.top,a,e]
theorem Ds (d:Dy)(h:d.Ok):CQ prog YQ [d.v] (.int .i64 d.top):=uI d h.toG h.toM
theorem qP (d:Dy)(w:d.W):CQ prog q2n [d.v] (.bool d.valid):=by
 refine ap rfl fun H=>?_
 rcases d with ⟨neg,m,e⟩;have j:=w.li;have r:=w.len;simp only at j r;rcases m with _|⟨x,l⟩
 ·simp[lim,Dy.valid];grind
 ·have C:x<4294967296:=j x (by simp);have f:((l.length:Int)+1≠0):=by omega
  have k:=CE x C;have⟨y,u⟩:∃y,y=x%2:=⟨_,rfl⟩
  have⟨t,i⟩:∃t,t=(x :: l).getLast (by simp):=⟨_,rfl⟩
  simp at r;have n:IntKind.i64.wrap (l.length:Int)=l.length:=by rw[wrap_i64]<;>omega
  have v:(x :: l)[l.length]?=some t:=by rw[i,aaU];simp
  have p:((V.int IntKind.u32 (x:Int)) :: List.map u32 l)[l.length]'(by simp)=.int .u32 t:=by
   have:=W2 (Option.map u32) v;rw[<-WE]at this;have o:((V.int IntKind.u32 (x:Int)) :: List.map u32 l)[l.length]?=some (.int .u32 t):=this;rw[k9 (by simp)]at o;injection o
  rw[<-u]at k;have hv:Dy.valid ⟨neg,x :: l,e⟩=(decide (l.length+1<=256)&&decide (y=1)&&decide (t≠0)&&Dy.inR ⟨neg,x :: l,e⟩):=by
   simp[Dy.valid,u,i]
  rw[hv];have D:y=0\/y=1:=by omega
  by_cases q:256<l.length+1
  ·have b:(256:Int)<(l.length:Int)+1:=by omega
   have a:¬l.length+1<=256:=by omega
   have E:¬l.length<=255:=by omega
   simp[lim,u32,f,b,a]
  by_cases c:t=0
  ·subst c;simp[lim,u32,f,n,p]
  ·have s:¬(t:Int)=0:=by omega
   have tr:Trim (x :: l):=by
    intro z hz;rw[W9 (by simp)]at hz;injection hz with hz
    rw[<-hz,<-i];exact c
   have g:ac (aa (x :: l))≠0:=by
    have:=(eF (gf tr (by simp))).2.2;omega
   simp[lim,u32,f,k,n,p,c];have h:Dy.inR ⟨neg,x :: l,e⟩=(decide (ac (aa (x :: l))<=4096)&&decide (-16384<=e)&&decide (e<=16384)&&decide (ac (aa (x :: l))+e<=16384)):=by
    simp[Dy.inR,g]
   rw[h];have e8:ac (aa (x :: l))<=4096->-16384<=e->e<=16384->IntKind.i64.wrap ((ac (aa (x :: l)):Int)+e)=ac (aa (x :: l))+e:=by intros;rw[wrap_i64]<;>omega
   have A:=q5l (x :: l) (by simp;omega) j tr;generalize ac (aa (x :: l))=B at *
   repeat' first
    | (refine zq A ?_;simp)
    |refine And.intro ?_ ?_
    |intro _
   all_goals first| (simp[*];done)|grind
theorem rH {neg:Bool}{n:Nat}{e:Int}:(Dy.of neg n e).sgn=if n=0 then 0 else if neg then -1 else 1:=by
 unfold Dy.of;by_cases h:n=0
 ·simp[h,Dy.sgn]
 ·have b:=gZ h;have a:n/2^tz n≠0:=by
   have:=(Wq (Vl (tz n)) (x:=1) (y:=n)).2 (by omega);omega
  simp[h,Dy.sgn,lE a]
theorem Mn {a b:Dy}(r:a.G)(s:b.G)(q:a.m≠[])(d:b.m≠[])(c:a.neg=b.neg):(a.sum b.neg').sgn=b.sgn*aL a.absN b.absN:=by
 have l:=r.elo;have t:=s.elo;have⟨e,o⟩:∃e,e=min a.e b.e:=⟨_,rfl⟩
 have m:a.absN=a7 a e*2^(e+16384).toNat:=ub (by omega) (by omega);have n:b.absN=a7 b e*2^(e+16384).toNat:=ub (by omega) (by omega);have i:a7 b.neg' e=a7 b e:=rfl;rw[m,n,ZT (Vl _)];have k:¬a.neg=b.neg'.neg:=by simp[Dy.neg',d,c]
 unfold Dy.sum;rw[Vk q,Vk (show ¬b.neg'.m=[] from d)];simp only[show b.neg'.e=b.e from rfl,<-o,Vk k,i];have j:b.neg'.neg=!b.neg:=by simp[Dy.neg',d]
 have p:b.sgn=if b.neg then -1 else 1:=by simp[Dy.sgn,d]
 rw[p];generalize a7 a e=X at *
 generalize a7 b e=Y at *
 rcases XX X Y with h|h|h
 ·have f:¬Y<=X:=by omega
  have g:¬Y-X=0:=by omega
  rw[Vk f,rH,j,Vk g];simp only[aL,Vh h];cases b.neg<;>simp
 ·subst h;rw[Vh (Vo _),rH,Vh (by omega)];simp[aL]
 ·have f:Y<=X:=by omega
  have g:¬X-Y=0:=by omega
  have l:¬X<Y:=by omega
  rw[Vh f,rH,c,Vk g];simp[aL,Vk l,h]
theorem Mx (a b:Dy)(e:a.G)(f:b.G)(o:a.M)(d:b.M):CQ prog YO [a.v,b.v] (.int .i64 (cG a.val b.val)):=by
 refine ap rfl fun H=>?_
 rw[z7 e f];simp;refine ak rfl rfl rfl (uH a) ?_;simp;refine ak rfl rfl rfl (uH b) ?_;by_cases c:a.sgn=b.sgn
 ·have t:¬a.sgn<b.sgn:=by omega
  have u:¬b.sgn<a.sgn:=by omega
  simp[c];by_cases j:b.sgn=0
  ·simp[j]
  ·have l:a.m≠[]:=fun h=>j (by rw[<-c];simp[Dy.sgn,h])
   have i:b.m≠[]:=fun h=>j (by simp[Dy.sgn,h])
   have g:a.neg=b.neg:=by
    unfold Dy.sgn at c;rw[Vk l,Vk i]at c;cases r:a.neg<;>cases s:b.neg<;>simp[r,s]at c ⊢
   simp[j];refine ak rfl rfl rfl (uI a e o) ?_;simp;refine ak rfl rfl rfl (uI b f d) ?_;simp;by_cases m:a.top=b.top
   ·simp[m];refine ak rfl rfl rfl (mA b) ?_;simp;refine ak rfl rfl rfl (vv a b.neg' o ⟨d.li,d.len,d.lo,d.hi⟩) ?_;simp;refine ak rfl rfl rfl (uH _) ?_;simp;exact Mn e f l i g
   ·simp[m];refine ak rfl rfl rfl (uI a e o) ?_;simp;refine ak rfl rfl rfl (uI b f d) ?_;simp;have k:b.sgn=1\/b.sgn=-1:=by unfold Dy.sgn;rw[Vk i];split<;>simp
    have n:(a.top<b.top/\aL a.absN b.absN=-1)\/(¬a.top<b.top/\aL a.absN b.absN=1):=by
     rcases Int.lt_or_gt_of_ne m with h|h
     ·have:=Eh e f l i h;exact .inl ⟨h,by simp[aL,this]⟩
     ·have:=Eh f e i l h;exact .inr ⟨by omega,by simp[aL,this];omega⟩
    rcases k with k|k<;>rcases n with ⟨p,q⟩|⟨p,q⟩<;>simp[k,p,q]
 ·simp[c];grind
theorem px (a b:Dy)(d:a.Ok)(e:b.Ok):CQ prog YO [a.v,b.v] (.int .i64 (a.cmp b)):=by
 have c:a.cmp b=cG a.val b.val:=by simp[Dy.cmp,d.valid,e.valid]
 rw[c];exact Mx a b d.toG e.toG d.toM e.toM
theorem Ez : ∀{a b:List Nat},Li a->Li b->a.length=b.length->aa a=aa b->a=b
 | [],[],_,_,_,_=>rfl
 | [],_ :: _,_,_,h,_=>by simp at h
 |_ :: _,[],_,_,h,_=>by simp at h
 |x :: l,y :: m,c,d,h,e=>by
  simp only[aa]at e;have f:=c.cons.1;have g:=d.cons.1;have:x=y:=by omega
  rw[this,Ez c.cons.2 d.cons.2 (by simpa using h) (by omega)]
theorem AD (a b:Dy)(j:a.W)(k:b.W):CQ prog q2p [a.v,b.v] (.bool (decide (a=b))):=by
 refine ap rfl fun H=>?_
 have e:decide (a=b)=(decide (a.neg=b.neg)&&decide (a.e=b.e)&&decide (a.m=b.m)):=by
  cases a;cases b;simp[and_comm];grind
 rw[e];have l:(a.m.length:Int)=b.m.length↔a.m.length=b.m.length:=by omega
 by_cases d:a.neg=b.neg
 ·by_cases f:a.e=b.e
  ·by_cases c:a.m.length=b.m.length
   ·simp[lim,d,f,c];refine ak rfl rfl rfl (q0v a.m b.m (by have:=j.len;omega) j.li k.li (.inl c)) ?_;simp[OQ];constructor
    ·intro h;exact Ez j.li k.li c h
    ·intro h;rw[h]
   ·have g:¬(a.m.length:Int)=b.m.length:=by omega
    have i:¬a.m=b.m:=fun h=>c (by rw[h])
    simp[lim,d,f,g,i]
  ·simp[lim,d,f]
 ·simp[lim,d]
end Go.Abs.W
namespace Go.Abs.W
def Dy.zero : Dy:=⟨false,[],0⟩
def Dy.isZ (d:Dy):Bool:=!d.neg&&decide (d.m=[])&&decide (d.e=0)
def Iv.valid (x:Iv):Bool:=if x.all then x.lo.isZ&&x.hi.isZ else x.lo.valid&&x.hi.valid&&decide (x.lo.cmp x.hi<=0)
structure Iv.W (x:Iv):Prop where
 lo:x.lo.W
 hi:x.hi.W
def Iv.ins (x y:Iv):Bool:=x.valid&&y.valid&&(y.all || (!x.all&&decide (y.lo.cmp x.lo<=0)&&decide (x.hi.cmp y.hi<=0)))
theorem wv (d:Dy):CQ prog qv8 [d.v] (.bool d.isZ):=by
 refine ap rfl fun H=>?_
 simp[lim,Dy.isZ];grind
theorem uS (x:Iv)(w:x.W):CQ prog qy5 [x.v] (.bool x.valid):=by
 refine ap rfl fun H=>?_
 simp;repeat' first
  | (refine ak rfl rfl rfl (wv x.lo) ?_;simp)
  | (refine ak rfl rfl rfl (wv x.hi) ?_;simp)
  | (refine ak rfl rfl rfl (kE x.lo w.lo.len w.lo.li) ?_;simp)
  | (refine ak rfl rfl rfl (kE x.hi w.hi.len w.hi.li) ?_;simp)
  | (refine ak rfl rfl rfl (lj x.lo x.hi w.lo w.hi) ?_;simp)
  |refine And.intro ?_ ?_
  |intro _
 all_goals first| (simp[Iv.valid, *];done)| (simp[Iv.valid, *];grind)|grind [Iv.valid]
theorem Kp {a b:Dy}(c:a.valid=true)(d:b.valid=true):a.cmp b=cG a.val b.val:=by simp[Dy.cmp,c,d]
theorem YL {a b:Int}:cG a b=0↔a=b:=by
 unfold cG;repeat' split
 all_goals omega
theorem zn {a b:Dy}(c:a.Ok)(d:b.Ok):a.cmp b=0↔a=b:=by
 rw[Kp c.valid d.valid,YL];exact⟨qF c d,fun h=>by rw[h]⟩
theorem Iv.W.okLo {x:Iv}(w:x.W)(hv:x.valid=true)(a:x.all=false):x.lo.Ok:=by
 simp[Iv.valid,a]at hv;exact Dy.Ok.of w.lo.li hv.1.1
theorem Iv.W.okHi {x:Iv}(w:x.W)(hv:x.valid=true)(a:x.all=false):x.hi.Ok:=by
 simp[Iv.valid,a]at hv;exact Dy.Ok.of w.hi.li hv.1.2
theorem wU (d:Dy):CQ prog q4l [d.v] (.bool d.isZ):=by
 refine ap rfl fun H=>?_
 simp[lim,Dy.isZ];grind
theorem Cz (x:Iv)(w:x.W):CQ prog q2e [x.v] (.bool x.valid):=by
 refine ap rfl fun H=>?_
 simp;repeat' first
  | (refine ak rfl rfl rfl (wU x.lo) ?_;simp)
  | (refine ak rfl rfl rfl (wU x.hi) ?_;simp)
  | (refine ak rfl rfl rfl (qP x.lo w.lo) ?_;simp)
  | (refine ak rfl rfl rfl (qP x.hi w.hi) ?_;simp)
  | (refine ak rfl rfl rfl (px x.lo x.hi (Dy.Ok.of w.lo.li (by assumption)) (Dy.Ok.of w.hi.li (by assumption))) ?_;simp)
  |refine And.intro ?_ ?_
  |intro _
 all_goals first| (simp[Iv.valid, *];done)| (simp[Iv.valid, *];grind)|grind [Iv.valid]
theorem QH (x y:Iv)(a:x.W)(b:y.W):CQ prog q2g [x.v,y.v] (.bool (decide (x=y))):=by
 refine ap rfl fun H=>?_
 have e:decide (x=y)=(decide (x.all=y.all)&&decide (x.lo=y.lo)&&decide (x.hi=y.hi)):=by
  cases x;cases y;simp;grind
 rw[e];simp;repeat' first
  | (refine ak rfl rfl rfl (AD x.lo y.lo a.lo b.lo) ?_;simp[*])
  | (refine ak rfl rfl rfl (AD x.hi y.hi a.hi b.hi) ?_;simp[*])
  |refine And.intro ?_ ?_
  |intro _
 all_goals first| (simp[*];done)| (simp[*];grind)|grind
def Dy.lo2 (a b:Dy):Dy:=if a.cmp b<=0 then a else b
def Dy.hi2 (a b:Dy):Dy:=if 0<=a.cmp b then a else b
def Iv.known (x:Iv):Bool:=!x.all&&x.valid
def Iv.whole : Iv:=⟨⟨false,[],0⟩,⟨false,[],0⟩,true⟩
def Iv.hull (x y:Iv):Iv:=if x.known&&y.known then⟨x.lo.lo2 y.lo,x.hi.hi2 y.hi,false⟩else Iv.whole
theorem Dy.W.lo2 {a b:Dy}(c:a.W)(d:b.W):(a.lo2 b).W:=by unfold Dy.lo2;split<;>assumption
theorem Dy.W.hi2 {a b:Dy}(c:a.W)(d:b.W):(a.hi2 b).W:=by unfold Dy.hi2;split<;>assumption
theorem Iv.W.hull {x y:Iv}(a:x.W)(b:y.W):(x.hull y).W:=by
 unfold Iv.hull;split
 ·exact⟨a.lo.lo2 b.lo,a.hi.hi2 b.hi⟩
 ·exact⟨⟨by intro x a;simp[Iv.whole]at a,by simp[Iv.whole]⟩,⟨by intro x a;simp[Iv.whole]at a,by simp[Iv.whole]⟩⟩
theorem Uw (a b:Dy)(c:a.W)(d:b.W):CQ prog q1t [a.v,b.v] (a.lo2 b).v:=by
 refine ap rfl fun H=>?_
 simp;refine ak rfl rfl rfl (lj a b c d) ?_;simp[Dy.lo2];refine⟨fun h=>by simp[h],fun h=>?_⟩;have:¬a.cmp b<=0:=by omega
 simp[this]
theorem Ux (a b:Dy)(c:a.W)(d:b.W):CQ prog q1r [a.v,b.v] (a.hi2 b).v:=by
 refine ap rfl fun H=>?_
 simp;refine ak rfl rfl rfl (lj a b c d) ?_;simp[Dy.hi2];refine⟨fun h=>by simp[h],fun h=>?_⟩;have:¬0<=a.cmp b:=by omega
 simp[this]
theorem Cg (a b:Dy)(c:a.Ok)(d:b.Ok):CQ prog q2a [a.v,b.v] (a.lo2 b).v:=by
 refine ap rfl fun H=>?_
 simp;refine ak rfl rfl rfl (px a b c d) ?_;simp[Dy.lo2];refine⟨fun h=>by simp[h],fun h=>?_⟩;have:¬a.cmp b<=0:=by omega
 simp[this]
theorem qC (a b:Dy)(c:a.Ok)(d:b.Ok):CQ prog q4m [a.v,b.v] (a.hi2 b).v:=by
 refine ap rfl fun H=>?_
 simp;refine ak rfl rfl rfl (px a b c d) ?_;simp[Dy.hi2];refine⟨fun h=>by simp[h],fun h=>?_⟩;have:¬0<=a.cmp b:=by omega
 simp[this]
theorem dA : CQ prog qy4 [] Iv.whole.v:=by
 refine ap rfl fun H=>?_
 simp[Iv.whole,lim]
theorem gC : CQ prog q2d [] Iv.whole.v:=by
 refine ap rfl fun H=>?_
 simp[Iv.whole,lim]
set_option maxHeartbeats 1000000 in
theorem kf (l:List Iv)(A:l.length<=1000000)(w:∀x ∈ l,x.W):CQ prog qy2 [aC l] (.bool (l.all Iv.known)):=by
 refine ap rfl fun H=>?_
 simp[aC];refine aJ (fun i E n=>H <+: n/\E 5=aC l/\E 6=.int .i64 l.length/\E 7=.int .i64 i/\(∀j x,j<i->l[j]?=some x->x.known=true)) l.length ?_ ?_
 ·simp[aC]
 ·rintro i E n hi ⟨k,e,f,g,p⟩;simp only[aC]at e ⊢;rcases Vm i l.length with a|v
  ·have t:IntKind.i64.wrap ((i:Int)+1)=((i+1:Nat):Int):=by rw[wrap_i64]<;>omega
   have z:=w l[i] (Vy a);have r:l[i].known=false->l.all Iv.known=false:=by
    intro h;rw[aaI];intro u;rw[VU.1 u _ (Vy a)]at h;cases h
   have y:l[i].known=true->∀(j:Nat) (x:Iv),j<i+1->l[j]?=some x->x.known=true:=by
    intro h j x o c;rcases Vm j i with d|d
    ·exact p j x d c
    ·have:j=i:=by omega
     subst this;rw[k9 a]at c;injection c with c;rw[<-c];exact h
   have T:=jn (jx (l:=[some ⟨7,[l[i].v],false,true⟩]) k);simp only[Iv.v]at T;cases b:l[i].all
   ·simp[Dk,e,f,g,a,b];rw[b]at T;have q:=uS l[i] z;simp only[Iv.v,b]at q;refine zq q ?_;cases hv:l[i].valid
    ·simp[T];simpa using r (by simp[Iv.known,hv])
    ·simp[e,f,g,t];exact⟨jx k,y (by simp[Iv.known,hv,b])⟩
   ·rw[b]at T;simp[Dk,e,f,g,a,b,T];simpa using r (by simp[Iv.known,b])
  ·have m:i=l.length:=by omega
   subst m;have s:l.all Iv.known=true:=by
    rw[VU];intro x c;obtain⟨j,o,rfl⟩:=Xf c;exact p j _ o (k9 _)
   simp[Dk,f,g,s,jn k]
theorem kH (x:Iv)(w:x.W):CQ prog q2b [x.v] (.bool x.known):=by
 refine ap rfl fun H=>?_
 simp;refine ak rfl rfl rfl (Cz x w) ?_;simp[Iv.known];grind
theorem Na (x y:Iv)(b:x.W)(c:y.W):CQ prog q1y [x.v,y.v] (x.hull y).v:=by
 refine ap rfl fun H=>?_
 simp;refine bt rfl rfl (H1:=H++[some ⟨7,[x.v],false,true⟩,some ⟨7,[y.v],false,true⟩,some ⟨7,[.agg [.bool false,.nil,.int .i64 0,.bool false,.nil,.int .i64 0,.bool false]],false,true⟩,some ⟨7,[x.v,y.v],true,false⟩]) (vs:=[aC [x,y]]) (by simp[prep,ah,aF];rfl) (kf [x,y] (by simp) (by simp;exact⟨b,c⟩)) ?_;cases a:x.known&&y.known
 ·have:([x,y].all Iv.known)=false:=by simpa using a
  simp only[this];simp;refine zq dA ?_;simp[Iv.hull,a]
 ·have:([x,y].all Iv.known)=true:=by simpa using a
  simp only[this];simp;refine ak rfl rfl rfl (Uw x.lo y.lo b.lo c.lo) ?_;simp;refine ak rfl rfl rfl (Ux x.hi y.hi b.hi c.hi) ?_;simp[Iv.hull,a]
theorem bg {x:Iv}(w:x.W)(h:x.known=true):x.lo.Ok/\x.hi.Ok:=by
 simp[Iv.known]at h;exact⟨w.okLo h.2 h.1,w.okHi h.2 h.1⟩
@[simp] theorem qhR (n k:Nat):¬(n+k<n):=by omega
def Iv.zero : Iv:=⟨⟨false,[],0⟩,⟨false,[],0⟩,false⟩
def Iv.meet (x y:Iv):Option Iv:=
 if x.valid&&y.valid then
  (if x.all then some y else if y.all then some x else
   if 0<(x.lo.hi2 y.lo).cmp (x.hi.lo2 y.hi)then none else some ⟨x.lo.hi2 y.lo,x.hi.lo2 y.hi,false⟩)
 else none
def eo (o:Option Iv):V:=.tup [(o.getD Iv.zero).v,.bool o.isSome]
theorem Iv.W.meet {x y z:Iv}(a:x.W)(b:y.W)(h:x.meet y=some z):z.W:=by
 unfold Iv.meet at h;split at h
 ·split at h
  ·injection h with h;rw[<-h];exact b
  ·split at h
   ·injection h with h;rw[<-h];exact a
   ·split at h
    ·cases h
    ·injection h with h;rw[<-h];exact⟨a.lo.hi2 b.lo,a.hi.lo2 b.hi⟩
 ·cases h
set_option maxHeartbeats 1000000 in
theorem zc (x y:Iv)(f:x.W)(g:y.W):CQ prog q1x [x.v,y.v] (eo (x.meet y)):=by
 refine ap rfl fun H=>?_
 simp;refine ak rfl rfl rfl (uS x f) ?_;cases b:x.valid
 ·simp[Iv.meet,b,eo,Iv.zero,lim]
 simp;refine ak rfl rfl rfl (uS y g) ?_;cases e:y.valid
 ·simp[Iv.meet,b,e,eo,Iv.zero,lim]
 rcases Yj x.all with a|a
 ·simp[Iv.meet,b,e,a,eo]
 rcases Yj y.all with d|d
 ·simp[Iv.meet,b,e,a,d,eo]
 simp[a,d];refine ak rfl rfl rfl (Ux x.lo y.lo f.lo g.lo) ?_;simp;refine ak rfl rfl rfl (Uw x.hi y.hi f.hi g.hi) ?_;simp;refine ak rfl rfl rfl (lj (x.lo.hi2 y.lo) (x.hi.lo2 y.hi) (f.lo.hi2 g.lo) (f.hi.lo2 g.hi)) ?_;by_cases c:0<(x.lo.hi2 y.lo).cmp (x.hi.lo2 y.hi)
 ·simp[c,Iv.meet,b,e,a,d,eo,Iv.zero,lim]
 ·simp[c,Iv.meet,b,e,a,d,eo]
theorem lR {a b:Dy}(c:a.Ok)(d:b.Ok):(a.lo2 b).Ok:=by unfold Dy.lo2;split<;>assumption
theorem tl {a b:Dy}(c:a.Ok)(d:b.Ok):(a.hi2 b).Ok:=by unfold Dy.hi2;split<;>assumption
