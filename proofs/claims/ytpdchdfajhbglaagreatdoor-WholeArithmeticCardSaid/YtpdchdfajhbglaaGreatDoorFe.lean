/- Parts of the proof: FpDy, FpSlcU, FpSlc, FpSlc2, FpBop, FpLimb, FpN2, FpDyC, FpVal, FpCmp, FpOut, FpOutI, FpRef2, FpRef2b, FpRef2c, FpRef2d, FpRef2e, FpRef2f, FpIv0, FpRef50, FpHull, FpIMeet. -/
import Derived.Test.YtpdchdfajhbglaaGreatDoorFb
namespace Go.Abs.W
structure Dy where
 neg:Bool
 m:List Nat
 e:Int
 deriving DecidableEq
structure Iv where
 lo:Dy
 hi:Dy
 all:Bool
 deriving DecidableEq
structure Sg where
 fr:Dy
 to:Dy
 tube:List Iv
 en:List Iv
 deriving DecidableEq
structure Pp where
 start:List Iv
 segs:List Sg
 deriving DecidableEq
@[simp] def Dy.v (d:Dy):V:=.agg [.bool d.neg,lim d.m,.int .i64 d.e]
@[simp] def Iv.v (x:Iv):V:=.agg [.bool x.lo.neg,lim x.lo.m,.int .i64 x.lo.e,.bool x.hi.neg,lim x.hi.m,.int .i64 x.hi.e,.bool x.all]
def ivs (l:List Iv):V:=.sl (l.map Iv.v)
@[simp] def Sg.v (s:Sg):V:=.agg [.bool s.fr.neg,lim s.fr.m,.int .i64 s.fr.e,.bool s.to.neg,lim s.to.m,.int .i64 s.to.e,ivs s.tube,ivs s.en]
def sgs (l:List Sg):V:=.sl (l.map Sg.v)
@[simp] def Pp.v (p:Pp):V:=.agg [ivs p.start,sgs p.segs]
def lims (l:List (List Nat)):V:=.sl (l.map lim)
@[simp] theorem qalp {l:List Iv}:(ivs l).cells=[ivs l]:=rfl
@[simp] theorem qaln {l:List Sg}:(sgs l).cells=[sgs l]:=rfl
@[simp] theorem qakx {l:List Iv}:(ivs l).isTup=false:=rfl
@[simp] theorem qakv {l:List Sg}:(sgs l).isTup=false:=rfl
structure Dy.wt (d:Dy):Prop where
 li:Li d.m
 len:d.m.length<=9223372036854775807
 lo:-9223372036854775808<=d.e
 hi:d.e<9223372036854775808
@[simp] theorem qak8 {H:Heap}{b:Bool}:frzC H (.bool b)=some (.bool b,H):=rfl
@[simp] theorem qamm {H:Heap}{k:IntKind}{n:Int}:frzC H (.int k n)=some (.int k n,H):=rfl
@[simp] theorem qamr {H:Heap}{l:List V}:frzC H (.sl l)=some (.sl l,H):=rfl
@[simp] theorem qamk {H:Heap}{l:List Nat}:frzC H (lim l)=some (lim l,H):=rfl
@[simp] theorem qaml {H:Heap}{l:List Iv}:frzC H (ivs l)=some (ivs l,H):=rfl
@[simp] theorem qami {H:Heap}{l:List Sg}:frzC H (sgs l)=some (sgs l,H):=rfl
@[simp] theorem qamj {H:Heap}:frzC H .nil=some (.sl [],H):=rfl
@[simp] theorem qamz {b:Bool}:(V.bool b).cellPure=true:=rfl
@[simp] theorem qam4 {k:IntKind}{n:Int}:(V.int k n).cellPure=true:=rfl
@[simp] theorem cp_sl {l:List V}:(V.sl l).cellPure=true:=rfl
@[simp] theorem qam2 {l:List Nat}:(lim l).cellPure=true:=rfl
@[simp] theorem qam3 {l:List Iv}:(ivs l).cellPure=true:=rfl
@[simp] theorem qam0 {l:List Sg}:(sgs l).cellPure=true:=rfl
@[simp] theorem qam1 : V.nil.cellPure=true:=rfl
@[simp] theorem qams {n:Nat}{H:Heap}{vs:List V}:fin false n H (.tup vs)=(qew H vs).bind fun(vs',H1)=>some (.tup vs',H1.take n):=rfl
@[simp] theorem qamy {n:Nat}{H:Heap}{cs:List V}:fin false n H (.agg cs)=(qc5 H (.agg cs)).bind fun(v',H1)=>some (v',H1.take n):=rfl
@[simp] theorem qamv {n:Nat}{H:Heap}:fin false n H .nil=some (.sl [],H.take n):=rfl
@[simp] theorem qamu {n:Nat}{H:Heap}{b z off len:Nat}:fin false n H (.ref b z off len)=(qc5 H (.ref b z off len)).bind fun(v',H1)=>some (v',H1.take n):=rfl
@[simp] theorem qamt {n:Nat}{H:Heap}{l:List Sg}:fin false n H (sgs l)=some (sgs l,H.take n):=rfl
@[simp] theorem qajo {H:Heap}{l:List Nat}:qc5 H (lim l)=some (lim l,H):=rfl
@[simp] theorem qajp {H:Heap}{l:List Iv}:qc5 H (ivs l)=some (ivs l,H):=rfl
@[simp] theorem qajl {H:Heap}{l:List Sg}:qc5 H (sgs l)=some (sgs l,H):=rfl
@[simp] theorem qag7 {H:Heap}{b:Bool}:qc5 H (.bool b)=some (.bool b,H):=rfl
@[simp] theorem qajq {H:Heap}{k:IntKind}{n:Int}:qc5 H (.int k n)=some (.int k n,H):=rfl
@[simp] theorem qakb {H:Heap}{l:List V}:qc5 H (.sl l)=some (.sl l,H):=rfl
@[simp] theorem qajn {H:Heap}:qc5 H .nil=some (.sl [],H):=rfl
@[simp] theorem qajr {H:Heap}{cs:List V}:qc5 H (.agg cs)=(frzCs H cs).bind fun(cs',H1)=>if(V.agg cs').pure=true then some (.agg cs',H1)else none:=by
 unfold qc5 frzV;simp only[];generalize frzCs H cs=o;cases o<;>rfl
@[simp] theorem qamw {n:Nat}{H:Heap}{l:List Nat}:fin false n H (lim l)=some (lim l,H.take n):=rfl
@[simp] theorem qamx {n:Nat}{H:Heap}{l:List Iv}:fin false n H (ivs l)=some (ivs l,H.take n):=rfl
@[simp] theorem qajm {H:Heap}{b z off len:Nat}:qc5 H (.ref b z off len)=frzC H (.ref b z off len):=by
 show(frzC H (.ref b z off len)).bind _=_;unfold frzC;simp only[];split
 ·split
  ·rfl
  ·rfl
 ·rfl
@[simp] theorem qb3 {H:Heap}{b z off len:Nat}:frzC H (.ref b z off len)=match H[b]? with
 |some (some k)=>if k.arr=true/\k.z=z/\off+len<=k.el.length then some (.sl ((k.el.drop off).take len),if k.wr then H.set b (some { k with wr:=false })else H)else none
 |_=>none:=rfl
theorem qtq {n b:Nat}:qbn n b=true↔n*b<=140737488355328:=by simp[qbn]
attribute [simp] qtq
attribute [simp] qew frzCs V.pure V.withCells qdv fillC fillE elems qg0
theorem qms {α:Type}{H H':List α}(h:H <+: H'):H'.take H.length=H:=by
 obtain⟨t,rfl⟩:=h;simp
theorem qnu {α:Type}{H H' l:List α}(h:H <+: H'):H <+: H'++l:=h.trans (List.prefix_append _ _)
@[simp] theorem qafn {α:Type}{H l:List α}:H <+: H++l:=List.prefix_append _ _
def Cb (H:Heap)(g:Nat)(caps args:List V)(v:V):Prop:=
 ∀H',H <+: H'->prep prog g H' (args++caps)=some (args++caps,H')/\Ev prog (.call g (args++caps) H') (.ret v H')
theorem Cb.mono {H H':Heap}{g:Nat}{caps args:List V}{v:V}(h:Cb H g caps args v)(hp:H <+: H'):Cb H' g caps args v:=fun K hK=>h K (hp.trans hK)
def idxV (o:Option Nat):V:=match o with
 |some i=>.int .i64 i
 |none=>.int .i64 (-1)
theorem WL_cb {n0:Nat}{Q:AX->Env->Heap->Prop}{d:Bool}{dst:Option Nat}{sy:Bool}{l:List AOper}{K:List Fr}{E:Env}{H H0:Heap}{x:X}{caps args:List V}{xs:List X}{g:Nat}{v:V}(h:Cb H0 g caps args v)(hp:H0 <+: H)
 (hx:getX E x=.fn g caps) (ha:xs.map (getX E)=args) (k:WL prog n0 d l K (put E dst v) H Q):qtv prog n0 d dst x xs sy l K E H Q:=
 qtu hx (by rw[ha]) (h H hp).1 ⟨_,_,(h H hp).2,fun _=>List.prefix_refl H,k⟩
theorem WL_ev {n0:Nat}{Q:AX->Env->Heap->Prop}{d:Bool}{dst:Option Nat}{sy:Bool}{l:List AOper}{K:List Fr}{E:Env}{H:Heap}{x:X}{caps args vs:List V}{xs:List X}{g:Nat}{v:V}
 (hx:getX E x=.fn g caps) (ha:xs.map (getX E)++caps=args) (hp:prep prog g H args=some (vs,H)) (h:Ev prog (.call g vs H) (.ret v H)) (k:WL prog n0 d l K (put E dst v) H Q):qtv prog n0 d dst x xs sy l K E H Q:=
 qtu hx ha hp ⟨_,_,h,fun _=>List.prefix_refl H,k⟩
theorem qqi {g:Nat}{f:AFn}{args:List V}{v:V}{H:Heap}(hf:prog.fn g=some f)
 (h:WK prog H.length f.body [] (E0 args) H (fun x E1 H1=>(x=.normal\/x=.ret)/\∃v0,resV E1 H1 f.results=some v0/\fin f.own H.length H1 v0=some (v,H))):Ev prog (.call g args H) (.ret v H):=by
 obtain⟨x,E1,H1,e,hx,v0,hr,hfin⟩:=h;exact .call hf e hx hr hfin
set_option maxHeartbeats 1000000 in
theorem q7b {H:Heap}{g:Nat}{caps:List V}{p:(List Nat)->Bool}(l:List (List Nat))(hl:l.length<=9223372036854775807)(h:∀x ∈ l,Cb H g caps [lim x] (.bool (p x))) :
 Ev prog (.call qig [lims l,.fn g caps] H) (.ret (idxV (l.findIdx? p)) H):=by
 refine qqi rfl ?_;simp[lims];refine WK_up (fun i E H'=>H'=H/\E 0=lims l/\E 1=.fn g caps/\E 7=.int .i64 l.length/\E 8=.int .i64 i/\(∀j x,j<i->l[j]?=some x->p x=false)) l.length ?_ ?_
 ·simp[lims]
 ·rintro i E H' hi ⟨rfl,h0,h1,h7,h8,hp⟩;simp only[lims]at h0 ⊢;rcases Nat.lt_or_ge i l.length with hlt|hge
  ·have e2:IntKind.i64.wrap ((i:Int)+1)=((i+1:Nat):Int):=by rw[wrap_i64]<;>omega
   simp[qbl,h7,h8,h0,h1,hlt];refine WL_cb (h l[i] (List.getElem_mem hlt)) (List.prefix_refl _) rfl rfl ?_;simp[h0,h1,h7,h8,e2];refine⟨fun hpx=>?_,fun hpx=>?_⟩
   ·rw[show l.findIdx? p=some i from ?_]
    ·simp[idxV]
    ·rw[List.findIdx?_eq_some_iff_getElem];refine⟨hlt,hpx,?_⟩
     ·intro j hj;have:=hp j l[j] hj (List.getElem?_eq_getElem _);simp[this]
   ·intro j y hj hy;rcases Nat.lt_or_ge j i with hji|hji
    ·exact hp j y hji hy
    ·have:j=i:=by omega
     subst this;rw[List.getElem?_eq_getElem hlt]at hy;injection hy with hy;rw[<-hy];exact hpx
  ·have hin:i=l.length:=by omega
   subst hin;have e1:l.findIdx? p=none:=by
    simp only[List.findIdx?_eq_none_iff];intro x hx;obtain⟨j,hj,rfl⟩:=List.getElem_of_mem hx;exact hp j _ hj (List.getElem?_eq_getElem _)
   simp[qbl,h7,h8,e1,idxV]
theorem qyc {H:Heap}{g:Nat}{caps:List V}{p:(List Nat)->Bool}(l:List (List Nat))(hl:l.length<=9223372036854775807)(h:∀x ∈ l,Cb H g caps [lim x] (.bool (p x))) :
 Ev prog (.call qf7 [lims l,.fn g caps] H) (.ret (.bool (l.any p)) H):=by
 refine qqi rfl ?_;simp[lims];refine WL_ev rfl rfl rfl (q7b l hl h) ?_;rcases hq:l.findIdx? p with _|i
 ·have e1:l.any p=false:=by simpa[List.findIdx?_eq_none_iff]using hq
  simp[idxV,e1]
 ·have e1:l.any p=true:=by
   rw[List.findIdx?_eq_some_iff_getElem]at hq;obtain⟨h1,h2,_⟩:=hq;exact List.any_eq_true.2 ⟨_,List.getElem_mem h1,h2⟩
  simp[idxV,e1]
attribute [local simp] qhd
theorem qjz (w n:Nat):(BitVec.ofInt w (n:Int)).toNat=n%2^w:=by
 simp
theorem qam (n:Nat)(h:n<18446744073709551616):IntKind.u64.wrap (n:Int)=n:=qfw (by omega) (by omega)
theorem qbe (n:Nat)(h:n<4294967296):IntKind.u32.wrap (n:Int)=n:=qacp (by omega) (by omega)
theorem qba (n:Nat):IntKind.u32.wrap (n:Int)=((n%4294967296:Nat):Int):=by
 simp only[IntKind.wrap,IntKind.bits,IntKind.signed];simp
theorem qv5 (a b:Nat)(ha:a<2^64)(hb:b<2^64):bitsI .or .u64 (a:Int) (b:Int)=some (((a |||b:Nat)):Int):=by
 show some (IntKind.u64.wrap ((BitVec.ofInt 64 (a:Int) |||BitVec.ofInt 64 (b:Int)).toNat:Int))=_;rw[BitVec.toNat_or,qjz,qjz,Nat.mod_eq_of_lt ha,Nat.mod_eq_of_lt hb];rw[qam _ (Nat.or_lt_two_pow ha hb)]
theorem q2s (a b:Nat)(ha:a<2^64)(hb:b<2^64):bitsI .and .u64 (a:Int) (b:Int)=some (((a &&& b:Nat)):Int):=by
 show some (IntKind.u64.wrap ((BitVec.ofInt 64 (a:Int) &&& BitVec.ofInt 64 (b:Int)).toNat:Int))=_;rw[BitVec.toNat_and,qjz,qjz,Nat.mod_eq_of_lt ha,Nat.mod_eq_of_lt hb];rw[qam _ (Nat.lt_of_le_of_lt Nat.and_le_left ha)]
theorem qoi (a b:Nat)(ha:a<2^32)(hb:b<2^32):bitsI .and .u32 (a:Int) (b:Int)=some (((a &&& b:Nat)):Int):=by
 show some (IntKind.u32.wrap ((BitVec.ofInt 32 (a:Int) &&& BitVec.ofInt 32 (b:Int)).toNat:Int))=_;rw[BitVec.toNat_and,qjz,qjz,Nat.mod_eq_of_lt ha,Nat.mod_eq_of_lt hb];rw[qbe _ (Nat.lt_of_le_of_lt Nat.and_le_left ha)]
theorem q61 (a:Nat)(ha:a<2^64):bitsI .and .u64 (a:Int) 4294967295=some ((a%4294967296:Nat):Int):=by
 have:=q2s a 4294967295 ha (by decide);rw[show((4294967295:Nat):Int)=4294967295 from rfl]at this;rw[this,show 4294967295=2^32-1 from rfl,Nat.and_two_pow_sub_one_eq_mod]
theorem qf3 (x s c:Nat)(hx:x*2^s<2^64)(hc:c<2^s)(hs:s<=64):bitsI .or .u64 ((x*2^s:Nat):Int) (c:Int)=some ((x*2^s+c:Nat):Int):=by
 have h2:2^s<=2^64:=Nat.pow_le_pow_right (by omega) hs;rw[qv5 _ _ hx (by omega),Nat.mul_comm,Nat.two_pow_add_eq_or_of_lt hc]
theorem shl64 (x s:Nat)(hs:s<64)(h:x*2^s<2^64):qcl .shl .u64 (x:Int) (s:Int)=some (.int .u64 ((x*2^s:Nat):Int)):=by
 have e1:¬((s:Int)<0):=by omega
 have e2:Nat.min s 64=s:=Nat.min_eq_left (by omega);have e3:(x:Int)*2^s=((x*2^s:Nat):Int):=by simp
 simp only[qcl,if_neg e1,q5j,Int.toNat_natCast,e2,e3];rw[qam _ h]
theorem shr64 (x s:Nat)(hs:s<64):qcl .shr .u64 (x:Int) (s:Int)=some (.int .u64 ((x/2^s:Nat):Int)):=by
 have e1:¬((s:Int)<0):=by omega
 have e2:Nat.min s 64=s:=Nat.min_eq_left (by omega);have e3:(2:Int)^s=((2^s:Nat):Int):=by simp
 simp only[qcl,if_neg e1,q5j,Int.toNat_natCast,e2,e3,qrh]
theorem shr32 (x s:Nat)(hs:s<32):qcl .shr .u32 (x:Int) (s:Int)=some (.int .u32 ((x/2^s:Nat):Int)):=by
 have e1:¬((s:Int)<0):=by omega
 have e2:Nat.min s 32=s:=Nat.min_eq_left (by omega);have e3:(2:Int)^s=((2^s:Nat):Int):=by simp
 simp only[qcl,if_neg e1,qaeu,Int.toNat_natCast,e2,e3,qrh]
end Go.Abs.W
namespace Go.Abs
def qou : Nat->Nat->List Nat
 |0,_=>[]
 |f+1,n=>if n=0 then []else(n%4294967296) :: qou f (n/4294967296)
def qae (n:Nat):List Nat:=qou (Nat.log2 n/32+1) n
theorem qzm : ∀{f g n:Nat},n<4294967296^f->n<4294967296^g->qou f n=qou g n
 |0,0,_,_,_=>rfl
 |0,g+1,n,h,_=>by
  have:n=0:=by simpa using h
  simp[qou,this]
 |f+1,0,n,_,h=>by
  have:n=0:=by simpa using h
  simp[qou,this]
 |f+1,g+1,n,h1,h2=>by
  rw[Nat.pow_succ]at h1 h2;simp only[qou];rw[qzm (f:=f) (g:=g) (by omega) (by omega)]
theorem qvk (n:Nat):n<4294967296^(Nat.log2 n/32+1):=by
 rw[show 4294967296=2^32 from rfl,<-Nat.pow_mul];exact Nat.lt_of_lt_of_le Nat.lt_log2_self (Nat.pow_le_pow_right (by omega) (by omega))
theorem qbf : qae 0=[]:=rfl
theorem qfl {n:Nat}(h:n≠0):qae n=(n%4294967296) :: qae (n/4294967296):=by
 have h1:=qvk n;rw[Nat.pow_succ]at h1;show qou (Nat.log2 n/32+1) n=_;simp only[qou,h,if_false];rw[qzm (by omega) (qvk (n/4294967296))];rfl
theorem qad (n:Nat):natV (qae n)=n:=by
 induction n using Nat.strongRecOn with
 |_ n ih=>
  by_cases h:n=0
  ·subst h;rw[qbf];rfl
  ·rw[qfl h,natV,ih _ (by omega)];omega
theorem qaf (n:Nat):Li (qae n):=by
 induction n using Nat.strongRecOn with
 |_ n ih=>
  by_cases h:n=0
  ·subst h;rw[qbf];intro x hx;simp at hx
  ·rw[qfl h];intro x hx;rcases List.mem_cons.1 hx with rfl|hx
   ·omega
   ·exact ih _ (by omega) x hx
theorem qep {n:Nat}(h:n≠0):qae n≠[]:=by rw[qfl h];simp
theorem qii (n:Nat):Trim (qae n):=by
 induction n using Nat.strongRecOn with
 |_ n ih=>
  by_cases h:n=0
  ·subst h;rw[qbf];intro x hx;simp at hx
  ·rw[qfl h];intro x hx;by_cases h1:n/4294967296=0
   ·rw[h1,qbf]at hx;simp at hx;omega
   ·obtain⟨y,l,hl⟩:=List.exists_cons_of_ne_nil (qep h1);rw[hl,List.getLast?_cons_cons,<-hl]at hx;exact ih _ (by omega) x hx
theorem Trim.tail {x:Nat}{l:List Nat}(h:Trim (x :: l)):Trim l:=by
 intro y hy;cases l with
 |nil=>simp at hy
 |cons z l=>exact h y (by rw[List.getLast?_cons_cons];exact hy)
theorem qzd {l:List Nat}(h:Trim l)(h0:natV l=0):l=[]:=by
 induction l with
 |nil=>rfl
 |cons x l ih=>
  simp only[natV]at h0;have hx:x=0:=by omega
  have hl:=ih h.tail (by omega);subst hl;subst hx;exact absurd rfl (h 0 (by simp))
theorem qim {l:List Nat}(hl:Li l)(ht:Trim l):qae (natV l)=l:=by
 induction l with
 |nil=>exact qbf
 |cons x l ih=>
  have h0:natV (x :: l)≠0:=fun h=>by simpa using qzd ht h
  rw[qfl h0];have:=hl.cons.1;simp only[natV];rw[show(x+4294967296*natV l)%4294967296=x by omega,show(x+4294967296*natV l)/4294967296=natV l by omega,ih hl.cons.2 ht.tail]
theorem qax {l:List Nat}(hl:Li l):trimL l=qae (natV l):=by
 rw[<-qj1 l,qim hl.trimL (qmr l)]
theorem qadt {a b:List Nat}(ha:Li a)(hb:Li b)(ta:Trim a)(tb:Trim b)(h:natV a=natV b):a=b:=by
 rw[<-qim ha ta,<-qim hb tb,h]
theorem limbsOf_len {n k:Nat}:(qae n).length<=k↔n<4294967296^k:=by
 constructor
 ·intro h;have:=qau (qaf n);rw[qad]at this;exact Nat.lt_of_lt_of_le this (Nat.pow_le_pow_right (by omega) h)
 ·intro h;by_cases h0:n=0
  ·rw[h0,qbf];simp
  ·have:=q9e (qii n) (qep h0);rw[qad]at this;have h2:4294967296^((qae n).length-1)<4294967296^k:=by omega
   have:=(Nat.pow_lt_pow_iff_right (by omega)).1 h2;omega
theorem qfk {N B k:Nat}(h:N<2^B)(hk:B<=32*k):(qae N).length<=k:=by
 refine limbsOf_len.2 ?_;rw[show(4294967296:Nat)=2^32 from rfl,<-Nat.pow_mul];exact Nat.lt_of_lt_of_le h (Nat.pow_le_pow_right (by omega) hk)
theorem qch {X Y k:Nat}(h:X<=Y)(hl:(qae Y).length<=k):(qae X).length<=k:=by
 have:=limbsOf_len.1 hl;exact limbsOf_len.2 (by omega)
theorem q9y {X Y k:Nat}(h1:(qae X).length<=k)(h2:(qae Y).length<=k):(qae (X+Y)).length<=k+1:=by
 have h3:=limbsOf_len.1 h1;have h4:=limbsOf_len.1 h2;refine limbsOf_len.2 ?_;rw[Nat.pow_succ];omega
end Go.Abs
namespace Go.Abs.W
attribute [local simp] qhd
theorem Cb_of {H:Heap}{g:Nat}{args:List V}{v:V}(hp:∀H,prep prog g H args=some (args,H))(h:CQ prog g args v):Cb H g [] args v:=by
 intro H' _;rw[List.append_nil];exact⟨hp H',h H'⟩
theorem qaq {n0:Nat}{Q:AX->Env->Heap->Prop}{d:Bool}{dst:Option Nat}{sy:Bool}{l:List AOper}{K:List Fr}{E:Env}{H H1:Heap}{x:X}{args caps vs:List V}{xs:List X}{g:Nat}{v:V}(hx:getX E x=.fn g caps)
 (ha:xs.map (getX E)++caps=args) (hp:prep prog g H args=some (vs,H1)) (h:CQ prog g vs v) (k:WL prog n0 d l K (put E dst v) H1 Q) (hd:(d&&!sy)=true->H <+: H1:=by simp):qtv prog n0 d dst x xs sy l K E H Q:=
 qtu hx ha hp (h.ct ⟨hd,k⟩)
theorem qad2 (a:List Nat):CQ prog qqm [lim a] (.bool (decide (256<a.length))):=by
 refine qag rfl fun H=>?_
 simp[lim];omega
theorem qlt (l:List (List Nat))(hl:l.length<=9223372036854775807):CQ prog qt4 [lims l] (.bool (l.any fun a=>decide (256<a.length))):=by
 refine qag rfl fun H=>?_
 simp;refine WL_ev rfl rfl rfl (qyc l hl fun x _=>Cb_of (fun _=>rfl) (qad2 x)) ?_;simp
theorem qyd (a:List Nat):CQ prog qm6 [lim a] (lim a):=by
 refine qag rfl fun H=>?_
 simp[lim,List.take_of_length_le]
theorem qaa3 (a:List Nat)(ha:a.length<=100000000):CQ prog qiw [lim a] (.tup [lim (if 256<(trimL a).length then []else trimL a),.int .i64 (if 256<(trimL a).length then 9 else 0)]):=by
 refine qag rfl fun H=>?_
 simp;refine qaa rfl rfl rfl (qbu a (by omega)) ?_;simp;refine qaq rfl rfl (H1:=H++[some ⟨1,[lim (trimL a)],true,false⟩]) (by simp[prep,frzVs,frzV];rfl) (qlt [trimL a] (by simp)) ?_;simp;refine⟨fun h=>?_,fun h=>?_⟩
 ·simp[h];rfl
 ·refine qaa rfl rfl rfl (qyd (trimL a)) ?_;have:¬(256<(trimL a).length):=by omega
  simp[this]
def shlGo (s:Nat):Nat->List Nat->List Nat
 |c,[]=>[c%4294967296]
 |c,x :: l=>((x*2^s+c)%4294967296) :: shlGo s ((x*2^s+c)/4294967296) l
theorem qru {s:Nat}:∀{c:Nat} {l:List Nat},(shlGo s c l).length=l.length+1
 |_,[]=>rfl
 |c,x :: l=>by simp[shlGo,qru]
theorem q3s {s:Nat}:∀{c:Nat} {l:List Nat},Li (shlGo s c l)
 |c,[]=>by intro x hx;simp[shlGo]at hx;omega
 |c,x :: l=>by
  intro y hy;rcases List.mem_cons.1 hy with rfl|hy
  ·omega
  ·exact q3s y hy
theorem q3r {s x c:Nat}(hs:s<32)(hx:x<4294967296)(hc:c<2^s):x*2^s+c<18446744073709551616/\(x*2^s+c)/4294967296<2^s:=by
 have h1:x*2^s+c<4294967296*2^s:=by
  have:(x+1)*2^s<=4294967296*2^s:=Nat.mul_le_mul_right _ (by omega);rw[Nat.add_mul]at this;omega
 have h2:2^s<=2^31:=Nat.pow_le_pow_right (by omega) (by omega);exact⟨by omega,(Nat.div_lt_iff_lt_mul (by omega)).2 (by omega)⟩
theorem qyw {s:Nat}(hs:s<32):∀{c:Nat} {l:List Nat},Li l->c<2^s->natV (shlGo s c l)=natV l*2^s+c
 |c,[],_,hc=>by
  have h2:2^s<=2^31:=Nat.pow_le_pow_right (by omega) (by omega);simp[shlGo,natV];omega
 |c,x :: l,hl,hc=>by
  obtain⟨h1,h2⟩:=q3r hs hl.cons.1 hc;simp only[shlGo,natV];rw[qyw hs hl.cons.2 h2,Nat.add_mul,Nat.mul_add,Nat.mul_assoc];omega
def shlL (a:List Nat)(n:Nat):List Nat:=List.replicate (n/32) 0++shlGo (n%32) 0 (trimL a)
theorem qra {a:List Nat}{n:Nat}(la:Li a):natV (shlL a n)=natV a*2^n:=by
 unfold shlL;rw[qcp,qvd,List.length_replicate,qyw (by omega) la.trimL (Nat.two_pow_pos _),qj1,pow32];rw[Nat.zero_add,Nat.add_zero,Nat.mul_left_comm,<-Nat.pow_add,Nat.div_add_mod]
theorem qwe {a:List Nat}{n:Nat}:Li (shlL a n):=by
 refine Li.append ?_ q3s;intro x hx;rw[(List.mem_replicate.1 hx).2];omega
theorem qg9 (a:List Nat):(trimL a).length<=a.length:=by unfold trimL;simp;omega
theorem qwf {a:List Nat}{n:Nat}:(shlL a n).length<=n/32+a.length+1:=by
 unfold shlL;have:=qg9 a;simp[qru];omega
theorem qads {n0:Nat}{H acc:Heap}{b z off len:Nat}:ownC n0 H acc (.ref b z off len)=match H[b]? with
 |some (some k)=>if n0<=b/\k.arr=true/\k.wr=true/\k.z=z/\off+len<=k.el.length then some (.ref (n0+acc.length) z 0 len,H.set b none,acc++[some { k with el:=(k.el.drop off).take len }])else none
 |_=>none:=rfl
set_option maxHeartbeats 2000000 in
theorem q3q (a:List Nat)(n:Nat)(ha:a.length<=100000000)(la:Li a)(hn:n<=1000000000)(H:Heap)(Q:V->Heap->Prop)
 (hQ:Q (.ref H.length 1 0 (shlL a n).length) (H++[some ⟨1,(shlL a n).map u32,true,true⟩])):CT prog qw9 [lim a,.int .i64 n] H Q:=by
 refine CT_of (f:=qg4) rfl (qm5 ?_);simp;refine qaa rfl rfl rfl (qbu a (by omega)) ?_;have hx:=qg9 a;have lx:=la.trimL;unfold shlL at hQ;generalize trimL a=x at *
 have⟨q,hq⟩:∃q,q=n/32:=⟨_,rfl⟩
 have⟨s,hs⟩:∃s,s=n%32:=⟨_,rfl⟩
 rw[<-hq,<-hs]at hQ;have q1:(n:Int)/32=q:=by omega
 have s1:(n:Int)%32=s:=by omega
 have hs32:s<32:=by omega
 have e1:IntKind.i64.wrap (q:Int)=q:=by rw[wrap_i64]<;>omega
 have e2:IntKind.i64.wrap ((q:Int)+(x.length:Int))=q+x.length:=by rw[wrap_i64]<;>omega
 have e3:IntKind.i64.wrap ((q:Int)+(x.length:Int)+1)=q+x.length+1:=by rw[wrap_i64]<;>omega
 have e4:(0:Int)<=q+x.length+1:=by omega
 have e5:((q:Int)+x.length+1).toNat=q+x.length+1:=by omega
 have e6:q<=q+x.length+1/\(q+x.length+1)*4<=281474976710656/\q+x.length+1<=9223372036854775807:=by omega
 simp[lim,q1,e1,e2,e3,e4,e5,e6];refine WK_up (fun i E H'=>E 0=lim x/\E 1=.int .i64 n/\E 21=lim x/\E 22=.int .i64 x.length/\E 23=.int .i64 i /\
  ∃c o G g blk,H'=H++G/\c<2^s/\Li o/\E 6=.int .u64 (c:Nat)/\E 5=.ref (H.length+g) 1 0 (q+i)/\G[g]?=some (some ⟨1,blk,true,true⟩)/\blk.take (q+i)=o.map u32/\o.length=q+i/\q+i<=blk.length /\
   o++shlGo s c (x.drop i)=List.replicate q 0++shlGo s 0 x) x.length ?_ ?_
 ·simp[lim];refine⟨0,Nat.two_pow_pos s,List.replicate q 0,?_,rfl,?_,by simp,by omega,rfl⟩
  ·intro y hy;rw[(List.mem_replicate.1 hy).2];omega
  ·rw[Nat.min_eq_left (by omega)];simp[u32]
 ·rintro i E H' hi ⟨h0,h1,h21,h22,h23,c,o,G,g,blk,rfl,hc,lo,h6,h5,hg,hb,ho,hbl,ht⟩;simp only[lim]at h0 h21;have hgl:=(List.getElem?_eq_some_iff.1 hg).1;rcases Nat.lt_or_ge i x.length with hlt|hge
  ·have f1:IntKind.i64.wrap ((i:Int)+1)=((i+1:Nat):Int):=by rw[wrap_i64]<;>omega
   have f2:(n:Int).tmod 32=s:=by rw[Int.tmod_eq_emod_of_nonneg (by omega)];exact s1
   have lxi:x[i]<4294967296:=lx _ (List.getElem_mem hlt);have f3:IntKind.u64.wrap (x[i]:Int)=x[i]:=qam _ (by omega);obtain⟨g1,g2⟩:=q3r hs32 lxi hc;rw[List.drop_eq_getElem_cons hlt,shlGo]at ht;have⟨P,hP⟩:∃P,P=x[i]*2^s:=⟨_,rfl⟩
   have f4:qcl .shl .u64 (x[i]:Int) (s:Int)=some (.int .u64 (P:Int)):=by rw[shl64 _ _ (by omega) (by omega),hP]
   have f5:bitsI .or .u64 (P:Int) (c:Int)=some ((P+c:Nat):Int):=by rw[hP];exact qf3 _ _ _ (by omega) hc (by omega)
   rw[<-hP]at g1 g2 ht;have⟨T,hT⟩:∃T,T=P+c:=⟨_,rfl⟩
   rw[<-hT]at f5 g1 g2 ht;have f6:IntKind.u32.wrap (T:Int)=((T%4294967296:Nat):Int):=qba T;have f7:qcl .shr .u64 (T:Int) 32=some (.int .u64 ((T/4294967296:Nat):Int)):=shr64 T 32 (by omega);have⟨L,hL⟩:∃L,L=T%4294967296:=⟨_,rfl⟩
   have⟨C,hC⟩:∃C,C=T/4294967296:=⟨_,rfl⟩
   rw[<-hL]at f6 ht;rw[<-hC]at f7 ht g2;have f8:(q+i+1)*4<=140737488355328:=by omega
   have f9:(G++[some ⟨1,[V.int IntKind.u32 L],true,true⟩])[g]?=some (some ⟨1,blk,true,true⟩):=by rw[List.getElem?_append_left hgl];exact hg
   simp[qga,h0,h1,h21,h22,h23,h5,h6,hlt,u32,f1,f2,f3,f4,f5,f6,f7,f8,hbl,f9,lim];refine⟨C,g2,o++[L],lo.append (by intro y hy;simp at hy;omega),rfl,G.length+1,⟨rfl,by omega⟩,List.take (q+i) blk++[V.int IntKind.u32 ↑L],?_,?_,by simp;omega,by simp;omega,by simpa using ht⟩
   ·rw[List.getElem?_append_right (by simp)];simp
   ·rw[hb,List.take_of_length_le (by simp;omega)];simp[u32]
  ·have hin:i=x.length:=by omega
   subst hin;have g1:2^s<=2^31:=Nat.pow_le_pow_right (by omega) (by omega);have f6:IntKind.u32.wrap (c:Int)=c:=qbe c (by omega);have f8:(q+x.length+1)*4<=140737488355328:=by omega
   have f9:(G++[some ⟨1,[V.int IntKind.u32 c],true,true⟩])[g]?=some (some ⟨1,blk,true,true⟩):=by rw[List.getElem?_append_left hgl];exact hg
   simp[qga,h22,h23,h5,h6,f6,f8,f9,hbl,fin,ownV,qads];simp[shlGo]at ht;have hc32:c%4294967296=c:=by omega
   rw[hc32]at ht;rw[<-ht]at hQ;rw[List.take_of_length_le (l:=List.take _ blk++_) (by simp;omega),hb];have hl:(o++[c]).length=q+x.length+1:=by simp[ho]
   rw[hl]at hQ;refine⟨_,_,⟨rfl,rfl⟩,?_⟩;simpa[u32]using hQ
def shN (a:List Nat)(n:Nat):List Nat:=if 256<(qae (natV a*2^n)).length then []else qae (natV a*2^n)
theorem qaca (a:List Nat)(n:Nat)(ha:a.length<=256)(la:Li a)(hn:n<=65536):CQ prog qoz [lim a,.int .i64 n] (.tup [lim (shN a n),.int .i64 (if 256<(qae (natV a*2^n)).length then 9 else 0)]):=by
 refine qag rfl fun H=>?_
 simp;refine qaq rfl rfl (H1:=H++[some ⟨1,[lim a],true,false⟩]) (by simp[prep,frzVs,frzV];rfl) (qlt [a] (by simp)) ?_;have h1:¬(256<a.length):=by omega
 have h2:(n:Int)<=65536:=by omega
 have h3:¬((65536:Int)<n):=by omega
 have h4:¬((n:Int)<0):=by omega
 simp[h1,h3,h4];refine qpd rfl rfl rfl (q3q a n (by omega) la (by omega) _ _ ?_);simp;refine qaq rfl rfl (H1:=H++[some ⟨1,[lim a],true,false⟩,some ⟨1,(shlL a n).map u32,true,false⟩]) (vs:=[lim (shlL a n)]) (by refine Eq.trans (b:=frzVs _ _) rfl ?_;simp[frzVs,frzV,qb3,lim,List.take_of_length_le]) (qaa3 (shlL a n) (by have:=qwf (a:=a) (n:=n);omega)) ?_;rw[qax qwe,qra la];simp[shN]
theorem quy (a:List Nat)(n:Nat)(ha:a.length<=256)(la:Li a)(hn:n<=65536):CQ prog qq1 [lim a,.int .i64 n] (lim (shN a n)):=by
 refine qag rfl fun H=>?_
 simp;refine qaa rfl rfl rfl (qaca a n ha la hn) ?_;simp
theorem q1o (a:List Nat)(ha:a.length<=100000000)(la:Li a):CQ prog qxg [lim a] (.int .i64 (bitL (natV a))):=by
 refine qag rfl fun H=>?_
 simp;refine qaa rfl rfl rfl (qlj a ha la) ?_;simp[i64]
def Dy.inR (d:Dy):Bool:=
 bitL (natV d.m) == 0 || (decide (bitL (natV d.m)<=4096)&&decide (-16384<=d.e)&&decide (d.e<=16384)&&decide (bitL (natV d.m)+d.e<=16384))
theorem qvm (d:Dy)(ha:d.m.length<=100000000)(la:Li d.m):CQ prog qq2 [d.v] (.bool d.inR):=by
 refine qag rfl fun H=>?_
 simp;refine qaa rfl rfl rfl (q1o _ ha la) ?_;have e1:bitL (natV d.m)<=4096->-16384<=d.e->d.e<=16384->IntKind.i64.wrap ((bitL (natV d.m):Int)+d.e)=bitL (natV d.m)+d.e:=by intros;rw[wrap_i64]<;>omega
 simp[Dy.inR];grind
def Dy.valid (d:Dy):Bool:=
 match d.m with
 | []=>!d.neg&&decide (d.e=0)
 |x :: l=>decide ((x :: l).length<=256)&&decide (x%2=1)&&decide ((x :: l).getLast (by simp)≠0)&&d.inR
set_option maxHeartbeats 1000000 in
theorem qdu (d:Dy)(ha:d.m.length<=100000000)(la:Li d.m):CQ prog qui [d.v] (.bool d.valid):=by
 refine qag rfl fun H=>?_
 rcases d with ⟨neg,m,e⟩;rcases m with _|⟨x,l⟩
 ·simp[lim,Dy.valid];grind
 ·have hx:x<4294967296:=la x (by simp);have e1:((l.length:Int)+1≠0):=by omega
  have e2:(x:Int).tmod 2=((x%2:Nat):Int):=by rw[Int.tmod_eq_emod_of_nonneg (by omega)];omega
  have⟨y,hy⟩:∃y,y=x%2:=⟨_,rfl⟩
  have⟨t,ht⟩:∃t,t=(x :: l).getLast (by simp):=⟨_,rfl⟩
  have e3:IntKind.i64.wrap (l.length:Int)=l.length:=by rw[wrap_i64]<;>(simp at ha;omega)
  have e4:(x :: l)[l.length]?=some t:=by rw[ht,List.getLast_eq_getElem];simp
  have e5:((V.int IntKind.u32 (x:Int)) :: List.map u32 l)[l.length]?=some (.int .u32 t):=by
   have:=congrArg (Option.map u32) e4;rw[<-List.getElem?_map]at this;exact this
  have e7:((V.int IntKind.u32 (x:Int)) :: List.map u32 l)[l.length]'(by simp)=.int .u32 t:=by
   rw[List.getElem?_eq_getElem (by simp)]at e5;injection e5
  rw[<-hy]at e2;have hv:Dy.valid ⟨neg,x :: l,e⟩=(decide (l.length+1<=256)&&decide (y=1)&&decide (t≠0)&&Dy.inR ⟨neg,x :: l,e⟩):=by
   simp[Dy.valid,hy,ht]
  rw[hv];simp[lim,u32,e1,e2,e3,e7];refine⟨fun h1=>⟨fun h2=>⟨fun h3=>?_,fun h3=>?_⟩,fun h2=>?_⟩,fun h1=>?_⟩
  ·refine qaa rfl rfl rfl (qvm ⟨neg,x :: l,e⟩ ha la) ?_;simp;grind
  all_goals grind
def Dy.absN (d:Dy):Nat:=natV d.m*2^(d.e+16384).toNat
def Dy.val (d:Dy):Int:=if d.neg then -(d.absN:Int)else d.absN
def Dy.top (d:Dy):Int:=if d.m=[]then 0 else bitL (natV d.m)+d.e
def Dy.sgn (d:Dy):Int:=if d.m=[]then 0 else if d.neg then -1 else 1
def cmpI (a b:Int):Int:=if a<b then -1 else if b<a then 1 else 0
structure Dy.Ok (d:Dy):Prop where
 li:Li d.m
 tr:Trim d.m
 len:d.m.length<=256
 zero:d.m=[]->d.neg=false/\d.e=0
 odd:d.m≠[]->natV d.m%2=1
 bits:bitL (natV d.m)<=4096
 elo:-16384<=d.e
 ehi:d.e<=16384
 top:bitL (natV d.m)+d.e<=16384
theorem qco {l:List Nat}(h:Trim l)(hn:l≠[]):natV l≠0:=fun h0=>hn (qzd h h0)
theorem Dy.Ok.of {d:Dy}(li:Li d.m)(h:d.valid=true):d.Ok:=by
 rcases d with ⟨neg,m,e⟩;rcases m with _|⟨x,l⟩
 ·simp[Dy.valid]at h;obtain⟨h1,h2⟩:=h;subst h1;subst h2;exact⟨li,by intro x hx;simp at hx,by simp,by simp,by simp,by decide,by decide,by decide,by decide⟩
 ·simp only[Dy.valid,Bool.and_eq_true,decide_eq_true_eq]at h;obtain⟨⟨⟨h1,h2⟩,h3⟩,h4⟩:=h;have tr:Trim (x :: l):=by
   intro y hy;rw[List.getLast?_eq_some_getLast (by simp)]at hy;injection hy with hy
   rw[<-hy];exact h3
  have hn:=qco tr (by simp);have hb:bitL (natV (x :: l))≠0:=by
   have:=(qa4 hn).2.2;omega
  simp only[Dy.inR,Bool.or_eq_true,Bool.and_eq_true,decide_eq_true_eq,beq_iff_eq,hb,false_or]at h4;obtain⟨⟨⟨g1,g2⟩,g3⟩,g4⟩:=h4;exact⟨li,tr,h1,by simp,fun _=>by simp only[natV];omega,g1,g2,g3,g4⟩
theorem Dy.Ok.valid {d:Dy}(h:d.Ok):d.valid=true:=by
 rcases d with ⟨neg,m,e⟩;rcases m with _|⟨x,l⟩
 ·have:=h.zero rfl;simp only at this;simp[Dy.valid,this.1,this.2]
 ·simp only[Dy.valid,Bool.and_eq_true,decide_eq_true_eq];refine⟨⟨⟨h.len,?_⟩,?_⟩,?_⟩
  ·have:=h.odd (by simp);simp only[natV]at this;omega
  ·exact h.tr _ (List.getLast?_eq_some_getLast (by simp))
  ·simp[Dy.inR,h.bits,h.elo,h.ehi,h.top]
structure Dy.G (d:Dy):Prop where
 li:Li d.m
 tr:Trim d.m
 zero:d.m=[]->d.neg=false/\d.e=0
 elo:-16384<=d.e
theorem Dy.Ok.toG {d:Dy}(h:d.Ok):d.G:=⟨h.li,h.tr,h.zero,h.elo⟩
theorem Dy.G.absN_ne {d:Dy}(h:d.G)(hm:d.m≠[]):d.absN≠0:=by
 unfold Dy.absN;exact Nat.mul_ne_zero (qco h.tr hm) (Nat.ne_of_gt (Nat.two_pow_pos _))
theorem Dy.absN_nil {d:Dy}(hm:d.m=[]):d.absN=0:=by simp[Dy.absN,hm,natV]
theorem Dy.Ok.absN_ne {d:Dy}(h:d.Ok)(hm:d.m≠[]):d.absN≠0:=h.toG.absN_ne hm
theorem Dy.G.absN_bounds {d:Dy}(h:d.G)(hm:d.m≠[]):2^(d.top+16383).toNat<=d.absN/\d.absN<2^(d.top+16384).toNat:=by
 obtain⟨h1,h2,h3⟩:=qa4 (qco h.tr hm);have he:=h.elo;unfold Dy.top Dy.absN;rw[if_neg hm];rw[show((bitL (natV d.m):Int)+d.e+16383).toNat=(bitL (natV d.m)-1)+(d.e+16384).toNat by omega,show((bitL (natV d.m):Int)+d.e+16384).toNat=bitL (natV d.m)+(d.e+16384).toNat by omega,Nat.pow_add,Nat.pow_add];exact⟨Nat.mul_le_mul_right _ h1,Nat.mul_lt_mul_of_pos_right h2 (Nat.two_pow_pos _)⟩
theorem Dy.Ok.absN_bounds {d:Dy}(h:d.Ok)(hm:d.m≠[]):2^(d.top+16383).toNat<=d.absN/\d.absN<2^(d.top+16384).toNat:=h.toG.absN_bounds hm
theorem Dy.G.top_pos {d:Dy}(h:d.G)(hm:d.m≠[]):1<=d.top+16384:=by
 obtain⟨_,_,h3⟩:=qa4 (qco h.tr hm);have:=h.elo;unfold Dy.top;rw[if_neg hm];omega
theorem Dy.Ok.top_pos {d:Dy}(h:d.Ok)(hm:d.m≠[]):1<=d.top+16384:=h.toG.top_pos hm
theorem q07 {a b:Dy}(ha:a.G)(hb:b.G)(na:a.m≠[])(nb:b.m≠[])(h:a.top<b.top):a.absN<b.absN:=by
 have h1:=(ha.absN_bounds na).2;have h2:=(hb.absN_bounds nb).1;have h3:=ha.top_pos na;have:2^(a.top+16384).toNat<=2^(b.top+16383).toNat:=Nat.pow_le_pow_right (by omega) (by omega);omega
theorem qtt {a b:Dy}(ha:a.Ok)(hb:b.Ok)(na:a.m≠[])(nb:b.m≠[])(h:a.top<b.top):a.absN<b.absN:=q07 ha.toG hb.toG na nb h
theorem qm4 {d:Dy}{e:Int}(h1:-16384<=e)(h2:e<=d.e):d.absN=natV d.m*2^(d.e-e).toNat*2^(e+16384).toNat:=by
 unfold Dy.absN;rw[Nat.mul_assoc,<-Nat.pow_add]
 congr 2;omega
theorem q60 {x y k:Nat}(hk:0<k):cmpN (x*k) (y*k)=cmpN x y:=by
 unfold cmpN;simp only[Nat.mul_lt_mul_right hk]
theorem qaeq {x y:Nat}:cmpI x y=cmpN x y:=by
 unfold cmpI cmpN;split<;>split<;>(try split)<;>omega
theorem qaep {x y:Nat}:cmpI (-(x:Int)) (-(y:Int))=- cmpN x y:=by
 unfold cmpI cmpN;repeat' split
 all_goals omega
theorem qacr {a b:Dy}(ha:a.G)(hb:b.G):cmpI a.val b.val=if a.sgn<b.sgn then -1 else if b.sgn<a.sgn then 1 else if a.sgn=0 then 0 else a.sgn*cmpN a.absN b.absN:=by
 have za:=ha.zero;have zb:=hb.zero;by_cases na:a.m=[]
 ·have h1:=Dy.absN_nil na;have h2:=(za na).1;by_cases nb:b.m=[]
  ·have h3:=Dy.absN_nil nb;simp[Dy.val,Dy.sgn,na,nb,h1,h3,cmpI]
  ·have h3:=hb.absN_ne nb;cases hn:b.neg<;>simp[Dy.val,Dy.sgn,na,nb,h1,h2,hn,cmpI]<;>omega
 ·have h1:=ha.absN_ne na;by_cases nb:b.m=[]
  ·have h3:=Dy.absN_nil nb;have h2:=(zb nb).1;cases hn:a.neg<;>simp[Dy.val,Dy.sgn,na,nb,h3,h2,hn,cmpI]<;>omega
  ·have h3:=hb.absN_ne nb;cases hn:a.neg<;>cases hn2:b.neg<;>simp[Dy.val,Dy.sgn,na,nb,hn,hn2,qaeq,qaep]<;>simp[cmpI]<;>omega
theorem qagi {a b:Dy}(ha:a.Ok)(hb:b.Ok):cmpI a.val b.val=if a.sgn<b.sgn then -1 else if b.sgn<a.sgn then 1 else if a.sgn=0 then 0 else a.sgn*cmpN a.absN b.absN:=qacr ha.toG hb.toG
theorem qae1 {a b:Dy}(ha:a.Ok)(hb:b.Ok)(na:a.m≠[])(nb:b.m≠[])(h:a.absN=b.absN):a.m=b.m/\a.e=b.e:=by
 have key:∀{a b:Dy},a.Ok->b.Ok->a.m≠[]->b.m≠[]->a.absN=b.absN->¬a.e<b.e:=by
  intro a b ha hb na nb h hlt;have h1:=qm4 (d:=b) (e:=a.e) ha.elo (by omega);unfold Dy.absN at h h1;rw[h1]at h;have h2:=Nat.eq_of_mul_eq_mul_right (Nat.two_pow_pos _) h;have h3:=ha.odd na;rw[h2,show(b.e-a.e).toNat=(b.e-a.e).toNat-1+1 by omega,Nat.pow_succ,<-Nat.mul_assoc]at h3;omega
 have he:a.e=b.e:=by
  have:=key ha hb na nb h;have:=key hb ha nb na h.symm;omega
 refine⟨?_,he⟩;unfold Dy.absN at h;rw[he]at h;exact qadt ha.li hb.li ha.tr hb.tr (Nat.eq_of_mul_eq_mul_right (Nat.two_pow_pos _) h)
theorem q1e {a b:Dy}(ha:a.Ok)(hb:b.Ok)(h:a.val=b.val):a=b:=by
 have za:=ha.zero;have zb:=hb.zero;by_cases na:a.m=[]
 ·by_cases nb:b.m=[]
  ·obtain⟨h1,h2⟩:=za na;obtain⟨h3,h4⟩:=zb nb;cases a;cases b;simp_all
  ·have h3:=hb.absN_ne nb;have h1:=Dy.absN_nil na;simp[Dy.val,h1]at h;split at h<;>omega
 ·have h1:=ha.absN_ne na;by_cases nb:b.m=[]
  ·have h3:=Dy.absN_nil nb;simp[Dy.val,h3]at h;split at h<;>omega
  ·have h3:=hb.absN_ne nb;have hab:a.absN=b.absN/\a.neg=b.neg:=by
    cases hn:a.neg<;>cases hn2:b.neg<;>simp[Dy.val,hn,hn2]at h ⊢<;>omega
   obtain⟨h4,h5⟩:=qae1 ha hb na nb hab.1;cases a;cases b;simp_all
set_option maxHeartbeats 4000000
def Dy.cmp (a b:Dy):Int:=if a.valid&&b.valid then cmpI a.val b.val else 0
structure Dy.W (d:Dy):Prop where
 li:Li d.m
 len:d.m.length<=100000000
theorem Dy.Ok.w {d:Dy}(h:d.Ok):d.W:=⟨h.li,Nat.le_trans h.len (by omega)⟩
theorem qjs (d:Dy)(w:d.W):CQ prog qxh [d.v] (.int .i64 (if d.valid then d.sgn else 0)):=by
 refine qag rfl fun H=>?_
 simp;refine qaa rfl rfl rfl (qdu d w.len w.li) ?_;have e:(d.m=[])↔(d.m.length:Int)=0:=by simp
 simp[lim,Dy.sgn];grind
theorem qit (d:Dy)(w:d.W):CQ prog qzw [d.v] (.int .i64 (if d.valid then d.top else 0)):=by
 refine qag rfl fun H=>?_
 simp;refine qaa rfl rfl rfl (qdu d w.len w.li) ?_;have e:(d.m=[])↔(d.m.length:Int)=0:=by simp
 simp[lim,Dy.top];refine⟨fun h=>by simp[h],fun h=>?_⟩;have ok:=Dy.Ok.of w.li h;refine⟨fun h1 _ h2=>absurd h1 h2,fun hm=>?_⟩;refine qaa rfl rfl rfl (q1o d.m w.len w.li) ?_;have e1:IntKind.i64.wrap ((bitL (natV d.m):Int)+d.e)=bitL (natV d.m)+d.e:=by
  have:=ok.bits;have:=ok.elo;have:=ok.ehi;rw[wrap_i64]<;>omega
 simp[h,hm,e1]
theorem qafi {a:List Nat}{n B:Nat}(h:natV a*2^n<2^B)(hB:B<=8192):natV (shN a n)=natV a*2^n:=by
 have:(qae (natV a*2^n)).length<=256:=qfk h (by omega);unfold shN;rw[if_neg (by omega),qad]
theorem qafj {a:List Nat}{n:Nat}:Li (shN a n):=by
 unfold shN;split
 ·intro x hx;simp at hx
 ·exact qaf _
theorem q8h {a:List Nat}{n:Nat}:(shN a n).length<=256:=by
 unfold shN;split
 ·simp
 ·omega
theorem q6z (a b:Dy)(oa:a.Ok)(ob:b.Ok)(na:a.m≠[])(nb:b.m≠[]):CQ prog qq3 [a.v,b.v] (.int .i64 (cmpN a.absN b.absN)):=by
 refine qag rfl fun H=>?_
 have va:=oa.valid;have vb:=ob.valid;simp;refine qaa rfl rfl rfl (qit a oa.w) ?_;simp;refine qaa rfl rfl rfl (qit b ob.w) ?_;simp[va,vb];refine⟨fun h=>?_,fun h=>⟨fun h2=>?_,fun h2=>?_⟩⟩
 ·have:=qtt oa ob na nb h;simp[cmpN,this]
 ·have:=qtt ob oa nb na h2;have h3:¬a.absN<b.absN:=by omega
  simp[cmpN,this,h3]
 ·have ht:a.top=b.top:=by omega
  have⟨e,he⟩:∃e,e=min a.e b.e:=⟨_,rfl⟩
  have he':(if b.e<a.e then b.e else a.e)=e:=by rw[he];split<;>omega
  have h3:=oa.elo;have h4:=oa.ehi;have h5:=ob.elo;have h6:=ob.ehi;have h7:=oa.bits;have h8:=ob.bits;have⟨i,hi⟩:∃i,i=(a.e-e).toNat:=⟨_,rfl⟩
  have⟨j,hj⟩:∃j,j=(b.e-e).toNat:=⟨_,rfl⟩
  have f1:IntKind.i64.wrap (a.e-e)=i:=by rw[wrap_i64]<;>omega
  have f2:IntKind.i64.wrap (b.e-e)=j:=by rw[wrap_i64]<;>omega
  simp[he',f1];refine qaa rfl rfl rfl (quy a.m i oa.len oa.li (by omega)) ?_;simp[f2];refine qaa rfl rfl rfl (quy b.m j ob.len ob.li (by omega)) ?_;simp;refine qaa rfl rfl rfl (qnl _ _ (by have:=q8h (a:=a.m) (n:=i);omega) (by have:=q8h (a:=b.m) (n:=j);omega) qafj qafj) ?_;have key:∀{d:Dy} {k:Nat},d.Ok->d.m≠[]->natV d.m*2^k<2^(bitL (natV d.m)+k):=by
   intro d k od nd;have:=(qa4 (qco od.tr nd)).2.1;rw[Nat.pow_add];exact Nat.mul_lt_mul_of_pos_right this (Nat.two_pow_pos k)
  unfold Dy.top at ht;rw[if_neg na,if_neg nb]at ht;rw[qafi (key oa na) (by omega),qafi (key ob nb) (by omega)];rw[qm4 (d:=a) (e:=e) (by omega) (by omega),qm4 (d:=b) (e:=e) (by omega) (by omega),<-hi,<-hj,q60 (Nat.two_pow_pos _)];simp[i64]
theorem qd7 (a b:Dy)(wa:a.W)(wb:b.W):CQ prog qzy [a.v,b.v] (.int .i64 (a.cmp b)):=by
 refine qag rfl fun H=>?_
 simp;refine qaa rfl rfl rfl (qdu a wa.len wa.li) ?_;simp;refine⟨fun h1=>by simp[Dy.cmp,h1],fun h1=>?_⟩;refine qaa rfl rfl rfl (qdu b wb.len wb.li) ?_;simp;refine⟨fun h2=>by simp[Dy.cmp,h2],fun h2=>?_⟩;refine qaa rfl rfl rfl (qjs a wa) ?_;simp;refine qaa rfl rfl rfl (qjs b wb) ?_;have oa:=Dy.Ok.of wa.li h1;have ob:=Dy.Ok.of wb.li h2;simp[h1,h2,Dy.cmp,qagi oa ob];refine⟨fun h3=>by grind,fun h3=>⟨fun h4=>?_,fun h4=>?_⟩⟩
 ·have e1:¬a.sgn<b.sgn:=by omega
  simp[e1,h4]
 have e1:¬a.sgn<b.sgn:=by omega
 have e2:¬b.sgn<a.sgn:=by omega
 simp[e1,e2];refine⟨fun h5=>by simp[h5],fun h5=>?_⟩;have na:a.m≠[]:=fun h=>h5 (by simp[Dy.sgn,h])
 have nb:b.m≠[]:=fun h=>by
  have:b.sgn=0:=by simp[Dy.sgn,h]
  omega
 refine qaa rfl rfl rfl (q6z a b oa ob na nb) ?_;have e3:IntKind.i64.wrap (a.sgn*cmpN a.absN b.absN)=a.sgn*cmpN a.absN b.absN:=by
  have h6:a.sgn=1\/a.sgn=-1:=by unfold Dy.sgn;rw[if_neg na];split<;>simp
  have h7:cmpN a.absN b.absN=1\/cmpN a.absN b.absN=-1\/cmpN a.absN b.absN=0:=by unfold cmpN;split<;>(try split)<;>simp
  rcases h6 with h6|h6<;>rcases h7 with h7|h7|h7<;>rw[h6,h7]<;>decide
 simp[e3,h5]
end Go.Abs.W
namespace Go.Abs.W
structure Out (H0 H:Heap)(v:V)(z:Nat)(l:List V):Prop where
 pre:H0 <+: H
 val:(l=[]/\v=.nil)\/∃b blk,H0.length<=b/\v=.ref b z 0 l.length/\H[b]?=some (some ⟨z,blk,true,true⟩)/\blk.take l.length=l/\l.length<=blk.length
theorem Out.nil {H:Heap}{z:Nat}:Out H H .nil z []:=⟨List.prefix_refl _,.inl ⟨rfl,rfl⟩⟩
theorem Out.grow {H0 H:Heap}{v:V}{z:Nat}{l:List V}(h:Out H0 H v z l)(t:Heap):Out H0 (H++t) v z l:=by
 refine⟨qnu h.pre,?_⟩;rcases h.val with h1|⟨b,blk,h1,h2,h3,h4⟩
 ·exact .inl h1
 ·exact .inr ⟨b,blk,h1,h2,by rw[List.getElem?_append_left (List.getElem?_eq_some_iff.1 h3).1];exact h3,h4⟩
theorem qu6 {H0 H:Heap}{b:Nat}{x:Option Blk}(h:H0 <+: H)(hb:H0.length<=b):H0 <+: H.set b x:=by
 obtain⟨t,rfl⟩:=h;rw[List.set_append_right _ _ hb];exact List.prefix_append _ _
theorem Out.app {H0 H:Heap}{v y:V}{z bytes:Nat}{l ys:List V}(h:Out H0 H v z l)(hy:elems H y=some ys)(hz:qg0 z ys=true)(hn:ys≠[])(hb:(l.length+ys.length)*bytes<=140737488355328) :
 ∃v' H',qhd z bytes v y H=some (v',H')/\Out H0 H' v' z (l++ys):=by
 unfold qhd;rw[hy];simp only[Option.bind_some,hz,if_true];rcases h.val with ⟨h1,h2⟩|⟨b,blk,h1,h2,h3,h4,h5⟩
 ·subst h1;subst h2;have:qbn ys.length bytes=true:=by simp[qbn];simpa using hb
  simp only[hn,if_false,this,if_true];refine⟨_,_,rfl,qnu h.pre,.inr ⟨H.length,ys,h.pre.length_le,by simp,by simp,by simp,by simp⟩⟩
 ·subst h2;have:qbn (l.length+ys.length) bytes=true:=by simp[qbn];simpa using hb
  simp only[h3,hn,if_false,this];simp only[Nat.zero_add,h5,and_self,if_true,List.drop_zero,h4];refine⟨_,_,rfl,qnu (qu6 h.pre h1),.inr ⟨H.length,l++ys,h.pre.length_le,by simp,?_,by rw[List.take_of_length_le];simp,by simp⟩⟩;rw[List.getElem?_append_right (by simp)];simp
theorem Out.frz {H0 H:Heap}{v:V}{z:Nat}{l:List V}(h:Out H0 H v z l):∃H',H0 <+: H'/\frzC H v=some (.sl l,H')/\qc5 H v=some (.sl l,H'):=by
 rcases h.val with ⟨h1,h2⟩|⟨b,blk,h1,h2,h3,h4,h5⟩
 ·subst h1;subst h2;exact⟨H,h.pre,rfl,rfl⟩
 ·subst h2;refine⟨H.set b (some ⟨z,blk,true,false⟩),qu6 h.pre h1,?_,?_⟩
  ·simp[h3,h4,h5]
  ·simp[h3,h4,h5]
theorem Out.fin {H0 H1 H:Heap}{v:V}{z:Nat}{l:List V}(h:Out H0 H v z l)(hp:H1 <+: H0):Go.Abs.fin false H1.length H v=some (.sl l,H1):=by
 obtain⟨H',h1,h2,h3⟩:=h.frz;have:Go.Abs.fin false H1.length H v=(qc5 H v).bind fun(v',H1')=>some (v',H1'.take H1.length):=by
  rcases h.val with ⟨_,e⟩|⟨b,blk,_,e,_⟩<;>subst e<;>rfl
 rw[this,h3];simp[qms (hp.trans h1)]
theorem Out.prep {H0 H:Heap}{v:V}{z g:Nat}{l:List V}(h:Out H0 H v z l)(hg:(prog.fn g).elim true (fun f=>!f.raw)=true):∃H',H0 <+: H'/\prep prog g H [v]=some ([.sl l],H'):=by
 obtain⟨H',h1,h2,h3⟩:=h.frz;refine⟨H',h1,?_⟩;have e:frzVs H [v]=some ([.sl l],H'):=by
  have:frzV H v=frzC H v:=by
   rcases h.val with ⟨_,e⟩|⟨b,blk,_,e,_⟩<;>subst e<;>rfl
  simp[frzVs,this,h2]
 unfold Go.Abs.prep;cases hq:prog.fn g with
 |none=>exact e
 |some f=>
  rw[hq]at hg;simp at hg;simp[hg,e]
theorem Out.one {H0 H:Heap}{v:V}{l:List Nat}(h:Out H0 H v 1 (l.map u32))(x:Nat)(hb:l.length+1<=1000000000) :
 ∃v' H',qhd 1 4 v (.ref H.length 1 0 1) (H++[some ⟨1,[.int .u32 x],true,true⟩])=some (v',H')/\Out H0 H' v' 1 ((l++[x]).map u32):=by
 have:=(h.grow [some ⟨1,[.int .u32 x],true,true⟩]).app (y:=.ref H.length 1 0 1) (ys:=[.int .u32 x]) (bytes:=4) (by simp) (by simp) (by simp) (by simp;omega);simpa[u32]using this
def dig (l:List Nat)(i:Nat):Nat:=(l[i]?).getD 0
theorem qd9 {l:List Nat}(h:Li l)(i:Nat):dig l i<4294967296:=by
 unfold dig;cases hq:l[i]? with
 |none=>simp
 |some x=>exact h x (List.mem_of_getElem? hq)
theorem qcn {l:List Nat}{i:Nat}(h:i<l.length):dig l i=l[i]:=by simp[dig,h]
theorem qtf {l:List Nat}{i:Nat}(h:l.length<=i):dig l i=0:=by simp[dig,h]
theorem qaz (l:List Nat)(i:Nat):natV (l.take (i+1))=natV (l.take i)+4294967296^i*dig l i:=by
 rcases Nat.lt_or_ge i l.length with h|h
 ·rw[List.take_add_one,List.getElem?_eq_getElem h,qcn h,qcp,List.length_take,Nat.min_eq_left (by omega)];simp[natV]
 ·rw[List.take_of_length_le (by omega),List.take_of_length_le h,qtf h];simp
theorem qa5 {l:List Nat}{i:Nat}(h:l.length<=i):natV (l.take i)=natV l:=by rw[List.take_of_length_le h]
def tzF : Nat->Nat->Nat
 |0,_=>0
 |f+1,n=>if n%2=1 then 0 else tzF f (n/2)+1
def tz (n:Nat):Nat:=tzF (Nat.log2 n) n
theorem q7k {n:Nat}(h:n%2=1):tz n=0:=by
 unfold tz;cases Nat.log2 n<;>simp[tzF,h]
theorem q7l {n:Nat}(h0:n≠0)(h:n%2=0):tz n=tz (n/2)+1:=by
 have e:Nat.log2 n=Nat.log2 (n/2)+1:=by rw[Nat.log2_def,if_pos (by omega)]
 unfold tz;rw[e,tzF,if_neg (by omega)]
theorem qoj {n:Nat}(h0:n≠0):n/2^tz n%2=1/\(∀i,i<tz n->n/2^i%2=0)/\n%2^tz n=0:=by
 induction n using Nat.strongRecOn with
 |_ n ih=>
  by_cases h:n%2=1
  ·rw[q7k h];simp[h,Nat.mod_one]
  ·have h1:n%2=0:=by omega
   obtain⟨i1,i2,i3⟩:=ih (n/2) (by omega) (by omega);rw[q7l h0 h1];have e:∀k,n/2^(k+1)=n/2/2^k:=by intro k;rw[Nat.pow_succ,Nat.mul_comm,Nat.div_div_eq_div_mul]
   refine⟨by rw[e];exact i1,?_,?_⟩
   ·intro i hi;cases i with
    |zero=>simpa using h1
    |succ i=>rw[e];exact i2 i (by omega)
   ·rw[Nat.pow_succ,Nat.mul_comm,Nat.mod_mul,i3,h1]
theorem tz_le {n:Nat}(h0:n≠0):2^tz n<=n:=by
 obtain⟨h1,_,h3⟩:=qoj h0;rcases Nat.lt_or_ge n (2^tz n)with h|h
 ·rw[Nat.div_eq_of_lt h]at h1;simp at h1
 ·exact h
theorem qbq (l:List Nat)(i:Nat):natV (l.drop i)=dig l i+4294967296*natV (l.drop (i+1)):=by
 rcases Nat.lt_or_ge i l.length with h|h
 ·rw[List.drop_eq_getElem_cons h,qcn h];rfl
 ·rw[List.drop_of_length_le h,List.drop_of_length_le (by omega),qtf h];rfl
theorem qdn (l:List Nat)(i:Nat):natV l=natV (l.take i)+4294967296^i*natV (l.drop i):=by
 rcases Nat.lt_or_ge i l.length with h|h
 ·have:=qcp (l.take i) (l.drop i);rw[List.take_append_drop,List.length_take,Nat.min_eq_left (by omega)]at this;exact this
 ·rw[List.drop_of_length_le h,List.take_of_length_le h];simp[natV]
theorem qmw {l:List Nat}(hl:Li l)(i:Nat):natV l/4294967296^i=natV (l.drop i):=by
 have h1:=qau (hl.take i);have h2:4294967296^(l.take i).length<=4294967296^i:=Nat.pow_le_pow_right (by omega) (by simp;omega);rw[qdn l i,Nat.add_mul_div_left _ _ (Nat.pow_pos (by omega)),Nat.div_eq_of_lt (by omega),Nat.zero_add]
theorem q6d {l:List Nat}(hl:Li l)(i s:Nat)(hs:s<32):natV l/2^s/4294967296^i%4294967296=(dig l i+4294967296*dig l (i+1))/2^s%4294967296:=by
 rw[Nat.div_div_eq_div_mul,Nat.mul_comm,<-Nat.div_div_eq_div_mul,qmw hl,qbq,qbq l (i+1),Nat.mul_add,<-Nat.add_assoc,<-Nat.mul_assoc];have e2:4294967296*4294967296=2^s*(2^(32-s)*4294967296):=by
  rw[<-Nat.mul_assoc,<-Nat.pow_add,show s+(32-s)=32 by omega]
 rw[e2,Nat.mul_assoc,Nat.add_mul_div_left _ _ (Nat.two_pow_pos s),Nat.mul_comm (2^(32-s)) 4294967296,Nat.mul_assoc,Nat.add_mul_mod_self_left]
theorem q6k (l:List Nat):qg0 1 (l.map u32)=true:=by
 cases l with
 |nil=>rfl
 |cons x l=>simp[qg0]
def Dy.of (neg:Bool)(n:Nat)(e:Int):Dy:=if n=0 then⟨false,[],0⟩else⟨neg,qae (n/2^tz n),e+tz n⟩
theorem q6i {m:List Nat}(lm:Li m)(h:natV m≠0):tz (natV m)<32*m.length:=by
 have h1:=tz_le h;have h2:=qau lm;rw[pow32]at h2;exact(Nat.pow_lt_pow_iff_right (by omega:1<2)).1 (Nat.lt_of_le_of_lt h1 h2)
def Dy.neg' (d:Dy):Dy:=⟨!d.neg&&decide (d.m≠[]),d.m,d.e⟩
def sumX (d:Dy)(e:Int):Nat:=natV d.m*2^(d.e-e).toNat
def Dy.sum (a b:Dy):Dy:=
 if a.m=[]then b else if b.m=[]then a else
 let e:=min a.e b.e
 if a.neg=b.neg then Dy.of a.neg (sumX a e+sumX b e) e
 else if sumX b e<=sumX a e then Dy.of a.neg (sumX a e-sumX b e) e else Dy.of b.neg (sumX b e-sumX a e) e
structure Dy.M (d:Dy):Prop where
 li:Li d.m
 len:d.m.length<=600
 lo:-20000<=d.e
 hi:d.e<=20000
theorem qp6 : ∀{a b:List Nat},Li a->Li b->a.length=b.length->natV a=natV b->a=b
 | [],[],_,_,_,_=>rfl
 | [],_ :: _,_,_,h,_=>by simp at h
 |_ :: _,[],_,_,h,_=>by simp at h
 |x :: l,y :: m,la,lb,h,e=>by
  simp only[natV]at e;have h1:=la.cons.1;have h2:=lb.cons.1;have:x=y:=by omega
  rw[this,qp6 la.cons.2 lb.cons.2 (by simpa using h) (by omega)]
def Dy.zero : Dy:=⟨false,[],0⟩
def Dy.isZ (d:Dy):Bool:=!d.neg&&decide (d.m=[])&&decide (d.e=0)
def Iv.valid (x:Iv):Bool:=if x.all then x.lo.isZ&&x.hi.isZ else x.lo.valid&&x.hi.valid&&decide (x.lo.cmp x.hi<=0)
structure Iv.W (x:Iv):Prop where
 lo:x.lo.W
 hi:x.hi.W
def Iv.ins (x y:Iv):Bool:=x.valid&&y.valid&&(y.all || (!x.all&&decide (y.lo.cmp x.lo<=0)&&decide (x.hi.cmp y.hi<=0)))
theorem qafy (d:Dy):CQ prog qo1 [d.v] (.bool d.isZ):=by
 refine qag rfl fun H=>?_
 simp[lim,Dy.isZ];grind
theorem qeb (x:Iv)(w:x.W):CQ prog qqs [x.v] (.bool x.valid):=by
 refine qag rfl fun H=>?_
 simp;repeat' first
  | (refine qaa rfl rfl rfl (qafy x.lo) ?_;simp)
  | (refine qaa rfl rfl rfl (qafy x.hi) ?_;simp)
  | (refine qaa rfl rfl rfl (qdu x.lo w.lo.len w.lo.li) ?_;simp)
  | (refine qaa rfl rfl rfl (qdu x.hi w.hi.len w.hi.li) ?_;simp)
  | (refine qaa rfl rfl rfl (qd7 x.lo x.hi w.lo w.hi) ?_;simp)
  |refine And.intro ?_ ?_
  |intro _
 all_goals first| (simp[Iv.valid, *];done)| (simp[Iv.valid, *];grind)|grind [Iv.valid]
set_option maxHeartbeats 1000000 in
theorem qkc (x y:Iv)(wx:x.W)(wy:y.W):CQ prog qpq [x.v,y.v] (.bool (x.ins y)):=by
 refine qag rfl fun H=>?_
 simp;repeat' first
  | (refine qaa rfl rfl rfl (qeb x wx) ?_;simp)
  | (refine qaa rfl rfl rfl (qeb y wy) ?_;simp)
  | (refine qaa rfl rfl rfl (qd7 y.lo x.lo wy.lo wx.lo) ?_;simp)
  | (refine qaa rfl rfl rfl (qd7 x.hi y.hi wx.hi wy.hi) ?_;simp)
  |refine And.intro ?_ ?_
  |intro _
 all_goals first| (simp[Iv.ins, *];done)| (simp[Iv.ins, *];grind)|grind [Iv.ins]
theorem qaij {a b:Dy}(ha:a.valid=true)(hb:b.valid=true):a.cmp b=cmpI a.val b.val:=by simp[Dy.cmp,ha,hb]
theorem qx0 {a b:Int}:cmpI a b=0↔a=b:=by
 unfold cmpI;repeat' split
 all_goals omega
theorem qrj {a b:Dy}(oa:a.Ok)(ob:b.Ok):a.cmp b=0↔a=b:=by
 rw[qaij oa.valid ob.valid,qx0];exact⟨q1e oa ob,fun h=>by rw[h]⟩
theorem Iv.W.okLo {x:Iv}(w:x.W)(hv:x.valid=true)(ha:x.all=false):x.lo.Ok:=by
 simp[Iv.valid,ha]at hv;exact Dy.Ok.of w.lo.li hv.1.1
theorem Iv.W.okHi {x:Iv}(w:x.W)(hv:x.valid=true)(ha:x.all=false):x.hi.Ok:=by
 simp[Iv.valid,ha]at hv;exact Dy.Ok.of w.hi.li hv.1.2
def Dy.lo2 (a b:Dy):Dy:=if a.cmp b<=0 then a else b
def Dy.hi2 (a b:Dy):Dy:=if 0<=a.cmp b then a else b
def Iv.known (x:Iv):Bool:=!x.all&&x.valid
def Iv.whole : Iv:=⟨⟨false,[],0⟩,⟨false,[],0⟩,true⟩
def Iv.hull (x y:Iv):Iv:=if x.known&&y.known then⟨x.lo.lo2 y.lo,x.hi.hi2 y.hi,false⟩else Iv.whole
theorem Dy.W.lo2 {a b:Dy}(ha:a.W)(hb:b.W):(a.lo2 b).W:=by unfold Dy.lo2;split<;>assumption
theorem Dy.W.hi2 {a b:Dy}(ha:a.W)(hb:b.W):(a.hi2 b).W:=by unfold Dy.hi2;split<;>assumption
theorem Iv.W.hull {x y:Iv}(hx:x.W)(hy:y.W):(x.hull y).W:=by
 unfold Iv.hull;split
 ·exact⟨hx.lo.lo2 hy.lo,hx.hi.hi2 hy.hi⟩
 ·exact⟨⟨by intro x hx;simp[Iv.whole]at hx,by simp[Iv.whole]⟩,⟨by intro x hx;simp[Iv.whole]at hx,by simp[Iv.whole]⟩⟩
theorem qw0 (a b:Dy)(wa:a.W)(wb:b.W):CQ prog qsq [a.v,b.v] (a.lo2 b).v:=by
 refine qag rfl fun H=>?_
 simp;refine qaa rfl rfl rfl (qd7 a b wa wb) ?_;simp[Dy.lo2];refine⟨fun h=>by simp[h],fun h=>?_⟩;have:¬a.cmp b<=0:=by omega
 simp[this]
theorem qwz (a b:Dy)(wa:a.W)(wb:b.W):CQ prog qso [a.v,b.v] (a.hi2 b).v:=by
 refine qag rfl fun H=>?_
 simp;refine qaa rfl rfl rfl (qd7 a b wa wb) ?_;simp[Dy.hi2];refine⟨fun h=>by simp[h],fun h=>?_⟩;have:¬0<=a.cmp b:=by omega
 simp[this]
theorem qal : CQ prog qqr [] Iv.whole.v:=by
 refine qag rfl fun H=>?_
 simp[Iv.whole,lim]
set_option maxHeartbeats 1000000 in
theorem qdp (l:List Iv)(hl:l.length<=1000000)(w:∀x ∈ l,x.W):CQ prog qqp [ivs l] (.bool (l.all Iv.known)):=by
 refine qag rfl fun H=>?_
 simp[ivs];refine WK_up (fun i E H'=>H <+: H'/\E 5=ivs l/\E 6=.int .i64 l.length/\E 7=.int .i64 i/\(∀j x,j<i->l[j]?=some x->x.known=true)) l.length ?_ ?_
 ·simp[ivs]
 ·rintro i E H' hi ⟨hH,h5,h6,h7,hp⟩;simp only[ivs]at h5 ⊢;rcases Nat.lt_or_ge i l.length with hlt|hge
  ·have e2:IntKind.i64.wrap ((i:Int)+1)=((i+1:Nat):Int):=by rw[wrap_i64]<;>omega
   have wx:=w l[i] (List.getElem_mem hlt);have no:l[i].known=false->l.all Iv.known=false:=by
    intro h;rw[Bool.eq_false_iff];intro h';rw[List.all_eq_true.1 h' _ (List.getElem_mem hlt)]at h;cases h
   have nx:l[i].known=true->∀(j:Nat) (x:Iv),j<i+1->l[j]?=some x->x.known=true:=by
    intro h j x hj hx;rcases Nat.lt_or_ge j i with hji|hji
    ·exact hp j x hji hx
    ·have:j=i:=by omega
     subst this;rw[List.getElem?_eq_getElem hlt]at hx;injection hx with hx;rw[<-hx];exact h
   have T:=qms (qnu (l:=[some ⟨7,[l[i].v],false,true⟩]) hH);simp only[Iv.v]at T;cases ha:l[i].all
   ·simp[qcu,h5,h6,h7,hlt,ha];rw[ha]at T;have hr:=qeb l[i] wx;simp only[Iv.v,ha]at hr;refine zq hr ?_;cases hv:l[i].valid
    ·simp[T];simpa using no (by simp[Iv.known,hv])
    ·simp[h5,h6,h7,e2];exact⟨qnu hH,nx (by simp[Iv.known,hv,ha])⟩
   ·rw[ha]at T;simp[qcu,h5,h6,h7,hlt,ha,T];simpa using no (by simp[Iv.known,ha])
  ·have hin:i=l.length:=by omega
   subst hin;have e1:l.all Iv.known=true:=by
    rw[List.all_eq_true];intro x hx;obtain⟨j,hj,rfl⟩:=List.getElem_of_mem hx;exact hp j _ hj (List.getElem?_eq_getElem _)
   simp[qcu,h6,h7,e1,qms hH]
theorem q4x (x y:Iv)(wx:x.W)(wy:y.W):CQ prog qsv [x.v,y.v] (x.hull y).v:=by
 refine qag rfl fun H=>?_
 simp;refine qaq rfl rfl (H1:=H++[some ⟨7,[x.v],false,true⟩,some ⟨7,[y.v],false,true⟩,some ⟨7,[.agg [.bool false,.nil,.int .i64 0,.bool false,.nil,.int .i64 0,.bool false]],false,true⟩,some ⟨7,[x.v,y.v],true,false⟩]) (vs:=[ivs [x,y]]) (by simp[prep,frzVs,frzV];rfl) (qdp [x,y] (by simp) (by simp;exact⟨wx,wy⟩)) ?_;cases hk:x.known&&y.known
 ·have:([x,y].all Iv.known)=false:=by simpa using hk
  simp only[this];simp;refine zq qal ?_;simp[Iv.hull,hk]
 ·have:([x,y].all Iv.known)=true:=by simpa using hk
  simp only[this];simp;refine qaa rfl rfl rfl (qw0 x.lo y.lo wx.lo wy.lo) ?_;simp;refine qaa rfl rfl rfl (qwz x.hi y.hi wx.hi wy.hi) ?_;simp[Iv.hull,hk]
theorem qai {x:Iv}(w:x.W)(h:x.known=true):x.lo.Ok/\x.hi.Ok:=by
 simp[Iv.known]at h;exact⟨w.okLo h.2 h.1,w.okHi h.2 h.1⟩
@[simp] theorem qamh (n k:Nat):¬(n+k<n):=by omega
def Iv.zero : Iv:=⟨⟨false,[],0⟩,⟨false,[],0⟩,false⟩
def Iv.meet (x y:Iv):Option Iv:=
 if x.valid&&y.valid then
  (if x.all then some y else if y.all then some x else
   if 0<(x.lo.hi2 y.lo).cmp (x.hi.lo2 y.hi)then none else some ⟨x.lo.hi2 y.lo,x.hi.lo2 y.hi,false⟩)
 else none
def meetV (o:Option Iv):V:=.tup [(o.getD Iv.zero).v,.bool o.isSome]
theorem Iv.W.meet {x y z:Iv}(hx:x.W)(hy:y.W)(h:x.meet y=some z):z.W:=by
 unfold Iv.meet at h;split at h
 ·split at h
  ·injection h with h;rw[<-h];exact hy
  ·split at h
   ·injection h with h;rw[<-h];exact hx
   ·split at h
    ·cases h
    ·injection h with h;rw[<-h];exact⟨hx.lo.hi2 hy.lo,hx.hi.lo2 hy.hi⟩
 ·cases h
set_option maxHeartbeats 1000000 in
theorem q4w (x y:Iv)(wx:x.W)(wy:y.W):CQ prog qsu [x.v,y.v] (meetV (x.meet y)):=by
 refine qag rfl fun H=>?_
 simp;refine qaa rfl rfl rfl (qeb x wx) ?_;cases hx:x.valid
 ·simp[Iv.meet,hx,meetV,Iv.zero,lim]
 simp;refine qaa rfl rfl rfl (qeb y wy) ?_;cases hy:y.valid
 ·simp[Iv.meet,hx,hy,meetV,Iv.zero,lim]
 rcases Bool.eq_false_or_eq_true x.all with ax|ax
 ·simp[Iv.meet,hx,hy,ax,meetV]
 rcases Bool.eq_false_or_eq_true y.all with ay|ay
 ·simp[Iv.meet,hx,hy,ax,ay,meetV]
 simp[ax,ay];refine qaa rfl rfl rfl (qwz x.lo y.lo wx.lo wy.lo) ?_;simp;refine qaa rfl rfl rfl (qw0 x.hi y.hi wx.hi wy.hi) ?_;simp;refine qaa rfl rfl rfl (qd7 (x.lo.hi2 y.lo) (x.hi.lo2 y.hi) (wx.lo.hi2 wy.lo) (wx.hi.lo2 wy.hi)) ?_;by_cases c:0<(x.lo.hi2 y.lo).cmp (x.hi.lo2 y.hi)
 ·simp[c,Iv.meet,hx,hy,ax,ay,meetV,Iv.zero,lim]
 ·simp[c,Iv.meet,hx,hy,ax,ay,meetV]
theorem qzl {a b:Dy}(ha:a.Ok)(hb:b.Ok):(a.lo2 b).Ok:=by unfold Dy.lo2;split<;>assumption
theorem qzr {a b:Dy}(ha:a.Ok)(hb:b.Ok):(a.hi2 b).Ok:=by unfold Dy.hi2;split<;>assumption
end Go.Abs.W
