/- Parts of the proof: FpDy, FpSlcU, FpBop, FpLimb, FpN2, FpDyC, FpVal, FpCmp, FpOut, FpRef2, FpRef2b, FpRef2c, FpRef2d, FpRef2e, FpRef2f, FpIv0, FpRef50, FpHull, FpIMeet. -/
import Derived.Test.YtnkijamajifgpaaGreatDoorFb
namespace Go.Abs.W
structure Dy where
 neg:Bool
 m:List Nat
 e:Int
 deriving DecidableEq
structure Iv where
 lo:Dy
 hi:Dy
 all:Bool
 deriving DecidableEq
structure Sg where
 fr:Dy
 to:Dy
 tube:List Iv
 en:List Iv
 deriving DecidableEq
structure Pp where
 start:List Iv
 segs:List Sg
 deriving DecidableEq
@[simp] def Dy.v (d:Dy):V:=.agg [.bool d.neg,lim d.m,.int .i64 d.e]
@[simp] def Iv.v (x:Iv):V:=.agg [.bool x.lo.neg,lim x.lo.m,.int .i64 x.lo.e,.bool x.hi.neg,lim x.hi.m,.int .i64 x.hi.e,.bool x.all]
def ivs (l:List Iv):V:=.sl (l.map Iv.v)
@[simp] def Sg.v (s:Sg):V:=.agg [.bool s.fr.neg,lim s.fr.m,.int .i64 s.fr.e,.bool s.to.neg,lim s.to.m,.int .i64 s.to.e,ivs s.tube,ivs s.en]
def sgs (l:List Sg):V:=.sl (l.map Sg.v)
@[simp] def Pp.v (p:Pp):V:=.agg [ivs p.start,sgs p.segs]
def lims (l:List (List Nat)):V:=.sl (l.map lim)
@[simp] theorem qam4 {l:List Iv}:(ivs l).cells=[ivs l]:=rfl
@[simp] theorem qam2 {l:List Sg}:(sgs l).cells=[sgs l]:=rfl
@[simp] theorem qamb {l:List Iv}:(ivs l).isTup=false:=rfl
@[simp] theorem qal9 {l:List Sg}:(sgs l).isTup=false:=rfl
structure Dy.wt (d:Dy):Prop where
 li:Li d.m
 len:d.m.length≤9223372036854775807
 lo:-9223372036854775808≤d.e
 hi:d.e<9223372036854775808
@[simp] theorem qaml {H:Heap} {b:Bool}:frzC H (.bool b)=some (.bool b,H):=rfl
@[simp] theorem qan3 {H:Heap} {k:IntKind} {n:Int}:frzC H (.int k n)=some (.int k n,H):=rfl
@[simp] theorem qan8 {H:Heap} {l:List V}:frzC H (.sl l)=some (.sl l,H):=rfl
@[simp] theorem qan1 {H:Heap} {l:List Nat}:frzC H (lim l)=some (lim l,H):=rfl
@[simp] theorem qan2 {H:Heap} {l:List Iv}:frzC H (ivs l)=some (ivs l,H):=rfl
@[simp] theorem qanz {H:Heap} {l:List Sg}:frzC H (sgs l)=some (sgs l,H):=rfl
@[simp] theorem qan0 {H:Heap}:frzC H .nil=some (.sl [],H):=rfl
@[simp] theorem qaog {b:Bool}:(V.bool b).cellPure=true:=rfl
@[simp] theorem qaol {k:IntKind} {n:Int}:(V.int k n).cellPure=true:=rfl
@[simp] theorem cp_sl {l:List V}:(V.sl l).cellPure=true:=rfl
@[simp] theorem qaoj {l:List Nat}:(lim l).cellPure=true:=rfl
@[simp] theorem qaok {l:List Iv}:(ivs l).cellPure=true:=rfl
@[simp] theorem qaoh {l:List Sg}:(sgs l).cellPure=true:=rfl
@[simp] theorem qaoi:V.nil.cellPure=true:=rfl
@[simp] theorem qan9 {n:Nat} {H:Heap} {vs:List V}:fin false n H (.tup vs)=(qe5 H vs).bind fun (vs',H1)=>some (.tup vs',H1.take n):=rfl
@[simp] theorem qaof {n:Nat} {H:Heap} {cs:List V}:fin false n H (.agg cs)=(qdd H (.agg cs)).bind fun (v',H1)=>some (v',H1.take n):=rfl
@[simp] theorem qaoc {n:Nat} {H:Heap}:fin false n H .nil=some (.sl [],H.take n):=rfl
@[simp] theorem qaob {n:Nat} {H:Heap} {b z off len:Nat}:fin false n H (.ref b z off len)=(qdd H (.ref b z off len)).bind fun (v',H1)=>some (v',H1.take n):=rfl
@[simp] theorem qaoa {n:Nat} {H:Heap} {l:List Sg}:fin false n H (sgs l)=some (sgs l,H.take n):=rfl
@[simp] theorem qak4 {H:Heap} {l:List Nat}:qdd H (lim l)=some (lim l,H):=rfl
@[simp] theorem qak5 {H:Heap} {l:List Iv}:qdd H (ivs l)=some (ivs l,H):=rfl
@[simp] theorem qak1 {H:Heap} {l:List Sg}:qdd H (sgs l)=some (sgs l,H):=rfl
@[simp] theorem qaio {H:Heap} {b:Bool}:qdd H (.bool b)=some (.bool b,H):=rfl
@[simp] theorem qak6 {H:Heap} {k:IntKind} {n:Int}:qdd H (.int k n)=some (.int k n,H):=rfl
@[simp] theorem qalt {H:Heap} {l:List V}:qdd H (.sl l)=some (.sl l,H):=rfl
@[simp] theorem qak3 {H:Heap}:qdd H .nil=some (.sl [],H):=rfl
@[simp] theorem qak7 {H:Heap} {cs:List V}:qdd H (.agg cs)=(frzCs H cs).bind fun (cs',H1)=>if (V.agg cs').pure=true then some (.agg cs',H1) else none:=by
 unfold qdd frzV; simp only []; generalize frzCs H cs=o; cases o<;>rfl
@[simp] theorem qaod {n:Nat} {H:Heap} {l:List Nat}:fin false n H (lim l)=some (lim l,H.take n):=rfl
@[simp] theorem qaoe {n:Nat} {H:Heap} {l:List Iv}:fin false n H (ivs l)=some (ivs l,H.take n):=rfl
@[simp] theorem qak2 {H:Heap} {b z off len:Nat}:qdd H (.ref b z off len)=frzC H (.ref b z off len):=by
 show (frzC H (.ref b z off len)).bind _=_
 unfold frzC
 simp only []
 split
 · split
   · rfl
   · rfl
 · rfl
@[simp] theorem qbr {H:Heap} {b z off len:Nat}:frzC H (.ref b z off len)=match H[b]? with
   | some (some k)=>if k.arr=true∧k.z=z∧off+len≤k.el.length then some (.sl ((k.el.drop off).take len),if k.wr then H.set b (some { k with wr:=false }) else H) else none
   | _=>none:=rfl
theorem qvq {n b:Nat}:qbu n b=true↔n*b≤140737488355328:=by simp [qbu]
attribute [simp] qvq
attribute [simp] qe5 frzCs V.pure V.withCells qd2 fillC fillE elems qdk
theorem qdq {α:Type} {H H':List α} (h:H <+: H'):H'.take H.length=H:=by
 obtain ⟨t,rfl⟩:=h; simp
theorem qox {α:Type} {H H' l:List α} (h:H <+: H'):H <+: H'++l:=h.trans (List.prefix_append _ _)
@[simp] theorem qagr {α:Type} {H l:List α}:H <+: H++l:=List.prefix_append _ _
end Go.Abs.W
namespace Go.Abs.W
def Cb (H:Heap) (g:Nat) (caps args:List V) (v:V):Prop :=
 ∀ H',H <+: H'→prep prog g H' (args++caps)=some (args++caps,H')∧Ev prog (.call g (args++caps) H') (.ret v H')
theorem Cb.mono {H H':Heap} {g:Nat} {caps args:List V} {v:V} (h:Cb H g caps args v) (hp:H <+: H'):Cb H' g caps args v:=fun K hK=>h K (hp.trans hK)
def idxV (o:Option Nat):V:=match o with
 | some i=>.int .i64 i
 | none=>.int .i64 (-1)
theorem WL_cb {n0:Nat} {Q:AX→Env→Heap→Prop} {d:Bool} {dst:Option Nat} {sy:Bool} {l:List AOper} {K:List Fr} {E:Env} {H H0:Heap} {x:X} {caps args:List V} {xs:List X} {g:Nat} {v:V} (h:Cb H0 g caps args v) (hp:H0 <+: H)
   (hx:getX E x=.fn g caps) (ha:xs.map (getX E)=args) (k:WL prog n0 d l K (put E dst v) H Q):qvs prog n0 d dst x xs sy l K E H Q :=
 qvr hx (by rw [ha]) (h H hp).1 ⟨_,_,(h H hp).2,fun _=>List.prefix_refl H,k⟩
theorem WL_ev {n0:Nat} {Q:AX→Env→Heap→Prop} {d:Bool} {dst:Option Nat} {sy:Bool} {l:List AOper} {K:List Fr} {E:Env} {H:Heap} {x:X} {caps args vs:List V} {xs:List X} {g:Nat} {v:V}
   (hx:getX E x=.fn g caps) (ha:xs.map (getX E)++caps=args) (hp:prep prog g H args=some (vs,H)) (h:Ev prog (.call g vs H) (.ret v H)) (k:WL prog n0 d l K (put E dst v) H Q):qvs prog n0 d dst x xs sy l K E H Q :=
 qvr hx ha hp ⟨_,_,h,fun _=>List.prefix_refl H,k⟩
theorem qrx {g:Nat} {f:AFn} {args:List V} {v:V} {H:Heap} (hf:prog.fn g=some f)
   (h:WK prog H.length f.body [] (E0 args) H (fun x E1 H1=>(x=.normal∨x=.ret)∧∃ v0,resV E1 H1 f.results=some v0∧fin f.own H.length H1 v0=some (v,H))):Ev prog (.call g args H) (.ret v H):=by
 obtain ⟨x,E1,H1,e,hx,v0,hr,hfin⟩:=h
 exact .call hf e hx hr hfin
set_option maxHeartbeats 1000000 in
theorem q8j {H:Heap} {g:Nat} {caps:List V} {p:(List Nat)→Bool} (l:List (List Nat)) (hl:l.length≤9223372036854775807) (h:∀ x ∈ l,Cb H g caps [lim x] (.bool (p x))) :
   Ev prog (.call qja [lims l,.fn g caps] H) (.ret (idxV (l.findIdx? p)) H):=by
 refine qrx rfl ?_
 simp [lims]
 refine WK_up (fun i E H'=>H'=H∧E 0=lims l∧E 1=.fn g caps∧E 7=.int .i64 l.length∧E 8=.int .i64 i∧(∀ j x,j<i→l[j]?=some x→p x=false)) l.length ?_ ?_
 · simp [lims]
 · rintro i E H' hi ⟨rfl,h0,h1,h7,h8,hp⟩
   simp only [lims] at h0 ⊢
   rcases Nat.lt_or_ge i l.length with hlt | hge
   · have e2:IntKind.i64.wrap ((i:Int)+1)=((i+1:Nat):Int):=by rw [wrap_i64]<;>omega
     simp [qbs,h7,h8,h0,h1,hlt]
     refine WL_cb (h l[i] (List.getElem_mem hlt)) (List.prefix_refl _) rfl rfl ?_
     simp [h0,h1,h7,h8,e2]
     refine ⟨fun hpx=>?_,fun hpx=>?_⟩
     · rw [show l.findIdx? p=some i from ?_]
       · simp [idxV]
       · rw [List.findIdx?_eq_some_iff_getElem]
         refine ⟨hlt,hpx,?_⟩
         · intro j hj
           have:=hp j l[j] hj (List.getElem?_eq_getElem _)
           simp [this]
     · intro j y hj hy
       rcases Nat.lt_or_ge j i with hji | hji
       · exact hp j y hji hy
       · have:j=i:=by omega
         subst this
         rw [List.getElem?_eq_getElem hlt] at hy; injection hy with hy; rw [← hy]; exact hpx
   · have hin:i=l.length:=by omega
     subst hin
     have e1:l.findIdx? p=none:=by
       simp only [List.findIdx?_eq_none_iff]
       intro x hx
       obtain ⟨j,hj,rfl⟩:=List.getElem_of_mem hx
       exact hp j _ hj (List.getElem?_eq_getElem _)
     simp [qbs,h7,h8,e1,idxV]
theorem q0g {H:Heap} {g:Nat} {caps:List V} {p:(List Nat)→Bool} (l:List (List Nat)) (hl:l.length≤9223372036854775807) (h:∀ x ∈ l,Cb H g caps [lim x] (.bool (p x))) :
   Ev prog (.call qgl [lims l,.fn g caps] H) (.ret (.bool (l.any p)) H):=by
 refine qrx rfl ?_
 simp [lims]
 refine WL_ev rfl rfl rfl (q8j l hl h) ?_
 rcases hq:l.findIdx? p with _ | i
 · have e1:l.any p=false:=by simpa [List.findIdx?_eq_none_iff] using hq
   simp [idxV,e1]
 · have e1:l.any p=true:=by
     rw [List.findIdx?_eq_some_iff_getElem] at hq
     obtain ⟨h1,h2,_⟩:=hq
     exact List.any_eq_true.2 ⟨_,List.getElem_mem h1,h2⟩
   simp [idxV,e1]
end Go.Abs.W
namespace Go.Abs.W
theorem qef (w n:Nat):(BitVec.ofInt w (n:Int)).toNat=n%2^w:=by
 simp
theorem qai (n:Nat) (h:n<18446744073709551616):IntKind.u64.wrap (n:Int)=n:=qaz (by omega) (by omega)
theorem qap (n:Nat) (h:n<4294967296):IntKind.u32.wrap (n:Int)=n:=qadn (by omega) (by omega)
theorem qbb (n:Nat):IntKind.u32.wrap (n:Int)=((n%4294967296:Nat):Int):=by
 simp only [IntKind.wrap,IntKind.bits,IntKind.signed]; simp
theorem qq8 (a b:Nat) (ha:a<2^64) (hb:b<2^64):bitsI .or .u64 (a:Int) (b:Int)=some (((a ||| b:Nat)):Int):=by
 show some (IntKind.u64.wrap ((BitVec.ofInt 64 (a:Int) ||| BitVec.ofInt 64 (b:Int)).toNat:Int))=_
 rw [BitVec.toNat_or,qef,qef,Nat.mod_eq_of_lt ha,Nat.mod_eq_of_lt hb]
 rw [qai _ (Nat.or_lt_two_pow ha hb)]
theorem q4f (a b:Nat) (ha:a<2^64) (hb:b<2^64):bitsI .and .u64 (a:Int) (b:Int)=some (((a &&& b:Nat)):Int):=by
 show some (IntKind.u64.wrap ((BitVec.ofInt 64 (a:Int) &&& BitVec.ofInt 64 (b:Int)).toNat:Int))=_
 rw [BitVec.toNat_and,qef,qef,Nat.mod_eq_of_lt ha,Nat.mod_eq_of_lt hb]
 rw [qai _ (Nat.lt_of_le_of_lt Nat.and_le_left ha)]
theorem qmq (a b:Nat) (ha:a<2^32) (hb:b<2^32):bitsI .and .u32 (a:Int) (b:Int)=some (((a &&& b:Nat)):Int):=by
 show some (IntKind.u32.wrap ((BitVec.ofInt 32 (a:Int) &&& BitVec.ofInt 32 (b:Int)).toNat:Int))=_
 rw [BitVec.toNat_and,qef,qef,Nat.mod_eq_of_lt ha,Nat.mod_eq_of_lt hb]
 rw [qap _ (Nat.lt_of_le_of_lt Nat.and_le_left ha)]
theorem qb4 (a:Nat) (ha:a<2^64):bitsI .and .u64 (a:Int) 4294967295=some ((a%4294967296:Nat):Int):=by
 have:=q4f a 4294967295 ha (by decide)
 rw [show ((4294967295:Nat):Int)=4294967295 from rfl] at this
 rw [this,show 4294967295=2^32-1 from rfl,Nat.and_two_pow_sub_one_eq_mod]
theorem qmp (a:Nat) (ha:a<2^32):bitsI .and .u32 (a:Int) 1=some ((a%2:Nat):Int):=by
 have:=qmq a 1 ha (by decide)
 rw [show ((1:Nat):Int)=1 from rfl] at this
 rw [this,show (1:Nat)=2^1-1 from rfl,Nat.and_two_pow_sub_one_eq_mod]
theorem qdo (x s c:Nat) (hx:x*2^s<2^64) (hc:c<2^s) (hs:s≤64):bitsI .or .u64 ((x*2^s:Nat):Int) (c:Int)=some ((x*2^s+c:Nat):Int):=by
 have h2:2^s≤2^64:=Nat.pow_le_pow_right (by omega) hs
 rw [qq8 _ _ hx (by omega),Nat.mul_comm,Nat.two_pow_add_eq_or_of_lt hc]
theorem shl64 (x s:Nat) (hs:s<64) (h:x*2^s<2^64):qa2 .shl .u64 (x:Int) (s:Int)=some (.int .u64 ((x*2^s:Nat):Int)):=by
 have e1:¬ ((s:Int)<0):=by omega
 have e2:Nat.min s 64=s:=Nat.min_eq_left (by omega)
 have e3:(x:Int)*2^s=((x*2^s:Nat):Int):=by simp
 simp only [qa2,if_neg e1,q6o,Int.toNat_natCast,e2,e3]
 rw [qai _ h]
theorem shr64 (x s:Nat) (hs:s<64):qa2 .shr .u64 (x:Int) (s:Int)=some (.int .u64 ((x/2^s:Nat):Int)):=by
 have e1:¬ ((s:Int)<0):=by omega
 have e2:Nat.min s 64=s:=Nat.min_eq_left (by omega)
 have e3:(2:Int)^s=((2^s:Nat):Int):=by simp
 simp only [qa2,if_neg e1,q6o,Int.toNat_natCast,e2,e3,qsx]
theorem shr32 (x s:Nat) (hs:s<32):qa2 .shr .u32 (x:Int) (s:Int)=some (.int .u32 ((x/2^s:Nat):Int)):=by
 have e1:¬ ((s:Int)<0):=by omega
 have e2:Nat.min s 32=s:=Nat.min_eq_left (by omega)
 have e3:(2:Int)^s=((2^s:Nat):Int):=by simp
 simp only [qa2,if_neg e1,qz7,Int.toNat_natCast,e2,e3,qsx]
end Go.Abs.W
namespace Go.Abs
def qpm:Nat→Nat→List Nat
 | 0,_=>[]
 | f+1,n=>if n=0 then [] else (n%4294967296) :: qpm f (n/4294967296)
def qae (n:Nat):List Nat:=qpm (Nat.log2 n/32+1) n
theorem q1h:∀ {f g n:Nat},n<4294967296^f→n<4294967296^g→qpm f n=qpm g n
 | 0,0,_,_,_=>rfl
 | 0,g+1,n,h,_=>by
   have:n=0:=by simpa using h
   simp [qpm,this]
 | f+1,0,n,_,h=>by
   have:n=0:=by simpa using h
   simp [qpm,this]
 | f+1,g+1,n,h1,h2=>by
   rw [Nat.pow_succ] at h1 h2
   simp only [qpm]
   rw [q1h (f:=f) (g:=g) (by omega) (by omega)]
theorem qxi (n:Nat):n<4294967296^(Nat.log2 n/32+1):=by
 rw [show 4294967296=2^32 from rfl,← Nat.pow_mul]
 exact Nat.lt_of_lt_of_le Nat.lt_log2_self (Nat.pow_le_pow_right (by omega) (by omega))
theorem qa9:qae 0=[]:=rfl
theorem qfv {n:Nat} (h:n≠0):qae n=(n%4294967296) :: qae (n/4294967296):=by
 have h1:=qxi n
 rw [Nat.pow_succ] at h1
 show qpm (Nat.log2 n/32+1) n=_
 simp only [qpm,h,if_false]
 rw [q1h (by omega) (qxi (n/4294967296))]
 rfl
theorem qac (n:Nat):natV (qae n)=n:=by
 induction n using Nat.strongRecOn with
 | _ n ih =>
   by_cases h:n=0
   · subst h; rw [qa9]; rfl
   · rw [qfv h,natV,ih _ (by omega)]; omega
theorem qag (n:Nat):Li (qae n):=by
 induction n using Nat.strongRecOn with
 | _ n ih =>
   by_cases h:n=0
   · subst h; rw [qa9]; intro x hx; simp at hx
   · rw [qfv h]
     intro x hx
     rcases List.mem_cons.1 hx with rfl | hx
     · omega
     · exact ih _ (by omega) x hx
theorem qcq {n:Nat} (h:n≠0):qae n≠[]:=by rw [qfv h]; simp
theorem qez (n:Nat):Trim (qae n):=by
 induction n using Nat.strongRecOn with
 | _ n ih =>
   by_cases h:n=0
   · subst h; rw [qa9]; intro x hx; simp at hx
   · rw [qfv h]
     intro x hx
     by_cases h1:n/4294967296=0
     · rw [h1,qa9] at hx
       simp at hx
       omega
     · obtain ⟨y,l,hl⟩:=List.exists_cons_of_ne_nil (qcq h1)
       rw [hl,List.getLast?_cons_cons,← hl] at hx
       exact ih _ (by omega) x hx
theorem Trim.tail {x:Nat} {l:List Nat} (h:Trim (x :: l)):Trim l:=by
 intro y hy
 cases l with
 | nil=>simp at hy
 | cons z l=>exact h y (by rw [List.getLast?_cons_cons]; exact hy)
theorem q1a {l:List Nat} (h:Trim l) (h0:natV l=0):l=[]:=by
 induction l with
 | nil=>rfl
 | cons x l ih =>
   simp only [natV] at h0
   have hx:x=0:=by omega
   have hl:=ih h.tail (by omega)
   subst hl; subst hx
   exact absurd rfl (h 0 (by simp))
theorem qji {l:List Nat} (hl:Li l) (ht:Trim l):qae (natV l)=l:=by
 induction l with
 | nil=>exact qa9
 | cons x l ih =>
   have h0:natV (x :: l)≠0:=fun h=>by simpa using q1a ht h
   rw [qfv h0]
   have:=hl.cons.1
   simp only [natV]
   rw [show (x+4294967296*natV l)%4294967296=x by omega,show (x+4294967296*natV l)/4294967296=natV l by omega,ih hl.cons.2 ht.tail]
theorem qak {l:List Nat} (hl:Li l):trimL l=qae (natV l):=by
 rw [← qkx l,qji hl.trimL (qn2 l)]
theorem qaeq {a b:List Nat} (ha:Li a) (hb:Li b) (ta:Trim a) (tb:Trim b) (h:natV a=natV b):a=b:=by
 rw [← qji ha ta,← qji hb tb,h]
theorem limbsOf_len {n k:Nat}:(qae n).length≤k↔n<4294967296^k:=by
 constructor
 · intro h
   have:=qan (qag n)
   rw [qac] at this
   exact Nat.lt_of_lt_of_le this (Nat.pow_le_pow_right (by omega) h)
 · intro h
   by_cases h0:n=0
   · rw [h0,qa9]; simp
   · have:=qaau (qez n) (qcq h0)
     rw [qac] at this
     have h2:4294967296^((qae n).length-1)<4294967296^k:=by omega
     have:=(Nat.pow_lt_pow_iff_right (by omega)).1 h2
     omega
theorem qdt {N B k:Nat} (h:N<2^B) (hk:B≤32*k):(qae N).length≤k:=by
 refine limbsOf_len.2 ?_
 rw [show (4294967296:Nat)=2^32 from rfl,← Nat.pow_mul]
 exact Nat.lt_of_lt_of_le h (Nat.pow_le_pow_right (by omega) hk)
theorem qbj {X Y k:Nat} (h:X≤Y) (hl:(qae Y).length≤k):(qae X).length≤k:=by
 have:=limbsOf_len.1 hl
 exact limbsOf_len.2 (by omega)
theorem q1g {X Y k:Nat} (h1:(qae X).length≤k) (h2:(qae Y).length≤k):(qae (X+Y)).length≤k+1:=by
 have h3:=limbsOf_len.1 h1
 have h4:=limbsOf_len.1 h2
 refine limbsOf_len.2 ?_
 rw [Nat.pow_succ]; omega
theorem qjg (l:List Nat) (t:Nat):natV (l++[t])=natV l+4294967296^l.length*t:=by rw [qb7]; simp [natV]
end Go.Abs
namespace Go.Abs.W
attribute [local simp] qed
theorem Cb_of {H:Heap} {g:Nat} {args:List V} {v:V} (hp:∀ H,prep prog g H args=some (args,H)) (h:CQ prog g args v):Cb H g [] args v:=by
 intro H' _
 rw [List.append_nil]
 exact ⟨hp H',h H'⟩
theorem qar {n0:Nat} {Q:AX→Env→Heap→Prop} {d:Bool} {dst:Option Nat} {sy:Bool} {l:List AOper} {K:List Fr} {E:Env} {H H1:Heap} {x:X} {args caps vs:List V} {xs:List X} {g:Nat} {v:V} (hx:getX E x=.fn g caps)
   (ha:xs.map (getX E)++caps=args) (hp:prep prog g H args=some (vs,H1)) (h:CQ prog g vs v) (k:WL prog n0 d l K (put E dst v) H1 Q) (hd:(d&&!sy)=true→H <+: H1:=by simp):qvs prog n0 d dst x xs sy l K E H Q :=
 qvr hx ha hp (h.ct ⟨hd,k⟩)
theorem qaey (a:List Nat):CQ prog qr1 [lim a] (.bool (decide (256<a.length))):=by
 refine qah rfl fun H=>?_
 simp [lim]
 omega
theorem qm8 (l:List (List Nat)) (hl:l.length≤9223372036854775807):CQ prog qv4 [lims l] (.bool (l.any fun a=>decide (256<a.length))):=by
 refine qah rfl fun H=>?_
 simp
 refine WL_ev rfl rfl rfl (q0g l hl fun x _=>Cb_of (fun _=>rfl) (qaey x)) ?_
 simp
theorem q0h (a:List Nat):CQ prog qoc [lim a] (lim a):=by
 refine qah rfl fun H=>?_
 simp [lim,List.take_of_length_le]
theorem qabw (a:List Nat) (ha:a.length≤100000000):CQ prog qjt [lim a] (.tup [lim (if 256<(trimL a).length then [] else trimL a),.int .i64 (if 256<(trimL a).length then 9 else 0)]):=by
 refine qah rfl fun H=>?_
 simp
 refine qaa rfl rfl rfl (qb6 a (by omega)) ?_
 simp
 refine qar rfl rfl (H1:=H++[some ⟨1,[lim (trimL a)],true,false⟩]) (by simp [prep,frzVs,frzV]; rfl) (qm8 [trimL a] (by simp)) ?_
 simp
 refine ⟨fun h=>?_,fun h=>?_⟩
 · simp [h]; rfl
 · refine qaa rfl rfl rfl (q0h (trimL a)) ?_
   have:¬ (256<(trimL a).length):=by omega
   simp [this]
def shlGo (s:Nat):Nat→List Nat→List Nat
 | c,[]=>[c%4294967296]
 | c,x :: l=>((x*2^s+c)%4294967296) :: shlGo s ((x*2^s+c)/4294967296) l
theorem qtb {s:Nat}:∀ {c:Nat} {l:List Nat},(shlGo s c l).length=l.length+1
 | _,[]=>rfl
 | c,x :: l=>by simp [shlGo,qtb]
theorem q47 {s:Nat}:∀ {c:Nat} {l:List Nat},Li (shlGo s c l)
 | c,[]=>by intro x hx; simp [shlGo] at hx; omega
 | c,x :: l=>by
   intro y hy
   rcases List.mem_cons.1 hy with rfl | hy
   · omega
   · exact q47 y hy
theorem qyd {s x c:Nat} (hs:s<32) (hx:x<4294967296) (hc:c<2^s):x*2^s+c<18446744073709551616∧(x*2^s+c)/4294967296<2^s:=by
 have h1:x*2^s+c<4294967296*2^s:=by
   have:(x+1)*2^s≤4294967296*2^s:=Nat.mul_le_mul_right _ (by omega)
   rw [Nat.add_mul] at this
   omega
 have h2:2^s≤2^31:=Nat.pow_le_pow_right (by omega) (by omega)
 exact ⟨by omega,(Nat.div_lt_iff_lt_mul (by omega)).2 (by omega)⟩
theorem qta {s:Nat} (hs:s<32):∀ {c:Nat} {l:List Nat},Li l→c<2^s→natV (shlGo s c l)=natV l*2^s+c
 | c,[],_,hc=>by
   have h2:2^s≤2^31:=Nat.pow_le_pow_right (by omega) (by omega)
   simp [shlGo,natV]
   omega
 | c,x :: l,hl,hc=>by
   obtain ⟨h1,h2⟩:=qyd hs hl.cons.1 hc
   simp only [shlGo,natV]
   rw [qta hs hl.cons.2 h2,Nat.add_mul,Nat.mul_add,Nat.mul_assoc]
   omega
def shlL (a:List Nat) (n:Nat):List Nat:=List.replicate (n/32) 0++shlGo (n%32) 0 (trimL a)
theorem qss {a:List Nat} {n:Nat} (la:Li a):natV (shlL a n)=natV a*2^n:=by
 unfold shlL
 rw [qb7,qfs,List.length_replicate,qta (by omega) la.trimL (Nat.two_pow_pos _),qkx,pow32]
 rw [Nat.zero_add,Nat.add_zero,Nat.mul_left_comm,← Nat.pow_add,Nat.div_add_mod]
theorem qyb {a:List Nat} {n:Nat}:Li (shlL a n):=by
 refine Li.append ?_ q47
 intro x hx
 rw [(List.mem_replicate.1 hx).2]; omega
theorem qe1 (a:List Nat):(trimL a).length≤a.length:=by unfold trimL; simp; omega
theorem qyc {a:List Nat} {n:Nat}:(shlL a n).length≤n/32+a.length+1:=by
 unfold shlL; have:=qe1 a; simp [qtb]; omega
theorem qaem {n0:Nat} {H acc:Heap} {b z off len:Nat}:ownC n0 H acc (.ref b z off len)=match H[b]? with
   | some (some k)=>if n0≤b∧k.arr=true∧k.wr=true∧k.z=z∧off+len≤k.el.length then some (.ref (n0+acc.length) z 0 len,H.set b none,acc++[some { k with el:=(k.el.drop off).take len }]) else none
   | _=>none:=rfl
set_option maxHeartbeats 2000000 in
theorem q46 (a:List Nat) (n:Nat) (ha:a.length≤100000000) (la:Li a) (hn:n≤1000000000) (H:Heap) (Q:V→Heap→Prop)
   (hQ:Q (.ref H.length 1 0 (shlL a n).length) (H++[some ⟨1,(shlL a n).map u32,true,true⟩])):CT prog qy0 [lim a,.int .i64 n] H Q:=by
 refine CT_of (f:=qhn) rfl (qmu ?_)
 simp
 refine qaa rfl rfl rfl (qb6 a (by omega)) ?_
 have hx:=qe1 a
 have lx:=la.trimL
 unfold shlL at hQ
 generalize trimL a=x at *
 obtain ⟨q,hq⟩:∃ q,q=n/32:=⟨_,rfl⟩
 obtain ⟨s,hs⟩:∃ s,s=n%32:=⟨_,rfl⟩
 rw [← hq,← hs] at hQ
 have q1:(n:Int)/32=q:=by omega
 have s1:(n:Int)%32=s:=by omega
 have hs32:s<32:=by omega
 have e1:IntKind.i64.wrap (q:Int)=q:=by rw [wrap_i64]<;>omega
 have e2:IntKind.i64.wrap ((q:Int)+(x.length:Int))=q+x.length:=by rw [wrap_i64]<;>omega
 have e3:IntKind.i64.wrap ((q:Int)+(x.length:Int)+1)=q+x.length+1:=by rw [wrap_i64]<;>omega
 have e4:(0:Int)≤q+x.length+1:=by omega
 have e5:((q:Int)+x.length+1).toNat=q+x.length+1:=by omega
 have e6:q≤q+x.length+1∧(q+x.length+1)*4≤281474976710656∧q+x.length+1≤9223372036854775807:=by omega
 simp [lim,q1,e1,e2,e3,e4,e5,e6]
 refine WK_up (fun i E H'=>E 0=lim x∧E 1=.int .i64 n∧E 21=lim x∧E 22=.int .i64 x.length∧E 23=.int .i64 i ∧
   ∃ c o G g blk,H'=H++G∧c<2^s∧Li o∧E 6=.int .u64 (c:Nat)∧E 5=.ref (H.length+g) 1 0 (q+i)∧G[g]?=some (some ⟨1,blk,true,true⟩)∧blk.take (q+i)=o.map u32∧o.length=q+i∧q+i≤blk.length ∧
     o++shlGo s c (x.drop i)=List.replicate q 0++shlGo s 0 x) x.length ?_ ?_
 · simp [lim]
   refine ⟨0,Nat.two_pow_pos s,List.replicate q 0,?_,rfl,?_,by simp,by omega,rfl⟩
   · intro y hy
     rw [(List.mem_replicate.1 hy).2]; omega
   · rw [Nat.min_eq_left (by omega)]; simp [u32]
 · rintro i E H' hi ⟨h0,h1,h21,h22,h23,c,o,G,g,blk,rfl,hc,lo,h6,h5,hg,hb,ho,hbl,ht⟩
   simp only [lim] at h0 h21
   have hgl:=(List.getElem?_eq_some_iff.1 hg).1
   rcases Nat.lt_or_ge i x.length with hlt | hge
   · have f1:IntKind.i64.wrap ((i:Int)+1)=((i+1:Nat):Int):=by rw [wrap_i64]<;>omega
     have f2:(n:Int).tmod 32=s:=by rw [Int.tmod_eq_emod_of_nonneg (by omega)]; exact s1
     have lxi:x[i]<4294967296:=lx _ (List.getElem_mem hlt)
     have f3:IntKind.u64.wrap (x[i]:Int)=x[i]:=qai _ (by omega)
     obtain ⟨g1,g2⟩:=qyd hs32 lxi hc
     rw [List.drop_eq_getElem_cons hlt,shlGo] at ht
     obtain ⟨P,hP⟩:∃ P,P=x[i]*2^s:=⟨_,rfl⟩
     have f4:qa2 .shl .u64 (x[i]:Int) (s:Int)=some (.int .u64 (P:Int)):=by rw [shl64 _ _ (by omega) (by omega),hP]
     have f5:bitsI .or .u64 (P:Int) (c:Int)=some ((P+c:Nat):Int):=by rw [hP]; exact qdo _ _ _ (by omega) hc (by omega)
     rw [← hP] at g1 g2 ht
     obtain ⟨T,hT⟩:∃ T,T=P+c:=⟨_,rfl⟩
     rw [← hT] at f5 g1 g2 ht
     have f6:IntKind.u32.wrap (T:Int)=((T%4294967296:Nat):Int):=qbb T
     have f7:qa2 .shr .u64 (T:Int) 32=some (.int .u64 ((T/4294967296:Nat):Int)):=shr64 T 32 (by omega)
     obtain ⟨L,hL⟩:∃ L,L=T%4294967296:=⟨_,rfl⟩
     obtain ⟨C,hC⟩:∃ C,C=T/4294967296:=⟨_,rfl⟩
     rw [← hL] at f6 ht
     rw [← hC] at f7 ht g2
     have f8:(q+i+1)*4≤140737488355328:=by omega
     have f9:(G++[some ⟨1,[V.int IntKind.u32 L],true,true⟩])[g]?=some (some ⟨1,blk,true,true⟩):=by rw [List.getElem?_append_left hgl]; exact hg
     simp [qgn,h0,h1,h21,h22,h23,h5,h6,hlt,u32,f1,f2,f3,f4,f5,f6,f7,f8,hbl,f9,lim]
     refine ⟨C,g2,o++[L],lo.append (by intro y hy; simp at hy; omega),rfl,G.length+1,⟨rfl,by omega⟩,List.take (q+i) blk++[V.int IntKind.u32 ↑L],?_,?_,by simp; omega,by simp; omega,by simpa using ht⟩
     · rw [List.getElem?_append_right (by simp)]; simp
     · rw [hb,List.take_of_length_le (by simp; omega)]; simp [u32]
   · have hin:i=x.length:=by omega
     subst hin
     have g1:2^s≤2^31:=Nat.pow_le_pow_right (by omega) (by omega)
     have f6:IntKind.u32.wrap (c:Int)=c:=qap c (by omega)
     have f8:(q+x.length+1)*4≤140737488355328:=by omega
     have f9:(G++[some ⟨1,[V.int IntKind.u32 c],true,true⟩])[g]?=some (some ⟨1,blk,true,true⟩):=by rw [List.getElem?_append_left hgl]; exact hg
     simp [qgn,h22,h23,h5,h6,f6,f8,f9,hbl,fin,ownV,qaem]
     simp [shlGo] at ht
     have hc32:c%4294967296=c:=by omega
     rw [hc32] at ht
     rw [← ht] at hQ
     rw [List.take_of_length_le (l:=List.take _ blk++_) (by simp; omega),hb]
     have hl:(o++[c]).length=q+x.length+1:=by simp [ho]
     rw [hl] at hQ
     refine ⟨_,_,⟨rfl,rfl⟩,?_⟩
     simpa [u32] using hQ
end Go.Abs.W
namespace Go.Abs.W
def shN (a:List Nat) (n:Nat):List Nat:=if 256<(qae (natV a*2^n)).length then [] else qae (natV a*2^n)
theorem qadb (a:List Nat) (n:Nat) (ha:a.length≤256) (la:Li a) (hn:n≤65536):CQ prog qpr [lim a,.int .i64 n] (.tup [lim (shN a n),.int .i64 (if 256<(qae (natV a*2^n)).length then 9 else 0)]):=by
 refine qah rfl fun H=>?_
 simp
 refine qar rfl rfl (H1:=H++[some ⟨1,[lim a],true,false⟩]) (by simp [prep,frzVs,frzV]; rfl) (qm8 [a] (by simp)) ?_
 have h1:¬ (256<a.length):=by omega
 have h2:(n:Int)≤65536:=by omega
 have h3:¬ ((65536:Int)<n):=by omega
 have h4:¬ ((n:Int)<0):=by omega
 simp [h1,h3,h4]
 refine qqb rfl rfl rfl (q46 a n (by omega) la (by omega) _ _ ?_)
 simp
 refine qar rfl rfl (H1:=H++[some ⟨1,[lim a],true,false⟩,some ⟨1,(shlL a n).map u32,true,false⟩]) (vs:=[lim (shlL a n)]) (by refine Eq.trans (b:=frzVs _ _) rfl ?_; simp [frzVs,frzV,qbr,lim,List.take_of_length_le]) (qabw (shlL a n) (by have:=qyc (a:=a) (n:=n); omega)) ?_
 rw [qak qyb,qss la]
 simp [shN]
theorem qw1 (a:List Nat) (n:Nat) (ha:a.length≤256) (la:Li a) (hn:n≤65536):CQ prog qsh [lim a,.int .i64 n] (lim (shN a n)):=by
 refine qah rfl fun H=>?_
 simp
 refine qaa rfl rfl rfl (qadb a n ha la hn) ?_
 simp
theorem q9k (a:List Nat) (ha:a.length≤100000000) (la:Li a):CQ prog qzn [lim a] (.int .i64 (bitL (natV a))):=by
 refine qah rfl fun H=>?_
 simp
 refine qaa rfl rfl rfl (qn1 a ha la) ?_
 simp [i64]
def Dy.inR (d:Dy):Bool :=
 bitL (natV d.m) == 0 || (decide (bitL (natV d.m)≤4096)&&decide (-16384≤d.e)&&decide (d.e≤16384)&&decide (bitL (natV d.m)+d.e≤16384))
theorem qxj (d:Dy) (ha:d.m.length≤100000000) (la:Li d.m):CQ prog qsi [d.v] (.bool d.inR):=by
 refine qah rfl fun H=>?_
 simp
 refine qaa rfl rfl rfl (q9k _ ha la) ?_
 have e1:bitL (natV d.m)≤4096→-16384≤d.e→d.e≤16384→IntKind.i64.wrap ((bitL (natV d.m):Int)+d.e)=bitL (natV d.m)+d.e:=by intros; rw [wrap_i64]<;>omega
 simp [Dy.inR]
 grind
def Dy.valid (d:Dy):Bool :=
 match d.m with
 | []=>!d.neg&&decide (d.e=0)
 | x :: l=>decide ((x :: l).length≤256)&&decide (x%2=1)&&decide ((x :: l).getLast (by simp)≠0)&&d.inR
set_option maxHeartbeats 1000000 in
theorem qfo (d:Dy) (ha:d.m.length≤100000000) (la:Li d.m):CQ prog qwn [d.v] (.bool d.valid):=by
 refine qah rfl fun H=>?_
 rcases d with ⟨neg,m,e⟩
 rcases m with _ | ⟨x,l⟩
 · simp [lim,Dy.valid]
   grind
 · have hx:x<4294967296:=la x (by simp)
   have e1:((l.length:Int)+1≠0):=by omega
   have e2:(x:Int).tmod 2=((x%2:Nat):Int):=by rw [Int.tmod_eq_emod_of_nonneg (by omega)]; omega
   obtain ⟨y,hy⟩:∃ y,y=x%2:=⟨_,rfl⟩
   obtain ⟨t,ht⟩:∃ t,t=(x :: l).getLast (by simp):=⟨_,rfl⟩
   have e3:IntKind.i64.wrap (l.length:Int)=l.length:=by rw [wrap_i64]<;>(simp at ha; omega)
   have e4:(x :: l)[l.length]?=some t:=by rw [ht,List.getLast_eq_getElem]; simp
   have e5:((V.int IntKind.u32 (x:Int)) :: List.map u32 l)[l.length]?=some (.int .u32 t):=by
     have:=congrArg (Option.map u32) e4
     rw [← List.getElem?_map] at this
     exact this
   have e7:((V.int IntKind.u32 (x:Int)) :: List.map u32 l)[l.length]'(by simp)=.int .u32 t:=by
     rw [List.getElem?_eq_getElem (by simp)] at e5; injection e5
   rw [← hy] at e2
   have hv:Dy.valid ⟨neg,x :: l,e⟩=(decide (l.length+1≤256)&&decide (y=1)&&decide (t≠0)&&Dy.inR ⟨neg,x :: l,e⟩):=by
     simp [Dy.valid,hy,ht]
   rw [hv]
   simp [lim,u32,e1,e2,e3,e7]
   refine ⟨fun h1=>⟨fun h2=>⟨fun h3=>?_,fun h3=>?_⟩,fun h2=>?_⟩,fun h1=>?_⟩
   · refine qaa rfl rfl rfl (qxj ⟨neg,x :: l,e⟩ ha la) ?_
     simp
     grind
   all_goals grind
end Go.Abs.W
namespace Go.Abs.W
def Dy.absN (d:Dy):Nat:=natV d.m*2^(d.e+16384).toNat
def Dy.val (d:Dy):Int:=if d.neg then -(d.absN:Int) else d.absN
def Dy.top (d:Dy):Int:=if d.m=[] then 0 else bitL (natV d.m)+d.e
def Dy.sgn (d:Dy):Int:=if d.m=[] then 0 else if d.neg then -1 else 1
def cmpI (a b:Int):Int:=if a<b then -1 else if b<a then 1 else 0
structure Dy.Ok (d:Dy):Prop where
 li:Li d.m
 tr:Trim d.m
 len:d.m.length≤256
 zero:d.m=[]→d.neg=false∧d.e=0
 odd:d.m≠[]→natV d.m%2=1
 bits:bitL (natV d.m)≤4096
 elo:-16384≤d.e
 ehi:d.e≤16384
 top:bitL (natV d.m)+d.e≤16384
theorem qft {l:List Nat} (h:Trim l) (hn:l≠[]):natV l≠0:=fun h0=>hn (q1a h h0)
theorem Dy.Ok.of {d:Dy} (li:Li d.m) (h:d.valid=true):d.Ok:=by
 rcases d with ⟨neg,m,e⟩
 rcases m with _ | ⟨x,l⟩
 · simp [Dy.valid] at h
   obtain ⟨h1,h2⟩:=h
   subst h1; subst h2
   exact ⟨li,by intro x hx; simp at hx,by simp,by simp,by simp,by decide,by decide,by decide,by decide⟩
 · simp only [Dy.valid,Bool.and_eq_true,decide_eq_true_eq] at h
   obtain ⟨⟨⟨h1,h2⟩,h3⟩,h4⟩:=h
   have tr:Trim (x :: l):=by
     intro y hy
     rw [List.getLast?_eq_some_getLast (by simp)] at hy
     injection hy with hy
     rw [← hy]; exact h3
   have hn:=qft tr (by simp)
   have hb:bitL (natV (x :: l))≠0:=by
     have:=(qa7 hn).2.2; omega
   simp only [Dy.inR,Bool.or_eq_true,Bool.and_eq_true,decide_eq_true_eq,beq_iff_eq,hb,false_or] at h4
   obtain ⟨⟨⟨g1,g2⟩,g3⟩,g4⟩:=h4
   exact ⟨li,tr,h1,by simp,fun _=>by simp only [natV]; omega,g1,g2,g3,g4⟩
theorem Dy.Ok.valid {d:Dy} (h:d.Ok):d.valid=true:=by
 rcases d with ⟨neg,m,e⟩
 rcases m with _ | ⟨x,l⟩
 · have:=h.zero rfl
   simp only at this
   simp [Dy.valid,this.1,this.2]
 · simp only [Dy.valid,Bool.and_eq_true,decide_eq_true_eq]
   refine ⟨⟨⟨h.len,?_⟩,?_⟩,?_⟩
   · have:=h.odd (by simp); simp only [natV] at this; omega
   · exact h.tr _ (List.getLast?_eq_some_getLast (by simp))
   · simp [Dy.inR,h.bits,h.elo,h.ehi,h.top]
theorem Dy.Ok.absN_ne {d:Dy} (h:d.Ok) (hm:d.m≠[]):d.absN≠0:=by
 unfold Dy.absN
 exact Nat.mul_ne_zero (qft h.tr hm) (Nat.ne_of_gt (Nat.two_pow_pos _))
theorem Dy.absN_nil {d:Dy} (hm:d.m=[]):d.absN=0:=by simp [Dy.absN,hm,natV]
theorem Dy.Ok.absN_bounds {d:Dy} (h:d.Ok) (hm:d.m≠[]):2^(d.top+16383).toNat≤d.absN∧d.absN<2^(d.top+16384).toNat:=by
 obtain ⟨h1,h2,h3⟩:=qa7 (qft h.tr hm)
 have he:=h.elo
 unfold Dy.top Dy.absN
 rw [if_neg hm]
 rw [show ((bitL (natV d.m):Int)+d.e+16383).toNat=(bitL (natV d.m)-1)+(d.e+16384).toNat by omega,show ((bitL (natV d.m):Int)+d.e+16384).toNat=bitL (natV d.m)+(d.e+16384).toNat by omega,Nat.pow_add,Nat.pow_add]
 exact ⟨Nat.mul_le_mul_right _ h1,Nat.mul_lt_mul_of_pos_right h2 (Nat.two_pow_pos _)⟩
theorem Dy.Ok.top_pos {d:Dy} (h:d.Ok) (hm:d.m≠[]):1≤d.top+16384:=by
 obtain ⟨_,_,h3⟩:=qa7 (qft h.tr hm)
 have:=h.elo
 unfold Dy.top; rw [if_neg hm]; omega
theorem qms {a b:Dy} (ha:a.Ok) (hb:b.Ok) (na:a.m≠[]) (nb:b.m≠[]) (h:a.top<b.top):a.absN<b.absN:=by
 have h1:=(ha.absN_bounds na).2
 have h2:=(hb.absN_bounds nb).1
 have h3:=ha.top_pos na
 have:2^(a.top+16384).toNat≤2^(b.top+16383).toNat:=Nat.pow_le_pow_right (by omega) (by omega)
 omega
theorem qhs {d:Dy} {e:Int} (h1:-16384≤e) (h2:e≤d.e):d.absN=natV d.m*2^(d.e-e).toNat*2^(e+16384).toNat:=by
 unfold Dy.absN
 rw [Nat.mul_assoc,← Nat.pow_add]
 congr 2; omega
theorem qxv {x y k:Nat} (hk:0<k):cmpN (x*k) (y*k)=cmpN x y:=by
 unfold cmpN
 simp only [Nat.mul_lt_mul_right hk]
theorem qafk {x y:Nat}:cmpI x y=cmpN x y:=by
 unfold cmpI cmpN; split<;>split<;>(try split)<;>omega
theorem qafj {x y:Nat}:cmpI (-(x:Int)) (-(y:Int))=- cmpN x y:=by
 unfold cmpI cmpN; repeat' split
 all_goals omega
theorem q8o {a b:Dy} (ha:a.Ok) (hb:b.Ok):cmpI a.val b.val=if a.sgn<b.sgn then -1 else if b.sgn<a.sgn then 1 else if a.sgn=0 then 0 else a.sgn*cmpN a.absN b.absN:=by
 have za:=ha.zero; have zb:=hb.zero
 by_cases na:a.m=[]
 · have h1:=Dy.absN_nil na
   have h2:=(za na).1
   by_cases nb:b.m=[]
   · have h3:=Dy.absN_nil nb
     simp [Dy.val,Dy.sgn,na,nb,h1,h3,cmpI]
   · have h3:=hb.absN_ne nb
     cases hn:b.neg<;>simp [Dy.val,Dy.sgn,na,nb,h1,h2,hn,cmpI]<;>omega
 · have h1:=ha.absN_ne na
   by_cases nb:b.m=[]
   · have h3:=Dy.absN_nil nb
     have h2:=(zb nb).1
     cases hn:a.neg<;>simp [Dy.val,Dy.sgn,na,nb,h3,h2,hn,cmpI]<;>omega
   · have h3:=hb.absN_ne nb
     cases hn:a.neg<;>cases hn2:b.neg<;>simp [Dy.val,Dy.sgn,na,nb,hn,hn2,qafk,qafj]<;>simp [cmpI]<;>omega
theorem qafr {a b:Dy} (ha:a.Ok) (hb:b.Ok) (na:a.m≠[]) (nb:b.m≠[]) (h:a.absN=b.absN):a.m=b.m∧a.e=b.e:=by
 have key:∀ {a b:Dy},a.Ok→b.Ok→a.m≠[]→b.m≠[]→a.absN=b.absN→¬ a.e<b.e:=by
   intro a b ha hb na nb h hlt
   have h1:=qhs (d:=b) (e:=a.e) ha.elo (by omega)
   unfold Dy.absN at h h1
   rw [h1] at h
   have h2:=Nat.eq_of_mul_eq_mul_right (Nat.two_pow_pos _) h
   have h3:=ha.odd na
   rw [h2,show (b.e-a.e).toNat=(b.e-a.e).toNat-1+1 by omega,Nat.pow_succ,← Nat.mul_assoc] at h3
   omega
 have he:a.e=b.e:=by
   have:=key ha hb na nb h
   have:=key hb ha nb na h.symm
   omega
 refine ⟨?_,he⟩
 unfold Dy.absN at h
 rw [he] at h
 exact qaeq ha.li hb.li ha.tr hb.tr (Nat.eq_of_mul_eq_mul_right (Nat.two_pow_pos _) h)
theorem qs5 {a b:Dy} (ha:a.Ok) (hb:b.Ok) (h:a.val=b.val):a=b:=by
 have za:=ha.zero; have zb:=hb.zero
 by_cases na:a.m=[]
 · by_cases nb:b.m=[]
   · obtain ⟨h1,h2⟩:=za na
     obtain ⟨h3,h4⟩:=zb nb
     cases a; cases b; simp_all
   · have h3:=hb.absN_ne nb
     have h1:=Dy.absN_nil na
     simp [Dy.val,h1] at h
     split at h<;>omega
 · have h1:=ha.absN_ne na
   by_cases nb:b.m=[]
   · have h3:=Dy.absN_nil nb
     simp [Dy.val,h3] at h
     split at h<;>omega
   · have h3:=hb.absN_ne nb
     have hab:a.absN=b.absN∧a.neg=b.neg:=by
       cases hn:a.neg<;>cases hn2:b.neg<;>simp [Dy.val,hn,hn2] at h ⊢<;>omega
     obtain ⟨h4,h5⟩:=qafr ha hb na nb hab.1
     cases a; cases b; simp_all
end Go.Abs.W
namespace Go.Abs.W
def Dy.cmp (a b:Dy):Int:=if a.valid&&b.valid then cmpI a.val b.val else 0
structure Dy.W (d:Dy):Prop where
 li:Li d.m
 len:d.m.length≤100000000
theorem Dy.Ok.w {d:Dy} (h:d.Ok):d.W:=⟨h.li,Nat.le_trans h.len (by omega)⟩
theorem qrc (d:Dy) (w:d.W):CQ prog qzo [d.v] (.int .i64 (if d.valid then d.sgn else 0)):=by
 refine qah rfl fun H=>?_
 simp
 refine qaa rfl rfl rfl (qfo d w.len w.li) ?_
 have e:(d.m=[])↔(d.m.length:Int)=0:=by simp
 simp [lim,Dy.sgn]
 grind
theorem qny (d:Dy) (w:d.W):CQ prog q1q [d.v] (.int .i64 (if d.valid then d.top else 0)):=by
 refine qah rfl fun H=>?_
 simp
 refine qaa rfl rfl rfl (qfo d w.len w.li) ?_
 have e:(d.m=[])↔(d.m.length:Int)=0:=by simp
 simp [lim,Dy.top]
 refine ⟨fun h=>by simp [h],fun h=>?_⟩
 have ok:=Dy.Ok.of w.li h
 refine ⟨fun h1 _ h2=>absurd h1 h2,fun hm=>?_⟩
 refine qaa rfl rfl rfl (q9k d.m w.len w.li) ?_
 have e1:IntKind.i64.wrap ((bitL (natV d.m):Int)+d.e)=bitL (natV d.m)+d.e:=by
   have:=ok.bits; have:=ok.elo; have:=ok.ehi
   rw [wrap_i64]<;>omega
 simp [h,hm,e1]
theorem qagh {a:List Nat} {n B:Nat} (h:natV a*2^n<2^B) (hB:B≤8192):natV (shN a n)=natV a*2^n:=by
 have:(qae (natV a*2^n)).length≤256:=qdt h (by omega)
 unfold shN; rw [if_neg (by omega),qac]
theorem qagi {a:List Nat} {n:Nat}:Li (shN a n):=by
 unfold shN; split
 · intro x hx; simp at hx
 · exact qag _
theorem q9o {a:List Nat} {n:Nat}:(shN a n).length≤256:=by
 unfold shN; split
 · simp
 · omega
set_option maxHeartbeats 1000000 in
theorem q77 (a b:Dy) (oa:a.Ok) (ob:b.Ok) (na:a.m≠[]) (nb:b.m≠[]):CQ prog qsj [a.v,b.v] (.int .i64 (cmpN a.absN b.absN)):=by
 refine qah rfl fun H=>?_
 have va:=oa.valid
 have vb:=ob.valid
 simp
 refine qaa rfl rfl rfl (qny a oa.w) ?_
 simp
 refine qaa rfl rfl rfl (qny b ob.w) ?_
 simp [va,vb]
 refine ⟨fun h=>?_,fun h=>⟨fun h2=>?_,fun h2=>?_⟩⟩
 · have:=qms oa ob na nb h
   simp [cmpN,this]
 · have:=qms ob oa nb na h2
   have h3:¬ a.absN<b.absN:=by omega
   simp [cmpN,this,h3]
 · have ht:a.top=b.top:=by omega
   obtain ⟨e,he⟩:∃ e,e=min a.e b.e:=⟨_,rfl⟩
   have he':(if b.e<a.e then b.e else a.e)=e:=by rw [he]; split<;>omega
   have h3:=oa.elo; have h4:=oa.ehi; have h5:=ob.elo; have h6:=ob.ehi
   have h7:=oa.bits; have h8:=ob.bits
   obtain ⟨i,hi⟩:∃ i,i=(a.e-e).toNat:=⟨_,rfl⟩
   obtain ⟨j,hj⟩:∃ j,j=(b.e-e).toNat:=⟨_,rfl⟩
   have f1:IntKind.i64.wrap (a.e-e)=i:=by rw [wrap_i64]<;>omega
   have f2:IntKind.i64.wrap (b.e-e)=j:=by rw [wrap_i64]<;>omega
   simp [he',f1]
   refine qaa rfl rfl rfl (qw1 a.m i oa.len oa.li (by omega)) ?_
   simp [f2]
   refine qaa rfl rfl rfl (qw1 b.m j ob.len ob.li (by omega)) ?_
   simp
   refine qaa rfl rfl rfl (qqj _ _ (by have:=q9o (a:=a.m) (n:=i); omega) (by have:=q9o (a:=b.m) (n:=j); omega) qagi qagi) ?_
   have key:∀ {d:Dy} {k:Nat},d.Ok→d.m≠[]→natV d.m*2^k<2^(bitL (natV d.m)+k):=by
     intro d k od nd
     have:=(qa7 (qft od.tr nd)).2.1
     rw [Nat.pow_add]
     exact Nat.mul_lt_mul_of_pos_right this (Nat.two_pow_pos k)
   unfold Dy.top at ht
   rw [if_neg na,if_neg nb] at ht
   rw [qagh (key oa na) (by omega),qagh (key ob nb) (by omega)]
   rw [qhs (d:=a) (e:=e) (by omega) (by omega),qhs (d:=b) (e:=e) (by omega) (by omega),← hi,← hj,qxv (Nat.two_pow_pos _)]
   simp [i64]
set_option maxHeartbeats 1000000 in
theorem qmv (a b:Dy) (wa:a.W) (wb:b.W):CQ prog q1s [a.v,b.v] (.int .i64 (a.cmp b)):=by
 refine qah rfl fun H=>?_
 simp
 refine qaa rfl rfl rfl (qfo a wa.len wa.li) ?_
 simp
 refine ⟨fun h1=>by simp [Dy.cmp,h1],fun h1=>?_⟩
 refine qaa rfl rfl rfl (qfo b wb.len wb.li) ?_
 simp
 refine ⟨fun h2=>by simp [Dy.cmp,h2],fun h2=>?_⟩
 refine qaa rfl rfl rfl (qrc a wa) ?_
 simp
 refine qaa rfl rfl rfl (qrc b wb) ?_
 have oa:=Dy.Ok.of wa.li h1
 have ob:=Dy.Ok.of wb.li h2
 simp [h1,h2,Dy.cmp,q8o oa ob]
 refine ⟨fun h3=>by grind,fun h3=>⟨fun h4=>?_,fun h4=>?_⟩⟩
 · have e1:¬ a.sgn<b.sgn:=by omega
   simp [e1,h4]
 have e1:¬ a.sgn<b.sgn:=by omega
 have e2:¬ b.sgn<a.sgn:=by omega
 simp [e1,e2]
 refine ⟨fun h5=>by simp [h5],fun h5=>?_⟩
 have na:a.m≠[]:=fun h=>h5 (by simp [Dy.sgn,h])
 have nb:b.m≠[]:=fun h=>by
   have:b.sgn=0:=by simp [Dy.sgn,h]
   omega
 refine qaa rfl rfl rfl (q77 a b oa ob na nb) ?_
 have e3:IntKind.i64.wrap (a.sgn*cmpN a.absN b.absN)=a.sgn*cmpN a.absN b.absN:=by
   have h6:a.sgn=1∨a.sgn=-1:=by unfold Dy.sgn; rw [if_neg na]; split<;>simp
   have h7:cmpN a.absN b.absN=1∨cmpN a.absN b.absN=-1∨cmpN a.absN b.absN=0:=by unfold cmpN; split<;>(try split)<;>simp
   rcases h6 with h6 | h6<;>rcases h7 with h7 | h7 | h7<;>rw [h6,h7]<;>decide
 simp [e3,h5]
end Go.Abs.W
namespace Go.Abs.W
structure Out (H0 H:Heap) (v:V) (z:Nat) (l:List V):Prop where
 pre:H0 <+: H
 val:(l=[]∧v=.nil)∨∃ b blk,H0.length≤b∧v=.ref b z 0 l.length∧H[b]?=some (some ⟨z,blk,true,true⟩)∧blk.take l.length=l∧l.length≤blk.length
theorem Out.nil {H:Heap} {z:Nat}:Out H H .nil z []:=⟨List.prefix_refl _,.inl ⟨rfl,rfl⟩⟩
theorem Out.grow {H0 H:Heap} {v:V} {z:Nat} {l:List V} (h:Out H0 H v z l) (t:Heap):Out H0 (H++t) v z l:=by
 refine ⟨qox h.pre,?_⟩
 rcases h.val with h1 | ⟨b,blk,h1,h2,h3,h4⟩
 · exact .inl h1
 · exact .inr ⟨b,blk,h1,h2,by rw [List.getElem?_append_left (List.getElem?_eq_some_iff.1 h3).1]; exact h3,h4⟩
theorem qw9 {H0 H:Heap} {b:Nat} {x:Option Blk} (h:H0 <+: H) (hb:H0.length≤b):H0 <+: H.set b x:=by
 obtain ⟨t,rfl⟩:=h
 rw [List.set_append_right _ _ hb]
 exact List.prefix_append _ _
theorem Out.app {H0 H:Heap} {v y:V} {z bytes:Nat} {l ys:List V} (h:Out H0 H v z l) (hy:elems H y=some ys) (hz:qdk z ys=true) (hn:ys≠[]) (hb:(l.length+ys.length)*bytes≤140737488355328) :
   ∃ v' H',qed z bytes v y H=some (v',H')∧Out H0 H' v' z (l++ys):=by
 unfold qed
 rw [hy]
 simp only [Option.bind_some,hz,if_true]
 rcases h.val with ⟨h1,h2⟩ | ⟨b,blk,h1,h2,h3,h4,h5⟩
 · subst h1; subst h2
   have:qbu ys.length bytes=true:=by simp [qbu]; simpa using hb
   simp only [hn,if_false,this,if_true]
   refine ⟨_,_,rfl,qox h.pre,.inr ⟨H.length,ys,h.pre.length_le,by simp,by simp,by simp,by simp⟩⟩
 · subst h2
   have:qbu (l.length+ys.length) bytes=true:=by simp [qbu]; simpa using hb
   simp only [h3,hn,if_false,this]
   simp only [Nat.zero_add,h5,and_self,if_true,List.drop_zero,h4]
   refine ⟨_,_,rfl,qox (qw9 h.pre h1),.inr ⟨H.length,l++ys,h.pre.length_le,by simp,?_,by rw [List.take_of_length_le]; simp,by simp⟩⟩
   rw [List.getElem?_append_right (by simp)]; simp
theorem Out.frz {H0 H:Heap} {v:V} {z:Nat} {l:List V} (h:Out H0 H v z l):∃ H',H0 <+: H'∧frzC H v=some (.sl l,H')∧qdd H v=some (.sl l,H'):=by
 rcases h.val with ⟨h1,h2⟩ | ⟨b,blk,h1,h2,h3,h4,h5⟩
 · subst h1; subst h2; exact ⟨H,h.pre,rfl,rfl⟩
 · subst h2
   refine ⟨H.set b (some ⟨z,blk,true,false⟩),qw9 h.pre h1,?_,?_⟩
   · simp [h3,h4,h5]
   · simp [h3,h4,h5]
theorem Out.fin {H0 H1 H:Heap} {v:V} {z:Nat} {l:List V} (h:Out H0 H v z l) (hp:H1 <+: H0):Go.Abs.fin false H1.length H v=some (.sl l,H1):=by
 obtain ⟨H',h1,h2,h3⟩:=h.frz
 have:Go.Abs.fin false H1.length H v=(qdd H v).bind fun (v',H1')=>some (v',H1'.take H1.length):=by
   rcases h.val with ⟨_,e⟩ | ⟨b,blk,_,e,_⟩<;>subst e<;>rfl
 rw [this,h3]
 simp [qdq (hp.trans h1)]
theorem Out.prep {H0 H:Heap} {v:V} {z g:Nat} {l:List V} (h:Out H0 H v z l) (hg:(prog.fn g).elim true (fun f=>!f.raw)=true):∃ H',H0 <+: H'∧prep prog g H [v]=some ([.sl l],H'):=by
 obtain ⟨H',h1,h2,h3⟩:=h.frz
 refine ⟨H',h1,?_⟩
 have e:frzVs H [v]=some ([.sl l],H'):=by
   have:frzV H v=frzC H v:=by
     rcases h.val with ⟨_,e⟩ | ⟨b,blk,_,e,_⟩<;>subst e<;>rfl
   simp [frzVs,this,h2]
 unfold Go.Abs.prep
 cases hq:prog.fn g with
 | none=>exact e
 | some f =>
   rw [hq] at hg
   simp at hg
   simp [hg,e]
end Go.Abs.W
namespace Go.Abs.W
theorem q2o {k:Nat} (h:k≠0):bitL k=bitL (k/2)+1:=by
 by_cases h1:k=1
 · subst h1; decide
 · have:=qhr (n:=k) (k:=1) (by omega)
   simpa using this
set_option maxHeartbeats 1000000 in
theorem qn5 (l:List Nat) (hl:l.length≤1000000000):CQ prog qda [lim l] (lim (trimL l)):=by
 refine qah rfl fun H=>?_
 simp [lim]
 refine qbp (fun k E H'=>H'=H∧E 0=lim l∧k≤l.length∧E 3=.int .i64 k∧trimN l k=trimN l l.length) l.length ?_ ?_
 · simp [lim]
 · rintro n E H' ⟨rfl,h0,hn,h3,ht⟩
   refine qal ?_
   simp only [lim] at h0
   have hlim:∀ k,k≤l.length→k*4≤140737488355328:=by omega
   have fin':∀ k,k=trimN l l.length→k≤l.length→(List.take k (List.map u32 l))=List.map u32 (trimL l):=by
     intro k hk _; rw [trimL,hk,List.map_take]
   rcases n with _ | n
   · have ft:=fin' 0 (by rw [← ht]; rfl) (by omega)
     simp [qdz,h0,h3,qed,← ft]
   · have e1:IntKind.i64.wrap (n:Int)=n:=by rw [wrap_i64]<;>omega
     have hlt:n<l.length:=by omega
     have p1:(0:Int)≤(n:Int)+1:=by omega
     have p2:(0:Int)<(n:Int)+1:=by omega
     by_cases hx:l[n]=0
     · simp [qdz,h0,h3,e1,hlt,hx,u32,p2]
       refine ⟨n,by omega,rfl,by omega,rfl,?_⟩
       rw [← ht,trimN,if_pos (by rw [List.getElem?_eq_getElem hlt,hx])]
     · have hx':¬ ((l[n]:Int)=0):=by omega
       have ft:=fin' (n+1) (by rw [← ht,trimN,if_neg (by rw [List.getElem?_eq_getElem hlt]; simpa using hx)]) (by omega)
       have f8:=hlim (n+1) (by omega)
       have hne:l≠[]:=by intro h; rw [h] at hlt; simp at hlt
       have hhd:qdk 1 (List.take (n+1) (List.map u32 l))=true:=by
         cases l with
         | nil=>exact absurd rfl hne
         | cons x l=>simp [qdk]
       obtain ⟨ys,hys⟩:∃ ys,ys=List.take (n+1) (List.map u32 l):=⟨_,rfl⟩
       rw [← hys] at hhd ft
       have hyl:ys.length=n+1:=by rw [hys]; simp; omega
       have hyn:ys≠[]:=by intro h; rw [h] at hyl; simp at hyl
       simp only [qdk] at hhd
       simp [qdz,h0,h3,e1,hlt,hx,u32,p1,p2,hn,qed,← hys]
       rw [if_pos hhd]
       simp [hyl,f8,hyn]
       rw [← ft,List.take_of_length_le (by omega)]
theorem q94:CQ prog qju [lim []] (.int .i64 0):=by
 refine qah rfl fun H=>?_
 simp [lim]
set_option maxHeartbeats 1000000 in
theorem qaeg (l:List Nat) (t:Nat) (hl:l.length≤1000000) (ht:t<4294967296):CQ prog qju [lim (l++[t])] (.int .i64 ((32*l.length+bitL t:Nat))):=by
 refine qah rfl fun H=>?_
 have e2:IntKind.i64.wrap (l.length:Int)=l.length:=by rw [wrap_i64]<;>omega
 have e3:IntKind.i64.wrap (32*(l.length:Int))=32*l.length:=by rw [wrap_i64]<;>omega
 have e4:¬ ((l.length:Int)+1=0):=by omega
 simp [lim,e2,e3,e4,u32]
 have hb:=qra ht
 refine qbp (fun k E H'=>H'=H∧E 4=.int .u32 k∧k≤t∧bitL k≤bitL t∧E 3=.int .i64 ((32*l.length+(bitL t-bitL k):Nat))) t ?_ ?_
 · simp
 · rintro k E H' ⟨rfl,h4,hk,hbk,h3⟩
   refine qal ?_
   rcases Nat.eq_zero_or_pos k with rfl | hp
   · simp [qf2,h4,h3,bitL]
   · have f1:qa2 .shr .u32 (k:Int) 1=some (.int .u32 ((k/2:Nat):Int)):=by have:=shr32 k 1 (by omega); simpa using this
     obtain ⟨j,hj⟩:∃ j,j=k/2:=⟨_,rfl⟩
     have hh:=q2o (k:=k) (by omega)
     rw [← hj] at f1 hh
     obtain ⟨c,hc⟩:∃ c,c=32*l.length+(bitL t-bitL k):=⟨_,rfl⟩
     rw [← hc] at h3
     have f2:IntKind.i64.wrap ((c:Int)+1)=((32*l.length+(bitL t-bitL j):Nat):Int):=by rw [wrap_i64]<;>omega
     simp [qf2,h4,h3,hp,f1,f2]
     exact ⟨j,by omega,rfl,by omega,by omega,rfl⟩
set_option maxHeartbeats 1000000 in
theorem qtj (x y:List Nat) (ha:x.length≤9223372036854775807) (lx:Li x) (ly:Li y) (ht:x.length=y.length∨(Trim x∧Trim y)):CQ prog qqx [lim x,lim y] (.int .i64 (cmpN (natV x) (natV y))):=by
 refine qah rfl fun H=>?_
 by_cases hlt:x.length<y.length
 · have h1:¬ ((x.length:Int)=(y.length:Int)):=by omega
   have h2:=qeg lx (by rcases ht with h | h; omega; exact h.2) hlt
   simp [lim,hlt,h1,cmpN,h2]
 · by_cases hgt:y.length<x.length
   · have h1:¬ ((x.length:Int)=(y.length:Int)):=by omega
     have h2:=qeg ly (by rcases ht with h | h; omega; exact h.1) hgt
     have h3:¬ natV x<natV y:=by omega
     simp [lim,hlt,h1,cmpN,h2,h3]
   · have heq:x.length=y.length:=by omega
     simp [lim,heq]
     refine qbp (fun k E H'=>H'=H∧E 0=lim x∧E 1=lim y∧k≤x.length∧E 5=.int .i64 ((k:Int)-1)∧x.drop k=y.drop k) x.length ?_ ?_
     · have e1:IntKind.i64.wrap ((y.length:Int)-1)=(y.length:Int)-1:=by rw [wrap_i64]<;>omega
       have e2:y.drop x.length=[]:=by rw [heq]; exact List.drop_length
       simp [lim,e1,heq]
     · rintro n E H' ⟨rfl,h0,h1,hn,h5,hd⟩
       refine qal ?_
       simp only [lim] at h0 h1
       rcases n with _ | n
       · have e1:x=y:=by simpa using hd
         have e2:¬ ((0:Int)≤-1):=by omega
         simp [qbx,h5,e1,cmpN]
       · have e1:(n+1:Int)-1=n:=by omega
         have hx:n<x.length:=by omega
         have hy:n<y.length:=by omega
         have p1:((0:Int)≤n):=by omega
         by_cases hlt:x[n]<y[n]
         · have h2:=qf9 lx hx hy hd hlt
           simp [qbx,h0,h1,h5,e1,p1,hx,hy,u32,hlt,cmpN,h2]
         · by_cases hgt:y[n]<x[n]
           · have h2:=qf9 ly hy hx hd.symm hgt
             have h3:¬ natV x<natV y:=by omega
             simp [qbx,h0,h1,h5,e1,p1,hx,hy,u32,hlt,hgt,cmpN,h2,h3]
           · have e2:IntKind.i64.wrap ((n:Int)-1)=(n:Int)-1:=by rw [wrap_i64]<;>omega
             simp [qbx,h0,h1,h5,e1,p1,hx,hy,u32,hlt,hgt,e2]
             refine ⟨n,by omega,rfl,rfl,by omega,rfl,?_⟩
             rw [List.drop_eq_getElem_cons hx,List.drop_eq_getElem_cons hy,hd]
             congr 1
             omega
theorem qacb {a b:Nat}:cmpN a b=0↔a=b:=by unfold cmpN; split<;>(try split)<;>omega
end Go.Abs.W
namespace Go.Abs.W
theorem Out.one {H0 H:Heap} {v:V} {l:List Nat} (h:Out H0 H v 1 (l.map u32)) (x:Nat) (hb:l.length+1≤1000000000) :
   ∃ v' H',qed 1 4 v (.ref H.length 1 0 1) (H++[some ⟨1,[.int .u32 x],true,true⟩])=some (v',H')∧Out H0 H' v' 1 ((l++[x]).map u32):=by
 have:=(h.grow [some ⟨1,[.int .u32 x],true,true⟩]).app (y:=.ref H.length 1 0 1) (ys:=[.int .u32 x]) (bytes:=4) (by simp) (by simp) (by simp) (by simp; omega)
 simpa [u32] using this
set_option maxHeartbeats 2000000 in
theorem qaa4 (x:List Nat) (n:Nat) (hx:x.length≤1000000) (lx:Li x) (hn:n≤10000000):CQ prog qwg [lim x,.int .i64 n] (lim (qae (natV x*2^n))):=by
 refine qah rfl fun H=>?_
 obtain ⟨q,hq⟩:∃ q,q=n/32:=⟨_,rfl⟩
 obtain ⟨s,hs⟩:∃ s,s=n%32:=⟨_,rfl⟩
 have q1:(n:Int)/32=q:=by omega
 have s1:(n:Int).tmod 32=s:=by rw [Int.tmod_eq_emod_of_nonneg (by omega)]; omega
 have hs32:s<32:=by omega
 have e1:IntKind.i64.wrap (q:Int)=q:=by rw [wrap_i64]<;>omega
 have e6:q*4≤281474976710656∧q≤9223372036854775807:=by omega
 have e7:IntKind.u64.wrap (s:Int)=s:=qai _ (by omega)
 simp [lim,q1,e1,e6]
 refine WK_up (fun i E H'=>E 0=lim x∧E 1=.int .i64 n∧E 7=.int .i64 i∧∃ c o,c<2^s∧E 6=.int .u64 (c:Nat)∧Out H H' (E 5) 1 (o.map u32)∧o.length=q+i∧Li o ∧
     o++shlGo s c (x.drop i)=List.replicate q 0++shlGo s 0 x) x.length ?_ ?_
 · simp [lim]
   refine ⟨0,Nat.two_pow_pos s,rfl,List.replicate q 0,⟨by simp,.inr ⟨H.length,List.replicate q (V.int IntKind.u32 0),by simp,by simp,by simp,by simp [u32],by simp⟩⟩,by simp,?_,rfl⟩
   intro y hy
   rw [(List.mem_replicate.1 hy).2]; omega
 · rintro i E H' hi ⟨h0,h1,h7,c,o,hc,h6,h5,ho,lo,ht⟩
   simp only [lim] at h0
   rcases Nat.lt_or_ge i x.length with hlt | hge
   · have f1:IntKind.i64.wrap ((i:Int)+1)=((i+1:Nat):Int):=by rw [wrap_i64]<;>omega
     have lxi:x[i]<4294967296:=lx _ (List.getElem_mem hlt)
     have f3:IntKind.u64.wrap (x[i]:Int)=x[i]:=qai _ (by omega)
     obtain ⟨g1,g2⟩:=qyd hs32 lxi hc
     rw [List.drop_eq_getElem_cons hlt,shlGo] at ht
     obtain ⟨P,hP⟩:∃ P,P=x[i]*2^s:=⟨_,rfl⟩
     have f4:qa2 .shl .u64 (x[i]:Int) (s:Int)=some (.int .u64 (P:Int)):=by rw [shl64 _ _ (by omega) (by omega),hP]
     have f5:bitsI .or .u64 (P:Int) (c:Int)=some ((P+c:Nat):Int):=by rw [hP]; exact qdo _ _ _ (by omega) hc (by omega)
     rw [← hP] at g1 g2 ht
     obtain ⟨T,hT⟩:∃ T,T=P+c:=⟨_,rfl⟩
     rw [← hT] at f5 g1 g2 ht
     have f6:bitsI .and .u64 (T:Int) 4294967295=some ((T%4294967296:Nat):Int):=qb4 T (by omega)
     have f7:qa2 .shr .u64 (T:Int) 32=some (.int .u64 ((T/4294967296:Nat):Int)):=shr64 T 32 (by omega)
     obtain ⟨L,hL⟩:∃ L,L=T%4294967296:=⟨_,rfl⟩
     obtain ⟨C,hC⟩:∃ C,C=T/4294967296:=⟨_,rfl⟩
     rw [← hL] at f6 ht
     rw [← hC] at f7 ht g2
     have f8:IntKind.u32.wrap (L:Int)=L:=qap _ (by omega)
     obtain ⟨v',H'',e',ho'⟩:=h5.one L (by omega)
     simp [qf0,h0,h1,h6,h7,hlt,u32,f1,s1,f3,f4,f5,f6,f7,f8,e7,e',lim]
     exact ⟨C,g2,rfl,o++[L],ho',by simp; omega,lo.append (by intro y hy; simp at hy; omega),by simpa using ht⟩
   · have hin:i=x.length:=by omega
     subst hin
     have g1:2^s≤2^31:=Nat.pow_le_pow_right (by omega) (by omega)
     have f6:IntKind.u32.wrap (c:Int)=c:=qap c (by omega)
     obtain ⟨v',H'',e',ho'⟩:=h5.one c (by omega)
     simp [qf0,h0,h6,h7,f6,e']
     obtain ⟨H3,hp3,e3⟩:=ho'.prep (g:=qda) rfl
     refine qar rfl rfl e3 (qn5 (o++[c]) (by simp; omega)) ?_
     have hv:natV (o++[c])=natV x*2^n:=by
       simp [shlGo] at ht
       have:c%4294967296=c:=by omega
       rw [this] at ht
       rw [ht,qb7,qfs,List.length_replicate,qta hs32 lx (Nat.two_pow_pos _),pow32,Nat.zero_add,Nat.add_zero,Nat.mul_left_comm,← Nat.pow_add,hq,hs,Nat.div_add_mod]
     rw [qak (lo.append (by intro y hy; simp at hy; omega)),hv]
     simp [qdq hp3,lim]
end Go.Abs.W
namespace Go.Abs.W
def dig (l:List Nat) (i:Nat):Nat:=(l[i]?).getD 0
theorem qbg {l:List Nat} (h:Li l) (i:Nat):dig l i<4294967296:=by
 unfold dig
 cases hq:l[i]? with
 | none=>simp
 | some x=>exact h x (List.mem_of_getElem? hq)
theorem qaw {l:List Nat} {i:Nat} (h:i<l.length):dig l i=l[i]:=by simp [dig,h]
theorem qfw {l:List Nat} {i:Nat} (h:l.length≤i):dig l i=0:=by simp [dig,h]
theorem qao (l:List Nat) (i:Nat):natV (l.take (i+1))=natV (l.take i)+4294967296^i*dig l i:=by
 rcases Nat.lt_or_ge i l.length with h | h
 · rw [List.take_add_one,List.getElem?_eq_getElem h,qaw h,qb7,List.length_take,Nat.min_eq_left (by omega)]
   simp [natV]
 · rw [List.take_of_length_le (by omega),List.take_of_length_le h,qfw h]; simp
theorem qam {l:List Nat} {i:Nat} (h:l.length≤i):natV (l.take i)=natV l:=by rw [List.take_of_length_le h]
theorem q03 {o a b:List Nat} {i c T:Nat} (ho:o.length=i) (h:natV o+4294967296^i*c=natV (a.take i)+natV (b.take i)) (hT:T=c+dig a i+dig b i) :
   natV (o++[T%4294967296])+4294967296^(i+1)*(T/4294967296)=natV (a.take (i+1))+natV (b.take (i+1)):=by
 rw [qao,qao,qjg,ho,Nat.pow_succ,Nat.mul_assoc]
 have:4294967296^i*(T%4294967296)+4294967296^i*(4294967296*(T/4294967296))=4294967296^i*c+4294967296^i*dig a i+4294967296^i*dig b i:=by
   rw [← Nat.mul_add,Nat.mod_add_div,hT,Nat.mul_add,Nat.mul_add]
 omega
set_option maxHeartbeats 4000000 in
theorem qaiq (a b:List Nat) (ha:a.length≤1000000) (hb:b.length≤1000000) (la:Li a) (lb:Li b):CQ prog qwf [lim a,lim b] (lim (qae (natV a+natV b))):=by
 refine qah rfl fun H=>?_
 simp [lim]
 refine WK_up (fun i E H'=>E 0=lim a∧E 1=lim b∧E 7=.int .i64 i∧∃ c o,c<2∧E 6=.int .u64 (c:Nat)∧Out H H' (E 5) 1 (o.map u32)∧o.length=i∧Li o ∧
     natV o+4294967296^i*c=natV (a.take i)+natV (b.take i)) (max a.length b.length) ?_ ?_
 · simp [lim]
   exact ⟨0,by omega,rfl,[],.nil,rfl,by intro x hx; simp at hx,by simp [natV]⟩
 · rintro i E H' hi ⟨h0,h1,h7,c,o,hc,h6,h5,ho,lo,ht⟩
   simp only [lim] at h0 h1
   obtain ⟨T,hT⟩:∃ T,T=c+dig a i+dig b i:=⟨_,rfl⟩
   have da:=qbg la i
   have db:=qbg lb i
   have st:=q03 ho ht hT
   obtain ⟨L,hL⟩:∃ L,L=T%4294967296:=⟨_,rfl⟩
   obtain ⟨C,hC⟩:∃ C,C=T/4294967296:=⟨_,rfl⟩
   have f6:bitsI .and .u64 (T:Int) 4294967295=some ((T%4294967296:Nat):Int):=qb4 T (by omega)
   have f7:qa2 .shr .u64 (T:Int) 32=some (.int .u64 ((T/4294967296:Nat):Int)):=shr64 T 32 (by omega)
   rw [← hL] at f6 st
   rw [← hC] at f7 st
   have f8:IntKind.u32.wrap (L:Int)=L:=qap _ (by omega)
   obtain ⟨v',H'',e',ho'⟩:=h5.one L (by omega)
   have f1:IntKind.i64.wrap ((i:Int)+1)=((i+1:Nat):Int):=by rw [wrap_i64]<;>omega
   have go:i<max a.length b.length→∃ c,c<2∧(C:Int)=(c:Nat)∧∃ o,Out H H'' v' 1 (List.map u32 o)∧o.length=i+1∧Li o∧natV o+4294967296^(i+1)*c=natV (a.take (i+1))+natV (b.take (i+1)) :=
     fun _=>⟨C,by omega,rfl,o++[L],ho',by simp; omega,lo.append (by intro y hy; simp at hy; omega),st⟩
   rcases Nat.lt_or_ge i a.length with h2 | h2<;>rcases Nat.lt_or_ge i b.length with h3 | h3
   · have t1:IntKind.u64.wrap (a[i]:Int)=a[i]:=qai _ (by rw [qaw h2] at da; omega)
     have t2:IntKind.u64.wrap (b[i]:Int)=b[i]:=qai _ (by rw [qaw h3] at db; omega)
     have t3:IntKind.u64.wrap ((c:Int)+a[i])=(c:Int)+a[i]:=by rw [qaw h2] at da; rw [qaz]<;>omega
     have t4:IntKind.u64.wrap ((c:Int)+a[i]+b[i])=T:=by rw [hT,qaw h2,qaw h3]; rw [qaw h2] at da; rw [qaw h3] at db; rw [qaz]<;>omega
     simp [qcs,h0,h1,h6,h7,h2,h3,u32,t1,t2,t3,t4,f1,f6,f7,f8,e',lim]
     exact ⟨by omega,go (by omega)⟩
   · have t1:IntKind.u64.wrap (a[i]:Int)=a[i]:=qai _ (by rw [qaw h2] at da; omega)
     have t3:IntKind.u64.wrap ((c:Int)+a[i])=T:=by rw [hT,qaw h2,qfw h3]; rw [qaw h2] at da; rw [qaz]<;>omega
     have h3':¬ i<b.length:=by omega
     simp [qcs,h0,h1,h6,h7,h2,h3',u32,t1,t3,f1,f6,f7,f8,e',lim]
     exact ⟨by omega,go (by omega)⟩
   · have t2:IntKind.u64.wrap (b[i]:Int)=b[i]:=qai _ (by rw [qaw h3] at db; omega)
     have t4:IntKind.u64.wrap ((c:Int)+b[i])=T:=by rw [hT,qfw h2,qaw h3]; rw [qaw h3] at db; rw [qaz]<;>omega
     have h2':¬ i<a.length:=by omega
     simp [qcs,h0,h1,h6,h7,h2',h3,u32,t2,t4,f1,f6,f7,f8,e',lim]
     exact ⟨by omega,go (by omega)⟩
   · have h2':¬ i<a.length:=by omega
     have h3':¬ i<b.length:=by omega
     have k6:IntKind.u32.wrap (c:Int)=c:=qap c (by omega)
     obtain ⟨v',H'',e',ho'⟩:=h5.one c (by omega)
     simp [qcs,h0,h1,h6,h7,h2',h3',k6,e']
     obtain ⟨H3,hp3,e3⟩:=ho'.prep (g:=qda) rfl
     refine qar rfl rfl e3 (qn5 (o++[c]) (by simp; omega)) ?_
     rw [qak (lo.append (by intro y hy; simp at hy; omega)),qjg,ho,ht,qam h2,qam h3]
     simp [qdq hp3,lim]
theorem qxg {o a b:List Nat} {i c T:Nat} (ho:o.length=i) (h:natV o+natV (b.take i)=natV (a.take i)+4294967296^i*c) (hc:c<2) (da:dig a i<4294967296) (db:dig b i<4294967296) (hT:T+(c+dig b i)=dig a i+4294967296) :
   natV (o++[T%4294967296])+natV (b.take (i+1))=natV (a.take (i+1))+4294967296^(i+1)*(1-T/4294967296)∧T/4294967296≤1:=by
 have hT2:T/4294967296≤1:=by omega
 refine ⟨?_,hT2⟩
 rw [qao,qao,qjg,ho,Nat.pow_succ,Nat.mul_assoc]
 have:4294967296^i*(T%4294967296)+4294967296^i*(c+dig b i)=4294967296^i*dig a i+4294967296^i*(4294967296*(1-T/4294967296)):=by
   rw [← Nat.mul_add,← Nat.mul_add]
   congr 1; omega
 rw [Nat.mul_add] at this
 omega
set_option maxHeartbeats 4000000 in
theorem q5t (a b:List Nat) (ha:a.length≤1000000) (hb:b.length≤a.length) (la:Li a) (lb:Li b) (hle:natV b≤natV a):CQ prog quv [lim a,lim b] (lim (qae (natV a-natV b))):=by
 refine qah rfl fun H=>?_
 simp [lim]
 refine WK_up (fun i E H'=>E 0=lim a∧E 1=lim b∧E 7=.int .i64 i∧∃ c o,c<2∧E 6=.int .u64 (c:Nat)∧Out H H' (E 5) 1 (o.map u32)∧o.length=i∧Li o ∧
     natV o+natV (b.take i)=natV (a.take i)+4294967296^i*c) a.length ?_ ?_
 · simp [lim]
   exact ⟨0,by omega,rfl,[],.nil,rfl,by intro x hx; simp at hx,by simp [natV]⟩
 · rintro i E H' hi ⟨h0,h1,h7,c,o,hc,h6,h5,ho,lo,ht⟩
   simp only [lim] at h0 h1
   rcases Nat.lt_or_ge i a.length with h2 | h2
   · have da:=qbg la i
     have db:=qbg lb i
     obtain ⟨T,hT⟩:∃ T,T=dig a i+4294967296-(c+dig b i):=⟨_,rfl⟩
     have hT':T+(c+dig b i)=dig a i+4294967296:=by omega
     obtain ⟨st,hC1⟩:=qxg ho ht hc da db hT'
     obtain ⟨L,hL⟩:∃ L,L=T%4294967296:=⟨_,rfl⟩
     obtain ⟨C,hC⟩:∃ C,C=T/4294967296:=⟨_,rfl⟩
     have f6:bitsI .and .u64 (T:Int) 4294967295=some ((T%4294967296:Nat):Int):=qb4 T (by omega)
     have f7:qa2 .shr .u64 (T:Int) 32=some (.int .u64 ((T/4294967296:Nat):Int)):=shr64 T 32 (by omega)
     rw [← hL] at f6 st
     rw [← hC] at f7 st hC1
     have f8:IntKind.u32.wrap (L:Int)=L:=qap _ (by omega)
     have f9:IntKind.u64.wrap (1-(C:Int))=((1-C:Nat):Int):=by rw [qaz]<;>omega
     obtain ⟨D,hD⟩:∃ D,D=1-C:=⟨_,rfl⟩
     rw [← hD] at f9 st
     obtain ⟨v',H'',e',ho'⟩:=h5.one L (by omega)
     have f1:IntKind.i64.wrap ((i:Int)+1)=((i+1:Nat):Int):=by rw [wrap_i64]<;>omega
     have go:∃ c,c<2∧(D:Int)=(c:Nat)∧∃ o,Out H H'' v' 1 (List.map u32 o)∧o.length=i+1∧Li o∧natV o+natV (b.take (i+1))=natV (a.take (i+1))+4294967296^(i+1)*c :=
       ⟨D,by omega,rfl,o++[L],ho',by simp; omega,lo.append (by intro y hy; simp at hy; omega),st⟩
     rw [qaw h2] at da hT'
     have t1:IntKind.u64.wrap (a[i]:Int)=a[i]:=qai _ (by omega)
     have t2:IntKind.u64.wrap ((a[i]:Int)+4294967296)=(a[i]:Int)+4294967296:=by rw [qaz]<;>omega
     rcases Nat.lt_or_ge i b.length with h3 | h3
     · rw [qaw h3] at db hT'
       have t3:IntKind.u64.wrap (b[i]:Int)=b[i]:=qai _ (by omega)
       have t4:IntKind.u64.wrap ((c:Int)+b[i])=(c:Int)+b[i]:=by rw [qaz]<;>omega
       have t5:IntKind.u64.wrap ((a[i]:Int)+4294967296-((c:Int)+b[i]))=T:=by rw [qaz]<;>omega
       simp [qdi,h0,h1,h6,h7,h2,h3,u32,t1,t2,t3,t4,t5,f1,f6,f7,f8,f9,e',lim]
       exact go
     · rw [qfw h3] at db hT'
       have h3':¬ i<b.length:=by omega
       have t5:IntKind.u64.wrap ((a[i]:Int)+4294967296-(c:Int))=T:=by rw [qaz]<;>omega
       simp [qdi,h0,h1,h6,h7,h2,h3',u32,t1,t2,t5,f1,f6,f7,f8,f9,e',lim]
       exact go
   · have h2':¬ i<a.length:=by omega
     have hin:i=a.length:=by omega
     simp [qdi,h0,h7,h2']
     obtain ⟨H3,hp3,e3⟩:=h5.prep (g:=qda) rfl
     refine qar rfl rfl e3 (qn5 o (by omega)) ?_
     have hlt:=qan lo
     rw [qam h2,qam (l:=b) (by omega)] at ht
     rw [ho] at hlt
     have hv:natV o=natV a-natV b:=by
       rcases Nat.eq_zero_or_pos c with h0 | h0
       · subst h0; omega
       · have:c=1:=by omega
         subst this; omega
     rw [qak lo,hv]
     simp [qdq hp3,lim]
end Go.Abs.W
namespace Go.Abs.W
def tzF:Nat→Nat→Nat
 | 0,_=>0
 | f+1,n=>if n%2=1 then 0 else tzF f (n/2)+1
def tz (n:Nat):Nat:=tzF (Nat.log2 n) n
theorem q8t {n:Nat} (h:n%2=1):tz n=0:=by
 unfold tz
 cases Nat.log2 n<;>simp [tzF,h]
theorem q8u {n:Nat} (h0:n≠0) (h:n%2=0):tz n=tz (n/2)+1:=by
 have e:Nat.log2 n=Nat.log2 (n/2)+1:=by rw [Nat.log2_def,if_pos (by omega)]
 unfold tz
 rw [e,tzF,if_neg (by omega)]
theorem qog {n:Nat} (h0:n≠0):n/2^tz n%2=1∧(∀ i,i<tz n→n/2^i%2=0)∧n%2^tz n=0:=by
 induction n using Nat.strongRecOn with
 | _ n ih =>
   by_cases h:n%2=1
   · rw [q8t h]; simp [h,Nat.mod_one]
   · have h1:n%2=0:=by omega
     obtain ⟨i1,i2,i3⟩:=ih (n/2) (by omega) (by omega)
     rw [q8u h0 h1]
     have e:∀ k,n/2^(k+1)=n/2/2^k:=by intro k; rw [Nat.pow_succ,Nat.mul_comm,Nat.div_div_eq_div_mul]
     refine ⟨by rw [e]; exact i1,?_,?_⟩
     · intro i hi
       cases i with
       | zero=>simpa using h1
       | succ i=>rw [e]; exact i2 i (by omega)
     · rw [Nat.pow_succ,Nat.mul_comm,Nat.mod_mul,i3,h1]
theorem tz_le {n:Nat} (h0:n≠0):2^tz n≤n:=by
 obtain ⟨h1,_,h3⟩:=qog h0
 rcases Nat.lt_or_ge n (2^tz n) with h | h
 · rw [Nat.div_eq_of_lt h] at h1; simp at h1
 · exact h
theorem qa4 (l:List Nat) (i:Nat):natV (l.drop i)=dig l i+4294967296*natV (l.drop (i+1)):=by
 rcases Nat.lt_or_ge i l.length with h | h
 · rw [List.drop_eq_getElem_cons h,qaw h]; rfl
 · rw [List.drop_of_length_le h,List.drop_of_length_le (by omega),qfw h]; rfl
theorem qcg (l:List Nat) (i:Nat):natV l=natV (l.take i)+4294967296^i*natV (l.drop i):=by
 rcases Nat.lt_or_ge i l.length with h | h
 · have:=qb7 (l.take i) (l.drop i)
   rw [List.take_append_drop,List.length_take,Nat.min_eq_left (by omega)] at this
   exact this
 · rw [List.drop_of_length_le h,List.take_of_length_le h]; simp [natV]
theorem qga {l:List Nat} (hl:Li l) (i:Nat):natV l/4294967296^i=natV (l.drop i):=by
 have h1:=qan (hl.take i)
 have h2:4294967296^(l.take i).length≤4294967296^i:=Nat.pow_le_pow_right (by omega) (by simp; omega)
 rw [qcg l i,Nat.add_mul_div_left _ _ (Nat.pow_pos (by omega)),Nat.div_eq_of_lt (by omega),Nat.zero_add]
theorem qacl {l:List Nat} (hl:Li l) (n:Nat):natV l/2^n%2=dig l (n/32)/2^(n%32)%2:=by
 obtain ⟨q,hq⟩:∃ q,q=n/32:=⟨_,rfl⟩
 obtain ⟨s,hs⟩:∃ s,s=n%32:=⟨_,rfl⟩
 have e:2^n=4294967296^q*2^s:=by rw [pow32,← Nat.pow_add,hq,hs,Nat.div_add_mod]
 rw [← hq,← hs,e,← Nat.div_div_eq_div_mul,qga hl,qa4]
 have e2:4294967296=2^s*(2^(31-s)*2):=by rw [← Nat.pow_succ,← Nat.pow_add,show s+(31-s+1)=32 by omega]
 rw [e2,Nat.mul_assoc,Nat.add_mul_div_left _ _ (Nat.two_pow_pos s),Nat.mul_comm (2^(31-s)) 2,Nat.mul_assoc,Nat.add_mul_mod_self_left]
set_option maxHeartbeats 1000000 in
theorem qadm (m:List Nat) (hm:m.length≤1000000) (lm:Li m) (h0:natV m≠0):CQ prog qus [lim m] (.int .i64 (tz (natV m))):=by
 refine qah rfl fun H=>?_
 obtain ⟨b1,b2,b3⟩:=qog h0
 have hlen:∀ i,i≤tz (natV m)→i/32<m.length:=by
   intro i hi
   have h1:=tz_le h0
   have h2:=qan lm
   rw [pow32] at h2
   have h3:2^tz (natV m)<2^(32*m.length):=by omega
   have:=(Nat.pow_lt_pow_iff_right (by omega)).1 h3
   omega
 simp [lim]
 refine WK_up (fun i E H'=>H'=H∧E 0=lim m∧E 3=.int .i64 i) (tz (natV m)) ?_ ?_
 · simp [lim]
 · rintro i E H' hi ⟨rfl,h0,h3⟩
   simp only [lim] at h0
   have hq:=hlen i hi
   have hlast:=hlen _ (Nat.le_refl _)
   have hb:=qacl lm i
   rw [qaw hq] at hb
   have lq:m[i/32]<4294967296:=lm _ (List.getElem_mem hq)
   obtain ⟨q,hq'⟩:∃ q,q=i/32:=⟨_,rfl⟩
   obtain ⟨s,hs⟩:∃ s,s=i%32:=⟨_,rfl⟩
   have q1:(i:Int)/32=q:=by omega
   have s1:(i:Int).tmod 32=s:=by rw [Int.tmod_eq_emod_of_nonneg (by omega)]; omega
   have e1:IntKind.i64.wrap (q:Int)=q:=by rw [wrap_i64]<;>omega
   have e2:IntKind.u64.wrap (s:Int)=s:=qai _ (by omega)
   simp only [← hq',← hs] at hb hq lq
   have f1:qa2 .shr .u32 (m[q]:Int) (s:Int)=some (.int .u32 ((m[q]/2^s:Nat):Int)):=shr32 _ _ (by omega)
   obtain ⟨y,hy⟩:∃ y,y=m[q]/2^s:=⟨_,rfl⟩
   have hy2:y<2^32:=by rw [hy]; exact Nat.lt_of_le_of_lt (Nat.div_le_self _ _) lq
   rw [← hy] at f1 hb
   have f2:=qmp y hy2
   obtain ⟨z,hz⟩:∃ z,z=y%2:=⟨_,rfl⟩
   rw [← hz] at f2 hb
   have f3:IntKind.i64.wrap ((i:Int)+1)=((i+1:Nat):Int):=by rw [wrap_i64]<;>omega
   rcases Nat.lt_or_ge i (tz (natV m)) with hlt | hge
   · have:z=0:=by rw [← hb]; exact b2 i hlt
     subst this
     simp [qff,h0,h3,q1,s1,e1,e2,hq,u32,f1,f2,f3,hlt,lim]
   · have hin:i=tz (natV m):=by omega
     have:z=1:=by rw [← hb,hin]; exact b1
     subst this
     simp [qff,h0,h3,q1,s1,e1,e2,hq,u32,f1,f2,← hin]
theorem qw3 {M i s:Nat} (o:List Nat) (ho:o.length=i) (h:natV o=M/2^s%4294967296^i):natV (o++[M/2^s/4294967296^i%4294967296])=M/2^s%4294967296^(i+1):=by
 rw [qjg,ho,h,Nat.pow_succ,Nat.mod_mul]
theorem qqm {l:List Nat} (hl:Li l) (i s:Nat) (hs:s<32):natV l/2^s/4294967296^i%4294967296=(dig l i+4294967296*dig l (i+1))/2^s%4294967296:=by
 rw [Nat.div_div_eq_div_mul,Nat.mul_comm,← Nat.div_div_eq_div_mul,qga hl,qa4,qa4 l (i+1),Nat.mul_add,← Nat.add_assoc,← Nat.mul_assoc]
 have e2:4294967296*4294967296=2^s*(2^(32-s)*4294967296):=by
   rw [← Nat.mul_assoc,← Nat.pow_add,show s+(32-s)=32 by omega]
 rw [e2,Nat.mul_assoc,Nat.add_mul_div_left _ _ (Nat.two_pow_pos s),Nat.mul_comm (2^(32-s)) 4294967296,Nat.mul_assoc,Nat.add_mul_mod_self_left]
theorem qxm (l:List Nat):qdk 1 (l.map u32)=true:=by
 cases l with
 | nil=>rfl
 | cons x l=>simp [qdk]
set_option maxHeartbeats 4000000 in
theorem qaec (m:List Nat) (n:Nat) (hm:m.length≤1000000) (lm:Li m) (hn:n≤100000000):CQ prog quu [lim m,.int .i64 n] (lim (qae (natV m/2^n))):=by
 refine qah rfl fun H=>?_
 obtain ⟨q,hq'⟩:∃ q,q=n/32:=⟨_,rfl⟩
 obtain ⟨s,hs⟩:∃ s,s=n%32:=⟨_,rfl⟩
 have q1:(n:Int)/32=q:=by omega
 have s1:(n:Int).tmod 32=s:=by rw [Int.tmod_eq_emod_of_nonneg (by omega)]; omega
 have hs32:s<32:=by omega
 have e1:IntKind.i64.wrap (q:Int)=q:=by rw [wrap_i64]<;>omega
 have e2:IntKind.u64.wrap (s:Int)=s:=qai _ (by omega)
 have e:natV m/2^n=natV (m.drop q)/2^s:=by
   rw [show n=32*q+s by omega,Nat.pow_add,← pow32,← Nat.div_div_eq_div_mul,qga lm]
 rw [e]
 rcases Nat.lt_or_ge q m.length with hlt | hge
 · have h1:¬ ((m.length:Int)≤q):=by omega
   obtain ⟨x,hx⟩:∃ x,x=m.drop q:=⟨_,rfl⟩
   have lx:Li x:=by rw [hx]; exact lm.drop _
   have hx2:List.drop q (List.map u32 m)=List.map u32 x:=by rw [hx,List.map_drop]
   have hxl:x.length≤1000000:=by rw [hx]; simp; omega
   rw [← hx]
   have hho:=qxm x
   rw [← hx2] at hho
   simp only [qdk] at hho
   have hq2:q≤m.length:=by omega
   have ht:List.take m.length (List.map u32 m)=List.map u32 m:=List.take_of_length_le (by simp)
   simp [lim,q1,e1,h1,hq2,ht]
   rw [if_pos (.inr hho),hx2]
   simp
   refine WK_up (fun i E H'=>E 0=lim x∧E 1=.int .i64 n∧E 6=.int .i64 i∧∃ o,Out H H' (E 5) 1 (o.map u32)∧o.length=i∧Li o∧natV o=natV x/2^s%4294967296^i) x.length ?_ ?_
   · simp [lim]
     exact ⟨[],.nil,rfl,by intro x hx; simp at hx,by simp [natV,Nat.mod_one]⟩
   · rintro i E H' hi ⟨g0,g1,g6,o,g5,ho,lo,hv⟩
     simp only [lim] at g0
     rcases Nat.lt_or_ge i x.length with h2 | h2
     · have f1:IntKind.i64.wrap ((i:Int)+1)=((i+1:Nat):Int):=by rw [wrap_i64]<;>omega
       have f1':IntKind.i64.wrap ((i:Int)+1)=(i:Int)+1:=by rw [wrap_i64]<;>omega
       have f0:(0:Int)≤(i:Int)+1:=by omega
       have da:=qbg lx i
       have db:=qbg lx (i+1)
       have st:=qw3 (M:=natV x) (s:=s) o ho hv
       rw [qqm lx i s hs32] at st
       obtain ⟨T,hT⟩:∃ T,T=dig x i+4294967296*dig x (i+1):=⟨_,rfl⟩
       have hT2:T<2^64:=by omega
       have f4:qa2 .shr .u64 (T:Int) (s:Int)=some (.int .u64 ((T/2^s:Nat):Int)):=shr64 T s (by omega)
       rw [← hT] at st
       obtain ⟨Y,hY⟩:∃ Y,Y=T/2^s:=⟨_,rfl⟩
       have hY2:Y<2^64:=by rw [hY]; exact Nat.lt_of_le_of_lt (Nat.div_le_self _ _) hT2
       rw [← hY] at f4 st
       have f5:=qb4 Y hY2
       obtain ⟨L,hL⟩:∃ L,L=Y%4294967296:=⟨_,rfl⟩
       rw [← hL] at f5 st
       have f6:IntKind.u32.wrap (L:Int)=L:=qap _ (by omega)
       obtain ⟨v',H'',e',ho'⟩:=g5.one L (by omega)
       have go:∃ o,Out H H'' v' 1 (List.map u32 o)∧o.length=i+1∧Li o∧natV o=natV x/2^s%4294967296^(i+1) :=
         ⟨o++[L],ho',by simp; omega,lo.append (by intro y hy; simp at hy; omega),st⟩
       rw [qaw h2] at da hT
       have t1:IntKind.u64.wrap (x[i]:Int)=x[i]:=qai _ (by omega)
       rcases Nat.lt_or_ge (i+1) x.length with h3 | h3
       · rw [qaw h3] at db hT
         have t2:IntKind.u64.wrap (x[i+1]:Int)=x[i+1]:=qai _ (by omega)
         have h3':(i:Int)+1<x.length:=by omega
         have t3:qa2 .shl .u64 (x[i+1]:Int) 32=some (.int .u64 ((x[i+1]*2^32:Nat):Int)):=shl64 _ 32 (by omega) (by omega)
         have t4:bitsI .or .u64 (x[i]:Int) ((x[i+1]*2^32:Nat):Int)=some (T:Int):=by
           have:=qdo x[i+1] 32 x[i] (by omega) (by omega) (by omega)
           rw [qq8 _ _ (by omega) (by omega)] at this ⊢
           rw [Nat.or_comm,this,hT]
           congr 2; omega
         obtain ⟨P,hP⟩:∃ P,P=x[i+1]*2^32:=⟨_,rfl⟩
         rw [← hP] at t3 t4
         simp [qdh,g0,g1,g6,h2,h3,h3',u32,t1,t2,t3,t4,s1,e2,f0,f1',f4,f5,f6,e',lim]
         exact go
       · rw [qfw h3] at hT
         have hT':x[i]=T:=by omega
         have h3':¬ (i:Int)+1<x.length:=by omega
         rw [hT'] at t1
         simp [qdh,g0,g1,g6,h2,h3',u32,hT',t1,s1,e2,f1',f4,f5,f6,e',lim]
         exact go
     · have h2':¬ i<x.length:=by omega
       simp [qdh,g0,g6,h2']
       obtain ⟨H3,hp3,e3⟩:=g5.prep (g:=qda) rfl
       refine qar rfl rfl e3 (qn5 o (by omega)) ?_
       have hv2:natV o=natV x/2^s:=by
         have:=qan lx
         rw [hv,Nat.mod_eq_of_lt]
         rw [show i=x.length by omega]
         exact Nat.lt_of_le_of_lt (Nat.div_le_self _ _) this
       rw [qak lo,hv2]
       simp [qdq hp3,lim]
 · have h1:((m.length:Int)≤q):=by omega
   rw [List.drop_of_length_le hge]
   simp [lim,q1,e1,h1,natV,qa9]
end Go.Abs.W
namespace Go.Abs.W
def Dy.of (neg:Bool) (n:Nat) (e:Int):Dy:=if n=0 then ⟨false,[],0⟩ else ⟨neg,qae (n/2^tz n),e+tz n⟩
theorem qxf {m:List Nat} (lm:Li m) (h:natV m≠0):tz (natV m)<32*m.length:=by
 have h1:=tz_le h
 have h2:=qan lm
 rw [pow32] at h2
 exact (Nat.pow_lt_pow_iff_right (by omega:1<2)).1 (Nat.lt_of_le_of_lt h1 h2)
set_option maxHeartbeats 1000000 in
theorem Of_cq (neg:Bool) (m:List Nat) (e:Int) (hm:m.length≤100000) (lm:Li m) (he1:-1000000≤e) (he2:e≤1000000):CQ prog q1o [.bool neg,lim m,.int .i64 e] (Dy.of neg (natV m) e).v:=by
 refine qah rfl fun H=>?_
 simp
 refine qaa rfl rfl rfl (qn5 m (by omega)) ?_
 rw [qak lm]
 by_cases h0:natV m=0
 · simp [h0,qa9,lim,Dy.of]
 · obtain ⟨x,hx⟩:∃ x,x=qae (natV m):=⟨_,rfl⟩
   have hxv:natV x=natV m:=by rw [hx,qac]
   have lx:Li x:=by rw [hx]; exact qag _
   have hxl:x.length≤m.length:=by rw [hx]; exact limbsOf_len.2 (qan lm)
   have hne:x≠[]:=by rw [hx]; exact qcq h0
   have hl:¬ (x.length:Int)=0:=by
     intro h; exact hne (List.eq_nil_of_length_eq_zero (by omega))
   have hb:=qxf lx (by rw [hxv]; exact h0)
   have f1:IntKind.i64.wrap (e+(tz (natV m):Int))=e+tz (natV m):=by rw [hxv] at hb; rw [wrap_i64]<;>omega
   rw [← hx]
   simp [lim,hne]
   refine qaa rfl rfl rfl (qadm x (by omega) lx (by rw [hxv]; exact h0)) ?_
   simp
   refine qaa rfl rfl rfl (qaec x (tz (natV x)) (by omega) lx (by omega)) ?_
   rw [hxv]
   simp [f1,Dy.of,h0,lim]
def Dy.neg' (d:Dy):Dy:=⟨!d.neg&&decide (d.m≠[]),d.m,d.e⟩
theorem qrw (d:Dy):CQ prog qzh [d.v] d.neg'.v:=by
 refine qah rfl fun H=>?_
 simp [lim,Dy.neg']
 all_goals first | done | grind
theorem qqe (d:Dy):CQ prog qwh [d.v] (.int .i64 d.sgn):=by
 refine qah rfl fun H=>?_
 simp [lim,Dy.sgn]
 grind
def sumX (d:Dy) (e:Int):Nat:=natV d.m*2^(d.e-e).toNat
def Dy.sum (a b:Dy):Dy :=
 if a.m=[] then b else if b.m=[] then a else
 let e:=min a.e b.e
 if a.neg=b.neg then Dy.of a.neg (sumX a e+sumX b e) e
 else if sumX b e≤sumX a e then Dy.of a.neg (sumX a e-sumX b e) e else Dy.of b.neg (sumX b e-sumX a e) e
theorem q1f {d:Dy} (h:d.m.length≤300) {k:Nat} (hk:k≤100000) (li:Li d.m):(qae (natV d.m*2^k)).length≤4000:=by
 have h1:=qan li
 rw [pow32] at h1
 refine qdt (B:=32*d.m.length+k) ?_ (by omega)
 rw [Nat.pow_add]
 exact Nat.mul_lt_mul_of_pos_right h1 (Nat.two_pow_pos k)
structure Dy.M (d:Dy):Prop where
 li:Li d.m
 len:d.m.length≤300
 lo:-20000≤d.e
 hi:d.e≤20000
theorem Dy.Ok.toM {d:Dy} (h:d.Ok):d.M:=⟨h.li,by have:=h.len; omega,by have:=h.elo; omega,by have:=h.ehi; omega⟩
set_option maxHeartbeats 2000000 in
theorem qac8 (a b:Dy) (ma:a.M) (mb:b.M):CQ prog qzg [a.v,b.v] (a.sum b).v:=by
 refine qah rfl fun H=>?_
 by_cases na:a.m=[]
 · simp [lim,na,Dy.sum]
 by_cases nb:b.m=[]
 · have h1:¬ (a.m.length:Int)=0:=by intro h; exact na (List.eq_nil_of_length_eq_zero (by omega))
   simp [lim,na,nb,Dy.sum]
 have h1:¬ (a.m.length:Int)=0:=by intro h; exact na (List.eq_nil_of_length_eq_zero (by omega))
 have h2:¬ (b.m.length:Int)=0:=by intro h; exact nb (List.eq_nil_of_length_eq_zero (by omega))
 have h3:=ma.lo; have h4:=ma.hi; have h5:=mb.lo; have h6:=mb.hi
 obtain ⟨e,he⟩:∃ e,e=min a.e b.e:=⟨_,rfl⟩
 have he':(if b.e<a.e then b.e else a.e)=e:=by rw [he]; split<;>omega
 obtain ⟨i,hi⟩:∃ i,i=(a.e-e).toNat:=⟨_,rfl⟩
 obtain ⟨j,hj⟩:∃ j,j=(b.e-e).toNat:=⟨_,rfl⟩
 have f1:IntKind.i64.wrap (a.e-e)=i:=by rw [wrap_i64]<;>omega
 have f2:IntKind.i64.wrap (b.e-e)=j:=by rw [wrap_i64]<;>omega
 have hX:sumX a e=natV a.m*2^i:=by rw [sumX,← hi]
 have hY:sumX b e=natV b.m*2^j:=by rw [sumX,← hj]
 unfold Dy.sum
 rw [if_neg na,if_neg nb]
 simp only [← he,hX,hY]
 have lX:=q1f (d:=a) ma.len (k:=i) (by omega) ma.li
 have lY:=q1f (d:=b) mb.len (k:=j) (by omega) mb.li
 simp [lim,na,nb,he',f1]
 refine qaa rfl rfl rfl (qaa4 a.m i (by have:=ma.len; omega) ma.li (by omega)) ?_
 simp [f2]
 refine qaa rfl rfl rfl (qaa4 b.m j (by have:=mb.len; omega) mb.li (by omega)) ?_
 generalize natV a.m*2^i=X at *
 generalize natV b.m*2^j=Y at *
 simp
 refine ⟨fun hs=>?_,fun hs=>?_⟩
 · refine qaa rfl rfl rfl (qaiq (qae X) (qae Y) (by omega) (by omega) (qag _) (qag _)) ?_
   simp [qac]
   refine qaa rfl rfl rfl (Of_cq a.neg (qae (X+Y)) e ?_ (qag _) (by omega) (by omega)) ?_
   · have:=q1g lX lY
     omega
   · simp [hs,qac,lim]
 · refine qaa rfl rfl rfl (qtj (qae X) (qae Y) (by omega) (qag _) (qag _) (.inr ⟨qez _,qez _⟩)) ?_
   simp [qac,hs]
   have hc:(0:Int)≤cmpN X Y↔Y≤X:=by unfold cmpN; split<;>(try split)<;>omega
   refine ⟨fun h=>?_,fun h=>?_⟩
   · have h':Y≤X:=hc.1 h
     have hlen:(qae Y).length≤(qae X).length:=by
       refine limbsOf_len.2 (Nat.lt_of_le_of_lt h' ?_)
       have:=qan (qag X); rwa [qac] at this
     refine qaa rfl rfl rfl (q5t (qae X) (qae Y) (by omega) hlen (qag _) (qag _) (by rw [qac,qac]; exact h')) ?_
     simp [qac]
     refine qaa rfl rfl rfl (Of_cq a.neg (qae (X-Y)) e ?_ (qag _) (by omega) (by omega)) ?_
     · have:(qae (X-Y)).length≤4000:=qbj (Nat.sub_le X Y) lX
       omega
     · simp [qac,h',lim]
   · have h':¬ Y≤X:=fun h'=>by have:=hc.2 h'; omega
     have hlen:(qae X).length≤(qae Y).length:=by
       have:=qan (qag Y)
       rw [qac] at this
       exact limbsOf_len.2 (by omega)
     refine qaa rfl rfl rfl (q5t (qae Y) (qae X) (by omega) hlen (qag _) (qag _) (by rw [qac,qac]; omega)) ?_
     simp [qac]
     refine qaa rfl rfl rfl (Of_cq b.neg (qae (Y-X)) e ?_ (qag _) (by omega) (by omega)) ?_
     · have:(qae (Y-X)).length≤4000:=qbj (Nat.sub_le Y X) lY
       omega
     · simp [qac,h',lim]
end Go.Abs.W
namespace Go.Abs.W
theorem qw5 (m:List Nat) (hm:m.length≤1000000) (lm:Li m) (tm:Trim m):CQ prog qju [lim m] (.int .i64 (bitL (natV m))):=by
 rcases qw0 m with rfl | ⟨l,t,rfl⟩
 · exact q94
 · have:=qaeg l t (by simp at hm; omega) (lm t (by simp))
   rwa [← q6p (fun y hy=>lm y (by simp [hy])) (tm t (by simp))] at this
theorem qrd (d:Dy) (h:d.Ok):CQ prog qzf [d.v] (.int .i64 d.top):=by
 refine qah rfl fun H=>?_
 by_cases hm:d.m=[]
 · simp [lim,hm,Dy.top]
 · have h1:¬ (d.m.length:Int)=0:=by intro h; exact hm (List.eq_nil_of_length_eq_zero (by omega))
   have h2:=h.len; have h3:=h.elo; have h4:=h.ehi; have h5:=h.bits
   have e1:IntKind.i64.wrap ((bitL (natV d.m):Int)+d.e)=bitL (natV d.m)+d.e:=by rw [wrap_i64]<;>omega
   simp [lim,hm]
   refine qaa rfl rfl rfl (qw5 d.m (by omega) h.li h.tr) ?_
   simp [Dy.top,hm,e1]
set_option maxHeartbeats 1000000 in
theorem qi9 (d:Dy) (w:d.W):CQ prog quw [d.v] (.bool d.valid):=by
 refine qah rfl fun H=>?_
 rcases d with ⟨neg,m,e⟩
 have la:=w.li
 have ha:=w.len
 simp only at la ha
 rcases m with _ | ⟨x,l⟩
 · simp [lim,Dy.valid]
   grind
 · have hx:x<4294967296:=la x (by simp)
   have e1:((l.length:Int)+1≠0):=by omega
   have e2:=qmp x hx
   obtain ⟨y,hy⟩:∃ y,y=x%2:=⟨_,rfl⟩
   obtain ⟨t,ht⟩:∃ t,t=(x :: l).getLast (by simp):=⟨_,rfl⟩
   simp at ha
   have e3:IntKind.i64.wrap (l.length:Int)=l.length:=by rw [wrap_i64]<;>omega
   have e4:(x :: l)[l.length]?=some t:=by rw [ht,List.getLast_eq_getElem]; simp
   have e7:((V.int IntKind.u32 (x:Int)) :: List.map u32 l)[l.length]'(by simp)=.int .u32 t:=by
     have:=congrArg (Option.map u32) e4
     rw [← List.getElem?_map] at this
     have e5:((V.int IntKind.u32 (x:Int)) :: List.map u32 l)[l.length]?=some (.int .u32 t):=this
     rw [List.getElem?_eq_getElem (by simp)] at e5; injection e5
   rw [← hy] at e2
   have hv:Dy.valid ⟨neg,x :: l,e⟩=(decide (l.length+1≤256)&&decide (y=1)&&decide (t≠0)&&Dy.inR ⟨neg,x :: l,e⟩):=by
     simp [Dy.valid,hy,ht]
   rw [hv]
   have hy1:y=0∨y=1:=by omega
   by_cases h256:256<l.length+1
   · have h256':(256:Int)<(l.length:Int)+1:=by omega
     have h256'':¬ l.length+1≤256:=by omega
     have h3:¬ l.length≤255:=by omega
     simp [lim,u32,e1,h256',h256'']
   by_cases ht0:t=0
   · subst ht0
     simp [lim,u32,e1,e3,e7]
   · have ht0':¬ (t:Int)=0:=by omega
     have tr:Trim (x :: l):=by
       intro z hz
       rw [List.getLast?_eq_some_getLast (by simp)] at hz
       injection hz with hz
       rw [← hz,← ht]; exact ht0
     have hb0:bitL (natV (x :: l))≠0:=by
       have:=(qa7 (qft tr (by simp))).2.2; omega
     simp [lim,u32,e1,e2,e3,e7,ht0]
     have hin:Dy.inR ⟨neg,x :: l,e⟩=(decide (bitL (natV (x :: l))≤4096)&&decide (-16384≤e)&&decide (e≤16384)&&decide (bitL (natV (x :: l))+e≤16384)):=by
       simp [Dy.inR,hb0]
     rw [hin]
     have e8:bitL (natV (x :: l))≤4096→-16384≤e→e≤16384→IntKind.i64.wrap ((bitL (natV (x :: l)):Int)+e)=bitL (natV (x :: l))+e:=by intros; rw [wrap_i64]<;>omega
     have hr:=qw5 (x :: l) (by simp; omega) la tr
     generalize bitL (natV (x :: l))=B at *
     repeat' first
       | (refine qaa rfl rfl rfl hr ?_; simp)
       | refine And.intro ?_ ?_
       | intro _
     all_goals first | (simp [*]; done) | grind
theorem qaal {neg:Bool} {n:Nat} {e:Int}:(Dy.of neg n e).sgn=if n=0 then 0 else if neg then -1 else 1:=by
 unfold Dy.of
 by_cases h:n=0
 · simp [h,Dy.sgn]
 · have h1:=tz_le h
   have h2:n/2^tz n≠0:=by
     have:=(Nat.le_div_iff_mul_le (Nat.two_pow_pos (tz n)) (x:=1) (y:=n)).2 (by omega)
     omega
   simp [h,Dy.sgn,qcq h2]
theorem qahw {a b:Dy} (oa:a.Ok) (ob:b.Ok) (na:a.m≠[]) (nb:b.m≠[]) (hneg:a.neg=b.neg):(a.sum b.neg').sgn=b.sgn*cmpN a.absN b.absN:=by
 have h3:=oa.elo; have h5:=ob.elo
 obtain ⟨e,he⟩:∃ e,e=min a.e b.e:=⟨_,rfl⟩
 have hA:a.absN=sumX a e*2^(e+16384).toNat:=qhs (by omega) (by omega)
 have hB:b.absN=sumX b e*2^(e+16384).toNat:=qhs (by omega) (by omega)
 have hB':sumX b.neg' e=sumX b e:=rfl
 rw [hA,hB,qxv (Nat.two_pow_pos _)]
 have hne:¬ a.neg=b.neg'.neg:=by simp [Dy.neg',nb,hneg]
 unfold Dy.sum
 rw [if_neg na,if_neg (show ¬ b.neg'.m=[] from nb)]
 simp only [show b.neg'.e=b.e from rfl,← he,if_neg hne,hB']
 have hbn:b.neg'.neg=!b.neg:=by simp [Dy.neg',nb]
 have hs:b.sgn=if b.neg then -1 else 1:=by simp [Dy.sgn,nb]
 rw [hs]
 generalize sumX a e=X at *
 generalize sumX b e=Y at *
 rcases Nat.lt_trichotomy X Y with h | h | h
 · have h1:¬ Y≤X:=by omega
   have h2:¬ Y-X=0:=by omega
   rw [if_neg h1,qaal,hbn,if_neg h2]
   simp only [cmpN,if_pos h]
   cases b.neg<;>simp
 · subst h
   rw [if_pos (Nat.le_refl _),qaal,if_pos (by omega)]
   simp [cmpN]
 · have h1:Y≤X:=by omega
   have h2:¬ X-Y=0:=by omega
   have h3:¬ X<Y:=by omega
   rw [if_pos h1,qaal,hneg,if_neg h2]
   simp [cmpN,if_neg h3,h]
set_option maxHeartbeats 1000000 in
theorem qnz (a b:Dy) (oa:a.Ok) (ob:b.Ok):CQ prog qzi [a.v,b.v] (.int .i64 (a.cmp b)):=by
 refine qah rfl fun H=>?_
 have hcmp:a.cmp b=cmpI a.val b.val:=by simp [Dy.cmp,oa.valid,ob.valid]
 rw [hcmp,q8o oa ob]
 simp
 refine qaa rfl rfl rfl (qqe a) ?_
 simp
 refine qaa rfl rfl rfl (qqe b) ?_
 by_cases hne:a.sgn=b.sgn
 · have n1:¬ a.sgn<b.sgn:=by omega
   have n2:¬ b.sgn<a.sgn:=by omega
   simp [hne]
   by_cases h0:b.sgn=0
   · simp [h0]
   · have na:a.m≠[]:=fun h=>h0 (by rw [← hne]; simp [Dy.sgn,h])
     have nb:b.m≠[]:=fun h=>h0 (by simp [Dy.sgn,h])
     have hneg:a.neg=b.neg:=by
       unfold Dy.sgn at hne; rw [if_neg na,if_neg nb] at hne
       cases ha:a.neg<;>cases hb:b.neg<;>simp [ha,hb] at hne ⊢
     simp [h0]
     refine qaa rfl rfl rfl (qrd a oa) ?_
     simp
     refine qaa rfl rfl rfl (qrd b ob) ?_
     simp
     by_cases ht:a.top=b.top
     · simp [ht]
       refine qaa rfl rfl rfl (qrw b) ?_
       simp
       refine qaa rfl rfl rfl (qac8 a b.neg' oa.toM ⟨ob.li,by have:=ob.len; exact Nat.le_trans this (by omega),by have:=ob.elo; show -20000≤b.e; omega,by have:=ob.ehi; show b.e≤20000; omega⟩) ?_
       simp
       refine qaa rfl rfl rfl (qqe _) ?_
       simp
       exact qahw oa ob na nb hneg
     · simp [ht]
       refine qaa rfl rfl rfl (qrd a oa) ?_
       simp
       refine qaa rfl rfl rfl (qrd b ob) ?_
       simp
       have hs:b.sgn=1∨b.sgn=-1:=by unfold Dy.sgn; rw [if_neg nb]; split<;>simp
       have key:(a.top<b.top∧cmpN a.absN b.absN=-1)∨(¬ a.top<b.top∧cmpN a.absN b.absN=1):=by
         rcases Int.lt_or_gt_of_ne ht with h | h
         · have:=qms oa ob na nb h
           exact .inl ⟨h,by simp [cmpN,this]⟩
         · have:=qms ob oa nb na h
           exact .inr ⟨by omega,by simp [cmpN,this]; omega⟩
       rcases hs with hs | hs<;>rcases key with ⟨k1,k2⟩ | ⟨k1,k2⟩<;>simp [hs,k1,k2]
 · simp [hne]
   grind
theorem qm6:∀ {a b:List Nat},Li a→Li b→a.length=b.length→natV a=natV b→a=b
 | [],[],_,_,_,_=>rfl
 | [],_ :: _,_,_,h,_=>by simp at h
 | _ :: _,[],_,_,h,_=>by simp at h
 | x :: l,y :: m,la,lb,h,e=>by
   simp only [natV] at e
   have h1:=la.cons.1
   have h2:=lb.cons.1
   have:x=y:=by omega
   rw [this,qm6 la.cons.2 lb.cons.2 (by simpa using h) (by omega)]
theorem q2y (a b:Dy) (wa:a.W) (wb:b.W):CQ prog quy [a.v,b.v] (.bool (decide (a=b))):=by
 refine qah rfl fun H=>?_
 have e:decide (a=b)=(decide (a.neg=b.neg)&&decide (a.e=b.e)&&decide (a.m=b.m)):=by
   cases a; cases b; simp [and_comm]
   grind
 rw [e]
 have hl:(a.m.length:Int)=b.m.length↔a.m.length=b.m.length:=by omega
 by_cases hn:a.neg=b.neg
 · by_cases he:a.e=b.e
   · by_cases hm:a.m.length=b.m.length
     · simp [lim,hn,he,hm]
       refine qaa rfl rfl rfl (qtj a.m b.m (by have:=wa.len; omega) wa.li wb.li (.inl hm)) ?_
       simp [qacb]
       constructor
       · intro h
         exact qm6 wa.li wb.li hm h
       · intro h; rw [h]
     · have hm':¬ (a.m.length:Int)=b.m.length:=by omega
       have hm2:¬ a.m=b.m:=fun h=>hm (by rw [h])
       simp [lim,hn,he,hm',hm2]
   · simp [lim,hn,he]
 · simp [lim,hn]
end Go.Abs.W
namespace Go.Abs.W
def Dy.zero:Dy:=⟨false,[],0⟩
def Dy.isZ (d:Dy):Bool:=!d.neg&&decide (d.m=[])&&decide (d.e=0)
def Iv.valid (x:Iv):Bool:=if x.all then x.lo.isZ&&x.hi.isZ else x.lo.valid&&x.hi.valid&&decide (x.lo.cmp x.hi≤0)
structure Iv.W (x:Iv):Prop where
 lo:x.lo.W
 hi:x.hi.W
def Iv.ins (x y:Iv):Bool:=x.valid&&y.valid&&(y.all || (!x.all&&decide (y.lo.cmp x.lo≤0)&&decide (x.hi.cmp y.hi≤0)))
theorem qag1 (d:Dy):CQ prog qpt [d.v] (.bool d.isZ):=by
 refine qah rfl fun H=>?_
 simp [lim,Dy.isZ]
 grind
theorem qk8 (x:Iv) (w:x.W):CQ prog qr7 [x.v] (.bool x.valid):=by
 refine qah rfl fun H=>?_
 simp
 repeat' first
   | (refine qaa rfl rfl rfl (qag1 x.lo) ?_; simp)
   | (refine qaa rfl rfl rfl (qag1 x.hi) ?_; simp)
   | (refine qaa rfl rfl rfl (qfo x.lo w.lo.len w.lo.li) ?_; simp)
   | (refine qaa rfl rfl rfl (qfo x.hi w.hi.len w.hi.li) ?_; simp)
   | (refine qaa rfl rfl rfl (qmv x.lo x.hi w.lo w.hi) ?_; simp)
   | refine And.intro ?_ ?_
   | intro _
 all_goals first | (simp [Iv.valid, *]; done) | (simp [Iv.valid, *]; grind) | grind [Iv.valid]
end Go.Abs.W
namespace Go.Abs.W
theorem qajt {a b:Dy} (ha:a.valid=true) (hb:b.valid=true):a.cmp b=cmpI a.val b.val:=by simp [Dy.cmp,ha,hb]
theorem qz5 {a b:Int}:cmpI a b=0↔a=b:=by
 unfold cmpI; repeat' split
 all_goals omega
theorem qsz {a b:Dy} (oa:a.Ok) (ob:b.Ok):a.cmp b=0↔a=b:=by
 rw [qajt oa.valid ob.valid,qz5]
 exact ⟨qs5 oa ob,fun h=>by rw [h]⟩
theorem Iv.W.okLo {x:Iv} (w:x.W) (hv:x.valid=true) (ha:x.all=false):x.lo.Ok:=by
 simp [Iv.valid,ha] at hv; exact Dy.Ok.of w.lo.li hv.1.1
theorem Iv.W.okHi {x:Iv} (w:x.W) (hv:x.valid=true) (ha:x.all=false):x.hi.Ok:=by
 simp [Iv.valid,ha] at hv; exact Dy.Ok.of w.hi.li hv.1.2
theorem qadc (d:Dy):CQ prog qv7 [d.v] (.bool d.isZ):=by
 refine qah rfl fun H=>?_
 simp [lim,Dy.isZ]
 grind
theorem qht (x:Iv) (w:x.W):CQ prog qum [x.v] (.bool x.valid):=by
 refine qah rfl fun H=>?_
 simp
 repeat' first
   | (refine qaa rfl rfl rfl (qadc x.lo) ?_; simp)
   | (refine qaa rfl rfl rfl (qadc x.hi) ?_; simp)
   | (refine qaa rfl rfl rfl (qi9 x.lo w.lo) ?_; simp)
   | (refine qaa rfl rfl rfl (qi9 x.hi w.hi) ?_; simp)
   | (refine qaa rfl rfl rfl (qnz x.lo x.hi (Dy.Ok.of w.lo.li (by assumption)) (Dy.Ok.of w.hi.li (by assumption))) ?_; simp)
   | refine And.intro ?_ ?_
   | intro _
 all_goals first | (simp [Iv.valid, *]; done) | (simp [Iv.valid, *]; grind) | grind [Iv.valid]
set_option maxHeartbeats 1000000 in
theorem qvw (x y:Iv) (wx:x.W) (wy:y.W):CQ prog qsd [x.v,y.v] (.bool (x.ins y)):=by
 refine qah rfl fun H=>?_
 simp
 repeat' first
   | (refine qaa rfl rfl rfl (qht x wx) ?_; simp [*])
   | (refine qaa rfl rfl rfl (qht y wy) ?_; simp [*])
   | (refine qaa rfl rfl rfl (qnz y.lo x.lo (wy.okLo (by assumption) (by assumption)) (wx.okLo (by assumption) (by assumption))) ?_; simp)
   | (refine qaa rfl rfl rfl (qnz x.hi y.hi (wx.okHi (by assumption) (by assumption)) (wy.okHi (by assumption) (by assumption))) ?_; simp)
   | refine And.intro ?_ ?_
   | intro _
 all_goals first | (simp [Iv.ins, *]; done) | (simp [Iv.ins, *]; grind) | grind [Iv.ins]
theorem qx1 (x y:Iv) (wx:x.W) (wy:y.W):CQ prog qup [x.v,y.v] (.bool (decide (x=y))):=by
 refine qah rfl fun H=>?_
 have e:decide (x=y)=(decide (x.all=y.all)&&decide (x.lo=y.lo)&&decide (x.hi=y.hi)):=by
   cases x; cases y; simp; grind
 rw [e]
 simp
 repeat' first
   | (refine qaa rfl rfl rfl (q2y x.lo y.lo wx.lo wy.lo) ?_; simp [*])
   | (refine qaa rfl rfl rfl (q2y x.hi y.hi wx.hi wy.hi) ?_; simp [*])
   | refine And.intro ?_ ?_
   | intro _
 all_goals first | (simp [*]; done) | (simp [*]; grind) | grind
end Go.Abs.W
namespace Go.Abs.W
def Dy.lo2 (a b:Dy):Dy:=if a.cmp b≤0 then a else b
def Dy.hi2 (a b:Dy):Dy:=if 0≤a.cmp b then a else b
def Iv.known (x:Iv):Bool:=!x.all&&x.valid
def Iv.whole:Iv:=⟨⟨false,[],0⟩,⟨false,[],0⟩,true⟩
def Iv.hull (x y:Iv):Iv:=if x.known&&y.known then ⟨x.lo.lo2 y.lo,x.hi.hi2 y.hi,false⟩ else Iv.whole
theorem Dy.W.lo2 {a b:Dy} (ha:a.W) (hb:b.W):(a.lo2 b).W:=by unfold Dy.lo2; split<;>assumption
theorem Dy.W.hi2 {a b:Dy} (ha:a.W) (hb:b.W):(a.hi2 b).W:=by unfold Dy.hi2; split<;>assumption
theorem Iv.W.hull {x y:Iv} (hx:x.W) (hy:y.W):(x.hull y).W:=by
 unfold Iv.hull; split
 · exact ⟨hx.lo.lo2 hy.lo,hx.hi.hi2 hy.hi⟩
 · exact ⟨⟨by intro x hx; simp [Iv.whole] at hx,by simp [Iv.whole]⟩,⟨by intro x hx; simp [Iv.whole] at hx,by simp [Iv.whole]⟩⟩
theorem q5z (a b:Dy) (wa:a.W) (wb:b.W):CQ prog quc [a.v,b.v] (a.lo2 b).v:=by
 refine qah rfl fun H=>?_
 simp
 refine qaa rfl rfl rfl (qmv a b wa wb) ?_
 simp [Dy.lo2]
 refine ⟨fun h=>by simp [h],fun h=>?_⟩
 have:¬ a.cmp b≤0:=by omega
 simp [this]
theorem q5y (a b:Dy) (wa:a.W) (wb:b.W):CQ prog qub [a.v,b.v] (a.hi2 b).v:=by
 refine qah rfl fun H=>?_
 simp
 refine qaa rfl rfl rfl (qmv a b wa wb) ?_
 simp [Dy.hi2]
 refine ⟨fun h=>by simp [h],fun h=>?_⟩
 have:¬ 0≤a.cmp b:=by omega
 simp [this]
theorem qpn (a b:Dy) (oa:a.Ok) (ob:b.Ok):CQ prog quj [a.v,b.v] (a.lo2 b).v:=by
 refine qah rfl fun H=>?_
 simp
 refine qaa rfl rfl rfl (qnz a b oa ob) ?_
 simp [Dy.lo2]
 refine ⟨fun h=>by simp [h],fun h=>?_⟩
 have:¬ a.cmp b≤0:=by omega
 simp [this]
theorem qm7 (a b:Dy) (oa:a.Ok) (ob:b.Ok):CQ prog qv8 [a.v,b.v] (a.hi2 b).v:=by
 refine qah rfl fun H=>?_
 simp
 refine qaa rfl rfl rfl (qnz a b oa ob) ?_
 simp [Dy.hi2]
 refine ⟨fun h=>by simp [h],fun h=>?_⟩
 have:¬ 0≤a.cmp b:=by omega
 simp [this]
theorem qcr:CQ prog qr6 [] Iv.whole.v:=by
 refine qah rfl fun H=>?_
 simp [Iv.whole,lim]
theorem qba:CQ prog qul [] Iv.whole.v:=by
 refine qah rfl fun H=>?_
 simp [Iv.whole,lim]
set_option maxHeartbeats 1000000 in
theorem qyt (l:List Iv) (hl:l.length≤1000000) (w:∀ x ∈ l,x.W):CQ prog qr4 [ivs l] (.bool (l.all Iv.known)):=by
 refine qah rfl fun H=>?_
 simp [ivs]
 refine WK_up (fun i E H'=>H <+: H'∧E 5=ivs l∧E 6=.int .i64 l.length∧E 7=.int .i64 i∧(∀ j x,j<i→l[j]?=some x→x.known=true)) l.length ?_ ?_
 · simp [ivs]
 · rintro i E H' hi ⟨hH,h5,h6,h7,hp⟩
   simp only [ivs] at h5 ⊢
   rcases Nat.lt_or_ge i l.length with hlt | hge
   · have e2:IntKind.i64.wrap ((i:Int)+1)=((i+1:Nat):Int):=by rw [wrap_i64]<;>omega
     have wx:=w l[i] (List.getElem_mem hlt)
     have no:l[i].known=false→l.all Iv.known=false:=by
       intro h
       rw [Bool.eq_false_iff]; intro h'
       rw [List.all_eq_true.1 h' _ (List.getElem_mem hlt)] at h
       cases h
     have nx:l[i].known=true→∀ (j:Nat) (x:Iv),j<i+1→l[j]?=some x→x.known=true:=by
       intro h j x hj hx
       rcases Nat.lt_or_ge j i with hji | hji
       · exact hp j x hji hx
       · have:j=i:=by omega
         subst this
         rw [List.getElem?_eq_getElem hlt] at hx; injection hx with hx; rw [← hx]; exact h
     have T:=qdq (qox (l:=[some ⟨7,[l[i].v],false,true⟩]) hH)
     simp only [Iv.v] at T
     cases ha:l[i].all
     · simp [qcz,h5,h6,h7,hlt,ha]
       rw [ha] at T
       have hr:=qk8 l[i] wx
       simp only [Iv.v,ha] at hr
       refine qaa rfl rfl rfl hr ?_
       cases hv:l[i].valid
       · simp [T]
         simpa using no (by simp [Iv.known,hv])
       · simp [h5,h6,h7,e2]
         exact ⟨qox hH,nx (by simp [Iv.known,hv,ha])⟩
     · rw [ha] at T
       simp [qcz,h5,h6,h7,hlt,ha,T]
       simpa using no (by simp [Iv.known,ha])
   · have hin:i=l.length:=by omega
     subst hin
     have e1:l.all Iv.known=true:=by
       rw [List.all_eq_true]
       intro x hx
       obtain ⟨j,hj,rfl⟩:=List.getElem_of_mem hx
       exact hp j _ hj (List.getElem?_eq_getElem _)
     simp [qcz,h6,h7,e1,qdq hH]
theorem qel (x:Iv) (w:x.W):CQ prog quk [x.v] (.bool x.known):=by
 refine qah rfl fun H=>?_
 simp
 refine qaa rfl rfl rfl (qht x w) ?_
 simp [Iv.known]
 grind
theorem q50 (x y:Iv) (wx:x.W) (wy:y.W):CQ prog quf [x.v,y.v] (x.hull y).v:=by
 refine qah rfl fun H=>?_
 simp
 refine qar rfl rfl (H1:=H++[some ⟨7,[x.v],false,true⟩,some ⟨7,[y.v],false,true⟩,some ⟨7,[.agg [.bool false,.nil,.int .i64 0,.bool false,.nil,.int .i64 0,.bool false]],false,true⟩,some ⟨7,[x.v,y.v],true,false⟩]) (vs:=[ivs [x,y]]) (by simp [prep,frzVs,frzV]; rfl) (qyt [x,y] (by simp) (by simp; exact ⟨wx,wy⟩)) ?_
 cases hk:x.known&&y.known
 · have:([x,y].all Iv.known)=false:=by simpa using hk
   simp only [this]
   simp
   refine qaa rfl rfl rfl qcr ?_
   simp [Iv.hull,hk]
 · have:([x,y].all Iv.known)=true:=by simpa using hk
   simp only [this]
   simp
   refine qaa rfl rfl rfl (q5z x.lo y.lo wx.lo wy.lo) ?_
   simp
   refine qaa rfl rfl rfl (q5y x.hi y.hi wx.hi wy.hi) ?_
   simp [Iv.hull,hk]
theorem qaj {x:Iv} (w:x.W) (h:x.known=true):x.lo.Ok∧x.hi.Ok:=by
 simp [Iv.known] at h
 exact ⟨w.okLo h.2 h.1,w.okHi h.2 h.1⟩
end Go.Abs.W
namespace Go.Abs.W
@[simp] theorem qany (n k:Nat):¬ (n+k<n):=by omega
def Iv.zero:Iv:=⟨⟨false,[],0⟩,⟨false,[],0⟩,false⟩
def Iv.meet (x y:Iv):Option Iv :=
 if x.valid&&y.valid then
   (if x.all then some y else if y.all then some x else
     if 0<(x.lo.hi2 y.lo).cmp (x.hi.lo2 y.hi) then none else some ⟨x.lo.hi2 y.lo,x.hi.lo2 y.hi,false⟩)
 else none
def meetV (o:Option Iv):V:=.tup [(o.getD Iv.zero).v,.bool o.isSome]
theorem Iv.W.meet {x y z:Iv} (hx:x.W) (hy:y.W) (h:x.meet y=some z):z.W:=by
 unfold Iv.meet at h
 split at h
 · split at h
   · injection h with h; rw [← h]; exact hy
   · split at h
     · injection h with h; rw [← h]; exact hx
     · split at h
       · cases h
       · injection h with h; rw [← h]; exact ⟨hx.lo.hi2 hy.lo,hx.hi.lo2 hy.hi⟩
 · cases h
set_option maxHeartbeats 1000000 in
theorem qae0 (x y:Iv) (wx:x.W) (wy:y.W):CQ prog que [x.v,y.v] (meetV (x.meet y)):=by
 refine qah rfl fun H=>?_
 simp
 refine qaa rfl rfl rfl (qk8 x wx) ?_
 cases hx:x.valid
 · simp [Iv.meet,hx,meetV,Iv.zero,lim]
 simp
 refine qaa rfl rfl rfl (qk8 y wy) ?_
 cases hy:y.valid
 · simp [Iv.meet,hx,hy,meetV,Iv.zero,lim]
 rcases Bool.eq_false_or_eq_true x.all with ax | ax
 · simp [Iv.meet,hx,hy,ax,meetV]
 rcases Bool.eq_false_or_eq_true y.all with ay | ay
 · simp [Iv.meet,hx,hy,ax,ay,meetV]
 simp [ax,ay]
 refine qaa rfl rfl rfl (q5y x.lo y.lo wx.lo wy.lo) ?_
 simp
 refine qaa rfl rfl rfl (q5z x.hi y.hi wx.hi wy.hi) ?_
 simp
 refine qaa rfl rfl rfl (qmv (x.lo.hi2 y.lo) (x.hi.lo2 y.hi) (wx.lo.hi2 wy.lo) (wx.hi.lo2 wy.hi)) ?_
 by_cases c:0<(x.lo.hi2 y.lo).cmp (x.hi.lo2 y.hi)
 · simp [c,Iv.meet,hx,hy,ax,ay,meetV,Iv.zero,lim]
 · simp [c,Iv.meet,hx,hy,ax,ay,meetV]
theorem qtz {a b:Dy} (ha:a.Ok) (hb:b.Ok):(a.lo2 b).Ok:=by unfold Dy.lo2; split<;>assumption
theorem qpo {a b:Dy} (ha:a.Ok) (hb:b.Ok):(a.hi2 b).Ok:=by unfold Dy.hi2; split<;>assumption
set_option maxHeartbeats 1000000 in
theorem qafy (x y:Iv) (wx:x.W) (wy:y.W):CQ prog qwd [x.v,y.v] (meetV (x.meet y)):=by
 refine qah rfl fun H=>?_
 simp
 refine qaa rfl rfl rfl (qht x wx) ?_
 cases hx:x.valid
 · simp [Iv.meet,hx,meetV,Iv.zero,lim]
 simp
 refine qaa rfl rfl rfl (qht y wy) ?_
 cases hy:y.valid
 · simp [Iv.meet,hx,hy,meetV,Iv.zero,lim]
 rcases Bool.eq_false_or_eq_true x.all with ax | ax
 · simp [Iv.meet,hx,hy,ax,meetV]
 rcases Bool.eq_false_or_eq_true y.all with ay | ay
 · simp [Iv.meet,hx,hy,ax,ay,meetV]
 simp [ax,ay]
 have o1:=wx.okLo hx ax; have o2:=wx.okHi hx ax; have o3:=wy.okLo hy ay; have o4:=wy.okHi hy ay
 refine qaa rfl rfl rfl (qm7 x.lo y.lo o1 o3) ?_
 simp
 refine qaa rfl rfl rfl (qpn x.hi y.hi o2 o4) ?_
 simp
 refine qaa rfl rfl rfl (qnz (x.lo.hi2 y.lo) (x.hi.lo2 y.hi) (qpo o1 o3) (qtz o2 o4)) ?_
 by_cases c:0<(x.lo.hi2 y.lo).cmp (x.hi.lo2 y.hi)
 · simp [c,Iv.meet,hx,hy,ax,ay,meetV,Iv.zero,lim]
 · simp [c,Iv.meet,hx,hy,ax,ay,meetV]
end Go.Abs.W
