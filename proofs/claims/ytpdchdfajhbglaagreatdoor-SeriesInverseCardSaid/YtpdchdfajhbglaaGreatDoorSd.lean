/- Parts of the proof: FpCat, FpSeG, FpSeH. -/
import Derived.Test.YtpdchdfajhbglaaGreatDoorSc
import Derived.Test.YtpdchdfajhbglaaGreatDoorHz
namespace Go.Abs.W
theorem qai1 (n:Nat)(hn:0<n)(hb:n<=1000000000)(H:Heap)(Q:V->Heap->Prop)(hQ:Q (.ref H.length 7 0 0) (H++[some ⟨7,[],true,true⟩])):CT prog qnn [.nil,.int .i64 n] H Q:=by
 refine CT_of (f:=qb9) rfl (qgw ?_);have e1:IntKind.i64.wrap (n:Int)=n:=by rw[wrap_i64]<;>omega
 have e2:¬((n:Int)<0):=by omega
 have e3:(0:Int)<n:=by omega
 have e4:n*88<=140737488355328/\n<=9223372036854775807:=by omega
 have e0:IntKind.i64.wrap 0=0:=by decide
 simp[e0,e1,e2,e4,hn,fin,ownV,qqy];exact⟨_,_,⟨rfl,rfl⟩,hQ⟩
theorem Out.appE {H0 H:Heap}{v y:V}{z bytes:Nat}{l ys:List V}(h:Out H0 H v z l)(hy:elems H y=some ys)(hz:qds z ys=true)(hb:(l.length+ys.length)*bytes<=140737488355328) :
 ∃v' H',qa2 z bytes v y H=some (v',H')/\Out H0 H' v' z (l++ys):=by
 by_cases hn:ys=[]
 ·subst hn;refine⟨v,H,?_,by simpa using h⟩;unfold qa2;rw[hy];simp only[Option.bind_some,hz,if_true];rcases h.val with ⟨h1,h2⟩|⟨b,blk,h1,h2,h3,h4,h5⟩
  ·subst h2;simp
  ·subst h2;have:qa3 (l.length+0) bytes=true:=by simp[qa3];simpa using hb
   simp only[List.length_nil,h3,this];simp[h5]
 ·exact h.app hy hz hn hb
def pre4 (ls:List (List Iv))(i:Nat):List Iv:=(ls.take i).flatten
theorem q2c {ls:List (List Iv)}{i:Nat}(h:i<ls.length):pre4 ls (i+1)=pre4 ls i++ls[i]:=by
 unfold pre4;rw[List.take_add_one,List.getElem?_eq_getElem h,Option.toList_some,List.flatten_append,List.flatten_cons,List.flatten_nil,List.append_nil]
theorem q7k {ls:List (List Iv)}:∀i,(pre4 ls i).length<=ls.flatten.length:=by
 intro i;have:ls.flatten=pre4 ls i++(ls.drop i).flatten:=by
  rw[pre4,<-List.flatten_append,List.take_append_drop]
 have h:=congrArg List.length this;rw[List.length_append]at h;omega
set_option maxHeartbeats 2000000 in
theorem qaa4 {H:Heap}{q:Nat}(ls:List (List Iv))(h0:0<ls.flatten.length)(hb:ls.flatten.length<=1000000)(hn:ls.length<=1000000)(hq:H[q]?=some (some ⟨1,ls.map ivs,true,true⟩)) :
 Ev prog (.call qlu [.ref q 1 0 ls.length] H) (.ret (ivs ls.flatten) H):=by
 refine qf4 rfl ?_;simp;refine WK_up (fun i E H'=>H'=H/\E 0=.ref q 1 0 ls.length/\E 9=.ref q 1 0 ls.length/\E 10=.int .i64 ls.length/\E 11=.int .i64 i/\E 3=.int .i64 (pre4 ls i).length) ls.length ?_ ?_
 ·simp[pre4]
 ·rintro i E H' hi ⟨rfl,h0',h9,h10,h11,h3⟩;rcases Nat.lt_or_ge i ls.length with hlt|hge
  ·have c5:IntKind.i64.wrap ((i:Int)+1)=(i:Int)+1:=by rw[wrap_i64]<;>omega
   have hl:=q7k (ls:=ls) (i+1);have hs:=congrArg List.length (q2c hlt);rw[List.length_append]at hs;have c1:IntKind.i64.wrap (((pre4 ls i).length:Int)+(ls[i]).length)=((pre4 ls (i+1)).length:Nat):=by rw[wrap_i64]<;>omega
   have c2:¬(((pre4 ls (i+1)).length:Nat):Int)<0:=by omega
   have hg:(ls.map ivs)[i]?=some (ivs ls[i]):=by rw[List.getElem?_map,List.getElem?_eq_getElem hlt];rfl
   have hi2:i<(ls.map ivs).length:=by simpa using hlt
   generalize hx:ls[i]=x at *
   simp[qb5,hq,h0',h9,h10,h11,h3,hlt,hx,ivs];simp[c1,c2,c5]
  ·have hin:i=ls.length:=by omega
   subst hin;have e1:pre4 ls ls.length=ls.flatten:=by simp[pre4]
   have⟨N,hN⟩:∃N,N=ls.flatten.length:=⟨_,rfl⟩
   rw[e1,<-hN]at h3;simp[qb5,h10,h11,h3];refine qdr rfl rfl rfl (qai1 N (by omega) (by omega) _ _ ?_);simp[h0'];refine WK_up (fun i E H''=>Out H' H'' (E 6) 7 ((pre4 ls i).map Iv.v)/\E 25=.ref q 1 0 ls.length/\E 26=.int .i64 ls.length/\E 27=.int .i64 i) ls.length ?_ ?_
   ·simp[pre4];exact⟨List.prefix_append _ _,.inr ⟨H'.length,[],by simp,by simp,by simp,by simp,by simp⟩⟩
   ·rintro i E H'' hi ⟨ho,h25,h26,h27⟩;have hq':=(qap ho.pre hq).1;rcases Nat.lt_or_ge i ls.length with hlt|hge
    ·have c5:IntKind.i64.wrap ((i:Int)+1)=(i:Int)+1:=by rw[wrap_i64]<;>omega
     have hs:=q2c hlt;have hl:=q7k (ls:=ls) (i+1);rw[hs,List.length_append]at hl;generalize hx:ls[i]=x at *
     obtain⟨v',H3,p1,p2⟩:=ho.appE (y:=ivs x) (bytes:=88) (ys:=x.map Iv.v) rfl (by cases x<;>rfl) (by simp;omega);simp only[ivs]at p1;simp[qb4,hq',h25,h26,h27,hlt,hx,ivs];simp[p1,c5];rw[hs];simpa using p2
    ·have hin:i=ls.length:=by omega
     subst hin;simp[qb4,h26,h27];have:=ho.fin (H1:=H') (List.prefix_refl _);rw[this,e1];rfl
theorem Iv.Le.whole {x:Iv}:x.Le Iv.whole:=.inl rfl
theorem qyg {d:Dy}(h:d.isZ=true):d=Dy.zero:=by
 rcases d with ⟨n,m,e⟩;simp[Dy.isZ]at h;simp[Dy.zero,h]
theorem qajw {x a:Iv}(wx:x.W)(wa:a.W)(h:x.ins a=true):x.Le a:=by
 simp only[Iv.ins,Bool.and_eq_true,Bool.or_eq_true,Bool.not_eq_true',decide_eq_true_eq]at h;obtain⟨⟨hx,ha⟩,h⟩:=h;rcases h with h|⟨⟨h1,h2⟩,h3⟩
 ·left;rw[Iv.valid,if_pos h]at ha;simp only[Bool.and_eq_true]at ha;rcases a with ⟨l,u,b⟩;simp only at h ha;rw[qyg ha.1,qyg ha.2,h];rfl
 ·cases hb:a.all
  ·right;have k1:x.known=true:=by simp[Iv.known,h1,hx]
   have k2:a.known=true:=by simp[Iv.known,hb,ha]
   obtain⟨o1,o2⟩:=qai wx k1;obtain⟨o3,o4⟩:=qai wa k2;rw[qkc o3 o1,cmpI_le]at h2;rw[qkc o2 o4,cmpI_le]at h3;exact⟨k1,k2,h2,h3⟩
  ·left;rw[Iv.valid,if_pos hb]at ha;simp only[Bool.and_eq_true]at ha;rcases a with ⟨l,u,b⟩;simp only at hb ha;rw[qyg ha.1,qyg ha.2,hb];rfl
theorem qaq1 {x a:Iv}(wx:x.W)(wa:a.W)(hv:x.valid=true)(h:x.Le a):x.ins a=true:=by
 rcases h with rfl|⟨k1,k2,h1,h2⟩
 ·exact qbk hv
 ·exact qyh wx wa k1 k2 h1 h2
theorem qahw {x:Iv}(wx:x.W)(hv:x.valid=true):x.ins x=true:=by
 refine qaq1 wx wx hv ?_;cases hb:x.all
 ·have k:x.known=true:=by simp[Iv.known,hb,hv]
  exact .inr ⟨k,k,Int.le_refl _,Int.le_refl _⟩
 ·left;rw[Iv.valid,if_pos hb]at hv;simp only[Bool.and_eq_true]at hv;rcases x with ⟨l,u,b⟩;simp only at hb hv;rw[qyg hv.1,qyg hv.2,hb];rfl
def LeL (a x:List Iv):Prop:=a.length=x.length/\∀i,(at0 a i).Le (at0 x i)
def InL (a x:List Iv):Prop:=a.length=x.length/\∀i,i<a.length->(at0 a i).ins (at0 x i)=true
theorem qaqk {a:List Iv}{i:Nat}(h:a.length<=i):at0 a i=Iv.whole:=by simp[at0,List.getElem?_eq_none h]
theorem InL.le {a x:List Iv}(wa:∀y ∈ a,y.W)(wx:∀y ∈ x,y.W)(h:InL a x):LeL a x:=by
 refine⟨h.1,fun i=>?_⟩;rcases Nat.lt_or_ge i a.length with h1|h1
 ·exact qajw (at0_W wa) (at0_W wx) (h.2 i h1)
 ·rw[qaqk (a:=x) (by have:=h.1;omega)];exact .inl rfl
theorem InL.allB {a x:List Iv}(h:InL a x):(decide (a.length=x.length)&&Go.Abs.W.allB Iv.ins a x)=true:=by
 simp only[Bool.and_eq_true,decide_eq_true_eq];refine⟨h.1,?_⟩;rw[qt0];intro i u v hu hv;have hi:=(List.getElem?_eq_some_iff.1 hu).1;have:=h.2 i hi;simp only[at0,hu,hv,Option.getD_some]at this;exact this
variable {a b x y : List Iv} {p : Int}
theorem qam3 {l:List Iv}{u:Iv}{i:Nat}(h:i<l.length):at0 (l.set 0 u) i=if i=0 then u else at0 l i:=by
 unfold at0;rw[List.getElem?_set];split
 ·rename_i e;subst e;rw[if_pos rfl,if_pos h];rfl
 ·rename_i e;rw[if_neg (fun h=>e h.symm)]
end Go.Abs.W
namespace Go.Abs.W
@[simp] theorem qaov {H:Heap}{g:Nat}:qbp H (.fn g [])=some (.fn g [],H):=rfl
@[simp] theorem qalk : V.nilfn.cells=[.nilfn]:=rfl
@[simp] theorem qan4 : V.nilfn.cellPure=true:=rfl
theorem qain (a b:List Iv)(wa:SW a)(wb:SW b):CQ prog qq9 [ivs a,ivs b] (.bool (decide (a.length=b.length)&&allB Iv.ins a b)):=by
 refine qag rfl fun H=>?_
 simp;refine WL_ev rfl rfl rfl (qy7 (p:=Iv.ins) a b (by have:=wa.1;omega) fun x hx y hy=>Cb_of (fun _=>rfl) (qaa2 x y (wa.2 x hx) (wb.2 y hy))) ?_;simp
theorem q1b {a b:List Iv}(wa:SW a)(wb:SW b)(h:InL a b):CQ prog qq9 [ivs a,ivs b] (.bool true):=by
 have:=qain a b wa wb;rwa[h.allB]at this
theorem qri {x:List Iv}(h:∀z ∈ x,z.valid=true){i:Nat}:(at0 x i).valid=true:=by
 unfold at0;cases hx:x[i]? with
 |none=>rfl
 |some z=>exact h z (List.mem_of_getElem? hx)
theorem qakz {a:List Iv}{p:Int}(w:a.length<=1000000):SW (sqrtL a p):=⟨by unfold sqrtL;rw[qb7];exact w,bld_W fun _ _ _=>qua⟩
end Go.Abs.W
