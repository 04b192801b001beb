/- Parts of the proof: FpWs, FpWt, FpWu, FpWv, FpWy. -/
import Derived.Test.YtnkijamajifgpaaGreatDoorWn
import Derived.Test.YtnkijamajifgpaaGreatDoorWm
import Derived.Test.YtnkijamajifgpaaGreatDoorWf
namespace Go.Abs.W
def sgR (t:Bool):Rat:=if t=true then 1 else -1
def endR (t:Bool)(x:Iv):Rat:=if t=true then x.hi.rat else -x.lo.rat
def innR (t:Bool)(x:Iv):Rat:=if t=true then x.lo.rat else -x.hi.rat
def FnS (t c:Bool)(u:Nat->Rat):Nat->Rat:=fun n=>sgR t*Fn c u n
def kT (t c:Bool):Nat:=if t=true then(if c=true then 0 else 1)else(if c=true then 2 else 3)
def rT (t:Bool):Int:=if t=true then 1 else 3
theorem rT_kT {t c:Bool}{k:Int}:(k+(if c=true then 1 else 0))%4=rT t↔k%4=(kT t c:Int):=by
 unfold rT kT;cases t<;>cases c<;>simp<;>omega
theorem qaht {t c:Bool}{k:Int}(h:k%4=(kT t c:Int)):Near (Fn c fun n=>(k:Rat)*hpi n) (fun _=>sgR t):=by
 have b0:Bnd (cK 0):=qzy 0;obtain⟨p,q⟩:=qqt b0 k;have e:(fun n=>cK 0 n+(k:Rat)*hpi n)=fun n=>(k:Rat)*hpi n:=funext fun n=>by show 0+_=_;grind
 rw[e,qaf6,qadc]at p q;unfold kT at h;unfold Fn sgR;rcases qqq k with ⟨m,a,b⟩|⟨m,a,b⟩|⟨m,a,b⟩|⟨m,a,b⟩<;>rw[a,b]at p q<;>cases t<;>cases c<;>simp at h<;>first
  | (exfalso;omega)
  |exact p.trans (Near.of_eq fun n=>by grind)
  |exact q.trans (Near.of_eq fun n=>by grind)
theorem qpp {x:Iv}{t c:Bool}{u:Nat->Rat}(k:x.known=true)(h:x.Has (Fn c u)):SLe (fun _=>innR t x) (FnS t c u)/\SLe (FnS t c u) (fun _=>endR t x):=by
 obtain⟨a,b⟩:=qed k h;unfold innR endR FnS sgR;cases t
 ·simp only[Bool.false_eq_true,if_false];refine⟨fun ε he=>?_,fun ε he=>?_⟩
  ·obtain⟨N,hN⟩:=b ε he;exact⟨N,fun n hn=>by have:=hN n hn;grind⟩
  ·obtain⟨N,hN⟩:=a ε he;exact⟨N,fun n hn=>by have:=hN n hn;grind⟩
 ·simp only[if_true];refine⟨fun ε he=>?_,fun ε he=>?_⟩
  ·obtain⟨N,hN⟩:=a ε he;exact⟨N,fun n hn=>by have:=hN n hn;grind⟩
  ·obtain⟨N,hN⟩:=b ε he;exact⟨N,fun n hn=>by have:=hN n hn;grind⟩
theorem qqs {x:Iv}{n:Nat}{t:Bool}(h:x.hi.val-x.lo.val<=pw (16388-n))(h4:4<=n)(hn:n<=1000):endR t x<=innR t x+ulp 0 (n-4):=by
 have c:=qav h;have e:((pw (16384+0-(n-4)):Int):Rat)=ulp 0 (n-4)*sc:=qn7 (t:=0) (p:=n-4) (by omega);rw[show 16384+0-(n-4)=16388-n by omega]at e;rw[e,Rat.intCast_sub,<-qay,<-qay]at c;have hs:=qbf;have:x.hi.rat<=x.lo.rat+ulp 0 (n-4):=Rat.le_of_mul_le_mul_right (c:=sc) (by grind) hs;unfold endR innR;cases t
 ·simp only[Bool.false_eq_true,if_false];grind
 ·simp only[if_true];exact this
theorem qahq {x:Iv}(w:x.W)(k:x.known=true)(tl:x.lo.top<=6)(th:x.hi.top<=6)(h:(x.wid 64).2≠0\/0<=(x.wid 64).1.cmp (nD 7)):x.lo.rat+69/10<=x.hi.rat:=by
 obtain⟨ol,oh⟩:=qai w k;have e:x.wid 64=rAdd x.hi x.lo.neg' 64 true:=by unfold Iv.wid;rw[k,if_pos (by decide)]
 have up:=qob (p:=64) oh (qa9 ol) (by decide);have le:=qap w k;have v:x.hi.val+x.lo.neg'.val=x.hi.val-x.lo.val:=by rw[qco];omega
 rw[v]at up;obtain⟨a1,a2⟩:=q4c (t:=6) (qay x.lo).symm (qme ol (t:=6) (by omega));obtain⟨b1,b2⟩:=q4c (t:=6) (qay x.hi).symm (qme oh (t:=6) (by omega));have p7:pw (16384+7)=2*pw (16384+6):=qcj _;have q:=qaw (16384+6);obtain⟨u1,u2⟩:=up.err (m:=16384+7) (by decide) (by omega) (by omega) (by omega);rw[show((64:Int).toNat)=64 from rfl,show 16384+7-64=16327 from rfl]at u2;rw[e]at h;rcases h with h|h
 ·exact absurd u1 h
 ·have o:(rAdd x.hi x.lo.neg' 64 true).1.Ok:=rAdd_ok;rw[qie o nD7]at h;have v7:(nD 7).val=7*pw 16384:=qq3;rw[v7]at h;have h7:7*pw 16384<=(rAdd x.hi x.lo.neg' 64 true).1.val:=by
   unfold cmpI at h;split at h
   ·omega
   ·omega
  have h8:7*pw 16384<=x.hi.val-x.lo.val+pw 16327:=by omega
  have c:=qav h8;have e2:((pw (16384+0-57):Int):Rat)=ulp 0 57*sc:=qn7 (t:=0) (p:=57) (by omega);rw[show 16384+0-57=16327 from rfl]at e2;rw[Rat.intCast_add,Rat.intCast_sub,Rat.intCast_mul,e2,<-qay,<-qay,show((pw 16384:Int):Rat)=sc from rfl,show((7:Int):Rat)=7 from rfl]at c;have hs:=qbf;have u57:ulp 0 57<=1/1024:=by
   have e3:ulp 0 57=(p2 57)⁻¹:=qc5 (by omega);have:=qdz (qa4 10) (show p2 10<=p2 57 from qak (Nat.pow_le_pow_right (by omega) (by omega)));rw[show p2 10=1024 from rfl]at this;rw[e3];grind
  have:7<=x.hi.rat-x.lo.rat+ulp 0 57:=Rat.le_of_mul_le_mul_right (c:=sc) (by grind) hs;grind
theorem qabx {x:Iv}{c t:Bool}{n:Nat}(w:x.W)(k:x.known=true)(tl:x.lo.top<=6)(th:x.hi.top<=6)(hp:precB (n:Int)=true) :
 (endR t (bothI x c n)=1/\x.lo.rat+69/10<=x.hi.rat)\/(endR t (bothI x c n)=1/\qb2 x (kT t c) (n+64)=true) \/
 ((x.lo=x.hi\/qb2 x (kT t c) (n+64)=false)/\endR t (bothI x c n)<=1/\(endR t (bothI x c n)<=endR t (qbg x.lo c n)\/endR t (bothI x c n)<=endR t (qbg x.hi c n))/\(1<=endR t (qbg x.lo c n)->1<=endR t (bothI x c n))):=by
 obtain⟨ol,oh⟩:=qai w k;have un:endR t unitI=1:=by
  unfold endR;cases t
  ·simp only[Bool.false_eq_true,if_false];show -(nD (-1)).rat=1;rw[qq2];grind
  ·simp only[if_true];show(nD 1).rat=1;exact qog
 by_cases hw:(x.wid 64).2≠0\/0<=(x.wid 64).1.cmp (nD 7)
 ·left;have e:bothI x c n=unitI:=by
   unfold bothI;rw[hp,k,if_pos (show(true&&true)=true from rfl),if_neg (show ¬(100<x.lo.top\/100<x.hi.top) by omega),if_pos hw]
  rw[e];exact⟨un,qahq w k tl th hw⟩
 ·right;have wA:(qbg x.lo c n).W:=qke ol.w;have wB:(qbg x.hi c n).W:=qke oh.w;obtain⟨bA,hA⟩:=qis (c:=c) ol hp (show x.lo.top<=128 by omega);obtain⟨bB,hB⟩:=qis (c:=c) oh hp (show x.hi.top<=128 by omega);rw[show((n:Int).toNat)=n from rfl]at bA hA bB hB;obtain⟨kC,v1,v2⟩:=qph wA wB bA.k bB.k;have hh:((qbg x.lo c n).hull (qbg x.hi c n)).Has (Fn c (cK x.lo.rat)):=by
   obtain⟨s1,s2⟩:=qed bA.k hA;refine qr5 (wA.hull wB) fun _=>⟨?_,?_⟩
   ·exact(SLe.of_le 0 fun _ _=>rat_le.2 (by omega)).trans s1
   ·exact s2.trans (SLe.of_le 0 fun _ _=>rat_le.2 (by omega))
  have mb:=qaet (wA.hull wB) q7u (.inr kC) (.inr qr3) hh (q7v (c:=c) (qzy x.lo.rat));unfold meetB at mb;obtain⟨y,hy⟩:=Option.isSome_iff_exists.1 mb;obtain⟨y1,y2⟩:=qpy (wA.hull wB) kC hy;have eB:bothI x c n=if x.lo.cmp x.hi=0 then y else⟨if qb2 x (if c then 2 else 3) (n+64)=true then nD (-1)else y.lo,if qb2 x (if c then 0 else 1) (n+64)=true then nD 1 else y.hi,y.all⟩:=by
   unfold bothI;rw[hp,k,if_pos (show(true&&true)=true from rfl),if_neg (show ¬(100<x.lo.top\/100<x.hi.top) by omega),if_neg hw];show(match ((qbg x.lo c n).hull (qbg x.hi c n)).meet unitI with
    |none=>unitI
    |some y=>_)=_
   rw[hy];rfl
  rw[v1]at y1;rw[v2]at y2;have hs:=qbf;have one:(nD 1).rat=1:=qog;have one':(nD (-1)).rat=-1:=qq2;have vo:(nD 1).val=pw 16384:=unit_vals.2;have vm:(nD (-1)).val=-pw 16384:=unit_vals.1;have fy:endR t y<=1/\(endR t y<=endR t (qbg x.lo c n)\/endR t y<=endR t (qbg x.hi c n))/\(1<=endR t (qbg x.lo c n)->1<=endR t y):=by
   generalize qbg x.lo c n=A at *
   generalize qbg x.hi c n=B at *
   unfold endR;cases t
   ·simp only[Bool.false_eq_true,if_false];refine⟨?_,?_,fun h=>?_⟩
    ·have:(nD (-1)).rat<=y.lo.rat:=rat_le.2 (by omega);grind
    ·rcases(by omega:A.lo.val<=y.lo.val\/B.lo.val<=y.lo.val)with h|h
     ·left;have:=rat_le.2 h;grind
     ·right;have:=rat_le.2 h;grind
    ·have h1:A.lo.val<=(nD (-1)).val:=rat_le.1 (by grind);have:y.lo.rat<=(nD (-1)).rat:=rat_le.2 (by omega);grind
   ·simp only[if_true];refine⟨?_,?_,fun h=>?_⟩
    ·have:y.hi.rat<=(nD 1).rat:=rat_le.2 (by omega);grind
    ·rcases(by omega:y.hi.val<=A.hi.val\/y.hi.val<=B.hi.val)with h|h
     ·left;exact rat_le.2 h
     ·right;exact rat_le.2 h
    ·have h1:(nD 1).val<=A.hi.val:=rat_le.1 (by grind);have:(nD 1).rat<=y.hi.rat:=rat_le.2 (by omega);grind
  rw[eB];by_cases h0:x.lo.cmp x.hi=0
  ·rw[if_pos h0];exact .inr ⟨.inl ((quk ol oh).1 h0),fy⟩
  ·rw[if_neg h0];cases hm:qb2 x (kT t c) (n+64)
   ·right;refine⟨.inr rfl,?_⟩;have e:endR t ⟨if qb2 x (if c then 2 else 3) (n+64)=true then nD (-1)else y.lo,if qb2 x (if c then 0 else 1) (n+64)=true then nD 1 else y.hi,y.all⟩=endR t y:=by
     unfold kT at hm;unfold endR;cases t
     ·simp only[Bool.false_eq_true,if_false]at hm ⊢;rw[hm];rfl
     ·simp only[if_true]at hm ⊢;rw[hm];rfl
    rw[e];exact fy
   ·left;refine⟨?_,rfl⟩;unfold kT at hm;unfold endR;cases t
    ·simp only[Bool.false_eq_true,if_false]at hm ⊢;rw[hm];show -(nD (-1)).rat=1;rw[one'];grind
    ·simp only[if_true]at hm ⊢;rw[hm];exact one
theorem qaff {k:Int}{t c:Bool}{q δ:Rat}(hk:k%4=(kT t c:Int))(δ1:δ<=1)(h:∃N,∀n,N<=n->Bd ((k:Rat)*hpi n-q) δ):LBd (fun n=>Fn c (cK q) n-sgR t) (fun _=>3*δ):=by
 obtain⟨N,hN⟩:=h;have bk:Bnd (fun n=>(k:Rat)*hpi n):=(Bnd.const _).mul hpi_bnd;obtain⟨l1,l2⟩:=qalx (v:=cK q) bk (qzy q) δ1 N hN;have L:LBd (fun n=>Fn c (fun n=>(k:Rat)*hpi n) n-Fn c (cK q) n) (fun _=>3*δ):=by
  cases c
  ·exact l2
  ·exact l1
 have tv:=qaht (t:=t) (c:=c) hk;refine L.neg.near ?_;exact tv.neg.congr fun n=>by grind
theorem qabe {d:Dy}{c t:Bool}{n:Nat}{k:Int}(ok:d.Ok)(hp:precB (n:Int)=true)(hn:n<=64)(ht:d.top<=6)(hk:k%4=(kT t c:Int))(hk2:k.natAbs<=140)(h1:d.rat-ulp 0 160<=(k:Rat)*hR)(h2:(k:Rat)*hR<=d.rat+ulp 0 160):1<=endR t (qbg d c n):=by
 have hpp:=precB_iff.1 hp;have u:=qmf 0 160;have e160:ulp 0 160=(p2 160)⁻¹:=qc5 (by omega);have u1:ulp 0 160<=1/1024:=by
  have:=qdz (qa4 10) (show p2 10<=p2 160 from qak (Nat.pow_le_pow_right (by omega) (by omega)));rw[show p2 10=1024 from rfl]at this;rw[e160];grind
 obtain⟨r1,r2⟩:=hR_bd;by_cases hm:d.m=[]
 ·have z:=qfp hm;rw[z]at h1 h2;have k0:k=0:=by
   rcases Int.lt_trichotomy k 0 with h|h|h
   ·exfalso;have c1:=qav (show k<=-1 by omega);rw[Rat.intCast_neg,show((1:Int):Rat)=1 from rfl]at c1;have:=mul_nn (show 0<=-1-(k:Rat) by grind) (show 0<=hR by grind);grind
   ·exact h
   ·exfalso;have c1:=qav (show 1<=k by omega);rw[show((1:Int):Rat)=1 from rfl]at c1;have:=mul_nn (show 0<=(k:Rat)-1 by grind) (show 0<=hR by grind);grind
  subst k0;have e:t=true/\c=true:=by
   unfold kT at hk;cases t<;>cases c<;>simp at hk ⊢
  obtain⟨rfl,rfl⟩:=e;unfold qbg endR;rw[if_pos hm,if_pos rfl,if_pos rfl];show 1<=(nD 1).rat;rw[qog];grind
 ·have near:∃N,∀m,N<=m->Bd ((k:Rat)*hpi m-d.rat) (2*ulp 0 160):=by
   obtain⟨N,hN⟩:=qut (k:=k) (by omega);refine⟨N,fun m hm=>?_⟩;obtain⟨a,b⟩:=hN m hm;constructor<;>grind
  obtain⟨N,hN⟩:=qaff (t:=t) (c:=c) hk (show 2*ulp 0 160<=1 by grind) near (ulp 0 160) u;obtain⟨M,hM⟩:=q0q (c:=c) ok (b:=n+64) (by omega) (by omega) (show d.top<=128 by omega);have f1:Bd (Fn c (cK d.rat) (max N M)-sgR t) (3*(2*ulp 0 160)+ulp 0 160):=hN (max N M) (by omega);have f2:=hM (max N M) (by omega);obtain⟨n1,n2⟩:=qaea (c:=c) ok (b:=n+64) (by omega) (by omega) (show d.top<=128 by omega);have B0:=qa4 (n+64);have ub:ulp 0 160*p2 (n+64)<=1:=by
   have l:p2 (n+64)<=p2 160:=qak (Nat.pow_le_pow_right (by omega) (by omega));have i:=qa0 (qa4 160);have m:=mul_nn (show 0<=p2 160-p2 (n+64) by grind) (Rat.le_of_lt (Rat.inv_pos.2 (qa4 160)));rw[e160];grind
  have hin:(Iv.near (pSel d c (n+64)) (n+64) n).In (sgR t):=by
   refine qaek hp n2 (by omega) ?_;generalize Fn c (cK d.rat) (max N M)=F at *
   obtain⟨a1,a2⟩:=f1;obtain⟨b1,b2⟩:=f2;have m1:=mul_nn (show 0<=F-sgR t+7*ulp 0 160 by grind) (Rat.le_of_lt B0);have m2:=mul_nn (show 0<=7*ulp 0 160-(F-sgR t) by grind) (Rat.le_of_lt B0);constructor<;>grind
  have bA:=(qis (c:=c) ok hp (show d.top<=128 by omega)).1;rw[show((n:Int).toNat)=n from rfl]at bA;have eP:qbg d c n=Iv.near (pSel d c (n+64)) (n+64) n:=by unfold qbg;rw[if_neg hm]
  rw[<-eP]at hin;obtain⟨i1,i2⟩:=hin bA.k;rw[<-qay]at i1 i2;have j1:=Rat.le_of_mul_le_mul_right i1 qbf;have j2:=Rat.le_of_mul_le_mul_right i2 qbf;unfold sgR at j1 j2;unfold endR;cases t
  ·simp only[Bool.false_eq_true,if_false]at j1 j2 ⊢;grind
  ·simp only[if_true]at j1 j2 ⊢;exact j2
theorem q0z {a b:Dy}(oa:a.Ok)(ob:b.Ok):((a.lo2 b).rat=a.rat\/(a.lo2 b).rat=b.rat)/\(a.lo2 b).rat<=a.rat/\(a.lo2 b).rat<=b.rat:=by
 have v:=qdv oa ob;refine⟨?_,rat_le.2 (by omega),rat_le.2 (by omega)⟩;unfold Dy.lo2;split
 ·exact .inl rfl
 ·exact .inr rfl
def refI (t:Bool)(x:Iv)(c:Bool):Iv:=if t=true then mostI x c else ql0 x c
theorem qadr {x:Iv}{c t:Bool}(h:tA c (rT t) (tFrom x) (tN x)=true):innR t (refI t x c)=1/\endR t (refI t x c)=1:=by
 have one:(nD 1).rat=1:=qog;have one':(nD (-1)).rat=-1:=qq2;unfold innR endR refI;cases t
 ·simp only[Bool.false_eq_true,if_false];unfold ql0;rw[show tA c 3 (tFrom x) (tN x)=true from h,if_pos rfl];show -(nD (-1)).rat=1/\-(nD (-1)).rat=1;rw[one'];constructor<;>grind
 ·simp only[if_true];unfold mostI;rw[show tA c 1 (tFrom x) (tN x)=true from h,if_pos rfl];exact⟨one,one⟩
theorem qamx {x:Iv}{c t:Bool}(kl:(rF c x.lo).known=true)(kh:(rF c x.hi).known=true)(h:tA c (rT t) (tFrom x) (tN x)=false) :
 (innR t (refI t x c)=innR t (rF c x.lo)\/innR t (refI t x c)=innR t (rF c x.hi))/\endR t (rF c x.lo)<=endR t (refI t x c)/\endR t (rF c x.hi)<=endR t (refI t x c):=by
 obtain⟨l1,l2⟩:=qai rF_W kl;obtain⟨h1,h2⟩:=qai rF_W kh;unfold innR endR refI;cases t
 ·simp only[Bool.false_eq_true,if_false];unfold ql0;rw[show tA c 3 (tFrom x) (tN x)=false from h,if_neg (by decide)];obtain⟨a1,a2,a3⟩:=q0z l1 h1;obtain⟨b1,b2,b3⟩:=q0z l2 h2;show(-((rF c x.lo).hi.lo2 (rF c x.hi).hi).rat=_\/-((rF c x.lo).hi.lo2 (rF c x.hi).hi).rat=_)/\_<=-((rF c x.lo).lo.lo2 (rF c x.hi).lo).rat/\_<=-((rF c x.lo).lo.lo2 (rF c x.hi).lo).rat;refine⟨?_,by grind,by grind⟩;rcases b1 with e|e<;>rw[e]
  ·exact .inl rfl
  ·exact .inr rfl
 ·simp only[if_true];unfold mostI;rw[show tA c 1 (tFrom x) (tN x)=false from h,if_neg (by decide)];obtain⟨a1,a2,a3⟩:=q0z (qa9 l1) (qa9 h1);obtain⟨b1,b2,b3⟩:=q0z (qa9 l2) (qa9 h2);simp only[qgz]at a1 a2 a3 b1 b2 b3;show(((rF c x.lo).lo.neg'.lo2 (rF c x.hi).lo.neg').neg'.rat=_\/((rF c x.lo).lo.neg'.lo2 (rF c x.hi).lo.neg').neg'.rat=_)/\_<=((rF c x.lo).hi.neg'.lo2 (rF c x.hi).hi.neg').neg'.rat/\_<=((rF c x.lo).hi.neg'.lo2 (rF c x.hi).hi.neg').neg'.rat;rw[qgz,qgz];refine⟨?_,by grind,by grind⟩;rcases a1 with e|e<;>rw[e]
  ·left;grind
  ·right;grind
theorem qo8 {a b:Nat}(h:a<=b):ulp 0 b<=ulp 0 a:=by
 have e1:ulp 0 a=(p2 a)⁻¹:=qc5 (by omega);have e2:ulp 0 b=(p2 b)⁻¹:=qc5 (by omega);rw[e1,e2];exact qdz (qa4 a) (qak (Nat.pow_le_pow_right (by omega) h))
theorem qajm {x:Iv}{c t:Bool}{n:Nat}(w:x.W)(k:x.known=true)(hp:precB (n:Int)=true):endR t (bothI x c n)<=1:=by
 have q:=q2g (c:=c) w hp k;have hs:=qbf;have e:((pw 16384:Int):Rat)=sc:=rfl;unfold endR;cases t
 ·simp only[Bool.false_eq_true,if_false];have h:=qav q.lo;rw[Rat.intCast_neg,e,<-qay]at h;have:=Rat.le_of_mul_le_mul_right (a:=-1) (b:=(bothI x c n).lo.rat) (c:=sc) (by grind) hs;grind
 ·simp only[if_true];have h:=qav q.hi;rw[e,<-qay]at h;exact Rat.le_of_mul_le_mul_right (c:=sc) (by grind) hs
theorem qzz {x:Iv}{c:Bool}{n:Nat}(w:x.W)(k:x.known=true)(hp:precB (n:Int)=true):(bothI x c n).known=true:=by
 have q:=q2g (c:=c) w hp k;have e:bothI x c n=⟨(bothI x c n).lo,(bothI x c n).hi,false⟩:=by
  have:=q.al;rcases h:bothI x c n with ⟨a,b,d⟩;rw[h]at this;simp only at this;rw[this]
 rw[e];exact qbj q.ol q.oh q.le
set_option maxHeartbeats 1000000 in
theorem qy0 {x:Iv}{c t:Bool}{n:Nat}(w:x.W)(k:x.known=true)(tl:x.lo.top<=6)(th:x.hi.top<=6)(hp:precB (n:Int)=true)(hn:n<=64) :
 innR t (refI t x c)<=endR t (bothI x c n)/\endR t (bothI x c n)<=endR t (refI t x c)+ulp 0 (n-8):=by
 have hpp:=precB_iff.1 hp;obtain⟨ol,oh⟩:=qai w k;have le:x.lo.rat<=x.hi.rat:=rat_le.2 (qap w k);have kS:=qzz (c:=c) w k hp;have one:=qajm (c:=c) (t:=t) w k hp;have kl:=(rF_Bw (c:=c) ol (by omega)).k;have kh:=(rF_Bw (c:=c) oh (by omega)).k;have u8:=qmf 0 (n-8);have u160:=qmf 0 160;have u84:=qo8 (show n-8<=n-4 by omega);have SL:=(qpp (t:=t) kS (q95 (c:=c) (u:=cK x.lo.rat) w hp k (SLe.of_le 0 fun _ _=>Rat.le_refl) (SLe.of_le 0 fun _ _=>le))).2;have SH:=(qpp (t:=t) kS (q95 (c:=c) (u:=cK x.hi.rat) w hp k (SLe.of_le 0 fun _ _=>le) (SLe.of_le 0 fun _ _=>Rat.le_refl))).2;obtain⟨RL1,RL2⟩:=qpp (t:=t) kl (qak2 (c:=c) ol (by omega));obtain⟨RH1,RH2⟩:=qpp (t:=t) kh (qak2 (c:=c) oh (by omega));have cs:=qabx (c:=c) (t:=t) w k tl th hp;obtain⟨K,N,hK⟩:=q3z (x:=x) (k:=kT t c) (p:=n+64) ol oh (by omega) (by omega) (by omega) (by omega) (by unfold kT;split<;>split<;>omega);generalize endR t (bothI x c n)=M at *
 cases hf:tA c (rT t) (tFrom x) (tN x)
 · -- the reference finds none
   obtain⟨e1,e2,e3⟩:=qamx (t:=t) kl kh hf;generalize innR t (refI t x c)=I at *
   generalize endR t (refI t x c)=O at *
   refine⟨?_,?_⟩
   ·rcases e1 with e|e<;>rw[e]
    ·exact SLe.const (RL1.trans SL)
    ·exact SLe.const (RH1.trans SH)
   ·rcases cs with ⟨_,wide⟩|⟨h1,hm⟩|⟨_,_,hM,_⟩
    ·have:=qaaw (c:=c) (r:=rT t) ol oh tl th (by unfold rT;split<;>omega) wide;rw[hf]at this;cases this
    · -- the program finds one beside the interval
      have⟨T,hT⟩:∃T:Int,T=(kT t c:Int)+4*K:=⟨_,rfl⟩
      rw[<-hT]at hK;have hTm:T%4=(kT t c:Int):=by unfold kT at hT ⊢;cases t<;>cases c<;>simp at hT ⊢<;>omega
      have g:(p2 (n+64+11))⁻¹<=ulp 0 83:=by
       have e:ulp 0 (n+64+11)=(p2 (n+64+11))⁻¹:=qc5 (by omega);rw[<-e];exact qo8 (by omega)
      have u83:=qmf 0 83;have l83:ulp 0 160<=ulp 0 83:=qo8 (by omega);have s83:64*ulp 0 83<=ulp 0 (n-8):=by
       have e:=qz6 (p:=83) (k:=77) (by omega);rw[show p2 (83-77)=64 from rfl]at e;have:=qo8 (show n-8<=77 by omega);grind
      have o83:ulp 0 83<=1/1024:=by
       have e1:ulp 0 83=(p2 83)⁻¹:=qc5 (by omega);have:=qdz (qa4 10) (show p2 10<=p2 83 from qak (Nat.pow_le_pow_right (by omega) (by omega)));rw[show p2 10=1024 from rfl]at this;rw[e1];grind
      have hT2:T.natAbs<=200:=by
       obtain⟨_,b1,_,b2⟩:=hK N (Nat.le_refl _);have b2:=b2 hm;have D1:=qme ol (t:=6) (by omega);have D2:=qme oh (t:=6) (by omega);rw[show p2 6=64 from rfl]at D1 D2;obtain⟨q1,q2⟩:=D1;obtain⟨q3,q4⟩:=D2;obtain⟨z1,z2⟩:=qn3 N;have l1:(-140:Int)<=T:=by
        rcases Int.lt_or_le T (-140)with h|h
        ·exfalso;have c1:=qav (show T<=-140 by omega);have c2:(T:Rat)<=-140:=c1;have:=mul_nn (show 0<=-140-(T:Rat) by grind) (show 0<=hpi N by grind);grind
        ·exact h
       have l2:T<=(140:Int):=by
        rcases Int.lt_or_le 140 T with h|h
        ·exfalso;have c1:=qav (show 140<=T by omega);have c2:(140:Rat)<=T:=c1;have:=mul_nn (show 0<=(T:Rat)-140 by grind) (show 0<=hpi N by grind);grind
        ·exact h
       omega
      obtain⟨N2,hN2⟩:=qut hT2;have beside:∀q:Rat,(∃N,∀m,N<=m->Bd ((T:Rat)*hpi m-q) (2*ulp 0 83))->SLe (FnS t c (cK q)) (fun _=>O)->M<=O+ulp 0 (n-8):=fun q hq hO=>by
       have L:=qaff (t:=t) (c:=c) hTm (show 2*ulp 0 83<=1 by grind) hq;rw[h1];have:SLe (fun _=>1-3*(2*ulp 0 83)) (FnS t c (cK q)):=fun ε he=>by
        obtain⟨N,hN⟩:=L ε he;refine⟨N,fun m hm=>?_⟩;have f:Bd (Fn c (cK q) m-sgR t) (3*(2*ulp 0 83)+ε):=hN m hm;obtain⟨a,b⟩:=f;show 1-3*(2*ulp 0 83)<=sgR t*Fn c (cK q) m+ε;unfold sgR at a b ⊢;cases t
        ·simp only[Bool.false_eq_true,if_false]at a b ⊢;grind
        ·simp only[if_true]at a b ⊢;grind
       have:=SLe.const (this.trans hO);grind
      rcases(inferInstance:Decidable ((T:Rat)*hR<=x.hi.rat))with a1|a1
      ·refine beside x.hi.rat ⟨max N N2,fun m hm2=>?_⟩ (RH2.trans (SLe.of_le 0 fun _ _=>e3));obtain⟨_,b1,_,_⟩:=hK m (by omega);obtain⟨c1,c2⟩:=hN2 m (by omega);constructor<;>grind
      ·rcases(inferInstance:Decidable (x.lo.rat<=(T:Rat)*hR))with a2|a2
       ·refine beside x.lo.rat ⟨max N N2,fun m hm2=>?_⟩ (RL2.trans (SLe.of_le 0 fun _ _=>e2));obtain⟨_,_,_,b1⟩:=hK m (by omega);have b1:=b1 hm;obtain⟨c1,c2⟩:=hN2 m (by omega);constructor<;>grind
       ·have:=tA_found.2 ⟨T,q7y ol tl a2,q7z oh th a1,rT_kT.2 hTm⟩;rw[hf]at this;cases this
    ·obtain⟨_,wl⟩:=qy4 (c:=c) ol hp (show x.lo.top<=128 by omega);obtain⟨_,wh⟩:=qy4 (c:=c) oh hp (show x.hi.top<=128 by omega);obtain⟨bA,hA⟩:=qis (c:=c) ol hp (show x.lo.top<=128 by omega);obtain⟨bB,hB⟩:=qis (c:=c) oh hp (show x.hi.top<=128 by omega);rw[show((n:Int).toNat)=n from rfl]at bA hA bB hB;have gA:=(qpp (t:=t) bA.k hA).1;have gB:=(qpp (t:=t) bB.k hB).1;have rA:=qqs (t:=t) wl (by omega) (by omega);have rB:=qqs (t:=t) wh (by omega) (by omega);rcases hM with h|h
     ·have:=SLe.const (gA.trans (RL2.trans (SLe.of_le 0 fun _ _=>e2)));grind
     ·have:=SLe.const (gB.trans (RH2.trans (SLe.of_le 0 fun _ _=>e3)));grind
 · -- the reference finds one
   obtain⟨e1,e2⟩:=qadr (t:=t) hf;rw[e1,e2];refine⟨?_,by grind⟩;rcases cs with ⟨h,_⟩|⟨h,_⟩|⟨hh,_,_,hP⟩
   ·grind
   ·grind
   ·obtain⟨T,t1,t2,t3⟩:=tA_found.1 hf;obtain⟨b1,b2,b3⟩:=qaax ol oh tl th t1 t2;have hTm:=(rT_kT (t:=t) (c:=c)).1 t3;rcases hh with hh|hm
    ·refine hP (qabe ol hp hn tl hTm b3 b1 ?_);rw[hh];exact b2
    ·exfalso;obtain⟨N2,hN2⟩:=qut (k:=T) (by omega);obtain⟨a1,_,a2,_⟩:=hK (max N N2) (by omega);have a2:=a2 hm;obtain⟨c1,c2⟩:=hN2 (max N N2) (by omega);have g:4*ulp 0 160<=(p2 (n+64+13))⁻¹:=by
      have e:ulp 0 (n+64+13)=(p2 (n+64+13))⁻¹:=qc5 (by omega);have e2:=qz6 (p:=160) (k:=158) (by omega);rw[show p2 (160-158)=4 from rfl]at e2;have:=qo8 (show n+64+13<=158 by omega);rw[<-e];grind
     obtain⟨z1,z2⟩:=qn3 (max N N2);generalize hpi (max N N2)=h at *
     have d1:(((kT t c:Int)+4*K:Int):Rat)*h<(T:Rat)*h:=by grind
     have d2:(T:Rat)*h<(((kT t c:Int)+4*K+4:Int):Rat)*h:=by grind
     have f1:=Rat.intCast_lt_intCast.1 (Rat.lt_of_mul_lt_mul_right d1 (by grind));have f2:=Rat.intCast_lt_intCast.1 (Rat.lt_of_mul_lt_mul_right d2 (by grind));omega
theorem q8r {d:Dy}(ok:d.Ok):(rAtan d 150).Bt (-Bw 20000) (Bw 20000):=by
 have hp:precB ((190:Nat):Int)=true:=by decide
 have b3:=(qvb (w:=190) ok hp).1;have w3:(hvN (190:Nat) (rAtY d (190:Nat)) 3).W:=hvN_W (q8s ok) 3;have a:=qam4 (p:=190) w3 hp (by decide) b3;have p0:=qaw 16384;have kA:=a.k;have e:(rArc (hvN (190:Nat) (rAtY d (190:Nat)) 3) (190:Nat)).scl 3=rAtX d (190:Nat):=rfl;have cap:∀v:Int,-Bw 16016<=v->v<=Bw 16016->v.natAbs<capN:=fun v h1 h2=>by
  have l:=pw_lt_iff.2 (show 16384+15<capE by unfold capE;omega);have e1:pw (16384+15)=32768*pw 16384:=by rw[Nat.add_comm,qbh];rfl
  have e2:Bw 16016=16016*pw 16384:=rfl;have e3:pw capE=(capN:Int):=rfl;omega
 have e8:Bw 16016=8*Bw 2002:=by unfold Bw;omega
 have lo:=a.lo;have hi:=a.hi;have le:=qap qs2 kA;have X:(rAtX d (190:Nat)).Bt (-Bw 16016) (Bw 16016):=by
  rw[<-e];have s:=qap1 (k:=3) (a:=3) (b:=0) (U:=8*(rArc (hvN (190:Nat) (rAtY d (190:Nat)) 3) (190:Nat)).lo.val) (V:=8*(rArc (hvN (190:Nat) (rAtY d (190:Nat)) 3) (190:Nat)).hi.val) qs2 kA (by omega) (by omega) (by omega) (by rw[show pw 0=1 from rfl,show pw 3=8 from rfl];omega) (by rw[show pw 0=1 from rfl,show pw 3=8 from rfl];omega) (cap _ (by omega) (by omega)) (cap _ (by omega) (by omega));exact⟨s.1,by rw[s.2.1];omega,by rw[s.2.2];omega⟩
 have hH:half190.Bt (-Bw 2) (Bw 2):=by
  have n:=qkr;unfold q0w at n;simp only[Bool.and_eq_true,decide_eq_true_eq]at n;obtain⟨⟨⟨k,h1⟩,h2⟩,_⟩:=n;have q:=qaw 16383;have q2:=qaw 16385;exact⟨k,by rw[qaat];omega,by rw[qaat];exact h2⟩
 have Z:(rAtZ d 190).Bt (-Bw 20000) (Bw 20000):=by
  have m1:=qn2 (show(16016:Int)<=20000 by omega);have m2:=qn2 (show(16018:Int)<=20000 by omega);unfold rAtZ;split
  ·have s:=qxc (p:=190) (c:=16018) ql1 (neg_W q3k) hp (by decide) hH (q3t q3k X) (by decide) (by decide);exact s.mono (by omega) m2
  ·exact X.mono (by omega) m1
 have eA:rAtan d 150=if d.neg=true then(rAtZ d 190).neg else rAtZ d 190:=rfl;rw[eA];split
 ·exact q3t q3j Z
 ·exact Z
theorem qaau {d:Dy}(ok:d.Ok){k:Int}(hk:k<=32768)(h1:-Bw k<=d.val)(h2:d.val<=Bw k):d.top<=900:=by
 have e1:pw (16384+15)=Bw 32768:=by rw[Nat.add_comm,qbh];rfl
 have m:=qn2 hk;have:=q72 (t:=15) ok (by rw[e1];omega) (by rw[e1];omega);omega
theorem q7s {a b:Dy}{n:Nat}(h:a.rat<=b.rat+ulp 0 (n-8))(h8:8<=n)(hn:n<=1000):a.val<=b.val+pw (8-(n:Int)+16384).toNat:=by
 have e:((pw (16384+0-(n-8)):Int):Rat)=ulp 0 (n-8)*sc:=qn7 (t:=0) (p:=n-8) (by omega);rw[show(8-(n:Int)+16384).toNat=16384+0-(n-8) by omega];refine Rat.intCast_le_intCast.1 ?_;rw[Rat.intCast_add,e,<-qay,<-qay];have:=mul_nn (show 0<=b.rat+ulp 0 (n-8)-a.rat by grind) (Rat.le_of_lt qbf);grind
theorem qs1 {x:Iv}{c:Bool}{n:Nat}(w:x.W)(k:x.known=true)(tl:x.lo.top<=6)(th:x.hi.top<=6)(hp:precB (n:Int)=true)(hn:n<=64):CQ prog qhg [(bothI x c n).v,(ql0 x c).v,(mostI x c).v,.int .i64 (8-(n:Int))] (.bool true):=by
 have hpp:=precB_iff.1 hp;obtain⟨ol,oh⟩:=qai w k;obtain⟨a1,a2⟩:=qy0 (c:=c) (t:=true) w k tl th hp hn;obtain⟨b1,b2⟩:=qy0 (c:=c) (t:=false) w k tl th hp hn;simp only[innR,endR,refI,if_true,Bool.false_eq_true,if_false]at a1 a2 b1 b2;have fl:=rF_Bw (c:=c) ol (by omega);have fh:=rF_Bw (c:=c) oh (by omega);obtain⟨l1,l2⟩:=qai rF_W fl.k;obtain⟨h1,h2⟩:=qai rF_W fh.k;have lel:=qap rF_W fl.k;have leh:=qap rF_W fh.k;have u1:=unit_vals;have p0:=qaw 16384;have B1:=qn2 (show(1:Int)<=4002 by omega);rw[qxp]at B1;have L:(ql0 x c).W/\(ql0 x c).Bt (-Bw 4002) (Bw 4002):=by
  unfold ql0;split
  ·exact⟨pt_W nDm1.w,qpd nDm1,by show -Bw 4002<=(nD (-1)).val;omega,by show(nD (-1)).val<=_;omega⟩
  ·have v1:=qdv l1 h1;have v2:=qdv l2 h2;have o1:=qpz l1 h1;have o2:=qpz l2 h2;have q1:=fl.lo;have q2:=fl.hi;have q3:=fh.lo;have q4:=fh.hi;exact⟨⟨o1.w,o2.w⟩,qbj o1 o2 (by omega),by show _<=((rF c x.lo).lo.lo2 (rF c x.hi).lo).val;omega,by show((rF c x.lo).hi.lo2 (rF c x.hi).hi).val<=_;omega⟩
 have Mo:(mostI x c).W/\(mostI x c).Bt (-Bw 4002) (Bw 4002):=by
  unfold mostI;split
  ·exact⟨pt_W nD1.w,qpd nD1,by show -Bw 4002<=(nD 1).val;omega,by show(nD 1).val<=_;omega⟩
  ·have v1:=qdv (qa9 l1) (qa9 h1);have v2:=qdv (qa9 l2) (qa9 h2);have o1:=qa9 (qpz (qa9 l1) (qa9 h1));have o2:=qa9 (qpz (qa9 l2) (qa9 h2));rw[qco,qco]at v1 v2;have q1:=fl.lo;have q2:=fl.hi;have q3:=fh.lo;have q4:=fh.hi;exact⟨⟨o1.w,o2.w⟩,qbj o1 o2 (by rw[qco,qco];omega),by show _<=((rF c x.lo).lo.neg'.lo2 (rF c x.hi).lo.neg').neg'.val;rw[qco];omega,by show((rF c x.lo).hi.neg'.lo2 (rF c x.hi).hi.neg').neg'.val<=_;rw[qco];omega⟩
 obtain⟨wL,bL⟩:=L;obtain⟨wM,bM⟩:=Mo;have leL:=qap wL bL.k;have leM:=qap wM bM.k;have r1:=bL.lo;have r2:=bL.hi;have r3:=bM.lo;have r4:=bM.hi;refine q2y (bothI x c n) (ql0 x c) (mostI x c) (8-(n:Int)) (qall w) wL wM (qzz w k hp) bL.k bM.k (by omega) (by omega) (qaau (k:=4002) (qai wL bL.k).1 (by omega) r1 (by omega)) (qaau (k:=4002) (qai wM bM.k).2 (by omega) (by omega) r4) (rat_le.1 (by grind)) (rat_le.1 a1) ?_ (q7s a2 (by omega) (by omega));have:=q7s (a:=(ql0 x c).lo) (b:=(bothI x c n).lo) (n:=n) (by grind) (by omega) (by omega);omega
theorem q7e {x:Iv}{n:Nat}(w:x.W)(k:x.known=true)(hp:precB (n:Int)=true)(hn:n<=64):CQ prog qhg [(atanI x n).v,(rAtan x.lo 150).v,(rAtan x.hi 150).v,.int .i64 (8-(n:Int))] (.bool true):=by
 have hpp:=precB_iff.1 hp;obtain⟨ol,oh⟩:=qai w k;have le:x.lo.rat<=x.hi.rat:=rat_le.2 (qap w k);obtain⟨kS,hl⟩:=qaaa w hp k Rat.le_refl le;have hh:=(qaaa w hp k le Rat.le_refl).2;have bl:=q8r ol;have bh:=q8r oh;obtain⟨A1,A2⟩:=qed bl.k (q3i (p:=150) ol (by omega));obtain⟨B1,B2⟩:=qed bh.k (q3i (p:=150) oh (by omega));obtain⟨S1,_⟩:=qed kS hl;obtain⟨_,S2⟩:=qed kS hh;obtain⟨fl,wl⟩:=qz0 (n:=n) ol hp;obtain⟨fh,wh⟩:=qz0 (n:=n) oh hp;have al:=(qrq ol hp).2;have ah:=(qrq oh hp).2;rw[show((n:Int).toNat)=n from rfl]at al ah;obtain⟨L1,L2⟩:=qed fl.k al;obtain⟨H1,H2⟩:=qed fh.k ah;have wAl:(qbx x.lo n).W:=qkn ol.w;have wAh:(qbx x.hi n).W:=qkn oh.w;have e:atanI x n=(qbx x.lo n).hull (qbx x.hi n):=by
  unfold atanI;rw[hp,k,if_pos (show(true&&true)=true from rfl)];rfl
 obtain⟨_,v1,v2⟩:=qph wAl wAh fl.k fh.k;rw[<-e]at v1 v2;have mo:=q5w le;have u84:=qo8 (show n-8<=n-4 by omega);have wdl:=qqs (t:=true) wl (by omega) (by omega);have wdh:=qqs (t:=true) wh (by omega) (by omega);simp only[innR,endR,if_true]at wdl wdh;have lel:=qap qr9 bl.k;have leh:=qap qr9 bh.k;have r1:=bl.lo;have r2:=bl.hi;have r3:=bh.lo;have r4:=bh.hi;refine q2y (atanI x n) (rAtan x.lo 150) (rAtan x.hi 150) (8-(n:Int)) (qark w) qr9 qr9 kS bl.k bh.k (by omega) (by omega) (qaau (k:=20000) (qai qr9 bl.k).1 (by omega) r1 (by omega)) (qaau (k:=20000) (qai qr9 bh.k).2 (by omega) (by omega) r4) (rat_le.1 (SLe.const (S1.trans A2))) (rat_le.1 (SLe.const (B1.trans S2))) ?_ ?_
 ·have g1:=SLe.const (A1.trans L2);have g2:=SLe.const (A1.trans (mo.trans H2));have:(rAtan x.lo 150).lo.rat<=(atanI x n).lo.rat+ulp 0 (n-8):=by
   rcases(by omega:(qbx x.lo n).lo.val<=(atanI x n).lo.val\/(qbx x.hi n).lo.val<=(atanI x n).lo.val)with h|h
   ·have:=rat_le.2 h;grind
   ·have:=rat_le.2 h;grind
  have:=q7s this (by omega) (by omega);omega
 ·have g1:=SLe.const (L1.trans (mo.trans B2));have g2:=SLe.const (H1.trans B2);have:(atanI x n).hi.rat<=(rAtan x.hi 150).hi.rat+ulp 0 (n-8):=by
   rcases(by omega:(atanI x n).hi.val<=(qbx x.lo n).hi.val\/(atanI x n).hi.val<=(qbx x.hi n).hi.val)with h|h
   ·have:=rat_le.2 h;grind
   ·have:=rat_le.2 h;grind
  exact q7s this (by omega) (by omega)
theorem qahs {x:Iv}(ol:x.lo.Ok)(oh:x.hi.Ok)(tl:x.lo.top<=6)(th:x.hi.top<=6):-200<=tFrom x/\tTo x<=200:=by
 obtain⟨k1,⟨b1,b2⟩,_⟩:=tEnd ol tl;obtain⟨k2,_,⟨b3,b4⟩⟩:=tEnd oh th;obtain⟨f1,_⟩:=ql5 (qa9 (qai tQ_W k1).1);obtain⟨f2,_⟩:=ql5 (qai tQ_W k2).2;rw[qgz]at f1;have c1:qc8 (tQ x.lo).lo.neg'<=(128:Int):=Rat.intCast_le_intCast.1 (by show _<=(128:Rat);grind);have c2:qc8 (tQ x.hi).hi<=(128:Int):=Rat.intCast_le_intCast.1 (by show _<=(128:Rat);grind);unfold tFrom tTo;omega
set_option maxHeartbeats 4000000 in
theorem q6c (x:Iv)(p:Int)(lx:x.Lm)(hp:IntKind.u8.min<=p/\p<=IntKind.u8.max):CQ prog qn6 [x.v,.int .u8 p] (.bool true):=by
 refine qah rfl fun H=>?_
 have ca:=qab0;have c1:=qtd x.lo 6 lx.1;have c2:=qtd x.hi 6 lx.2;cases ha:x.all
 case true=>
  rcases x with ⟨xl,xh,xa⟩;simp only at ha;subst ha;simp;refine zq ca ?_;simp;refine zq ca ?_;simp
 cases h1:com10 x.lo 6
 case false=>
  rw[h1]at c1;rcases x with ⟨xl,xh,xa⟩;simp only at ha c1;subst ha;simp;refine zq ca ?_;simp;refine zq c1 ?_;simp;refine zq ca ?_;simp
 cases h2:com10 x.hi 6
 case false=>
  rw[h1]at c1;rw[h2]at c2;rcases x with ⟨xl,xh,xa⟩;simp only at ha c1 c2;subst ha;simp;refine zq ca ?_;simp;refine zq c1 ?_;simp;refine zq c2 ?_;simp;refine zq ca ?_;simp
 rw[h1]at c1;rw[h2]at c2;obtain⟨o1,e1,t1⟩:=qw2 lx.1 h1;obtain⟨o2,e2,t2⟩:=qw2 lx.2 h2;have w:x.W:=⟨o1.w,o2.w⟩
 have cv:=qz1 x w;by_cases out:3<x.lo.m.length\/3<x.hi.m.length\/x.lo.e < -100\/x.hi.e < -100
 ·rcases x with ⟨xl,xh,xa⟩;simp only at ha c1 c2 out;subst ha;simp[lim];refine zq ca ?_;simp;refine zq c1 ?_;simp;refine zq c2 ?_;by_cases q1:(3:Int)<(xl.m.length:Int)
  ·simp[q1];refine zq ca ?_;simp
  by_cases q2:(3:Int)<(xh.m.length:Int)
  ·simp[q1,q2];refine zq ca ?_;simp
  by_cases q3:xl.e < -100
  ·simp[q1,q2,q3];refine zq ca ?_;simp
  have q4:xh.e < -100:=by omega
  simp[q1,q2,q3,q4];refine zq ca ?_;simp
 have q1:¬(3:Int)<(x.lo.m.length:Int):=by omega
 have q2:¬(3:Int)<(x.hi.m.length:Int):=by omega
 have q3:¬x.lo.e < -100:=by omega
 have q4:¬x.hi.e < -100:=by omega
 cases hv:x.valid
 case false=>
  rw[hv]at cv;rcases x with ⟨xl,xh,xa⟩;simp only at ha c1 c2 q1 q2 q3 q4;subst ha;simp[lim];refine zq ca ?_;simp;refine zq c1 ?_;simp;refine zq c2 ?_;simp[q1,q2,q3,q4];refine zq cv ?_;simp;refine zq ca ?_;simp
 rw[hv]at cv;have k:x.known=true:=by simp[Iv.known,hv,ha]
 have cp:=qad6 p hp;obtain⟨n1,n2,hn⟩:=qaiw (p:=p);generalize hN:qvd p=N at *
 obtain⟨n,rfl⟩:∃n:Nat,N=(n:Int):=⟨N.toNat,by omega⟩
 obtain⟨d1,d2⟩:=qahs o1 o2 t1 t2;have r1:=qaal x false o1 o2 t1 t2 (rF_Bw (c:=false) o1 (by omega)).k (rF_Bw (c:=false) o2 (by omega)).k rF_W rF_W d1 d2;have r2:=qaal x true o1 o2 t1 t2 (rF_Bw (c:=true) o1 (by omega)).k (rF_Bw (c:=true) o2 (by omega)).k rF_W rF_W d1 d2;have s1:=qag6 x n w;have s2:=qalv x n w;have s3:=qahk x n w;have i1:=qs1 (c:=false) (n:=n) w k t1 t2 hn (by omega);have i2:=qs1 (c:=true) (n:=n) w k t1 t2 hn (by omega);have i3:=q7e (n:=n) w k hn (by omega);have a1:=q8q x.lo 150 o1 (by omega);have a2:=q8q x.hi 150 o2 (by omega);have ew:IntKind.i64.wrap (8-(n:Int))=8-(n:Int):=by rw[wrap_i64]<;>omega
 generalize bothI x false n=S at *
 generalize bothI x true n=C at *
 generalize atanI x n=A at *
 generalize ql0 x false=L1 at *
 generalize mostI x false=M1 at *
 generalize ql0 x true=L2 at *
 generalize mostI x true=M2 at *
 rcases x with ⟨xl,xh,xa⟩;simp only at ha c1 c2 q1 q2 q3 q4 a1 a2 i3;subst ha;generalize rAtan xl 150=R1 at *
 generalize rAtan xh 150=R2 at *
 simp[lim];refine zq ca ?_;simp;refine zq c1 ?_;simp;refine zq c2 ?_;simp[q1,q2,q3,q4];refine zq cv ?_;simp;refine zq cp ?_;simp;refine zq r1 ?_;simp;refine zq r2 ?_;simp;refine zq s1 ?_;simp[ew];refine zq i1 ?_;simp;refine zq s2 ?_;simp[ew];refine zq i2 ?_;simp;refine zq s3 ?_;simp;refine zq a1 ?_;simp;refine zq a2 ?_;simp[ew];refine zq i3 ?_;simp
end Go.Abs.W
