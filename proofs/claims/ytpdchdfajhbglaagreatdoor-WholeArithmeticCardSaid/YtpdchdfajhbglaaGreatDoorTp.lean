/- Parts of the proof: FpTop, FpTopC. -/
import Derived.Test.YtpdchdfajhbglaaGreatDoorXg
import Derived.Test.YtpdchdfajhbglaaGreatDoorVf
import Derived.Test.YtpdchdfajhbglaaGreatDoorHg
import Derived.Test.YtpdchdfajhbglaaGreatDoorSa
namespace Go.Abs.W
def num8 : Iv:=⟨nD (-8),nD 8,false⟩
theorem q87 : num8.W:=by
 have a:(nD (-8)).Ok:=nD_ok (by omega);have b:(nD 8).Ok:=nD_ok (by omega);unfold num8;exact⟨a.w,b.w⟩
theorem qafp : num8.known=true:=by decide +kernel
def one1 : Iv:=Iv.pt (nD 1)
theorem qp5 : one1.W:=pt_W nD1.w
def abv (x:Iv)(p:Int):Iv:=(x.sq p).add one1 p
theorem abv_W {x:Iv}{p:Int}:(abv x p).W:=add_W
theorem qre {r s:Iv}(wr:r.W)(ws:s.W)(h:r.ins s=true)(ks:s.known=true):r.known=true/\s.lo.val<=r.lo.val/\r.hi.val<=s.hi.val:=by
 obtain⟨o1,o2⟩:=qai ws ks;unfold Iv.ins at h;simp only[(qa2 ks).1,(qa2 ks).2,Bool.and_eq_true,Bool.or_eq_true,Bool.false_eq_true,false_or,decide_eq_true_eq,Bool.not_eq_true']at h;obtain⟨⟨v,_⟩,⟨a,h1⟩,h2⟩:=h;have k:r.known=true:=by unfold Iv.known;rw[a,v];rfl
 obtain⟨q1,q2⟩:=qai wr k;rw[qe6 o1 q1,cmpI_le]at h1;rw[qe6 q2 o2,cmpI_le]at h2;exact⟨k,h1,h2⟩
theorem box8 : ∀i:Fin 57,(abv num8 (8+(i.1:Int))).known=true/\-pw 16400<=(abv num8 (8+(i.1:Int))).lo.val/\(abv num8 (8+(i.1:Int))).hi.val<=pw 16400 /\
 ((abv num8 (8+(i.1:Int))).sq (8+(i.1:Int))).known=true/\-pw 16400<=((abv num8 (8+(i.1:Int))).sq (8+(i.1:Int))).lo.val/\((abv num8 (8+(i.1:Int))).sq (8+(i.1:Int))).hi.val<=pw 16400:=by decide +kernel
theorem q86 {x:Iv}(w:x.W)(k:x.known=true)(h:x.ins num8=true):x.Le num8/\modB x.lo=true/\modB x.hi=true:=by
 obtain⟨o1,o2⟩:=qai w k;obtain⟨_,h1,h2⟩:=qre w q87 h qafp;have le0:=qan w k;refine⟨.inr ⟨k,qafp,h1,h2⟩,?_⟩
 change (nD (-8)).val<=_ at h1
 change _<=(nD 8).val at h2
 rw[qlk]at h1 h2;have p0:=qas 16384;rw[qwy o1,qwy o2];omega
theorem qaby {x:Iv}{p:Int}(w:x.W)(h:x.Le num8)(h8:8<=p)(h64:p<=64):((abv x p).lo.top<=16383/\(abv x p).hi.top<=16383)/\(((abv x p).sq p).lo.top<=16383/\((abv x p).sq p).hi.top<=16383):=by
 have⟨n,hn⟩:∃n:Nat,n=(p-8).toNat:=⟨_,rfl⟩
 have e:p=8+(n:Int):=by omega
 have b:=box8 ⟨n,by omega⟩;simp only at b;rw[<-e]at b;obtain⟨k1,a1,a2,k2,c1,c2⟩:=b;have s:=qafh (p:=p) w q87 h;have h8k:((num8.sq p)).known=true:=(qabv (p:=p) k1).1;obtain⟨s0,s1,s2⟩:=qre sq_W sq_W s h8k;have ok1:one1.known=true:=(qabv (p:=p) k1).2;have t:(abv x p).ins (abv num8 p)=true:=qabw (p:=p) sq_W qp5 sq_W qp5 (.inr ⟨s0,h8k,s1,s2⟩) (.inr ⟨ok1,ok1,Int.le_refl _,Int.le_refl _⟩);obtain⟨t0,t1,t2⟩:=qre abv_W abv_W t k1;have u:=qafh (p:=p) (abv_W (x:=x)) (abv_W (x:=num8)) (.inr ⟨t0,k1,t1,t2⟩);obtain⟨u0,u1,u2⟩:=qre sq_W sq_W u k2;exact⟨q1g (n:=16400) abv_W t0 (by omega) (by omega) (by omega),q1g (n:=16400) sq_W u0 (by omega) (by omega) (by omega)⟩
theorem rat_sq {r l:Dy}:(r.val*r.val<=l.val*pw 16384->r.rat*r.rat<=l.rat)/\(l.val*pw 16384<=r.val*r.val->l.rat<=r.rat*r.rat):=by
 have s2:0<sc*sc:=Rat.mul_pos qda qda;have e:((r.val*r.val:Int):Rat)=r.rat*r.rat*(sc*sc):=by rw[Rat.intCast_mul,<-qeo];grind
 have f:((l.val*pw 16384:Int):Rat)=l.rat*(sc*sc):=by rw[Rat.intCast_mul,<-qeo,show((pw 16384:Int):Rat)=sc from rfl];grind
 constructor
 ·intro h;have:=Rat.intCast_le_intCast.2 h;rw[e,f]at this;exact Rat.le_of_mul_le_mul_right this s2
 ·intro h;have:=Rat.intCast_le_intCast.2 h;rw[e,f]at this;exact Rat.le_of_mul_le_mul_right this s2
theorem q6b {x y:Iv}{p:Int}(w:x.W)(g:x.Gd)(wy:y.W)(gy:y.Gd)(hk:y.known=true->(x.sqrt p).known=true)(hy:∀q,(x.sqrt p).In q->y.In (q*q)):x.ins y=true:=by
 have vx:x.valid=true:=q5y g;rcases gy with rfl|ks
 ·exact qex vx
 have kr:=hk ks;have hw:=(qyu (x:=x) (p:=p))
 have l1:=qg1 (hy _ (In_lo hw kr)) ks;have l2:=qg1 (hy _ (In_hi hw kr)) ks;by_cases hc:(x.known&&precB p&&decide (0<x.lo.sgn))=true
 ·have hc2:=hc;simp only[Bool.and_eq_true,decide_eq_true_eq]at hc2;obtain⟨⟨k,hp⟩,h0⟩:=hc2;obtain⟨o1,o2⟩:=qai w k;have v1:=(qhf o1).1.1 h0;have le0:=qan w k;have n1:=qzc (d:=x.lo) (by omega);have n2:=qzc (d:=x.hi) (by omega);have e:x.sqrt p=Iv.made (rSqrt x.lo p false) (rSqrt x.hi p true):=by unfold Iv.sqrt;rw[if_pos hc]
  rw[e]at kr l1 l2;unfold Iv.made at kr l1 l2;split at kr
  ·rename_i h;rw[if_pos h]at l1 l2;have d:=(q31 o1 hp n1 ((qkd o1 n1).1 v1)).at h.1;have u:=(qadp o2 hp n2 ((qkd o2 n2).1 (by omega))).at h.2;have d0:=((q31 o1 hp n1 ((qkd o1 n1).1 v1)).nonneg (.inl (by omega))).2;have d1:(rSqrt x.lo p false).1.val*(rSqrt x.lo p false).1.val<=x.lo.val*pw 16384:=by
    rcases d with d|d
    ·have:(rSqrt x.lo p false).1.val=0:=by omega
     rw[this];exact Int.mul_nonneg (by omega) (Int.le_of_lt (qas 16384))
    ·exact d
   exact qzq w wy k ks (rat_le.1 (Rat.le_trans l1.1 (rat_sq.1 d1))) (rat_le.1 (Rat.le_trans (rat_sq.2 u.2) l2.2))
  ·exact absurd kr qfx
 ·have e:x.sqrt p=Iv.whole:=by unfold Iv.sqrt;rw[if_neg hc]
  rw[e]at kr;exact absurd kr qfx
theorem sq_kn {x:Iv}{p:Int}(w:x.W)(h:(x.sq p).known=true):x.known=true:=by
 rw[qux w]at h;have:=(qafr h).1;cases hx:x.known
 ·have e:x.abs=Iv.whole:=by unfold Iv.abs;rw[hx];rfl
  rw[e]at this;exact absurd this qfx
 ·rfl
theorem q8b {x:Iv}{p:Int}(w:x.W)(g:x.Gd):x.ins ((x.sqrt p).sq p)=true:=
 q6b w g sq_W (sq_Gd qyu) (sq_kn qyu) fun _ h=>sq_In qyu h
theorem tri {x:Iv}{c:Bool}{p:Int}{q:Rat}(w:x.W)(h:x.In q):(bothI x c p).Has (Fn c (cK q)):=qpb w h.has
theorem qali {x y z:Iv}{p:Int}(wx:x.W)(wy:y.W)(wz:z.W){u v:Rat}(hx:x.In u)(hy:y.In v)(hz:z.In (u+v)) :
 meetB (bothI z false p) (((bothI x false p).mul (bothI y true p) p).add ((bothI x true p).mul (bothI y false p) p) p)=true /\
 meetB (bothI z true p) (((bothI x true p).mul (bothI y true p) p).add ((bothI x false p).mul (bothI y false p) p).neg p)=true:=by
 have A:=fun t=>tri (c:=t) (p:=p) wx hx
 have B:=fun t=>tri (c:=t) (p:=p) wy hy
 have C:=fun t=>tri (c:=t) (p:=p) wz hz
 have ba:=qmm u;have bb:=qmm v;have hs:=qqh ba bb;have hc:=qpf ba bb;have m:=fun t s=>qwx (p:=p) (qdl wx) (qdl wy) (A t) (B s) (qagc ba) (qagc bb)
 have s1:=(qtr (p:=p) mul_W mul_W (m false true) (m true false)).near hs.symm;have s2:=(q7y (p:=p) mul_W mul_W (m true true) (m false false)).near hc.symm;exact⟨qhj (qdl wz) add_W (qoh wz) (q02 mul_W mul_W) (C false) s1,
  qhj (qdl wz) add_W (qoh wz) (q02 mul_W (neg_W mul_W)) (C true) s2⟩
theorem qalj {x:Iv}{p:Int}{u:Rat}(w:x.W)(h:x.In u):(((bothI x false p).sq p).add ((bothI x true p).sq p) p).has (nD 1)=true:=by
 have hs:=tri (c:=false) (p:=p) w h;have hc:=tri (c:=true) (p:=p) w h;have bs:=qiu (qmm u);have bc:=qfg (qmm u);have h1:=q8d (p:=p) (qdl w) hs bs;have h2:=q8d (p:=p) (qdl w) hc bc;have h3:=qtr (p:=p) sq_W sq_W h1 h2;refine q98 add_W (q02 sq_W sq_W) nD1 h3 ?_;rw[qnw];exact(Near.of_eq fun n=>by show Si _ n*Si _ n+Co _ n*Co _ n=Co _ n*Co _ n+Si _ n*Si _ n;grind).trans (qack (qmm u))
theorem qah7 {x y:Iv}{p:Int}(wx:x.W)(wy:y.W){u v:Rat}(hx:x.In u)(hy:y.In v):meetB ((x.add y p).exp p) ((x.exp p).mul (y.exp p) p)=true:=by
 have h1:=(qs9 (p:=p) wx).2 u hx;have h2:=(qs9 (p:=p) wy).2 v hy;obtain⟨g3,h3⟩:=qs9 (p:=p) (add_W (x:=x) (y:=y) (p:=p));have a:=qwx (p:=p) (exp_W wx) (exp_W wy) h1 h2 (qo5 _) (qo5 _);exact qhj (exp_W add_W) mul_W g3 (q4i (exp_W wx) (exp_W wy)) (h3 _ (qmn (p:=p) wx wy hx hy)) (a.near (q0b _ _).symm)
theorem qaej {x:Iv}{p:Int}{u:Rat}(w:x.W)(h:x.In u):((x.exp p).mul (x.neg.exp p) p).has (nD 1)=true:=by
 have h1:=(qs9 (p:=p) w).2 u h;have h2:=(qs9 (p:=p) (neg_W w)).2 _ (qafq w h);refine q98 mul_W (q4i (exp_W w) (exp_W (neg_W w))) nD1 (qwx (p:=p) (exp_W w) (exp_W (neg_W w)) h1 h2 (qo5 _) (qo5 _)) ((q0b _ _).trans (Near.of_eq fun n=>?_));rw[show u+-u=0 by grind,qtb,qnw]
def trn (p:Int):Iv:=(piO p).scl 1
theorem trn_W {p:Int}:(trn p).W:=qie
theorem q7m (p:Int):(trn p).Has (fun n=>((4:Int):Rat)*hpi n):=by
 refine(qalg piO_W (q81 p)).near (Near.of_eq fun i=>?_);show((4:Int):Rat)*hpi i=2*(2*hpi i);rw[show((4:Int):Rat)=4 from rfl];grind
theorem qaif {x:Iv}{p:Int}{u:Rat}(w:x.W)(h:x.In u):meetB (bothI (x.add (trn p) p) false p) (bothI x false p)=true/\meetB (bothI (x.add (trn p).neg p) true p) (bothI x true p)=true:=by
 have hs:=tri (c:=false) (p:=p) w h;have hc:=tri (c:=true) (p:=p) w h;have a:=qtr (p:=p) w trn_W h.has (q7m p);have b:=q7y (p:=p) w trn_W h.has (q7m p);have b2:Iv.Has (x.add (trn p).neg p) (fun n=>cK u n+((-4:Int):Rat)*hpi n):=b.near (Near.of_eq fun i=>by
  show u+((-4:Int):Rat)*hpi i=u-((4:Int):Rat)*hpi i;rw[show((-4:Int):Rat)=-4 from rfl,show((4:Int):Rat)=4 from rfl];grind)
 have ys:=qpb (c:=false) (p:=p) (add_W (x:=x) (y:=trn p) (p:=p)) a;have yc:=qpb (c:=true) (p:=p) (add_W (x:=x) (y:=(trn p).neg) (p:=p)) b2;obtain⟨_,ts⟩:=qok (qmm u) 4;obtain⟨tc,_⟩:=qok (qmm u) (-4);have e1:cI 4=1/\sI 4=0:=by rcases qog 4 with ⟨_,a,b⟩|⟨h,_⟩|⟨h,_⟩|⟨h,_⟩<;>first|exact⟨a,b⟩|omega
 have e2:cI (-4)=1/\sI (-4)=0:=by rcases qog (-4)with ⟨_,a,b⟩|⟨h,_⟩|⟨h,_⟩|⟨h,_⟩<;>first|exact⟨a,b⟩|omega
 rw[e1.1,e1.2]at ts;rw[e2.1,e2.2]at tc;exact⟨qhj (qdl add_W) (qdl w) (qoh add_W) (qoh w) (ys.near ((ts.trans (Near.of_eq fun i=>by show _=Si (cK u) i;grind)).symm)) hs,
  qhj (qdl add_W) (qdl w) (qoh add_W) (qoh w) (yc.near ((tc.trans (Near.of_eq fun i=>by show _=Co (cK u) i;grind)).symm)) hc⟩
theorem qaew {x:Iv}{p:Int}{u:Rat}(w:x.W)(h:x.In u):meetB (bothI (atanI x p) false p) (x.mul (bothI (atanI x p) true p) p)=true:=by
 obtain⟨_,ha⟩:=qx4 (p:=p) w h;have wa:(atanI x p).W:=q0y w;have hs:=qpb (c:=false) (p:=p) wa ha;have hc:=qpb (c:=true) (p:=p) wa ha;have bt:=qaj4 u;have dir:=qaj3 u;have ns:Near (Si (th u)) (fun i=>u*Co (th u) i):=(show Null _ from dir).congr fun i=>by grind
 have m:=qwx (p:=p) w (qdl wa) h.has hc (qmm u) (qfg bt);exact qhj (qdl wa) mul_W (qoh wa) (q4i w (qdl wa)) hs (m.near ns)
theorem qadi {x:Iv}{d:Rat}(w:x.W)(hd:x.known=true->0<=d)(h:x.HasLog d):(x.scl 1).HasLog (d*d):=by
 intro k;have kx:x.known=true:=by
  cases hx:x.known
  ·have e:x.scl 1=Iv.whole:=by unfold Iv.scl;rw[hx];rfl
   rw[e]at k;exact absurd k qfx
  ·rfl
 obtain⟨x1,x2⟩:=h kx;have dbl:∀q:Rat,x.In q->(x.scl 1).In (q+q):=fun q hq=>qu0 (a:=1) (b:=0) w (by omega) (by rw[show((pw 0:Int):Rat)=1 from rfl,show((pw 1:Int):Rat)=2 from rfl];grind) hq
 have l:=qg1 (dbl _ (In_lo w kx)) k;have u:=qg1 (dbl _ (In_hi w kx)) k;exact⟨(x1.add x1 (hd kx)).mono l.1,(x2.add x2 (hd kx)).mono u.2⟩
theorem qakl {x:Iv}{p:Int}(w:x.W)(k:x.known=true)(ht:x.lo.top<=16383/\x.hi.top<=16383)(ht2:(x.sq p).lo.top<=16383/\(x.sq p).hi.top<=16383):meetB ((x.sq p).log p) ((x.log p).scl 1)=true:=by
 obtain⟨g1,h1⟩:=q9q (p:=p) w fun _=>ht
 obtain⟨g2,h2⟩:=q9q (p:=p) (sq_W (x:=x) (p:=p)) fun _=>ht2
 have i1:=In_lo w k;exact q9m log_W qie g2 (qafl log_W) (h2 _ (sq_In (p:=p) w i1)) (qadi log_W (fun kl=>by
  unfold Iv.log at kl;split at kl
  ·rename_i h;simp only[Bool.and_eq_true,decide_eq_true_eq]at h;have:=rat_le.2 (show Dy.zero.val<=x.lo.val by rw[qec];exact Int.le_of_lt ((qhf (qai w k).1).1.1 h.2));rwa[q3c]at this
  ·exact absurd kl qfx) (h1 _ i1))
theorem q1t {x:Iv}{p:Int}{u:Rat}(w:x.W)(h:x.In u)(rp:0<u):meetB ((atanI x p).add (atanI (one1.div x p) p) p) ((piO p).scl (-1))=true:=by
 obtain⟨ga,ha⟩:=qx4 (p:=p) w h;have wa:(atanI x p).W:=q0y w;have i1:one1.In (1:Rat):=by have:=pt_In (nD 1);rwa[qnw]at this
 obtain⟨gb,hb⟩:=qx4 (p:=p) (x:=one1.div x p) div_W (q0j (p:=p) qp5 w i1 h);have wb:(atanI (one1.div x p) p).W:=q0y div_W;have s:=qtr (p:=p) wa wb ha hb;refine qhj add_W qie (q02 wa wb) (qafl piO_W) (s.near (qaj2 rp).symm) ((qah0 piO_W (q81 p)).near (Near.of_eq fun i=>?_));show hpi i=2*hpi i/2;grind
theorem qwp {q:Rat}(h:0<q*sc):0<q:=by
 have hs:=qda;rcases(inferInstance:Decidable (0<q))with h2|h2
 ·exfalso;have:=mul_nn (show 0<=-q by grind) (Rat.le_of_lt hs);grind
 ·exact h2
theorem qacv {x y:Iv}{p:Int}(wx:x.W)(wy:y.W)(kx:x.known=true)(ky:y.known=true)(ix:x.ins num8=true)(_iy:y.ins num8=true)(h8:8<=p)(h64:p<=64) :
 meetB (bothI (x.add y p) false p) (((bothI x false p).mul (bothI y true p) p).add ((bothI x true p).mul (bothI y false p) p) p)=true /\
 meetB (bothI (x.add y p) true p) (((bothI x true p).mul (bothI y true p) p).add ((bothI x false p).mul (bothI y false p) p).neg p)=true /\
 meetB ((x.add y p).exp p) ((x.exp p).mul (y.exp p) p)=true /\
 (((bothI x false p).sq p).add ((bothI x true p).sq p) p).has (nD 1)=true /\
 ((x.exp p).mul (x.neg.exp p) p).has (nD 1)=true /\
 x.ins ((x.exp p).log p)=true /\
 meetB (bothI (x.add (trn p) p) false p) (bothI x false p)=true/\meetB (bothI (x.add (trn p).neg p) true p) (bothI x true p)=true /\
 meetB (bothI (atanI x p) false p) (x.mul (bothI (atanI x p) true p) p)=true /\
 (abv x p).ins (((abv x p).sqrt p).sq p)=true /\
 meetB (((abv x p).sq p).log p) (((abv x p).log p).scl 1)=true /\
 (0<x.sgn->meetB ((atanI x p).add (atanI (one1.div x p) p) p) ((piO p).scl (-1))=true):=by
 have hx:=In_lo wx kx;have hy:=In_lo wy ky;have hp:precB p=true:=precB_iff.2 (by omega);obtain⟨lx,m1,m2⟩:=q86 wx kx ix;obtain⟨c1,c2⟩:=qali (p:=p) wx wy add_W hx hy (qmn (p:=p) wx wy hx hy);obtain⟨t1,t2⟩:=qaif (p:=p) wx hx;obtain⟨a1,a2⟩:=qaby wx lx h8 h64;have ga:(abv x p).Gd:=q02 sq_W qp5;refine⟨c1,c2,qah7 wx wy hx hy,qalj wx hx,qaej wx hx,qahx wx kx hp m1 m2,t1,t2,qaew wx hx,q8b abv_W ga,?_,fun hs=>?_⟩
 ·rcases ga with e|k
  ·rw[e];rfl
  ·exact qakl abv_W k a1 a2
 ·unfold Iv.sgn at hs;rw[kx]at hs;refine q1t wx hx ?_;obtain⟨o1,_⟩:=qai wx kx;have h0:0<x.lo.sgn:=by
   by_cases h:0<x.lo.sgn
   ·exact h
   ·rw[if_pos rfl,if_neg h]at hs;split at hs<;>omega
  have h1:=qfm ((qhf o1).1.1 h0);rw[<-qeo]at h1;have z:((0:Int):Rat)=0:=rfl;rw[z]at h1;exact qwp h1
theorem qen (a b:Iv)(wa:a.W)(wb:b.W):CQ prog quf [a.v,b.v] (.bool (meetB a b)):=by
 refine qag rfl fun H=>?_
 have c:=q4w a b wa wb;simp only[meetV]at c;simp;refine zq c ?_;simp[meetB]
def numB (x:Iv):Bool:=decide (x.lo.m.length<=8)&&decide (x.hi.m.length<=8)&&x.valid&&!x.all&&x.ins num8
theorem qvb {x:Iv}(l:x.Lm)(h:numB x=true):x.W/\x.known=true/\x.ins num8=true:=by
 simp only[numB,Bool.and_eq_true,decide_eq_true_eq,Bool.not_eq_true']at h;obtain⟨⟨⟨⟨h1,h2⟩,v⟩,a⟩,i⟩:=h;exact⟨qab1 l (by omega) (by omega),by unfold Iv.known;rw[a,v];rfl,i⟩
theorem qyk (x:Iv)(l:x.Lm):CQ prog qsw [x.v] (.bool (numB x)):=by
 obtain⟨xl,xh,xa⟩:=x;refine qag rfl fun H=>?_
 by_cases h1:xl.m.length<=8
 ·have h1':¬(8:Int)<xl.m.length:=by omega
  by_cases h2:xh.m.length<=8
  ·have h2':¬(8:Int)<xh.m.length:=by omega
   have w:=qab1 l (show xl.m.length<=20 by omega) (show xh.m.length<=20 by omega);have cv:=qeb _ w;have hn:numB ⟨xl,xh,xa⟩=((Iv.mk xl xh xa).valid&&!xa&&(Iv.mk xl xh xa).ins num8):=by simp only[numB,decide_eq_true h1,decide_eq_true h2];rfl
   rw[hn];simp[lim,h1',h2'];refine zq cv ?_;cases v:(Iv.mk xl xh xa).valid
   ·simp
   ·cases xa
    ·have c1:=qot (-8) (by omega) (by omega);have c2:=qot 8 (by omega) (by omega);have ci:=qkc _ num8 w q87;have e:num8=⟨nD (-8),nD 8,false⟩:=rfl;rw[e]at ci ⊢;generalize nD (-8)=A at *
     generalize nD 8=B at *
     simp;refine zq c1 ?_;simp;refine zq c2 ?_;simp;refine zq ci ?_;simp
    ·simp
  ·have h2':(8:Int)<xh.m.length:=by omega
   have hn:numB ⟨xl,xh,xa⟩=false:=by simp only[numB,decide_eq_false h2];simp
   simp[lim,h1',h2',hn]
 ·have h1':(8:Int)<xl.m.length:=by omega
  have hn:numB ⟨xl,xh,xa⟩=false:=by simp only[numB,decide_eq_false h1];simp
  simp[lim,h1',hn]
theorem qjv {H:Heap}{b:Nat}{p:Int}(h:H[b]?=some (some ⟨1,[.int .i64 p],false,true⟩))(x y:Iv)(wx:x.W)(wy:y.W):Cb H qiz [.ptr b 0 0] [x.v,y.v] (x.add y p).v:=by
 intro H' hpre;obtain⟨a1,a2⟩:=qeh hpre h;refine⟨rfl,qqi rfl ?_⟩;simp[a2];refine qaa rfl rfl rfl (q27 x y p wx wy) ?_;simp
theorem qyj {H:Heap}{b:Nat}{p:Int}(h:H[b]?=some (some ⟨1,[.int .i64 p],false,true⟩))(x y:Iv)(wx:x.W)(wy:y.W):Cb H qiy [.ptr b 0 0] [x.v,y.v] (x.add y.neg p).v:=by
 intro H' hpre;obtain⟨a1,a2⟩:=qeh hpre h;refine⟨rfl,qqi rfl ?_⟩;simp[a2];refine qaa rfl rfl rfl (qai8 x y p wx wy) ?_;simp
theorem qha {H:Heap}{b:Nat}{p:Int}(h:H[b]?=some (some ⟨1,[.int .i64 p],false,true⟩))(x y:Iv)(wx:x.W)(wy:y.W):Cb H qix [.ptr b 0 0] [x.v,y.v] (x.mul y p).v:=by
 intro H' hpre;obtain⟨a1,a2⟩:=qeh hpre h;refine⟨rfl,qqi rfl ?_⟩;simp[a2];refine qaa rfl rfl rfl (qace x y p wx wy) ?_;simp
theorem one1_ok : z10.exp 24=one1/\(one1.ins one1&&one1.ins one1)=true/\one1.has (nD 1)=true:=by decide +kernel
theorem pre3 {H:Heap}{a b c:Option Blk}{l:Heap}:H++[a,b,c] <+: H++a :: b :: c :: l:=⟨l,by simp⟩
set_option maxRecDepth 4000 in
set_option maxHeartbeats 4000000 in
theorem qyg (x y:Iv)(p:Int)(lx:x.Lm)(ly:y.Lm):CQ prog qkn [x.v,y.v,.int .i64 p] (.bool true):=by
 refine qag rfl fun H=>?_
 have i1:=qot 1 (by omega) (by omega);have i2:=qif (nD 1) nD1.w;rw[if_pos nD1.valid,show Iv.pt (nD 1)=one1 from rfl]at i2;have i3:=qv7 z10 24 z10_W;rw[qabn _ (by decide),if_pos rfl,show Iv.pt (nD 1)=one1 from rfl]at i3;have i4:=qacf one1 one1 qp5 qp5;rw[one1_ok.2.1]at i4;have i5:=q1b z10 24 z10_W;rw[one1_ok.1]at i5;have i6:=q26 one1 (nD 1) qp5 nD1.w;rw[one1_ok.2.2]at i6;have ez:z10.v=.agg [.bool false,.sl [],.int .i64 0,.bool false,.sl [],.int .i64 0,.bool false]:=rfl;rw[ez]at i3 i5;have nx:=qyk x lx;have ny:=qyk y ly;have w1:=qp5;have F:=@qacv x y p;unfold abv trn at F;generalize hone:one1=P1 at *
 have n1:=nD1;generalize nD 1=D1 at *
 simp;refine zq i1 ?_;simp;refine zq i2 ?_;simp;refine zq i3 ?_;simp;refine zq i4 ?_;simp;refine zq i5 ?_;simp;refine zq i4 ?_;simp;refine zq i1 ?_;simp;refine zq i6 ?_;rcases Int.lt_or_le p 8 with h8|h8
 ·simp[h8]
 have h8':¬p<8:=by omega
 rcases Int.lt_or_le 64 p with h64|h64
 ·simp[h8',h64]
 have h64':¬64<p:=by omega
 simp[h8',h64'];refine zq nx ?_;cases hx:numB x
 ·simp
 simp;refine zq ny ?_;cases hy:numB y
 ·simp
 obtain⟨wx,kx,ix⟩:=qvb lx hx;obtain⟨wy,ky,iy⟩:=qvb ly hy;obtain⟨f1,f2,f3,f4,f5,f6,f7,f8,f9,f10,f11,f12⟩:=F wx wy kx ky ix iy h8 h64;have wSX:(bothI x false p).W:=qdl wx;have cSX:=q1a x p wx;generalize hSX:bothI x false p=SX at *
 have wCX:(bothI x true p).W:=qdl wx;have cCX:=qv7 x p wx;generalize hCX:bothI x true p=CX at *
 have wSY:(bothI y false p).W:=qdl wy;have cSY:=q1a y p wy;generalize hSY:bothI y false p=SY at *
 have wCY:(bothI y true p).W:=qdl wy;have cCY:=qv7 y p wy;generalize hCY:bothI y true p=CY at *
 have wEX:(x.exp p).W:=exp_W wx;have cEX:=q1b x p wx;generalize hEX:x.exp p=EX at *
 have wEY:(y.exp p).W:=exp_W wy;have cEY:=q1b y p wy;generalize hEY:y.exp p=EY at *
 have wB:(x.add y p).W:=add_W;have cB:=qjv (H:=H++[some ⟨7,[x.v],false,true⟩,some ⟨7,[y.v],false,true⟩,some ⟨1,[.int .i64 p],false,true⟩]) (b:=H.length+2) (p:=p) (by simp) x y wx wy;generalize hB:x.add y p=B at *
 have wSB:(bothI B false p).W:=qdl wB;have cSB:=q1a B p wB;generalize hSB:bothI B false p=SB at *
 have wM1:(SX.mul CY p).W:=mul_W;have cM1:=qha (H:=H++[some ⟨7,[x.v],false,true⟩,some ⟨7,[y.v],false,true⟩,some ⟨1,[.int .i64 p],false,true⟩]) (b:=H.length+2) (p:=p) (by simp) SX CY wSX wCY;generalize hM1:SX.mul CY p=M1 at *
 have wM2:(CX.mul SY p).W:=mul_W;have cM2:=qha (H:=H++[some ⟨7,[x.v],false,true⟩,some ⟨7,[y.v],false,true⟩,some ⟨1,[.int .i64 p],false,true⟩]) (b:=H.length+2) (p:=p) (by simp) CX SY wCX wSY;generalize hM2:CX.mul SY p=M2 at *
 have wA1:(M1.add M2 p).W:=add_W;have cA1:=qjv (H:=H++[some ⟨7,[x.v],false,true⟩,some ⟨7,[y.v],false,true⟩,some ⟨1,[.int .i64 p],false,true⟩]) (b:=H.length+2) (p:=p) (by simp) M1 M2 wM1 wM2;generalize hA1:M1.add M2 p=A1 at *
 have wCB:(bothI B true p).W:=qdl wB;have cCB:=qv7 B p wB;generalize hCB:bothI B true p=CB at *
 have wM3:(CX.mul CY p).W:=mul_W;have cM3:=qha (H:=H++[some ⟨7,[x.v],false,true⟩,some ⟨7,[y.v],false,true⟩,some ⟨1,[.int .i64 p],false,true⟩]) (b:=H.length+2) (p:=p) (by simp) CX CY wCX wCY;generalize hM3:CX.mul CY p=M3 at *
 have wM4:(SX.mul SY p).W:=mul_W;have cM4:=qha (H:=H++[some ⟨7,[x.v],false,true⟩,some ⟨7,[y.v],false,true⟩,some ⟨1,[.int .i64 p],false,true⟩]) (b:=H.length+2) (p:=p) (by simp) SX SY wSX wSY;generalize hM4:SX.mul SY p=M4 at *
 have wS1:(M3.add M4.neg p).W:=add_W;have cS1:=qyj (H:=H++[some ⟨7,[x.v],false,true⟩,some ⟨7,[y.v],false,true⟩,some ⟨1,[.int .i64 p],false,true⟩]) (b:=H.length+2) (p:=p) (by simp) M3 M4 wM3 wM4;generalize hS1:M3.add M4.neg p=S1 at *
 have wEB:(B.exp p).W:=exp_W wB;have cEB:=q1b B p wB;generalize hEB:B.exp p=EB at *
 have wM5:(EX.mul EY p).W:=mul_W;have cM5:=qha (H:=H++[some ⟨7,[x.v],false,true⟩,some ⟨7,[y.v],false,true⟩,some ⟨1,[.int .i64 p],false,true⟩]) (b:=H.length+2) (p:=p) (by simp) EX EY wEX wEY;generalize hM5:EX.mul EY p=M5 at *
 have wQ1:(SX.sq p).W:=sq_W;have cQ1:=qfv SX p wSX;generalize hQ1:SX.sq p=Q1 at *
 have wQ2:(CX.sq p).W:=sq_W;have cQ2:=qfv CX p wCX;generalize hQ2:CX.sq p=Q2 at *
 have wQ3:(Q1.add Q2 p).W:=add_W;have cQ3:=qjv (H:=H++[some ⟨7,[x.v],false,true⟩,some ⟨7,[y.v],false,true⟩,some ⟨1,[.int .i64 p],false,true⟩]) (b:=H.length+2) (p:=p) (by simp) Q1 Q2 wQ1 wQ2;generalize hQ3:Q1.add Q2 p=Q3 at *
 have wNX:(x.neg).W:=neg_W wx;have cNX:=qacd x wx;generalize hNX:x.neg=NX at *
 have wEN:(NX.exp p).W:=exp_W wNX;have cEN:=q1b NX p wNX;generalize hEN:NX.exp p=EN at *
 have wM6:(EX.mul EN p).W:=mul_W;have cM6:=qha (H:=H++[some ⟨7,[x.v],false,true⟩,some ⟨7,[y.v],false,true⟩,some ⟨1,[.int .i64 p],false,true⟩]) (b:=H.length+2) (p:=p) (by simp) EX EN wEX wEN;generalize hM6:EX.mul EN p=M6 at *
 have wLE:(EX.log p).W:=log_W;have cLE:=qacb EX p wEX;generalize hLE:EX.log p=LE at *
 have wPI:(piO p).W:=piO_W;have cPI:=Pi_cq p;generalize hPI:piO p=PI at *
 have wT:(PI.scl 1).W:=qie;have cT:=qkb PI 1 wPI;generalize hT:PI.scl 1=T at *
 have wXT:(x.add T p).W:=add_W;have cXT:=qjv (H:=H++[some ⟨7,[x.v],false,true⟩,some ⟨7,[y.v],false,true⟩,some ⟨1,[.int .i64 p],false,true⟩]) (b:=H.length+2) (p:=p) (by simp) x T wx wT;generalize hXT:x.add T p=XT at *
 have wST:(bothI XT false p).W:=qdl wXT;have cST:=q1a XT p wXT;generalize hST:bothI XT false p=ST at *
 have wXM:(x.add T.neg p).W:=add_W;have cXM:=qyj (H:=H++[some ⟨7,[x.v],false,true⟩,some ⟨7,[y.v],false,true⟩,some ⟨1,[.int .i64 p],false,true⟩]) (b:=H.length+2) (p:=p) (by simp) x T wx wT;generalize hXM:x.add T.neg p=XM at *
 have wCT:(bothI XM true p).W:=qdl wXM;have cCT:=qv7 XM p wXM;generalize hCT:bothI XM true p=CT at *
 have wAN:(atanI x p).W:=q0y wx;have cAN:=qacm x p wx;generalize hAN:atanI x p=AN at *
 have wSA:(bothI AN false p).W:=qdl wAN;have cSA:=q1a AN p wAN;generalize hSA:bothI AN false p=SA at *
 have wCA:(bothI AN true p).W:=qdl wAN;have cCA:=qv7 AN p wAN;generalize hCA:bothI AN true p=CA at *
 have wM7:(x.mul CA p).W:=mul_W;have cM7:=qha (H:=H++[some ⟨7,[x.v],false,true⟩,some ⟨7,[y.v],false,true⟩,some ⟨1,[.int .i64 p],false,true⟩]) (b:=H.length+2) (p:=p) (by simp) x CA wx wCA;generalize hM7:x.mul CA p=M7 at *
 have wQ4:(x.sq p).W:=sq_W;have cQ4:=qfv x p wx;generalize hQ4:x.sq p=Q4 at *
 have wVV:(Q4.add P1 p).W:=add_W;have cVV:=qjv (H:=H++[some ⟨7,[x.v],false,true⟩,some ⟨7,[y.v],false,true⟩,some ⟨1,[.int .i64 p],false,true⟩]) (b:=H.length+2) (p:=p) (by simp) Q4 P1 wQ4 w1;generalize hVV:Q4.add P1 p=VV at *
 have wRT:(VV.sqrt p).W:=qyu;have cRT:=qae7 VV p wVV;generalize hRT:VV.sqrt p=RT at *
 have wQ5:(RT.sq p).W:=sq_W;have cQ5:=qfv RT p wRT;generalize hQ5:RT.sq p=Q5 at *
 have wQ6:(VV.sq p).W:=sq_W;have cQ6:=qfv VV p wVV;generalize hQ6:VV.sq p=Q6 at *
 have wL1:(Q6.log p).W:=log_W;have cL1:=qacb Q6 p wQ6;generalize hL1:Q6.log p=L1 at *
 have wL2:(VV.log p).W:=log_W;have cL2:=qacb VV p wVV;generalize hL2:VV.log p=L2 at *
 have wL3:(L2.scl 1).W:=qie;have cL3:=qkb L2 1 wL2;generalize hL3:L2.scl 1=L3 at *
 have wHP:(PI.scl (-1)).W:=qie;have cHP:=qkb PI (-1) wPI;generalize hHP:PI.scl (-1)=HP at *
 have wDV:(P1.div x p).W:=div_W;have cDV:=qacg P1 x p w1 wx;generalize hDV:P1.div x p=DV at *
 have wAD:(atanI DV p).W:=q0y wDV;have cAD:=qacm DV p wDV;generalize hAD:atanI DV p=AD at *
 have wS2:(AN.add AD p).W:=add_W;have cS2:=qjv (H:=H++[some ⟨7,[x.v],false,true⟩,some ⟨7,[y.v],false,true⟩,some ⟨1,[.int .i64 p],false,true⟩]) (b:=H.length+2) (p:=p) (by simp) AN AD wAN wAD;generalize hS2:AN.add AD p=S2 at *
 have e1:=qen SB A1 wSB wA1;rw[f1]at e1;have e2:=qen CB S1 wCB wS1;rw[f2]at e2;have e3:=qen EB M5 wEB wM5;rw[f3]at e3;have e4:=q26 Q3 D1 wQ3 n1.w;rw[f4]at e4;have e5:=q26 M6 D1 wM6 n1.w;rw[f5]at e5;have e6:=qkc x LE wx wLE;rw[f6]at e6;have e7:=qen ST SX wST wSX;rw[f7]at e7;have e8:=qen CT CX wCT wCX;rw[f8]at e8;have e9:=qen SA M7 wSA wM7;rw[f9]at e9;have e10:=qkc VV Q5 wVV wQ5;rw[f10]at e10;have e11:=qen L1 L3 wL1 wL3;rw[f11]at e11;have cs:=qya x wx;clear hSX hCX hSY hCY hEX hEY hB hSB hM1 hM2 hA1 hCB hM3 hM4 hS1 hEB hM5 hQ1 hQ2 hQ3 hNX hEN hM6 hLE hPI hT hXT hST hXM hCT hAN hSA hCA hM7 hQ4 hVV hRT hQ5 hQ6 hL1 hL2 hL3 hHP hDV hAD hS2;clear f1 f2 f3 f4 f5 f6 f7 f8 f9 f10 f11 F;simp[V.isCell];refine zq cSX ?_;simp;refine zq cCX ?_;simp;refine zq cSY ?_;simp;refine zq cCY ?_;simp;refine zq cEX ?_;simp;refine zq cEY ?_
 simp;refine WL_cb cB pre3 rfl (by simp) ?_;simp;refine zq cSB ?_;simp;refine WL_cb cM1 pre3 rfl (by simp) ?_;simp;refine WL_cb cM2 pre3 rfl (by simp) ?_;simp;refine WL_cb cA1 pre3 rfl (by simp) ?_;simp;refine zq e1 ?_;simp;refine zq cCB ?_;simp;refine WL_cb cM3 pre3 rfl (by simp) ?_;simp;refine WL_cb cM4 pre3 rfl (by simp) ?_;simp;refine WL_cb cS1 pre3 rfl (by simp) ?_;simp;refine zq e2 ?_;simp;refine zq cEB ?_;simp;refine WL_cb cM5 pre3 rfl (by simp) ?_;simp;refine zq e3 ?_;simp;refine zq cQ1 ?_;simp;refine zq cQ2 ?_;simp;refine WL_cb cQ3 pre3 rfl (by simp) ?_;simp;refine zq i1 ?_;simp;refine zq e4 ?_;simp;refine zq cNX ?_;simp;refine zq cEN ?_;simp;refine WL_cb cM6 pre3 rfl (by simp) ?_;simp;refine zq i1 ?_;simp;refine zq e5 ?_
 simp;refine zq cLE ?_;simp;refine zq e6 ?_;simp;refine zq cPI ?_;simp;refine zq cT ?_;simp;refine WL_cb cXT pre3 rfl (by simp) ?_;simp;refine zq cST ?_;simp;refine zq e7 ?_;simp;refine WL_cb cXM pre3 rfl (by simp) ?_;simp;refine zq cCT ?_;simp;refine zq e8 ?_;simp;refine zq cAN ?_;simp;refine zq cSA ?_;simp;refine zq cCA ?_;simp;refine WL_cb cM7 pre3 rfl (by simp) ?_;simp;refine zq e9 ?_;simp;refine zq cQ4 ?_;simp;refine WL_cb cVV pre3 rfl (by simp) ?_;simp;refine zq cRT ?_;simp;refine zq cQ5 ?_;simp;refine zq e10 ?_;simp;refine zq cQ6 ?_;simp;refine zq cL1 ?_;simp;refine zq cL2 ?_;simp;refine zq cL3 ?_;simp;refine zq e11 ?_
 simp;refine zq cs ?_;by_cases hs:x.sgn<=0
 ·simp[hs]
 have f:=f12 (by omega);have e12:=qen S2 HP wS2 wHP;rw[f]at e12;simp[hs];refine zq cPI ?_;simp;refine zq cHP ?_;simp;refine zq cDV ?_;simp;refine zq cAD ?_;simp;refine WL_cb cS2 pre3 rfl (by simp) ?_;simp;refine zq e12 ?_;simp
end Go.Abs.W
