/- Parts of the proof: FpIn1, FpIn2, FpIn3, FpIn4, FpIn5. -/
import Derived.Test.YtpdchdfajhbglaaGreatDoorSg
import Derived.Test.YtpdchdfajhbglaaGreatDoorSe
import Derived.Test.YtpdchdfajhbglaaGreatDoorTp
import Derived.Test.YtpdchdfajhbglaaGreatDoorSc
import Derived.Test.YtpdchdfajhbglaaGreatDoorSd
namespace Go.Abs.W
def cnv (f g:Nat->Rat)(k:Nat):Rat:=sumQ (fun i=>f i*g (k-i)) k
theorem q6y : ∀(n:Nat) (f:Nat->Rat),sumQ f n=sumQ (fun i=>f (n-i)) n
 |0,_=>rfl
 |n+1,f=>by
  rw[qo4,sumQ,q6y n];have e:sumQ (fun i=>f (n+1-i)) n=sumQ (fun i=>f (n-i+1)) n:=qdg _ fun i hi=>by rw[show n+1-i=n-i+1 by omega]
  rw[e,Nat.sub_self];grind
theorem q8z (f g:Nat->Rat)(k:Nat):cnv f g k=cnv g f k:=by
 unfold cnv;rw[q6y];refine qdg _ fun i hi=>?_
 rw[show k-(k-i)=i by omega];grind
theorem qty (f g:Nat->Rat)(k:Nat):cnv f g (k+1)=f 0*g (k+1)+cnv (fun i=>f (i+1)) g k:=by
 unfold cnv;rw[qo4,Nat.sub_zero]
 congr 1
 refine qdg _ fun i hi=>?_
 rw[show k+1-(i+1)=k-i by omega]
theorem qamt (u v h:Nat->Rat)(k:Nat):cnv (fun i=>u i+v i) h k=cnv u h k+cnv v h k:=by
 unfold cnv;rw[<-qzf];exact qdg _ fun i hi=>by grind
theorem qae1 (c:Rat)(u h:Nat->Rat)(k:Nat):cnv (fun i=>c*u i) h k=c*cnv u h k:=by
 unfold cnv;rw[<-qze];exact qdg _ fun i hi=>by grind
theorem ql0 {f f' g g':Nat->Rat}{k:Nat}(h:∀i,i<=k->f i=f' i)(h2:∀i,i<=k->g i=g' i):cnv f g k=cnv f' g' k:=
 qdg _ fun i hi=>by rw[h i hi,h2 (k-i) (by omega)]
theorem qwd : ∀(k:Nat) (f g h:Nat->Rat),cnv (cnv f g) h k=cnv f (cnv g h) k
 |0,f,g,h=>by show f 0*g 0*h 0=f 0*(g 0*h 0);grind
 |k+1,f,g,h=>by
  have e:cnv (fun i=>cnv f g (i+1)) h k=f 0*cnv (fun i=>g (i+1)) h k+cnv (cnv (fun i=>f (i+1)) g) h k:=by
   rw[<-qae1,<-qamt];exact ql0 (fun i _=>qty f g i) fun _ _=>rfl
  rw[qty,qty f,e,qwd k,qty g];have z:cnv f g 0=f 0*g 0:=rfl;rw[z];grind
def kq (k:Nat):Rat:=(((k:Int)+1:Int):Rat)
theorem qaju (k:Nat):0<kq k:=by
 have:(0:Rat)=((0:Int):Rat):=rfl;unfold kq;rw[this];exact Rat.intCast_lt_intCast.2 (by omega)
theorem q1z (A:Nat->Rat)(k:Nat):kq k*cnv A A (k+1)=2*cnv (fun i=>kq i*A (i+1)) A k:=by
 have h:=qal0 A A k;have e:sumQ (fun i=>A i*(((((k-i:Nat):Int)+1:Int):Rat)*A (k-i+1))) k=cnv (fun i=>kq i*A (i+1)) A k:=by
  rw[q8z];rfl
 have e2:sumQ (fun i=>((((i:Int)+1:Int):Rat)*A (i+1))*A (k-i)) k=cnv (fun i=>kq i*A (i+1)) A k:=rfl;rw[e,e2]at h;show kq k*sumQ _ _=_;have h2:kq k*sumQ (fun i=>A i*A (k+1-i)) (k+1)=cnv (fun i=>kq i*A (i+1)) A k+cnv (fun i=>kq i*A (i+1)) A k:=h;rw[h2];generalize cnv (fun i=>kq i*A (i+1)) A k=c;grind
theorem q1w {A S C:Nat->Rat}{n:Nat}(hs:∀k,k<n->kq k*S (k+1)=cnv (fun i=>kq i*A (i+1)) C k)(hc:∀k,k<n->kq k*C (k+1)=-cnv (fun i=>kq i*A (i+1)) S k){k:Nat}(hk:k<n) :
 cnv S S (k+1)+cnv C C (k+1)=0:=by
 have e1:cnv (fun i=>kq i*S (i+1)) S k=cnv (cnv (fun i=>kq i*A (i+1)) C) S k:=ql0 (fun i hi=>hs i (by omega)) fun _ _=>rfl
 have e2:cnv (fun i=>kq i*C (i+1)) C k=cnv (fun i=>-1*cnv (fun i=>kq i*A (i+1)) S i) C k:=ql0 (fun i hi=>by rw[hc i (by omega)];grind) fun _ _=>rfl
 have e3:cnv (cnv (fun i=>kq i*A (i+1)) C) S k=cnv (cnv (fun i=>kq i*A (i+1)) S) C k:=by
  rw[qwd,qwd];exact ql0 (fun _ _=>rfl) fun i _=>q8z C S i
 rw[qae1]at e2;have d1:=q1z S k;have d2:=q1z C k;rw[e1,e3]at d1;rw[e2]at d2;have kp:=qaju k;have:kq k*(cnv S S (k+1)+cnv C C (k+1))=0:=by grind
 rcases Rat.mul_eq_zero.1 this with h|h
 ·grind
 ·exact h
theorem qo6 {α:Type}(F:Nat->(Nat->α)->α)(z:α)(hF:∀k f g,(∀i,i<k->f i=g i)->F k f=F k g):∃γ:Nat->α,∀k,γ k=F k γ:=by
 let gs:Nat->Nat->α:=fun n=>n.rec (fun _=>z) (fun n g i=>if i=n then F n g else g i)
 have st:∀n i,i<n->gs n i=gs (i+1) i:=by
  intro n;induction n with
  |zero=>intro i h;omega
  |succ n ih=>
   intro i h;rcases Nat.lt_or_ge i n with h2|h2
   ·show(if i=n then F n (gs n)else gs n i)=_;rw[if_neg (by omega)];exact ih i h2
   ·have:i=n:=by omega
    subst this;rfl
 refine⟨fun i=>gs (i+1) i,fun k=>?_⟩;show(if k=k then F k (gs k)else gs k k)=_;rw[if_pos rfl];exact hF k _ _ fun i hi=>st k i hi
theorem q8u {x y:Iv}{p:Int}(h:(x.div y p).known=true):x.known=true/\y.known=true/\y.sgn≠0:=by
 unfold Iv.div at h;split at h
 ·rename_i h2;simp only[Bool.and_eq_true,decide_eq_true_eq]at h2;exact⟨h2.1.1.1,h2.1.1.2,h2.2⟩
 ·exact absurd h qfe
theorem qzg {p:Int}{f:Nat->Iv}:∀n,(sumI p f n).known=true->∀i,i<=n->(f i).known=true
 |0,h,i,hi=>by rw[show i=0 by omega];exact h
 |n+1,h,i,hi=>by
  obtain⟨a,b⟩:=q9a h;rcases Nat.lt_or_ge i (n+1)with h2|h2
  ·exact qzg n a i (by omega)
  ·rw[show i=n+1 by omega];exact b
theorem qzz {s:Iv}{p:Int}{f:Nat->Iv}:∀n,(lessI s p f n).known=true->s.known=true
 |0,h=>h
 |n+1,h=>qzz n (q9a h).1
def pq (f:Nat->Rat):Nat->Rat
 |0=>0
 |n+1=>pq f n+f n
theorem qzd (f:Nat->Rat):∀n,sumQ f n=pq f n+f n
 |0=>by simp only[sumQ,pq];grind
 |n+1=>by rw[sumQ,pq,qzd f n]
theorem qtp {f g:Nat->Rat}:∀n,(∀i,i<n->f i=g i)->pq f n=pq g n
 |0,_=>rfl
 |n+1,h=>by rw[pq,pq,qtp n fun i hi=>h i (by omega),h n (by omega)]
theorem qz0 {s:Iv}{p:Int}{f:Nat->Iv}{q:Nat->Rat}{r:Rat}(ws:s.W)(wf:∀i,(f i).W)(hs:s.In r):∀n,(∀i,i<n->(f i).In (q i))->(lessI s p f n).In (r-pq q n)
 |0,_=>by
  have e:r-pq q 0=r:=by show r-0=r;grind
  rw[e];exact hs
 |n+1,h=>by
  have e:r-pq q (n+1)=r-pq q n-q n:=by rw[pq];grind
  rw[e,lessI];exact qaja (qrs ws n) (wf n) (qz0 ws wf hs n fun i hi=>h i (by omega)) (h n (by omega))
theorem nz_of {y:Iv}{q:Rat}(wy:y.W)(k:y.known=true)(hs:y.sgn≠0)(h:y.In q):q≠0:=by
 intro e;obtain⟨a,b⟩:=h k;rw[e,Rat.zero_mul]at a b;have z:(0:Rat)=((0:Int):Rat):=rfl;rw[z]at a b;have a':=Rat.intCast_le_intCast.1 a;have b':=Rat.intCast_le_intCast.1 b;rcases(qid wy k).1 hs with h2|h2<;>omega
theorem q21 {x y:Iv}(wx:x.W)(wy:y.W)(vx:x.valid=true)(gy:y.Gd)(h:y.known=true->x.known=true/\∀q,x.In q->y.In q):x.ins y=true:=by
 rcases gy with rfl|k
 ·exact qbk vx
 ·obtain⟨kx,hq⟩:=h k;have l:=qjy (hq _ (In_lo wx kx)) k;have u:=qjy (hq _ (In_hi wx kx)) k;exact qyh wx wy kx k (rat_le.1 l.1) (rat_le.1 u.2)
theorem picks {a:List Iv}(wa:∀x ∈ a,x.W){k:Nat}{q:Rat}(h:(at0 a k).In q):∃α:Nat->Rat,α k=q/\∀i,(at0 a i).In (α i):=
 ⟨fun i=>if i=k then q else(at0 a i).pick,if_pos rfl,fun i=>by
  by_cases e:i=k
  ·subst e;show(at0 a i).In (if i=i then q else _);rw[if_pos rfl];exact h
  ·show(at0 a i).In (if i=k then q else _);rw[if_neg e];exact qmf (at0_W wa)⟩
theorem qakr {p:Int}{f:Nat->Iv}(wf:∀i,(f i).W)(g0:(f 0).Gd):∀n,(sumI p f n).Gd
 |0=>g0
 |n+1=>qafh (qnq (wf 0) n) (wf _)
theorem qac4 {a b:List Iv}{p:Int}{k:Nat}(wa:∀x ∈ a,x.W)(wb:∀x ∈ b,x.W):(mulC a b p k).Gd:=
 qakr (f:=fun i=>(at0 a i).mul (at0 b (k-i)) p) (fun _=>mul_W) (qajo (at0_W wa) (at0_W wb)) k
theorem qaia {a b:List Iv}{p:Int}(wa:∀x ∈ a,x.W)(wb:∀x ∈ b,x.W){k:Nat}(hk:k<a.length)(v:(at0 a k).valid=true):(at0 a k).ins (mulC (divL a b p) b p k)=true:=by
 have wD:∀x ∈ divL a b p,x.W:=bld_W fun _ _ _=>q8w
 have eD:∀i,i<a.length->at0 (divL a b p) i=divC a b p (bld (divC a b p) i) i:=fun i hi=>qgm hi
 have eO:∀i j,j<i->i<a.length->at0 (bld (divC a b p) i) j=at0 (divL a b p) j:=fun i j h h2=>by rw[qgm h,eD j (by omega)]
 have wo:∀i,∀x ∈ bld (divC a b p) i,x.W:=fun i=>bld_W fun _ _ _=>q8w
 refine q21 (at0_W wa) (qnq mul_W k) v (qac4 wD wb) fun kn=>?_
 have t:=fun i hi=>qye (qzg k kn i hi)
 have kk:=(t k (Nat.le_refl _)).1;rw[eD k hk]at kk;obtain⟨l1,kb,sb⟩:=q8u kk;refine⟨qzz _ l1,fun q hq=>?_⟩;obtain⟨α,hα,ia⟩:=picks wa hq;have⟨β,hβ⟩:∃β:Nat->Rat,∀i,(at0 b i).In (β i):=⟨fun i=>(at0 b i).pick,fun i=>qmf (at0_W wb)⟩
 have b0:=nz_of (at0_W wb) kb sb (hβ 0);obtain⟨γ,hγ⟩:=qo6 (fun k f=>(α k-pq (fun i=>f i*β (k-i)) k)/β 0) 0 fun k f g h=>by
  show(α k-pq _ k)/β 0=(α k-pq _ k)/β 0;rw[qtp k fun i hi=>by rw[h i hi]]
 have iD:∀i,i<a.length->(at0 (divL a b p) i).In (γ i):=by
  intro i;induction i using Nat.strongRecOn with
  |_ i ih=>
   intro hi;rw[eD i hi,hγ i];exact qp0 (qrs (at0_W wa) i) (at0_W wb) (qz0 (at0_W wa) (fun _=>mul_W) (ia i) i fun j hj=>qn0 (at0_W (wo i)) (at0_W wb) (by rw[eO i j hj hi];exact ih j hj (by omega)) (hβ _)) (hβ 0)
 have m:=q71 (p:=p) (k:=k) wD wb (fun i hi=>iD i (by omega)) (fun i _=>hβ i);rw[qzd,Nat.sub_self,hγ k,Rat.div_mul_cancel b0]at m;have e:pq (fun i=>γ i*β (k-i)) k+(α k-pq (fun i=>γ i*β (k-i)) k)=q:=by rw[hα];grind
 rwa[e]at m
theorem qacb {a:List Iv}{p:Int}(wa:∀x ∈ a,x.W){k:Nat}(hk:k<a.length)(v:(at0 a k).valid=true)(g0:(at0 a 0).Gd):(at0 a k).ins (mulC (sqrtL a p) (sqrtL a p) p k)=true:=by
 have wR:∀x ∈ sqrtL a p,x.W:=bld_W fun _ _ _=>qua
 have eR:∀i,i<a.length->at0 (sqrtL a p) i=sqrtC a p (bld (sqrtC a p) i) i:=fun i hi=>qgm hi
 have eO:∀i j,j<i->i<a.length->at0 (bld (sqrtC a p) i) j=at0 (sqrtL a p) j:=fun i j h h2=>by rw[qgm h,eR j (by omega)]
 have wo:∀i,∀x ∈ bld (sqrtC a p) i,x.W:=fun i=>bld_W fun _ _ _=>qua
 have e0:at0 (sqrtL a p) 0=(at0 a 0).sqrt p:=eR 0 (by omega);cases k with
 |zero=>
  show(at0 a 0).ins ((at0 (sqrtL a p) 0).mul (at0 (sqrtL a p) 0) p)=true;rw[e0];exact q9z (at0_W wa) g0 mul_W (qajo q1x q1x) (fun h=>(qye h).1) fun q hq=>qn0 q1x q1x hq hq
 |succ m=>
  refine q21 (at0_W wa) (qnq mul_W _) v (qac4 wR wR) fun kn=>?_
  have t:=fun i hi=>qye (qzg (m+1) kn i hi)
  have kk:=(t (m+1) (Nat.le_refl _)).1;rw[eR (m+1) hk]at kk;obtain⟨l1,kb,sb⟩:=q8u kk;rw[eO (m+1) 0 (by omega) hk]at kb sb;refine⟨qzz _ l1,fun q hq=>?_⟩;obtain⟨α,hα,ia⟩:=picks wa hq;have⟨r0,h0⟩:∃r0,(at0 (sqrtL a p) 0).In r0:=⟨_,qmf (at0_W wR)⟩
  have i2:((at0 (sqrtL a p) 0).scl 1).In (r0+r0):=q68 (a:=1) (b:=0) (at0_W wR) (by omega) (by rw[show((pw 0:Int):Rat)=1 from rfl,show((pw 1:Int):Rat)=2 from rfl];grind) h0;have nz:=nz_of qo0 kb sb i2;obtain⟨ρ,hρ⟩:=qo6 (fun k f=>match k with|0=>r0|m+1=>(α (m+1)-pq (fun i=>f (1+i)*f (m+1-(1+i))) m)/(r0+r0)) 0 fun k f g h=>by
   cases k with
   |zero=>rfl
   |succ m=>
    show(α (m+1)-pq _ m)/(r0+r0)=(α (m+1)-pq _ m)/(r0+r0);rw[qtp m fun i hi=>by rw[h (1+i) (by omega),h (m+1-(1+i)) (by omega)]]
  have p0:ρ 0=r0:=hρ 0;have pS:∀m,ρ (m+1)=(α (m+1)-pq (fun i=>ρ (1+i)*ρ (m+1-(1+i))) m)/(r0+r0):=fun m=>hρ (m+1)
  have iR:∀i,i<a.length->(at0 (sqrtL a p) i).In (ρ i):=by
   intro i;induction i using Nat.strongRecOn with
   |_ i ih=>
    intro hi;cases i with
    |zero=>rw[p0];exact h0
    |succ i=>
     rw[eR (i+1) hi,pS i];exact qp0 (qrs (at0_W wa) i) qo0 (qz0 (at0_W wa) (fun _=>mul_W) (ia (i+1)) i fun j hj=>
      qn0 (at0_W (wo _)) (at0_W (wo _)) (by rw[eO (i+1) (1+j) (by omega) hi];exact ih (1+j) (by omega) (by omega)) (by rw[eO (i+1) (i+1-(1+j)) (by omega) hi];exact ih _ (by omega) (by omega))) (by rw[eO (i+1) 0 (by omega) hi];exact i2)
  have mm:=q71 (p:=p) (k:=m+1) wR wR (fun i hi=>iR i (by omega)) (fun i hi=>iR i (by omega));rw[qzd,Nat.sub_self,p0]at mm;have sh:∀(f:Nat->Rat) n,pq f (n+1)=f 0+pq (fun i=>f (1+i)) n:=by
   intro f n;induction n with
   |zero=>show 0+f 0=f 0+0;grind
   |succ n ih=>rw[pq,ih,pq,show 1+n=n+1 by omega];grind
  rw[sh,Nat.sub_zero,p0]at mm;have s:=pS m;have c:ρ (m+1)*(r0+r0)=α (m+1)-pq (fun i=>ρ (1+i)*ρ (m+1-(1+i))) m:=by rw[s,Rat.div_mul_cancel nz]
  have e:r0*ρ (m+1)+pq (fun i=>ρ (1+i)*ρ (m+1-(1+i))) m+ρ (m+1)*r0=q:=by rw[<-hα];grind
  rwa[e]at mm
theorem qajs {d:Dy}{p:Int}:(lgI d p).Gd:=by
 unfold lgI;split
 ·exact .inr q9p
 ·exact qaor add_W
theorem qao9 {x:Iv}{p:Int}(w:x.W):(x.log p).Gd/\∀q,x.In q->(x.log p).HasLog q:=by
 by_cases h:(x.known&&precB p&&decide (0<x.lo.sgn))=true
 ·have e:x.log p=endsI (lgI x.lo p) (lgI x.hi p):=by unfold Iv.log;rw[if_pos h]
  simp only[Bool.and_eq_true,decide_eq_true_eq]at h;obtain⟨⟨k,hp⟩,h1⟩:=h;obtain⟨o1,o2⟩:=qai w k;have le0:=qam w k;have h2:0<x.hi.sgn:=(qkj o2).1.2 (by have:=(qkj o1).1.1 h1;omega);have l1:=qadk (p:=p) o1 h1;have l2:=qadk (p:=p) o2 h2;rw[e];have wh:∀{a b:Iv},(a.all ||b.all)=true->(endsI a b).Gd/\∀q,x.In q->(endsI a b).HasLog q:=fun{a b} h=>by
   have e:endsI a b=Iv.whole:=by unfold endsI;rw[if_pos h]
   rw[e];exact⟨.inl rfl,fun q _ h=>absurd h qfe⟩
  rcases qajs (d:=x.lo) (p:=p)with g|g
  ·exact wh (by rw[g];rfl)
  ·rcases qajs (d:=x.hi) (p:=p)with g2|g2
   ·exact wh (by rw[g2];simp[Iv.whole])
   ·refine⟨.inr (qwv lgI_W lgI_W g g2 l1 l2 Rat.le_refl (rat_le.2 le0)).1,fun q hq=>?_⟩;obtain⟨q1,q2⟩:=qjy hq k;exact(qwv lgI_W lgI_W g g2 l1 l2 q1 q2).2
 ·have e:x.log p=Iv.whole:=by unfold Iv.log;rw[if_neg h]
  rw[e];exact⟨.inl rfl,fun q _ h=>absurd h qfe⟩
theorem qao8 {x:Iv}{p:Int}(h:(x.log p).known=true):x.known=true:=by
 unfold Iv.log at h;split at h
 ·rename_i h2;simp only[Bool.and_eq_true]at h2;exact h2.1.1
 ·exact absurd h qfe
theorem qaj1 {x:Iv}{p:Int}(h:(x.exp p).known=true):x.known=true/\precB p=true/\modB x.lo=true/\modB x.hi=true:=by
 unfold Iv.exp at h;split at h
 ·rename_i h2;simp only[Bool.and_eq_true]at h2;exact⟨h2.1.1.1,h2.1.1.2,h2.1.2,h2.2⟩
 ·exact absurd h qfe
theorem q4o {x:Iv}{q:Rat}(h1:x.lo.rat<=q)(h2:q<=x.hi.rat):x.In q:=fun _=>by
 have hs:=Rat.le_of_lt qdc;rw[<-qep,<-qep];exact⟨Rat.mul_le_mul_of_nonneg_right h1 hs,Rat.mul_le_mul_of_nonneg_right h2 hs⟩
theorem q3p {x:Iv}{p:Int}{q:Rat}(w:x.W)(h:x.In q):((x.log p).exp p).In q:=by
 by_cases ky:((x.log p).exp p).known=true
 ·obtain⟨kl,hp,m1,m2⟩:=qaj1 ky;have wl:(x.log p).W:=log_W;have l:=(qao9 (p:=p) w).2 q h kl;have q1:=q0y (p:=p) wl kl hp m1 m2 (q:=(x.log p).lo.rat) Rat.le_refl (rat_le.2 (qam wl kl));have q2:=q0y (p:=p) wl kl hp m1 m2 (q:=(x.log p).hi.rat) (rat_le.2 (qam wl kl)) Rat.le_refl;exact q4o ((qo2 q1.1 q1.2).1.trans l.1).const (SLe.trans l.2 (qo2 q2.1 q2.2).2).const
 ·exact fun k=>absurd k ky
theorem qafj {s:Iv}{p:Int}{f:Nat->Iv}{q:Nat->Rat}{r:Rat}(ws:s.W)(wf:∀i,(f i).W)(hs:s.In r):∀n,(∀i,i<n->(f i).In (q i))->(accI s p f n).In (r+pq q n)
 |0,_=>by
  have e:r+pq q 0=r:=by show r+0=r;grind
  rw[e];exact hs
 |n+1,h=>by
  have e:r+pq q (n+1)=r+pq q n+q n:=by rw[pq];grind
  rw[e,accI];exact ql5 (qafi ws n) (wf n) (qafj ws wf hs n fun i hi=>h i (by omega)) (h n (by omega))
theorem nK_In (m:Nat):(nI ((m+1:Nat):Int) ((m+1:Nat):Int)).In (kq m):=qacz
theorem nK_W {m:Nat}(h:m<=100000):(nI ((m+1:Nat):Int) ((m+1:Nat):Int)).W:=nI_W (by omega) (by omega)
theorem qabh {a o:List Iv}{p:Int}{m i:Nat}{x y:Rat}(wa:∀x ∈ a,x.W)(wo:∀x ∈ o,x.W)(hi:i<=100000)(ha:(at0 a (i+1)).In x)(ho:(at0 o (m-i)).In y):(tm1 a o p m i).In (kq i*x*y):=
 qn0 mul_W (at0_W wo) (qn0 (nK_W hi) (at0_W wa) (nK_In i) ha) ho
theorem kq_nz (k:Nat):kq k≠0:=by have:=qaju k;grind
theorem qahr {a:List Iv}{p:Int}(wa:SW a)(h17:a.length<=1000){k:Nat}(hk:k<a.length)(v:(at0 a k).valid=true):(at0 a k).ins (at0 (expL (logL a p) p) k)=true:=by
 have wL:SW (logL a p):=qajr wa.1;have lL:(logL a p).length=a.length:=by unfold logL;rw[qb7]
 have wE:SW (expL (logL a p) p):=qaj2 wL;have eL:∀i,i<a.length->at0 (logL a p) i=logC a p (bld (logC a p) i) i:=fun i hi=>qgm hi
 have eE:∀i,i<a.length->at0 (expL (logL a p) p) i=expC (logL a p) p (bld (expC (logL a p) p) i) i:=fun i hi=>qgm (by rw[lL];exact hi)
 have oL:∀i j,j<i->i<a.length->at0 (bld (logC a p) i) j=at0 (logL a p) j:=fun i j h h2=>by rw[qgm h,eL j (by omega)]
 have oE:∀i j,j<i->i<a.length->at0 (bld (expC (logL a p) p) i) j=at0 (expL (logL a p) p) j:=fun i j h h2=>by rw[qgm h,eE j (by omega)]
 have woL:∀i,∀x ∈ bld (logC a p) i,x.W:=fun i=>bld_W fun _ _ _=>qadc
 have woE:∀i,∀x ∈ bld (expC (logL a p) p) i,x.W:=fun i=>bld_W fun _ _ _=>qad8 wL
 have l0:at0 (logL a p) 0=(at0 a 0).log p:=eL 0 (by omega);have e0:at0 (expL (logL a p) p) 0=((at0 a 0).log p).exp p:=by rw[eE 0 (by omega)];show(at0 (logL a p) 0).exp p=_;rw[l0]
 have gd:(at0 (expL (logL a p) p) k).Gd:=by
  rw[eE k hk];cases k with
  |zero=>exact(qamg (at0_W wL.2)).1
  |succ m=>exact qap5 (qnq tm1_W m) (nK_W (by omega))
 refine q21 (at0_W wa.2) (at0_W wE.2) v gd fun kn=>?_
 cases k with
 |zero=>
  rw[e0]at kn ⊢;exact⟨qao8 (qaj1 kn).1,fun q hq=>q3p (at0_W wa.2) hq⟩
 |succ m=>
  have kn2:=kn;rw[eE (m+1) hk]at kn2;have kt:=qzg m (q8u kn2).1 m (Nat.le_refl _);have kl:=(qye (qye kt).1).2;rw[eL (m+1) hk]at kl;obtain⟨ka,k0,s0⟩:=q8u kl;refine⟨(q9a ka).1,fun q hq=>?_⟩;obtain⟨α,hα,ia⟩:=picks wa.2 hq;have n0:=nz_of (at0_W wa.2) k0 s0 (ia 0);have⟨r0,h0⟩:∃r0,(at0 (logL a p) 0).In r0:=⟨_,qmf (at0_W wL.2)⟩
  obtain⟨lam,hl⟩:=qo6 (fun k f=>match k with|0=>r0|m+1=>(α (m+1)-(0+pq (fun i=>kq i*f (i+1)*α (m-i)) m)/kq m)/α 0) 0 fun k f g h=>by
   cases k with
   |zero=>rfl
   |succ m=>
    show(α (m+1)-(0+pq _ m)/kq m)/α 0=(α (m+1)-(0+pq _ m)/kq m)/α 0;rw[qtp m fun i hi=>by rw[h (i+1) (by omega)]]
  have lS:∀m,lam (m+1)=(α (m+1)-(0+pq (fun i=>kq i*lam (i+1)*α (m-i)) m)/kq m)/α 0:=fun m=>hl (m+1)
  have z0:(nI 0 0).In 0:=qacz;have iL:∀i,i<a.length->(at0 (logL a p) i).In (lam i):=by
   intro i;induction i using Nat.strongRecOn with
   |_ i ih=>
    intro hi;cases i with
    |zero=>rw[show lam 0=r0 from hl 0];exact h0
    |succ i=>
     rw[eL (i+1) hi,lS i];have wacc:(accI (nI 0 0) p (tm1 (bld (logC a p) (i+1)) a p i) i).W:=qafi nI0_W i;have iacc:=qafj (p:=p) (f:=tm1 (bld (logC a p) (i+1)) a p i) nI0_W (fun _=>tm1_W) z0 i fun j hj=>
      qabh (x:=lam (j+1)) (y:=α (i-j)) (woL _) wa.2 (by omega) (by rw[oL (i+1) (j+1) (by omega) hi];exact ih (j+1) (by omega) (by omega)) (ia _)
     exact qp0 add_W (at0_W wa.2) (qaja (at0_W wa.2) div_W (ia (i+1)) (qp0 wacc (nK_W (by omega)) iacc (nK_In i))) (ia 0)
  have iE:∀i,i<a.length->(at0 (expL (logL a p) p) i).In (α i):=by
   intro i;induction i using Nat.strongRecOn with
   |_ i ih=>
    intro hi;cases i with
    |zero=>rw[e0];exact q3p (at0_W wa.2) (ia 0)
    |succ i=>
     rw[eE (i+1) hi];have isum:=qtn (p:=p) (f:=tm1 (logL a p) (bld (expC (logL a p) p) (i+1)) p i) (q:=fun j=>kq j*lam (j+1)*α (i-j)) (fun _=>tm1_W) i fun j hj=>
      qabh (x:=lam (j+1)) (y:=α (i-j)) wL.2 (woE _) (by omega) (iL (j+1) (by omega)) (by rw[oE (i+1) (i-j) (by omega) hi];exact ih (i-j) (by omega) (by omega))
     have d:=qp0 (p:=p) (qnq tm1_W i) (nK_W (m:=i) (by omega)) isum (nK_In i);have e:sumQ (fun j=>kq j*lam (j+1)*α (i-j)) i/kq i=α (i+1):=by
      rw[qzd,Nat.sub_self,lS i];generalize pq (fun j=>kq j*lam (j+1)*α (i-j)) i=P;have k0:=kq_nz i;have c1:(α (i+1)-(0+P)/kq i)/α 0*α 0=α (i+1)-(0+P)/kq i:=Rat.div_mul_cancel n0;have c2:(0+P)/kq i*kq i=0+P:=Rat.div_mul_cancel k0;have c3:P+kq i*((α (i+1)-(0+P)/kq i)/α 0)*α 0=α (i+1)*kq i:=by
       rw[Rat.mul_assoc,c1];grind
      rw[c3,Rat.mul_div_cancel k0]
     rw[e]at d;exact d
  have:=iE (m+1) hk;rwa[hα]at this
theorem q2f {d:Dy}{p:Int}(ok:d.Ok)(hp:precB p=true)(h0:0<=d.val) :
 ((endE d 2 p false).2=0->(endE d 2 p false).1.val*pw 16384<=d.val*d.val)/\((endE d 2 p true).2=0->d.val*d.val<=(endE d 2 p true).1.val*pw 16384):=by
 rw[q8t ok h0,q8t ok h0];have e:∀up,powE d 2 p up=if(qbi d p up).2=0 then rMul (qbi d p up).1 d p up else qbi d p up:=fun up=>rfl
 rw[e,e];obtain⟨z,n0⟩:=(qfi ok hp).nonneg h0;have le:=(qfi ok hp).at z;rw[if_pos z];have oR:∀up,(qbi d p up).1.Ok:=fun up=>rRound_ok
 refine⟨fun hz=>?_,fun hz=>?_⟩
 ·have h:=(qnt (oR false) ok hp).at hz;have m:=Int.mul_le_mul_of_nonneg_right le h0;exact Int.le_trans h m
 ·by_cases z2:(qbi d p true).2=0
  ·rw[if_pos z2]at hz ⊢;have ge:=(qgx ok hp).at z2;have h:=(qns (oR true) ok hp).at hz;have m:=Int.mul_le_mul_of_nonneg_right ge h0;exact Int.le_trans m h
  ·rw[if_neg z2]at hz;exact absurd hz z2
theorem qalb {x:Iv}{p:Int}{q:Rat}(wx:x.W)(hq:x.In q):(x.pow 2 p).In (q*q):=by
 unfold Iv.pow;split
 ·rename_i h;simp only[Bool.and_eq_true]at h;obtain⟨⟨⟨k,hp⟩,_⟩,_⟩:=h;rw[if_neg (by decide),if_pos (by decide)];obtain⟨ka,oa,ob,n0,n1⟩:=qrj wx k;obtain⟨u,v⟩:=q9d wx hq ka;unfold Iv.made;split
  ·rename_i hz;intro _;have e1:=qa5 ((q2f oa hp n0).1 hz.1);have e2:=qa5 ((q2f ob hp (Int.le_trans n0 n1)).2 hz.2);have z0:=qa5 n0;rw[Rat.intCast_mul,Rat.intCast_mul,show((pw 16384:Int):Rat)=sc from rfl]at e1 e2;rw[show((0:Int):Rat)=0 from rfl]at z0;show((endE x.abs.lo 2 p false).1.val:Rat)<=q*q*sc/\q*q*sc<=((endE x.abs.hi 2 p true).1.val:Rat);have ra:=q7g q;generalize ((endE x.abs.lo 2 p false).1.val:Rat)=L at *
   generalize ((endE x.abs.hi 2 p true).1.val:Rat)=U at *
   generalize (x.abs.lo.val:Rat)=l at *
   generalize (x.abs.hi.val:Rat)=w at *
   have hs:=qdc;have eq:q*q*sc*sc=rabs q*sc*(rabs q*sc):=by rw[<-ra];grind
   have a0:0<=rabs q*sc:=Rat.le_trans z0 u;generalize rabs q*sc=A at *
   refine⟨Rat.le_of_mul_le_mul_right ?_ hs,Rat.le_of_mul_le_mul_right ?_ hs⟩
   ·rw[eq];exact Rat.le_trans e1 (Rat.le_trans (rmulR u z0) (rmulL u a0))
   ·rw[eq];exact Rat.le_trans (Rat.le_trans (rmulR v a0) (rmulL v (Rat.le_trans a0 v))) e2
  ·exact .whole
 ·exact .whole
theorem q7n {x:Iv}{p:Int}{s:Nat->Rat}(wx:x.W)(hs:x.Has s)(bs:Bnd s):(x.pow 2 p).Has (fun n=>s n*s n):=by
 obtain⟨c,h1,h2⟩:=hs;exact⟨fun n=>c n*c n,fun n=>qalb wx (h1 n),h2.mul h2 bs bs⟩
theorem qaq3 {x:Iv}{q:Rat}(h:x.Has (fun _=>q)):x.In q:=by
 cases k:x.known
 ·exact fun h=>by rw[k]at h;cases h
 ·obtain⟨a,b⟩:=qo2 k h;exact q4o a.const b.const
theorem qacy {k:Int}(h:(nI k k).known=true){q:Rat}(hq:(nI k k).In q):q=k:=by
 obtain⟨a,b⟩:=hq h;obtain⟨c,d⟩:=(qacz (k:=k)) h;have e:(nI k k).hi=(nI k k).lo:=rfl;rw[e]at b d;have hs:=qdc;have:q*sc=(k:Rat)*sc:=by grind
 have h2:(q-(k:Rat))*sc=0:=by grind
 rcases Rat.mul_eq_zero.1 h2 with h|h
 ·grind
 ·grind
theorem qalh {p:Int}{x:Iv}(w:x.W):(((bothI x false p).pow 2 p).add ((bothI x true p).pow 2 p) p).In 1:=by
 have hs:=q85 (c:=false) (p:=p) w (qmf w).has;have hc:=q85 (c:=true) (p:=p) w (qmf w).has;have bu:Bnd (fun _:Nat=>x.pick):=q84 x.pick;have h1:=q7n (p:=p) (qy4 w) hs (qoz bu);have h2:=q7n (p:=p) (qy4 w) hc (ql7 bu);have h3:=qam6 (p:=p) pow_W pow_W h1 h2;generalize (fun _:Nat=>x.pick)=u at *
 have e:Near (fun n=>Fn false u n*Fn false u n+Fn true u n*Fn true u n) (fun _=>1):=
  (Near.of_eq fun n=>by show Si u n*Si u n+Co u n*Co u n=Co u n*Co u n+Si u n*Si u n;grind).trans (qaf8 bu)
 exact qaq3 (h3.near e.symm)
theorem q1a {l:List Iv}{x:Iv}{i:Nat}(h:i<l.length):at0 (l++[x]) i=at0 l i:=by simp[at0,List.getElem?_append_left h]
theorem qafd {l:List Iv}{x:Iv}{i:Nat}(h:l.length=i):at0 (l++[x]) i=x:=by subst h;simp[at0]
theorem qajh {a o:List Iv}{p:Int}{m:Nat}{α y:Nat->Rat}(wa:∀x ∈ a,x.W)(wo:∀x ∈ o,x.W)(hm:m<=100000)(ia:∀i,(at0 a i).In (α i))(io:∀i,i<=m->(at0 o i).In (y i)) :
 (prt a o p m).In (cnv (fun i=>kq i*α (i+1)) y m/kq m):=by
 have s:=qtn (p:=p) (f:=tm1 a o p m) (q:=fun j=>kq j*α (j+1)*y (m-j)) (fun _=>tm1_W) m fun j hj=>qabh wa wo (by omega) (ia (j+1)) (io (m-j) (by omega))
 exact qp0 (qnq tm1_W m) (nK_W hm) s (nK_In m)
theorem qaoo {a:List Iv}{p:Int}(wa:SW a)(h17:a.length<=1000){α:Nat->Rat}(ia:∀i,(at0 a i).In (α i)){s c:Rat}(hs:(bothI (at0 a 0) false p).In s)(hc:(bothI (at0 a 0) true p).In c) :
 ∃S C:Nat->Rat,(∀k,kq k*S (k+1)=cnv (fun i=>kq i*α (i+1)) C k)/\(∀k,kq k*C (k+1)=-cnv (fun i=>kq i*α (i+1)) S k) /\
  ∀n,n<=a.length->∀i,i<n->(at0 (scB a p n).1 i).In (S i)/\(at0 (scB a p n).2 i).In (C i):=by
 have⟨d,hd⟩:∃d:Nat->Rat,d=fun i=>kq i*α (i+1):=⟨_,rfl⟩
 obtain⟨γ,hγ⟩:=qo6 (fun k f=>match k with|0=>(s,c)|m+1=>(cnv d (fun i=>(f i).2) m/kq m,-(cnv d (fun i=>(f i).1) m/kq m))) ((0,0):Rat × Rat) fun k f g h=>by
  cases k with
  |zero=>rfl
  |succ m=>
   show(cnv d (fun i=>(f i).2) m/kq m,-(cnv d (fun i=>(f i).1) m/kq m))=(cnv d (fun i=>(g i).2) m/kq m,-(cnv d (fun i=>(g i).1) m/kq m));rw[ql0 (g:=fun i=>(f i).2) (g':=fun i=>(g i).2) (fun _ _=>rfl) fun i hi=>by rw[h i (by omega)],ql0 (g:=fun i=>(f i).1) (g':=fun i=>(g i).1) (fun _ _=>rfl) fun i hi=>by rw[h i (by omega)]]
 have g0:γ 0=(s,c):=hγ 0;have gS:∀m,γ (m+1)=(cnv d (fun i=>(γ i).2) m/kq m,-(cnv d (fun i=>(γ i).1) m/kq m)):=fun m=>hγ (m+1)
 have back:∀(u:Rat) k,kq k*(u/kq k)=u:=fun u k=>by rw[Rat.mul_comm,Rat.div_mul_cancel (kq_nz k)]
 rw[<-hd];refine⟨fun i=>(γ i).1,fun i=>(γ i).2,fun k=>?_,fun k=>?_,?_⟩
 ·show kq k*(γ (k+1)).1=_;rw[gS];exact back _ k
 ·show kq k*(γ (k+1)).2=_;rw[gS];show kq k*-(_/kq k)=_;rw[Rat.mul_neg,back]
 ·intro n;induction n with
  |zero=>intro _ i hi;omega
  |succ n ih=>
   intro hn i hi;have ih:=ih (by omega);obtain⟨l1,l2⟩:=qnr (a:=a) (p:=p) n;obtain⟨w1,w2⟩:=scB_W (p:=p) wa n;show(at0 ((scB a p n).1++[(scC a p (scB a p n) n).1]) i).In (γ i).1/\(at0 ((scB a p n).2++[(scC a p (scB a p n) n).2]) i).In (γ i).2;rcases Nat.lt_or_ge i n with h|h
   ·rw[q1a (by omega),q1a (by omega)];exact ih i h
   ·obtain rfl:i=n:=by omega
    rw[qafd l1,qafd l2];cases i with
    |zero=>rw[g0];exact⟨hs,hc⟩
    |succ m=>
     rw[gS];have hS:=qajh (p:=p) (m:=m) (y:=fun i=>(γ i).2) wa.2 w2 (by omega) ia fun j hj=>(ih j (by omega)).2
     have hC:=qajh (p:=p) (m:=m) (y:=fun i=>(γ i).1) wa.2 w1 (by omega) ia fun j hj=>(ih j (by omega)).1
     rw[<-hd]at hS hC;exact⟨hS,qajm prt_W hC⟩
theorem qtr {a:List Iv}{n p:Int}:(powS a n p).length=a.length:=by
 unfold powS;split
 ·rw[qb7]
 ·rw[List.length_set];split
  ·unfold zerL;rw[qb7]
  ·exact qus _
theorem qacn {a:List Iv}{p:Int}{k:Nat}(hk:k<a.length):at0 (powS a 2 p) k=if k=0 then(at0 a 0).pow 2 p else mulC a a p k:=by
 have e:powS a 2 p=(mulS a a p).set 0 ((at0 a 0).pow 2 p):=rfl;rw[e,qam3 (by rw[qq1];exact hk)];unfold mulS;rw[qgm hk]
theorem q2l : (nI 1 1).known=true:=by decide +kernel
theorem q2n : (nI 0 0).known=true:=by decide +kernel
theorem qamr {n k:Nat}(h:k<n+1):at0 (conL (nI 1 1) n) k=if k=0 then nI 1 1 else nI 0 0:=by
 cases k with
 |zero=>rfl
 |succ k=>rw[qco (by simpa[conL]using h)];simp[conL]
theorem qahd {a:List Iv}{p:Int}(wa:SW a){n:Nat}(hn:n+1=a.length)(h17:a.length<=17):InL (conL (nI 1 1) n) (zipI (fun x y=>x.add y p) (powS (scB a p a.length).1 2 p) (powS (scB a p a.length).2 2 p)):=by
 obtain⟨l1,l2⟩:=qnr (a:=a) (p:=p) a.length;obtain⟨w1,w2⟩:=scB_W (p:=p) wa a.length;have ia:∀i,(at0 a i).In (at0 a i).pick:=fun i=>qmf (at0_W wa.2)
 have w0:=at0_W wa.2 (k:=0);obtain⟨S,C,hS,hC,hI⟩:=qaoo (p:=p) wa (by omega) (α:=fun i=>(at0 a i).pick) ia (qmf (qy4 w0)) (qmf (qy4 w0));have hI:=hI a.length (Nat.le_refl _);have b0:0<a.length:=by omega
 have z1:at0 (scB a p a.length).1 0=bothI (at0 a 0) false p/\at0 (scB a p a.length).2 0=bothI (at0 a 0) true p:=by
  have key:∀n,at0 (scB a p (n+1)).1 0=bothI (at0 a 0) false p/\at0 (scB a p (n+1)).2 0=bothI (at0 a 0) true p:=by
   intro n;induction n with
   |zero=>exact⟨rfl,rfl⟩
   |succ n ih=>
    obtain⟨l1,l2⟩:=qnr (a:=a) (p:=p) (n+1);show at0 ((scB a p (n+1)).1++[(scC a p (scB a p (n+1)) (n+1)).1]) 0=_/\at0 ((scB a p (n+1)).2++[(scC a p (scB a p (n+1)) (n+1)).2]) 0=_;rw[q1a (by omega),q1a (by omega)];exact ih
  rw[<-hn];exact key n
 have ab:areB [powS (scB a p a.length).1 2 p,powS (scB a p a.length).2 2 p]=true:=are2.2 (by rw[qtr,qtr,l1,l2];omega);have lz:(zipI (fun x y=>x.add y p) (powS (scB a p a.length).1 2 p) (powS (scB a p a.length).2 2 p)).length=a.length:=by unfold zipI;rw[if_pos ab,qb7,qtr,l1]
 refine⟨by rw[lz,qtx,hn],fun i hi=>?_⟩;rw[qtx]at hi;have ez:at0 (zipI (fun x y=>x.add y p) (powS (scB a p a.length).1 2 p) (powS (scB a p a.length).2 2 p)) i=(at0 (powS (scB a p a.length).1 2 p) i).add (at0 (powS (scB a p a.length).2 2 p) i) p:=by
  unfold zipI;rw[if_pos ab,qgm (by rw[qtr,l1];omega)]
 rw[ez,qamr hi,qacn (by omega),qacn (by omega)];clear ez lz ab;generalize (scB a p a.length).1=LS at *
 generalize (scB a p a.length).2=LC at *
 cases i with
 |zero=>
  rw[if_pos rfl,if_pos rfl,if_pos rfl,z1.1,z1.2];refine q21 nI1_W add_W (by decide +kernel) (qafh pow_W pow_W) fun _=>⟨q2l,fun q hq=>?_⟩
  rw[qacy q2l hq];exact qalh w0
 |succ m=>
  rw[if_neg (by omega),if_neg (by omega),if_neg (by omega)];refine q21 nI0_W add_W (by decide +kernel) (qafh q2t q2t) fun _=>⟨q2n,fun q hq=>?_⟩
  rw[qacy q2n hq];have m1:=q71 (p:=p) (k:=m+1) w1 w1 (fun j hj=>(hI j (by omega)).1) (fun j hj=>(hI j (by omega)).1);have m2:=q71 (p:=p) (k:=m+1) w2 w2 (fun j hj=>(hI j (by omega)).2) (fun j hj=>(hI j (by omega)).2);have s:=ql5 (p:=p) q2t q2t m1 m2;have e:=q1w (A:=fun i=>(at0 a i).pick) (S:=S) (C:=C) (n:=m+1) (fun k _=>hS k) (fun k _=>hC k) (Nat.lt_succ_self m);have e2:sumQ (fun i=>S i*S (m+1-i)) (m+1)+sumQ (fun i=>C i*C (m+1-i)) (m+1)=((0:Int):Rat):=e;rw[e2]at s;exact s
theorem qal5 (x:Iv)(w:x.W):CQ prog qkm [x.v] (.bool !x.valid):=by
 refine qag rfl fun H=>?_
 simp;refine qab rfl rfl rfl (qg2 x w) ?_;simp
set_option maxHeartbeats 1000000 in
theorem q4z (a b:List Iv)(p:Int)(la:LL a)(lb:LL b):CQ prog qmk [ivs a,ivs b,.int .i64 p] (.bool true):=by
 refine qag rfl fun H=>?_
 have g:=qal9 p [a,b] (by simp) (by simp;exact⟨la.len,lb.len⟩);simp;refine zq qaaq ?_;simp;refine qak (vs:=[.int .i64 p,ivss [a,b]]) rfl rfl (by simp[prep,frzVs,frzV,ivs,ivss];rfl) g ?_;cases hg:gr21 p [a,b]
 case true=>simp
 obtain⟨hl,wa⟩:=qyn hg (by simp) la;obtain⟨hlb,wb⟩:=qyn hg (by simp) lb;simp;refine qab rfl rfl rfl (qalc a b) ?_;cases hab:areB [a,b]
 ·simp
 obtain⟨a1,a2,a3⟩:=are2.1 hab;simp;have cc:=qaa4 (H:=H++[some ⟨1,[ivs a,ivs b],true,false⟩,some ⟨1,[ivs a,ivs b],true,true⟩]) (q:=H.length+1) [a,b] (by simp;omega) (by simp;omega) (by simp) (by simp);have⟨L,hL⟩:∃L,L=[a,b].flatten:=⟨_,rfl⟩
 have hmem:∀x,x ∈ L↔x ∈ a\/x ∈ b:=by intro x;rw[hL];simp
 have hlen:L.length<=1000000:=by rw[hL];simp;omega
 rw[<-hL]at cc;refine WL_ev rfl rfl rfl cc ?_;simp;have wcat:∀x ∈ L,x.W:=by
  intro x hx;rcases(hmem x).1 hx with h|h
  ·exact wa.2 x h
  ·exact wb.2 x h
 refine WL_ev rfl rfl rfl (qrm (p:=fun x=>!x.valid) L (by omega) fun x hx=>Cb_of (fun _=>rfl) (qal5 x (wcat x hx))) ?_;cases hv:(L.any fun x=>!x.valid)
 case true=>simp
 have vall:∀x ∈ L,x.valid=true:=by
  intro x hx;have:=List.any_eq_false.1 hv x hx;simpa using this
 have va:∀x ∈ a,x.valid=true:=fun x hx=>vall x ((hmem x).2 (.inl hx))
 clear vall hmem hlen wcat;have⟨n,hn⟩:∃n,n+1=a.length:=⟨a.length-1,by omega⟩
 have k1:IntKind.i64.wrap ((a.length:Int)-1)=(n:Int):=by rw[wrap_i64]<;>omega
 have hA:areB [a]=true:=are1.2 ⟨a1,a2⟩;have lD:(divL a b p).length=a.length:=by unfold divL;rw[qb7]
 have lR:(sqrtL a p).length=a.length:=by unfold sqrtL;rw[qb7]
 have lL:(logL a p).length=a.length:=by unfold logL;rw[qb7]
 have lE:(expL (logL a p) p).length=a.length:=by unfold expL;rw[qb7,lL]
 have lM:(mulS (divL a b p) b p).length=a.length:=by rw[qq1,lD]
 have lQ:(mulS (sqrtL a p) (sqrtL a p) p).length=a.length:=by rw[qq1,lR]
 have wD:=qap6 (p:=p) (b:=b) wa.1;have wR:=qakz (p:=p) wa.1;have wL:=qajr (p:=p) wa.1;obtain⟨wS,wC⟩:=qaop (p:=p) wa;obtain⟨lS,lC⟩:=qnr (a:=a) (p:=p) a.length;have i1:InL a (mulS (divL a b p) b p):=⟨lM.symm,fun i hi=>by unfold mulS;rw[qgm (by rw[lD];exact hi)];exact qaia wa.2 wb.2 hi (qri va)⟩
 have i2:InL a (mulS (sqrtL a p) (sqrtL a p) p):=⟨lQ.symm,fun i hi=>by
  unfold mulS;rw[qgm (by rw[lR];exact hi)];refine qacb wa.2 hi (qri va) ?_;have w0:=at0_W wa.2 (k:=0);have v0:=qri va (i:=0);rcases qajw w0 w0 (qahw w0 v0)with h|h
  ·exact .inl h
  ·exact .inr h.1⟩
 have i3:InL a (expL (logL a p) p):=⟨lE.symm,fun i hi=>qahr wa (by omega) hi (qri va)⟩
 have i4:=qahd (p:=p) wa hn a2;have cr:=q9g a p wa;have csc:=qaax a p wa;have cn:=q6h 1 (by omega) (by omega);have co:=qwr (nI 1 1) (n:Int);have on:ordB (n:Int)=true:=by simp[ordB];omega
 have cd:=qafx a b p wa wb;have cm:=q6g (divL a b p) b p wD wb;have cq:=q6g (sqrtL a p) (sqrtL a p) p wR wR;have cl:=qani a p wa;have ce:=qanj (logL a p) p wL;have cs:=qafw (scB a p a.length).1 2 p wS;have ct:=qafw (scB a p a.length).2 2 p wC;have ca:=qank (powS (scB a p a.length).1 2 p) (powS (scB a p a.length).2 2 p) p (q7m wS) (q7m wC);rw[if_pos hA]at cr cl;rw[if_pos hA,if_pos hA]at csc;simp only[on,if_true,Int.toNat_natCast]at co;rw[if_pos hab]at cd;simp only[show areB [divL a b p,b]=true from are2.2 (by omega),if_true,lD]at cm;simp only[show areB [sqrtL a p,sqrtL a p]=true from are2.2 (by omega),if_true,lR]at cq;rw[if_pos (are1.2 (by omega))]at ce cs ct;have j1:=q1b wa (qac3 (p:=p) (b:=b) wD.1) i1;have j2:=q1b wa (qac3 (p:=p) (b:=sqrtL a p) wR.1) i2;have j3:=q1b wa (qaj2 (p:=p) wL) i3;have j4:=q1b ⟨by rw[qtx];omega,qaj6 nI1_W⟩ (qakh (q7m (n:=2) (p:=p) wS) (fun _ _ _ _=>add_W) (q7m (n:=2) (p:=p) wC)) i4
 have lO:(conL (nI 1 1) n).length=n+1:=qtx;clear i1 i2 i3 i4 va;generalize zipI (fun x y=>x.add y p) (powS (scB a p a.length).1 2 p) (powS (scB a p a.length).2 2 p)=Z at *
 generalize powS (scB a p a.length).1 2 p=P1 at *
 generalize powS (scB a p a.length).2 2 p=P2 at *
 generalize (scB a p a.length).1=S at *
 generalize (scB a p a.length).2=C at *
 generalize expL (logL a p) p=X at *
 generalize logL a p=G at *
 generalize mulS (sqrtL a p) (sqrtL a p) p=Q at *
 generalize sqrtL a p=R at *
 generalize mulS (divL a b p) b p=M at *
 generalize divL a b p=D at *
 generalize conL (nI 1 1) n=O at *
 generalize nI 1 1=one at *
 have tM:List.take a.length (List.map Iv.v M)=List.map Iv.v M:=List.take_of_length_le (by simp[lM]);have tQ:List.take a.length (List.map Iv.v Q)=List.map Iv.v Q:=List.take_of_length_le (by simp[lQ]);have tO:List.take (n+1) (List.map Iv.v O)=List.map Iv.v O:=List.take_of_length_le (by simp[lO]);simp;refine zq cr ?_;simp;refine zq csc ?_;simp;refine zq cn ?_;simp[ivs,k1];refine qdr rfl rfl rfl ⟨_,_,co _,?_⟩;simp;refine zq cd ?_;simp;refine qdr rfl rfl rfl ⟨_,_,cm _,?_⟩;simp;refine qak (vs:=[ivs a,ivs M]) rfl rfl (by simp[prep,frzVs,frzV,ivs,tM,lM];rfl) j1 ?_;simp;refine qdr rfl rfl rfl ⟨_,_,cq _,?_⟩;simp;refine qak (vs:=[ivs a,ivs Q]) rfl rfl (by simp[prep,frzVs,frzV,ivs,tQ,lQ];rfl) j2 ?_;simp;refine zq cl ?_;simp;refine zq ce ?_;simp;refine zq j3 ?_;simp;refine zq cs ?_;simp;refine zq ct ?_
 simp;refine zq ca ?_;simp;refine qak (vs:=[ivs O,ivs Z]) rfl rfl (by simp[prep,frzVs,frzV,ivs,tO,lO];rfl) j4 ?_;simp
end Go.Abs.W
