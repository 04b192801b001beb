/- Parts of the proof: FpGal, FpGalO, FpGalP, FpIvR. -/
import Derived.Test.YtfioikimlnlcbaaGreatDoorHm
import Derived.Test.YtfioikimlnlcbaaGreatDoorFh
import Derived.Test.YtfioikimlnlcbaaGreatDoorFi
namespace Go.Abs.W
def capE : Nat:=32768
def capN : Nat:=2^capE
theorem qagx {neg:Bool}{n:Nat}{e:Int}(he:-16384<=e):(Dy.of neg n e).absN=n*2^(e+16384).toNat:=by
 by_cases h:n=0
 ·subst h;rw[Nat.zero_mul];exact Dy.absN_nil rfl
 ·have hd:n/2^tz n*2^tz n=n:=by have h3:=(qmp h).2.2;have:=Nat.div_add_mod' n (2^tz n);omega
  unfold Dy.of Dy.absN;rw[if_neg h,qad];rw[show(e+(tz n:Int)+16384).toNat=tz n+(e+16384).toNat by omega,Nat.pow_add,<-Nat.mul_assoc,hd]
theorem qqh {neg:Bool}{n:Nat}{e:Int}(he:-16384<=e):(Dy.of neg n e).val=if neg then -((n*2^(e+16384).toNat:Nat):Int)else((n*2^(e+16384).toNat:Nat):Int):=by
 have ha:=qagx (neg:=neg) (n:=n) he;unfold Dy.val;rw[ha];by_cases h:n=0
 ·subst h;simp
 ·have:(Dy.of neg n e).neg=neg:=by unfold Dy.of;rw[if_neg h]
  rw[this]
theorem bitL_gt {n B:Nat}:B<bitL n↔2^B<=n:=by
 constructor
 ·intro h;rcases Nat.lt_or_ge n (2^B)with h1|h1
  ·have:=qax h1;omega
  ·exact h1
 ·intro h;rcases Nat.lt_or_ge B (bitL n)with h1|h1
  ·exact h1
  ·have h2:=qbw n;have h3:2^bitL n<=2^B:=Nat.pow_le_pow_right (by omega) h1;omega
def Gr (p g:Nat):Prop:=∃q k,g=q*2^k/\q<=2^p
theorem q9d {m p a K q k:Nat}(hp:1<=p)(hm:m≠0)(hK:K=bitL m-p)(hKa:a<K)(hq:q<=2^p)(hk:k+a<K):q*2^(k+a)<=2^(bitL m-1)/\2^(bitL m-1)<=m/\bitL m-1=K+(p-1):=by
 refine⟨?_,(qar hm).1,by omega⟩;have h1:2^(k+a)<=2^(K-1):=Nat.pow_le_pow_right (by omega) (by omega);have h2:q*2^(k+a)<=2^p*2^(K-1):=Nat.mul_le_mul hq h1;rw[<-Nat.pow_add]at h2;rwa[show p+(K-1)=bitL m-1 by omega]at h2
theorem qake {m p a K g:Nat}(hp:1<=p)(hK:K=max (bitL m-p) a)(hg:Gr p g):g*2^a<=m↔g*2^a<=m/2^K*2^K:=by
 refine⟨?_,fun h=>Nat.le_trans h (Nat.div_mul_le_self _ _)⟩;obtain⟨q,k,rfl,hq⟩:=hg;have e:q*2^k*2^a=q*2^(k+a):=by rw[Nat.mul_assoc,<-Nat.pow_add]
 rw[e];intro h;by_cases hk:K<=k+a
 ·have⟨c,hc⟩:∃c,k+a=c+K:=⟨k+a-K,by omega⟩
  rw[hc,Nat.pow_add,<-Nat.mul_assoc]at h ⊢;exact Nat.mul_le_mul_right _ ((Nat.le_div_iff_mul_le (Nat.two_pow_pos K)).2 h)
 ·by_cases hm:m=0
  ·subst hm;simpa using h
  ·obtain⟨h1,h2,h3⟩:=q9d (q:=q) (k:=k) (K:=K) (a:=a) hp hm (by omega) (by omega) hq (by omega);refine Nat.le_trans h1 ?_;rw[h3,Nat.pow_add,Nat.mul_comm];refine Nat.mul_le_mul_right _ ((Nat.le_div_iff_mul_le (Nat.two_pow_pos K)).2 ?_);rw[Nat.mul_comm,<-Nat.pow_add,<-h3];exact h2
theorem qakd {m p a K g:Nat}{more:Bool}(hp:1<=p)(hK:K=max (bitL m-p) a)(hg:Gr p g)(hmm:m=0->more=false) :
 m+(if more=true then 1 else 0)<=g*2^a↔(m/2^K+(if(more ||decide (m%2^K≠0))=true then 1 else 0))*2^K<=g*2^a:=by
 have hdm:=Nat.div_add_mod m (2^K);have hml:=Nat.mod_lt m (Nat.two_pow_pos K);have hpos:=Nat.two_pow_pos K;constructor
 ·obtain⟨q,k,rfl,hq⟩:=hg;have e:q*2^k*2^a=q*2^(k+a):=by rw[Nat.mul_assoc,<-Nat.pow_add]
  rw[e];intro h;have multi:∀c,q*2^(k+a)=c*2^K->(m/2^K+(if(more ||decide (m%2^K≠0))=true then 1 else 0))*2^K<=q*2^(k+a):=by
   intro c hc;rw[hc]at h ⊢;refine Nat.mul_le_mul_right _ ?_;by_cases hb:(more ||decide (m%2^K≠0))=true
   ·rw[if_pos hb];have:m<c*2^K:=by
     cases more
     ·simp at hb h;rcases Nat.lt_or_ge m (c*2^K)with h1|h1
      ·exact h1
      ·have:m=c*2^K:=by omega
       rw[this,Nat.mul_mod_left]at hb;omega
     ·simp at h;omega
    have:=(Nat.div_lt_iff_lt_mul hpos).2 this;omega
   ·rw[if_neg hb];have h1:m<=c*2^K:=by omega
    have:=Nat.div_le_div_right (c:=2^K) h1;rw[Nat.mul_div_cancel _ hpos]at this;omega
  by_cases hk:K<=k+a
  ·exact multi (q*2^(k+a-K)) (by rw[Nat.mul_assoc,<-Nat.pow_add];congr 2;omega)
  ·by_cases hm:m=0
   ·subst hm;rw[hmm rfl];simp
   ·obtain⟨h1,h2,h3⟩:=q9d (q:=q) (k:=k) (K:=K) (a:=a) hp hm (by omega) (by omega) hq (by omega);have e2:2^(bitL m-1)=2^(p-1)*2^K:=by rw[h3,Nat.add_comm,Nat.pow_add]
    exact multi (2^(p-1)) (by omega)
 ·intro h;refine Nat.le_trans ?_ h;by_cases hb:(more ||decide (m%2^K≠0))=true
  ·rw[if_pos hb,Nat.add_mul,Nat.one_mul,Nat.mul_comm];split<;>omega
  ·rw[if_neg hb];simp at hb;rw[hb.1,Nat.mul_comm];simp;omega
def Grid (p g:Nat):Prop:=Gr p g/\g<capN
theorem q4j {p:Nat}(h2:p<=512):capN=2^p*2^(capE-p):=by
 unfold capN;rw[<-Nat.pow_add]
 congr 1
 unfold capE;omega
def maxN (p:Nat):Nat:=(2^p-1)*2^(capE-p)
theorem qag4 {p:Nat}(h2:p<=512):maxN p<capN:=by
 rw[q4j h2];exact Nat.mul_lt_mul_of_pos_right (by have:=Nat.two_pow_pos p;omega) (Nat.two_pow_pos _)
theorem q8z {p:Nat}(h2:p<=512):Grid p (maxN p):=⟨⟨2^p-1,capE-p,rfl,Nat.sub_le _ _⟩,qag4 h2⟩
theorem qacz {p g:Nat}(h1:1<=p)(h2:p<=512)(h:Grid p g):g<=maxN p:=by
 obtain⟨⟨q,k,rfl,hq⟩,hlt⟩:=h;rw[q4j h2]at hlt;unfold maxN;generalize hS:capE-p=S at *
 have hp2:2^p=2*2^(p-1):=by
  rw[<-Nat.pow_succ'];congr 1;omega
 by_cases hk:S<=k
 ·obtain⟨c,rfl⟩:∃c,k=c+S:=⟨k-S,by omega⟩
  rw[Nat.pow_add,<-Nat.mul_assoc]at hlt ⊢;have:=Nat.lt_of_mul_lt_mul_right hlt;exact Nat.mul_le_mul_right _ (by omega)
 ·have hS2:2^S=2*2^(S-1):=by
   rw[<-Nat.pow_succ'];congr 1;omega
  have a1:q*2^k<=2^p*2^(S-1):=Nat.mul_le_mul hq (Nat.pow_le_pow_right (by omega) (by omega));refine Nat.le_trans a1 ?_;have a2:2^p*2^(S-1)=2^(p-1)*2^S:=by
   rw[hp2,hS2,Nat.mul_comm 2,Nat.mul_assoc]
  rw[a2];refine Nat.mul_le_mul_right _ ?_;have:=Nat.two_pow_pos (p-1);omega
theorem qo7 {n s:Nat}(h:n≠0):bitL (n*2^s)=bitL n+s:=by
 have:=qo8 (m:=n) (j:=s) (r:=0) h (Nat.two_pow_pos s);rwa[Nat.add_zero]at this
theorem fineK {m p a:Nat}{e:Int}(he:e=-16384-a):cutK m e p=max (bitL m-p) a:=by unfold cutK;omega
theorem q3k {Q s a K:Nat}{e:Int}(he:e=-16384-a)(hs:K=s+a):(Q≠0/\(16384:Int)<bitL Q+(e+K))↔capN<=Q*2^s:=by
 constructor
 ·rintro⟨h0,h⟩;exact bitL_gt.1 (by rw[qo7 h0];unfold capE;omega)
 ·intro h;have h0:Q≠0:=by
   rintro rfl;rw[Nat.zero_mul]at h;have:=Nat.two_pow_pos capE;unfold capN at h;omega
  have:=bitL_gt.2 h;rw[qo7 h0]at this;unfold capE at this;exact⟨h0,by omega⟩
theorem q9q {m p a:Nat}{e:Int}{more neg up:Bool}(h1:1<=p)(h2:p<=512)(he:e=-16384-a)(ho:(neg != up)=false) :
 ∃D,Grid p D/\(cutR neg m e more p up).2=0/\(cutR neg m e more p up).1.val=(if neg then -(D:Int)else D)/\∀h,Grid p h->(h<=D↔h*2^a<=m):=by
 have⟨K,hK⟩:∃K,K=max (bitL m-p) a:=⟨_,rfl⟩
 have hK':cutK m e p=K:=by rw[hK];exact fineK he
 have⟨s,hs⟩:∃s,K=s+a:=⟨K-a,by omega⟩
 have hq:cutQ m e more p false=m/2^K:=by simp[cutQ,hK']
 have hle:=q2d (m:=m) (e:=e) (more:=more) (p:=p) (out:=false);rw[hq]at hle;have e2:e+(K:Int)=-16384+s:=by omega
 have e3:(-16384+(s:Int)+16384).toNat=s:=by omega
 have gd:∀h,Gr p h->(h*2^a<=m↔h<=m/2^K*2^s):=by
  intro h hg;rw[qake h1 hK hg,hs,Nat.pow_add,<-Nat.mul_assoc,<-Nat.pow_add];exact⟨fun h=>Nat.le_of_mul_le_mul_right h (Nat.two_pow_pos a),fun h=>Nat.mul_le_mul_right _ h⟩
 have ov:=q3k (Q:=m/2^K) (s:=s) he hs;unfold cutR;rw[ho,hq,hK'];by_cases hc:capN<=m/2^K*2^s
 ·rw[if_pos (ov.2 hc)];refine⟨maxN p,q8z h2,rfl,?_,fun h hg=>?_⟩
  ·have:(16384-(p:Int)+16384).toNat=capE-p:=by unfold capE;omega
   simp only[if_false,Bool.false_eq_true];rw[qqh (by omega),this];rfl
  ·have hm:=qacz h1 h2 hg;have:=hg.2;exact⟨fun _=>(gd h hg.1).2 (by omega),fun _=>hm⟩
 ·rw[if_neg (fun h=>hc (ov.1 h))];refine⟨m/2^K*2^s,⟨⟨_,_,rfl,hle⟩,by omega⟩,rfl,?_,fun h hg=>(gd h hg.1).symm⟩;rw[e2,qqh (by omega),e3]
theorem q34 {m p a:Nat}{e:Int}{more neg up:Bool}(h1:1<=p)(_h2:p<=512)(he:e=-16384-a)(ho:(neg != up)=true)(hmm:m=0->more=false) :
 (∃D,Grid p D/\(cutR neg m e more p up).2=0/\(cutR neg m e more p up).1.val=(if neg then -(D:Int)else D)/\∀h,Grid p h->(D<=h↔m+(if more=true then 1 else 0)<=h*2^a)) \/
 ((cutR neg m e more p up).2≠0/\∀h,Grid p h->¬m+(if more=true then 1 else 0)<=h*2^a):=by
 have⟨K,hK⟩:∃K,K=max (bitL m-p) a:=⟨_,rfl⟩
 have hK':cutK m e p=K:=by rw[hK];exact fineK he
 have⟨s,hs⟩:∃s,K=s+a:=⟨K-a,by omega⟩
 have⟨Q,hQ⟩:∃Q,Q=m/2^K+(if(more ||decide (m%2^K≠0))=true then 1 else 0):=⟨_,rfl⟩
 have hq:cutQ m e more p true=Q:=by simp only[cutQ,hK',hQ,Bool.and_true]
 have hle:=q2d (m:=m) (e:=e) (more:=more) (p:=p) (out:=true);rw[hq]at hle;have e2:e+(K:Int)=-16384+s:=by omega
 have e3:(-16384+(s:Int)+16384).toNat=s:=by omega
 have gd:∀h,Gr p h->(m+(if more=true then 1 else 0)<=h*2^a↔Q*2^s<=h):=by
  intro h hg;rw[qakd h1 hK hg hmm,<-hQ,hs,Nat.pow_add,<-Nat.mul_assoc];exact⟨fun h=>Nat.le_of_mul_le_mul_right h (Nat.two_pow_pos a),fun h=>Nat.mul_le_mul_right _ h⟩
 have ov:=q3k (Q:=Q) (s:=s) he hs;unfold cutR;rw[ho,hq,hK'];by_cases hc:capN<=Q*2^s
 ·rw[if_pos (ov.2 hc)];refine .inr ⟨by simp,fun h hg hle=>?_⟩;have:=(gd h hg.1).1 hle;have:=hg.2;omega
 ·rw[if_neg (fun h=>hc (ov.1 h))];refine .inl ⟨Q*2^s,⟨⟨_,_,rfl,hle⟩,by omega⟩,rfl,?_,fun h hg=>(gd h hg.1).symm⟩;rw[e2,qqh (by omega),e3]
def GridI (p:Nat)(g:Int):Prop:=Grid p g.natAbs
def IsDn (p:Nat)(r:Dy × Int)(le:Int->Prop):Prop:=(r.2=0/\GridI p r.1.val/\∀g,GridI p g->(g<=r.1.val↔le g))\/(r.2≠0/\∀g,GridI p g->¬le g)
def IsUp (p:Nat)(r:Dy × Int)(ge:Int->Prop):Prop:=(r.2=0/\GridI p r.1.val/\∀g,GridI p g->(r.1.val<=g↔ge g))\/(r.2≠0/\∀g,GridI p g->¬ge g)
theorem IsDn.congr {p:Nat}{r:Dy × Int}{le le2:Int->Prop}(h:IsDn p r le)(he:∀g,le g↔le2 g):IsDn p r le2:=by
 rcases h with ⟨h1,h2,h3⟩|⟨h1,h2⟩
 ·exact .inl ⟨h1,h2,fun g hg=>(h3 g hg).trans (he g)⟩
 ·exact .inr ⟨h1,fun g hg h=>h2 g hg ((he g).2 h)⟩
theorem IsUp.congr {p:Nat}{r:Dy × Int}{le le2:Int->Prop}(h:IsUp p r le)(he:∀g,le g↔le2 g):IsUp p r le2:=by
 rcases h with ⟨h1,h2,h3⟩|⟨h1,h2⟩
 ·exact .inl ⟨h1,h2,fun g hg=>(h3 g hg).trans (he g)⟩
 ·exact .inr ⟨h1,fun g hg h=>h2 g hg ((he g).2 h)⟩
theorem IsDn.mono {p:Nat}{r s:Dy × Int}{le le2:Int->Prop}(h:IsDn p r le)(h2:IsDn p s le2)(hle:∀g,le g->le2 g)(h0:r.2=0):s.2=0/\r.1.val<=s.1.val:=by
 rcases h with ⟨_,b,c⟩|⟨a,_⟩
 ·have:=hle _ ((c _ b).1 (Int.le_refl _));rcases h2 with ⟨x,y,z⟩|⟨x,y⟩
  ·exact⟨x,(z _ b).2 this⟩
  ·exact absurd this (y _ b)
 ·exact absurd h0 a
theorem IsUp.mono {p:Nat}{r s:Dy × Int}{ge ge2:Int->Prop}(h:IsUp p r ge)(h2:IsUp p s ge2)(hle:∀g,ge2 g->ge g)(h0:s.2=0):r.2=0/\r.1.val<=s.1.val:=by
 rcases h2 with ⟨_,b,c⟩|⟨a,_⟩
 ·have:=hle _ ((c _ b).1 (Int.le_refl _));rcases h with ⟨x,y,z⟩|⟨x,y⟩
  ·exact⟨x,(z _ b).2 this⟩
  ·exact absurd this (y _ b)
 ·exact absurd h0 a
def pw (a:Nat):Int:=((2^a:Nat):Int)
theorem qc6 (a:Nat):0<pw a:=by unfold pw;have:=Nat.two_pow_pos a;omega
theorem qe9 (a b:Nat):pw (a+b)=pw a*pw b:=by unfold pw;rw[Nat.pow_add];simp
theorem qcr (n a:Nat):(n:Int)*pw a=((n*2^a:Nat):Int):=by unfold pw;simp
theorem qjl {p:Nat}:GridI p 0:=⟨⟨0,0,by simp,Nat.zero_le _⟩,Nat.two_pow_pos _⟩
theorem qafd {m p a:Nat}{e:Int}{more neg:Bool}(h1:1<=p)(h2:p<=512)(he:e=-16384-a)(hmm:m=0->more=false) :
 IsDn p (cutR neg m e more p false) (fun g=>g*pw a<=if neg then -((m:Int)+(if more=true then 1 else 0:Nat))else m):=by
 cases neg
 ·obtain⟨D,hD,z,hv,hh⟩:=q9q (m:=m) (more:=more) (neg:=false) (up:=false) h1 h2 he rfl;simp at hv;refine .inl ⟨z,by rw[hv];simpa[GridI]using hD,fun g hg=>?_⟩;rw[hv];dsimp only;generalize (if more=true then 1 else 0:Nat)=c at *
  obtain⟨n,rfl|rfl⟩:=g.eq_nat_or_neg
  ·have:=hh n (by simpa[GridI]using hg);rw[qcr];simp only[if_false,Bool.false_eq_true];omega
  ·rw[Int.neg_mul,qcr];simp only[if_false,Bool.false_eq_true];omega
 ·rcases q34 (m:=m) (more:=more) (neg:=true) (up:=false) h1 h2 he rfl hmm with ⟨D,hD,z,hv,hh⟩|⟨z,hh⟩
  ·simp at hv;refine .inl ⟨z,by rw[hv];simpa[GridI]using hD,fun g hg=>?_⟩;rw[hv];dsimp only;generalize (if more=true then 1 else 0:Nat)=c at *
   obtain⟨n,rfl|rfl⟩:=g.eq_nat_or_neg
   ·have:=hh n (by simpa[GridI]using hg);have h0:=hh 0 qjl;rw[qcr];have hp:=Nat.two_pow_pos a;simp only[if_true];rcases Nat.eq_zero_or_pos n with rfl|hn
    ·rw[Nat.zero_mul]at h0 ⊢;omega
    ·have:0<n*2^a:=Nat.mul_pos hn hp;omega
   ·have:=hh n (by simpa[GridI]using hg);rw[Int.neg_mul,qcr];simp only[if_true];omega
  ·refine .inr ⟨z,fun g hg hle=>?_⟩;dsimp only at hle;generalize (if more=true then 1 else 0:Nat)=c at *
   obtain⟨n,rfl|rfl⟩:=g.eq_nat_or_neg
   ·have h0:=hh 0 qjl;rw[qcr]at hle;simp only[if_true]at hle;rw[Nat.zero_mul]at h0;omega
   ·have:=hh n (by simpa[GridI]using hg);rw[Int.neg_mul,qcr]at hle;simp only[if_true]at hle;omega
theorem qafc {m p a:Nat}{e:Int}{more neg:Bool}(h1:1<=p)(h2:p<=512)(he:e=-16384-a)(hmm:m=0->more=false) :
 IsUp p (cutR neg m e more p true) (fun g=>(if neg then -(m:Int)else(m:Int)+(if more=true then 1 else 0:Nat))<=g*pw a):=by
 cases neg
 ·rcases q34 (m:=m) (more:=more) (neg:=false) (up:=true) h1 h2 he rfl hmm with ⟨D,hD,z,hv,hh⟩|⟨z,hh⟩
  ·simp at hv;refine .inl ⟨z,by rw[hv];simpa[GridI]using hD,fun g hg=>?_⟩;rw[hv];dsimp only;generalize (if more=true then 1 else 0:Nat)=c at *
   obtain⟨n,rfl|rfl⟩:=g.eq_nat_or_neg
   ·have:=hh n (by simpa[GridI]using hg);rw[qcr];simp only[if_false,Bool.false_eq_true];omega
   ·have h0:=hh 0 qjl;rw[Int.neg_mul,qcr];have hp:=Nat.two_pow_pos a;simp only[if_false,Bool.false_eq_true];rcases Nat.eq_zero_or_pos n with rfl|hn
    ·rw[Nat.zero_mul]at h0 ⊢;omega
    ·have:0<n*2^a:=Nat.mul_pos hn hp;omega
  ·refine .inr ⟨z,fun g hg hle=>?_⟩;dsimp only at hle;generalize (if more=true then 1 else 0:Nat)=c at *
   obtain⟨n,rfl|rfl⟩:=g.eq_nat_or_neg
   ·have:=hh n (by simpa[GridI]using hg);rw[qcr]at hle;simp only[if_false,Bool.false_eq_true]at hle;omega
   ·have h0:=hh 0 qjl;rw[Int.neg_mul,qcr]at hle;simp only[if_false,Bool.false_eq_true]at hle;rw[Nat.zero_mul]at h0;omega
 ·obtain⟨D,hD,z,hv,hh⟩:=q9q (m:=m) (more:=more) (neg:=true) (up:=true) h1 h2 he rfl;simp at hv;refine .inl ⟨z,by rw[hv];simpa[GridI]using hD,fun g hg=>?_⟩;rw[hv];dsimp only;generalize (if more=true then 1 else 0:Nat)=c at *
  obtain⟨n,rfl|rfl⟩:=g.eq_nat_or_neg
  ·rw[qcr];simp only[if_true];omega
  ·have:=hh n (by simpa[GridI]using hg);rw[Int.neg_mul,qcr];simp only[if_true];omega
theorem qbl {x y c:Int}(h:0<c):x*c<=y*c↔x<=y:=Int.mul_le_mul_iff_of_pos_right h
theorem qz2 {neg up:Bool}{m p j:Nat}{e:Int}:cutR neg (m*2^j) (e-j) false p up=cutR neg m e false p up:=by
 by_cases h:m=0
 ·subst h;rw[Nat.zero_mul,qo3,qo3]
 ·have:=qs7 (neg:=neg) (m:=m) (e:=e) (more:=false) (more2:=false) (p:=p) (up:=up) (j:=j) (r:=0) h (Nat.two_pow_pos j) (by simp) (by simp);rwa[Nat.add_zero]at this
theorem q97 {m p:Nat}{e:Int}{neg:Bool}(h1:1<=p)(h2:p<=512) :
 IsDn p (cutR neg m e false p false) (fun g=>g*pw (-16384-e).toNat<=(if neg then -(m:Int)else m)*pw (e+16384).toNat):=by
 have⟨j,hj⟩:∃j,j=(e+16384).toNat:=⟨_,rfl⟩
 have⟨a,ha⟩:∃a,a=(-16384-e).toNat:=⟨_,rfl⟩
 have:=qafd (m:=m*2^j) (a:=a) (e:=e-j) (more:=false) (neg:=neg) h1 h2 (by omega) (fun _=>rfl);rw[qz2]at this;rw[<-hj,<-ha];refine this.congr fun g=>?_
 cases neg
 ·simp only[if_false,Bool.false_eq_true];rw[qcr m j]
 ·simp only[if_true,if_false,Bool.false_eq_true];rw[Int.neg_mul,qcr m j];simp
theorem q95 {m p:Nat}{e:Int}{neg:Bool}(h1:1<=p)(h2:p<=512) :
 IsUp p (cutR neg m e false p true) (fun g=>(if neg then -(m:Int)else m)*pw (e+16384).toNat<=g*pw (-16384-e).toNat):=by
 have⟨j,hj⟩:∃j,j=(e+16384).toNat:=⟨_,rfl⟩
 have⟨a,ha⟩:∃a,a=(-16384-e).toNat:=⟨_,rfl⟩
 have:=qafc (m:=m*2^j) (a:=a) (e:=e-j) (more:=false) (neg:=neg) h1 h2 (by omega) (fun _=>rfl);rw[qz2]at this;rw[<-hj,<-ha];refine this.congr fun g=>?_
 cases neg
 ·simp only[if_false,Bool.false_eq_true];rw[qcr m j];simp
 ·simp only[if_true,if_false,Bool.false_eq_true];rw[Int.neg_mul,qcr m j]
theorem q2z {d:Dy}:d.val=(if d.neg then -(natV d.m:Int)else natV d.m)*pw (d.e+16384).toNat:=by
 unfold Dy.val Dy.absN;cases d.neg
 ·simp only[if_false,Bool.false_eq_true];rw[qcr]
 ·simp only[if_true];rw[Int.neg_mul,qcr]
theorem q8f : pw 0=1:=rfl
theorem qvf {d:Dy}{p:Nat}(h1:1<=p)(h2:p<=512)(he:-16384<=d.e):IsDn p (cutR d.neg (natV d.m) d.e false p false) (fun g=>g<=d.val):=by
 refine(q97 h1 h2).congr fun g=>?_
 rw[q2z,show(-16384-d.e).toNat=0 by omega,q8f,Int.mul_one]
theorem qve {d:Dy}{p:Nat}(h1:1<=p)(h2:p<=512)(he:-16384<=d.e):IsUp p (cutR d.neg (natV d.m) d.e false p true) (fun g=>d.val<=g):=by
 refine(q95 h1 h2).congr fun g=>?_
 rw[q2z,show(-16384-d.e).toNat=0 by omega,q8f,Int.mul_one]
theorem qgu {l:List Dy}{p:Int}(h:∀d ∈ l,d.Ok)(hp:precB p=true):qfa l p=0:=by
 have:l.all Dy.valid=true:=List.all_eq_true.2 fun d hd=>(h d hd).valid
 simp[qfa,this,hp]
theorem precB_iff {p:Int}:precB p=true↔8<=p/\p<=512:=by simp[precB]
theorem qyi {d:Dy}{p:Int}(ok:d.Ok)(hp:precB p=true):IsDn p.toNat (qee d p false) (fun g=>g<=d.val):=by
 have h:=precB_iff.1 hp;unfold qee;rw[if_pos (qgu (by simpa using ok) hp)];exact qvf (by omega) (by omega) ok.elo
theorem qyh {d:Dy}{p:Int}(ok:d.Ok)(hp:precB p=true):IsUp p.toNat (qee d p true) (fun g=>d.val<=g):=by
 have h:=precB_iff.1 hp;unfold qee;rw[if_pos (qgu (by simpa using ok) hp)];exact qve (by omega) (by omega) ok.elo
theorem q25 {d:Dy}{e:Int}(h1:-16384<=e)(h2:e<=d.e):d.absN=sumX d e*2^(e+16384).toNat:=qg3 h1 h2
theorem q7d {a b:Dy}(oa:a.Ok)(ob:b.Ok):(a.sum b).val=a.val+b.val/\-16384<=(a.sum b).e:=by
 have za:a.m=[]->a.val=0:=fun h=>by
  have:=Dy.absN_nil h;unfold Dy.val;rw[this];simp
 have zb:b.m=[]->b.val=0:=fun h=>by
  have:=Dy.absN_nil h;unfold Dy.val;rw[this];simp
 unfold Dy.sum;by_cases ha:a.m=[]
 ·rw[if_pos ha,za ha];exact⟨by omega,ob.elo⟩
 ·rw[if_neg ha];by_cases hb:b.m=[]
  ·rw[if_pos hb,zb hb];exact⟨by omega,oa.elo⟩
  ·rw[if_neg hb];have⟨e,he⟩:∃e,e=min a.e b.e:=⟨_,rfl⟩
   have h1:=oa.elo;have h2:=ob.elo;have hea:=q25 (d:=a) (e:=e) (by omega) (by omega);have heb:=q25 (d:=b) (e:=e) (by omega) (by omega);simp only[<-he];have elo:∀(neg:Bool) (n:Nat),-16384<=(Dy.of neg n e).e:=by
    intro neg n;unfold Dy.of;split
    ·simp
    ·simp only;omega
   have vv:=fun(neg:Bool) (n:Nat)=>qqh (neg:=neg) (n:=n) (e:=e) (by omega)
   generalize sumX a e=X at *
   generalize sumX b e=Y at *
   generalize (e+16384).toNat=k at *
   have va:a.val=if a.neg then -((X*2^k:Nat):Int)else((X*2^k:Nat):Int):=by unfold Dy.val;rw[hea]
   have vb:b.val=if b.neg then -((Y*2^k:Nat):Int)else((Y*2^k:Nat):Int):=by unfold Dy.val;rw[heb]
   by_cases hn:a.neg=b.neg
   ·rw[if_pos hn];refine⟨?_,elo _ _⟩;rw[vv,va,vb,<-hn,Nat.add_mul];cases a.neg
    ·simp only[if_false,Bool.false_eq_true];omega
    ·simp only[if_true];omega
   ·rw[if_neg hn];by_cases hle:Y<=X
    ·rw[if_pos hle];refine⟨?_,elo _ _⟩;have:=Nat.mul_le_mul_right (2^k) hle;rw[vv,va,vb,Nat.sub_mul];cases hA:a.neg<;>cases hB:b.neg
     ·rw[hA,hB]at hn;exact absurd rfl hn
     ·simp only[if_true,if_false,Bool.false_eq_true];omega
     ·simp only[if_true,if_false,Bool.false_eq_true];omega
     ·rw[hA,hB]at hn;exact absurd rfl hn
    ·rw[if_neg hle];refine⟨?_,elo _ _⟩;have:=Nat.mul_le_mul_right (2^k) (Nat.le_of_not_le hle);rw[vv,va,vb,Nat.sub_mul];cases hA:a.neg<;>cases hB:b.neg
     ·rw[hA,hB]at hn;exact absurd rfl hn
     ·simp only[if_true,if_false,Bool.false_eq_true];omega
     ·simp only[if_true,if_false,Bool.false_eq_true];omega
     ·rw[hA,hB]at hn;exact absurd rfl hn
theorem qagm {a b:Dy}{p:Int}(oa:a.Ok)(ob:b.Ok)(hp:precB p=true):IsDn p.toNat (rAdd a b p false) (fun g=>g<=a.val+b.val):=by
 have h:=precB_iff.1 hp;obtain⟨s1,s2⟩:=q7d oa ob;unfold rAdd;rw[if_pos (qgu (by simp[oa,ob]) hp),<-s1];exact qvf (by omega) (by omega) s2
theorem qagl {a b:Dy}{p:Int}(oa:a.Ok)(ob:b.Ok)(hp:precB p=true):IsUp p.toNat (rAdd a b p true) (fun g=>a.val+b.val<=g):=by
 have h:=precB_iff.1 hp;obtain⟨s1,s2⟩:=q7d oa ob;unfold rAdd;rw[if_pos (qgu (by simp[oa,ob]) hp),<-s1];exact qve (by omega) (by omega) s2
theorem q8x {a b:Dy}(oa:a.Ok)(ob:b.Ok):∃c,(-16384-(a.e+b.e)).toNat+c=16384/\a.val*b.val=((if(a.neg != b.neg)=true then -((natV a.m*natV b.m:Nat):Int)else((natV a.m*natV b.m:Nat):Int))*pw (a.e+b.e+16384).toNat)*pw c:=by
 have h1:=oa.elo;have h2:=ob.elo;refine⟨16384-(-16384-(a.e+b.e)).toNat,by omega,?_⟩;rw[Int.mul_assoc,<-qe9,q2z,q2z];have e1:(a.e+b.e+16384).toNat+(16384-(-16384-(a.e+b.e)).toNat)=(a.e+16384).toNat+(b.e+16384).toNat:=by omega
 rw[e1,qe9];generalize pw (a.e+16384).toNat=P;generalize pw (b.e+16384).toNat=Q;have e2:((natV a.m*natV b.m:Nat):Int)=(natV a.m:Int)*(natV b.m:Int):=by simp
 rw[e2];generalize (natV a.m:Int)=A;generalize (natV b.m:Int)=B;cases a.neg<;>cases b.neg<;>simp only[if_true,if_false,Bool.false_eq_true,bne_self_eq_false,Bool.true_bne,Bool.false_bne,Bool.not_false]<;>grind
theorem q77 {a b:Dy}{p:Int}(oa:a.Ok)(ob:b.Ok)(hp:precB p=true):IsDn p.toNat (rMul a b p false) (fun g=>g*pw 16384<=a.val*b.val):=by
 have h:=precB_iff.1 hp;obtain⟨c,hc,hv⟩:=q8x oa ob;unfold rMul;rw[if_pos (qgu (by simp[oa,ob]) hp)];refine(q97 (by omega) (by omega)).congr fun g=>?_
 rw[hv,<-hc,qe9,<-Int.mul_assoc,qbl (qc6 c)]
theorem q76 {a b:Dy}{p:Int}(oa:a.Ok)(ob:b.Ok)(hp:precB p=true):IsUp p.toNat (rMul a b p true) (fun g=>a.val*b.val<=g*pw 16384):=by
 have h:=precB_iff.1 hp;obtain⟨c,hc,hv⟩:=q8x oa ob;unfold rMul;rw[if_pos (qgu (by simp[oa,ob]) hp)];refine(q95 (by omega) (by omega)).congr fun g=>?_
 rw[hv,<-hc,qe9,<-Int.mul_assoc,qbl (qc6 c)]
end Go.Abs.W
