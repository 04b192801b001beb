/- Parts of the proof: FpYt, FpYu, FpYv, FpYx, FpYy. -/
import Derived.Test.YtfioikimlnlcbaaGreatDoorYf
import Derived.Test.YtfioikimlnlcbaaGreatDoorTa
import Derived.Test.YtfioikimlnlcbaaGreatDoorYe
import Derived.Test.YtfioikimlnlcbaaGreatDoorHy
namespace Go.Abs.W
theorem qabf {x:Sp}{s:Nat->Rat}{c:Rat}(h:x.Has s)(hs:SLe s (fun _=>c)):x.lo.q<=c:=by
 obtain⟨t,h1,N,h2⟩:=h;have a:SLe (fun _=>x.lo.q) t:=SLe.of_le N fun n hn=>(h2 n hn).lo
 exact SLe.const (a.trans (h1.symm.le_left.trans hs))
theorem qabg {x:Sp}{s:Nat->Rat}{c:Rat}(h:x.Has s)(hs:SLe (fun _=>c) s):c<=x.hi.q:=by
 obtain⟨t,h1,N,h2⟩:=h;have a:SLe t (fun _=>x.hi.q):=SLe.of_le N fun n hn=>(h2 n hn).hi
 exact SLe.const (hs.trans (h1.le_left.trans a))
theorem qum {δ:Nat->Rat}(N0:Nat)(h1:∀N,N0<=N->-2<=δ N)(h2:SLe δ (fun _=>0)):SLe (Si δ) (fun _=>0):=fun ε he=>by
 have⟨e,e0,e1,e2⟩:∃e:Rat,0<e/\e<=1/\2*e<=ε:=by
  rcases(by grind:ε<=2\/2<ε)with h|h
  ·exact⟨ε/2,by grind,by grind,by grind⟩
  ·exact⟨1,by grind,by grind,by grind⟩
 obtain⟨N1,h3⟩:=h2 e e0;refine⟨max (max N0 N1) 6,fun n hn=>?_⟩;have a:=h1 n (by omega);have b:=h3 n (by omega);show ss (δ n) n<=0+ε;rcases(by grind:δ n<=0\/0<δ n)with h|h
 ·have p:=q7r (x:=-δ n) (n:=n) (by omega) (by grind) (by grind);rw[qx7]at p;grind
 ·obtain⟨p1,p2⟩:=(q4e (h:=δ n) (a:=e) ⟨by grind,by grind⟩ e1 (n:=n) (by omega)).2;have:=rmulR e1 (Rat.le_of_lt e0);grind
theorem q5h {δ:Nat->Rat}(N0:Nat)(h1:∀N,N0<=N->δ N<=2)(h2:SLe (fun _=>0) δ):SLe (fun _=>0) (Si δ):=fun ε he=>by
 have h:=qum (δ:=fun n=>-δ n) N0 (fun N hN=>by have:=h1 N hN;grind) (fun ε he=>by
  obtain⟨N,h⟩:=h2 ε he;exact⟨N,fun n hn=>by have:=h n hn;grind⟩)
 rw[q40]at h;obtain⟨N,h⟩:=h ε he;exact⟨N,fun n hn=>by have:=h n hn;grind⟩
theorem q3r {F X:Rat}{m:Int}(N0:Nat)(hF:∀N,N0<=N->F<=X/hpi N)(hs:SLe (fun _=>X) (fun N=>(m:Rat)*hpi N)):F<=(m:Rat):=by
 rcases(by grind:F<=(m:Rat)\/(m:Rat)<F)with h|h
 ·exact h
 ·obtain⟨N,h1⟩:=hs (F-m) (by grind);have h2:=h1 (max N N0) (by omega);dsimp only at h2;have h3:=hF (max N N0) (by omega);obtain⟨y1,y2⟩:=qqk (max N N0);have e:X/hpi (max N N0)*hpi (max N N0)=X:=Rat.div_mul_cancel (by grind);generalize hpi (max N N0)=y at *
  have h4:=rmulR h3 (show(0:Rat)<=y by grind);have h5:=qcj (show F-m<=F-m by grind) y1 (by grind) (by grind);grind
theorem qy3 {F X:Rat}{m:Int}(N0:Nat)(hF:∀N,N0<=N->X/hpi N<=F)(hs:SLe (fun N=>(m:Rat)*hpi N) (fun _=>X)):(m:Rat)<=F:=by
 rcases(by grind:(m:Rat)<=F\/F<(m:Rat))with h|h
 ·exact h
 ·obtain⟨N,h1⟩:=hs (m-F) (by grind);have h2:=h1 (max N N0) (by omega);dsimp only at h2;have h3:=hF (max N N0) (by omega);obtain⟨y1,y2⟩:=qqk (max N N0);have e:X/hpi (max N N0)*hpi (max N N0)=X:=Rat.div_mul_cancel (by grind);generalize hpi (max N N0)=y at *
  have h4:=rmulR h3 (show(0:Rat)<=y by grind);have h5:=qcj (show(m:Rat)-F<=m-F by grind) y1 (by grind) (by grind);grind
theorem q2k {F X:Rat}{m:Int}(N0:Nat)(hF:∀N,N0<=N->F<=X/hpi N)(hm:(m:Rat)-1<=F):∀N,N0<=N->-2<=X-(m:Rat)*hpi N:=fun N hN=>by
 obtain⟨y1,y2⟩:=qqk N;have h3:=hF N hN;have e:X/hpi N*hpi N=X:=Rat.div_mul_cancel (by grind);generalize hpi N=y at *
 have h4:=rmulR (Rat.le_trans hm h3) (show(0:Rat)<=y by grind);grind
theorem q2j {F X:Rat}{m:Int}(N0:Nat)(hF:∀N,N0<=N->X/hpi N<=F)(hm:F<=(m:Rat)+1):∀N,N0<=N->X-(m:Rat)*hpi N<=2:=fun N hN=>by
 obtain⟨y1,y2⟩:=qqk N;have h3:=hF N hN;have e:X/hpi N*hpi N=X:=Rat.div_mul_cancel (by grind);generalize hpi N=y at *
 have h4:=rmulR (Rat.le_trans h3 hm) (show(0:Rat)<=y by grind);grind
theorem qxx (turns:Nat)(first:Int)(o:Sp):∀i:Nat,(qcp turns first o i).lo=Nm.whole (-1)\/((qcp turns first o i).lo=o.lo/\∀j:Nat,j<i->(-first+j+turns)%4≠3)
 |0=>.inr ⟨rfl,fun j hj=>by omega⟩
 |i+1=>by
  have ih:=qxx turns first o i
  unfold qcp turnS;split
  ·rename_i h;rcases ih with h1|⟨h1,h2⟩
   ·exact .inl h1
   ·exact .inr ⟨h1,fun j hj=>by
     rcases Nat.lt_or_ge j i with h3|h3
     ·exact h2 j h3
     ·obtain rfl:j=i:=by omega
      omega⟩
  split
  ·exact .inl rfl
  ·rename_i h h';rcases ih with h1|⟨h1,h2⟩
   ·exact .inl h1
   ·exact .inr ⟨h1,fun j hj=>by
     rcases Nat.lt_or_ge j i with h3|h3
     ·exact h2 j h3
     ·obtain rfl:j=i:=by omega
      exact h'⟩
theorem qxy (turns:Nat)(first:Int)(o:Sp):∀i:Nat,(qcp turns first o i).hi=Nm.whole 1\/((qcp turns first o i).hi=o.hi/\∀j:Nat,j<i->(-first+j+turns)%4≠1)
 |0=>.inr ⟨rfl,fun j hj=>by omega⟩
 |i+1=>by
  have ih:=qxy turns first o i
  unfold qcp turnS;split
  ·exact .inl rfl
  split
  ·rename_i h h';rcases ih with h1|⟨h1,h2⟩
   ·exact .inl h1
   ·exact .inr ⟨h1,fun j hj=>by
     rcases Nat.lt_or_ge j i with h3|h3
     ·exact h2 j h3
     ·obtain rfl:j=i:=by omega
      exact h⟩
  ·rename_i h h';rcases ih with h1|⟨h1,h2⟩
   ·exact .inl h1
   ·exact .inr ⟨h1,fun j hj=>by
     rcases Nat.lt_or_ge j i with h3|h3
     ·exact h2 j h3
     ·obtain rfl:j=i:=by omega
      exact h⟩
theorem whole1_q : (Nm.whole 1).q=1/\(Nm.whole (-1)).q=-1:=⟨qmz 1,qmz (-1)⟩
theorem qadn {r:Sp}{v:Rat}(h:r.In v)(hv:Bd v 1):(qie r).In v:=by
 obtain⟨a,b⟩:=hv;have h1:=h.lo;have h2:=h.hi;obtain⟨w1,w2⟩:=whole1_q;have o1:=(ord_q r.lo (Nm.whole (-1))).1;have o2:=(ord_q r.hi (Nm.whole 1)).2;unfold qie;constructor
 ·simp only;split
  ·rw[w2];grind
  ·exact h1
 ·simp only;split
  ·rw[w1];grind
  ·exact h2
theorem qakl {turns:Nat}{q:Rat}:SLe (fT turns q) (fun _=>1)/\SLe (fun _=>-1) (fT turns q):=by
 obtain⟨a,b⟩:=qabk (Bnd.const q);unfold fT;split
 ·exact⟨b.sle,b.sge⟩
 ·exact⟨a.sle,a.sge⟩
def vT (m:Int)(turns:Nat):Rat:=s4 ((m+turns)%4).toNat
theorem q6e {d:Nm}{m:Int}{turns p:Nat}(hd:d.Wv)(ht:turns<=1)(h8:8<=p)(hp:p<=64)(hlo:SLe (fun _=>d.q) (fun N=>(m:Rat)*hpi N))(hm:(m:Rat)-1<=(wvQ d (wvW d p)).lo.q) :
 ((m+turns)%4=0->(wvY d (wvW d p) turns).lo.q<=0)/\((m+turns)%4=2->0<=(wvY d (wvW d p) turns).hi.q):=by
 obtain⟨h1,h2⟩:=qn3 hd h8 hp;have hY:=q0w (turns:=turns) hd.s h1 h2 ht;have hb:=q2k (wvW d p/4+4) (fun N hN=>(qxs (d:=d) h1 h2 N (by omega)).lo) hm;have hs:SLe (fun N=>d.q-(m:Rat)*hpi N) (fun _=>0):=fun ε he=>by
  obtain⟨N,h⟩:=hlo ε he;exact⟨N,fun n hn=>by have:=h n hn;dsimp only at this;grind⟩
 have sn:=qum _ hb hs;have br:Bnd (fun N=>d.q-(m:Rat)*hpi N):=(Bnd.const d.q).sub ((Bnd.const (m:Rat)).mul qpi);have nr:=q09 (q:=d.q) (n:=m) ht br (fun N=>by grind);refine⟨fun hk=>?_,fun hk=>?_⟩
 ·have k0:wvK m turns=0:=by unfold wvK;omega
  rw[k0]at nr;exact qabf hY (nr.le_left.trans sn)
 ·have k2:wvK m turns=2:=by unfold wvK;omega
  rw[k2]at nr;refine qabg hY (SLe.trans (fun ε he=>?_) nr.symm.le_left);obtain⟨N,h⟩:=sn ε he;exact⟨N,fun n hn=>by have:=h n hn;show(0:Rat)<=-Si _ n+ε;grind⟩
theorem q6d {d:Nm}{m:Int}{turns p:Nat}(hd:d.Wv)(ht:turns<=1)(h8:8<=p)(hp:p<=64)(hhi:SLe (fun N=>(m:Rat)*hpi N) (fun _=>d.q))(hm:(wvQ d (wvW d p)).hi.q<=(m:Rat)+1) :
 ((m+turns)%4=0->0<=(wvY d (wvW d p) turns).hi.q)/\((m+turns)%4=2->(wvY d (wvW d p) turns).lo.q<=0):=by
 obtain⟨h1,h2⟩:=qn3 hd h8 hp;have hY:=q0w (turns:=turns) hd.s h1 h2 ht;have hb:=q2j (wvW d p/4+4) (fun N hN=>(qxs (d:=d) h1 h2 N (by omega)).hi) hm;have hs:SLe (fun _=>0) (fun N=>d.q-(m:Rat)*hpi N):=fun ε he=>by
  obtain⟨N,h⟩:=hhi ε he;exact⟨N,fun n hn=>by have:=h n hn;dsimp only at this;grind⟩
 have sn:=q5h _ hb hs;have br:Bnd (fun N=>d.q-(m:Rat)*hpi N):=(Bnd.const d.q).sub ((Bnd.const (m:Rat)).mul qpi);have nr:=q09 (q:=d.q) (n:=m) ht br (fun N=>by grind);refine⟨fun hk=>?_,fun hk=>?_⟩
 ·have k0:wvK m turns=0:=by unfold wvK;omega
  rw[k0]at nr;exact qabg hY (sn.trans nr.symm.le_left)
 ·have k2:wvK m turns=2:=by unfold wvK;omega
  rw[k2]at nr;refine qabf hY (nr.le_left.trans (fun ε he=>?_));obtain⟨N,h⟩:=sn ε he;exact⟨N,fun n hn=>by have:=h n hn;show -Si _ n<=0+ε;grind⟩
theorem q0x (m:Int)(turns:Nat):((m+turns)%4=0/\vT m turns=0)\/((m+turns)%4=1/\vT m turns=1)\/((m+turns)%4=2/\vT m turns=0)\/((m+turns)%4=3/\vT m turns=-1):=by
 unfold vT;have h:(m+turns)%4=0\/(m+turns)%4=1\/(m+turns)%4=2\/(m+turns)%4=3:=by omega
 have e0:s4 (0:Int).toNat=0:=qc5;have e1:s4 (1:Int).toNat=1:=by show s4 (0+1)=1;rw[qbb,qec]
 have e2:s4 (2:Int).toNat=0:=by show s4 (0+2)=0;rw[(q4k 0).2,qc5];grind
 have e3:s4 (3:Int).toNat=-1:=by show s4 (1+2)=-1;rw[(q4k 1).2];show -s4 (0+1)=-1;rw[qbb,qec]
 rcases h with h|h|h|h<;>rw[h]
 ·exact .inl ⟨rfl,e0⟩
 ·exact .inr (.inl ⟨rfl,e1⟩)
 ·exact .inr (.inr (.inl ⟨rfl,e2⟩))
 ·exact .inr (.inr (.inr ⟨rfl,e3⟩))
theorem q47 {x:Sp}{turns p:Nat}{m:Int}(h1:x.lo.Wv)(h2:x.hi.Wv)(ht:turns<=1)(h8:8<=p)(hp:p<=64)
 (hlo:SLe (fun _=>x.lo.q) (fun N=>(m:Rat)*hpi N)) (hhi:SLe (fun N=>(m:Rat)*hpi N) (fun _=>x.hi.q)):(qmo x turns p).In (vT m turns):=by
 obtain⟨a1,a2⟩:=qn3 h1 h8 hp;obtain⟨b1,b2⟩:=qn3 h2 h8 hp;have hv:=q0x m turns;have hvb:Bd (vT m turns) 1:=by rcases hv with ⟨_,e⟩|⟨_,e⟩|⟨_,e⟩|⟨_,e⟩<;>rw[e]<;>constructor<;>grind
 obtain⟨w1,w2⟩:=whole1_q;have fI:=fun N hN=>(qxs (d:=x.lo) a1 a2 N hN).lo
 have tI:=fun N hN=>(qxs (d:=x.hi) b1 b2 N hN).hi
 have fm:=q3r (m:=m) (wvW x.lo p/4+4) (fun N hN=>fI N (by omega)) hlo;have tm:=qy3 (m:=m) (wvW x.hi p/4+4) (fun N hN=>tI N (by omega)) hhi;have fe:=(wvQ_e h1.s a1 a2).1;have te:=(wvQ_e h2.s b1 b2).2;obtain⟨f1,f2⟩:=fl_q (x:=(wvQ x.lo (wvW x.lo p)).lo.opp) fe;obtain⟨l1,l2⟩:=fl_q te;rw[opp_q]at f1 f2;rw[show(wvQ x.lo (wvW x.lo p)).lo.opp.fl=qek x p from rfl]at f1 f2;rw[show(wvQ x.hi (wvW x.hi p)).hi.fl=qrh x p from rfl]at l1 l2;have eb:=q6e (m:=m) (turns:=turns) h1 ht h8 hp hlo;have ed:=q6d (m:=m) (turns:=turns) h2 ht h8 hp hhi;have aH:=(q0w (turns:=turns) h1.s a1 a2 ht)
 have one:=qakl (turns:=turns) (q:=x.lo.q);have al:=qabf aH one.1;have ah:=qabg aH one.2;have hq:=q79 (wvY x.lo (wvW x.lo p) turns) (wvY x.hi (wvW x.hi p) turns);have hwc:qel x p=(qrh x p+qek x p+1).toNat:=rfl;have hws:qmo x turns p=if 9<qel x p then unitS else qie ((qcp turns (qek x p) (qmn x turns p) (qel x p)).rnd p):=rfl;have hh:qmn x turns p=qstep (wvY x.lo (wvW x.lo p) turns) (wvY x.hi (wvW x.hi p) turns):=rfl;rw[hws];rw[<-hh]at hq;have tl:=qxx turns (qek x p) (qmn x turns p) (qel x p);have th:=qxy turns (qek x p) (qmn x turns p) (qel x p);generalize qmn x turns p=o at *
 generalize qek x p=first at *
 generalize qrh x p=last at *
 generalize qel x p=N at *
 generalize wvY x.lo (wvW x.lo p) turns=A at *
 generalize wvY x.hi (wvW x.hi p) turns=B at *
 generalize (wvQ x.lo (wvW x.lo p)).lo.q=F at *
 generalize (wvQ x.hi (wvW x.hi p)).hi.q=T at *
 generalize vT m turns=v at *
 have m1:-first<=m:=by
  have:-(m:Rat)<(first:Rat)+1:=by grind
  have h:((-m:Int):Rat)<((first+1:Int):Rat):=by push_cast;exact this
  have:=Rat.intCast_lt_intCast.1 h;omega
 have m2:m<=last:=by
  have:(m:Rat)<(last:Rat)+1:=by grind
  have h:((m:Int):Rat)<((last+1:Int):Rat):=by push_cast;exact this
  have:=Rat.intCast_lt_intCast.1 h;omega
 have low:-first=m->(m:Rat)-1<=F:=by
  intro h;have:(first:Rat)=-(m:Rat):=by rw[show first=-m by omega];push_cast;rfl
  grind
 have high:last=m->T<=(m:Rat)+1:=by
  intro h;rw[h]at l2;grind
 split
 ·obtain⟨u1,u2⟩:=hvb;exact⟨by show(Nm.whole (-1)).q<=v;rw[w2];exact u1,by show v<=(Nm.whole 1).q;rw[w1];exact u2⟩
 ·refine qadn (q1a ⟨?_,?_⟩) hvb
  ·rcases tl with e|⟨e,hj⟩
   ·rw[e,w2];exact hvb.1
   ·rw[e];rcases hv with ⟨k,ev⟩|⟨k,ev⟩|⟨k,ev⟩|⟨k,ev⟩<;>rw[ev]
    ·have hn:-first=m:=by
      rcases Int.lt_or_le (-first) m with h|h
      ·exact absurd (by omega) (hj (m-1+first).toNat (by omega))
      ·omega
     have:=(eb (low hn)).1 k;grind
    ·grind
    ·have hn:last=m:=by
      rcases Int.lt_or_le m last with h|h
      ·exact absurd (by omega) (hj (m+1+first).toNat (by omega))
      ·omega
     have:=(ed (high hn)).2 k;grind
    ·exact absurd (by omega) (hj (m+first).toNat (by omega))
  ·rcases th with e|⟨e,hj⟩
   ·rw[e,w1];exact hvb.2
   ·rw[e];rcases hv with ⟨k,ev⟩|⟨k,ev⟩|⟨k,ev⟩|⟨k,ev⟩<;>rw[ev]
    ·have hn:last=m:=by
      rcases Int.lt_or_le m last with h|h
      ·exact absurd (by omega) (hj (m+1+first).toNat (by omega))
      ·omega
     have:=(ed (high hn)).1 k;grind
    ·exact absurd (by omega) (hj (m+first).toNat (by omega))
    ·have hn:-first=m:=by
      rcases Int.lt_or_le (-first) m with h|h
      ·exact absurd (by omega) (hj (m-1+first).toNat (by omega))
      ·omega
     have:=(eb (low hn)).2 k;grind
    ·grind
theorem Wv_of {d:Dy}(ok:d.Ok)(l20:d.m.length<=20)(h1:-64*pw 16384<=d.val)(h2:d.val<=64*pw 16384):d.nm.Wv:=by
 have hn:d.nm.n=natV d.m:=rfl;have he:d.nm.e=d.e:=rfl;have lo:=ok.elo;by_cases hm:d.m=[]
 ·have h0:natV d.m=0:=by rw[hm];rfl
  have e0:=(ok.zero hm).2;refine⟨⟨by rw[hn,h0,qaw];omega,by rw[he];omega,by rw[hn,he,h0,qaw,e0];decide⟩,?_⟩;unfold Nm.tp;rw[hn,if_pos h0];omega
 ·have h0:natV d.m≠0:=by have:=ok.odd hm;omega
  have⟨B,hB⟩:∃B,B=640:=⟨_,rfl⟩
  have hlt:natV d.m<2^B:=by
   have:=qan ok.li;rw[pow32]at this;exact Nat.lt_of_lt_of_le this (Nat.pow_le_pow_right (by omega) (by omega))
  have hb:bitL (natV d.m)<=B:=qax hlt;obtain⟨p1,p2,p3⟩:=qar h0;have ht:(bitL (natV d.m):Int)+d.e<=7:=by
   have⟨K,hK⟩:∃K,K=16384:=⟨_,rfl⟩
   have ha:d.absN<=64*2^K:=by
    have e1:pw 16384=((2^K:Nat):Int):=by rw[hK];rfl
    rw[e1]at h1 h2;generalize 2^K=B at *
    unfold Dy.val at h1 h2;by_cases hd:d.neg=true
    ·rw[if_pos hd]at h1 h2;omega
    ·rw[if_neg hd]at h1 h2;omega
   unfold Dy.absN at ha;have⟨E,hE⟩:∃E,E=(d.e+16384).toNat:=⟨_,rfl⟩
   rw[<-hE]at ha;have h3:2^(bitL (natV d.m)-1)*2^E<=2^6*2^K:=Nat.le_trans (Nat.mul_le_mul_right _ p1) ha;rw[<-Nat.pow_add,<-Nat.pow_add]at h3;have:=(Nat.pow_le_pow_iff_right (by omega:1<2)).1 h3;omega
  refine⟨⟨by rw[hn];omega,by rw[he];omega,by rw[hn,he];exact ht⟩,?_⟩;unfold Nm.tp;rw[hn,if_neg h0,he];exact ht
theorem qae1 (d:Dy)(h:-16384<=d.e):(d.val:Rat)=d.nm.q*sc:=by
 have⟨K,hK⟩:∃K:Nat,K=16384:=⟨_,rfl⟩
 have e1:d.val=d.nm.val (K:Int):=by rw[hK];exact Dy.val_nm d
 have e2:=q_val (x:=d.nm) (K:=(K:Int)) (by show -(K:Int)<=d.e;omega);have e3:sc=2^(K:Int):=by
  unfold sc pw;rw[<-hK,<-qmm];rfl
 have e4:=qxr (K:Int);rw[e1,e2,e3];generalize (2:Rat)^(K:Int)=z at *
 generalize (2:Rat)^(-(K:Int))=y at *
 grind
theorem q0y {a x:Iv}{s:Nat->Rat}(ha:a.Has s)(ka:a.known=true)(kx:x.known=true)(hin:a.ins x=true)(el:-16384<=x.lo.e)(eh:-16384<=x.hi.e) :
 SLe (fun _=>x.lo.nm.q) s/\SLe s (fun _=>x.hi.nm.q):=by
 obtain⟨c,h1,h2⟩:=ha;obtain⟨va,aa⟩:=qc7 ka;obtain⟨vx,ax⟩:=qc7 kx;have hv:x.lo.val<=a.lo.val/\a.hi.val<=x.hi.val:=by
  simp only[Iv.ins,Bool.and_eq_true,Bool.or_eq_true,Bool.not_eq_true',decide_eq_true_eq,aa,ax,va,vx]at hin;have va':=va;have vx':=vx;simp[Iv.valid,aa]at va';simp[Iv.valid,ax]at vx';obtain⟨_,h⟩:=hin;rcases h with h|⟨⟨_,c1⟩,c2⟩
  ·cases h
  ·rw[qpv vx'.1.1 va'.1.1,qhd]at c1;rw[qpv va'.1.2 vx'.1.2,qhd]at c2;exact⟨c1,c2⟩
 have hs:=q3b;have key:∀n,x.lo.nm.q<=c n/\c n<=x.hi.nm.q:=by
  intro n;obtain⟨i1,i2⟩:=h1 n ka;have j1:=qf3 hv.1;have j2:=qf3 hv.2;rw[qae1 _ el]at j1;rw[qae1 _ eh]at j2;exact⟨Rat.le_of_mul_le_mul_right (Rat.le_trans j1 i1) hs,Rat.le_of_mul_le_mul_right (Rat.le_trans i2 j2) hs⟩
 exact⟨(SLe.of_le 0 fun n _=>(key n).1).trans h2.symm.le_left,h2.le_left.trans (SLe.of_le 0 fun n _=>(key n).2)⟩
end Go.Abs.W
