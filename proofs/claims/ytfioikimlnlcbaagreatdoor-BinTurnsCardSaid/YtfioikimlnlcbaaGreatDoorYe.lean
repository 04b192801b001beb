/- Parts of the proof: FpYl, FpYm, FpYn, FpYw. -/
import Derived.Test.YtfioikimlnlcbaaGreatDoorYd
import Derived.Test.YtfioikimlnlcbaaGreatDoorBd
import Derived.Test.YtfioikimlnlcbaaGreatDoorXf
namespace Go.Abs.W
set_option maxRecDepth 20000
def unitS : Sp:=⟨Nm.whole (-1),Nm.whole 1⟩
def turnS (turns:Nat)(n:Int)(o:Sp):Sp:=
 if(n+turns)%4=1 then⟨o.lo,Nm.whole 1⟩else if(n+turns)%4=3 then⟨Nm.whole (-1),o.hi⟩else o
def qcp (turns:Nat)(first:Int)(o:Sp):Nat->Sp
 |0=>o
 |i+1=>turnS turns (-first+i) (qcp turns first o i)
def qie (r:Sp):Sp:=⟨if r.lo.ord (Nm.whole (-1))<0 then Nm.whole (-1)else r.lo,if 0<r.hi.ord (Nm.whole 1)then Nm.whole 1 else r.hi⟩
def qek (x:Sp)(p:Nat):Int:=(wvQ x.lo (wvW x.lo p)).lo.opp.fl
def qrh (x:Sp)(p:Nat):Int:=(wvQ x.hi (wvW x.hi p)).hi.fl
def qel (x:Sp)(p:Nat):Nat:=(qrh x p+qek x p+1).toNat
def qmn (x:Sp)(turns p:Nat):Sp:=qstep (wvY x.lo (wvW x.lo p) turns) (wvY x.hi (wvW x.hi p) turns)
def qmo (x:Sp)(turns p:Nat):Sp:=
 if 9<qel x p then unitS else qie ((qcp turns (qek x p) (qmn x turns p) (qel x p)).rnd p)
theorem cu_e {x:Nm}{more:Bool}{p:Nat}{up:Bool}(h8:40<=p)(hb:x.n≠0->p<bitL x.n)(ht:(bitL x.n:Int)+x.e<=8):(x.cu more p up).n=0\/(x.cu more p up).e<0:=by
 unfold Nm.cu;by_cases h0:x.n=0
 ·rw[if_pos h0];exact .inl rfl
 ·rw[if_neg h0];right;have:=hb h0;simp only;unfold cutK;omega
theorem qz_e {a b:Nm}{p:Nat}{w:Nat}{l t':Int}(ha:a.S w l 7)(hb:(bitL b.n:Int)+b.e<=t')(h1:1<=(bitL b.n:Int)+b.e)(hn:b.n≠0)(h8:40<=p) :
 ((qz (a,b) p).lo.n=0\/(qz (a,b) p).lo.e<0)/\((qz (a,b) p).hi.n=0\/(qz (a,b) p).hi.e<0):=by
 have f:=q30 (p:=p) ha hb h1 hn;have ft:=f.t;have hbits:(a.frac b p).n≠0->p<bitL (a.frac b p).n:=by
  intro h;have ha0:a.n≠0:=by
   intro h0;apply h;show a.n*2^fracK a b p/b.n=0;rw[h0,Nat.zero_mul,Nat.zero_div]
  have:=qst (a:=a) (b:=b) (p:=p) ha0 hn;have e:(a.frac b p).n=a.n*2^fracK a b p/b.n:=rfl;rw[e];omega
 have ft':(bitL (a.frac b p).n:Int)+(a.frac b p).e<=8:=by omega
 exact⟨cu_e h8 hbits ft',cu_e h8 hbits ft'⟩
theorem q8c {P:Nm->Prop}{c:Nat->Nm × Nm}{p:Nat}(h:∀i,P (qz (c i) p).lo/\P (qz (c i) p).hi):∀i,P (qacc c p i).lo/\P (qacc c p i).hi
 |0=>h 0
 |i+1=>by
  have h1:=q8c h i;have h2:=h (i+1);unfold qacc qstep;refine⟨?_,?_⟩
  ·simp only;split
   ·exact h2.1
   ·exact h1.1
  ·simp only;split
   ·exact h2.2
   ·exact h1.2
theorem quo_e {x y:Sp}{w w' p:Nat}{l l' t':Int}(hx:x.S w l 7)(hy:y.S w' l' t')(hd:y.Dv)(h8:40<=p):((x.quo y p).lo.n=0\/(x.quo y p).lo.e<0)/\((x.quo y p).hi.n=0\/(x.quo y p).hi.e<0):=by
 have key:=q8c (P:=fun x=>x.n=0\/x.e<0) (c:=x.cor y) (p:=p) (fun i=>by
  obtain⟨g1,g2,g3⟩:=cor_S hx hy i;generalize x.cor y i=c at *
  rcases c with ⟨a,b⟩;simp only at g1 g2 g3;refine qz_e g1 g2.t ?_ ?_ h8
  ·rcases g3 with rfl|rfl
   ·exact hd.t1
   ·exact hd.t2
  ·rcases g3 with rfl|rfl
   ·exact hd.n1
   ·exact hd.n2) 3
 exact key
theorem wvQ_e {d:Nm}{w:Nat}(hd:d.S 700 (-16384) 7)(h1:40<=w)(h2:w<=103):((wvQ d w).lo.n=0\/(wvQ d w).lo.e<0)/\((wvQ d w).hi.n=0\/(wvQ d w).hi.e<0):=by
 have hf:=qgz h1 h2;exact quo_e (pt_S hd) hf.s hf.d h1
theorem qae7 {x:Nm}{w:Nat}{l:Int}(h:x.S w l 9)(he:x.n=0\/x.e<0):x.n/2^(-x.e).toNat<=512/\-513<=x.fl/\x.fl<=513:=by
 rcases he with he|he
 ·have:x.n/2^(-x.e).toNat=0:=by rw[he,Nat.zero_div]
  refine⟨by omega,?_⟩;unfold Nm.fl;rw[this,he];simp
 ·exact fl_bd h he
theorem qafx {turns w:Nat}{n t:Int}{o:Sp}(h:o.S w (-16384) t)(hw:1<=w)(ht:1<=t):(turnS turns n o).S w (-16384) t:=by
 have o1:(Nm.whole 1).S w (-16384) t:=by
  have b1:bitL (Nm.whole 1).n=1:=rfl;have e1:(Nm.whole 1).e=0:=rfl;exact⟨by rw[b1];exact hw,by rw[e1];omega,by rw[b1,e1];omega⟩
 have o2:(Nm.whole (-1)).S w (-16384) t:=⟨o1.b,o1.l,o1.t⟩
 unfold turnS;split
 ·exact⟨h.lo,o1⟩
 split
 ·exact⟨o2,h.hi⟩
 ·exact h
theorem qrb {turns w:Nat}{first t:Int}{o:Sp}(h:o.S w (-16384) t)(hw:1<=w)(ht:1<=t):∀i,(qcp turns first o i).S w (-16384) t
 |0=>h
 |i+1=>qafx (qrb h hw ht i) hw ht
theorem qvu {x:Sp}{turns p:Nat}(h1:x.lo.Wv)(h2:x.hi.Wv)(h8:8<=p)(hp:p<=64):(qmn x turns p).S 104 (-16384) 10000:=by
 obtain⟨a1,a2⟩:=qn3 h1 h8 hp;obtain⟨b1,b2⟩:=qn3 h2 h8 hp;exact q8a ((wvY_Z h1.s a1 a2).2.mono (by omega) (by omega) (by omega)) ((wvY_Z h2.s b1 b2).2.mono (by omega) (by omega) (by omega))
end Go.Abs.W
namespace Go.Abs.W
set_option maxHeartbeats 4000000
set_option maxRecDepth 20000
def z7 : V:=.agg [.bool false,.nil,.int .i64 0,.bool false,.nil,.int .i64 0,.bool false]
def qk0 (H:Heap)(x f a b t o:V):Heap:=H++[some ⟨7,[x],false,true⟩,some ⟨7,[z7],false,true⟩,some ⟨7,[unitS.v],false,true⟩,some ⟨7,[a],false,true⟩,some ⟨7,[f],false,true⟩,some ⟨7,[b],false,true⟩,some ⟨7,[t],false,true⟩,some ⟨7,[o],false,true⟩]
theorem qabr {n0:Nat}{Q:AX->Env->Heap->Prop}{Kf:List Fr}{E:Env}(H:Heap)(x f a b t:V)(o:Sp)(turns:Nat)(first last:Int)(N:Nat)(ht:turns<=1)(f1:-513<=first)(f2:first<=513)(l1:-513<=last)(l2:last<=513)(hN:N=(last+first+1).toNat)
 (h1:E 1=.int .i64 turns) (h6:E 6=.ptr (H.length+1) 0 0) (h7:E 7=.ptr (H.length+2) 0 0) (h12:E 12=.ptr (H.length+7) 0 0) (h13:E 13=.int .i64 first) (h14:E 14=.int .i64 last) (h15:E 15=.int .i64 (-first))
 (hQ1:9<N->∀E1,E1 6=E 6->∀H1,H <+: H1->H1[H.length+1]?=some (some ⟨7,[unitS.v],false,true⟩)->WP prog n0 Q Kf .ret E1 H1)
 (hQ2:N<=9->∀E1,E1 2=E 2->E1 6=E 6->E1 7=E 7->E1 12=E 12->WP prog n0 Q Kf (.exit 0) E1 (qk0 H x f a b t (qcp turns first o N).v)) :
 WK prog n0 (.loop qbn) Kf E (qk0 H x f a b t o.v) Q:=by
 refine WK_up (fun i E' H'=>i<=N/\E' 1=.int .i64 turns/\E' 2=E 2/\E' 6=.ptr (H.length+1) 0 0/\E' 7=.ptr (H.length+2) 0 0/\E' 12=.ptr (H.length+7) 0 0/\E' 13=.int .i64 first/\E' 14=.int .i64 last/\E' 15=.int .i64 (-first+i)/\H'=qk0 H x f a b t (qcp turns first o i).v) 9 ?_ ?_
 ·exact⟨Nat.zero_le _,h1,rfl,h6,h7,h12,h13,h14,by rw[h15];simp,rfl⟩
 ·rintro i E' H' hi ⟨hiN,g1,g2,g6,g7,g12,g13,g14,g15,rfl⟩;have⟨n,hn⟩:∃n,n=-first+(i:Int):=⟨_,rfl⟩
  rw[<-hn]at g15;rcases Nat.lt_or_ge i N with hlt|hge
  ·have c1:n<=last:=by omega
   have w1:IntKind.i64.wrap (n+first)=(i:Int):=by rw[wrap_i64]<;>omega
   rcases Nat.lt_or_ge i 9 with h9|h9
   ·have c2:¬(8:Int)<i:=by omega
    have w2:IntKind.i64.wrap (n+turns)=n+turns:=by rw[wrap_i64]<;>omega
    obtain⟨m1,m2,m3⟩:=tm4 (n+turns);have w3:IntKind.i64.wrap ((n+(turns:Int)).tmod 4+4)=(n+(turns:Int)).tmod 4+4:=by rw[wrap_i64]<;>omega
    have w4:IntKind.i64.wrap (n+1)=-first+((i+1:Nat):Int):=by rw[wrap_i64]<;>omega
    have hst:qcp turns first o (i+1)=turnS turns n (qcp turns first o i):=by rw[hn];rfl
    rw[hst];have⟨s,hs⟩:∃s,s=qcp turns first o i:=⟨_,rfl⟩
    rw[<-hs];unfold turnS;have m4:0<=(n+(turns:Int))%4/\(n+(turns:Int))%4<4:=by omega
    have⟨m,hm⟩:∃m,m=(n+(turns:Int))%4:=⟨_,rfl⟩
    rw[<-hm]at m3 m4 ⊢;have bw1:=qdb 1 (by omega) (by omega);have bw2:=qdb (-1) (by omega) (by omega);by_cases e1:m=1
    ·subst e1;simp[qbn,g1,g13,g14,g15,c1,w1,c2,w2,w3,m3];refine zq bw1 ?_;simp[qk0,g1,g2,g6,g7,g12,g13,g14,g15,w4];omega
    ·by_cases e3:m=3
     ·subst e3;simp[qbn,g1,g13,g14,g15,c1,w1,c2,w2,w3,m3];refine zq bw2 ?_;simp[qk0,g1,g2,g6,g7,g12,g13,g14,g15,w4];omega
     ·simp[qbn,g1,g2,g6,g7,g12,g13,g14,g15,c1,w1,c2,w2,w3,w4,m3,e1,e3];omega
   ·have c2:(8:Int)<i:=by omega
    simp[qbn,qk0,unitS,g6,g7,g13,g14,g15,c1,w1,c2];refine hQ1 (by omega) _ (by simp[g6,h6]) _ (List.prefix_append _ _) ?_;simp[unitS,z7]
  ·have c1:¬n<=last:=by omega
   have hN':i=N:=by omega
   subst hN';simp[qbn,g14,g15,c1];exact hQ2 hi _ (by simp[g2]) (by simp[g6,h6]) (by simp[g7,h7]) (by simp[g12,h12])
theorem q0b (x:Sp)(h1:x.lo.Wv)(h2:x.hi.Wv)(turns p:Nat)(ht:turns<=1)(h8:8<=p)(hp:p<=64):CQ prog q1w [x.v,.int .i64 turns,.int .i64 p] (qmo x turns p).v:=by
 refine qaf rfl fun H=>?_
 have hl:∀k,¬(H.length+k<H.length):=by intro k;omega
 obtain⟨a1,a2⟩:=qn3 h1 h8 hp;obtain⟨b1,b2⟩:=qn3 h2 h8 hp;have dS:=h1.s;have eS:=h2.s;have t1:=h1.tp;have t2:=h2.tp;have bw1:=qdb 1 (by omega) (by omega);have bw2:=qdb (-1) (by omega) (by omega);have bt1:=q2f x.lo (dS.B (by omega) (by omega) (by omega));have bt2:=q2f x.hi (eS.B (by omega) (by omega) (by omega));have wa:=q4n x.lo h1 turns p ht h8 hp;have wb:=q4n x.hi h2 turns p ht h8 hp;have aZ:=(wvY_Z (turns:=turns) dS a1 a2).2;have bZ:=(wvY_Z (turns:=turns) eS b1 b2).2;have fS:=wvQ_S dS a1 a2;have tS:=wvQ_S eS b1 b2;have fe:=(wvQ_e dS a1 a2).1;have te:=(wvQ_e eS b1 b2).2;have hS:=qvu (turns:=turns) h1 h2 h8 hp;have hh:qmn x turns p=qstep (wvY x.lo (wvW x.lo p) turns) (wvY x.hi (wvW x.hi p) turns):=rfl;have hwf:qek x p=(wvQ x.lo (wvW x.lo p)).lo.opp.fl:=rfl;have hwl:qrh x p=(wvQ x.hi (wvW x.hi p)).hi.fl:=rfl;have hws:qmo x turns p=if 9<qel x p then unitS else qie ((qcp turns (qek x p) (qmn x turns p) (qel x p)).rnd p):=rfl
 have hwc:qel x p=(qrh x p+qek x p+1).toNat:=rfl;rw[hws];have aB:=aZ.B (by omega) (by omega);have bB:=bZ.B (by omega) (by omega);have op:(wvQ x.lo (wvW x.lo p)).lo.opp.S (wvW x.lo p+1) (-16384) 9:=(opp_S fS.lo).mono (by omega) (by omega) (by omega);have fbd:=qae7 op fe;have tS9:(wvQ x.hi (wvW x.hi p)).hi.S (wvW x.hi p+1) (-16384) 9:=tS.hi.mono (Nat.le_refl _) (by omega) (by omega);have lbd:=qae7 tS9 te;rw[<-hwf]at fbd;rw[<-hwl]at lbd;have bo:=qp8 (wvQ x.lo (wvW x.lo p)).lo;have bf1:=qtt (wvQ x.lo (wvW x.lo p)).lo.opp (op.B (by omega) (by omega) (by omega)) fe (Nat.lt_of_le_of_lt fbd.1 (by omega));have bf2:=qtt (wvQ x.hi (wvW x.hi p)).hi (tS.hi.B (by omega) (by omega) (by omega)) te (Nat.lt_of_le_of_lt lbd.1 (by omega));rw[<-hwf]at bf1;rw[<-hwl]at bf2;have or1:=qdc (wvY x.hi (wvW x.hi p) turns).lo (wvY x.lo (wvW x.lo p) turns).lo bB.1 aB.1;have or2:=qdc (wvY x.hi (wvW x.hi p) turns).hi (wvY x.lo (wvW x.lo p) turns).hi bB.2 aB.2
 generalize qmn x turns p=o at *
 generalize qek x p=first at *
 generalize qrh x p=last at *
 generalize qel x p=N at *
 generalize wvY x.lo (wvW x.lo p) turns=A at *
 generalize wvY x.hi (wvW x.hi p) turns=B at *
 generalize wvQ x.lo (wvW x.lo p)=F at *
 generalize wvQ x.hi (wvW x.hi p)=T at *
 have hmax:¬(30:Int)<(if x.lo.tp<x.hi.tp then x.hi.tp else x.lo.tp):=by split<;>omega
 have sS:=qrb (turns:=turns) (first:=first) hS (by omega) (by omega) N;have rS:=rnd_S (p:=p) sS (by omega) (by omega);have bro:=qkx (qcp turns first o N).lo (qcp turns first o N).hi false false p (sS.lo.B (by omega) (by omega) (by omega)) (sS.hi.B (by omega) (by omega) (by omega)) (by omega) (qle sS.lo (by omega) (by omega) (by omega)) (qle sS.hi (by omega) (by omega) (by omega));rw[show Sp.v ⟨(qcp turns first o N).lo.cu false p false,(qcp turns first o N).hi.cu false p true⟩=((qcp turns first o N).rnd p).v from rfl]at bro;have whB:(Nm.whole 1).B/\(Nm.whole (-1)).B:=⟨(qik (by omega) (by omega)).1,(qik (by omega) (by omega)).1⟩
 have oc1:=qdc ((qcp turns first o N).rnd p).lo (Nm.whole (-1)) (rS.lo.B (by omega) (by omega) (by omega)) whB.2;have oc2:=qdc ((qcp turns first o N).rnd p).hi (Nm.whole 1) (rS.hi.B (by omega) (by omega) (by omega)) whB.1;have main:∀E:Env,E 1=.int .i64 turns->E 2=.int .i64 p->E 6=.ptr (H.length+1) 0 0->E 7=.ptr (H.length+2) 0 0->E 12=.ptr (H.length+7) 0 0->E 13=.int .i64 first->E 14=.int .i64 last->E 15=.int .i64 (-first) ->
  WK prog H.length (.loop qbn) [.blk 0,.seq (.seq (.region false qlt) (.seq (.seq (.region false qls) (.cond (.t 114) (.region false qlr) .skip)) (.seq (.seq (.region false qlq) (.cond (.t 123) (.region false qlp) .skip)) (.seq (.region false qlo) .ret))))] E (qk0 H x.v F.v A.v B.v T.v o.v)
   (fun x_1 E1 H1=>(x_1=.normal\/x_1=.ret)/\∃v0,resV E1 H1 [.cell 6 true 7]=some v0/\Go.Abs.fin false H.length H1 v0=some ((if 9<N then unitS else qie ((qcp turns first o N).rnd p)).v,H)):=by
  intro E g1 g2 g6 g7 g12 g13 g14 g15;refine qabr H x.v F.v A.v B.v T.v o turns first last N ht (by omega) (by omega) (by omega) (by omega) hwc g1 g6 g7 g12 g13 g14 g15 ?_ ?_
  ·intro hN E1 e6 H1 hp1 hg;have tk:=qbe hp1;simp[hN,e6,g6,hg,tk]
  ·intro hN E1 e2 e6 e7 e12;have hN':¬9<N:=by omega
   rw[if_neg hN'];generalize qcp turns first o N=s at *
   generalize s.rnd p=r at *
   simp[qk0,z7,e12,g12,e2,g2];refine zq bro ?_;simp[e7,g7,e12,g12,unitS];refine zq oc1 ?_;by_cases k1:r.lo.ord (Nm.whole (-1))<0
   ·simp[k1,e7,g7,e12,g12];refine zq oc2 ?_;by_cases k2:0<r.hi.ord (Nm.whole 1)
    ·simp[k1,k2,e6,g6,e7,g7,e12,g12,qie]
    ·simp[k1,k2,e6,g6,e12,g12,qie]
   ·simp[k1,e7,g7,e12,g12];refine zq oc2 ?_;by_cases k2:0<r.hi.ord (Nm.whole 1)
    ·simp[k1,k2,e6,g6,e7,g7,e12,g12,qie]
    ·simp[k1,k2,e6,g6,e12,g12,qie]
 clear oc1 oc2 bro rS sS hS hws;have w1:IntKind.i64.wrap (-first)=-first:=by rw[wrap_i64]<;>omega
 simp;refine zq bw2 ?_;simp;refine zq bw1 ?_;simp[hl];refine zq bt1 ?_;simp;refine zq bt2 ?_;simp[hmax];refine zq wa ?_;simp[hl];refine zq wb ?_;simp[hl];refine zq or1 ?_;by_cases c1:B.lo.ord A.lo<0
 ·simp[hl,c1];refine zq or2 ?_;by_cases c2:0<B.hi.ord A.hi
  ·obtain rfl:o=⟨B.lo,B.hi⟩:=by rw[hh];simp[qstep,c1,c2]
   simp[hl,c2];refine zq bo ?_;simp;refine zq bf1 ?_;simp;refine zq bf2 ?_;simp[w1];simp[qk0,z7,unitS]at main;exact main _ (by simp) (by simp) (by simp) (by simp) (by simp) (by simp) (by simp) (by simp)
  ·obtain rfl:o=⟨B.lo,A.hi⟩:=by rw[hh];simp[qstep,c1,c2]
   simp[c2];refine zq bo ?_;simp;refine zq bf1 ?_;simp;refine zq bf2 ?_;simp[w1];simp[qk0,z7,unitS]at main;exact main _ (by simp) (by simp) (by simp) (by simp) (by simp) (by simp) (by simp) (by simp)
 ·simp[c1];refine zq or2 ?_;by_cases c2:0<B.hi.ord A.hi
  ·obtain rfl:o=⟨A.lo,B.hi⟩:=by rw[hh];simp[qstep,c1,c2]
   simp[hl,c2];refine zq bo ?_;simp;refine zq bf1 ?_;simp;refine zq bf2 ?_;simp[w1];simp[qk0,z7,unitS]at main;exact main _ (by simp) (by simp) (by simp) (by simp) (by simp) (by simp) (by simp) (by simp)
  ·obtain rfl:o=⟨A.lo,A.hi⟩:=by rw[hh];simp[qstep,c1,c2]
   simp[c2];refine zq bo ?_;simp;refine zq bf1 ?_;simp;refine zq bf2 ?_;simp[w1];simp[qk0,z7,unitS]at main;exact main _ (by simp) (by simp) (by simp) (by simp) (by simp) (by simp) (by simp) (by simp)
end Go.Abs.W
namespace Go.Abs.W
set_option maxRecDepth 20000
def Sp.z (x:Sp):Bool:=decide (x.lo.n=0)&&decide (x.hi.n=0)
theorem q4m (x:Sp)(h1:x.lo.B)(h2:x.hi.B):CQ prog q5w [x.v] (.bool x.z):=by
 refine qaf rfl fun H=>?_
 have hl:∀k,¬(H.length+k<H.length):=by intro k;omega
 have l1:=h1.len;have l2:=h2.len;have e1:(dgs x.lo.n).length=0↔x.lo.n=0:=by rw[List.length_eq_zero_iff];exact qvd
 have e2:(dgs x.hi.n).length=0↔x.hi.n=0:=by rw[List.length_eq_zero_iff];exact qvd
 have⟨a,ha⟩:∃a,a=(dgs x.lo.n).length:=⟨_,rfl⟩
 have⟨b,hb⟩:∃b,b=(dgs x.hi.n).length:=⟨_,rfl⟩
 have w1:IntKind.i64.wrap (((dgs x.lo.n).length:Int)+(dgs x.hi.n).length)=((dgs x.lo.n).length:Int)+(dgs x.hi.n).length:=by rw[wrap_i64]<;>omega
 have e3:decide (((dgs x.lo.n).length:Int)+(dgs x.hi.n).length=0)=x.z:=by
  unfold Sp.z;rw[<-Bool.decide_and]
  congr 1
  rw[<-e1,<-e2];apply propext;omega
 simp[bn,bl,w1];rw[<-e3]
def sinS (x:Sp)(turns p:Nat):Sp:=if x.z=true then(if turns=0 then x else Sp.pt (Nm.whole 1))else qmo x turns p
theorem Wv_B {d:Nm}(h:d.Wv):d.B:=h.s.B (by omega) (by omega) (by omega)
theorem qado {r:Sp}(h1:r.lo.B)(h2:r.hi.B):(qie r).lo.B/\(qie r).hi.B:=by
 have b1:=(qik (n:=1) (by omega) (by omega)).1;have b2:=(qik (n:=-1) (by omega) (by omega)).1;unfold qie;refine⟨?_,?_⟩
 ·simp only;split
  ·exact b2
  ·exact h1
 ·simp only;split
  ·exact b1
  ·exact h2
theorem qabt {x:Sp}{turns p:Nat}(h1:x.lo.Wv)(h2:x.hi.Wv)(h8:8<=p)(hp:p<=64):(qmo x turns p).lo.B/\(qmo x turns p).hi.B:=by
 have b1:=(qik (n:=1) (by omega) (by omega)).1;have b2:=(qik (n:=-1) (by omega) (by omega)).1;unfold qmo;split
 ·exact⟨b2,b1⟩
 ·have sS:=qrb (turns:=turns) (first:=qek x p) (qvu (turns:=turns) h1 h2 h8 hp) (by omega) (by omega) (qel x p);have rS:=rnd_S (p:=p) sS (by omega) (by omega);exact qado (rS.lo.B (by omega) (by omega) (by omega)) (rS.hi.B (by omega) (by omega) (by omega))
theorem qaei {x:Sp}{turns p:Nat}(h1:x.lo.Wv)(h2:x.hi.Wv)(h8:8<=p)(hp:p<=64):(sinS x turns p).lo.B/\(sinS x turns p).hi.B:=by
 unfold sinS;split
 ·split
  ·exact⟨Wv_B h1,Wv_B h2⟩
  ·exact⟨(qik (n:=1) (by omega) (by omega)).1,(qik (n:=1) (by omega) (by omega)).1⟩
 ·exact qabt h1 h2 h8 hp
theorem qagd {H:Heap}{b:Nat}{x:Sp}{p:Nat}(h1:x.lo.Wv)(h2:x.hi.Wv)(h8:8<=p)(hp:p<=64)(g:H[b]?=some (some ⟨1,[.int .i64 p],false,true⟩)) :
 Ev prog (.call qd8 [.sl [x.v],.ptr b 0 0] H) (.ret (sinS x 0 p).v H):=by
 have hl:∀k,¬(H.length+k<H.length):=by intro k;omega
 have g':∀G:Heap,(H++G)[b]?=some (some ⟨1,[.int .i64 p],false,true⟩):=fun G=>by rw[List.getElem?_append_left (List.getElem?_eq_some_iff.1 g).1];exact g
 have bz:=q4m x (Wv_B h1) (Wv_B h2);have bw:=q0b x h1 h2 0 p (by omega) h8 hp;refine qej rfl ?_;simp;refine zq bz ?_;unfold sinS;cases hz:x.z
 ·simp[g'];refine zq bw ?_;simp
 ·simp
theorem qaht {H:Heap}{b:Nat}{x:Sp}{p:Nat}(h1:x.lo.Wv)(h2:x.hi.Wv)(h8:8<=p)(hp:p<=64)(g:H[b]?=some (some ⟨1,[.int .i64 p],false,true⟩)) :
 Ev prog (.call qea [.sl [x.v],.ptr b 0 0] H) (.ret (sinS x 1 p).v H):=by
 have hl:∀k,¬(H.length+k<H.length):=by intro k;omega
 have g':∀G:Heap,(H++G)[b]?=some (some ⟨1,[.int .i64 p],false,true⟩):=fun G=>by rw[List.getElem?_append_left (List.getElem?_eq_some_iff.1 g).1];exact g
 have bz:=q4m x (Wv_B h1) (Wv_B h2);have bw:=q0b x h1 h2 1 p (by omega) h8 hp;refine qej rfl ?_;simp;refine zq bz ?_;unfold sinS;cases hz:x.z
 ·simp[g'];refine zq bw ?_;simp
 ·simp;refine qab rfl rfl rfl (qdb 1 (by omega) (by omega)) ?_;simp;refine qab rfl rfl rfl (qfy (Nm.whole 1)) ?_;simp[Sp.pt]
def sinI (x:Iv)(turns p:Nat):Iv:=⟨(sinS x.sp turns p).lo.dy,(sinS x.sp turns p).hi.dy,false⟩
theorem qah0 (x:Iv)(p:Nat)(wx:x.W)(vx:x.valid=true)(ax:x.all=false)(h1:x.sp.lo.Wv)(h2:x.sp.hi.Wv)(h8:8<=p)(hp:p<=64) :
 CQ prog q9k [x.v,.int .i64 p] (sinI x 0 p).v:=by
 refine qaf rfl fun H=>?_
 have hl:∀k,¬(H.length+k<H.length):=by intro k;omega
 have hprB:prB p=true:=by simp[prB];omega
 have cl:=fun(H':Heap) (g2:H'[H.length+1]?=some (some ⟨1,[.int .i64 p],false,true⟩))=>
  qqa (H:=H') (g:=qd8) (caps:=[.ptr (H.length+1) 0 0]) p [x] (by intro z hz;simp at hz;rw[hz];exact⟨wx,vx,ax⟩) (by simp) (sinS x.sp 0 p)
   (fun _=>qaei h1 h2 h8 hp) rfl (fun _=>rfl) (fun _ H2 hpre=>qagd h1 h2 h8 hp (getP2 hpre g2))
 have pr:∀(H':Heap) b f,H'[b]?=some (some ⟨7,[x.v],true,true⟩)->prep prog qic H' [.int .i64 p,.fn qd8 f,.ref b 7 0 1]=some ([.int .i64 p,.fn qd8 f,.sl ([x].map Iv.v)],H'.set b (some ⟨7,[x.v],true,false⟩)):=by
  intro H' b f hb;have ff:∀G,frzC G (.fn qd8 f)=some (.fn qd8 f,G):=fun _=>rfl
  rw[qil rfl];simp[frzVs,frzV,hb,ff]
 simp[V.isCell];refine qb6 (args:=[.int .i64 p,.fn qd8 [.ptr (H.length+1) 0 0],.ref (H.length+3) 7 0 1]) rfl rfl (pr _ _ _ ?_) ?_
 ·simp
 refine⟨_,_,cl _ ?_,fun h=>by simp at h,?_⟩
 ·simp
 ·rw[if_pos hprB];simp[hl,sinI]
theorem qah2 (x:Iv)(p:Nat)(wx:x.W)(vx:x.valid=true)(ax:x.all=false)(h1:x.sp.lo.Wv)(h2:x.sp.hi.Wv)(h8:8<=p)(hp:p<=64) :
 CQ prog q9m [x.v,.int .i64 p] (sinI x 1 p).v:=by
 refine qaf rfl fun H=>?_
 have hl:∀k,¬(H.length+k<H.length):=by intro k;omega
 have hprB:prB p=true:=by simp[prB];omega
 have cl:=fun(H':Heap) (g2:H'[H.length+1]?=some (some ⟨1,[.int .i64 p],false,true⟩))=>
  qqa (H:=H') (g:=qea) (caps:=[.ptr (H.length+1) 0 0]) p [x] (by intro z hz;simp at hz;rw[hz];exact⟨wx,vx,ax⟩) (by simp) (sinS x.sp 1 p)
   (fun _=>qaei h1 h2 h8 hp) rfl (fun _=>rfl) (fun _ H2 hpre=>qaht h1 h2 h8 hp (getP2 hpre g2))
 have pr:∀(H':Heap) b f,H'[b]?=some (some ⟨7,[x.v],true,true⟩)->prep prog qic H' [.int .i64 p,.fn qea f,.ref b 7 0 1]=some ([.int .i64 p,.fn qea f,.sl ([x].map Iv.v)],H'.set b (some ⟨7,[x.v],true,false⟩)):=by
  intro H' b f hb;have ff:∀G,frzC G (.fn qea f)=some (.fn qea f,G):=fun _=>rfl
  rw[qil rfl];simp[frzVs,frzV,hb,ff]
 simp[V.isCell];refine qb6 (args:=[.int .i64 p,.fn qea [.ptr (H.length+1) 0 0],.ref (H.length+3) 7 0 1]) rfl rfl (pr _ _ _ ?_) ?_
 ·simp
 refine⟨_,_,cl _ ?_,fun h=>by simp at h,?_⟩
 ·simp
 ·rw[if_pos hprB];simp[hl,sinI]
end Go.Abs.W
namespace Go.Abs.W
set_option maxRecDepth 20000
def poi48 (x:Iv)(p:Int):Bool:=!x.valid ||x.all || !precB p
theorem qacj (x:Iv)(p:Int)(wx:x.W):CQ prog qok [x.v,.int .i64 p,.bool false] (.bool (poi48 x p)):=by
 refine qaf rfl fun H=>?_
 have hl:∀k,¬(H.length+k<H.length):=by intro k;omega
 unfold poi48;simp;refine qab rfl rfl rfl (qvt x wx) ?_;cases h1:x.valid
 ·simp
 ·cases h2:x.all
  ·simp;refine qab rfl rfl rfl (qaa8 p) ?_;cases h3:precB p<;>simp
  ·simp
theorem qacq (x:Iv)(wx:x.W):CQ prog qol [.int .i64 2,x.v] (.bool (withB x (-64) 64)):=by
 refine qaf rfl fun H=>?_
 have hl:∀k,¬(H.length+k<H.length):=by intro k;omega
 simp;refine qab rfl rfl rfl (q5i x (-64) 64 wx (by omega) (by omega)) ?_;simp
end Go.Abs.W
