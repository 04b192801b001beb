/- Parts of the proof: FpWa, FpWb. -/
import Derived.Test.YtnkijamajifgpaaGreatDoorUc
import Derived.Test.YtnkijamajifgpaaGreatDoorVa
namespace Go.Abs.W
def pwD (n:Int):Dy:=Dy.of false 1 n
theorem q98 : bitL 1=1:=rfl
theorem qap7 {n:Int}(h1:-16384<=n)(h2:n<=16000):(pwD n).inR=true:=Dy.of_inR (by rw[q98];omega) h1 (by rw[q98];omega)
theorem qkc {n:Int}(h1:-16384<=n)(h2:n<=16000):(pwD n).Ok:=Dy.of_ok (qap7 h1 h2)
theorem qgj {n:Int}(h1:-16384<=n):(pwD n).val=pw (n+16384).toNat:=by
 unfold pwD;rw[qs3 h1];simp only[Bool.false_eq_true,if_false,Nat.one_mul];rfl
theorem qr0 (n:Int)(h1:-16384<=n)(h2:n<=16000):CQ prog qv5 [.int .i64 n] (pwD n).v:=by
 have key:CQ prog qx8 [.bool false,lim [1],.int .i64 n] (.tup [(pwD n).v,.int .i64 0]):=by
  refine qah rfl fun H=>?_
  have c1:=qs0 n;rw[decide_eq_true (show -32768<=n by omega),decide_eq_true (show n<=32768 by omega)]at c1;have c2:=Of_cq false [1] n (by simp) (by intro x hx;simp at hx;omega) (by omega) (by omega);rw[show natV [1]=1 from rfl,show Dy.of false 1 n=pwD n from rfl]at c2;have c3:=qz4 (pwD n) (qkc h1 h2).w;rw[(qkc h1 h2).valid]at c3;simp only[if_true]at c3;generalize pwD n=d at *
  simp[lim];refine zq c1 ?_;simp;refine zq c2 ?_;simp;refine zq c3 ?_;simp[lim]
 refine qah rfl fun H=>?_
 generalize pwD n=d at *
 simp;refine qau rfl rfl (H1:=_) (vs:=[.bool false,lim [1],.int .i64 n]) (by simp[prep,frzVs,frzV,lim];rfl) key ?_;simp[lim]
theorem qd4 (k:Int)(h1:-4611686018427387904<=k)(h2:k<=4611686018427387904):CQ prog qv1 [.int .i64 k] (nI k k).v:=by
 refine qah rfl fun H=>?_
 have c:=q8i k h1 h2;have d:=qhb (nD k);rw[show Iv.pt (nD k)=nI k k from rfl]at d;generalize nI k k=P at *
 generalize nD k=one at *
 simp;refine zq c ?_;simp;refine zq d ?_;simp[lim]
theorem q20 : Iv.whole.mag=Dy.zero:=by
 have a:Dy.zero.abs=Dy.zero:=by unfold Dy.abs;rw[if_neg (fun h=>h.2 rfl)]
 show Dy.zero.abs.hi2 Dy.zero.abs=Dy.zero;rw[a,quh]
theorem qakc (x:Iv)(wx:x.W)(g:x.Gd):CQ prog qrb [x.v] x.mag.v:=by
 rcases g with rfl|hk
 ·refine qah rfl fun H=>?_
  have c1:=qj6 Dy.zero;have c2:=qqa Dy.zero Dy.zero Dy.zero_ok Dy.zero_ok;rw[show Dy.zero.neg'=Dy.zero from by decide]at c1;rw[q20];rw[quh]at c2;have ev:Iv.whole=⟨Dy.zero,Dy.zero,true⟩:=rfl;rw[ev];generalize Dy.zero=z at *
  simp;refine zq c1 ?_;simp;refine zq c2 ?_;simp[lim]
 ·exact qahb x wx hk
theorem qano {x:Iv}(wx:x.W)(g:x.Gd):x.mag.Ok:=by
 rcases g with rfl|hk
 ·rw[q20];exact Dy.zero_ok
 ·exact q32 wx hk
def qec (x:Iv)(n:Int):Bool:=decide (x.mag.cmp (pwD n)<0)
theorem q99 (x:Iv)(n:Int)(wx:x.W)(g:x.Gd)(h1:-16384<=n)(h2:n<=16000):CQ prog qv2 [x.v,.int .i64 n] (.bool (qec x n)):=by
 refine qah rfl fun H=>?_
 have c1:=qakc x wx g;have c2:=qr0 n h1 h2;have c3:=qqr x.mag (pwD n) (qano wx g) (qkc h1 h2);unfold qec;generalize x.mag.cmp (pwD n)=c at *
 generalize x.mag=m at *
 generalize pwD n=d at *
 simp;refine zq c1 ?_;simp;refine zq c2 ?_;simp;refine zq c3 ?_;simp
theorem qaei {x:Iv}(w:x.W)(g:x.Gd):x.neg.Gd:=by
 rcases g with rfl|k
 ·left;rfl
 ·exact .inr (q3u w ⟨k,Int.le_refl _,Int.le_refl _⟩).k
def rcG (q:Iv)(p:Int):Nat->Nat->Iv->Iv->Iv
 |0,_,_,s=>s
 |f+1,n,w,s=>if qec w (-p)=true then s else rcG q p f (n+2) (w.mul q p).neg (s.add ((w.mul q p).neg.div (nI n n) p) p)
def qkb (q:Iv)(p:Int):Nat->Iv->Prop
 |0,w=>qec w (-p)=true
 |f+1,w=>qec w (-p)=true\/qkb q p f (w.mul q p).neg
def rArc (y:Iv)(p:Int):Iv:=(rcG (y.sq p) p 1000 3 y y).add (qbt (pwD (-p))) p
theorem rcG_W {q:Iv}{p:Int}:∀(f n:Nat) (w s:Iv),s.W->(rcG q p f n w s).W
 |0,_,_,_,h=>h
 |f+1,n,w,s,h=>by
  unfold rcG;split
  ·exact h
  ·exact rcG_W f (n+2) _ _ add_W
theorem qgg {d:Dy}(w:d.Ok):(qbt d).W:=⟨(qa9 w).w,w.w⟩
set_option maxHeartbeats 1000000 in
theorem q6b (y:Iv)(p:Int)(wy:y.W)(gy:y.Gd)(h1:8<=p)(h2:p<=10000)(hs:qkb (y.sq p) p 1000 y):CQ prog q1h [y.v,.int .i64 p] (rArc y p).v:=by
 refine qah rfl fun H=>?_
 have cq:=qxj y p wy;rw[qadm wy]at cq;have wq:(y.sq p).W:=sq_W;have eA:rArc y p=(rcG (y.sq p) p 1000 3 y y).add (qbt (pwD (-p))) p:=rfl;rw[eA];generalize y.sq p=q at *
 have ew:IntKind.i64.wrap (-p)=-p:=by rw[wrap_i64]<;>omega
 simp;refine zq cq ?_;simp[qzf,qse,qzg,apart];refine qbw (fun f E H'=>∃(n:Nat) (w s:Iv),(∃G,H'=H++some ⟨7,[y.v],false,true⟩ :: some ⟨7,[zIv],false,true⟩ :: some ⟨7,[q.v],false,true⟩ :: some ⟨7,[w.v],false,true⟩ :: some ⟨7,[s.v],false,true⟩ :: G) /\
  E 1=.int .i64 p/\E 4=.ptr (H.length+1) 0 0/\E 5=.ptr (H.length+2) 0 0/\E 6=.ptr (H.length+3) 0 0/\E 7=.ptr (H.length+4) 0 0/\E 8=.int .i64 n/\w.W/\w.Gd/\s.W/\n+2*f=2003/\qkb q p f w/\rcG q p f n w s=rcG q p 1000 3 y y) 1000 ?_ ?_
 ·exact⟨3,y,y,⟨[],by simp[zIv,lim]⟩,by simp,by simp,by simp,by simp,by simp,by simp,wy,gy,wy,by omega,hs,rfl⟩
 ·rintro f E H' ⟨n,w,s,⟨G,rfl⟩,e1,e4,e5,e6,e7,e8,ww,gw,ws,hf,hst,hg⟩;have cb:=q99 w (-p) ww gw (by omega) (by omega);cases hb:qec w (-p)
  ·obtain⟨f,rfl⟩:∃j,f=j+1:=by
    cases f with
    |zero=>unfold qkb at hst;rw[hb]at hst;cases hst
    |succ j=>exact⟨j,rfl⟩
   have hst2:qkb q p f (w.mul q p).neg:=by
    unfold qkb at hst;rw[hb]at hst;rcases hst with h|h
    ·cases h
    ·exact h
   have hg2:rcG q p f (n+2) (w.mul q p).neg (s.add ((w.mul q p).neg.div (nI n n) p) p)=rcG q p 1000 3 y y:=by
    rw[<-hg];show _=if qec w (-p)=true then s else _;rw[hb,if_neg (by decide)]
   rw[hb]at cb;have wm:(w.mul q p).W:=mul_W;have c1:=qpo w q p ww wq;have c2:=qpn (w.mul q p) wm;have gm:=qaei wm (qak9 ww wq (p:=p));have wn:(w.mul q p).neg.W:=neg_W wm;have c3:=qd4 (n:Int) (by omega) (by omega);have wI:(nI (n:Int) (n:Int)).W:=nI_Wk (by omega);have c4:=qg7 (w.mul q p).neg (nI n n) p wn wI;have wd:((w.mul q p).neg.div (nI n n) p).W:=div_W;have c5:=qfe s ((w.mul q p).neg.div (nI n n) p) p ws wd;have wa:(s.add ((w.mul q p).neg.div (nI n n) p) p).W:=add_W;have e9:IntKind.i64.wrap ((n:Int)+2)=((n+2:Nat):Int):=by rw[wrap_i64]<;>omega
   generalize s.add ((w.mul q p).neg.div (nI n n) p) p=S at *
   generalize (w.mul q p).neg.div (nI n n) p=D at *
   generalize (w.mul q p).neg=N at *
   generalize w.mul q p=M at *
   generalize nI (n:Int) (n:Int)=I at *
   refine qam ?_;simp[qht,e1,e6,ew];refine zq cb ?_;simp[e1,e5,e6];refine zq c1 ?_;simp;refine zq c2 ?_;simp[e6,e7,e8];refine zq c3 ?_;simp[e1];refine zq c4 ?_;simp[e1];refine zq c5 ?_;simp[e1,e4,e5,e6,e7,e8];exact⟨f,by omega,n+2,N,S,by simp,by simpa using e9,wn,gm,wa,by omega,hst2,hg2⟩
  ·rw[hb]at cb;have hg2:s=rcG q p 1000 3 y y:=by
    rw[<-hg];cases f with
    |zero=>rfl
    |succ f=>show _=if qec w (-p)=true then s else _;rw[hb,if_pos rfl]
   have o:=qkc (n:=-p) (by omega) (by omega);have c1:=qr0 (-p) (by omega) (by omega);have c2:=q5s (pwD (-p));have c3:=qfe s (qbt (pwD (-p))) p ws (qgg o);rw[<-hg2];generalize s.add (qbt (pwD (-p))) p=S at *
   generalize qbt (pwD (-p))=A at *
   generalize pwD (-p)=d at *
   refine qam ?_;simp[qht,e1,e6,ew];refine zq cb ?_;simp[e1,e7,ew];refine zq c1 ?_;simp;refine zq c2 ?_;simp[e1];refine zq c3 ?_;simp[e4,zIv,lim]
theorem qrp {x:Iv}{p:Nat}(wx:x.W)(k:x.known=true)(hp:p<=16384):qec x (-(p:Int))=true↔x.mag.val<pw (16384-p):=by
 unfold qec;rw[decide_eq_true_eq,qie (q32 wx k) (qkc (by omega) (by omega)),qgj (by omega),show(-(p:Int)+16384).toNat=16384-p by omega];unfold cmpI;constructor
 ·intro h;split at h
  ·assumption
  ·split at h<;>omega
 ·intro h;rw[if_pos h];omega
theorem qadw {q:Iv}{p:Nat}(hp:precB (p:Int)=true)(wq:q.W)(hq:q.Bt (-pw 16380) (pw 16380)):∀(f k:Nat) (w:Iv),w.W->w.Bt (-pw (16382-4*k)) (pw (16382-4*k))->p<=4*(k+f)+1->k+f<=2000->qkb q p f w
 |0,k,w,ww,hw,hk,hk2=>by
  unfold qkb;have hp2:=precB_iff.1 hp;rw[qrp ww hw.k (by omega),q6k ww hw.k];have h1:=hw.lo;have h2:=hw.hi;have le:=qap ww hw.k;have h3:pw (16382-4*k)<pw (16384-p):=by
   have:=pw_le (show(16382-4*k)+1<=16384-p by omega);rw[qcj]at this;have:=qaw (16382-4*k);omega
  omega
 |f+1,k,w,ww,hw,hk,hk2=>by
  unfold qkb;right;have m:=qzc (c:=pw (16382-4*(k+1))) ww wq hp hw hq (qc1 (by omega)) (by
   rw[<-qbh,<-qbh];exact pw_le (by omega))
  have n:=q3u mul_W m;rw[Int.neg_neg]at n;exact qadw hp wq hq f (k+1) _ (neg_W mul_W) n (by omega) (by omega)
theorem qzp {x:Iv}{p:Int}{s:Nat->Rat}{n:Nat}(wx:x.W)(hn:n<=1000000)(h:x.Has s):(x.div (nI n n) p).Has (fun i=>s i/(n:Rat)):=by
 obtain⟨c,h1,h2⟩:=h;exact⟨fun i=>c i/(n:Rat),fun i=>q43 wx (nI_Wk (by omega)) (h1 i) (nI_In (by omega)),(Null.mul h2 (Bnd.const (n:Rat)⁻¹)).congr fun i=>by show _=s i/(n:Rat)-c i/(n:Rat);rw[Rat.div_def,Rat.div_def];grind⟩
theorem qacb {y:Iv}{p:Int}:Iv.whole.add y p=Iv.whole:=by unfold Iv.add;rw[if_neg (by simp[Iv.known,Iv.whole])]
theorem qagu {x:Iv}{p:Int}:x.add Iv.whole p=Iv.whole:=by
 have:Iv.whole.known=false:=rfl;unfold Iv.add;rw[this];simp
theorem qafr {y:Iv}{p:Int}:Iv.whole.div y p=Iv.whole:=by
 have:Iv.whole.known=false:=rfl;unfold Iv.div;rw[this];simp
theorem q6l {x:Iv}{s:Nat->Rat}(wx:x.W)(k:x.known=true)(h:x.Has s):LBd s (fun _=>x.mag.rat):=by
 obtain⟨a,b⟩:=qed k h;have mv:=q6k wx k;have le:=qap wx k;have u:x.hi.rat<=x.mag.rat:=rat_le.2 (by omega);have l:-x.mag.rat<=x.lo.rat:=by
  have h1:x.mag.neg'.rat<=x.lo.rat:=rat_le.2 (by rw[qco];omega);rwa[qgz]at h1
 intro ε he;obtain⟨N,hN⟩:=a ε he;obtain⟨M,hM⟩:=b ε he;refine⟨max N M,fun n hn=>?_⟩;have p:=hN n (by omega);have q:=hM n (by omega);constructor<;>grind
theorem qad4 {p:Nat}(hp:p<=16384):(pwD (-(p:Int))).rat*p2 p=1:=by
 have h:=qgj (n:=-(p:Int)) (by omega);have hs:=qbf;refine qfh (c:=sc) (by grind) ?_;have e:(pwD (-(p:Int))).rat*p2 p*sc=(pwD (-(p:Int))).rat*sc*p2 p:=by grind
 rw[e,qay,h,pwq,Rat.one_mul,<-qdy];exact(congrArg p2 (by omega)).trans (pwq 16384).symm
theorem q8u {p:Nat}(hp:p<=16384):0<(pwD (-(p:Int))).rat:=by
 have h:=qad4 hp;have B:=qa4 p;rcases(inferInstance:Decidable (0<(pwD (-(p:Int))).rat))with h1|h1
 ·exfalso;have:=mul_nn (show 0<=-(pwD (-(p:Int))).rat by grind) (Rat.le_of_lt B);grind
 ·exact h1
theorem qsx {d:Dy}{δ:Rat}(h:Bd δ d.rat):(qbt d).In δ:=by
 intro _;obtain⟨a,b⟩:=h;have hs:=Rat.le_of_lt qbf;show((d.neg'.val:Int):Rat)<=_/\_<=((d.val:Int):Rat);rw[qco,Rat.intCast_neg,<-qay d];have m1:=mul_nn (show 0<=d.rat-δ by grind) hs;have m2:=mul_nn (show 0<=d.rat+δ by grind) hs;constructor<;>grind
theorem qadx {q:Iv}{p:Nat}{z:Nat->Rat}{N:Nat}(wq:q.W)(hp:p<=10000)(hz:∀n,N<=n->0<=z n/\4*z n<=1)(hq:q.Has (fun n=>z n*z n)):∀(f j:Nat) (w s:Iv),f+j<=1000->w.W->w.Gd->s.W->s.Gd->(w.known=true\/s=Iv.whole) ->
 w.Has (fun n=>sg j*od (z n) j)->s.Has (fun n=>at' (z n) j)->qkb q p f w->((rcG q p f (2*j+3) w s).add (qbt (pwD (-(p:Int)))) p).Has (At z)
 |f,j,w,s,hf,ww,gw,ws,gs,hk,hw,hs,hst=>by
  have o:=qkc (n:=-(p:Int)) (by omega) (by omega);have fin:qec w (-(p:Int))=true->(s.add (qbt (pwD (-(p:Int)))) p).Has (At z):=by
   intro hb;rcases hk with k|rfl
   ·have rp:=q8u (p:=p) (by omega);have mr:w.mag.rat<=(pwD (-(p:Int))).rat:=by
     refine rat_le.2 ?_;rw[qgj (by omega),show(-(p:Int)+16384).toNat=16384-p by omega];exact Int.le_of_lt ((qrp ww k (by omega)).1 hb)
    obtain⟨M,hM⟩:=q6l ww k hw (pwD (-(p:Int))).rat rp;have key:(qbt (pwD (-(p:Int)))).Has (fun n=>at' (z n) n-at' (z n) j):=by
     refine Iv.Has.of_ev (max j (max N M)) fun n hn=>qsx ?_
     obtain⟨z0,z4⟩:=hz n (by omega);obtain⟨i,rfl⟩:=Nat.exists_eq_add_of_le (show j<=n by omega);have r:=qago z0 z4 j i;have zz:z (j+i)*z (j+i)<=1/16:=by
      have:=qcs (a:=z (j+i)) (b:=1/4) (c:=z (j+i)) (d:=1/4) (by grind) (by grind) (by grind) z0;grind
     have om:Bd (od (z (j+i)) j) (2*(pwD (-(p:Int))).rat):=by
      obtain⟨a,b⟩:=hM (j+i) (by omega);rcases que j with e|e<;>rw[e]at a b<;>constructor<;>grind
     obtain⟨o1,o2⟩:=om;have on:=od_nn z0 j;have e1:od (z (j+i)) (j+1)=od (z (j+i)) j*(z (j+i)*z (j+i)):=rfl;have m:=mul_nn on (show 0<=1/16-z (j+i)*z (j+i) by grind);obtain⟨r1,r2⟩:=r;constructor<;>grind
    have a:=qj3 (p:=p) ws (qgg o) hs key;exact a.near (Near.of_eq fun n=>by show at' (z n) n=_;grind)
   ·rw[qacb];exact .whole
  cases f with
  |zero=>exact fin hst
  |succ f=>
   by_cases hb:qec w (-(p:Int))=true
   ·unfold rcG;rw[if_pos hb];exact fin hb
   ·unfold rcG;rw[if_neg hb];have hst2:qkb q p f (w.mul q p).neg:=by
     unfold qkb at hst;rcases hst with h|h
     ·exact absurd h hb
     ·exact h
    have bz:Bnd z:=⟨1,N,fun n hn=>by obtain⟨a,b⟩:=hz n hn;exact⟨by grind,by grind⟩⟩
    have bo:Bnd (fun n=>sg j*od (z n) j):=⟨1,N,fun n hn=>by
     obtain⟨a,b⟩:=hz n hn;exact sg_Bd ⟨by have:=od_nn a j;grind,by have:=od_le a (show z n<=1 by grind) j;grind⟩ j⟩
    have wm:(w.mul q p).W:=mul_W;have gm:(w.mul q p).Gd:=qak9 ww wq;have h1:=qp9 wm (qvj (p:=p) ww wq hw hq bo (bz.mul bz));have h2:(w.mul q p).neg.Has (fun n=>sg (j+1)*od (z n) (j+1)):=h1.near (Near.of_eq fun n=>by simp only[sg,od];grind);have wn:(w.mul q p).neg.W:=neg_W wm;have gn:=qaei wm gm;have h3:=qzp (p:=p) (n:=2*j+3) wn (by omega) h2;have h4:=qj3 (p:=p) ws div_W hs h3;have e3:((2*j+3:Nat):Rat)=((2*(j+1)+1:Nat):Rat):=by rw[show 2*j+3=2*(j+1)+1 by omega]
    have h5:(s.add ((w.mul q p).neg.div (nI ((2*j+3:Nat):Int) ((2*j+3:Nat):Int)) p) p).Has (fun n=>at' (z n) (j+1)):=h4.near (Near.of_eq fun n=>by
     show at' (z n) j+lta (z n) (j+1)=_;unfold lta lt;rw[e3,Rat.div_def,Rat.div_def];grind)
    have hk2:(w.mul q p).neg.known=true\/s.add ((w.mul q p).neg.div (nI ((2*j+3:Nat):Int) ((2*j+3:Nat):Int)) p) p=Iv.whole:=by
     rcases gn with h|h
     ·right;rw[h,qafr,qagu]
     ·exact .inl h
    have gs2:(s.add ((w.mul q p).neg.div (nI ((2*j+3:Nat):Int) ((2*j+3:Nat):Int)) p) p).Gd:=qarn ws div_W;rw[show 2*j+3+2=2*(j+1)+3 by omega];exact qadx wq hp hz hq f (j+1) _ _ (by omega) wn gn add_W gs2 hk2 h2 h5 hst2
theorem q0n {y:Iv}{p:Nat}{z:Nat->Rat}{N:Nat}(wy:y.W)(ky:y.known=true)(hp:p<=10000)(hz:∀n,N<=n->0<=z n/\4*z n<=1)(hy:y.Has z)(hs:qkb (y.sq p) p 1000 y):(rArc y p).Has (At z):=by
 have bz:Bnd z:=⟨1,N,fun n hn=>by obtain⟨a,b⟩:=hz n hn;exact⟨by grind,by grind⟩⟩
 have hq:=qakt (p:=p) wy hy bz;have e0:∀z,at' z 0=z:=fun z=>by
  show sg 0*lt z 0=_;unfold lt;simp only[od,sg];rw[show((2*0+1:Nat):Rat)=1 from rfl];grind
 exact qadx (sq_W (p:=p)) hp hz hq 1000 0 y y (by omega) wy (.inr ky) wy (.inr ky) (.inl ky) (hy.near (Near.of_eq fun n=>by simp only[sg,od];grind)) (hy.near (Near.of_eq fun n=>by rw[e0])) hs
theorem qs2 {y:Iv}{p:Int}:(rArc y p).W:=add_W
def frI (m:Int)(p:Nat):Iv:=(nI 1 1).div (nI m m) p
theorem q9o {m:Nat}{p:Nat}(hm:4<=m)(hm2:m<=1000)(hp:precB (p:Int)=true):(frI m p).Bt (-pw 16382) (pw 16382):=by
 have n1:=nI_Bt (k:=1) (by decide);have nm:=nI_Bt (k:=(m:Int)) (by omega);have p0:=qaw 16384;have p2':pw 16384=4*pw 16382:=by rw[show 16384=16382+1+1 from rfl,qcj,qcj];omega
 rw[Int.one_mul]at n1;have n1':(nI 1 1).Bt (-pw 16384) (pw 16384):=n1.mono (by omega) (by omega);have w1:(nI 1 1).W:=nI_Wk (by decide);have wm:(nI (m:Int) (m:Int)).W:=nI_Wk (by omega);refine qwx (m:=(m:Int)*pw 16384) w1 wm hp n1' nm (Int.mul_pos (by omega) p0) (qc1 (by omega)) (Int.le_of_lt (qaw _)) ?_;have h4:4*pw 16384<=(m:Int)*pw 16384:=Int.mul_le_mul_of_nonneg_right (by omega) (Int.le_of_lt p0);have h5:pw 16382*(4*pw 16384)<=pw 16382*((m:Int)*pw 16384):=Int.mul_le_mul_of_nonneg_left h4 (Int.le_of_lt (qaw _));have h6:pw 16384*pw 16384=pw 16382*(4*pw 16384):=by
  rw[Int.mul_left_comm,<-Int.mul_assoc,<-p2']
 omega
theorem qale {m p:Nat}(hm:m<=1000):(frI m p).In (1/(m:Rat)):=q43 (p:=(p:Int)) (nI_Wk (k:=1) (by decide)) (nI_Wk (k:=(m:Int)) (by omega)) qak6 (nI_In (by omega))
theorem q8c {y:Iv}{p:Nat}(wy:y.W)(hp:precB (p:Int)=true)(h:y.Bt (-pw 16382) (pw 16382)):(y.sq p).Bt (-pw 16380) (pw 16380):=
 sq_up wy hp h (qc1 (by omega)) (by rw[<-qbh,<-qbh];exact pw_le (by omega))
theorem qil {y:Iv}{p:Nat}(wy:y.W)(hp:precB (p:Int)=true)(h:y.Bt (-pw 16382) (pw 16382)):qkb (y.sq p) p 1000 y:=by
 have h2:=precB_iff.1 hp;exact qadw hp sq_W (q8c wy hp h) 1000 0 y wy h (by omega) (by omega)
def rPi (p:Nat):Iv:=((nI 16 16).mul (rArc (frI 5 (p+20)) (p+20:Nat)) (p+20:Nat)).add ((nI 4 4).mul (rArc (frI 239 (p+20)) (p+20:Nat)) (p+20:Nat)).neg (p+20:Nat)
theorem rPi_W {p:Nat}:(rPi p).W:=add_W
theorem q6d {p:Nat}(h1:8<=p)(h2:p<=492):(rPi p).Has pis:=by
 have hp:precB ((p+20:Nat):Int)=true:=precB_iff.2 (by omega);have w5:(frI 5 (p+20)).W:=div_W;have w239:(frI 239 (p+20)).W:=div_W;have b5:=q9o (m:=5) (p:=p+20) (by omega) (by omega) hp;have b239:=q9o (m:=239) (p:=p+20) (by omega) (by omega) hp;have a5:=q0n (p:=p+20) (z:=fun _=>1/5) (N:=0) w5 b5.k (by omega) (fun _ _=>⟨by grind,by grind⟩) (qale (m:=5) (p:=p+20) (by omega)).has (qil w5 hp b5);have a239:=q0n (p:=p+20) (z:=fun _=>1/239) (N:=0) w239 b239.k (by omega) (fun _ _=>⟨by grind,by grind⟩) (qale (m:=239) (p:=p+20) (by omega)).has (qil w239 hp b239);have bA:∀c:Rat,0<=c->4*c<=1->Bnd (At fun _=>c):=fun c c0 c4=>qaav (N:=0) fun _ _=>⟨by grind,by grind⟩
 have m1:=qvj (p:=(p+20:Nat)) (nI_Wk (k:=16) (by decide)) qs2 (qs5 16).has a5 (Bnd.const _) (bA _ (by grind) (by grind));have m2:=qvj (p:=(p+20:Nat)) (nI_Wk (k:=4) (by decide)) qs2 (qs5 4).has a239 (Bnd.const _) (bA _ (by grind) (by grind));have s:=q5y (p:=(p+20:Nat)) mul_W mul_W m1 m2;refine s.near (Near.of_eq fun n=>?_);show 2*(2*(4*at' (1/5) n-at' (1/239) n))=16*at' (1/5) n-4*at' (1/239) n;grind
theorem qr8 (p:Nat)(h1:8<=p)(h2:p<=492):CQ prog qhf [.int .i64 p] (rPi p).v:=by
 refine qah rfl fun H=>?_
 have hp:precB ((p+20:Nat):Int)=true:=precB_iff.2 (by omega);have ew:IntKind.i64.wrap ((p:Int)+20)=((p+20:Nat):Int):=by rw[wrap_i64]<;>omega
 have i1:=qd4 1 (by omega) (by omega);have i5:=qd4 5 (by omega) (by omega);have i239:=qd4 239 (by omega) (by omega);have i16:=qd4 16 (by omega) (by omega);have i4:=qd4 4 (by omega) (by omega);have w1:(nI 1 1).W:=nI_Wk (by decide);have w5:(nI 5 5).W:=nI_Wk (by decide);have w239:(nI 239 239).W:=nI_Wk (by decide);have w16:(nI 16 16).W:=nI_Wk (by decide);have w4:(nI 4 4).W:=nI_Wk (by decide);have d5:=qg7 (nI 1 1) (nI 5 5) (p+20:Nat) w1 w5;have d239:=qg7 (nI 1 1) (nI 239 239) (p+20:Nat) w1 w239;have b5:=q9o (m:=5) (p:=p+20) (by omega) (by omega) hp;have b239:=q9o (m:=239) (p:=p+20) (by omega) (by omega) hp;have f5:(frI 5 (p+20)).W:=div_W;have f239:(frI 239 (p+20)).W:=div_W;have a5:=q6b (frI 5 (p+20)) (p+20:Nat) f5 (.inr b5.k) (by omega) (by omega) (qil f5 hp b5);have a239:=q6b (frI 239 (p+20)) (p+20:Nat) f239 (.inr b239.k) (by omega) (by omega) (qil f239 hp b239);have m16:=qpo (nI 16 16) (rArc (frI 5 (p+20)) (p+20:Nat)) (p+20:Nat) w16 qs2
 have m4:=qpo (nI 4 4) (rArc (frI 239 (p+20)) (p+20:Nat)) (p+20:Nat) w4 qs2;have s:=q2p ((nI 16 16).mul (rArc (frI 5 (p+20)) (p+20:Nat)) (p+20:Nat)) ((nI 4 4).mul (rArc (frI 239 (p+20)) (p+20:Nat)) (p+20:Nat)) (p+20:Nat) mul_W mul_W;have e:rPi p=((nI 16 16).mul (rArc (frI 5 (p+20)) (p+20:Nat)) (p+20:Nat)).add ((nI 4 4).mul (rArc (frI 239 (p+20)) (p+20:Nat)) (p+20:Nat)).neg (p+20:Nat):=rfl;rw[e];have e5:(nI 1 1).div (nI 5 5) (p+20:Nat)=frI 5 (p+20):=rfl;have e239:(nI 1 1).div (nI 239 239) (p+20:Nat)=frI 239 (p+20):=rfl;rw[e5]at d5;rw[e239]at d239;clear b5 b239 f5 f239 e e5 e239;generalize ((nI 16 16).mul (rArc (frI 5 (p+20)) (p+20:Nat)) (p+20:Nat)).add ((nI 4 4).mul (rArc (frI 239 (p+20)) (p+20:Nat)) (p+20:Nat)).neg (p+20:Nat)=R at *
 generalize (nI 16 16).mul (rArc (frI 5 (p+20)) (p+20:Nat)) (p+20:Nat)=M1 at *
 generalize (nI 4 4).mul (rArc (frI 239 (p+20)) (p+20:Nat)) (p+20:Nat)=M2 at *
 generalize rArc (frI 5 (p+20)) (p+20:Nat)=A1 at *
 generalize rArc (frI 239 (p+20)) (p+20:Nat)=A2 at *
 generalize frI 5 (p+20)=F1 at *
 generalize frI 239 (p+20)=F2 at *
 generalize nI 1 1=N1 at *
 generalize nI 5 5=N5 at *
 generalize nI 239 239=N239 at *
 generalize nI 16 16=N16 at *
 generalize nI 4 4=N4 at *
 have⟨w,hw⟩:∃w,w=p+20:=⟨_,rfl⟩
 rw[<-hw]at *
 simp[ew];refine zq i1 ?_;simp;refine zq i5 ?_;simp;refine zq d5 ?_;simp;refine zq a5 ?_;simp;refine zq i1 ?_;simp;refine zq i239 ?_;simp;refine zq d239 ?_;simp;refine zq a239 ?_;simp;refine zq i16 ?_;simp;refine zq m16 ?_;simp;refine zq i4 ?_;simp;refine zq m4 ?_;simp;refine zq s ?_;simp[lim]
end Go.Abs.W
