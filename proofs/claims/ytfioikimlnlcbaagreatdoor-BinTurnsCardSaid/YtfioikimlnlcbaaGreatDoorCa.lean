/- Parts of the proof: FpCa, FpCb, FpCc, FpCd. -/
import Derived.Test.YtfioikimlnlcbaaGreatDoorHx
import Derived.Test.YtfioikimlnlcbaaGreatDoorHp
import Derived.Test.YtfioikimlnlcbaaGreatDoorFe
import Derived.Test.YtfioikimlnlcbaaGreatDoorFf
import Derived.Test.YtfioikimlnlcbaaGreatDoorHr
namespace Go.Abs.W
structure Fx where
 neg:Bool
 n:Nat
@[simp] def Fx.v (a:Fx):V:=.agg [.bool a.neg,lim (qae a.n)]
def Sm (n:Nat):Prop:=bitL n<=8100
theorem Sm.len {n:Nat}(h:Sm n):(qae n).length<=256:=by have:=qacu (b:=8100) h;omega
theorem Sm.cl {n:Nat}(h:Sm n):cl n=qae n:=cl_of h.len
theorem Sm.mono {a b:Nat}(h:Sm b)(hab:a<=b):Sm a:=Nat.le_trans (qd1 hab) h
theorem Sm.small {n:Nat}(h:n<2^64):Sm n:=Nat.le_trans (qax h) (by omega)
theorem qo9 {a b k:Nat}(ha:bitL a<=k)(hb:bitL b<=k):bitL (a+b)<=k+1:=by
 have h1:=qbw a;have h2:=qbw b;have h3:2^bitL a<=2^k:=Nat.pow_le_pow_right (by omega) ha;have h4:2^bitL b<=2^k:=Nat.pow_le_pow_right (by omega) hb;refine qax ?_;rw[Nat.pow_succ];omega
theorem qxd {n s:Nat}:bitL (n*2^s)<=bitL n+s:=by
 by_cases h:n=0
 ·subst h;rw[Nat.zero_mul];simp[qaw]
 ·rw[qo7 h];exact Nat.le_refl _
theorem qmh {a b:Nat}:bitL (a*b)<=bitL a+bitL b:=by
 by_cases ha:a=0
 ·subst ha;rw[Nat.zero_mul];simp[qaw]
 ·by_cases hb:b=0
  ·subst hb;rw[Nat.mul_zero];simp[qaw]
  ·exact q0h ha hb
def Fx.minus (a:Fx):Fx:=⟨!a.neg,a.n⟩
def Fx.add (a b:Fx):Fx:=if a.neg=b.neg then⟨a.neg,a.n+b.n⟩else if a.n<b.n then⟨b.neg,b.n-a.n⟩else⟨a.neg,a.n-b.n⟩
def Fx.by' (a:Fx)(k:Nat):Fx:=⟨a.neg,a.n/k⟩
def Fx.of (d:Dy)(b:Int):Fx:=if d.e+b<0 then⟨d.neg,natV d.m/2^(-(d.e+b)).toNat⟩else⟨d.neg,natV d.m*2^(d.e+b).toNat⟩
theorem qou (n k:Nat)(hn:Sm n)(h:Sm (n*2^k))(hk:k<=65536):CQ prog qww [lim (qae n),.int .i64 k] (lim (qae (n*2^k))):=by
 refine qaf rfl fun H=>?_
 have c:=qaa6 (qae n) k hn.len (qah n) hk;have hl:=h.len;have e:shN (qae n) k=qae (n*2^k):=by
  unfold shN;rw[qad,if_neg (by omega)]
 rw[e]at c;simp;refine zq c ?_;simp
theorem qac0 (a:Fx)(h:Sm a.n):CQ prog qm6 [a.v] (.bool (decide (a.n=0))):=by
 refine qaf rfl fun H=>?_
 have hl:=h.len;have c:=qqc (qae a.n) (by omega) (qah a.n);rw[qad]at c;simp only[i64]at c;simp;refine zq c ?_;by_cases h0:a.n=0
 ·simp[h0,qaw]
 ·have:bitL a.n≠0:=fun h=>h0 (bitL_eq0.1 h)
  have h1:¬(bitL a.n:Int)=0:=by omega
  simp[h0];omega
theorem qzn (a:Fx):CQ prog qml [a.v] a.minus.v:=by
 refine qaf rfl fun H=>?_
 simp[Fx.minus,lim]
theorem qsy (a b:Fx)(ha:Sm a.n)(hb:Sm b.n)(hs:Sm (a.n+b.n)):CQ prog qos [a.v,b.v] (a.add b).v:=by
 refine qaf rfl fun H=>?_
 have la:=ha.len;have lb:=hb.len;have c1:=qabb (qae a.n) (qae b.n) la lb (qah _) (qah _);rw[qad,qad,hs.cl]at c1;have c2:=qtz (qae a.n) (qae b.n) (by omega) (by omega) (qah _) (qah _);rw[qad,qad]at c2;simp only[i64]at c2;by_cases hn:a.neg=b.neg
 ·simp[hn];refine zq c1 ?_;simp[Fx.add,hn,lim]
 ·simp[hn];refine zq c2 ?_;by_cases hlt:a.n<b.n
  ·have hc:cmpN a.n b.n<0:=by unfold cmpN;rw[if_pos hlt];omega
   have c3:=q2t (qae b.n) (qae a.n) lb la (qah _) (qah _) (by rw[qad,qad];omega);rw[qad,qad]at c3;simp[hc];refine zq c3 ?_;simp[Fx.add,hn,hlt,lim]
  ·have hc:¬cmpN a.n b.n<0:=by unfold cmpN;split<;>(try split)<;>omega
   have c3:=q2t (qae a.n) (qae b.n) la lb (qah _) (qah _) (by rw[qad,qad];omega);rw[qad,qad]at c3;simp[hc];refine zq c3 ?_;simp[Fx.add,hn,hlt,lim]
theorem q9n (k:Nat)(hk:k<2^62)(h0:0<k):CQ prog que [.int .i64 k] (Fx.v ⟨false,k⟩):=by
 refine qaf rfl fun H=>?_
 have p62:(2:Nat)^62=4611686018427387904:=rfl;have c:=qaio k (by omega) (by omega);have e:(Dy.of (decide ((k:Int)<0)) (k:Int).natAbs 0)=⟨false,qae (k/2^tz k),(tz k:Int)⟩:=by
  unfold Dy.of;rw[if_neg (by omega),decide_eq_false (by omega)];simp
 rw[e]at c;have t:=qmp (n:=k) (by omega);have sk:Sm k:=Sm.small (by omega);have hd:k/2^tz k*2^tz k=k:=by have h3:=t.2.2;have:=Nat.div_add_mod' k (2^tz k);omega
 have ht:tz k<=65536:=by
  have h1:=tz_le (n:=k) (by omega);rcases Nat.lt_or_ge (tz k) 63 with h2|h2
  ·omega
  ·have h3:2^63<=2^tz k:=Nat.pow_le_pow_right (by omega) h2;have h4:(2:Nat)^63=9223372036854775808:=rfl;omega
 have cl:=qou (k/2^tz k) (tz k) (sk.mono (Nat.div_le_self _ _)) (by rw[hd];exact sk) ht;rw[hd]at cl;simp;refine zq c ?_;simp[lim];refine zq cl ?_;simp[lim]
theorem q9t (a:Fx)(k:Nat)(ha:Sm a.n)(hk:k<2^62)(h0:0<k):CQ prog qpr [a.v,.int .i64 k] (a.by' k).v:=by
 refine qaf rfl fun H=>?_
 have p62:(2:Nat)^62=4611686018427387904:=rfl;have sk:Sm k:=Sm.small (by omega);have c1:=q9n k hk h0;have c2:=q6u (qae a.n) (qae k) ha.len sk.len (qah _) (qah _) (by rw[qad];exact h0);rw[qad,qad]at c2;simp;refine zq c1 ?_;simp;refine zq c2 ?_;simp[Fx.by',lim]
def altG (next:Fx->Fx):Nat->Nat->Fx->Fx->Fx
 |0,_,_,s=>s
 |f+1,k,p,s=>if(next p).n=0 then s else altG next f (k+1) (next p) (s.add (if k%2=1 then((next p).by' (2*k+1)).minus else(next p).by' (2*k+1)))
def altI (next:Fx->Fx)(p:Fx):Fx:=altG next (p.n+1) 1 p p
theorem qna (a b:Fx):(a.add b).n<=a.n+b.n:=by unfold Fx.add;split<;>(try split)<;>simp only[]<;>omega
theorem by_le (a:Fx)(k:Nat):(a.by' k).n<=a.n:=Nat.div_le_self _ _
theorem qvn {a b:Nat}(h:2*a<=b)(h0:a≠0):bitL a+1<=bitL b:=by
 have h1:=(qar h0).1;have h2:=(qar h0).2.2;have h3:2^bitL a<=b:=by
  have:2^bitL a=2*2^(bitL a-1):=by rw[<-Nat.pow_succ'];congr 1;omega
  omega
 exact bitL_gt.2 h3
set_option maxHeartbeats 1000000 in
theorem qak9 {H:Heap}{g:Nat}{caps:List V}(p0:Fx)(next:Fx->Fx)(hcb:∀a:Fx,a.n<=p0.n->Cb H g caps [a.v] (next a).v)(hh:∀a:Fx,a.n<=p0.n->2*(next a).n<=a.n)(hs:bitL p0.n<=8000) :
 Ev prog (.call qgq [p0.v,.fn g caps] H) (.ret (altI next p0).v H):=by
 refine qej rfl ?_;have sm0:Sm (2*p0.n):=by
  have:=qmh (a:=2) (b:=p0.n);have e:bitL 2=2:=rfl;unfold Sm;omega
 simp;refine qbu (fun f E H'=>∃(k:Nat) (p s:Fx),(∃G,H'=H++some ⟨2,[p.v],false,true⟩ :: some ⟨2,[.agg [.bool false,.nil]],false,true⟩ :: some ⟨2,[s.v],false,true⟩ :: G) /\
  E 1=.fn g caps/\E 2=.ptr H.length 0 0/\E 4=.ptr (H.length+1) 0 0/\E 5=.ptr (H.length+2) 0 0/\E 6=.int .i64 k/\0<f/\p.n<f/\s.n+p.n<=2*p0.n/\p.n<=p0.n/\bitL p.n+k<=8001/\altG next f k p s=altI next p0) (p0.n+1) ?_ ?_
 ·exact⟨1,p0,p0,⟨[],by simp⟩,by simp,by simp,by simp,by simp,by simp,by omega,by omega,by omega,by omega,by omega,rfl⟩
 ·rintro f E H' ⟨k,p,s,⟨G,rfl⟩,h1,h2,h4,h5,h6,hf,hpf,hsum,hpp,hk,hg⟩;obtain⟨f,rfl⟩:∃j,f=j+1:=⟨f-1,by omega⟩
  have c1:=hcb p hpp;have hp2:=hh p hpp;have hg2:altG next (f+1) k p s=if(next p).n=0 then s else altG next f (k+1) (next p) (s.add (if k%2=1 then((next p).by' (2*k+1)).minus else(next p).by' (2*k+1))):=rfl;generalize next p=q at *
  have sq:Sm q.n:=sm0.mono (by omega);have c2:=qac0 q sq;have e1:IntKind.i64.wrap (2*(k:Int))=2*(k:Int):=by rw[wrap_i64]<;>omega
  have e2:IntKind.i64.wrap (2*(k:Int)+1)=((2*k+1:Nat):Int):=by rw[wrap_i64]<;>omega
  have e3:(k:Int).tmod 2=((k%2:Nat):Int):=by rw[Int.tmod_eq_emod_of_nonneg (by omega)];omega
  have e4:IntKind.i64.wrap ((k:Int)+1)=((k+1:Nat):Int):=by rw[wrap_i64]<;>omega
  have e5:IntKind.i64.wrap ((k%2:Nat):Int)=((k%2:Nat):Int):=by rw[wrap_i64]<;>omega
  have p62:(2:Nat)^62=4611686018427387904:=rfl;have c3:=q9t q (2*k+1) sq (by omega) (by omega);have⟨t,ht⟩:∃t,t=q.by' (2*k+1):=⟨_,rfl⟩
  have tle:t.n<=q.n:=by rw[ht];exact by_le _ _
  rw[<-ht]at c3 hg2;have st:Sm t.n:=sq.mono tle;have ss:Sm s.n:=sm0.mono (by omega);have c4:=qzn t;have c5:=qsy s t ss st (sm0.mono (by omega));have c6:=qsy s t.minus ss st (sm0.mono (show s.n+t.n<=_ by omega));have⟨w,hw⟩:∃w:Int,w=((2*k+1:Nat):Int):=⟨_,rfl⟩
  rw[<-hw]at e2 c3;refine qa1 ?_;simp[qe3,h1,h2];refine WL_cb c1 (by simp) rfl (by simp) ?_;simp[h2];refine zq c2 ?_;by_cases hz:q.n=0
  ·rw[hg2,if_pos hz]at hg;simp[hz,h4,h5,<-hg]
  ·have hb:=qvn hp2 hz;simp[hz,h2,h6,e1,e2];refine zq c3 ?_;by_cases hodd:k%2=1
   ·simp[h6,e3,hodd];refine zq c4 ?_;simp[h5];refine zq c6 ?_;have le1:=qna s t.minus;have le2:t.minus.n=t.n:=rfl;rw[hg2,if_neg hz,if_pos hodd]at hg;simp[h1,h2,h4,h5,h6];exact⟨f,by omega,k+1,q,s.add t.minus,by simp,by simpa using e4,by omega,by omega,by omega,by omega,by omega,hg⟩
   ·have hodd':k%2=0:=by omega
    simp[h5,h6,e3,hodd'];refine zq c5 ?_;have le1:=qna s t;rw[hg2,if_neg hz,if_neg hodd]at hg;simp[h1,h2,h4,h5,h6];exact⟨f,by omega,k+1,q,s.add t,by simp,by simpa using e4,by omega,by omega,by omega,by omega,by omega,hg⟩
theorem qaax (next:Fx->Fx)(hh:∀a:Fx,2*(next a).n<=a.n):∀(f k:Nat) (p s:Fx),(altG next f k p s).n<=s.n+p.n
 |0,k,p,s=>by show s.n<=_;omega
 |f+1,k,p,s=>by
  have h1:=hh p;unfold altG;split
  ·omega
  ·have h2:=by_le (next p) (2*k+1);refine Nat.le_trans (qaax next hh f (k+1) _ _) ?_;split
   ·have:=qna s ((next p).by' (2*k+1)).minus;have e:((next p).by' (2*k+1)).minus.n=((next p).by' (2*k+1)).n:=rfl;omega
   ·have:=qna s ((next p).by' (2*k+1));omega
def invI (n b:Nat):Fx:=altI (fun a=>a.by' (n*n)) ⟨false,2^b/n⟩
theorem q2e {a:Fx}{n:Nat}(hn:2<=n):2*(a.by' (n*n)).n<=a.n:=by
 show 2*(a.n/(n*n))<=a.n;have h1:4<=n*n:=Nat.mul_le_mul hn hn;have h2:=Nat.div_mul_le_self a.n (n*n);have h3:a.n/(n*n)*4<=a.n/(n*n)*(n*n):=Nat.mul_le_mul_left _ h1;omega
theorem qaha {H:Heap}{b:Nat}{n:Nat}(hb:H[b]?=some (some ⟨1,[.int .i64 n],false,true⟩))(hn:2<=n)(hn2:n<=1000)(a:Fx)(ha:Sm a.n):Cb H qeq [.ptr b 0 0] [a.v] (a.by' (n*n)).v:=by
 intro H' hH;have hb':H'[b]?=some (some ⟨1,[.int .i64 n],false,true⟩):=by
  obtain⟨G,rfl⟩:=hH;rw[List.getElem?_append_left (List.getElem?_eq_some_iff.1 hb).1];exact hb
 have hbl:b<H'.length:=(List.getElem?_eq_some_iff.1 hb').1;have hbe:H'[b]'hbl=some ⟨1,[.int .i64 n],false,true⟩:=(List.getElem?_eq_some_iff.1 hb').2;refine⟨rfl,qej rfl ?_⟩;have p62:(2:Nat)^62=4611686018427387904:=rfl;have hnn:n*n<=1000000:=Nat.mul_le_mul hn2 hn2;have h0:0<n*n:=Nat.mul_pos (by omega) (by omega);have e1:IntKind.i64.wrap ((n:Int)*n)=((n*n:Nat):Int):=by
  have:((n*n:Nat):Int)=(n:Int)*n:=by simp
  rw[<-this,wrap_i64]<;>omega
 have c:=q9t a (n*n) ha (by omega) h0;simp[hbe,hbl,List.getElem?_append_left,e1];refine zq c ?_;simp[lim]
theorem qqj (n b:Nat)(hn:2<=n)(hn2:n<=1000)(hb:b<=7000):CQ prog qq8 [.int .i64 n,.int .i64 b] (invI n b).v:=by
 refine qaf rfl fun H=>?_
 have p62:(2:Nat)^62=4611686018427387904:=rfl;have s1:Sm 1:=Sm.small (by omega);have eb:=qxd (n:=1) (s:=b);have e1:bitL 1=1:=rfl;rw[Nat.one_mul]at eb;have sb:Sm (2^b):=by unfold Sm;omega
 have c1:=qou 1 b s1 (by rw[Nat.one_mul];exact sb) (by omega);rw[Nat.one_mul]at c1;have e2:qae 1=[1]:=by decide
 rw[e2]at c1;have c2:=q9t ⟨false,2^b⟩ n sb (by omega) (by omega);have e3:(Fx.mk false (2^b)).by' n=⟨false,2^b/n⟩:=rfl;rw[e3]at c2;have hbl:bitL (2^b/n)<=8000:=Nat.le_trans (qd1 (Nat.div_le_self _ _)) (by omega);simp;refine qau rfl rfl (H1:=H++[some ⟨1,[.int .i64 n],false,true⟩,some ⟨2,[.agg [.bool false,.nil]],false,true⟩,some ⟨1,[.int .u32 1],true,false⟩]) (vs:=[lim [1],.int .i64 b]) (by simp[prep,frzVs,frzV,lim];rfl) c1 ?_;simp;refine zq c2 ?_;simp[V.isCell];refine WL_ev (g:=qgq) (caps:=[]) (args:=[Fx.v ⟨false,2^b/n⟩,.fn qeq [.ptr H.length 0 0]]) (vs:=[Fx.v ⟨false,2^b/n⟩,.fn qeq [.ptr H.length 0 0]]) (v:=(invI n b).v) ?_ ?_ ?_ ?_ ?_
 ·rfl
 ·rfl
 ·rfl
 ·exact qak9 _ _ (fun a ha=>qaha (by simp) hn hn2 a (sb.mono (Nat.le_trans ha (Nat.div_le_self _ _)))) (fun a _=>q2e hn) hbl
 simp[lim]
theorem q85 {n b:Nat}(hn:2<=n):(invI n b).n<=2*(2^b/n):=by
 have:=qaax (fun a=>a.by' (n*n)) (fun a=>q2e hn) ((2^b/n)+1) 1 ⟨false,2^b/n⟩ ⟨false,2^b/n⟩;unfold invI altI;simp only[]at this ⊢;omega
def piI (b:Nat):Fx:=Fx.add ⟨false,(invI 5 b).n*2^4⟩ ⟨true,(invI 239 b).n*2^2⟩
theorem pi_cq (b:Nat)(hb:b<=7000):CQ prog q1s [.int .i64 b] (piI b).v:=by
 refine qaf rfl fun H=>?_
 have c1:=qqj 5 b (by omega) (by omega) hb;have c2:=qqj 239 b (by omega) (by omega) hb;have l1:=q85 (n:=5) (b:=b) (by omega);have l2:=q85 (n:=239) (b:=b) (by omega);have d1:=Nat.div_le_self (2^b) 5;have d2:=Nat.div_le_self (2^b) 239;have eb:=qxd (n:=1) (s:=b+7);have e1:bitL 1=1:=rfl;rw[Nat.one_mul]at eb;have e7:2^(b+7)=128*2^b:=by rw[Nat.pow_add,Nat.mul_comm]
 have sb:Sm (128*2^b):=by rw[<-e7];unfold Sm;omega
 have e4:(2:Nat)^4=16:=rfl;have e2:(2:Nat)^2=4:=rfl;have e0:piI b=Fx.add ⟨false,(invI 5 b).n*2^4⟩ ⟨true,(invI 239 b).n*2^2⟩:=rfl;generalize invI 5 b=X at *
 generalize invI 239 b=Y at *
 generalize 2^b=B at *
 have c3:=qou X.n 4 (sb.mono (by omega)) (sb.mono (by omega)) (by omega);have c4:=qou Y.n 2 (sb.mono (by omega)) (sb.mono (by omega)) (by omega);have c5:=qsy ⟨false,X.n*2^4⟩ ⟨true,Y.n*2^2⟩ (sb.mono (by simp only[];omega)) (sb.mono (by simp only[];omega)) (sb.mono (by simp only[];omega));rw[e0];simp;refine zq c1 ?_;simp;refine zq c2 ?_;simp;refine zq c3 ?_;simp;refine zq c4 ?_;simp;refine zq c5 ?_;simp[lim]
def eps24 : Fx:=⟨false,2^24⟩
def nearL (a:Fx)(b:Nat):Dy:=Dy.of (a.add eps24.minus).neg (a.add eps24.minus).n (-(b:Int))
def nearH (a:Fx)(b:Nat):Dy:=Dy.of (a.add eps24).neg (a.add eps24).n (-(b:Int))
def Iv.near (a:Fx)(b:Nat)(p:Int):Iv:=
 if((nearL a b).inR&&(nearH a b).inR)=true then Iv.made (qee (nearL a b) p false) (qee (nearH a b) p true)else Iv.whole
set_option maxHeartbeats 1000000 in
theorem qagy (a:Fx)(b:Nat)(p:Int)(ha:bitL a.n<=8000)(hb:b<=8000):CQ prog qwv [a.v,.int .i64 b,.int .i64 p] (Iv.near a b p).v:=by
 refine qaf rfl fun H=>?_
 have s1:Sm 1:=Sm.small (by omega);have e24:(2:Nat)^24=16777216:=rfl;have s24:Sm (2^24):=Sm.small (by omega)
 have b24:bitL (2^24)<=8000:=by have:bitL (2^24)=25:=by decide
                                omega
 have sa:Sm a.n:=Nat.le_trans ha (by omega);have ss:Sm (a.n+2^24):=Nat.le_trans (qo9 ha b24) (by omega);have c1:=qou 1 24 s1 (by rw[Nat.one_mul];exact s24) (by omega);have e2:qae 1=[1]:=by decide
 rw[e2,Nat.one_mul]at c1;have c2:=qzn eps24;have c3:=qsy a eps24.minus sa s24 ss;have c4:=qsy a eps24 sa s24 ss;have l3:=qna a eps24.minus;have l4:=qna a eps24;have⟨lo,hlo⟩:∃x,x=a.add eps24.minus:=⟨_,rfl⟩
 have⟨hi,hhi⟩:∃x,x=a.add eps24:=⟨_,rfl⟩
 rw[<-hlo]at c3 l3;rw[<-hhi]at c4 l4;have slo:Sm lo.n:=ss.mono l3;have shi:Sm hi.n:=ss.mono l4;have c5:=qxl lo.neg (qae lo.n) (-(b:Int)) slo.len (qah _) (by omega) (by omega);have c6:=qxl hi.neg (qae hi.n) (-(b:Int)) shi.len (qah _) (by omega) (by omega);rw[qad]at c5 c6;have e5:nearL a b=Dy.of lo.neg lo.n (-(b:Int)):=by rw[hlo];rfl
 have e6:nearH a b=Dy.of hi.neg hi.n (-(b:Int)):=by rw[hhi];rfl
 have w5:(nearL a b).W:=by rw[e5];exact Dy.of_W (by have:=slo.len;omega)
 have w6:(nearH a b).W:=by rw[e6];exact Dy.of_W (by have:=shi.len;omega)
 rw[<-e5]at c5;rw[<-e6]at c6;have eb:IntKind.i64.wrap (-(b:Int))=-(b:Int):=by rw[wrap_i64]<;>omega
 have ev:Fx.v eps24=.agg [.bool false,lim (qae (2^24))]:=rfl;unfold Iv.near;generalize nearL a b=x at *
 generalize nearH a b=y at *
 simp;refine qau rfl rfl (H1:=_) (vs:=[lim [1],.int .i64 (24:Nat)]) (by simp[prep,frzVs,frzV,lim];rfl) c1 ?_;simp[<-ev];refine zq c2 ?_;simp;refine zq c3 ?_;simp;refine zq c4 ?_;simp[eb];refine zq c5 ?_;simp[eb];refine zq c6 ?_;by_cases hx:x.inR=true
 ·by_cases hy:y.inR=true
  ·have ex:x.chk=x:=by unfold Dy.chk;rw[if_pos hx]
   have ey:y.chk=y:=by unfold Dy.chk;rw[if_pos hy]
   have exE:x.chkE=0:=by unfold Dy.chkE;rw[if_pos hx]
   have eyE:y.chkE=0:=by unfold Dy.chkE;rw[if_pos hy]
   have c7:=qaim x p w5;have c8:=Up_cq y p w6;generalize qee x p false=r at *
   generalize qee y p true=s at *
   simp[hx,hy,ex,ey,exE,eyE];refine zq c7 ?_;simp;refine zq c8 ?_;by_cases hr:r.2=0
   ·by_cases hs:s.2=0
    ·simp[hr,hs,Iv.made,lim]
    ·simp[hr,hs];refine zq qcs ?_;simp[Iv.made,hs,lim]
   ·simp[hr];refine zq qcs ?_;simp[Iv.made,hr,lim]
  ·have exE:x.chkE=0:=by unfold Dy.chkE;rw[if_pos hx]
   have eyE:y.chkE=9:=by unfold Dy.chkE;rw[if_neg hy]
   simp[hy,exE,eyE];refine zq qcs ?_;simp[lim]
 ·have exE:x.chkE=9:=by unfold Dy.chkE;rw[if_neg hx]
  simp[hx,exE];refine zq qcs ?_;simp[lim]
theorem qtq (k:Nat):bitL (2^k)=k+1:=by
 have h:=qo7 (n:=1) (s:=k) (by omega);have e1:bitL 1=1:=rfl;rw[Nat.one_mul]at h;omega
end Go.Abs.W
