/- Parts of the proof: FpCa, FpCb, FpCc, FpCd. -/
import Derived.Test.YtpdchdfajhbglaaGreatDoorHx
import Derived.Test.YtpdchdfajhbglaaGreatDoorHp
import Derived.Test.YtpdchdfajhbglaaGreatDoorFe
import Derived.Test.YtpdchdfajhbglaaGreatDoorFf
import Derived.Test.YtpdchdfajhbglaaGreatDoorHr
namespace Go.Abs.W
structure Fx where
 neg:Bool
 n:Nat
@[simp] def Fx.v (a:Fx):V:=.agg [.bool a.neg,lim (qae a.n)]
def Sm (n:Nat):Prop:=bitL n<=8100
theorem Sm.len {n:Nat}(h:Sm n):(qae n).length<=256:=by have:=qag2 (b:=8100) h;omega
theorem Sm.cl {n:Nat}(h:Sm n):cl n=qae n:=cl_of h.len
theorem Sm.mono {a b:Nat}(h:Sm b)(hab:a<=b):Sm a:=Nat.le_trans (qat hab) h
theorem Sm.small {n:Nat}(h:n<2^64):Sm n:=Nat.le_trans (qbc h) (by omega)
theorem qnc {a b k:Nat}(ha:bitL a<=k)(hb:bitL b<=k):bitL (a+b)<=k+1:=by
 have h1:=qb6 a;have h2:=qb6 b;have h3:2^bitL a<=2^k:=Nat.pow_le_pow_right (by omega) ha;have h4:2^bitL b<=2^k:=Nat.pow_le_pow_right (by omega) hb;refine qbc ?_;rw[Nat.pow_succ];omega
theorem q8s {n s:Nat}:bitL (n*2^s)<=bitL n+s:=by
 by_cases h:n=0
 ·subst h;rw[Nat.zero_mul];simp[qbl]
 ·rw[qls h];exact Nat.le_refl _
theorem qh1 {a b:Nat}:bitL (a*b)<=bitL a+bitL b:=by
 by_cases ha:a=0
 ·subst ha;rw[Nat.zero_mul];simp[qbl]
 ·by_cases hb:b=0
  ·subst hb;rw[Nat.mul_zero];simp[qbl]
  ·exact q4i ha hb
def Fx.minus (a:Fx):Fx:=⟨!a.neg,a.n⟩
def Fx.add (a b:Fx):Fx:=if a.neg=b.neg then⟨a.neg,a.n+b.n⟩else if a.n<b.n then⟨b.neg,b.n-a.n⟩else⟨a.neg,a.n-b.n⟩
def Fx.times (a c:Fx)(b:Nat):Fx:=⟨a.neg != c.neg,a.n*c.n/2^b⟩
def Fx.by' (a:Fx)(k:Nat):Fx:=⟨a.neg,a.n/k⟩
def Fx.of (d:Dy)(b:Int):Fx:=if d.e+b<0 then⟨d.neg,natV d.m/2^(-(d.e+b)).toNat⟩else⟨d.neg,natV d.m*2^(d.e+b).toNat⟩
theorem qfe (n k:Nat)(hn:Sm n)(h:Sm (n*2^k))(hk:k<=65536):CQ prog q09 [lim (qae n),.int .i64 k] (lim (qae (n*2^k))):=by
 refine qaf rfl fun H=>?_
 have c:=qae8 (qae n) k hn.len (qag n) hk;have hl:=h.len;have e:shN (qae n) k=qae (n*2^k):=by
  unfold shN;rw[qac,if_neg (by omega)]
 rw[e]at c;simp;refine zq c ?_;simp
theorem qn5 (n k:Nat)(hn:Sm n)(hk:k<=65536):CQ prog qx3 [lim (qae n),.int .i64 k] (lim (qae (n/2^k))):=by
 refine qaf rfl fun H=>?_
 have c:=q6m (qae n) k hn.len (qag n) hk;rw[qac]at c;simp;refine zq c ?_;simp
theorem q1c (a:Fx)(h:Sm a.n):CQ prog qp4 [a.v] (.bool (decide (a.n=0))):=by
 refine qaf rfl fun H=>?_
 have hl:=h.len;have c:=qnh (qae a.n) (by omega) (qag a.n);rw[qac]at c;simp only[i64]at c;simp;refine zq c ?_;by_cases h0:a.n=0
 ·simp[h0,qbl]
 ·have:bitL a.n≠0:=fun h=>h0 (bitL_eq0.1 h)
  have h1:¬(bitL a.n:Int)=0:=by omega
  simp[h0];omega
theorem qig (a:Fx):CQ prog qpk [a.v] a.minus.v:=by
 refine qaf rfl fun H=>?_
 simp[Fx.minus,lim]
theorem qea (a b:Fx)(ha:Sm a.n)(hb:Sm b.n)(hs:Sm (a.n+b.n)):CQ prog qrb [a.v,b.v] (a.add b).v:=by
 refine qaf rfl fun H=>?_
 have la:=ha.len;have lb:=hb.len;have c1:=q1t (qae a.n) (qae b.n) la lb (qag _) (qag _);rw[qac,qac,hs.cl]at c1;have c2:=qpw (qae a.n) (qae b.n) (by omega) (by omega) (qag _) (qag _);rw[qac,qac]at c2;simp only[i64]at c2;by_cases hn:a.neg=b.neg
 ·simp[hn];refine zq c1 ?_;simp[Fx.add,hn,lim]
 ·simp[hn];refine zq c2 ?_;by_cases hlt:a.n<b.n
  ·have hc:cmpN a.n b.n<0:=by unfold cmpN;rw[if_pos hlt];omega
   have c3:=qw5 (qae b.n) (qae a.n) lb la (qag _) (qag _) (by rw[qac,qac];omega);rw[qac,qac]at c3;simp[hc];refine zq c3 ?_;simp[Fx.add,hn,hlt,lim]
  ·have hc:¬cmpN a.n b.n<0:=by unfold cmpN;split<;>(try split)<;>omega
   have c3:=qw5 (qae a.n) (qae b.n) la lb (qag _) (qag _) (by rw[qac,qac];omega);rw[qac,qac]at c3;simp[hc];refine zq c3 ?_;simp[Fx.add,hn,hlt,lim]
theorem q3n (a c:Fx)(b:Nat)(ha:Sm a.n)(hc:Sm c.n)(hs:Sm (a.n*c.n))(hb:b<=65536):CQ prog qpj [a.v,c.v,.int .i64 b] (a.times c b).v:=by
 refine qaf rfl fun H=>?_
 have c1:=qw6 (qae a.n) (qae c.n) ha.len hc.len (qag _) (qag _);rw[qac,qac,hs.cl]at c1;simp;refine zq c1 ?_;simp;refine qaa rfl rfl rfl (qn5 (a.n*c.n) b hs hb) ?_;simp[Fx.times,lim];cases a.neg<;>cases c.neg<;>rfl
theorem q3o (k:Nat)(hk:k<2^62)(h0:0<k):CQ prog qkb [.int .i64 k] (Fx.v ⟨false,k⟩):=by
 refine qaf rfl fun H=>?_
 have p62:(2:Nat)^62=4611686018427387904:=rfl;have c:=qng k (by omega) (by omega);have e:(Dy.of (decide ((k:Int)<0)) (k:Int).natAbs 0)=⟨false,qae (k/2^tz k),(tz k:Int)⟩:=by
  unfold Dy.of;rw[if_neg (by omega),decide_eq_false (by omega)];simp
 rw[e]at c;have t:=qpl (n:=k) (by omega);have sk:Sm k:=Sm.small (by omega);have hd:k/2^tz k*2^tz k=k:=by have h3:=t.2.2;have:=Nat.div_add_mod' k (2^tz k);omega
 have ht:tz k<=65536:=by
  have h1:=tz_le (n:=k) (by omega);rcases Nat.lt_or_ge (tz k) 63 with h2|h2
  ·omega
  ·have h3:2^63<=2^tz k:=Nat.pow_le_pow_right (by omega) h2;have h4:(2:Nat)^63=9223372036854775808:=rfl;omega
 have cl:=qfe (k/2^tz k) (tz k) (sk.mono (Nat.div_le_self _ _)) (by rw[hd];exact sk) ht;rw[hd]at cl;simp;refine zq c ?_;simp[lim];refine zq cl ?_;simp[lim]
theorem q8b (a:Fx)(k:Nat)(ha:Sm a.n)(hk:k<2^62)(h0:0<k):CQ prog qr6 [a.v,.int .i64 k] (a.by' k).v:=by
 refine qaf rfl fun H=>?_
 have p62:(2:Nat)^62=4611686018427387904:=rfl;have sk:Sm k:=Sm.small (by omega);have c1:=q3o k hk h0;have c2:=qpd (qae a.n) (qae k) ha.len sk.len (qag _) (qag _) (by rw[qac];exact h0);rw[qac,qac]at c2;simp;refine zq c1 ?_;simp;refine zq c2 ?_;simp[Fx.by',lim]
theorem qail (d:Dy)(b:Int)(ok:d.Ok)(hb:0<=b)(hb2:b<=40000)(hs:0<=d.e+b->Sm (natV d.m*2^(d.e+b).toNat)):CQ prog qv5 [d.v,.int .i64 b] (Fx.of d b).v:=by
 refine qaf rfl fun H=>?_
 have h1:=ok.elo;have h2:=ok.ehi;have e1:IntKind.i64.wrap (d.e+b)=d.e+b:=by rw[wrap_i64]<;>omega
 have hm:Sm (natV d.m):=Nat.le_trans ok.bits (by omega);have em:qae (natV d.m)=d.m:=qjy ok.li ok.tr;by_cases hn:d.e+b<0
 ·have⟨k,hk⟩:∃k:Nat,k=(-(d.e+b)).toNat:=⟨_,rfl⟩
  have e2:IntKind.i64.wrap (-(d.e+b))=(k:Int):=by rw[wrap_i64]<;>omega
  have c:=qn5 (natV d.m) k hm (by omega);rw[em]at c;simp[e1,hn,e2];refine zq c ?_;simp[Fx.of,hn,<-hk,lim]
 ·have⟨k,hk⟩:∃k:Nat,k=(d.e+b).toNat:=⟨_,rfl⟩
  have e2:d.e+b=(k:Int):=by omega
  have c:=qfe (natV d.m) k hm (by rw[hk];exact hs (by omega)) (by omega);rw[em]at c;have hn':¬(k:Int)<0:=by omega
  have e3:IntKind.i64.wrap (k:Int)=(k:Int):=by rw[wrap_i64]<;>omega
  simp[e2,e3,hn'];refine zq c ?_;simp[Fx.of,e2,hn',lim]
def altG (next:Fx->Fx):Nat->Nat->Fx->Fx->Fx
 |0,_,_,s=>s
 |f+1,k,p,s=>if(next p).n=0 then s else altG next f (k+1) (next p) (s.add (if k%2=1 then((next p).by' (2*k+1)).minus else(next p).by' (2*k+1)))
def altI (next:Fx->Fx)(p:Fx):Fx:=altG next (p.n+1) 1 p p
theorem qev (a b:Fx):(a.add b).n<=a.n+b.n:=by unfold Fx.add;split<;>(try split)<;>simp only[]<;>omega
theorem by_le (a:Fx)(k:Nat):(a.by' k).n<=a.n:=Nat.div_le_self _ _
theorem qzn {a b:Nat}(h:2*a<=b)(h0:a≠0):bitL a+1<=bitL b:=by
 have h1:=(qa0 h0).1;have h2:=(qa0 h0).2.2;have h3:2^bitL a<=b:=by
  have:2^bitL a=2*2^(bitL a-1):=by rw[<-Nat.pow_succ'];congr 1;omega
  omega
 exact bitL_gt.2 h3
set_option maxHeartbeats 1000000 in
theorem qaok {H:Heap}{g:Nat}{caps:List V}(p0:Fx)(next:Fx->Fx)(hcb:∀a:Fx,a.n<=p0.n->Cb H g caps [a.v] (next a).v)(hh:∀a:Fx,a.n<=p0.n->2*(next a).n<=a.n)(hs:bitL p0.n<=8000) :
 Ev prog (.call qhr [p0.v,.fn g caps] H) (.ret (altI next p0).v H):=by
 refine qjn rfl ?_;have sm0:Sm (2*p0.n):=by
  have:=qh1 (a:=2) (b:=p0.n);have e:bitL 2=2:=rfl;unfold Sm;omega
 simp;refine qc5 (fun f E H'=>∃(k:Nat) (p s:Fx),(∃G,H'=H++some ⟨2,[p.v],false,true⟩ :: some ⟨2,[.agg [.bool false,.nil]],false,true⟩ :: some ⟨2,[s.v],false,true⟩ :: G) /\
  E 1=.fn g caps/\E 2=.ptr H.length 0 0/\E 4=.ptr (H.length+1) 0 0/\E 5=.ptr (H.length+2) 0 0/\E 6=.int .i64 k/\0<f/\p.n<f/\s.n+p.n<=2*p0.n/\p.n<=p0.n/\bitL p.n+k<=8001/\altG next f k p s=altI next p0) (p0.n+1) ?_ ?_
 ·exact⟨1,p0,p0,⟨[],by simp⟩,by simp,by simp,by simp,by simp,by simp,by omega,by omega,by omega,by omega,by omega,rfl⟩
 ·rintro f E H' ⟨k,p,s,⟨G,rfl⟩,h1,h2,h4,h5,h6,hf,hpf,hsum,hpp,hk,hg⟩;obtain⟨f,rfl⟩:∃j,f=j+1:=⟨f-1,by omega⟩
  have c1:=hcb p hpp;have hp2:=hh p hpp;have hg2:altG next (f+1) k p s=if(next p).n=0 then s else altG next f (k+1) (next p) (s.add (if k%2=1 then((next p).by' (2*k+1)).minus else(next p).by' (2*k+1))):=rfl;generalize next p=q at *
  have sq:Sm q.n:=sm0.mono (by omega);have c2:=q1c q sq;have e1:IntKind.i64.wrap (2*(k:Int))=2*(k:Int):=by rw[wrap_i64]<;>omega
  have e2:IntKind.i64.wrap (2*(k:Int)+1)=((2*k+1:Nat):Int):=by rw[wrap_i64]<;>omega
  have e3:(k:Int).tmod 2=((k%2:Nat):Int):=by rw[Int.tmod_eq_emod_of_nonneg (by omega)];omega
  have e4:IntKind.i64.wrap ((k:Int)+1)=((k+1:Nat):Int):=by rw[wrap_i64]<;>omega
  have e5:IntKind.i64.wrap ((k%2:Nat):Int)=((k%2:Nat):Int):=by rw[wrap_i64]<;>omega
  have p62:(2:Nat)^62=4611686018427387904:=rfl;have c3:=q8b q (2*k+1) sq (by omega) (by omega);have⟨t,ht⟩:∃t,t=q.by' (2*k+1):=⟨_,rfl⟩
  have tle:t.n<=q.n:=by rw[ht];exact by_le _ _
  rw[<-ht]at c3 hg2;have st:Sm t.n:=sq.mono tle;have ss:Sm s.n:=sm0.mono (by omega);have c4:=qig t;have c5:=qea s t ss st (sm0.mono (by omega));have c6:=qea s t.minus ss st (sm0.mono (show s.n+t.n<=_ by omega));have⟨w,hw⟩:∃w:Int,w=((2*k+1:Nat):Int):=⟨_,rfl⟩
  rw[<-hw]at e2 c3;refine qas ?_;simp[qfr,h1,h2];refine WL_cb c1 (by simp) rfl (by simp) ?_;simp[h2];refine zq c2 ?_;by_cases hz:q.n=0
  ·rw[hg2,if_pos hz]at hg;simp[hz,h4,h5,<-hg]
  ·have hb:=qzn hp2 hz;simp[hz,h2,h6,e1,e2];refine zq c3 ?_;by_cases hodd:k%2=1
   ·simp[h6,e3,hodd];refine zq c4 ?_;simp[h5];refine zq c6 ?_;have le1:=qev s t.minus;have le2:t.minus.n=t.n:=rfl;rw[hg2,if_neg hz,if_pos hodd]at hg;simp[h1,h2,h4,h5,h6];exact⟨f,by omega,k+1,q,s.add t.minus,by simp,by simpa using e4,by omega,by omega,by omega,by omega,by omega,hg⟩
   ·have hodd':k%2=0:=by omega
    simp[h5,h6,e3,hodd'];refine zq c5 ?_;have le1:=qev s t;rw[hg2,if_neg hz,if_neg hodd]at hg;simp[h1,h2,h4,h5,h6];exact⟨f,by omega,k+1,q,s.add t,by simp,by simpa using e4,by omega,by omega,by omega,by omega,by omega,hg⟩
theorem qaev (next:Fx->Fx)(hh:∀a:Fx,2*(next a).n<=a.n):∀(f k:Nat) (p s:Fx),(altG next f k p s).n<=s.n+p.n
 |0,k,p,s=>by show s.n<=_;omega
 |f+1,k,p,s=>by
  have h1:=hh p;unfold altG;split
  ·omega
  ·have h2:=by_le (next p) (2*k+1);refine Nat.le_trans (qaev next hh f (k+1) _ _) ?_;split
   ·have:=qev s ((next p).by' (2*k+1)).minus;have e:((next p).by' (2*k+1)).minus.n=((next p).by' (2*k+1)).n:=rfl;omega
   ·have:=qev s ((next p).by' (2*k+1));omega
def invI (n b:Nat):Fx:=altI (fun a=>a.by' (n*n)) ⟨false,2^b/n⟩
theorem qaek {a:Fx}{n:Nat}(hn:2<=n):2*(a.by' (n*n)).n<=a.n:=by
 show 2*(a.n/(n*n))<=a.n;have h1:4<=n*n:=Nat.mul_le_mul hn hn;have h2:=Nat.div_mul_le_self a.n (n*n);have h3:a.n/(n*n)*4<=a.n/(n*n)*(n*n):=Nat.mul_le_mul_left _ h1;omega
theorem qakn {H:Heap}{b:Nat}{n:Nat}(hb:H[b]?=some (some ⟨1,[.int .i64 n],false,true⟩))(hn:2<=n)(hn2:n<=1000)(a:Fx)(ha:Sm a.n):Cb H qfc [.ptr b 0 0] [a.v] (a.by' (n*n)).v:=by
 intro H' hH;have hb':H'[b]?=some (some ⟨1,[.int .i64 n],false,true⟩):=by
  obtain⟨G,rfl⟩:=hH;rw[List.getElem?_append_left (List.getElem?_eq_some_iff.1 hb).1];exact hb
 have hbl:b<H'.length:=(List.getElem?_eq_some_iff.1 hb').1;have hbe:H'[b]'hbl=some ⟨1,[.int .i64 n],false,true⟩:=(List.getElem?_eq_some_iff.1 hb').2;refine⟨rfl,qjn rfl ?_⟩;have p62:(2:Nat)^62=4611686018427387904:=rfl;have hnn:n*n<=1000000:=Nat.mul_le_mul hn2 hn2;have h0:0<n*n:=Nat.mul_pos (by omega) (by omega);have e1:IntKind.i64.wrap ((n:Int)*n)=((n*n:Nat):Int):=by
  have:((n*n:Nat):Int)=(n:Int)*n:=by simp
  rw[<-this,wrap_i64]<;>omega
 have c:=q8b a (n*n) ha (by omega) h0;simp[hbe,hbl,List.getElem?_append_left,e1];refine zq c ?_;simp[lim]
theorem qso (n b:Nat)(hn:2<=n)(hn2:n<=1000)(hb:b<=7000):CQ prog qtt [.int .i64 n,.int .i64 b] (invI n b).v:=by
 refine qaf rfl fun H=>?_
 have p62:(2:Nat)^62=4611686018427387904:=rfl;have s1:Sm 1:=Sm.small (by omega);have eb:=q8s (n:=1) (s:=b);have e1:bitL 1=1:=rfl;rw[Nat.one_mul]at eb;have sb:Sm (2^b):=by unfold Sm;omega
 have c1:=qfe 1 b s1 (by rw[Nat.one_mul];exact sb) (by omega);rw[Nat.one_mul]at c1;have e2:qae 1=[1]:=by decide
 rw[e2]at c1;have c2:=q8b ⟨false,2^b⟩ n sb (by omega) (by omega);have e3:(Fx.mk false (2^b)).by' n=⟨false,2^b/n⟩:=rfl;rw[e3]at c2;have hbl:bitL (2^b/n)<=8000:=Nat.le_trans (qat (Nat.div_le_self _ _)) (by omega);simp;refine qam rfl rfl (H1:=H++[some ⟨1,[.int .i64 n],false,true⟩,some ⟨2,[.agg [.bool false,.nil]],false,true⟩,some ⟨1,[.int .u32 1],true,false⟩]) (vs:=[lim [1],.int .i64 b]) (by simp[prep,frzVs,frzV,lim];rfl) c1 ?_;simp;refine zq c2 ?_;simp[V.isCell];refine WL_ev (g:=qhr) (caps:=[]) (args:=[Fx.v ⟨false,2^b/n⟩,.fn qfc [.ptr H.length 0 0]]) (vs:=[Fx.v ⟨false,2^b/n⟩,.fn qfc [.ptr H.length 0 0]]) (v:=(invI n b).v) ?_ ?_ ?_ ?_ ?_
 ·rfl
 ·rfl
 ·rfl
 ·exact qaok _ _ (fun a ha=>qakn (by simp) hn hn2 a (sb.mono (Nat.le_trans ha (Nat.div_le_self _ _)))) (fun a _=>qaek hn) hbl
 simp[lim]
theorem qac0 {n b:Nat}(hn:2<=n):(invI n b).n<=2*(2^b/n):=by
 have:=qaev (fun a=>a.by' (n*n)) (fun a=>qaek hn) ((2^b/n)+1) 1 ⟨false,2^b/n⟩ ⟨false,2^b/n⟩;unfold invI altI;simp only[]at this ⊢;omega
def piI (b:Nat):Fx:=Fx.add ⟨false,(invI 5 b).n*2^4⟩ ⟨true,(invI 239 b).n*2^2⟩
theorem pi_cq (b:Nat)(hb:b<=7000):CQ prog q5x [.int .i64 b] (piI b).v:=by
 refine qaf rfl fun H=>?_
 have c1:=qso 5 b (by omega) (by omega) hb;have c2:=qso 239 b (by omega) (by omega) hb;have l1:=qac0 (n:=5) (b:=b) (by omega);have l2:=qac0 (n:=239) (b:=b) (by omega);have d1:=Nat.div_le_self (2^b) 5;have d2:=Nat.div_le_self (2^b) 239;have eb:=q8s (n:=1) (s:=b+7);have e1:bitL 1=1:=rfl;rw[Nat.one_mul]at eb;have e7:2^(b+7)=128*2^b:=by rw[Nat.pow_add,Nat.mul_comm]
 have sb:Sm (128*2^b):=by rw[<-e7];unfold Sm;omega
 have e4:(2:Nat)^4=16:=rfl;have e2:(2:Nat)^2=4:=rfl;have e0:piI b=Fx.add ⟨false,(invI 5 b).n*2^4⟩ ⟨true,(invI 239 b).n*2^2⟩:=rfl;generalize invI 5 b=X at *
 generalize invI 239 b=Y at *
 generalize 2^b=B at *
 have c3:=qfe X.n 4 (sb.mono (by omega)) (sb.mono (by omega)) (by omega);have c4:=qfe Y.n 2 (sb.mono (by omega)) (sb.mono (by omega)) (by omega);have c5:=qea ⟨false,X.n*2^4⟩ ⟨true,Y.n*2^2⟩ (sb.mono (by simp only[];omega)) (sb.mono (by simp only[];omega)) (sb.mono (by simp only[];omega));rw[e0];simp;refine zq c1 ?_;simp;refine zq c2 ?_;simp;refine zq c3 ?_;simp;refine zq c4 ?_;simp;refine zq c5 ?_;simp[lim]
def eps24 : Fx:=⟨false,2^24⟩
def nearL (a:Fx)(b:Nat):Dy:=Dy.of (a.add eps24.minus).neg (a.add eps24.minus).n (-(b:Int))
def nearH (a:Fx)(b:Nat):Dy:=Dy.of (a.add eps24).neg (a.add eps24).n (-(b:Int))
def Iv.near (a:Fx)(b:Nat)(p:Int):Iv:=
 if((nearL a b).inR&&(nearH a b).inR)=true then Iv.made (qbz (nearL a b) p false) (qbz (nearH a b) p true)else Iv.whole
set_option maxHeartbeats 1000000 in
theorem qaj6 (a:Fx)(b:Nat)(p:Int)(ha:bitL a.n<=8000)(hb:b<=8000):CQ prog q08 [a.v,.int .i64 b,.int .i64 p] (Iv.near a b p).v:=by
 refine qaf rfl fun H=>?_
 have s1:Sm 1:=Sm.small (by omega);have e24:(2:Nat)^24=16777216:=rfl;have s24:Sm (2^24):=Sm.small (by omega)
 have b24:bitL (2^24)<=8000:=by have:bitL (2^24)=25:=by decide
                                omega
 have sa:Sm a.n:=Nat.le_trans ha (by omega);have ss:Sm (a.n+2^24):=Nat.le_trans (qnc ha b24) (by omega);have c1:=qfe 1 24 s1 (by rw[Nat.one_mul];exact s24) (by omega);have e2:qae 1=[1]:=by decide
 rw[e2,Nat.one_mul]at c1;have c2:=qig eps24;have c3:=qea a eps24.minus sa s24 ss;have c4:=qea a eps24 sa s24 ss;have l3:=qev a eps24.minus;have l4:=qev a eps24;have⟨lo,hlo⟩:∃x,x=a.add eps24.minus:=⟨_,rfl⟩
 have⟨hi,hhi⟩:∃x,x=a.add eps24:=⟨_,rfl⟩
 rw[<-hlo]at c3 l3;rw[<-hhi]at c4 l4;have slo:Sm lo.n:=ss.mono l3;have shi:Sm hi.n:=ss.mono l4;have c5:=q1v lo.neg (qae lo.n) (-(b:Int)) slo.len (qag _) (by omega) (by omega);have c6:=q1v hi.neg (qae hi.n) (-(b:Int)) shi.len (qag _) (by omega) (by omega);rw[qac]at c5 c6;have e5:nearL a b=Dy.of lo.neg lo.n (-(b:Int)):=by rw[hlo];rfl
 have e6:nearH a b=Dy.of hi.neg hi.n (-(b:Int)):=by rw[hhi];rfl
 have w5:(nearL a b).W:=by rw[e5];exact Dy.of_W (by have:=slo.len;omega)
 have w6:(nearH a b).W:=by rw[e6];exact Dy.of_W (by have:=shi.len;omega)
 rw[<-e5]at c5;rw[<-e6]at c6;have eb:IntKind.i64.wrap (-(b:Int))=-(b:Int):=by rw[wrap_i64]<;>omega
 have ev:Fx.v eps24=.agg [.bool false,lim (qae (2^24))]:=rfl;unfold Iv.near;generalize nearL a b=x at *
 generalize nearH a b=y at *
 simp;refine qam rfl rfl (H1:=_) (vs:=[lim [1],.int .i64 (24:Nat)]) (by simp[prep,frzVs,frzV,lim];rfl) c1 ?_;simp[<-ev];refine zq c2 ?_;simp;refine zq c3 ?_;simp;refine zq c4 ?_;simp[eb];refine zq c5 ?_;simp[eb];refine zq c6 ?_;by_cases hx:x.inR=true
 ·by_cases hy:y.inR=true
  ·have ex:x.chk=x:=by unfold Dy.chk;rw[if_pos hx]
   have ey:y.chk=y:=by unfold Dy.chk;rw[if_pos hy]
   have exE:x.chkE=0:=by unfold Dy.chkE;rw[if_pos hx]
   have eyE:y.chkE=0:=by unfold Dy.chkE;rw[if_pos hy]
   have c7:=q6t x p w5;have c8:=Up_cq y p w6;generalize qbz x p false=r at *
   generalize qbz y p true=s at *
   simp[hx,hy,ex,ey,exE,eyE];refine zq c7 ?_;simp;refine zq c8 ?_;by_cases hr:r.2=0
   ·by_cases hs:s.2=0
    ·simp[hr,hs,Iv.made,lim]
    ·simp[hr,hs];refine zq qak ?_;simp[Iv.made,hs,lim]
   ·simp[hr];refine zq qak ?_;simp[Iv.made,hr,lim]
  ·have exE:x.chkE=0:=by unfold Dy.chkE;rw[if_pos hx]
   have eyE:y.chkE=9:=by unfold Dy.chkE;rw[if_neg hy]
   simp[hy,exE,eyE];refine zq qak ?_;simp[lim]
 ·have exE:x.chkE=9:=by unfold Dy.chkE;rw[if_neg hx]
  simp[hx,exE];refine zq qak ?_;simp[lim]
def qwb (a c:Fx):Fx:=if a.neg=true/\a.n%c.n≠0 then(Fx.mk a.neg (a.n/c.n)).add ⟨true,1⟩else⟨a.neg,a.n/c.n⟩
theorem q9y : CQ prog qkb [.int .i64 (-1)] (Fx.v ⟨true,1⟩):=by
 refine qaf rfl fun H=>?_
 have c:=qng (-1) (by omega) (by omega);have e:(Dy.of (decide ((-1:Int)<0)) (-1:Int).natAbs 0)=⟨true,qae 1,0⟩:=by decide
 rw[e]at c;have cl:=qfe 1 0 (Sm.small (by omega)) (Sm.small (by omega)) (by omega);have e1:1*2^0=1:=rfl;rw[e1]at cl;simp;refine zq c ?_;simp[lim];refine zq cl ?_;simp[lim]
theorem qahc (a c:Fx)(ha:bitL a.n<=8000)(hc:Sm c.n)(h0:0<c.n):CQ prog qx6 [a.v,c.v] (qwb a c).v:=by
 refine qaf rfl fun H=>?_
 have sa:Sm a.n:=Nat.le_trans ha (by omega);have c1:=qpd (qae a.n) (qae c.n) sa.len hc.len (qag _) (qag _) (by rw[qac];exact h0);rw[qac,qac]at c1;have sr:Sm (a.n%c.n):=hc.mono (Nat.le_of_lt (Nat.mod_lt _ h0));have lr:=sr.len;have c2:=qnh (qae (a.n%c.n)) (by omega) (qag _);rw[qac]at c2;simp only[i64]at c2;have dle:=Nat.div_le_self a.n c.n;have b1:bitL (Fx.mk true 1).n<=8000:=Nat.le_trans (Nat.le_of_eq (show bitL 1=1 from rfl)) (by omega);have c3:=qea ⟨a.neg,a.n/c.n⟩ ⟨true,1⟩ (sa.mono dle) (Sm.small (by simp only[];omega)) (Nat.le_trans (qnc (k:=8000) (Nat.le_trans (qat dle) ha) b1) (by omega));unfold qwb;generalize a.n/c.n=q at *
 generalize a.n%c.n=r at *
 simp;refine zq c1 ?_;by_cases hn:a.neg=true
 ·by_cases hr:r=0
  ·simp[hn];refine zq c2 ?_;simp[hr,qbl,lim]
  ·have hb:bitL r≠0:=fun h=>hr (bitL_eq0.1 h)
   have hb':0<bitL r:=by omega
   simp[hn];refine zq c2 ?_;simp[hb'];refine zq q9y ?_;simp;rw[hn]at c3;refine zq c3 ?_;simp[hr,lim]
 ·simp[hn,lim]
def serG (x:Fx)(b:Nat):Nat->Nat->Fx->Fx->Fx->Fx × Fx
 |0,_,_,s,c=>(s,c)
 |f+1,k,t,s,c=>
  if((t.times x b).by' k).n=0 then(s,c)else
  if k%2=1 then serG x b f (k+1) ((t.times x b).by' k) (s.add (if 2<=k%4 then((t.times x b).by' k).minus else(t.times x b).by' k)) c
  else serG x b f (k+1) ((t.times x b).by' k) s (c.add (if 2<=k%4 then((t.times x b).by' k).minus else(t.times x b).by' k))
def serI (x:Fx)(b:Nat):Fx × Fx:=serG x b (b+8) 1 ⟨false,2^b⟩ ⟨false,0⟩ ⟨false,2^b⟩
theorem q66 {t x k b:Nat}(_hk:0<k)(hx:x<=2^(b+1)):t*x/2^b/k*k<=2*t:=by
 refine Nat.le_trans (Nat.div_mul_le_self _ _) ?_;have p:0<2^b:=Nat.pow_pos (by omega);refine(Nat.div_le_iff_le_mul_add_pred p).2 ?_;have h1:t*x<=t*2^(b+1):=Nat.mul_le_mul_left _ hx;have h2:t*2^(b+1)=2^b*(2*t):=by rw[Nat.pow_succ,Nat.mul_comm t,Nat.mul_assoc]
 omega
theorem qlr (k:Nat):bitL (2^k)=k+1:=by
 have h:=qls (n:=1) (s:=k) (by omega);have e1:bitL 1=1:=rfl;rw[Nat.one_mul]at h;omega
theorem qaay (a c:Fx)(b k:Nat):((a.times c b).by' k).n=a.n*c.n/2^b/k:=rfl
set_option maxHeartbeats 1000000 in
theorem qabl (x:Fx)(b:Nat)(hx:x.n<=2^(b+1))(hb:b<=3000):CQ prog qv4 [x.v,.int .i64 b] (.tup [(serI x b).1.v,(serI x b).2.v]):=by
 refine qaf rfl fun H=>?_
 have p62:(2:Nat)^62=4611686018427387904:=rfl;have s1:Sm 1:=Sm.small (by omega);have eb:=qlr b;have eb1:=qlr (b+1);have eB:2^(b+1)=2*2^b:=by rw[Nat.pow_succ,Nat.mul_comm]
 have sb:Sm (2^b):=by unfold Sm;omega
 have c1:=qfe 1 b s1 (by rw[Nat.one_mul];exact sb) (by omega);rw[Nat.one_mul]at c1;have e2:qae 1=[1]:=by decide
 rw[e2]at c1;have sx:bitL x.n<=b+2:=Nat.le_trans (qat hx) (by omega);have se:serI x b=serG x b (b+8) 1 ⟨false,2^b⟩ ⟨false,0⟩ ⟨false,2^b⟩:=rfl;have hstep:∀t k:Nat,0<k->t*x.n/2^b/k*k<=2*t:=fun t k hk=>q66 hk hx
 have sO:bitL (2*2^b)<=b+2:=by rw[<-eB];omega
 have sbig:∀n,n<=8000*(2*2^b)->bitL n<=6000:=by
  intro n hn;have h1:=qh1 (a:=8000) (b:=2*2^b);have h2:bitL 8000=13:=by decide
  have h3:=qat hn;omega
 simp;refine qam rfl rfl (H1:=_) (vs:=[lim [1],.int .i64 b]) (by simp[prep,frzVs,frzV,lim];rfl) c1 ?_;simp;refine qc5 (fun f E H'=>∃(k:Nat) (t s c:Fx) (sv:V),(∃G,H'=H++some ⟨2,[x.v],false,true⟩ :: some ⟨2,[sv],false,true⟩ :: some ⟨2,[c.v],false,true⟩ :: some ⟨1,[.int .u32 1],true,false⟩ :: some ⟨2,[Fx.v ⟨false,2^b⟩],false,true⟩ :: some ⟨2,[t.v],false,true⟩ :: G) /\
  (sv=s.v\/sv=.agg [.bool false,.nil]/\s=⟨false,0⟩) /\
  E 1=.int .i64 b/\E 2=.ptr H.length 0 0/\E 4=.ptr (H.length+1) 0 0/\E 5=.ptr (H.length+2) 0 0/\E 7=.ptr (H.length+5) 0 0/\E 8=.int .i64 k/\0<k/\f+k=b+9/\t.n<=2*2^b/\(k=1->t.n<=2^b)/\(4<=k->bitL t.n+k<=b+6)/\s.n<=k*(2*2^b)/\c.n<=k*(2*2^b)/\serG x b f k t s c=serI x b) (b+8) ?_ ?_
 ·exact⟨1,⟨false,2^b⟩,⟨false,0⟩,⟨false,2^b⟩,.agg [.bool false,.nil],⟨[],by simp[lim]⟩,.inr ⟨rfl,rfl⟩,by simp,by simp,by simp,by simp,by simp,by simp,by omega,by omega,by simp only[];omega,by simp only[];omega,by omega,by simp only[];omega,by simp only[];omega,rfl⟩
 ·rintro f E H' ⟨k,t,s,c,sv,⟨G,rfl⟩,hsv,h1,h2,h4,h5,h7,h8,hk0,hf,ht,hk1,hk4,hs,hc,hg⟩;have hkb:k<=b+6:=by
   by_cases h:4<=k
   ·have:=hk4 h;omega
   ·omega
  obtain⟨f,rfl⟩:∃j,f=j+1:=⟨f-1,by omega⟩
  have hq:=hstep t.n k hk0;rw[<-qaay t x b k]at hq;have c2:=q3n t x b (Nat.le_trans (qat ht) (by omega)) (Nat.le_trans sx (by omega)) (Nat.le_trans qh1 (by have:=qat ht;omega)) (by omega);have sT:Sm (t.times x b).n:=by
   have h3:=hstep t.n 1 (by omega);rw[Nat.div_one,Nat.mul_one]at h3;exact Nat.le_trans (qat (show(t.times x b).n<=8000*(2*2^b) from Nat.le_trans h3 (by omega))) (Nat.le_trans (sbig _ (Nat.le_refl _)) (by omega))
  have c3:=q8b (t.times x b) k sT (by omega) hk0;have hg2:serG x b (f+1) k t s c=if((t.times x b).by' k).n=0 then(s,c)else
   if k%2=1 then serG x b f (k+1) ((t.times x b).by' k) (s.add (if 2<=k%4 then((t.times x b).by' k).minus else(t.times x b).by' k)) c
   else serG x b f (k+1) ((t.times x b).by' k) s (c.add (if 2<=k%4 then((t.times x b).by' k).minus else(t.times x b).by' k)):=rfl
  generalize t.times x b=T at *
  generalize T.by' k=q at *
  have hq1:q.n<=2*t.n:=by
   have:=Nat.le_mul_of_pos_right q.n hk0;omega
  have hq2:q.n<=2*2^b:=by
   rcases Nat.lt_or_ge k 2 with h|h
   ·have h3:=hk1 (by omega);omega
   ·have h3:q.n*2<=q.n*k:=Nat.mul_le_mul_left _ h;omega
  have sq:Sm q.n:=Nat.le_trans (qat hq2) (by omega);have c4:=q1c q sq;have c5:=qig q;have hnk:(k+1)*(2*2^b)=k*(2*2^b)+2*2^b:=by rw[Nat.add_mul,Nat.one_mul]
  have hkB:(k+1)*(2*2^b)<=8000*(2*2^b):=Nat.mul_le_mul_right _ (by omega);have ss:Sm s.n:=Nat.le_trans (sbig _ (by omega)) (by omega);have sc:Sm c.n:=Nat.le_trans (sbig _ (by omega)) (by omega);have c6:=qea s q ss sq (Nat.le_trans (sbig _ (by omega)) (by omega));have c7:=qea s q.minus ss sq (Nat.le_trans (sbig _ (show s.n+q.n<=_ by omega)) (by omega));have c8:=qea c q sc sq (Nat.le_trans (sbig _ (by omega)) (by omega));have c9:=qea c q.minus sc sq (Nat.le_trans (sbig _ (show c.n+q.n<=_ by omega)) (by omega));have l6:=qev s q;have l7:(s.add q.minus).n<=s.n+q.n:=qev s q.minus;have l8:=qev c q;have l9:(c.add q.minus).n<=c.n+q.n:=qev c q.minus;have e4:(k:Int).tmod 4=((k%4:Nat):Int):=by rw[Int.tmod_eq_emod_of_nonneg (by omega)];omega
  have e3:(k:Int).tmod 2=((k%2:Nat):Int):=by rw[Int.tmod_eq_emod_of_nonneg (by omega)];omega
  have e5:IntKind.i64.wrap ((k%4:Nat):Int)=((k%4:Nat):Int):=by rw[wrap_i64]<;>omega
  have e6:IntKind.i64.wrap ((k%2:Nat):Int)=((k%2:Nat):Int):=by rw[wrap_i64]<;>omega
  have e7:IntKind.i64.wrap ((k:Int)+1)=((k+1:Nat):Int):=by rw[wrap_i64]<;>omega
  have hn1:∀h:q.n≠0,(4<=k+1->bitL q.n+(k+1)<=b+6):=by
   intro h h4;rcases Nat.lt_or_ge k 4 with h5|h5
   ·have:=qat hq2;omega
   ·have h3:q.n*4<=q.n*k:=Nat.mul_le_mul_left _ h5;have h6:=qzn (a:=q.n) (b:=t.n) (by omega) h;have:=hk4 h5;omega
  refine qas ?_;simp[qj2,h1,h2,h7];refine zq c2 ?_;simp[h8];refine zq c3 ?_;simp[h7];refine zq c4 ?_;by_cases hz:q.n=0
  ·rw[hg2,if_pos hz]at hg;rcases hsv with rfl|⟨rfl,rfl⟩
   ·simp[hz,h4,h5,<-hg,V.lowB,apart,lim]
   ·simp[hz,h4,h5,<-hg,V.lowB,apart,qa4,lim]
  ·rw[hg2,if_neg hz]at hg;have hn2:=hn1 hz;by_cases h2k:2<=k%4
   ·have h2i:(2:Int)<=(k:Int)%4:=by omega
    simp[hz,h7,h8,e4,h2i];refine zq c5 ?_;rw[if_pos h2k]at hg;by_cases hodd:k%2=1
    ·rw[if_pos hodd]at hg;rcases hsv with rfl|⟨rfl,rfl⟩
     ·simp[h4,h8,e3,hodd];refine zq c7 ?_;simp[h1,h2,h4,h5,h7,h8];exact⟨f,by omega,k+1,q,(s.add q.minus),c,(s.add q.minus).v,by simp,.inl rfl,by simpa using e7,by omega,by omega,by omega,by omega,by omega,by omega,by omega,hg⟩
     ·simp[h4,h8,e3,hodd];refine zq c7 ?_;simp[h1,h2,h4,h5,h7,h8];exact⟨f,by omega,k+1,q,(Fx.add ⟨false,0⟩ q.minus),c,(Fx.add ⟨false,0⟩ q.minus).v,by simp,.inl rfl,by simpa using e7,by omega,by omega,by omega,by omega,by omega,by omega,by omega,hg⟩
    ·have hodd':k%2=0:=by omega
     rw[if_neg hodd]at hg;rcases hsv with rfl|⟨rfl,rfl⟩
     ·simp[h5,h8,e3,hodd'];refine zq c9 ?_;simp[h1,h2,h4,h5,h7,h8];exact⟨f,by omega,k+1,q,s,c.add q.minus,s.v,by simp,.inl rfl,by simpa using e7,by omega,by omega,by omega,by omega,by omega,by omega,by omega,hg⟩
     ·simp[h5,h8,e3,hodd'];refine zq c9 ?_;simp[h1,h2,h4,h5,h7,h8];exact⟨f,by omega,k+1,q,⟨false,0⟩,c.add q.minus,.agg [.bool false,.nil],by simp,.inr ⟨rfl,rfl⟩,by simpa using e7,by omega,by omega,by omega,by omega,by omega,by omega,by omega,hg⟩
   ·have h2i:¬(2:Int)<=(k:Int)%4:=by omega
    simp[hz,h4,h5,h7,h8,e4,h2i];rw[if_neg h2k]at hg;by_cases hodd:k%2=1
    ·rw[if_pos hodd]at hg;rcases hsv with rfl|⟨rfl,rfl⟩
     ·simp[e3,hodd];refine zq c6 ?_;simp[h1,h2,h4,h5,h7,h8];exact⟨f,by omega,k+1,q,(s.add q),c,(s.add q).v,by simp,.inl rfl,by simpa using e7,by omega,by omega,by omega,by omega,by omega,by omega,by omega,hg⟩
     ·simp[e3,hodd];refine zq c6 ?_;simp[h1,h2,h4,h5,h7,h8];exact⟨f,by omega,k+1,q,(Fx.add ⟨false,0⟩ q),c,(Fx.add ⟨false,0⟩ q).v,by simp,.inl rfl,by simpa using e7,by omega,by omega,by omega,by omega,by omega,by omega,by omega,hg⟩
    ·have hodd':k%2=0:=by omega
     rw[if_neg hodd]at hg;rcases hsv with rfl|⟨rfl,rfl⟩
     ·simp[e3,hodd'];refine zq c8 ?_;simp[h1,h2,h4,h5,h7,h8];exact⟨f,by omega,k+1,q,s,c.add q,s.v,by simp,.inl rfl,by simpa using e7,by omega,by omega,by omega,by omega,by omega,by omega,by omega,hg⟩
     ·simp[e3,hodd'];refine zq c8 ?_;simp[h1,h2,h4,h5,h7,h8];exact⟨f,by omega,k+1,q,⟨false,0⟩,c.add q,.agg [.bool false,.nil],by simp,.inr ⟨rfl,rfl⟩,by simpa using e7,by omega,by omega,by omega,by omega,by omega,by omega,by omega,hg⟩
end Go.Abs.W
