/- Parts of the proof: FpCj, FpCl. -/
import Derived.Test.YtpdchdfajhbglaaGreatDoorCb
import Derived.Test.YtpdchdfajhbglaaGreatDoorHy
namespace Go.Abs.W
def fone (b:Nat):Fx:=⟨false,2^b⟩
def halS (x:Fx)(b:Nat):Fx:=(fone b).add (x.times x b)
def halR (x:Fx)(b:Nat):Nat:=isq ((halS x b).n*2^b)
def halD (x:Fx)(b:Nat):Fx:=(fone b).add ⟨false,halR x b⟩
def halve (x:Fx)(b:Nat):Fx:=x.over (halD x b) b
def halv (x:Fx)(b:Nat):Nat->Fx
 |0=>x
 |j+1=>halve (halv x b j) b
def arcQ (x:Fx)(b:Nat):Fx:=(halv x b 3).times (halv x b 3) b
def arcA (x:Fx)(b:Nat):Fx:=altI (fun a=>a.times (arcQ x b) b) (halv x b 3)
def arcI (x:Fx)(b:Nat):Fx:=⟨false,(arcA x b).n*2^3⟩
theorem q1f (x:Fx)(b:Nat):(x.times x b).neg=false:=by
 show(x.neg != x.neg)=false;cases x.neg<;>rfl
theorem qaab (x:Fx)(b:Nat):halS x b=⟨false,2^b+x.n*x.n/2^b⟩:=by
 show Fx.add ⟨false,2^b⟩ (x.times x b)=_;unfold Fx.add;rw[q1f];rfl
theorem qaac (x:Fx)(b:Nat):halD x b=⟨false,2^b+halR x b⟩:=rfl
theorem q3o {x B:Nat}(hB:0<B)(h:x<=B):x*x/B<=x:=by
 refine(Nat.div_le_iff_le_mul_add_pred hB).2 ?_;have:=Nat.mul_le_mul_right x h;omega
theorem q40 {x:Fx}{b:Nat}(h:x.n<=2^b):2^b<=(halS x b).n/\(halS x b).n<=2*2^b:=by
 rw[qaab];have:=q3o (Nat.pow_pos (by omega):0<2^b) h;generalize x.n*x.n/2^b=z at *
 simp only[];omega
theorem qw2 {x:Fx}{b:Nat}(h:x.n<=2^b):2^b<=halR x b/\halR x b<=2*2^b:=by
 obtain⟨h1,h2⟩:=q40 h;refine⟨qzn (Nat.mul_le_mul_right _ h1),?_⟩;have h3:=(qcq ((halS x b).n*2^b)).1;have e:halR x b=isq ((halS x b).n*2^b):=rfl;rw[<-e]at h3;rcases Nat.lt_or_ge (2*2^b) (halR x b)with h4|h4
 ·have h5:(2*2^b+1)*(2*2^b)<=halR x b*halR x b:=Nat.mul_le_mul h4 (by omega);have h6:(halS x b).n*2^b<=(2*2^b)*(2*2^b):=Nat.mul_le_mul h2 (by omega);have h7:0<2^b:=Nat.pow_pos (by omega);rw[Nat.add_mul,Nat.one_mul]at h5;omega
 ·exact h4
theorem qad9 {x:Fx}{b:Nat}(h:x.n<=2^b):2*(halve x b).n<=x.n:=by
 obtain⟨h1,_⟩:=qw2 h;show 2*(x.n*2^b/(halD x b).n)<=x.n;rw[qaac];simp only[];have h2:2*2^b<=2^b+halR x b:=by omega
 generalize 2^b+halR x b=D at *
 have p:0<2^b:=Nat.pow_pos (by omega);have h3:=Nat.div_mul_le_self (x.n*2^b) D;have h4:x.n*2^b/D*(2*2^b)<=x.n*2^b/D*D:=Nat.mul_le_mul_left _ h2;generalize x.n*2^b/D=q at *
 have h5:(2*q)*2^b<=x.n*2^b:=by
  rw[show 2*q*2^b=q*(2*2^b) by rw[Nat.mul_comm 2 q,Nat.mul_assoc]];omega
 exact Nat.le_of_mul_le_mul_right h5 p
theorem qaaa {x:Fx}{b:Nat}(h:x.neg=false):(halve x b).neg=false:=by
 show(x.neg != (halD x b).neg)=false;rw[h,qaac];rfl
theorem qkm {x:Fx}{b:Nat}(h:x.n<=2^b):∀j,(halv x b j).n<=2^b/\2^j*(halv x b j).n<=2^b
 |0=>⟨h,by show 2^0*x.n<=_;omega⟩
 |j+1=>by
  obtain⟨h1,h2⟩:=qkm h j;have h3:=qad9 h1;show(halve (halv x b j) b).n<=_/\2^(j+1)*(halve (halv x b j) b).n<=_;refine⟨by omega,?_⟩;rw[Nat.pow_succ,Nat.mul_assoc];exact Nat.le_trans (Nat.mul_le_mul_left _ h3) h2
theorem qabt {x:Fx}{b:Nat}(h:x.n<=2^b):64*(arcQ x b).n<=2^b:=by
 obtain⟨h1,h2⟩:=qkm h 3;have e8:(2:Nat)^3=8:=rfl;rw[e8]at h2;show 64*((halv x b 3).n*(halv x b 3).n/2^b)<=_;generalize (halv x b 3).n=y at *
 have p:0<2^b:=Nat.pow_pos (by omega);have h3:=Nat.div_mul_le_self (y*y) (2^b);generalize y*y/2^b=q at *
 have h4:(8*y)*(8*y)<=2^b*2^b:=Nat.mul_le_mul h2 h2;have h5:(64*q)*2^b<=2^b*2^b:=by
  have h6:(8*y)*(8*y)=64*(y*y):=by rw[Nat.mul_mul_mul_comm]
  have h7:64*q*2^b=64*(q*2^b):=Nat.mul_assoc _ _ _;omega
 exact Nat.le_of_mul_le_mul_right h5 p
theorem qr9 {x a:Fx}{b:Nat}(h:x.n<=2^b):(a.times (arcQ x b) b).n*64<=a.n:=by
 have h1:=qabt h;show a.n*(arcQ x b).n/2^b*64<=a.n;generalize (arcQ x b).n=q at *
 have p:0<2^b:=Nat.pow_pos (by omega);have h3:=Nat.div_mul_le_self (a.n*q) (2^b);generalize a.n*q/2^b=r at *
 have h4:a.n*(64*q)<=a.n*2^b:=Nat.mul_le_mul_left _ h1;have h5:(r*64)*2^b<=a.n*2^b:=by
  have h6:r*64*2^b=64*(r*2^b):=by rw[Nat.mul_comm r 64,Nat.mul_assoc]
  have h7:a.n*(64*q)=64*(a.n*q):=Nat.mul_left_comm _ _ _;omega
 exact Nat.le_of_mul_le_mul_right h5 p
theorem qait {H:Heap}{u v:Nat}{b:Nat}{q:Fx}(hu:H[u]?=some (some ⟨2,[q.v],false,true⟩))(hv:H[v]?=some (some ⟨1,[.int .i64 b],false,true⟩))(hq:Sm q.n)(hb:b<=3000)(a:Fx)(ha:Sm a.n)(hs:Sm (a.n*q.n)):Cb H qi1 [.ptr u 0 0,.ptr v 0 0] [a.v] (a.times q b).v:=by
 intro H' hH;have hu':H'[u]?=some (some ⟨2,[q.v],false,true⟩):=by
  obtain⟨G,rfl⟩:=hH;rw[List.getElem?_append_left (List.getElem?_eq_some_iff.1 hu).1];exact hu
 have hv':H'[v]?=some (some ⟨1,[.int .i64 b],false,true⟩):=by
  obtain⟨G,rfl⟩:=hH;rw[List.getElem?_append_left (List.getElem?_eq_some_iff.1 hv).1];exact hv
 have hul:u<H'.length:=(List.getElem?_eq_some_iff.1 hu').1;have hue:H'[u]'hul=some ⟨2,[q.v],false,true⟩:=(List.getElem?_eq_some_iff.1 hu').2;have hvl:v<H'.length:=(List.getElem?_eq_some_iff.1 hv').1;have hve:H'[v]'hvl=some ⟨1,[.int .i64 b],false,true⟩:=(List.getElem?_eq_some_iff.1 hv').2;refine⟨rfl,qqi rfl ?_⟩;have c:=ql2 a q b ha hq hs (by omega);simp[hue,hul,hve,hvl,List.getElem?_append_left];refine zq c ?_;simp[lim]
set_option maxHeartbeats 1000000 in
theorem qaf8 (x:Fx)(b:Nat)(hx:x.n<=2^b)(hb:b<=3000):CQ prog qz0 [x.v,.int .i64 b] (arcI x b).v:=by
 refine qag rfl fun H=>?_
 have eb:=qbb b;have sb:Sm (2^b):=by unfold Sm;omega
 have c1:=qb8 1 b (Sm.small (by omega)) (by rw[Nat.one_mul];exact sb) (by omega);rw[Nat.one_mul,show qae 1=[1] by decide]at c1;have big:∀n,n<=8*2^b->bitL n<=b+5:=by
  intro n hn;have h1:=qbj (a:=8) (b:=2^b);have h2:bitL 8=4:=by decide
  have h3:=qao hn;omega
 have prod:∀m n,m<=8*2^b->n<=8*2^b->Sm (m*n):=by
  intro m n hm hn;have h1:=qbj (a:=m) (b:=n);have h2:=big m hm;have h3:=big n hn;unfold Sm;omega
 have sm:∀n,n<=8*2^b->Sm n:=fun n hn=>Nat.le_trans (big n hn) (by omega)
 have hB:=qkm hx;simp;refine qaq rfl rfl (H1:=_) (vs:=[lim [1],.int .i64 b]) (by simp[prep,frzVs,frzV,lim];rfl) c1 ?_;simp;refine qem (fun f E H'=>∃j:Nat,j+f=3/\(∃G,H'=H++some ⟨2,[(halv x b j).v],false,true⟩ :: some ⟨1,[.int .i64 b],false,true⟩ :: some ⟨2,[.agg [.bool false,.nil]],false,true⟩ :: some ⟨1,[.int .u32 1],true,false⟩ :: some ⟨2,[(fone b).v],false,true⟩ :: G) /\
  E 2=.ptr H.length 0 0/\E 3=.ptr (H.length+1) 0 0/\E 4=.ptr (H.length+2) 0 0/\E 5=.ptr (H.length+4) 0 0/\E 15=.int .i64 j) 3 ?_ ?_
 ·exact⟨0,by omega,⟨[],by simp[fone,halv,lim]⟩,by simp,by simp,by simp,by simp,by simp⟩
 ·rintro f E H' ⟨j,hj,⟨G,rfl⟩,h2,h3,h4,h5,h15⟩;obtain⟨hy,_⟩:=hB j;have eS:halv x b (j+1)=halve (halv x b j) b:=rfl;by_cases hlt:j<3
  ·refine qaw ?_;have hlt':(j:Int)<3:=by omega
   generalize halv x b j=y at *
   have c2:=ql2 y y b (sm _ (by omega)) (sm _ (by omega)) (prod _ _ (by omega) (by omega)) (by omega);have sB:=q40 hy;have rB:=qw2 hy;have qle:(y.times y b).n<=y.n:=q3o (Nat.pow_pos (by omega)) hy;have c3:=qcr (fone b) (y.times y b) (show Sm (2^b) from sb) (sm _ (by omega)) (sm _ (show 2^b+(y.times y b).n<=_ by omega));have e3:(fone b).add (y.times y b)=halS y b:=rfl;rw[e3]at c3;have c4:=qb8 (halS y b).n b (sm _ (by omega)) (prod _ _ (by omega) (by omega)) (by omega);have c5:=q5v (qae ((halS y b).n*2^b)) (prod _ _ (by omega) (by omega)).len (qaf _);rw[qad]at c5;have e5:isq ((halS y b).n*2^b)=halR y b:=rfl;rw[e5]at c5;have c6:=qcr (fone b) ⟨false,halR y b⟩ (show Sm (2^b) from sb) (sm _ (by simp only[];omega)) (sm _ (show 2^b+halR y b<=_ by omega));have e6:(fone b).add ⟨false,halR y b⟩=halD y b:=rfl;rw[e6]at c6;have nD:(halD y b).n=2^b+halR y b:=rfl;have c7:=qaec y (halD y b) b (sm _ (by omega)) (sm _ (by omega)) (prod _ _ (by omega) (by omega)) (by omega) (by have:=Nat.pow_pos (n:=b) (show 0<2 by omega);omega)
   have e7:y.over (halD y b) b=halve y b:=rfl;rw[e7]at c7;have e8:IntKind.i64.wrap ((j:Int)+1)=((j+1:Nat):Int):=by rw[wrap_i64]<;>omega
   generalize halD y b=D at *
   generalize halR y b=R at *
   generalize halS y b=S at *
   generalize y.times y b=T at *
   generalize fone b=O at *
   rw[<-eS]at c7;simp[qic,h2,h3,h5,h15,hlt'];refine zq c2 ?_;simp;refine zq c3 ?_;simp[h3];refine zq c4 ?_;simp;refine zq c5 ?_;simp[h2,h5];refine zq c6 ?_;simp[h3];refine zq c7 ?_;simp[h2,h3,h4,h5,h15];exact⟨f-1,by omega,j+1,by omega,by simpa using e8⟩
  ·have hj3:j=3:=by omega
   subst hj3;obtain⟨_,h8⟩:=hB 3;have e8:(2:Nat)^3=8:=rfl;rw[e8]at h8;have q64:=qabt hx;have nl:=fun a:Fx=>qr9 (a:=a) hx
   have eQ:arcQ x b=(halv x b 3).times (halv x b 3) b:=rfl;have eA:arcA x b=altI (fun a=>a.times (arcQ x b) b) (halv x b 3):=rfl;have eI:arcI x b=⟨false,(arcA x b).n*2^3⟩:=rfl;have c2:=ql2 (halv x b 3) (halv x b 3) b (sm _ (by omega)) (sm _ (by omega)) (prod _ _ (by omega) (by omega)) (by omega);rw[<-eQ]at c2;have aB:=qx5 (fun a=>a.times (arcQ x b) b) (fun a=>by have:=nl a;omega) ((halv x b 3).n+1) 1 (halv x b 3) (halv x b 3);have eA2:altG (fun a=>a.times (arcQ x b) b) ((halv x b 3).n+1) 1 (halv x b 3) (halv x b 3)=arcA x b:=rfl;rw[eA2]at aB;have c3:=qb8 (arcA x b).n 3 (sm _ (by omega)) (sm _ (by omega)) (by omega);rw[eI];generalize arcQ x b=q at *
   generalize halv x b 3=y at *
   refine qaw ?_;simp[qic,h2,h3,h15];refine zq c2 ?_;simp[h2,h3];simp[V.isCell];refine WL_ev (g:=qdy) (caps:=[]) (args:=[y.v,.fn qi1 [.ptr (H.length+(G.length+1+1+1+1+1)) 0 0,.ptr (H.length+1) 0 0]]) (vs:=[y.v,.fn qi1 [.ptr (H.length+(G.length+1+1+1+1+1)) 0 0,.ptr (H.length+1) 0 0]]) (v:=(arcA x b).v) ?_ ?_ ?_ ?_ ?_
   ·rfl
   ·rfl
   ·rfl
   ·rw[eA];exact qaf9 _ _ (fun a ha=>qait (by simp) (by simp) (sm _ (by omega)) hb a (sm _ (by omega)) (prod _ _ (by omega) (by omega))) (fun a _=>by have:=nl a;omega) (Nat.le_trans (big _ (by omega)) (by omega))
   simp;refine zq c3 ?_;simp[h4,lim]
theorem qahs {m:Nat}{e:Int}{A:Nat}(hA:0<=e+A)(h0:0<m):m*2^(e+A).toNat<=2^A↔e<=0/\m<=2^(-e).toNat:=by
 by_cases he:e<=0
 ·have e1:A=(-e).toNat+(e+A).toNat:=by omega
  have e2:2^A=2^(-e).toNat*2^(e+A).toNat:=by rw[<-Nat.pow_add,<-e1]
  rw[e2];have p:0<2^(e+A).toNat:=Nat.pow_pos (by omega);constructor
  ·exact fun h=>⟨he,Nat.le_of_mul_le_mul_right h p⟩
  ·exact fun h=>Nat.mul_le_mul_right _ h.2
 ·constructor
  ·intro h;have h1:2^(A+1)<=2^(e+A).toNat:=Nat.pow_le_pow_right (by omega) (by omega);have h2:1*2^(e+A).toNat<=m*2^(e+A).toNat:=Nat.mul_le_mul_right _ h0;have h3:0<2^A:=Nat.pow_pos (by omega);rw[Nat.pow_succ]at h1;omega
  ·exact fun h=>absurd h.1 he
theorem q2w {d:Dy}(ok:d.Ok)(h:d.m≠[]):d.abs.cmp (nD 1)<=0↔d.e<=0/\natV d.m<=2^(-d.e).toNat:=by
 have h0:0<natV d.m:=by have:=ok.odd h;omega
 have he:=ok.elo;rw[qe6 (qdx ok) nD1,cmpI_le,qlk,Int.one_mul];have e1:d.abs=⟨false,d.m,d.e⟩:=by unfold Dy.abs;rw[if_pos ⟨ok.valid,h⟩]
 rw[e1];have e2:(Dy.mk false d.m d.e).val=((natV d.m*2^(d.e+16384).toNat:Nat):Int):=rfl;rw[e2];unfold pw;generalize hA:(16384:Nat)=A;have hA':(16384:Int)=(A:Int):=by omega
 rw[hA',Int.ofNat_le];exact qahs (by omega) h0
def recI (d:Dy)(b:Nat):Fx:=if(b:Int)<d.e then⟨false,0⟩else⟨false,2^(b-d.e).toNat/natV d.m⟩
def angV (d:Dy)(b:Nat):Fx:=
 if d.abs.cmp (nD 1)<=0 then arcI (Fx.of d.abs b) b
 else Fx.add ⟨false,(piI b).n/2^1⟩ (arcI (recI d.abs b) b).minus
def qdw (d:Dy)(p:Nat):Iv:=
 if d.m=[]then Iv.pt d else Iv.near ⟨(angV d (p+64)).neg != d.neg,(angV d (p+64)).n⟩ (p+64) p
def atanI (x:Iv)(p:Int):Iv:=if(precB p&&x.known)=true then(qdw x.lo p.toNat).hull (qdw x.hi p.toNat)else Iv.whole
theorem q84 {d:Dy}{b:Nat}(h:d.e<=0/\natV d.m<=2^(-d.e).toNat):(Fx.of d b).n<=2^b:=by
 unfold Fx.of;split
 ·simp only[];refine(Nat.div_le_iff_le_mul_add_pred (Nat.pow_pos (by omega))).2 ?_;have e:2^(-(d.e+b)).toNat*2^b=2^(-d.e).toNat:=by rw[<-Nat.pow_add];congr 1;omega
  omega
 ·simp only[];have e:2^(-d.e).toNat*2^(d.e+b).toNat=2^b:=by rw[<-Nat.pow_add];congr 1;omega
  rw[<-e];exact Nat.mul_le_mul_right _ h.2
theorem q8o {d:Dy}{b:Nat}(h0:0<natV d.m)(h:¬(d.e<=0/\natV d.m<=2^(-d.e).toNat)):(recI d b).n<=2^b:=by
 unfold recI;split
 ·simp
 ·simp only[];by_cases he:d.e<=0
  ·refine(Nat.div_le_iff_le_mul_add_pred h0).2 ?_;have e:2^(b-d.e).toNat=2^(-d.e).toNat*2^b:=by rw[<-Nat.pow_add];congr 1;omega
   have h1:2^(-d.e).toNat<=natV d.m:=by omega
   have h2:=Nat.mul_le_mul_right (2^b) h1;omega
  ·exact Nat.le_trans (Nat.div_le_self _ _) (Nat.pow_le_pow_right (by omega) (by omega))
theorem qwj (d:Dy)(b:Nat)(ok:d.Ok)(hm:d.m≠[])(hb:b<=3000)(h:¬(d.e<=0/\natV d.m<=2^(-d.e).toNat)):CQ prog qn0 [d.v,.int .i64 b] (recI d b).v:=by
 refine qag rfl fun H=>?_
 have h0:0<natV d.m:=by have:=ok.odd hm;omega
 by_cases hg:(b:Int)<d.e
 ·have e:recI d b=⟨false,0⟩:=by unfold recI;rw[if_pos hg]
  rw[e];simp[hg,qbf,lim]
 ·have e:recI d b=⟨false,2^(b-d.e).toNat/natV d.m⟩:=by unfold recI;rw[if_neg hg]
  rw[e];have hk:(b-d.e).toNat<=7100:=by
   by_cases he:d.e<=0
   ·have h1:2^(-d.e).toNat<natV d.m:=by omega
    have h2:=qao (Nat.le_of_lt h1);rw[qbb]at h2;have:=ok.bits;omega
   ·omega
  have elo:=ok.elo;have ehi:=ok.ehi;generalize hK:(b-d.e).toNat=K at *
  have f1:IntKind.i64.wrap ((b:Int)-d.e)=(K:Int):=by rw[wrap_i64]<;>omega
  have bK:=qbb K;have sK:Sm (2^K):=by unfold Sm;omega
  have c1:=qb8 1 K (Sm.small (by omega)) (by rw[Nat.one_mul];exact sK) (by omega);rw[Nat.one_mul,show qae 1=[1] by decide]at c1;have c2:=qg8 (qae (2^K)) d.m sK.len ok.len (qaf _) ok.li h0;rw[qad]at c2;simp[hg,f1];refine zq c1 ?_;simp;refine zq c2 ?_;simp[lim]
theorem qabu {x:Fx}{b:Nat}(hx:x.n<=2^b):(arcI x b).n<=2*2^b:=by
 obtain⟨_,h8⟩:=qkm hx 3;have e8:(2:Nat)^3=8:=rfl;rw[e8]at h8;have nl:=fun a:Fx=>qr9 (a:=a) hx
 have aB:(arcA x b).n<=(halv x b 3).n+(halv x b 3).n:=qx5 (fun a=>a.times (arcQ x b) b) (fun a=>by have:=nl a;omega) ((halv x b 3).n+1) 1 (halv x b 3) (halv x b 3);show(arcA x b).n*2^3<=_;omega
theorem q5s {d:Dy}(ok:d.Ok)(h:d.m≠[]):d.abs=⟨false,d.m,d.e⟩:=by unfold Dy.abs;rw[if_pos ⟨ok.valid,h⟩]
set_option maxHeartbeats 1000000 in
theorem q5n (d:Dy)(p:Nat)(ok:d.Ok)(hp:p<=2900):CQ prog qup [d.v,.int .i64 p] (qdw d p).v:=by
 refine qag rfl fun H=>?_
 have c1:=qjs d ok.w;rw[if_pos ok.valid]at c1;by_cases h0:d.m=[]
 ·have c2:=qif d ok.w;rw[if_pos ok.valid]at c2;have es:d.sgn=0:=by unfold Dy.sgn;rw[if_pos h0]
  have ea:qdw d p=Iv.pt d:=by unfold qdw;rw[if_pos h0]
  rw[es]at c1;rw[ea];simp[Dy.v];refine zq c1 ?_;simp;refine zq c2 ?_;simp[lim]
 ·have es:d.sgn≠0:=by unfold Dy.sgn;rw[if_neg h0];split<;>omega
  have ea:qdw d p=Iv.near ⟨(angV d (p+64)).neg != d.neg,(angV d (p+64)).n⟩ (p+64) p:=by unfold qdw;rw[if_neg h0]
  rw[ea];generalize hb:p+64=b;have f1:IntKind.i64.wrap ((p:Int)+64)=(b:Int):=by rw[wrap_i64]<;>omega
  have c3:=qp3 d ok.w;have c4:=qot 1 (by omega) (by omega);have oa:=qdx ok;have c5:=qd7 d.abs (nD 1) oa.w nD1.w;have hl1:=q2w ok h0;have ev:angV d b=if d.abs.cmp (nD 1)<=0 then arcI (Fx.of d.abs b) b else Fx.add ⟨false,(piI b).n/2^1⟩ (arcI (recI d.abs b) b).minus:=rfl;have eabs:=q5s ok h0;have pn:0<natV d.m:=by have:=ok.odd h0;omega
  have am:d.abs.m=d.m:=by rw[eabs]
  have ae:d.abs.e=d.e:=by rw[eabs]
  have eb:=qbb b;have big:∀n,n<=4*2^b->bitL n<=8000:=by
   intro n hn;have h1:=qbj (a:=4) (b:=2^b);have h2:bitL 4=3:=by decide
   have h3:=qao hn;omega
  by_cases hc:d.abs.cmp (nD 1)<=0
  ·have l1:=hl1.1 hc;have ofl:=q84 (d:=d.abs) (b:=b) (by rw[am,ae];exact l1);have c6:=qaak d.abs b oa (by omega) (by omega) (fun hh=>by
    have h2:=ofl;unfold Fx.of at h2;rw[if_neg (by omega)]at h2;exact Nat.le_trans (big _ (by simp only[]at h2;omega)) (by omega))
   have c7:=qaf8 (Fx.of d.abs b) b ofl (by omega);have al:=qabu ofl;rw[if_pos hc]at ev;rw[<-ev]at c7 al;have c8:=qwt ⟨(angV d b).neg != d.neg,(angV d b).n⟩ b p (big _ (by simp only[];omega)) (by omega);generalize angV d b=A at *
   generalize Fx.of d.abs b=F at *
   generalize d.abs.cmp (nD 1)=cc at *
   generalize nD 1=one at *
   generalize d.abs=da at *
   simp[Dy.v];refine zq c1 ?_;simp[es,f1];refine zq c3 ?_;simp;refine zq c4 ?_;simp;refine zq c5 ?_;simp[hc];refine zq c3 ?_;simp;refine zq c6 ?_;simp;refine zq c7 ?_;simp;refine zq c8 ?_;simp[lim]
  ·have l1:¬(d.e<=0/\natV d.m<=2^(-d.e).toNat):=fun h=>hc (hl1.2 h)
   have rl:=q8o (d:=d.abs) (b:=b) (by rw[am];exact pn) (by rw[am,ae];exact l1);have c6:=qwj d.abs b oa (by rw[am];exact h0) (by omega) (by rw[am,ae];exact l1);have c7:=qaf8 (recI d.abs b) b rl (by omega);have al:=qabu rl;rw[if_neg hc]at ev;have c8:=pi_cq b (by omega);obtain⟨_,_,pu⟩:=qhh (b:=b) (by omega);have p1:(2:Nat)^1=2:=rfl;have c9:=qj5 (piI b).n 1 (Nat.le_trans (big _ (by omega)) (by omega)) (by omega);have c10:=qf2 (arcI (recI d.abs b) b);have c11:=qcr ⟨false,(piI b).n/2^1⟩ (arcI (recI d.abs b) b).minus (Nat.le_trans (big _ (show(piI b).n/2^1<=_ by omega)) (by omega)) (Nat.le_trans (big _ (show(arcI (recI d.abs b) b).n<=_ by omega)) (by omega)) (Nat.le_trans (big _ (show(piI b).n/2^1+(arcI (recI d.abs b) b).n<=_ by omega)) (by omega));have fl:=qdz ⟨false,(piI b).n/2^1⟩ (arcI (recI d.abs b) b).minus;have em:(arcI (recI d.abs b) b).minus.n=(arcI (recI d.abs b) b).n:=rfl;rw[<-ev]at c11 fl
   have c12:=qwt ⟨(angV d b).neg != d.neg,(angV d b).n⟩ b p (big _ (by simp only[]at fl ⊢;omega)) (by omega);generalize angV d b=A at *
   generalize arcI (recI d.abs b) b=R at *
   generalize recI d.abs b=F at *
   generalize d.abs.cmp (nD 1)=cc at *
   generalize nD 1=one at *
   generalize d.abs=da at *
   have hc':¬cc<=0:=hc;simp[Dy.v];refine zq c1 ?_;simp[es,f1];refine zq c3 ?_;simp;refine zq c4 ?_;simp;refine zq c5 ?_;simp[hc'];refine zq c8 ?_;simp;refine zq c9 ?_;simp;refine zq c3 ?_;simp;refine zq c6 ?_;simp;refine zq c7 ?_;simp;refine zq c10 ?_;simp;refine zq c11 ?_;simp;refine zq c12 ?_;simp[lim]
theorem qm1 {d:Dy}{p:Nat}(w:d.W):(qdw d p).W:=by
 unfold qdw;split
 ·exact pt_W w
 ·exact q9a
theorem qacm (x:Iv)(p:Int)(w:x.W):CQ prog qxo [x.v,.int .i64 p] (atanI x p).v:=by
 refine qag rfl fun H=>?_
 have c1:=qlq p;have c2:=qeb x w;by_cases h:precB p=true
 case neg=>
  have ep:atanI x p=Iv.whole:=by unfold atanI;rw[if_neg (by simp[h])]
  rw[ep];simp;refine zq c1 ?_;simp[h];refine zq qal ?_;simp[lim]
 by_cases hv:x.valid=true
 case neg=>
  have ep:atanI x p=Iv.whole:=by unfold atanI;rw[if_neg (by simp[Iv.known,hv])]
  rw[ep];simp;refine zq c1 ?_;simp[h];refine zq c2 ?_;simp[hv];refine zq qal ?_;simp[lim]
 by_cases ha:x.all=true
 case pos=>
  have ep:atanI x p=Iv.whole:=by unfold atanI;rw[if_neg (by simp[Iv.known,ha])]
  rw[ep];simp;refine zq c1 ?_;simp[h];refine zq c2 ?_;simp[hv,ha];refine zq qal ?_;simp[lim]
 have hk:x.known=true:=by simp[Iv.known,hv,ha]
 obtain⟨ol,oh⟩:=qai w hk;obtain⟨p1,p2⟩:=qnt h;have ep:atanI x p=(qdw x.lo p.toNat).hull (qdw x.hi p.toNat):=by unfold atanI;rw[if_pos (by simp[h,hk])]
 rw[ep];have c3:=q5n x.lo p.toNat ol (by omega);have c4:=q5n x.hi p.toNat oh (by omega);rw[show(p.toNat:Int)=p by omega]at c3 c4;have c5:=q4x (qdw x.lo p.toNat) (qdw x.hi p.toNat) (qm1 ol.w) (qm1 oh.w);generalize qdw x.lo p.toNat=A at *
 generalize qdw x.hi p.toNat=B at *
 generalize A.hull B=C at *
 simp;refine zq c1 ?_;simp[h];refine zq c2 ?_;simp[hv,ha];refine zq c3 ?_;simp;refine zq c4 ?_;simp;refine zq c5 ?_;simp[lim]
end Go.Abs.W
