/- Parts of the proof: FpUd, FpUe, FpUf, FpUg. -/
import Derived.Test.YtpdchdfajhbglaaGreatDoorUa
import Derived.Test.YtpdchdfajhbglaaGreatDoorXf
import Derived.Test.YtpdchdfajhbglaaGreatDoorCf
namespace Go.Abs.W
theorem qacu {a:Fx}{b:Nat}{p:Int}(hp:precB p=true)(ha:bitL a.n<=4000)(hb:b<=8000):Iv.near a b p=(Iv.mk (nearL a b) (nearH a b) false).rnd p/\(nearL a b).Ok/\(nearH a b).Ok:=by
 obtain⟨r1,r2⟩:=q7u ha hb;obtain⟨v1,v2⟩:=qacv (a:=a) (b:=b) (by omega);have o1:(nearL a b).Ok:=Dy.of_ok r1;have o2:(nearH a b).Ok:=Dy.of_ok r2;have k:(Iv.mk (nearL a b) (nearH a b) false).known=true:=by
  refine qb8 o1 o2 ?_;rw[v1,v2];exact Int.mul_le_mul_of_nonneg_right (by omega) (Int.le_of_lt (qaw _))
 refine⟨?_,o1,o2⟩;unfold Iv.near Iv.rnd;rw[r1,r2,k,hp]
theorem qalm {a:Fx}{b:Nat}{p:Int}{q:Rat}(hp:precB p=true)(ha:bitL a.n<=4000)(hb:b<=8000)(h:Bd ((a.int:Rat)-q*p2 b) 16777216):(Iv.near a b p).In q:=by
 obtain⟨e,o1,o2⟩:=qacu hp ha hb;rw[e];refine qxx ⟨o1.w,o2.w⟩ fun _=>?_
 obtain⟨v1,v2⟩:=qacv (a:=a) (b:=b) (by omega);show(((nearL a b).val:Int):Rat)<=_/\_<=(((nearH a b).val:Int):Rat);have e24:((2^24:Int):Rat)=16777216:=rfl;rw[v1,v2,Rat.intCast_mul,Rat.intCast_mul,Rat.intCast_sub,Rat.intCast_add,e24,pwq];have es:sc=p2 b*p2 (16384-b):=(pwq 16384).trans ((congrArg p2 (show 16384=b+(16384-b) by omega)).trans (qlo _ _));rw[es];have P:=qif (16384-b);obtain⟨u,v⟩:=h;have m1:=mul_nn (show 0<=16777216+((a.int:Rat)-q*p2 b) by grind) (Rat.le_of_lt P);have m2:=mul_nn (show 0<=16777216-((a.int:Rat)-q*p2 b) by grind) (Rat.le_of_lt P);generalize p2 (16384-b)=W at *
 constructor<;>grind
theorem qahf {a:Fx}{b:Nat}{p:Int}{s:Nat->Rat}(hp:precB p=true)(ha:bitL a.n<=4000)(hb:b<=8000)(h:∃N,∀n,N<=n->Bd ((a.int:Rat)-s n*p2 b) 16777216):(Iv.near a b p).Has s:=by
 obtain⟨N,hN⟩:=h;exact Iv.Has.of_ev N fun n hn=>qalm hp ha hb (hN n hn)
def Fn (c:Bool)(u:Nat->Rat):Nat->Rat:=if c then Co u else Si u
theorem qano {c:Bool}{u v:Nat->Rat}(bu:Bnd u)(h:Near u v):Near (Fn c u) (Fn c v):=by
 unfold Fn;cases c
 ·exact qang bu h
 ·exact qanq bu h
theorem q9l {c:Bool}{u:Nat->Rat}(bu:Bnd u):LBd (Fn c u) (fun _=>1):=by
 unfold Fn;cases c
 ·exact(qwx bu).2
 ·exact(qwx bu).1
def cK (q:Rat):Nat->Rat:=fun _=>q
theorem q84 (q:Rat):Bnd (cK q):=Bnd.const q
theorem q7p {d:Dy}{c:Bool}{b:Nat}(ok:d.Ok)(hb:72<=b)(hb2:b<=1000)(ht:d.top<=128) :
 ∃N,∀n,N<=n->Bd (((pSel d c b).int:Rat)-Fn c (cK d.rat) n*p2 b) 100000:=by
 have B0:=qif b;have Bi:=Rat.inv_pos.2 B0;have Bm:=qax B0;have⟨r,hr0⟩:∃r:Rat,r=((redI d b).int:Rat)*(p2 b)⁻¹:=⟨_,rfl⟩
 have hr:((redI d b).int:Rat)=r*p2 b:=by rw[hr0,Rat.mul_assoc,Rat.mul_comm (p2 b)⁻¹,Bm,Rat.mul_one]
 obtain⟨N1,H1⟩:=qag4 hr (q46 d b) (by omega);obtain⟨N2,H2⟩:=qak7 ok (by omega) hb2 ht;have bb:=qay hb2;rw[show((1000:Nat):Rat)=1000 from rfl]at bb;have⟨v,hv⟩:∃v:Nat->Rat,v=fun n=>d.rat-(redS d b:Rat)*hpi n:=⟨_,rfl⟩
 have bv:Bnd v:=by rw[hv];exact(Bnd.const _).sub ((Bnd.const _).mul qu7)
 have⟨δ,hδ⟩:∃δ:Rat,δ=2*(p2 b)⁻¹:=⟨_,rfl⟩
 have δ0:0<δ:=by rw[hδ];grind
 have B2:2<=p2 b:=by have:=p2_ge b;have:=qay hb;rw[show((72:Nat):Rat)=72 from rfl]at this;grind
 have δ1:δ<=1:=by
  have:=Rat.mul_le_mul_of_nonneg_right B2 (Rat.le_of_lt Bi);rw[Bm]at this;rw[hδ];exact this
 have δB:δ*p2 b=2:=by rw[hδ,Rat.mul_assoc,Rat.mul_comm (p2 b)⁻¹,Bm,Rat.mul_one]
 have near:∀n,N2<=n->Bd (r-v n) δ:=fun n hn=>by
  obtain⟨a1,a2⟩:=H2 n hn;rw[hr]at a1 a2;rw[hv];constructor
  ·refine Rat.le_of_mul_le_mul_right (c:=p2 b) ?_ B0;grind
  ·refine Rat.le_of_mul_le_mul_right (c:=p2 b) ?_ B0;grind
 obtain⟨lc,ls⟩:=qaq9 (u:=fun _=>r) (v:=v) (Bnd.const r) bv δ1 N2 near;obtain⟨N3,H3⟩:=lc δ δ0;obtain⟨N4,H4⟩:=ls δ δ0;obtain⟨tc,ts⟩:=qza bv (redS d b);have eu:(fun n=>v n+(redS d b:Rat)*hpi n)=cK d.rat:=funext fun n=>by rw[hv];show _=d.rat;grind
 rw[eu]at tc ts;obtain⟨N5,H5⟩:=tc δ δ0;obtain⟨N6,H6⟩:=ts δ δ0;refine⟨max (max N1 N2) (max (max N3 N4) (max N5 N6)),fun n hn=>?_⟩;obtain⟨⟨p1,p2'⟩,q1,q2⟩:=H1 n (by omega);have e3:=H3 n (by omega);have e4:=H4 n (by omega);have e5:Bd (Co (cK d.rat) n-(cI (redS d b)*Co v n-sI (redS d b)*Si v n)) δ:=H5 n (by omega);have e6:Bd (Si (cK d.rat) n-(sI (redS d b)*Co v n+cI (redS d b)*Si v n)) δ:=H6 n (by omega);have toB:∀{y k:Rat},Bd y (k*δ)->Bd (y*p2 b) (2*k):=fun{y k} ⟨u,w⟩=>by
  have m1:=mul_nn (show 0<=k*δ-y by grind) (Rat.le_of_lt B0);have m2:=mul_nn (show 0<=k*δ+y by grind) (Rat.le_of_lt B0);have e:k*δ*p2 b=2*k:=by rw[Rat.mul_assoc,δB,Rat.mul_comm]
  constructor<;>grind
 have f3:Bd ((cs r n-Co v n)*p2 b) 8:=by
  have:=toB (y:=cs r n-Co v n) (k:=4) (by obtain⟨a,b⟩:=e3;exact⟨by show _<=cs r n-Co v n;have:Co (fun _=>r) n=cs r n:=rfl;grind,by have:Co (fun _=>r) n=cs r n:=rfl;grind⟩);obtain⟨a,b⟩:=this;exact⟨by grind,by grind⟩
 have f4:Bd ((ss r n-Si v n)*p2 b) 8:=by
  have:=toB (y:=ss r n-Si v n) (k:=4) (by obtain⟨a,b⟩:=e4;exact⟨by have:Si (fun _=>r) n=ss r n:=rfl;grind,by have:Si (fun _=>r) n=ss r n:=rfl;grind⟩);obtain⟨a,b⟩:=this;exact⟨by grind,by grind⟩
 have f5:=toB (k:=1) (by rw[Rat.one_mul];exact e5);have f6:=toB (k:=1) (by rw[Rat.one_mul];exact e6);have km:=qag8 d b;have⟨s,hs⟩:∃s,s=serI (redI d b) b:=⟨_,rfl⟩
 have sel:pSel d c b=if(redK d b+if c then 1 else 0)%4=1 then s.2 else if(redK d b+if c then 1 else 0)%4=2 then s.1.minus else if(redK d b+if c then 1 else 0)%4=3 then s.2.minus else s.1:=by rw[hs];rfl
 rw[<-hs]at p1 p2' q1 q2;rw[sel];clear sel hs H1 H2 H3 H4 H5 H6 tc ts eu lc ls e3 e4 e5 e6 toB near;have hc:∀c:Bool,(c=true\/c=false):=fun c=>by cases c<;>simp
 obtain⟨g1,g2⟩:=f3;obtain⟨g3,g4⟩:=f4;obtain⟨g5,g6⟩:=f5;obtain⟨g7,g8⟩:=f6;generalize Co v n=CV at *
 generalize Si v n=SV at *
 have ec:Co (cK d.rat) n=Fn true (cK d.rat) n:=rfl;have es:Si (cK d.rat) n=Fn false (cK d.rat) n:=rfl;rw[ec]at g5 g6;rw[es]at g7 g8;clear ec es;rcases qwk (redS d b)with ⟨h,i1,i2⟩|⟨h,i1,i2⟩|⟨h,i1,i2⟩|⟨h,i1,i2⟩<;>rw[i1,i2]at g5 g6 g7 g8<;>cases c<;>simp only[if_true,Bool.false_eq_true,if_false]
 ·rw[if_neg (by omega),if_neg (by omega),if_neg (by omega)];constructor<;>grind
 ·rw[if_pos (by omega)];constructor<;>grind
 ·rw[if_pos (by omega)];constructor<;>grind
 ·rw[if_neg (by omega),if_pos (by omega),qer,Rat.intCast_neg];constructor<;>grind
 ·rw[if_neg (by omega),if_pos (by omega),qer,Rat.intCast_neg];constructor<;>grind
 ·rw[if_neg (by omega),if_neg (by omega),if_pos (by omega),qer,Rat.intCast_neg];constructor<;>grind
 ·rw[if_neg (by omega),if_neg (by omega),if_pos (by omega),qer,Rat.intCast_neg];constructor<;>grind
 ·rw[if_neg (by omega),if_neg (by omega),if_neg (by omega)];constructor<;>grind
theorem qao0 {d:Dy}{c:Bool}{b:Nat}(ok:d.Ok)(hb:72<=b)(hb2:b<=1000)(ht:d.top<=128):(pSel d c b).n+2^24<=2*2^b/\bitL (pSel d c b).n<=4000:=by
 obtain⟨N,hN⟩:=q7p (c:=c) ok hb hb2 ht;obtain⟨M,hM⟩:=q9l (c:=c) (q84 d.rat) (1/2) (by grind);obtain⟨a1,a2⟩:=hN (max N M) (by omega);obtain⟨b1,b2⟩:=hM (max N M) (by omega);have B0:=qif b;have big:(2:Rat)^0*134217728<=p2 b:=by
  have:=qay (Nat.pow_le_pow_right (show 0<2 by omega) (show 27<=b by omega));have e:((2^27:Nat):Rat)=134217728:=rfl;rw[e]at this;have e1:(2:Rat)^0=1:=rfl;rw[e1,Rat.one_mul];exact this
 have e1:(2:Rat)^0=1:=rfl;rw[e1,Rat.one_mul]at big;have m1:=mul_nn (show 0<=3/2-Fn c (cK d.rat) (max N M) by grind) (Rat.le_of_lt B0);have m2:=mul_nn (show 0<=3/2+Fn c (cK d.rat) (max N M) by grind) (Rat.le_of_lt B0);have s:=qu6 (pSel d c b);have hs:=quf (pSel d c b).neg;have key:((pSel d c b).n:Rat)+16777216<=2*p2 b:=by
  generalize sgr (pSel d c b).neg=σ at *
  rcases hs with rfl|rfl<;>grind
 have nat:(pSel d c b).n+2^24<=2*2^b:=by
  refine Rat.natCast_le_natCast.1 ?_;rw[Rat.natCast_add,Rat.natCast_mul];exact key
 refine⟨nat,?_⟩;have h1:=qfc (a:=2) (b:=2^b);have h2:bitL 2=2:=by decide
 have h3:=qeu b;have h4:=qar (show(pSel d c b).n<=2*2^b by omega);omega
theorem qak0 : Si (cK 0)=fun _=>0:=funext fun n=>qaby n
theorem qams : Co (cK 0)=fun _=>1:=funext fun n=>qaey n
theorem q5f : (nD 1).rat=1:=qac0 1
theorem q2g {d:Dy}{c:Bool}{p:Int}(ok:d.Ok)(hp:precB p=true)(ht:d.top<=128):(qeh d c p.toNat).Bt (-pw 16385) (pw 16385)/\(qeh d c p.toNat).Has (Fn c (cK d.rat)):=by
 obtain⟨h1,h2⟩:=q49 hp;unfold qeh;have p0:=qaw 16384;have p5:pw 16385=2*pw 16384:=qc1 16384;split
 ·rename_i hm;rw[qg3 hm];cases c
  ·simp only[Bool.false_eq_true,if_false];have z:d.val=0:=by have:=qls d;have:=Dy.absN_nil hm;omega
   refine⟨⟨qb8 ok ok (Int.le_refl _),by show _<=d.val;omega,by show d.val<=_;omega⟩,?_⟩;show(Iv.pt d).Has (Si (cK 0));rw[qak0];have:=pt_In d;rw[qg3 hm]at this;exact this.has
  ·simp only[if_true];have z:(nD 1).val=1*pw 16384:=qih;refine⟨⟨qb8 nD1 nD1 (Int.le_refl _),by show _<=(nD 1).val;omega,by show(nD 1).val<=_;omega⟩,?_⟩;show(Iv.pt (nD 1)).Has (Co (cK 0));rw[qams];have:=pt_In (nD 1);rw[q5f]at this;exact this.has
 ·obtain⟨n1,n2⟩:=qao0 (c:=c) ok (b:=p.toNat+64) (by omega) (by omega) ht;have e:((p.toNat:Nat):Int)=p:=by omega
  rw[e];refine⟨qahe hp (by omega) n1,qahf hp n2 (by omega) ?_⟩;obtain⟨N,hN⟩:=q7p (c:=c) ok (b:=p.toNat+64) (by omega) (by omega) ht;exact⟨N,fun n hn=>by obtain⟨a,b⟩:=hN n hn;exact⟨by grind,by grind⟩⟩
theorem qaaf {a c:Fx}(h:0<c.n):(qob a c).int*(c.n:Int)<=a.int/\a.int<((qob a c).int+1)*(c.n:Int):=by
 have hd:=Nat.div_add_mod' a.n c.n;have hm:=Nat.mod_lt a.n h;have⟨m,hM⟩:∃m:Int,m=((a.n/c.n:Nat):Int)*(c.n:Int):=⟨_,rfl⟩
 have hM2:m=((a.n/c.n*c.n:Nat):Int):=by rw[hM];simp
 unfold qob;split
 ·rename_i hc;obtain⟨hn,hr⟩:=hc;have e:((Fx.mk a.neg (a.n/c.n)).add ⟨true,1⟩).int=-((a.n/c.n:Nat):Int)-1:=by
   rw[qe7];unfold Fx.int;simp[hn];omega
  have ea:a.int=-(a.n:Int):=by unfold Fx.int;rw[hn];rfl
  rw[e,ea,Int.sub_mul,Int.neg_mul,<-hM,show -((a.n/c.n:Nat):Int)-1+1=-((a.n/c.n:Nat):Int) by omega,Int.neg_mul,<-hM];omega
 ·rename_i hc;cases hn:a.neg
  ·have e:(Fx.mk false (a.n/c.n)).int=((a.n/c.n:Nat):Int):=rfl;have ea:a.int=(a.n:Int):=by unfold Fx.int;rw[hn];rfl
   rw[e,ea,Int.add_mul,<-hM];omega
  ·have hz:a.n%c.n=0:=by
    rcases Nat.eq_zero_or_pos (a.n%c.n)with h0|h0
    ·exact h0
    ·exact absurd ⟨hn,by omega⟩ hc
   have e:(Fx.mk true (a.n/c.n)).int=-((a.n/c.n:Nat):Int):=rfl;have ea:a.int=-(a.n:Int):=by unfold Fx.int;rw[hn];rfl
   rw[e,ea,Int.add_mul,Int.neg_mul,<-hM];omega
theorem qalq (s:Bool)(m c:Nat):(Fx.mk s (m*c)).int=(Fx.mk s m).int*(c:Int):=by
 unfold Fx.int;cases s
 ·simp
 ·simp[Int.neg_mul]
theorem qahi {x:Iv}{k p:Nat}(hp:64<=p) :
 ∃(K:Int) (s:Nat),s=k*(piI (mtB x p)).n/2 /\
  K*(2*(piI (mtB x p)).n:Nat)<=(Fx.of x.hi (mtB x p)).int-s+(2^(mtT x+28):Nat) /\
  (Fx.of x.hi (mtB x p)).int-s+(2^(mtT x+28):Nat)<(K+1)*(2*(piI (mtB x p)).n:Nat) /\
  (qct x k p=false↔K*(2*(piI (mtB x p)).n:Nat)+s+(2^(mtT x+28):Nat)<(Fx.of x.lo (mtB x p)).int):=by
 obtain⟨pn,pl,pu⟩:=qp7 (b:=mtB x p) (by unfold mtB;omega);have pp:2^12<=2^mtB x p:=Nat.pow_le_pow_right (by omega) (by unfold mtB;omega);have e12:(2:Nat)^12=4096:=rfl;have hS:mtS x k p=⟨false,k*(piI (mtB x p)).n/2⟩:=by
  unfold mtS mtP Fx.times;simp only[Nat.pow_zero,Nat.div_one,Nat.pow_one]
 have hTwo:mtTwo x p=⟨false,2*(piI (mtB x p)).n⟩:=by
  unfold mtTwo;rw[Nat.pow_one,Nat.mul_comm]
 have t0:0<(mtTwo x p).n:=by rw[hTwo];simp only[];omega
 obtain⟨f1,f2⟩:=qaaf (a:=mtA x k p) t0;have eA:(mtA x k p).int=(Fx.of x.hi (mtB x p)).int-(k*(piI (mtB x p)).n/2:Nat)+(2^(mtT x+28):Nat):=by
  unfold mtA;rw[qe7,qe7,qer,hS];rfl
 have eD:(mtD x k p).int=(mtK x k p).int*(2*(piI (mtB x p)).n:Nat)+(k*(piI (mtB x p)).n/2:Nat)-(Fx.of x.lo (mtB x p)).int+(2^(mtT x+28):Nat):=by
  unfold mtD mtL;rw[qe7,qe7,qer,qe7,qalq,hS,hTwo];rfl
 have dn:qct x k p=false↔(mtD x k p).int<0:=by
  unfold qct Fx.int;simp only[Bool.or_eq_false_iff,decide_eq_false_iff_not,Bool.not_eq_false'];cases hn:(mtD x k p).neg
  ·simp only[Bool.false_eq_true,if_false,and_false,false_iff];omega
  ·simp only[if_true,and_true];omega
 have eK:qob (mtA x k p) (mtTwo x p)=mtK x k p:=rfl;rw[eK,eA]at f1 f2;rw[hTwo]at f1 f2;exact⟨(mtK x k p).int,k*(piI (mtB x p)).n/2,rfl,f1,f2,by rw[dn,eD];omega⟩
theorem qajq (x:Iv):x.lo.top<=(mtT x:Int)/\x.hi.top<=(mtT x:Int):=by unfold mtT;omega
theorem qac7 {x:Iv}{k p:Nat}(ol:x.lo.Ok)(oh:x.hi.Ok)(tl:x.lo.top<=128)(th:x.hi.top<=128)(hp:64<=p)(hp2:p<=1000)(hk:k<=3) :
 ∃(K:Int) (N:Nat),∀n,N<=n->x.hi.rat+(p2 (p+13))⁻¹<(((k:Int)+4*K+4:Int):Rat)*hpi n/\(((k:Int)+4*K:Int):Rat)*hpi n<=x.hi.rat+(p2 (p+11))⁻¹ /\
  (qct x k p=false->(((k:Int)+4*K:Int):Rat)*hpi n+(p2 (p+13))⁻¹<x.lo.rat)/\(qct x k p=true->x.lo.rat<=(((k:Int)+4*K:Int):Rat)*hpi n+(p2 (p+11))⁻¹):=by
 obtain⟨K,s,hs,f1,f2,f3⟩:=qahi (x:=x) (k:=k) hp;have hT:mtT x<=128:=by unfold mtT;omega
 have eB:mtB x p=p+mtT x+40:=rfl;obtain⟨N,hN⟩:=qacp (b:=mtB x p) (by omega) (by omega);obtain⟨pn,pl,pu⟩:=qp7 (b:=mtB x p) (by omega);obtain⟨x1,x2⟩:=qacr (d:=x.lo) (b:=mtB x p) ol;obtain⟨y1,y2⟩:=qacr (d:=x.hi) (b:=mtB x p) oh;obtain⟨b1,b2⟩:=q4q ol (qajq x).1;obtain⟨b3,b4⟩:=q4q oh (qajq x).2;have g1:=qa5 f1;have g2:=qg6 f2;have c1:=qay pl;have c2:=qay pu;have sn:=natnn s;have s1:(s:Rat)<=(k:Rat)*((piI (mtB x p)).n:Rat)/2/\(k:Rat)*((piI (mtB x p)).n:Rat)/2<=(s:Rat)+1:=by
  obtain⟨u,v⟩:=qgy (a:=k*(piI (mtB x p)).n) (d:=2) (by decide);rw[<-hs,Rat.natCast_mul,show((2:Nat):Rat)=2 from rfl]at u v;exact⟨by grind,by grind⟩
 have k3:=qay hk;have k0:=natnn k;rw[show((3:Nat):Rat)=3 from rfl]at k3;rw[Rat.intCast_mul,Rat.intCast_add,Rat.intCast_sub,Rat.intCast_natCast,Rat.intCast_natCast,Rat.intCast_natCast,Rat.natCast_mul,qig,show((2:Nat):Rat)=2 from rfl]at g1;rw[Rat.intCast_mul,Rat.intCast_add,Rat.intCast_sub,Rat.intCast_add,Rat.intCast_natCast,Rat.intCast_natCast,Rat.intCast_natCast,Rat.natCast_mul,qig,show((2:Nat):Rat)=2 from rfl,show((1:Int):Rat)=1 from rfl]at g2;have c3:(((K*((2*(piI (mtB x p)).n:Nat):Int)+(s:Int)+((2^(mtT x+28):Nat):Int):Int)):Rat)=(K:Rat)*(2*((piI (mtB x p)).n:Rat))+(s:Rat)+p2 (mtT x+28):=by
  rw[Rat.intCast_add,Rat.intCast_add,Rat.intCast_mul,Rat.intCast_natCast,Rat.intCast_natCast,Rat.intCast_natCast,Rat.natCast_mul,qig,show((2:Nat):Rat)=2 from rfl]
 rw[Rat.natCast_mul,Rat.natCast_add,Rat.natCast_mul,qig,show((31:Nat):Rat)=31 from rfl,show((10:Nat):Rat)=10 from rfl,show((1024:Nat):Rat)=1024 from rfl]at c1;rw[Rat.natCast_mul,Rat.natCast_mul,qig,show((33:Nat):Rat)=33 from rfl,show((10:Nat):Rat)=10 from rfl]at c2;have T1:1<=p2 (mtT x):=by have:=p2_ge (mtT x);have:=natnn (mtT x);grind
 have eE:p2 (mtT x+28)=p2 (mtT x)*268435456:=by rw[qlo];rfl
 have BE:p2 (mtT x)*268435456*4<=p2 (mtB x p):=by
  have e:p2 (mtT x+30)=p2 (mtT x)*1073741824:=by rw[qlo];rfl
  have:p2 (mtT x+30)<=p2 (mtB x p):=qay (Nat.pow_le_pow_right (by omega) (by omega));grind
 rw[eE]at g1 g2 c3;have B0:=qif (mtB x p);have m1:=mul_nn (show 0<=p2 (mtT x)-x.hi.rat by grind) (Rat.le_of_lt B0);have m2:=mul_nn (show 0<=p2 (mtT x)+x.hi.rat by grind) (Rat.le_of_lt B0);have kP:(k:Rat)*((piI (mtB x p)).n:Rat)<=3*((piI (mtB x p)).n:Rat):=by
  have:=mul_nn (show 0<=3-(k:Rat) by grind) (natnn (piI (mtB x p)).n);grind
 have TB:=mul_nn (show 0<=p2 (mtT x)-1 by grind) (Rat.le_of_lt B0);have hKb:Bd (K:Rat) (4*p2 (mtT x)):=by
  constructor
  ·rcases(inferInstance:Decidable (-(4*p2 (mtT x))<=(K:Rat)))with h1|h1
   ·exfalso;have w1:=mul_nn (show 0<=-(4*p2 (mtT x))-(K:Rat) by grind) (show 0<=((piI (mtB x p)).n:Rat)-3*p2 (mtB x p) by grind);have w2:=mul_nn (show 0<=-(4*p2 (mtT x))-(K:Rat) by grind) (Rat.le_of_lt B0);have w3:=mul_nn (show 0<=p2 (mtT x) by grind) (show 0<=((piI (mtB x p)).n:Rat)-3*p2 (mtB x p) by grind);grind
   ·exact h1
  ·rcases(inferInstance:Decidable ((K:Rat)<=4*p2 (mtT x)))with h1|h1
   ·exfalso;have w1:=mul_nn (show 0<=(K:Rat)-4*p2 (mtT x) by grind) (show 0<=((piI (mtB x p)).n:Rat)-3*p2 (mtB x p) by grind);have w2:=mul_nn (show 0<=(K:Rat)-4*p2 (mtT x) by grind) (Rat.le_of_lt B0);have w3:=mul_nn (show 0<=p2 (mtT x) by grind) (show 0<=((piI (mtB x p)).n:Rat)-3*p2 (mtB x p) by grind);grind
   ·exact h1
 have G13:(p2 (p+13))⁻¹*p2 (mtB x p)=p2 (mtT x)*134217728:=by
  have e:p2 (mtB x p)=p2 (p+13)*p2 (mtT x+27):=by rw[<-qlo];exact congrArg p2 (by omega)
  have i:=qax (qif (p+13));rw[e,<-Rat.mul_assoc,Rat.mul_comm (p2 (p+13))⁻¹,i,Rat.one_mul,qlo];rfl
 have G11:(p2 (p+11))⁻¹*p2 (mtB x p)=p2 (mtT x)*536870912:=by
  have e:p2 (mtB x p)=p2 (p+11)*p2 (mtT x+29):=by rw[<-qlo];exact congrArg p2 (by omega)
  have i:=qax (qif (p+11));rw[e,<-Rat.mul_assoc,Rat.mul_comm (p2 (p+11))⁻¹,i,Rat.one_mul,qlo];rfl
 refine⟨K,N,fun n hn=>?_⟩;obtain⟨p1,p3⟩:=hN n hn;rw[qrt pn]at p1 p3;obtain⟨q1,q2⟩:=hKb.mul (show Bd (((piI (mtB x p)).n:Rat)-2*hpi n*p2 (mtB x p)) 131072 from⟨p1,p3⟩);have r1:=mul_nn k0 (show 0<=131072-(((piI (mtB x p)).n:Rat)-2*hpi n*p2 (mtB x p)) by grind);have r2:=mul_nn k0 (show 0<=131072+(((piI (mtB x p)).n:Rat)-2*hpi n*p2 (mtB x p)) by grind);have e4:(((k:Int)+4*K:Int):Rat)=(k:Rat)+4*(K:Rat):=by
  rw[Rat.intCast_add,Rat.intCast_mul,Rat.intCast_natCast];rfl
 have e5:(((k:Int)+4*K+4:Int):Rat)=(k:Rat)+4*(K:Rat)+4:=by
  rw[Rat.intCast_add,e4];rfl
 rw[e4,e5];obtain⟨s2,s3⟩:=s1;refine⟨?_,?_,fun hm=>?_,fun hm=>?_⟩
 ·refine Rat.lt_of_mul_lt_mul_right (c:=p2 (mtB x p)) ?_ (Rat.le_of_lt B0);rw[Rat.add_mul _ (p2 (p+13))⁻¹,G13];grind
 ·refine Rat.le_of_mul_le_mul_right (c:=p2 (mtB x p)) ?_ B0;rw[Rat.add_mul _ (p2 (p+11))⁻¹,G11];grind
 ·have g3:=qg6 (f3.1 hm);rw[c3]at g3;refine Rat.lt_of_mul_lt_mul_right (c:=p2 (mtB x p)) ?_ (Rat.le_of_lt B0);rw[Rat.add_mul _ (p2 (p+13))⁻¹,G13];grind
 ·have g3:¬_:=fun h=>Bool.noConfusion (hm.symm.trans (f3.2 h))
  have g4:=qa5 (Int.not_lt.1 g3);rw[c3]at g4;refine Rat.le_of_mul_le_mul_right (c:=p2 (mtB x p)) ?_ B0;rw[Rat.add_mul _ (p2 (p+11))⁻¹,G11];grind
theorem qac6 {x:Iv}{k p:Nat}(ol:x.lo.Ok)(oh:x.hi.Ok)(tl:x.lo.top<=128)(th:x.hi.top<=128)(hp:64<=p)(hp2:p<=1000)(hk:k<=3)(h:qct x k p=false) :
 ∃(K:Int) (N:Nat),∀n,N<=n->(((k:Int)+4*K:Int):Rat)*hpi n<x.lo.rat/\x.hi.rat<(((k:Int)+4*K+4:Int):Rat)*hpi n:=by
 obtain⟨K,N,hN⟩:=qac7 (k:=k) ol oh tl th hp hp2 hk;have i:=Rat.inv_pos.2 (qif (p+13));refine⟨K,N,fun n hn=>?_⟩;obtain⟨a,_,b,_⟩:=hN n hn;have:=b h;exact⟨by grind,by grind⟩
theorem clamp {u:Nat->Rat}{lo hi:Rat}(h1:SLe (fun _=>lo) u)(h2:SLe u (fun _=>hi))(hle:lo<=hi):∃u':Nat->Rat,(∀n,lo<=u' n/\u' n<=hi)/\Near u u':=by
 refine⟨fun n=>if u n<lo then lo else if hi<u n then hi else u n,fun n=>?_,fun ε he=>?_⟩
 ·show lo<=(if u n<lo then lo else if hi<u n then hi else u n)/\(if u n<lo then lo else if hi<u n then hi else u n)<=hi;split
  ·exact⟨Rat.le_refl,hle⟩
  ·split
   ·exact⟨hle,Rat.le_refl⟩
   ·constructor<;>grind
 ·obtain⟨N,hN⟩:=h1 ε he;obtain⟨M,hM⟩:=h2 ε he;refine⟨max N M,fun n hn=>?_⟩;have a:=hN n (by omega);have b:=hM n (by omega);show Bd (u n-(if u n<lo then lo else if hi<u n then hi else u n)) ε;split
  ·constructor<;>grind
  ·split
   ·constructor<;>grind
   ·constructor<;>grind
theorem q4a {u:Nat->Rat}{lo hi:Rat}(N:Nat)(h:∀n,N<=n->lo<=u n/\u n<=hi):Bnd u:=by
 obtain⟨a,a0,ha⟩:=qoc lo;obtain⟨b,b0,hb⟩:=qoc hi;refine⟨a+b,N,fun n hn=>?_⟩;obtain⟨c,d⟩:=h n hn;obtain⟨e,f⟩:=ha;obtain⟨g,i⟩:=hb;constructor<;>grind
theorem qafs {x:Nat->Rat}(N:Nat)(h:∀n,N<=n->0<=x n/\x n<=2*hpi n):SLe (fun _=>0) (Si x):=by
 have bx:Bnd x:=q4a (lo:=0) (hi:=4) N fun n hn=>by obtain⟨a,b⟩:=h n hn;have:=qyj n;exact⟨a,by grind⟩
 obtain⟨_,t⟩:=qza bx.neg 2;have e2:sI 2=0/\cI 2=-1:=by
  rcases qwk 2 with ⟨q,a,b⟩|⟨q,a,b⟩|⟨q,a,b⟩|⟨q,a,b⟩
  ·omega
  ·omega
  ·exact⟨b,a⟩
  ·omega
 rw[e2.1,e2.2,q4m,show((2:Int):Rat)=2 from rfl]at t;intro ε he;obtain⟨M,hM⟩:=t ε he;refine⟨max (max N M) 6,fun n hn=>?_⟩;obtain⟨a,b⟩:=h n (by omega);obtain⟨p,q⟩:=qyj n;show 0<=ss (x n) n+ε;rcases(inferInstance:Decidable (x n<=2))with h2|h2
 ·have ht:Bd (ss (-x n+2*hpi n) n-(0*Co (fun n=>-x n) n+-1*-ss (x n) n)) ε:=hM n (by omega);obtain⟨t1,t2⟩:=ht;have s:=q40 (x:=-x n+2*hpi n) (n:=n) (by omega) (by grind) (by grind);grind
 ·have:=q40 (n:=n) (by omega) a h2;grind
theorem qanr {a b:Nat->Rat}(N:Nat)(h:∀n,N<=n->0<=a n/\a n<=b n/\b n<=2*hpi n):SLe (Co b) (Co a):=by
 have⟨x,hx⟩:∃x:Nat->Rat,x=fun n=>(a n+b n)/2:=⟨_,rfl⟩
 have⟨y,hy⟩:∃y:Nat->Rat,y=fun n=>(b n-a n)/2:=⟨_,rfl⟩
 have hxy:∀n,N<=n->(0<=x n/\x n<=2*hpi n)/\0<=y n/\y n<=2*hpi n:=fun n hn=>by
  obtain⟨p,q,r⟩:=h n hn;rw[hx,hy];refine⟨⟨by grind,by grind⟩,by grind,by grind⟩
 have bx:Bnd x:=q4a (lo:=0) (hi:=4) N fun n hn=>by obtain⟨⟨a,b⟩,_⟩:=hxy n hn;have:=qyj n;exact⟨a,by grind⟩
 have by':Bnd y:=q4a (lo:=0) (hi:=4) N fun n hn=>by obtain⟨_,a,b⟩:=hxy n hn;have:=qyj n;exact⟨a,by grind⟩
 have sx:=qafs N fun n hn=>(hxy n hn).1
 have sy:=qafs N fun n hn=>(hxy n hn).2
 have p:=SLe.mul_nn (qoz bx) (qoz by') sx sy;have h1:=qsv bx by';have h2:=qsv bx by'.neg;rw[q9n,q4m]at h2;have e1:(fun n=>x n+y n)=b:=funext fun n=>by rw[hx,hy];grind
 have e2:(fun n=>x n+-y n)=a:=funext fun n=>by rw[hx,hy];grind
 rw[e1]at h1;rw[e2]at h2;intro ε he;obtain⟨N1,H1⟩:=h1 (ε/4) (by grind);obtain⟨N2,H2⟩:=h2 (ε/4) (by grind);obtain⟨N3,H3⟩:=p (ε/4) (by grind);refine⟨max N1 (max N2 N3),fun n hn=>?_⟩;obtain⟨u1,u2⟩:=H1 n (by omega);obtain⟨v1,v2⟩:=H2 n (by omega);have w:=H3 n (by omega);grind
theorem qai6 {v l r:Nat->Rat}(N:Nat)(h:∀n,N<=n->l n<=v n/\v n<=r n/\-(2*hpi n)<=l n/\r n<=2*hpi n){M:Rat}(hl:SLe (fun _=>M) (Co l))(hr:SLe (fun _=>M) (Co r)):SLe (fun _=>M) (Co v):=by
 have⟨a,ha⟩:∃a:Nat->Rat,a=fun n=>rabs (v n):=⟨_,rfl⟩
 have⟨b,hb⟩:∃b:Nat->Rat,b=fun n=>if rabs (l n)<=rabs (r n)then rabs (r n)else rabs (l n):=⟨_,rfl⟩
 have cab:∀q n,cs (rabs q) n=cs q n:=fun q n=>by
  unfold rabs;split
  ·rfl
  ·exact qaez q n
 have ea:Co a=Co v:=funext fun n=>by rw[ha];exact cab (v n) n
 have anti:=qanr (a:=a) (b:=b) N fun n hn=>by
  obtain⟨p,q,s,t⟩:=h n hn;rw[ha,hb];show 0<=rabs (v n)/\rabs (v n)<=(if rabs (l n)<=rabs (r n)then rabs (r n)else rabs (l n))/\(if rabs (l n)<=rabs (r n)then rabs (r n)else rabs (l n))<=2*hpi n;refine⟨by unfold rabs;split<;>grind,?_,?_⟩
  ·split<;>unfold rabs at*<;> grind
  ·split<;>unfold rabs at*<;> grind
 rw[ea]at anti;refine SLe.trans ?_ anti;intro ε he;obtain⟨N1,H1⟩:=hl ε he;obtain⟨N2,H2⟩:=hr ε he;refine⟨max N1 N2,fun n hn=>?_⟩;have p:=H1 n (by omega);have q:=H2 n (by omega);rw[hb];show M<=cs (if rabs (l n)<=rabs (r n)then rabs (r n)else rabs (l n)) n+ε;split
 ·rw[cab];exact q
 ·rw[cab];exact p
theorem qai3 {c t:Bool}{u:Nat->Rat}(bu:Bnd u){j:Int}(hj:j%4=(if c then(if t then 2 else 0)else(if t then 3 else 1))) :
 Near (Fn c u) (fun n=>(if t then -1 else 1)*Co (fun n=>u n-(j:Rat)*hpi n) n):=by
 have bv:Bnd fun n=>u n-(j:Rat)*hpi n:=bu.sub ((Bnd.const _).mul qu7)
 obtain⟨p,q⟩:=qza bv j;have e:(fun n=>u n-(j:Rat)*hpi n+(j:Rat)*hpi n)=u:=funext fun n=>by grind
 rw[e]at p q;cases c<;>cases t<;>simp only[if_true,Bool.false_eq_true,if_false]at hj ⊢<;>unfold Fn<;>simp only[if_true,Bool.false_eq_true,if_false] <;>
  rcases qwk j with ⟨g,a,b⟩|⟨g,a,b⟩|⟨g,a,b⟩|⟨g,a,b⟩<;>first| (exfalso;omega)| (rw[a,b]at p q;first|exact p.trans (Near.of_eq fun n=>by grind)|exact q.trans (Near.of_eq fun n=>by grind))
theorem q6s {c t:Bool}{lo hi M:Rat}{u:Nat->Rat}{K:Int}{N:Nat}(hu:∀n,lo<=u n/\u n<=hi)
 (sep:∀n,N<=n->((((if c then(if t then 0 else 2)else(if t then 1 else 3):Nat):Int)+4*K:Int):Rat)*hpi n<lo/\hi<((((if c then(if t then 0 else 2)else(if t then 1 else 3):Nat):Int)+4*K+4:Int):Rat)*hpi n)
 (hl:SLe (fun n=>(if t then 1 else -1)*Fn c (cK lo) n) (fun _=>M)) (hr:SLe (fun n=>(if t then 1 else -1)*Fn c (cK hi) n) (fun _=>M)):SLe (fun n=>(if t then 1 else -1)*Fn c u n) (fun _=>M):=by
 have⟨k,hk⟩:∃k:Nat,k=(if c then(if t then 0 else 2)else(if t then 1 else 3):Nat):=⟨_,rfl⟩
 rw[<-hk]at sep;have⟨j,hj⟩:∃j:Int,j=(k:Int)+4*K+2:=⟨_,rfl⟩
 have hj4:j%4=(if c then(if t then 2 else 0)else(if t then 3 else 1)):=by
  rw[hj,hk];cases c<;>cases t<;>simp<;>omega
 have bu:Bnd u:=q4a 0 fun n _=>hu n
 have q:=fun{w:Nat->Rat} (bw:Bnd w)=>qai3 (c:=c) (t:=t) (u:=w) bw hj4
 have jr:(((k:Int)+4*K:Int):Rat)=(j:Rat)-2/\(((k:Int)+4*K+4:Int):Rat)=(j:Rat)+2:=by
  have e1:(k:Int)+4*K=j-2:=by omega
  have e2:(k:Int)+4*K+4=j+2:=by omega
  rw[e2,e1,Rat.intCast_sub,Rat.intCast_add];exact⟨rfl,rfl⟩
 rw[jr.1,jr.2]at sep;have conv:∀{w:Nat->Rat},Bnd w->SLe (fun n=>(if t then 1 else -1)*Fn c w n) (fun _=>M)->SLe (fun _=>-M) (Co fun n=>w n-(j:Rat)*hpi n):=fun{w} bw hw=>by
  intro ε he;obtain⟨N1,H1⟩:=q bw (ε/2) (qbq he);obtain⟨N2,H2⟩:=hw (ε/2) (qbq he);refine⟨max N1 N2,fun n hn=>?_⟩;obtain⟨a,b⟩:=H1 n (by omega);have d:=H2 n (by omega);cases t<;>simp only[if_true,Bool.false_eq_true,if_false]at a b d<;>grind
 have key:=qai6 (v:=fun n=>u n-(j:Rat)*hpi n) (l:=fun n=>lo-(j:Rat)*hpi n) (r:=fun n=>hi-(j:Rat)*hpi n) (M:=-M) N (fun n hn=>by
  obtain⟨a,b⟩:=sep n hn;obtain⟨d,e⟩:=hu n;refine⟨by grind,by grind,by grind,by grind⟩) (conv (q84 lo) hl) (conv (q84 hi) hr)
 intro ε he;obtain⟨N1,H1⟩:=q bu (ε/2) (qbq he);obtain⟨N2,H2⟩:=key (ε/2) (qbq he);refine⟨max N1 N2,fun n hn=>?_⟩;obtain⟨a,b⟩:=H1 n (by omega);have d:=H2 n (by omega);cases t<;>simp only[if_true,Bool.false_eq_true,if_false]at a b d ⊢<;>grind
theorem qx0 {u:Dy}{q:Rat}(h:(u.val:Rat)=q*sc):u.rat=q:=by
 refine qui (c:=sc) (by have:=qdc;grind) ?_;rw[qep];exact h
theorem q7z : (nD (-1)).rat=-1:=qac0 (-1)
theorem qagh {c:Bool}{u:Nat->Rat}(bu:Bnd u):unitI.Has (Fn c u):=by
 have h:=q9l (c:=c) bu;refine qzj qaa9 fun _=>?_
 show SLe (fun _=>(nD (-1)).rat) _/\SLe _ (fun _=>(nD 1).rat);rw[q7z,q5f];exact⟨h.sge,h.sle⟩
theorem q99 {x y:Iv}(wx:x.W)(wy:y.W)(kx:x.known=true)(ky:y.known=true):(x.hull y).known=true/\(x.hull y).lo.val=min x.lo.val y.lo.val/\(x.hull y).hi.val=max x.hi.val y.hi.val:=by
 obtain⟨a1,a2⟩:=qai wx kx;obtain⟨b1,b2⟩:=qai wy ky;have l1:=qam wx kx;have e:x.hull y=⟨x.lo.lo2 y.lo,x.hi.hi2 y.hi,false⟩:=by unfold Iv.hull;rw[kx,ky];rfl
 have v1:=qii a1 b1;have v2:=qij a2 b2;rw[e];exact⟨qb8 (q79 a1 b1) (q8f a2 b2) (by rw[v1,v2];omega),v1,v2⟩
theorem qwy {C y:Iv}(w:C.W)(k:C.known=true)(h:C.meet unitI=some y):y.lo.val=max C.lo.val (-pw 16384)/\y.hi.val=min C.hi.val (pw 16384):=by
 obtain⟨u1,u2⟩:=qll;obtain⟨ol,oh⟩:=qai w k;unfold Iv.meet at h;rw[(qc3 k).1,(qc3 k).2,show unitI.valid=true from(qc3 qxt).1]at h;rw[if_pos (by rfl),if_neg (by decide),if_neg (show ¬unitI.all=true by decide)]at h;split at h
 ·cases h
 ·injection h with h
  subst h;have e1:=qij ol (show unitI.lo.Ok from nDm1);have e2:=qii oh (show unitI.hi.Ok from nD1);have f1:unitI.lo.val=-pw 16384:=u1;have f2:unitI.hi.val=pw 16384:=u2;rw[f1]at e1;rw[f2]at e2;exact⟨e1,e2⟩
theorem SLe.congr_left {s s' t:Nat->Rat}(h:SLe s t)(k:Near s' s):SLe s' t:=k.le_left.trans h
theorem qaii {x:Iv}{c:Bool}{p:Int}{u:Nat->Rat}(w:x.W)(hp:precB p=true)(k:x.known=true)(h1:SLe (fun _=>x.lo.rat) u)(h2:SLe u (fun _=>x.hi.rat)):(bothI x c p).Has (Fn c u):=by
 obtain⟨ol,oh⟩:=qai w k;obtain⟨pp1,pp2⟩:=q49 hp;have hle:x.lo.rat<=x.hi.rat:=rat_le.2 (qam w k);obtain⟨u',hu,hn⟩:=clamp h1 h2 hle;have bu':Bnd u':=q4a 0 fun n _=>hu n
 refine Iv.Has.near ?_ (qano (hn.symm.bnd bu') hn);clear h1 h2 hn;have uh:=qagh (c:=c) bu';unfold bothI;rw[hp,k,if_pos (show(true&&true)=true from rfl)];split
 ·exact uh
 ·rename_i ht;split
  ·exact uh
  ·split
   ·exact uh
   ·rename_i y hy;obtain⟨bl,hl⟩:=q2g (c:=c) ol hp (by omega);obtain⟨bh,hh⟩:=q2g (c:=c) oh hp (by omega);have wl:(qeh x.lo c p.toNat).W:=qo8 ol.w;have wh:(qeh x.hi c p.toNat).W:=qo8 oh.w;have ms:=fun kk (hk:kk<=3) (h:qct x kk (p.toNat+64)=false)=>qac6 (k:=kk) (p:=p.toNat+64) ol oh (by omega) (by omega) (by omega) (by omega) hk h
    generalize qeh x.lo c p.toNat=A at *
    generalize qeh x.hi c p.toNat=B at *
    obtain⟨kC,vl,vh⟩:=q99 wl wh bl.k bh.k;obtain⟨yl,yh⟩:=qwy (wl.hull wh) kC hy;have q:=q2u (wl.hull wh) hy;obtain⟨sl1,sl2⟩:=qo2 bl.k hl;obtain⟨sh1,sh2⟩:=qo2 bh.k hh;have top:∀M:Rat,M=(A.hull B).hi.rat->SLe (Fn c (cK x.lo.rat)) (fun _=>M)/\SLe (Fn c (cK x.hi.rat)) (fun _=>M):=fun M hM=>by
     have a:A.hi.rat<=M:=by rw[hM];exact rat_le.2 (by omega)
     have b:B.hi.rat<=M:=by rw[hM];exact rat_le.2 (by omega)
     exact⟨sl2.trans (SLe.of_le 0 fun _ _=>a),sh2.trans (SLe.of_le 0 fun _ _=>b)⟩
    have bot:∀M:Rat,M=(A.hull B).lo.rat->SLe (fun _=>M) (Fn c (cK x.lo.rat))/\SLe (fun _=>M) (Fn c (cK x.hi.rat)):=fun M hM=>by
     have a:M<=A.lo.rat:=by rw[hM];exact rat_le.2 (by omega)
     have b:M<=B.lo.rat:=by rw[hM];exact rat_le.2 (by omega)
     exact⟨(SLe.of_le 0 fun _ _=>a).trans sl1,(SLe.of_le 0 fun _ _=>b).trans sh1⟩
    have⟨one1,one2⟩:SLe (fun _=>-1) (Fn c u')/\SLe (Fn c u') (fun _=>1):=⟨(q9l bu').sge,(q9l bu').sle⟩
    have yhr:y.hi.rat=(A.hull B).hi.rat\/y.hi.rat=1:=by
     rcases(by omega:y.hi.val=(A.hull B).hi.val\/y.hi.val=pw 16384)with e|e
     ·left;unfold Dy.rat;rw[e]
     ·right;exact qx0 (by rw[e,Rat.one_mul];rfl)
    have ylr:y.lo.rat=(A.hull B).lo.rat\/y.lo.rat=-1:=by
     rcases(by omega:y.lo.val=(A.hull B).lo.val\/y.lo.val=-pw 16384)with e|e
     ·left;unfold Dy.rat;rw[e]
     ·right;exact qx0 (by rw[e,Rat.intCast_neg];show -sc=-1*sc;grind)
    have hiOk:(x.lo.cmp x.hi=0\/qct x (if c then 0 else 1) (p.toNat+64)=false)->SLe (Fn c u') (fun _=>y.hi.rat):=by
     intro hyp;rcases yhr with e|e
     ·rw[e];obtain⟨t1,t2⟩:=top _ rfl;rcases hyp with h0|h0
      ·have e0:x.lo.rat=x.hi.rat:=by unfold Dy.rat;rw[(qtz ol oh).1 h0]
       have eu:u'=cK x.lo.rat:=funext fun n=>by obtain⟨a,b⟩:=hu n;show u' n=x.lo.rat;grind
       rw[eu];exact t1
      ·obtain⟨K,N,sep⟩:=ms _ (by cases c<;>simp) h0;have:=q6s (c:=c) (t:=true) (K:=K) (N:=N) (M:=(A.hull B).hi.rat) hu (by simpa using sep) (by simp only[if_true];exact t1.congr_left (Near.of_eq fun n=>by grind)) (by simp only[if_true];exact t2.congr_left (Near.of_eq fun n=>by grind));simp only[if_true]at this;exact this.congr_left (Near.of_eq fun n=>by grind)
     ·rw[e];exact one2
    have loOk:(x.lo.cmp x.hi=0\/qct x (if c then 2 else 3) (p.toNat+64)=false)->SLe (fun _=>y.lo.rat) (Fn c u'):=by
     intro hyp;rcases ylr with e|e
     ·rw[e];obtain⟨t1,t2⟩:=bot _ rfl;rcases hyp with h0|h0
      ·have e0:x.lo.rat=x.hi.rat:=by unfold Dy.rat;rw[(qtz ol oh).1 h0]
       have eu:u'=cK x.lo.rat:=funext fun n=>by obtain⟨a,b⟩:=hu n;show u' n=x.lo.rat;grind
       rw[eu];exact t1
      ·obtain⟨K,N,sep⟩:=ms _ (by cases c<;>simp) h0;have neg:∀{s:Nat->Rat} {M:Rat},SLe (fun _=>M) s->SLe (fun n=>(if false=true then 1 else -1)*s n) (fun _=>-M):=fun{s M} h ε he=>by
        obtain⟨N,hN⟩:=h ε he;exact⟨N,fun n hn=>by have:=hN n hn;simp only[Bool.false_eq_true,if_false];grind⟩
       have:=q6s (c:=c) (t:=false) (K:=K) (N:=N) (M:=-(A.hull B).lo.rat) hu (by simpa using sep) (neg t1) (neg t2);intro ε he;obtain⟨N',hN⟩:=this ε he;exact⟨N',fun n hn=>by have:=hN n hn;simp only[Bool.false_eq_true,if_false]at this;grind⟩
     ·rw[e];exact one1
    split
    ·rename_i h0;exact qzj ⟨q.ol.w,q.oh.w⟩ fun _=>⟨loOk (.inl h0),hiOk (.inl h0)⟩
    ·have W:=q.put (qct x (if c then 2 else 3) (p.toNat+64)) (qct x (if c then 0 else 1) (p.toNat+64));refine qzj ⟨W.ol.w,W.oh.w⟩ fun _=>⟨?_,?_⟩
     ·show SLe (fun _=>(if qct x (if c then 2 else 3) (p.toNat+64)=true then nD (-1)else y.lo).rat) _;cases hm:qct x (if c then 2 else 3) (p.toNat+64)
      ·simp only[Bool.false_eq_true,if_false];exact loOk (.inr hm)
      ·simp only[if_true];rw[q7z];exact one1
     ·show SLe _ (fun _=>(if qct x (if c then 0 else 1) (p.toNat+64)=true then nD 1 else y.hi).rat);cases hm:qct x (if c then 0 else 1) (p.toNat+64)
      ·simp only[Bool.false_eq_true,if_false];exact hiOk (.inr hm)
      ·simp only[if_true];rw[q5f];exact one2
end Go.Abs.W
