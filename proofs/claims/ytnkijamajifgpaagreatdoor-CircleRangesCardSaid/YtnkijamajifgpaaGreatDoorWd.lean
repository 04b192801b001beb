/- Parts of the proof: FpWd, FpWe. -/
import Derived.Test.YtnkijamajifgpaaGreatDoorWa
import Derived.Test.YtnkijamajifgpaaGreatDoorHg
import Derived.Test.YtnkijamajifgpaaGreatDoorFi
namespace Go.Abs.W
theorem q8v {d:Dy}(h:0<d.val):d.m≠[]/\d.neg=false:=by
 constructor
 ·intro h0;have:=qdt d;have:=Dy.absN_nil h0;omega
 ·cases hn:d.neg
  ·rfl
  ·unfold Dy.val at h;rw[hn,if_pos rfl]at h;omega
section
variable {p : Int} {x y : Iv}
theorem qapz {a c:Int}(wx:x.W)(hp:precB p=true)(hx:x.Bt (-a) a)(g:GridI p.toNat c)(hc:a*a<=c*pw 16384):(x.sq p).Bt 0 c:=by
 obtain⟨k,o1,o2,n1,n2⟩:=qxd wx hx.k;obtain⟨v1,v2⟩:=qrs wx hx.k;have h1:=hx.lo;have h2:=hx.hi;have le0:=qap wx hx.k;have ea:x.abs.all=false:=(qb6 k).2;have hb:x.abs.hi.val<=a:=by omega
 have e:x.sq p=Iv.made (rMul x.abs.lo x.abs.lo p false) (rMul x.abs.hi x.abs.hi p true):=by unfold Iv.sq;rw[ea,hp];rfl
 rw[e];refine(q0y rMul_ok rMul_ok (qml o1 o1 hp) (qmk o2 o2 hp) (fun u v q1 q2=>?_) qg8 g ?_ ?_).1
 ·have:=Int.mul_le_mul n2 n2 n1 (by omega);exact(qbb (qaw 16384)).1 (by omega)
 ·rw[Int.zero_mul];exact Int.mul_nonneg n1 n1
 ·have:=Int.mul_le_mul hb hb (by omega) (by omega);omega
theorem qamo {A B E F:Int}(wx:x.W)(hp:precB p=true)(hx:x.Bt A B)(hA:0<A)(gE:GridI p.toNat E)(gF:GridI p.toNat F)(hE:E*E<=A*pw 16384)(hF0:0<=F)(hF:B*pw 16384<=F*F):(x.sqrt p).Bt E F:=by
 obtain⟨o1,o2⟩:=qai wx hx.k;have le0:=qap wx hx.k;have h1:=hx.lo;have h2:=hx.hi;obtain⟨m1,n1⟩:=q8v (d:=x.lo) (by omega);obtain⟨m2,n2⟩:=q8v (d:=x.hi) (by omega);have hs:0<x.lo.sgn:=(qr6 o1).1.2 (by omega);have p0:=qaw 16384;have e:x.sqrt p=Iv.made (rSqrt x.lo p false) (rSqrt x.hi p true):=by unfold Iv.sqrt;rw[hx.k,hp,decide_eq_true hs];rfl
 rw[e];refine(q0y rSqrt_ok rSqrt_ok (q8o o1 hp m1 n1) (q8n o2 hp m2 n2) (fun u v q1 q2=>?_) gE gF ?_ ?_).1
 ·have q3:sqGe x.lo.val v:=⟨q2.1,Int.le_trans (Int.mul_le_mul_of_nonneg_right le0 (Int.le_of_lt p0)) q2.2⟩
  exact qamn u v q1 q3
 ·right;exact Int.le_trans hE (Int.mul_le_mul_of_nonneg_right h1 (Int.le_of_lt p0))
 ·exact⟨hF0,Int.le_trans (Int.mul_le_mul_of_nonneg_right h2 (Int.le_of_lt p0)) hF⟩
end
theorem qapy {u v:Dy}(h:u.val*u.val<=v.val*pw 16384):u.rat*u.rat<=v.rat:=by
 have hs:=qbf;have c:=qav h;rw[Rat.intCast_mul,Rat.intCast_mul,<-qay u,<-qay v,show((pw 16384:Int):Rat)=sc from rfl]at c;refine Rat.le_of_mul_le_mul_right (c:=sc*sc) ?_ (Rat.mul_pos hs hs);grind
theorem qap4 {u v:Dy}(h:v.val*pw 16384<=u.val*u.val):v.rat<=u.rat*u.rat:=by
 have hs:=qbf;have c:=qav h;rw[Rat.intCast_mul,Rat.intCast_mul,<-qay u,<-qay v,show((pw 16384:Int):Rat)=sc from rfl]at c;refine Rat.le_of_mul_le_mul_right (c:=sc*sc) ?_ (Rat.mul_pos hs hs);grind
theorem qah8 {x:Iv}{p:Int}{s r:Nat->Rat}(wx:x.W)(h:x.Has s)(r0:∀n,0<=r n)(hr:Near (fun n=>r n*r n) s):(x.sqrt p).Has r:=by
 unfold Iv.sqrt;split
 ·rename_i hc;simp only[Bool.and_eq_true,decide_eq_true_eq]at hc;obtain⟨⟨k,hp⟩,hs⟩:=hc;obtain⟨o1,o2⟩:=qai wx k;have le0:=qap wx k;have v0:=(qr6 o1).1.1 hs;obtain⟨m1,n1⟩:=q8v (d:=x.lo) v0;obtain⟨m2,n2⟩:=q8v (d:=x.hi) (by omega);unfold Iv.made;split
  ·rename_i h0;have dn:=(q8o o1 hp m1 n1).at h0.1;have up:=(q8n o2 hp m2 n2).at h0.2;obtain⟨sl,sh⟩:=qed k h;refine qr5 ⟨rSqrt_ok.w,rSqrt_ok.w⟩ fun _=>⟨?_,?_⟩
   ·show SLe (fun _=>(rSqrt x.lo p false).1.rat) r;intro ε he;rcases dn with dn|dn
    ·refine⟨0,fun n _=>?_⟩;have:=r0 n;have l0:(rSqrt x.lo p false).1.rat<=0:=by
      have:(rSqrt x.lo p false).1.rat<=Dy.zero.rat:=rat_le.2 (by rw[qgy];exact dn);rwa[q7q]at this
     show(rSqrt x.lo p false).1.rat<=r n+ε;grind
    ·have q:=qapy dn;have ee:=Rat.mul_pos he he;obtain⟨N,hN⟩:=sl (ε*ε/2) (by grind);obtain⟨M,hM⟩:=hr (ε*ε/2) (by grind);refine⟨max N M,fun n hn=>?_⟩;have a:=hN n (by omega);obtain⟨b,c⟩:=hM n (by omega);have rn:=r0 n;show(rSqrt x.lo p false).1.rat<=r n+ε;refine qoa (by grind) ?_;have m:=mul_nn rn (Rat.le_of_lt he);grind
   ·show SLe r (fun _=>(rSqrt x.hi p true).1.rat);obtain⟨up0,up1⟩:=up;have q:=qap4 up1;have h0':0<=(rSqrt x.hi p true).1.rat:=by
     have:Dy.zero.rat<=(rSqrt x.hi p true).1.rat:=rat_le.2 (by rw[qgy];exact up0);rwa[q7q]at this
    intro ε he;have ee:=Rat.mul_pos he he;obtain⟨N,hN⟩:=sh (ε*ε/2) (by grind);obtain⟨M,hM⟩:=hr (ε*ε/2) (by grind);refine⟨max N M,fun n hn=>?_⟩;have a:=hN n (by omega);obtain⟨b,c⟩:=hM n (by omega);show r n<=(rSqrt x.hi p true).1.rat+ε;refine qoa (by grind) ?_;have m:=mul_nn h0' (Rat.le_of_lt he);grind
  ·exact .whole
 ·exact .whole
theorem Null.of_evS {s t:Nat->Rat}(ht:Null t)(N:Nat)(h:∀n,N<=n->s n=t n):Null s:=fun ε he=>by
 obtain⟨M,hM⟩:=ht ε he;exact⟨max N M,fun n hn=>by rw[h n (by omega)];exact hM n (by omega)⟩
theorem qajp {x y:Iv}{p:Int}{s t u:Nat->Rat}{κ:Rat}(wx:x.W)(wy:y.W)(hs:x.Has s)(ht:y.Has t)(bt:Bnd t)(bu:Bnd u)(h:Near s (fun n=>u n*t n))(hκ:0<κ)(N:Nat)(hk:∀n,N<=n->2*κ<=t n*t n):(x.div y p).Has u:=by
 obtain⟨c,c1,c2⟩:=hs;obtain⟨e,e1,e2⟩:=ht;refine⟨fun n=>c n/e n,fun n=>q43 wx wy (c1 n) (e1 n),?_⟩;have be:Bnd e:=e2.bnd bt;have h1:Null fun n=>c n-u n*e n:=((Null.sub (Null.add h (Null.mul_left bu e2)) c2)).congr fun n=>by grind
 have h2:Null fun n=>t n*t n-e n*e n:=e2.mul e2 bt bt
 obtain⟨M,hM⟩:=h2 κ hκ;have lo:∀n,max N M<=n->κ<=e n*e n:=fun n hn=>by
  have a:=hk n (by omega);obtain⟨u,v⟩:=hM n (by omega);grind
 have h3:Null fun n=>e n*(c n-u n*e n):=Null.mul_left be h1
 have h4:Null fun n=>c n/e n-u n:=by
  refine Null.cancel (a:=fun n=>e n*e n) hκ (max N M) lo ?_;refine h3.of_evS (max N M) fun n hn=>?_
  have ne:e n≠0:=fun h0=>by have:=lo n hn;rw[h0]at this;grind
  show e n*e n*(c n/e n-u n)=e n*(c n-u n*e n);rw[Rat.div_def];have m:=Rat.mul_inv_cancel (e n) ne;have:e n*e n*(c n*(e n)⁻¹-u n)=e n*c n*(e n*(e n)⁻¹)-e n*e n*u n:=by grind
  rw[this,m];grind
 exact(Null.neg h4).congr fun n=>by show _=u n-c n/e n;grind
def hvR (w:Int)(y:Iv):Iv:=((nI 1 1).add (y.sq w) w).sqrt w
def hvI (w:Int)(y:Iv):Iv:=y.div ((nI 1 1).add (hvR w y) w) w
theorem hvI_W {w:Int}{y:Iv}:(hvI w y).W:=div_W
theorem qanv {w:Nat}{y:Iv}{k:Nat}{t t' r:Nat->Rat}(hp:precB (w:Int)=true)(wy:y.W)(hk:k<=100)(hy:y.Bt (-pw (16384-k)) (pw (16384-k)))(h:y.Has t)(ht:∀n,0<=t n/\t n<=1)(ht':∀n,t' n*(1+r n)=t n)(hr:∀n,1<=r n/\r n<=2)(h0':∀n,0<=t' n/\t' n<=1)(hrr:Near (fun n=>r n*r n) (fun n=>1+t n*t n)) :
 (hvI w y).Bt (-pw (16384-(k+1))) (pw (16384-(k+1)))/\(hvI w y).Has t':=by
 have p0:=qaw 16384;have p1:pw 16385=2*pw 16384:=qcj 16384;have p2:pw 16386=2*pw 16385:=qcj 16385;have w1:(nI 1 1).W:=nI_Wk (by decide);have n1:=nI_Bt (k:=1) (by decide);rw[Int.one_mul]at n1;have sq:=qapz (c:=pw 16384) wy hp hy (qc1 (by omega)) (by rw[<-qbh,<-qbh];exact pw_le (by omega));have a1:=qagw (p:=(w:Int)) w1 sq_W hp n1 sq (qc1 (a:=16384) (by omega)) (qc1 (a:=16385) (by omega)) (by omega) (by omega);have sr:=qamo (E:=pw 16384) (F:=pw 16385) add_W hp a1 p0 (qc1 (by omega)) (qc1 (by omega)) (Int.le_refl _) (Int.le_of_lt (qaw _)) (by rw[<-qbh,<-qbh];exact pw_le (by omega));have a2:=qagw (p:=(w:Int)) w1 q79 hp n1 sr (qc1 (a:=16385) (by omega)) (qc1 (a:=16386) (by omega)) (by omega) (by omega);have bt:Bnd t:=⟨1,0,fun n _=>by obtain⟨a,b⟩:=ht n;exact⟨by grind,b⟩⟩
 have br:Bnd r:=⟨2,0,fun n _=>by obtain⟨a,b⟩:=hr n;exact⟨by grind,b⟩⟩
 have bt':Bnd t':=⟨1,0,fun n _=>by obtain⟨a,b⟩:=h0' n;exact⟨by grind,b⟩⟩
 have i1:=(qs5 1).has;have e1:((1:Int):Rat)=1:=rfl;rw[e1]at i1;have h1:=qj3 (p:=(w:Int)) w1 sq_W i1 (qakt (p:=(w:Int)) wy h bt);have h2:=qah8 (p:=(w:Int)) add_W h1 (fun n=>by have:=(hr n).1;grind) hrr;have h3:=qj3 (p:=(w:Int)) w1 q79 i1 h2;refine⟨qwx (m:=pw 16385) wy add_W hp hy a2 (qaw _) (qc1 (by omega)) (Int.le_of_lt (qaw _)) (by rw[<-qbh,<-qbh];exact pw_le (by omega)),?_⟩;refine qajp (κ:=1) wy add_W h h3 ((Bnd.const 1).add br) bt' (Near.of_eq fun n=>(ht' n).symm) (by decide) 0 fun n _=>?_
 obtain⟨a,b⟩:=hr n;have:=qcs (a:=2) (b:=1+r n) (c:=2) (d:=1+r n) (by grind) (by grind) (by grind) (by decide);grind
def hvN (w:Int)(y:Iv):Nat->Iv
 |0=>y
 |j+1=>hvI w (hvN w y j)
theorem hvN_W {w:Int}{y:Iv}(h:y.W):∀j,(hvN w y j).W
 |0=>h
 |_+1=>hvI_W
theorem qae2 {w:Nat}{y:Iv}{x:Rat}(hp:precB (w:Int)=true)(wy:y.W)(hy:y.Bt (-pw 16384) (pw 16384))(h:y.In x)(h0:0<=x)(h1:x<=1):∀j,j<=50->(hvN w y j).Bt (-pw (16384-j)) (pw (16384-j))/\(hvN w y j).Has (hvn j x)
 |0,_=>⟨hy,h.has⟩
 |j+1,hj=>by
  obtain⟨b,hh⟩:=qae2 hp wy hy h h0 h1 j (by omega);have B:=fun n=>q4d h0 h1 n j
  have O:=fun n=>qgk (B n).1 (B n).2.1
  have R:=fun n=>qyu (O n).1 (O n).2 n
  refine qanv (r:=fun n=>rt (1+hvn j x n*hvn j x n) n) hp (hvN_W wy j) (by omega) b hh (fun n=>⟨(B n).1,(B n).2.1⟩) (fun n=>hv_eq (B n).1 (B n).2.1 n) (fun n=>⟨(R n).1,by have:=(R n).2.1;show rt _ n<=2;grind⟩) (fun n=>?_) (qadl (fun n=>(O n).1) fun n=>(O n).2);obtain⟨u,v⟩:=hv_bd (B n).1 (B n).2.1 n;have:=(B n).2.1;exact⟨u,by show hv (hvn j x n) n<=1;grind⟩
end Go.Abs.W
namespace Go.Abs.W
def rAtY (d:Dy)(w:Int):Iv:=if 0<d.top then(nI 1 1).div (Iv.pt d).abs w else(Iv.pt d).abs
def rAtX (d:Dy)(w:Int):Iv:=(rArc (hvN w (rAtY d w) 3) w).scl 3
def rAtZ (d:Dy)(w:Nat):Iv:=if 0<d.top then((rPi w).scl (-1)).add (rAtX d w).neg w else rAtX d w
def rAtan (d:Dy)(p:Nat):Iv:=if d.neg=true then(rAtZ d (p+40)).neg else rAtZ d (p+40)
theorem q8s {d:Dy}{w:Int}(ok:d.Ok):(rAtY d w).W:=by
 unfold rAtY;split
 ·exact div_W
 ·exact abs_W (pt_W ok.w)
theorem q3k {d:Dy}{w:Int}:(rAtX d w).W:=q5r
theorem q3j {d:Dy}{w:Nat}:(rAtZ d w).W:=by
 unfold rAtZ;split
 ·exact add_W
 ·exact q3k
theorem qr9 {d:Dy}{p:Nat}:(rAtan d p).W:=by
 unfold rAtan;split
 ·exact neg_W q3j
 ·exact q3j
theorem qur {d:Dy}(ok:d.Ok):(d.top<=0->d.val.natAbs<=pw 16384)/\(0<d.top->pw 16384<=d.val.natAbs):=by
 have hn:d.val.natAbs=d.absN:=qdt d;rw[hn];by_cases hm:d.m=[]
 ·have:=Dy.absN_nil hm;have p0:=qaw 16384;refine⟨fun _=>by omega,fun h=>?_⟩;unfold Dy.top at h;rw[if_pos hm]at h;omega
 ·obtain⟨b1,b2⟩:=ok.absN_bounds hm;have tp:=ok.top_pos hm;constructor
  ·intro h;have h1:(d.absN:Int)<pw (d.top+16384).toNat:=by unfold pw;exact Int.ofNat_lt.2 b2
   have h2:pw (d.top+16384).toNat<=pw 16384:=pw_le (by omega);omega
  ·intro h;have h1:pw (d.top+16383).toNat<=(d.absN:Int):=by unfold pw;exact Int.ofNat_le.2 b1
   have h2:pw 16384<=pw (d.top+16383).toNat:=pw_le (by omega);omega
theorem qaio (d:Dy):rabs d.rat*sc=((d.val.natAbs:Int):Rat):=by
 have hs:=qbf;have h:=qay d;unfold rabs;split
 ·rename_i h0;have:0<=d.val:=by
   have:=mul_nn h0 (Rat.le_of_lt hs);rw[h]at this;exact Rat.intCast_le_intCast.1 this
  rw[h,show((d.val.natAbs:Int))=d.val by omega]
 ·rename_i h0;have:d.val<=0:=by
   have:=mul_nn (show 0<=-d.rat by grind) (Rat.le_of_lt hs);refine Rat.intCast_le_intCast.1 ?_;rw[<-h];show d.rat*sc<=0;grind
  rw[show((d.val.natAbs:Int))=-d.val by omega,Rat.intCast_neg,<-h];grind
theorem q8m {d:Dy}(ok:d.Ok):(d.top<=0->rabs d.rat<=1)/\(0<d.top->1<=rabs d.rat):=by
 have hs:=qbf;obtain⟨a,b⟩:=qur ok;have h:=qaio d;have e:((pw 16384:Int):Rat)=sc:=rfl;constructor
 ·intro ht;have c:=qav (a ht);rw[e,<-h]at c;exact Rat.le_of_mul_le_mul_right (by rw[Rat.one_mul];exact c) hs
 ·intro ht;have c:=qav (b ht);rw[e,<-h]at c;exact Rat.le_of_mul_le_mul_right (by rw[Rat.one_mul];exact c) hs
def atX (d:Dy):Rat:=if 0<d.top then 1/rabs d.rat else rabs d.rat
theorem qagq {d:Dy}(ok:d.Ok):0<=atX d/\atX d<=1:=by
 obtain⟨a,b⟩:=q8m ok;have r0:=qam2 d.rat;unfold atX;split
 ·rename_i h;have h1:=b h;have i:=Rat.inv_pos.2 (show 0<rabs d.rat by grind);have m:=qa0 (show 0<rabs d.rat by grind);rw[Rat.div_def,Rat.one_mul];have:=mul_nn (show 0<=rabs d.rat-1 by grind) (Rat.le_of_lt i);exact⟨Rat.le_of_lt i,by grind⟩
 ·rename_i h;exact⟨r0,a (by omega)⟩
theorem qair {d:Dy}{w:Nat}(ok:d.Ok)(hp:precB (w:Int)=true):(rAtY d w).Bt (-pw 16384) (pw 16384)/\(rAtY d w).In (atX d):=by
 have wp:(Iv.pt d).W:=pt_W ok.w;have kp:=qpd ok;obtain⟨k,o1,o2,n1,n2⟩:=qxd wp kp;obtain⟨v1,v2⟩:=qrs wp kp;have i:=qagy wp (pt_In d);obtain⟨a,b⟩:=qur ok;have p0:=qaw 16384;have e1:(Iv.pt d).lo.val=d.val:=rfl;have e2:(Iv.pt d).hi.val=d.val:=rfl;rw[e1,e2]at v1 v2;unfold rAtY atX;by_cases ht:0<d.top
 ·rw[if_pos ht,if_pos ht];have b':=b ht;have w1:(nI 1 1).W:=nI_Wk (by decide);have n1':=nI_Bt (k:=1) (by decide);rw[Int.one_mul]at n1';have lo:pw 16384<=(Iv.pt d).abs.lo.val:=by
   rw[v2,if_pos (by omega)];omega
  exact⟨qwx (m:=pw 16384) w1 (abs_W wp) hp (n1'.mono (by omega) (by omega)) ⟨k,lo,Int.le_refl _⟩ p0 (qc1 (by omega)) (Int.le_of_lt p0) (Int.le_refl _),q43 (p:=(w:Int)) w1 (abs_W wp) qak6 i⟩
 ·rw[if_neg ht,if_neg ht];have a':=a (by omega);exact⟨⟨k,by omega,by omega⟩,i⟩
theorem qamr {x:Iv}{s:Nat->Rat}(wx:x.W)(h:x.Has s):(x.scl 3).Has (fun n=>8*s n):=by
 obtain⟨c,h1,h2⟩:=h;refine⟨fun n=>8*c n,fun n=>qaky (a:=3) (b:=0) wx (by omega) ?_ (h1 n),?_⟩
 ·rw[show((pw 0:Int):Rat)=1 from rfl,show((pw 3:Int):Rat)=8 from rfl];grind
 ·exact Null.congr (Null.mul h2 (Bnd.const 8)) fun n=>by grind
theorem qvb {d:Dy}{w:Nat}(ok:d.Ok)(hp:precB (w:Int)=true):(hvN w (rAtY d w) 3).Bt (-pw 16382) (pw 16382)/\(hvN w (rAtY d w) 3).Has (hvn 3 (atX d)):=by
 obtain⟨b,i⟩:=qair (w:=w) ok hp;obtain⟨x0,x1⟩:=qagq ok;obtain⟨b3,h3⟩:=qae2 hp (q8s ok) b i x0 x1 3 (by omega);have:=pw_le (show 16384-3<=16382 by omega);exact⟨b3.mono (by omega) (by omega),h3⟩
theorem qais {d:Dy}{w:Nat}(ok:d.Ok)(hp:precB (w:Int)=true):(rAtX d w).Has (th0 (atX d)):=by
 have hpp:=precB_iff.1 hp;obtain⟨b3,h3⟩:=qvb (w:=w) ok hp;obtain⟨x0,x1⟩:=qagq ok;have w3:(hvN w (rAtY d w) 3).W:=hvN_W (q8s ok) 3;have a:=q0n (p:=w) (z:=hvn 3 (atX d)) (N:=0) w3 b3.k (by omega) (fun n _=>by obtain⟨u,v⟩:=q9j x0 x1 n;exact⟨u,by grind⟩) h3 (qil w3 hp b3);exact(qamr qs2 a).near (Near.of_eq fun n=>rfl)
theorem qal6 {d:Dy}:th d.rat=fun n=>(if d.neg=true then -1 else 1)*thp (rabs d.rat) n:=by
 have hs:=qbf;have h:=qay d;have ev:d.val=if d.neg=true then -(d.absN:Int)else(d.absN:Int):=rfl;cases hn:d.neg
 ·have v0:0<=d.val:=by rw[ev,hn];simp
  have r0:0<=d.rat:=by
   have c:=qav v0;rw[<-h]at c;refine Rat.le_of_mul_le_mul_right (c:=sc) ?_ hs;rw[Rat.zero_mul];exact c
  have e:rabs d.rat=d.rat:=by unfold rabs;rw[if_pos r0]
  rw[quv r0,e];funext n;simp only[Bool.false_eq_true,if_false];grind
 ·have v0:d.val<=0:=by rw[ev,hn];simp
  have r0:d.rat<=0:=by
   have c:=qav v0;rw[<-h]at c;refine Rat.le_of_mul_le_mul_right (c:=sc) ?_ hs;rw[Rat.zero_mul];exact c
  have t:=qapt (-d.rat);rw[show - -d.rat=d.rat by grind,quv (show 0<=-d.rat by grind)]at t;have e:rabs d.rat=-d.rat:=by unfold rabs;split<;>grind
  rw[t,e];funext n;simp only[if_true];grind
theorem qaiq {d:Dy}{w:Nat}(ok:d.Ok)(h1:8<=w)(h2:w<=492):(rAtZ d w).Has (thp (rabs d.rat)):=by
 have hp:precB (w:Int)=true:=precB_iff.2 (by omega);have hx:=qais (w:=w) ok hp;obtain⟨x0,x1⟩:=qagq ok;obtain⟨r1,r2⟩:=q8m ok;unfold rAtZ;unfold atX at hx x0 x1;by_cases ht:0<d.top
 ·rw[if_pos ht]at hx x0 x1 ⊢;have ra:=r2 ht;have hpi2:=q6o rPi_W (q6d h1 h2);have s:=q5y (p:=(w:Int)) q5r q3k hpi2 hx;refine s.near ?_;have t:=qapu (d:=rabs d.rat) (by grind);rw[quv (show 0<=rabs d.rat by grind),quv x0]at t;have e:thp (1/rabs d.rat)=th0 (1/rabs d.rat):=by unfold thp;rw[if_pos x1]
  rw[e]at t;exact t.congr fun n=>by show _=thp (rabs d.rat) n-(2*hpi n/2-th0 (1/rabs d.rat) n);grind
 ·rw[if_neg ht]at hx x0 x1 ⊢;have e:thp (rabs d.rat)=th0 (rabs d.rat):=by unfold thp;rw[if_pos x1]
  rw[e];exact hx
theorem q3i {d:Dy}{p:Nat}(ok:d.Ok)(h2:p<=450):(rAtan d p).Has (th d.rat):=by
 have h:=qaiq (w:=p+40) ok (by omega) (by omega);rw[qal6];unfold rAtan;cases d.neg
 ·simp only[Bool.false_eq_true,if_false];exact h.near (Near.of_eq fun n=>by grind)
 ·simp only[if_true];exact(qp9 q3j h).near (Near.of_eq fun n=>by grind)
set_option maxHeartbeats 1000000 in
theorem q8q (d:Dy)(p:Nat)(ok:d.Ok)(hp2:p<=450):CQ prog qq8 [d.v,.int .i64 p] (rAtan d p).v:=by
 refine qah rfl fun H=>?_
 have⟨w,hw⟩:∃w,w=p+40:=⟨_,rfl⟩
 have hp:precB (w:Int)=true:=precB_iff.2 (by omega);have ew:IntKind.i64.wrap ((p:Int)+40)=(w:Int):=by rw[wrap_i64]<;>omega
 have wp:(Iv.pt d).W:=pt_W ok.w;have c1:=qhb d;have c2:=qaan (Iv.pt d) wp;have c3:=qaha d ok;have i1:=qd4 1 (by omega) (by omega);have w1:(nI 1 1).W:=nI_Wk (by decide);have c4:=qg7 (nI 1 1) (Iv.pt d).abs w w1 (abs_W wp);have wY:(rAtY d w).W:=q8s ok;obtain⟨b3,_⟩:=qvb (w:=w) ok hp;have w3:(hvN w (rAtY d w) 3).W:=hvN_W wY 3;have c5:=q6b (hvN w (rAtY d w) 3) w w3 (.inr b3.k) (by omega) (by omega) (qil w3 hp b3);have c6:=qpm (rArc (hvN w (rAtY d w) 3) w) 3 qs2;rw[show(rArc (hvN w (rAtY d w) 3) w).scl 3=rAtX d w from rfl]at c6;have c7:=qr8 w (by omega) (by omega);have c8:=qpm (rPi w) (-1) rPi_W;have c9:=q2p ((rPi w).scl (-1)) (rAtX d w) w q5r q3k;have c10:=qpn (rAtZ d w) q3j;have eR:rAtan d p=if d.neg=true then(rAtZ d w).neg else rAtZ d w:=by unfold rAtan;rw[<-hw]
 have eZ:rAtZ d w=if 0<d.top then((rPi w).scl (-1)).add (rAtX d w).neg w else rAtX d w:=rfl;have eY:rAtY d w=if 0<d.top then(nI 1 1).div (Iv.pt d).abs w else(Iv.pt d).abs:=rfl;have sq:=fun(y:Iv) (wy:y.W)=>qxj y w wy
 rw[eR];clear eR b3;have⟨Y,hY⟩:∃Y,Y=rAtY d w:=⟨_,rfl⟩
 rw[<-hY]at eY;by_cases ht:0<d.top
 ·rw[if_pos ht]at eY eZ;rw[<-eY]at c4;rw[<-hY]at c5 c6 wY w3;have stp:∀j,(hvN w Y j).W:=fun j=>hvN_W wY j
  have hst:∀j,hvN w Y (j+1)=(hvN w Y j).div ((nI 1 1).add (((nI 1 1).add ((hvN w Y j).sq w) w).sqrt w) w) w:=fun _=>rfl
  clear eY eZ;rw[show((rPi w).scl (-1)).add (rAtX d w).neg w=rAtZ d w from(by unfold rAtZ;rw[if_pos ht])]at c9;generalize (rAtZ d w).neg=NZ at *
  generalize rAtZ d w=Z at *
  generalize rAtX d w=X at *
  simp;refine zq c1 ?_;simp[ew];refine zq c2 ?_;simp;refine zq c3 ?_;simp[ht];refine zq i1 ?_;simp;refine zq c4 ?_;simp;refine WK_up (fun i E H'=>(∃G,H'=H++some ⟨3,[d.v],false,true⟩ :: some ⟨7,[zIv],false,true⟩ :: some ⟨7,[(hvN w Y i).v],false,true⟩ :: G)/\E 2=.ptr H.length 0 0/\E 4=.ptr (H.length+1) 0 0/\E 5=.int .i64 w/\E 6=.ptr (H.length+2) 0 0/\E 7=.bool true/\E 8=.int .i64 i) 3 ?_ ?_
  ·exact⟨⟨[],by simp[zIv,hvN,lim]⟩,by simp,by simp,by simp,by simp,by simp,by simp⟩
  ·rintro i E H' hi ⟨⟨G,rfl⟩,e2,e4,e5,e6,e7,e8⟩;by_cases hlt:i<3
   ·have l1:(i:Int)<3:=by omega
    have e9:IntKind.i64.wrap ((i:Int)+1)=((i+1:Nat):Int):=by rw[wrap_i64]<;>omega
    have wy:=stp i;have hs:=hst i;have d1:=sq (hvN w Y i) wy;rw[qadm wy]at d1;have d2:=qfe (nI 1 1) ((hvN w Y i).sq w) w w1 sq_W;have d3:=q5p ((nI 1 1).add ((hvN w Y i).sq w) w) w add_W;have d4:=qfe (nI 1 1) (((nI 1 1).add ((hvN w Y i).sq w) w).sqrt w) w w1 q79;have d5:=qg7 (hvN w Y i) ((nI 1 1).add (((nI 1 1).add ((hvN w Y i).sq w) w).sqrt w) w) w wy add_W;rw[<-hs]at d5;generalize (nI 1 1).add (((nI 1 1).add ((hvN w Y i).sq w) w).sqrt w) w=T4 at *
    generalize ((nI 1 1).add ((hvN w Y i).sq w) w).sqrt w=T3 at *
    generalize (nI 1 1).add ((hvN w Y i).sq w) w=T2 at *
    generalize (hvN w Y i).sq w=T1 at *
    generalize hvN w Y (i+1)=Y2 at *
    generalize hvN w Y i=Y1 at *
    generalize nI 1 1=one at *
    simp[qb0,e8,l1];refine zq i1 ?_;simp[e5,e6];refine zq d1 ?_;simp[e5];refine zq d2 ?_;simp[e5];refine zq d3 ?_;simp[e6];refine zq i1 ?_;simp[e5];refine zq d4 ?_;simp[e5];refine zq d5 ?_;simp[e2,e4,e5,e6,e7,e8];exact⟨hlt,by simpa using e9⟩
   ·obtain rfl:i=3:=by omega
    generalize hvN w Y 3=Y3 at *
    generalize rArc Y3 w=A at *
    simp[qb0,e5,e6,e8];refine zq c5 ?_;simp;refine zq c6 ?_;simp[e5,e7];refine zq c7 ?_;simp;refine zq c8 ?_;simp[e5];refine zq c9 ?_;simp[e2];cases hn:d.neg
    ·simp[e4,zIv,lim]
    ·simp;refine zq c10 ?_;simp[e4,zIv,lim]
 ·rw[if_neg ht]at eY eZ;rw[<-eY]at c2;rw[<-hY]at c5 c6 wY w3;have stp:∀j,(hvN w Y j).W:=fun j=>hvN_W wY j
  have hst:∀j,hvN w Y (j+1)=(hvN w Y j).div ((nI 1 1).add (((nI 1 1).add ((hvN w Y j).sq w) w).sqrt w) w) w:=fun _=>rfl
  clear eY c4 c7 c8 c9;have hZ:rAtZ d w=rAtX d w:=by unfold rAtZ;rw[if_neg ht]
  rw[hZ]at c10 ⊢;generalize (rAtX d w).neg=NZ at *
  generalize rAtX d w=X at *
  simp;refine zq c1 ?_;simp[ew];refine zq c2 ?_;simp;refine zq c3 ?_;simp[ht];refine WK_up (fun i E H'=>(∃G,H'=H++some ⟨3,[d.v],false,true⟩ :: some ⟨7,[zIv],false,true⟩ :: some ⟨7,[(hvN w Y i).v],false,true⟩ :: G)/\E 2=.ptr H.length 0 0/\E 4=.ptr (H.length+1) 0 0/\E 5=.int .i64 w/\E 6=.ptr (H.length+2) 0 0/\E 7=.bool false/\E 8=.int .i64 i) 3 ?_ ?_
  ·exact⟨⟨[],by simp[zIv,hvN,lim]⟩,by simp,by simp,by simp,by simp,by simp,by simp⟩
  ·rintro i E H' hi ⟨⟨G,rfl⟩,e2,e4,e5,e6,e7,e8⟩;by_cases hlt:i<3
   ·have l1:(i:Int)<3:=by omega
    have e9:IntKind.i64.wrap ((i:Int)+1)=((i+1:Nat):Int):=by rw[wrap_i64]<;>omega
    have wy:=stp i;have hs:=hst i;have d1:=sq (hvN w Y i) wy;rw[qadm wy]at d1;have d2:=qfe (nI 1 1) ((hvN w Y i).sq w) w w1 sq_W;have d3:=q5p ((nI 1 1).add ((hvN w Y i).sq w) w) w add_W;have d4:=qfe (nI 1 1) (((nI 1 1).add ((hvN w Y i).sq w) w).sqrt w) w w1 q79;have d5:=qg7 (hvN w Y i) ((nI 1 1).add (((nI 1 1).add ((hvN w Y i).sq w) w).sqrt w) w) w wy add_W;rw[<-hs]at d5;generalize (nI 1 1).add (((nI 1 1).add ((hvN w Y i).sq w) w).sqrt w) w=T4 at *
    generalize ((nI 1 1).add ((hvN w Y i).sq w) w).sqrt w=T3 at *
    generalize (nI 1 1).add ((hvN w Y i).sq w) w=T2 at *
    generalize (hvN w Y i).sq w=T1 at *
    generalize hvN w Y (i+1)=Y2 at *
    generalize hvN w Y i=Y1 at *
    generalize nI 1 1=one at *
    simp[qb0,e8,l1];refine zq i1 ?_;simp[e5,e6];refine zq d1 ?_;simp[e5];refine zq d2 ?_;simp[e5];refine zq d3 ?_;simp[e6];refine zq i1 ?_;simp[e5];refine zq d4 ?_;simp[e5];refine zq d5 ?_;simp[e2,e4,e5,e6,e7,e8];exact⟨hlt,by simpa using e9⟩
   ·obtain rfl:i=3:=by omega
    generalize hvN w Y 3=Y3 at *
    generalize rArc Y3 w=A at *
    simp[qb0,e5,e6,e8];refine zq c5 ?_;simp;refine zq c6 ?_;simp[e7];simp[e2];cases hn:d.neg
    ·simp[e4,zIv,lim]
    ·simp;refine zq c10 ?_;simp[e4,zIv,lim]
end Go.Abs.W
