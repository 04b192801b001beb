/- Parts of the proof: FpWg, FpWh, FpWi, FpWj, FpWk, FpWl. -/
import Derived.Test.YtnkijamajifgpaaGreatDoorWx
import Derived.Test.YtnkijamajifgpaaGreatDoorWd
namespace Go.Abs.W
structure Nr (x:Iv)(q δ:Rat):Prop where
 k:x.known=true
 lo:q-δ<=x.lo.rat
 hi:x.hi.rat<=q+δ
theorem Nr.mono {x:Iv}{q δ ε:Rat}(h:Nr x q δ)(k:δ<=ε):Nr x q ε:=⟨h.k,by have:=h.lo;grind,by have:=h.hi;grind⟩
theorem Nr.ends {x:Iv}{q δ:Rat}(w:x.W)(h:Nr x q δ):Bd (x.lo.rat-q) δ/\Bd (x.hi.rat-q) δ:=by
 have a:=h.lo;have b:=h.hi;have c:=rat_le.2 (qap w h.k);exact⟨⟨by grind,by grind⟩,by grind,by grind⟩
theorem Nr.nn {x:Iv}{q δ:Rat}(w:x.W)(h:Nr x q δ):0<=δ:=(h.ends w).1.nn
def ulp (t p:Nat):Rat:=p2 t*(p2 p)⁻¹
theorem qmf (t p:Nat):0<ulp t p:=Rat.mul_pos (qa4 t) (Rat.inv_pos.2 (qa4 p))
theorem sc_p2 : sc=p2 16384:=pwq 16384
theorem qn7 {t p:Nat}(hp:p<=16384+t):((pw (16384+t-p):Int):Rat)=ulp t p*sc:=by
 rw[pwq,sc_p2];unfold ulp;have h:p2 (16384+t-p)*p2 p=p2 16384*p2 t:=by
  rw[<-qdy,<-qdy];exact congrArg p2 (by omega)
 have m:=qa0 (qa4 p);have e:p2 (16384+t-p)*p2 p*(p2 p)⁻¹=p2 (16384+t-p):=by rw[Rat.mul_assoc,m,Rat.mul_one]
 rw[<-e,h];grind
theorem pw_sc (t:Nat):((pw (16384+t):Int):Rat)=p2 t*sc:=by
 rw[pwq,sc_p2,qdy];grind
theorem q8l {d:Dy}{A:Int}{q:Rat}(h:A<=d.val)(hq:q*sc<=(A:Rat)):q<=d.rat:=by
 have c:=qav h;rw[<-qay d]at c;exact Rat.le_of_mul_le_mul_right (Rat.le_trans hq c) qbf
theorem q0m {d:Dy}{A:Int}{q:Rat}(h:d.val<=A)(hq:(A:Rat)<=q*sc):d.rat<=q:=by
 have c:=qav h;rw[<-qay d]at c;exact Rat.le_of_mul_le_mul_right (Rat.le_trans c hq) qbf
theorem q4c {v:Int}{q:Rat}{t:Nat}(hv:(v:Rat)=q*sc)(h:Bd q (p2 t)):-pw (16384+t)<=v/\v<=pw (16384+t):=by
 have hs:=Rat.le_of_lt qbf;obtain⟨a,b⟩:=h;have m1:=mul_nn (show 0<=p2 t-q by grind) hs;have m2:=mul_nn (show 0<=p2 t+q by grind) hs;have e:=pw_sc t;constructor
 ·refine Rat.intCast_le_intCast.1 ?_;rw[Rat.intCast_neg,e,hv];grind
 ·refine Rat.intCast_le_intCast.1 ?_;rw[e,hv];grind
section
variable {p t : Nat} {x y : Iv} {q r δ ε : Rat}
theorem qaqe (wx:x.W)(hx:Nr x q δ):Nr x.neg (-q) δ:=by
 obtain⟨o1,o2⟩:=qai wx hx.k;have e:x.neg=⟨x.hi.neg',x.lo.neg',false⟩:=by unfold Iv.neg;rw[if_pos hx.k]
 have k:=(q3u wx ⟨hx.k,Int.le_refl _,Int.le_refl _⟩).k;refine⟨k,?_,?_⟩
 ·rw[e];show _<=x.hi.neg'.rat;rw[qgz];have:=hx.hi;grind
 ·rw[e];show x.lo.neg'.rat<=_;rw[qgz];have:=hx.lo;grind
theorem qalt (wx:x.W)(wy:y.W)(hp:precB (p:Int)=true)(hx:Nr x q δ)(hy:Nr y r ε)(ht:t<=1000)(hb:Bd (q+r) (p2 t-δ-ε)):Nr (x.add y p) (q+r) (δ+ε+ulp t p):=by
 have hpp:=precB_iff.1 hp;have hs:=Rat.le_of_lt qbf;have l1:=hx.lo;have l2:=hy.lo;have l3:=hx.hi;have l4:=hy.hi;obtain⟨b1,b2⟩:=hb;obtain⟨⟨a1,a2⟩,a3,a4⟩:=hx.ends wx;obtain⟨⟨c1,c2⟩,c3,c4⟩:=hy.ends wy;obtain⟨i1,i2⟩:=q4c (t:=t) (v:=x.lo.val+y.lo.val) (q:=x.lo.rat+y.lo.rat) (by rw[Rat.intCast_add,<-qay x.lo,<-qay y.lo];grind) ⟨by grind,by grind⟩;obtain⟨j1,j2⟩:=q4c (t:=t) (v:=x.hi.val+y.hi.val) (q:=x.hi.rat+y.hi.rat) (by rw[Rat.intCast_add,<-qay x.hi,<-qay y.hi];grind) ⟨by grind,by grind⟩;have b:=qagv (m:=16384+t) (p:=(p:Int)) wx wy hp hx.k hy.k (by rw[q73];omega) (by omega) i1 j2;rw[q73]at b;refine⟨b.k,q8l b.lo ?_,q0m b.hi ?_⟩
 ·rw[Rat.intCast_sub,Rat.intCast_add,qn7 (by omega),<-qay x.lo,<-qay y.lo];have m:=mul_nn (show 0<=(x.lo.rat+y.lo.rat)-(q+r-δ-ε) by grind) hs;grind
 ·rw[Rat.intCast_add,Rat.intCast_add,qn7 (by omega),<-qay x.hi,<-qay y.hi];have m:=mul_nn (show 0<=(q+r+δ+ε)-(x.hi.rat+y.hi.rat) by grind) hs;grind
theorem qalh {u:Dy × Int}{le:Int->Prop}{v:Int}{s:Rat}(h:IsDn p u le)(hle:∀g,le g↔g<=v)(hv:(v:Rat)<=s*sc)(hv2:s*sc<=(v:Rat)+1)(hp:8<=p/\p<=512)(ht:t<=1000)(hs:Bd s (p2 t-1)):u.2=0/\s-2*ulp t p<=u.1.rat:=by
 have e:le=fun g=>g<=v:=funext fun g=>propext (hle g)
 rw[e]at h;have hsc:=qbf;have sc1:1<=sc:=by rw[sc_p2];have:=p2_ge 16384;have:=natnn 16384;grind
 obtain⟨s1,s2⟩:=hs;have m1:=mul_nn (show 0<=p2 t-1-s by grind) (Rat.le_of_lt hsc);have m2:=mul_nn (show 0<=p2 t-1+s by grind) (Rat.le_of_lt hsc);have ep:=pw_sc t;have b1:-pw (16384+t)<=v:=by
  refine Rat.intCast_le_intCast.1 ?_;rw[Rat.intCast_neg,ep];grind
 have b2:v<=pw (16384+t):=by
  refine Rat.intCast_le_intCast.1 ?_;rw[ep];grind
 obtain⟨c1,c2⟩:=h.err (m:=16384+t) (by omega) (by omega) b1 b2;refine⟨c1,q8l c2 ?_⟩;rw[Rat.intCast_sub,qn7 (by omega)];have one:1<=ulp t p*sc:=by
  rw[<-qn7 (by omega)];have:(1:Int)<=pw (16384+t-p):=by have:=qaw (16384+t-p);omega
  exact qav this
 grind
theorem qako {u:Dy × Int}{ge:Int->Prop}{v:Int}{s:Rat}(h:IsUp p u ge)(hge:∀g,ge g↔v<=g)(hv:s*sc<=(v:Rat))(hv2:(v:Rat)<=s*sc+1)(hp:8<=p/\p<=512)(ht:t<=1000)(hs:Bd s (p2 t-1)):u.2=0/\u.1.rat<=s+2*ulp t p:=by
 have e:ge=fun g=>v<=g:=funext fun g=>propext (hge g)
 rw[e]at h;have hsc:=qbf;have sc1:1<=sc:=by rw[sc_p2];have:=p2_ge 16384;have:=natnn 16384;grind
 obtain⟨s1,s2⟩:=hs;have m1:=mul_nn (show 0<=p2 t-1-s by grind) (Rat.le_of_lt hsc);have m2:=mul_nn (show 0<=p2 t-1+s by grind) (Rat.le_of_lt hsc);have ep:=pw_sc t;have b1:-pw (16384+t)<=v:=by
  refine Rat.intCast_le_intCast.1 ?_;rw[Rat.intCast_neg,ep];grind
 have b2:v<=pw (16384+t):=by
  refine Rat.intCast_le_intCast.1 ?_;rw[ep];grind
 obtain⟨c1,c2⟩:=h.err (m:=16384+t) (by omega) (by omega) b1 b2;refine⟨c1,q0m c2 ?_⟩;rw[Rat.intCast_add,qn7 (by omega)];have one:1<=ulp t p*sc:=by
  rw[<-qn7 (by omega)];have:(1:Int)<=pw (16384+t-p):=by have:=qaw (16384+t-p);omega
  exact qav this
 grind
theorem qafc {f g:Dy->Dy->Dy × Int}{le ge:Dy->Dy->Int->Prop}(okf:∀a b,(f a b).1.Ok)(okg:∀a b,(g a b).1.Ok)
 (d1:IsDn p (f (qag x y 0).1 (qag x y 0).2) (le (qag x y 0).1 (qag x y 0).2)) (u1:IsUp p (g (qag x y 0).1 (qag x y 0).2) (ge (qag x y 0).1 (qag x y 0).2))
 (lg:∀h h2,le (qag x y 0).1 (qag x y 0).2 h->ge (qag x y 0).1 (qag x y 0).2 h2->h<=h2)
 (cd:∀i,i<4->(f (qag x y i).1 (qag x y i).2).2=0/\q-δ<=(f (qag x y i).1 (qag x y i).2).1.rat)
 (cu:∀i,i<4->(g (qag x y i).1 (qag x y i).2).2=0/\(g (qag x y i).1 (qag x y i).2).1.rat<=q+δ):Nr (Iv.four f g x y) q δ:=by
 have hs:good4 f g x y 4:=fun i hi=>⟨(cd i hi).1,(cu i hi).1⟩
 obtain⟨v1,k1⟩:=ql4 d1 u1 lg okf okg;have hsc:=qbf;have lo:∀i,i<4->-(-((q-δ)*sc)).floor<=(f (qag x y i).1 (qag x y i).2).1.val:=fun i hi=>by
  have h:=(cd i hi).2;have m:=mul_nn (show 0<=(f (qag x y i).1 (qag x y i).2).1.rat-(q-δ) by grind) (Rat.le_of_lt hsc);have e:=qay (f (qag x y i).1 (qag x y i).2).1;have:-(f (qag x y i).1 (qag x y i).2).1.val<=(-((q-δ)*sc)).floor:=Rat.le_floor_iff.2 (by rw[Rat.intCast_neg,<-e];grind);omega
 have hi:∀i,i<4->(g (qag x y i).1 (qag x y i).2).1.val<=((q+δ)*sc).floor:=fun i hi=>by
  have h:=(cu i hi).2;have m:=mul_nn (show 0<=(q+δ)-(g (qag x y i).1 (qag x y i).2).1.rat by grind) (Rat.le_of_lt hsc);have e:=qay (g (qag x y i).1 (qag x y i).2).1;exact Rat.le_floor_iff.2 (by rw[<-e];grind)
 have l1:=q00 okf (x:=x) (y:=y) lo;have l2:=q2m okg (x:=x) (y:=y) hi;rw[qd8 hs];refine⟨qbj (qcq okf 4) (qcr okg 4) (k1 hs),q8l l1 ?_,q0m l2 (Rat.floor_le _)⟩;have:=Rat.floor_le (-((q-δ)*sc));rw[Rat.intCast_neg];grind
theorem qad9 (wx:x.W)(wy:y.W)(hx:Nr x q δ)(hy:Nr y r ε){i:Nat}(hi:i<4):Bd ((qag x y i).1.rat-q) δ/\Bd ((qag x y i).2.rat-r) ε:=by
 have q1:=qap wx hx.k;have q2:=qap wy hy.k;obtain⟨g1,g2,g3,g4⟩:=qcx hi q1 q2;have a1:=rat_le.2 g1;have a2:=rat_le.2 g2;have a3:=rat_le.2 g3;have a4:=rat_le.2 g4;obtain⟨⟨b1,b2⟩,b3,b4⟩:=hx.ends wx;obtain⟨⟨c1,c2⟩,c3,c4⟩:=hy.ends wy;exact⟨⟨by grind,by grind⟩,by grind,by grind⟩
theorem qam8 {u v Q R:Rat}(hu:Bd (u-q) δ)(hv:Bd (v-r) ε)(hq:Bd q Q)(hr:Bd r R):Bd (u*v-q*r) (Q*ε+R*δ+δ*ε):=by
 obtain⟨a1,a2⟩:=hq.mul hv;obtain⟨b1,b2⟩:=hr.mul hu;obtain⟨c1,c2⟩:=hu.mul hv;constructor<;>grind
theorem qakn {P uv g:Int}(p0:0<P):uv<=g*P↔-(-uv/P)<=g:=by
 have key:=Int.le_ediv_iff_mul_le (a:=-g) (b:=-uv) (c:=P) p0;rw[Int.neg_mul]at key;constructor
 ·intro h;have:=key.2 (Int.neg_le_neg h);omega
 ·intro h;exact Int.le_of_neg_le_neg (key.1 (by omega))
theorem qaqh {Q R:Rat}(wx:x.W)(wy:y.W)(hp:precB (p:Int)=true)(hx:Nr x q δ)(hy:Nr y r ε)(hq:Bd q Q)(hr:Bd r R)(ht:t<=1000)(hb:Q*R+(Q*ε+R*δ+δ*ε)<=p2 t-1):Nr (x.mul y p) (q*r) (Q*ε+R*δ+δ*ε+2*ulp t p):=by
 have hpp:=precB_iff.1 hp;have ox:=qai wx hx.k;have oy:=qai wy hy.k;have p0:=qaw 16384;have hsc:=qbf;obtain⟨n1,n2⟩:=hq.mul hr;have ep:((pw 16384:Int):Rat)=sc:=rfl;unfold Iv.mul;rw[hx.k,hy.k,hp,if_pos (by rfl)];have corner:∀i,i<4->Bd ((qag x y i).1.rat*(qag x y i).2.rat-q*r) (Q*ε+R*δ+δ*ε):=fun i hi=>by
  obtain⟨a,b⟩:=qad9 wx wy hx hy hi;exact qam8 a b hq hr
 have o0:=qbd (x:=x) (y:=y) (i:=0) (by omega) ox oy;refine qafc (le:=fun u v g=>g*pw 16384<=u.val*v.val) (ge:=fun u v g=>u.val*v.val<=g*pw 16384) (fun _ _=>rMul_ok) (fun _ _=>rMul_ok) (qml o0.1 o0.2 hp) (qmk o0.1 o0.2 hp) (fun h h2 g1 g2=>(qbb p0).1 (by omega)) ?_ ?_
 ·intro i hi;have o:=qbd hi ox oy;obtain⟨c1,c2⟩:=corner i hi;generalize (qag x y i).1=u at *
  generalize (qag x y i).2=v at *
  have ev:((u.val*v.val:Int):Rat)=u.rat*v.rat*sc*sc:=by rw[Rat.intCast_mul,<-qay u,<-qay v];grind
  have h1:=qav (Int.ediv_mul_le (u.val*v.val) (show pw 16384≠0 by omega));have h2:=qav (Int.le_of_lt (Int.lt_ediv_add_one_mul_self (u.val*v.val) p0));rw[ev,Rat.intCast_mul,ep]at h1;rw[ev,Rat.intCast_mul,Rat.intCast_add,ep,show((1:Int):Rat)=1 from rfl]at h2;obtain⟨e1,e2⟩:=qalh (t:=t) (s:=u.rat*v.rat) (qml o.1 o.2 hp) (fun g=>(Int.le_ediv_iff_mul_le p0).symm) (Rat.le_of_mul_le_mul_right h1 hsc) (Rat.le_of_mul_le_mul_right h2 hsc) ⟨by omega,by omega⟩ ht ⟨by grind,by grind⟩;exact⟨e1,by grind⟩
 ·intro i hi;have o:=qbd hi ox oy;obtain⟨c1,c2⟩:=corner i hi;generalize (qag x y i).1=u at *
  generalize (qag x y i).2=v at *
  have ev:((-(u.val*v.val):Int):Rat)=-(u.rat*v.rat*sc*sc):=by rw[Rat.intCast_neg,Rat.intCast_mul,<-qay u,<-qay v];grind
  have h1:=qav (Int.ediv_mul_le (-(u.val*v.val)) (show pw 16384≠0 by omega));have h2:=qav (Int.le_of_lt (Int.lt_ediv_add_one_mul_self (-(u.val*v.val)) p0));rw[ev,Rat.intCast_mul,ep]at h1;rw[ev,Rat.intCast_mul,Rat.intCast_add,ep,show((1:Int):Rat)=1 from rfl]at h2;have k1:((-(u.val*v.val)/pw 16384:Int):Rat)<=-(u.rat*v.rat*sc):=Rat.le_of_mul_le_mul_right (by grind) hsc;have k2:-(u.rat*v.rat*sc)<=((-(u.val*v.val)/pw 16384:Int):Rat)+1:=Rat.le_of_mul_le_mul_right (by grind) hsc;obtain⟨e1,e2⟩:=qako (t:=t) (v:=-(-(u.val*v.val)/pw 16384)) (s:=u.rat*v.rat) (qmk o.1 o.2 hp) (fun g=>qakn p0) (by rw[Rat.intCast_neg];grind) (by rw[Rat.intCast_neg];grind) ⟨by omega,by omega⟩ ht ⟨by grind,by grind⟩;exact⟨e1,by grind⟩
end
end Go.Abs.W
namespace Go.Abs.W
section
variable {p t : Nat} {x y : Iv} {q r δ ε : Rat}
theorem qali {s S:Rat}(wx:x.W)(wy:y.W)(hp:precB (p:Int)=true)(hx:Nr x q δ)(hy:Nr y r ε)(hr:1<=r-ε)(hs:s*r=q)(hS:Bd s S)(ht:t<=1000)(hb:S+(δ+S*ε)<=p2 t-1):Nr (x.div y p) s (δ+S*ε+2*ulp t p):=by
 have hpp:=precB_iff.1 hp;have ox:=qai wx hx.k;have oy:=qai wy hy.k;have p0:=qaw 16384;have hsc:=qbf;have ep:((pw 16384:Int):Rat)=sc:=rfl;have lo1:pw 16384<=y.lo.val:=by
  have h:=hy.lo;refine Rat.intCast_le_intCast.1 ?_;rw[<-qay y.lo,ep];have:=mul_nn (show 0<=y.lo.rat-1 by grind) (Rat.le_of_lt hsc);grind
 have q2:=qap wy hy.k;have q1:=qap wx hx.k;have sg:y.sgn≠0:=(qiq wy hy.k).2 (.inl (by omega));have pos:∀i,i<4->pw 16384<=(qag x y i).2.val:=fun i hi=>by
  obtain⟨g1,g2,g3,g4⟩:=qcx hi q1 q2;exact Int.le_trans lo1 g3
 unfold Iv.div;rw[hx.k,hy.k,hp,decide_eq_true sg,if_pos (by rfl)];have ne:∀i,i<4->(qag x y i).2.m≠[]:=fun i hi=>qpx (by have:=pos i hi;omega)
 have corner:∀i,i<4->∃w:Rat,w*(qag x y i).2.rat=(qag x y i).1.rat/\Bd (w-s) (δ+S*ε)/\1<=(qag x y i).2.rat:=fun i hi=>by
  obtain⟨a,b⟩:=qad9 wx wy hx hy hi;generalize (qag x y i).1.rat=u at *
  generalize (qag x y i).2.rat=v at *
  obtain⟨b1,b2⟩:=b;have v1:1<=v:=by grind
  have vi:=Rat.inv_pos.2 (show 0<v by grind);have vm:=qa0 (show 0<v by grind);have ew:u*v⁻¹*v=u:=by rw[Rat.mul_assoc,Rat.mul_comm v⁻¹,vm,Rat.mul_one]
  refine⟨u*v⁻¹,ew,?_,v1⟩;have e1:(u*v⁻¹-s)*v=(u-q)-s*(v-r):=by rw[<-hs];grind
  obtain⟨c1,c2⟩:=hS.mul (show Bd (v-r) ε from⟨b1,b2⟩);obtain⟨a1,a2⟩:=a;have E0:0<=δ+S*ε:=by grind
  generalize u*v⁻¹-s=z at *
  constructor
  ·rcases(inferInstance:Decidable (-(δ+S*ε)<=z))with h|h
   ·exfalso;have m:=mul_nn (show 0<=-(δ+S*ε)-z by grind) (show 0<=v-1 by grind);have m2:=mul_nn E0 (show 0<=v-1 by grind);grind
   ·exact h
  ·rcases(inferInstance:Decidable (z<=δ+S*ε))with h|h
   ·exfalso;have m:=mul_nn (show 0<=z-(δ+S*ε) by grind) (show 0<=v-1 by grind);have m2:=mul_nn E0 (show 0<=v-1 by grind);grind
   ·exact h
 have o0:=qbd (x:=x) (y:=y) (i:=0) (by omega) ox oy;have v00:=pos 0 (by omega);obtain⟨s1,s2⟩:=hS;refine qafc (le:=fun u v g=>divLe u.val v.val g) (ge:=fun u v g=>divGe u.val v.val g) (fun _ _=>qep) (fun _ _=>qep) (qp5 o0.1 o0.2 hp (ne 0 (by omega))) (qp4 o0.1 o0.2 hp (ne 0 (by omega)))
  (q9z (by omega)) ?_ ?_
 ·intro i hi;have o:=qbd hi ox oy;have vp:=pos i hi;have nei:=ne i hi;obtain⟨w,ew,⟨c1,c2⟩,_⟩:=corner i hi;generalize (qag x y i).1=u at *
  generalize (qag x y i).2=v at *
  have v0:0<v.val:=by omega
  have vr:0<(v.val:Rat):=qfj v0;have ev:((u.val*pw 16384:Int):Rat)=w*sc*(v.val:Rat):=by rw[Rat.intCast_mul,ep,<-qay u,<-qay v,<-ew];grind
  have h1:=qav (Int.ediv_mul_le (u.val*pw 16384) (show v.val≠0 by omega));have h2:=qav (Int.le_of_lt (Int.lt_ediv_add_one_mul_self (u.val*pw 16384) v0));rw[ev,Rat.intCast_mul]at h1;rw[ev,Rat.intCast_mul,Rat.intCast_add,show((1:Int):Rat)=1 from rfl]at h2;obtain⟨e1,e2⟩:=qalh (t:=t) (s:=w) (qp5 o.1 o.2 hp nei) (fun g=>by rw[qfy v0];exact(Int.le_ediv_iff_mul_le v0).symm) (Rat.le_of_mul_le_mul_right h1 vr) (Rat.le_of_mul_le_mul_right h2 vr) ⟨by omega,by omega⟩ ht ⟨by grind,by grind⟩;exact⟨e1,by grind⟩
 ·intro i hi;have o:=qbd hi ox oy;have vp:=pos i hi;have nei:=ne i hi;obtain⟨w,ew,⟨c1,c2⟩,_⟩:=corner i hi;generalize (qag x y i).1=u at *
  generalize (qag x y i).2=v at *
  have v0:0<v.val:=by omega
  have vr:0<(v.val:Rat):=qfj v0;have ev:((-(u.val*pw 16384):Int):Rat)=-(w*sc)*(v.val:Rat):=by rw[Rat.intCast_neg,Rat.intCast_mul,ep,<-qay u,<-qay v,<-ew];grind
  have h1:=qav (Int.ediv_mul_le (-(u.val*pw 16384)) (show v.val≠0 by omega));have h2:=qav (Int.le_of_lt (Int.lt_ediv_add_one_mul_self (-(u.val*pw 16384)) v0));rw[ev,Rat.intCast_mul]at h1;rw[ev,Rat.intCast_mul,Rat.intCast_add,show((1:Int):Rat)=1 from rfl]at h2;have k1:=Rat.le_of_mul_le_mul_right h1 vr;have k2:=Rat.le_of_mul_le_mul_right h2 vr;obtain⟨e1,e2⟩:=qako (t:=t) (v:=-(-(u.val*pw 16384)/v.val)) (s:=w) (qp4 o.1 o.2 hp nei) (fun g=>by rw[qha v0];exact qakn v0) (by rw[Rat.intCast_neg];grind) (by rw[Rat.intCast_neg];grind) ⟨by omega,by omega⟩ ht ⟨by grind,by grind⟩;exact⟨e1,by grind⟩
end
theorem pt_Nr {d:Dy}(ok:d.Ok):Nr (Iv.pt d) d.rat 0:=⟨qpd ok,by show _<=d.rat;grind,by show d.rat<=_;grind⟩
theorem nI_Nr {k:Int}(hk:k.natAbs<=4611686018427387904):Nr (nI k k) (k:Rat) 0:=by
 have o:(nD k).Ok:=nD_ok (by omega);have e:=qaeo k;exact⟨qbj o o (Int.le_refl _),by show _<=(nD k).rat;rw[e];grind,by show(nD k).rat<=_;rw[e];grind⟩
structure Half (x:Iv)(h:Rat):Prop where
 n:Nr x h (ulp 0 100)
 lo:3/2<=h
 hi:h<=2
theorem qae4 {x:Iv}(hn:qvi x=true):Half x x.lo.rat:=by
 unfold qvi at hn;simp only[Bool.and_eq_true,decide_eq_true_eq]at hn;obtain⟨⟨⟨k,h1⟩,h2⟩,h3⟩:=hn;have hsc:=qbf;have U:=qmf 0 100;have c1:=qav h1;have c2:=qav h2;have c3:=qav h3;have e1:((pw 16383:Int):Rat)*2=sc:=by
  rw[pwq,sc_p2,show p2 16384=p2 (16383+1) from rfl,qdy];rfl
 have e2:((pw 16385:Int):Rat)=2*sc:=by
  rw[pwq,sc_p2,show p2 16385=p2 (16384+1) from rfl,qdy,Rat.mul_comm];rfl
 have e3:((pw 16284:Int):Rat)=ulp 0 100*sc:=by
  have:=qn7 (t:=0) (p:=100) (by omega);exact this
 rw[Rat.intCast_mul,show((3:Int):Rat)=3 from rfl,<-qay x.lo]at c1;rw[e2,<-qay x.hi]at c2;rw[Rat.intCast_sub,e3,<-qay x.hi,<-qay x.lo]at c3;have l:3/2<=x.lo.rat:=Rat.le_of_mul_le_mul_right (c:=sc) (by grind) hsc;have u:x.hi.rat<=2:=Rat.le_of_mul_le_mul_right (c:=sc) (by grind) hsc;have w:x.hi.rat<=x.lo.rat+ulp 0 100:=Rat.le_of_mul_le_mul_right (c:=sc) (by grind) hsc;refine⟨⟨k,by grind,w⟩,l,?_⟩;rcases(inferInstance:Decidable (x.lo.rat<=2))with h|h
 ·exfalso;have:x.lo.val<=x.hi.val:=by
   rcases Int.lt_or_le x.hi.val x.lo.val with h4|h4
   ·exfalso;have hv:=(qb6 k)
    have v:=hv.1;unfold Iv.valid at v;rw[hv.2]at v;simp only[Bool.false_eq_true,if_false,Bool.and_eq_true,decide_eq_true_eq]at v;have c:=v.2;unfold Dy.cmp at c;rw[v.1.1,v.1.2]at c;simp only[Bool.and_self,if_true]at c;have:=cmpI_le.1 c;omega
   ·exact h4
  have:=rat_le.2 this;grind
 ·exact h
def qHalf : Iv:=⟨pwD (-1),pwD (-1),false⟩
def rq (d:Dy)(half:Iv)(w:Nat):Iv:=((Iv.pt d).div half w).add qHalf w
def rr (d:Dy)(half:Iv)(k:Int)(w:Nat):Iv:=(Iv.pt d).add ((nI k k).mul half w).neg w
theorem qait : Nr qHalf (1/2) 0:=by
 have o:=qkc (n:=-1) (by omega) (by omega);have h:=qad4 (p:=1) (by omega);have e:(pwD (-1)).rat=1/2:=by
  rw[show p2 1=2 from rfl]at h;have h2:(pwD (-((1:Nat):Int))).rat=(pwD (-1)).rat:=rfl;rw[h2]at h;grind
 exact⟨qbj o o (Int.le_refl _),by show _<=(pwD (-1)).rat;rw[e];grind,by show(pwD (-1)).rat<=_;rw[e];grind⟩
theorem qad1 : qHalf.W:=⟨(qkc (n:=-1) (by omega) (by omega)).w,(qkc (n:=-1) (by omega) (by omega)).w⟩
theorem qc5 {t p k:Nat}(h:p=t+k):ulp t p=(p2 k)⁻¹:=by
 unfold ulp;rw[h,qdy];have a:=qa0 (qa4 t);have b:=qa0 (qa4 k);have c:=qa0 (Rat.mul_pos (qa4 t) (qa4 k));have d:(p2 t*p2 k)*((p2 t)⁻¹*(p2 k)⁻¹)=1:=by
  have:(p2 t*p2 k)*((p2 t)⁻¹*(p2 k)⁻¹)=(p2 t*(p2 t)⁻¹)*(p2 k*(p2 k)⁻¹):=by grind
  rw[this,a,b];grind
 have e:(p2 t*p2 k)⁻¹*((p2 t*p2 k)*((p2 t)⁻¹*(p2 k)⁻¹))=(p2 t*p2 k)⁻¹:=by rw[d,Rat.mul_one]
 rw[<-Rat.mul_assoc,Rat.mul_comm (p2 t*p2 k)⁻¹,c,Rat.one_mul]at e;rw[<-e,<-Rat.mul_assoc,a,Rat.one_mul]
theorem rq_Nr {d:Dy}{half:Iv}{h:Rat}(ok:d.Ok)(ht:d.top<=20)(wh:half.W)(hh:Half half h):∃s,s*h=d.rat/\Bd s 1048576/\Nr (rq d half 210) (s+1/2) (ulp 0 70):=by
 have hp:precB ((210:Nat):Int)=true:=by decide
 have D:=qme ok (t:=20) (by omega);rw[show p2 20=1048576 from rfl]at D;have h0:0<h:=by have:=hh.lo;grind
 have hi:=Rat.inv_pos.2 h0;have hm:=qa0 h0;obtain⟨D1,D2⟩:=D;have U100:ulp 0 100=(p2 100)⁻¹:=qc5 (by omega);have U70:ulp 0 70=(p2 70)⁻¹:=qc5 (by omega);have U21:ulp 21 210=(p2 189)⁻¹:=qc5 (by omega);have v100:(p2 100)⁻¹=1/1267650600228229401496703205376:=by rw[show p2 100=1267650600228229401496703205376 from rfl];grind
 have v70:(p2 70)⁻¹=1/1180591620717411303424:=by rw[show p2 70=1180591620717411303424 from rfl];grind
 have i189:(p2 189)⁻¹<=(p2 100)⁻¹:=qdz (qa4 100) (qak (Nat.pow_le_pow_right (by omega) (by omega)));have n189:=Rat.le_of_lt (Rat.inv_pos.2 (qa4 189));have⟨s,hs⟩:∃s,s=d.rat*h⁻¹:=⟨_,rfl⟩
 have es:s*h=d.rat:=by rw[hs,Rat.mul_assoc,Rat.mul_comm h⁻¹,hm,Rat.mul_one]
 have sb:Bd s 1048576:=by
  have l:=hh.lo;constructor
  ·rcases(inferInstance:Decidable (-1048576<=s))with h1|h1
   ·exfalso;have m:=mul_nn (show 0<=-1048576-s by grind) (show 0<=h-1 by grind);grind
   ·exact h1
  ·rcases(inferInstance:Decidable (s<=1048576))with h1|h1
   ·exfalso;have m:=mul_nn (show 0<=s-1048576 by grind) (show 0<=h-1 by grind);grind
   ·exact h1
 have l:=hh.lo;have wp:(Iv.pt d).W:=pt_W ok.w;have q1:=qali (t:=21) wp wh hp (pt_Nr ok) hh.n (by rw[U100,v100];grind) es sb (by omega) (by rw[U100,v100,show p2 21=2097152 from rfl];grind);have q2:=qalt (t:=21) div_W qad1 hp q1 qait (by omega) (by
  obtain⟨a,b⟩:=sb;rw[U21,U100,v100]at *
  rw[show p2 21=2097152 from rfl];constructor<;>grind)
 refine⟨s,es,sb,q2.mono ?_⟩;rw[U21,U100,U70,v100,v70]at *
 grind
theorem rr_Bt {d:Dy}{half:Iv}{h:Rat}{k:Int}(ok:d.Ok)(ht:d.top<=20)(wh:half.W)(hh:Half half h)(hk1:(k:Rat)<=(rq d half 210).lo.rat)(hk2:(rq d half 210).lo.rat<=(k:Rat)+1):(rr d half k 210).Bt (-pw 16385) (pw 16385)/\k.natAbs<=1048580:=by
 have hp:precB ((210:Nat):Int)=true:=by decide
 obtain⟨s,es,sb,qn⟩:=rq_Nr ok ht wh hh;have l1:=hh.lo;have l2:=hh.hi;have wp:(Iv.pt d).W:=pt_W ok.w;have wq:(rq d half 210).W:=add_W;obtain⟨⟨e1,e2⟩,_⟩:=qn.ends wq;have U100:ulp 0 100=(p2 100)⁻¹:=qc5 (by omega);have U70:ulp 0 70=(p2 70)⁻¹:=qc5 (by omega);have U23:ulp 23 210=(p2 187)⁻¹:=qc5 (by omega);have v100:(p2 100)⁻¹=1/1267650600228229401496703205376:=by rw[show p2 100=1267650600228229401496703205376 from rfl];grind
 have v70:(p2 70)⁻¹=1/1180591620717411303424:=by rw[show p2 70=1180591620717411303424 from rfl];grind
 have i187:(p2 187)⁻¹<=(p2 100)⁻¹:=qdz (qa4 100) (qak (Nat.pow_le_pow_right (by omega) (by omega)));have n187:=Rat.le_of_lt (Rat.inv_pos.2 (qa4 187));rw[U70,v70]at e1 e2;obtain⟨s1,s2⟩:=sb;have kb:Bd (k:Rat) 1048578:=⟨by grind,by grind⟩
 have kn:k.natAbs<=1048580:=by
  obtain⟨a,b⟩:=kb;have a':(-1048578:Int)<=k:=Rat.intCast_le_intCast.1 a;have b':k<=(1048578:Int):=Rat.intCast_le_intCast.1 b;omega
 refine⟨?_,kn⟩;have wk:(nI k k).W:=nI_W (by omega) (by omega);have m:=qaqh (t:=23) wk wh hp (nI_Nr (k:=k) (by omega)) hh.n kb (show Bd h 2 from⟨by grind,l2⟩) (by omega) (by rw[U100,v100,show p2 23=8388608 from rfl];grind);have n:=qaqe mul_W m;have key:Bd (d.rat+-((k:Rat)*h)) (11/10):=by
  have m1:=mul_nn (show 0<=(k:Rat)+1-(s+1/2-1/1180591620717411303424) by grind) (show 0<=h by grind);have m2:=mul_nn (show 0<=s+1/2+1/1180591620717411303424-(k:Rat) by grind) (show 0<=h by grind);constructor<;>grind
 have a:=qalt (t:=23) wp (neg_W mul_W) hp (pt_Nr ok) n (by omega) (by
  obtain⟨u,v⟩:=key;rw[U23,U100,v100]at *
  rw[show p2 23=8388608 from rfl];constructor<;>grind)
 have hl:=a.lo;have hu:=a.hi;have hsc:=qbf;obtain⟨u,v⟩:=key;have e2':((pw 16385:Int):Rat)=2*sc:=by
  rw[pwq,sc_p2,show p2 16385=p2 (16384+1) from rfl,qdy,Rat.mul_comm];rfl
 rw[U23,U100,v100]at hl hu;rw[v100]at i187;refine⟨a.k,?_,?_⟩
 ·refine Rat.intCast_le_intCast.1 ?_;show _<=((((Iv.pt d).add ((nI k k).mul half 210).neg 210).lo.val:Int):Rat);rw[Rat.intCast_neg,e2',<-qay];have:=mul_nn (show 0<=((Iv.pt d).add ((nI k k).mul half 210).neg 210).lo.rat+2 by
   have:-2<=((Iv.pt d).add ((nI k k).mul half 210).neg 210).lo.rat:=Rat.le_trans (by grind) hl;grind) (Rat.le_of_lt hsc)
  grind
 ·refine Rat.intCast_le_intCast.1 ?_;show((((Iv.pt d).add ((nI k k).mul half 210).neg 210).hi.val:Int):Rat)<=_;rw[e2',<-qay];have:=mul_nn (show 0<=2-((Iv.pt d).add ((nI k k).mul half 210).neg 210).hi.rat by
   have:((Iv.pt d).add ((nI k k).mul half 210).neg 210).hi.rat<=2:=Rat.le_trans hu (by grind);grind) (Rat.le_of_lt hsc)
  grind
end Go.Abs.W
namespace Go.Abs.W
def flF (d:Dy):Nat:=(-d.e).toNat
def flN (d:Dy)(j:Nat):Nat:=natV d.m/2^(max j (flF d))
def flR (d:Dy)(j:Nat):Bool:=decide (natV d.m%2^flF d/2^j≠0)
def qbs (d:Dy):Nat:=natV d.m/2^flF d*2^d.e.toNat
def qc8 (d:Dy):Int:=if d.neg=true then(if natV d.m%2^flF d≠0 then -(qbs d:Int)-1 else -(qbs d:Int))else qbs d
theorem q9y (n j:Nat):n/2^j=2*(n/2^(j+1))+n/2^j%2:=by
 have:n/2^(j+1)=n/2^j/2:=by rw[Nat.pow_succ,Nat.div_div_eq_div_mul]
 omega
theorem qanj (n F j:Nat)(h:j<F):n%2^F/2^j%2=n/2^j%2:=by
 obtain⟨k,rfl⟩:∃k,F=j+(k+1):=⟨F-j-1,by omega⟩
 rw[Nat.pow_add,Nat.mod_mul_right_div_self,Nat.pow_succ,Nat.mul_comm (2^k) 2,Nat.mod_mul_right_mod]
theorem fl_lo {d:Dy}{j:Nat}(h:j<flF d):flN d j=flN d (j+1)/\flR d j=(flR d (j+1) ||decide (natV d.m/2^j%2=1)):=by
 constructor
 ·unfold flN;rw[show max j (flF d)=max (j+1) (flF d) by omega]
 ·unfold flR;have s:=q9y (natV d.m%2^flF d) j;rw[qanj _ _ _ h]at s;have b:=Nat.mod_two_eq_zero_or_one (natV d.m/2^j);generalize natV d.m%2^flF d/2^(j+1)=X at *
  rw[s];rcases b with b|b<;>rw[b]<;>by_cases hX:X=0<;>simp[hX]<;>omega
theorem fl_hi {d:Dy}{j:Nat}(h:¬j<flF d):flN d j=2*flN d (j+1)+natV d.m/2^j%2/\flR d j=flR d (j+1):=by
 constructor
 ·unfold flN;rw[show max j (flF d)=j by omega,show max (j+1) (flF d)=j+1 by omega];exact q9y _ _
 ·unfold flR;have hm:natV d.m%2^flF d<2^flF d:=Nat.mod_lt _ (Nat.two_pow_pos _);have h1:∀i,flF d<=i->natV d.m%2^flF d/2^i=0:=fun i hi=>Nat.div_eq_of_lt (Nat.lt_of_lt_of_le hm (Nat.pow_le_pow_right (by omega) hi))
  rw[h1 j (by omega),h1 (j+1) (by omega)]
theorem qaqz {d:Dy}(li:Li d.m):flN d (32*d.m.length)=0/\flR d (32*d.m.length)=false:=by
 have h:=qaq li;rw[pow32]at h;constructor
 ·unfold flN;exact Nat.div_eq_of_lt (Nat.lt_of_lt_of_le h (Nat.pow_le_pow_right (by omega) (by omega)))
 ·unfold flR;have:natV d.m%2^flF d/2^(32*d.m.length)=0:=Nat.div_eq_of_lt (Nat.lt_of_le_of_lt (Nat.mod_le _ _) h);rw[this];rfl
theorem qaq0 {d:Dy}(j:Nat):flN d j<=qbs d:=by
 unfold flN qbs;have h1:natV d.m/2^max j (flF d)<=natV d.m/2^flF d:=Nat.div_le_div_left (Nat.pow_le_pow_right (by omega) (by omega)) (Nat.two_pow_pos _);exact Nat.le_trans h1 (Nat.le_mul_of_pos_right _ (Nat.two_pow_pos _))
set_option maxHeartbeats 1000000 in
theorem q2u (d:Dy)(ok:d.Ok)(hN:qbs d<1125899906842624)(he:d.e<=60):CQ prog qok [d.v] (.int .i64 (qc8 d)):=by
 refine qah rfl fun H=>?_
 have li:=ok.li;have len:=ok.len;have elo:=ok.elo;obtain⟨t1,t2⟩:=qaqz li;have eL:IntKind.i64.wrap ((d.m.length:Int)-1)=(d.m.length:Int)-1:=by rw[wrap_i64]<;>omega
 simp[Dy.v,lim];refine qbw (fun f E H'=>f<=d.m.length/\H'=H++[some ⟨3,[d.v],false,true⟩]/\E 1=.ptr H.length 0 0/\E 3=.int .i64 (flN d (32*f))/\E 4=.bool (flR d (32*f))/\E 5=.int .i64 ((f:Int)-1)) d.m.length ?_ ?_
 ·exact⟨Nat.le_refl _,by simp[Dy.v,lim],by simp,by simp[t1],by simp[t2],by simp[eL]⟩
 ·rintro f E H' ⟨hf,rfl,e1,e3,e4,e5⟩;refine qam ?_;rcases f with _|f
  · -- all bits are read
    have n1:¬(0:Int)<=((0:Nat):Int)-1:=by omega
    have f0:flN d (32*0)=natV d.m/2^flF d:=by unfold flN;rw[show max (32*0) (flF d)=flF d by omega]
    have r0:flR d (32*0)=decide (natV d.m%2^flF d≠0):=by unfold flR;rw[Nat.mul_zero,Nat.pow_zero,Nat.div_one]
    rw[f0]at e3;rw[r0]at e4;have⟨A,hA⟩:∃A,A=natV d.m/2^flF d:=⟨_,rfl⟩
    have eN:qbs d=A*2^d.e.toNat:=by unfold qbs;rw[hA]
    have⟨R,hR⟩:∃R,R=natV d.m%2^flF d:=⟨_,rfl⟩
    have eD:qc8 d=if d.neg=true then(if R≠0 then -(qbs d:Int)-1 else -(qbs d:Int))else qbs d:=by unfold qc8;rw[hR]
    rw[<-hA]at e3;rw[<-hR]at e4;rw[eD];clear eD hA hR f0 r0 t1 t2;simp[qf3,e5];refine qbw (fun g E H'=>g<=d.e.toNat/\H'=H++[some ⟨3,[d.v],false,true⟩]/\E 1=.ptr H.length 0 0/\E 3=.int .i64 ((A*2^(d.e.toNat-g):Nat):Int)/\E 4=.bool (decide (R≠0))/\E 8=.int .i64 ((d.e.toNat-g:Nat):Int)) d.e.toNat ?_ ?_
    ·exact⟨Nat.le_refl _,by simp[Dy.v,lim],by simp[e1],by simp[e3],by simp[e4],by simp⟩
    ·rintro g E H' ⟨hg,rfl,e1,e3,e4,e8⟩;refine qam ?_;rcases g with _|g
     ·have n2:¬((d.e.toNat-0:Nat):Int)<d.e:=by omega
      rw[Nat.sub_zero,<-eN]at e3;have w1:IntKind.i64.wrap (-(qbs d:Int))=-(qbs d:Int):=by rw[wrap_i64]<;>omega
      have w2:IntKind.i64.wrap (-(qbs d:Int)-1)=-(qbs d:Int)-1:=by rw[wrap_i64]<;>omega
      have n3:¬max d.e 0<d.e:=by omega
      generalize qbs d=M at *
      cases hn:d.neg
      ·simp[qcy,e1,e3,e8,n3,hn,Dy.v,lim]
      ·by_cases hr:R=0
       ·simp[qcy,e1,e3,e4,e8,n3,hn,hr,Dy.v,lim,w1]
       ·simp[qcy,e1,e3,e4,e8,n3,hn,hr,Dy.v,lim,w1,w2]
     ·have n2:((d.e.toNat-(g+1):Nat):Int)<d.e:=by omega
      have⟨i,hi⟩:∃i,i=d.e.toNat-(g+1):=⟨_,rfl⟩
      have hi2:d.e.toNat-g=i+1:=by omega
      rw[<-hi]at e3 e8 n2;have le:A*2^(i+1)<=qbs d:=by rw[eN];exact Nat.mul_le_mul_left _ (Nat.pow_le_pow_right (by omega) (by omega))
      have e2:A*2^(i+1)=2*(A*2^i):=by rw[Nat.pow_succ,<-Nat.mul_assoc,Nat.mul_comm]
      have w1:IntKind.i64.wrap (2*((A*2^i:Nat):Int))=((A*2^(i+1):Nat):Int):=by rw[e2,wrap_i64]<;>omega
      have w2:IntKind.i64.wrap ((i:Int)+1)=((i+1:Nat):Int):=by rw[wrap_i64]<;>omega
      have⟨B,hB⟩:∃B,B=A*2^i:=⟨_,rfl⟩
      have⟨C,hC⟩:∃C,C=A*2^(i+1):=⟨_,rfl⟩
      rw[<-hB]at e3 w1;rw[<-hC]at w1;simp[qcy,e1,e3,e8,n2,w1,w2,Dy.v,lim];refine⟨g,by omega,by omega,?_,by simpa using e4,?_⟩
      ·rw[hi2,hC];simp
      ·rw[hi2];simp
  ·have n1:(0:Int)<=((f+1:Nat):Int)-1:=by omega
   have fi:((f+1:Nat):Int)-1=(f:Int):=by omega
   rw[fi]at e5 n1;have hin:f<d.m.length:=by omega
   simp[qf3,e5,n1];refine qbw (fun g E H'=>g<=32/\H'=H++[some ⟨3,[d.v],false,true⟩]/\E 1=.ptr H.length 0 0/\E 3=.int .i64 (flN d (32*f+g))/\E 4=.bool (flR d (32*f+g))/\E 5=.int .i64 f/\E 6=.int .i64 ((g:Int)-1)) 32 ?_ ?_
   ·exact⟨Nat.le_refl _,by simp[Dy.v,lim],by simp[e1],by simp[e3,Nat.mul_succ],by simp[e4,Nat.mul_succ],by simp[e5],by simp⟩
   ·rintro g E H' ⟨hg,rfl,e1,e3,e4,e5,e6⟩;refine qam ?_;rcases g with _|k
    ·have n2:¬(0:Int)<=((0:Nat):Int)-1:=by omega
     have w1:IntKind.i64.wrap ((f:Int)-1)=(f:Int)-1:=by rw[wrap_i64]<;>omega
     simp[qcz,e5,e6];exact⟨f,by omega,by omega,by simpa using e1,by simpa using e3,by simpa using e4,w1⟩
    ·have n2:(0:Int)<=(k:Int):=by omega
     have ki:((k+1:Nat):Int)-1=(k:Int):=by omega
     rw[ki]at e6;have lq:d.m[f]<4294967296:=li _ (List.getElem_mem hin);have u1:IntKind.u64.wrap (k:Int)=k:=qaj _ (by omega);have f1:qa6 .shr .u32 (d.m[f]:Int) (k:Int)=some (.int .u32 ((d.m[f]/2^k:Nat):Int)):=shr32 _ _ (by omega);have hb:=qagh li (32*f+k);rw[show(32*f+k)/32=f by omega,show(32*f+k)%32=k by omega,qa1 hin]at hb;have⟨y,hy⟩:∃y,y=d.m[f]/2^k:=⟨_,rfl⟩
     have hy2:y<2^32:=by rw[hy];exact Nat.lt_of_le_of_lt (Nat.div_le_self _ _) lq
     rw[<-hy]at f1 hb;have f2:=qnx y hy2;have⟨z,hz⟩:∃z,z=y%2:=⟨_,rfl⟩
     have z2:z<2:=by omega
     rw[<-hz]at f2 hb;have v1:IntKind.i64.wrap (z:Int)=z:=by rw[wrap_i64]<;>omega
     have v2:IntKind.i64.wrap (32*(f:Int))=32*(f:Int):=by rw[wrap_i64]<;>omega
     have v3:IntKind.i64.wrap (d.e+32*(f:Int))=d.e+32*(f:Int):=by rw[wrap_i64]<;>omega
     have v4:IntKind.i64.wrap (d.e+32*(f:Int)+k)=d.e+32*(f:Int)+k:=by rw[wrap_i64]<;>omega
     have v5:IntKind.i64.wrap ((k:Int)-1)=(k:Int)-1:=by rw[wrap_i64]<;>omega
     by_cases hj:32*f+k<flF d
     ·have hneg:d.e+32*(f:Int)+k<0:=by unfold flF at hj;omega
      obtain⟨s1,s2⟩:=fl_lo hj;rw[hb]at s2;rw[show 32*f+(k+1)=32*f+k+1 by omega,<-s1]at e3;have e4':E 4=.bool (flR d (32*f+k+1)):=e4;have hz1:(decide (z=1))=decide ((z:Int)=1):=by congr 1;simp;omega
      cases hR1:flR d (32*f+k+1)
      ·rw[hR1]at s2 e4';simp[qcz,e1,e3,e4',e5,e6,hin,u32,u1,f1,f2,v1,v2,v3,v4,v5,hneg,Dy.v,lim];refine⟨k,by omega,by omega,rfl,?_,rfl⟩;rw[s2,<-hz1];simp
      ·rw[hR1]at s2 e4';simp[qcz,e1,e3,e4',e5,e6,hin,u32,u1,f1,f2,v1,v2,v3,v4,v5,hneg,Dy.v,lim];refine⟨k,by omega,by omega,rfl,?_,rfl⟩;rw[s2];simp
     ·have hneg:¬d.e+32*(f:Int)+k<0:=by unfold flF at hj;omega
      obtain⟨s1,s2⟩:=fl_hi hj;rw[hb]at s1;have le:=qaq0 (d:=d) (32*f+k);have e3':E 3=.int .i64 (flN d (32*f+k+1)):=e3;have e4':E 4=.bool (flR d (32*f+k+1)):=e4;rw[<-s2]at e4';have w1:IntKind.i64.wrap (2*((flN d (32*f+k+1):Nat):Int))=2*((flN d (32*f+k+1):Nat):Int):=by rw[wrap_i64]<;>omega
      have w2:IntKind.i64.wrap (2*((flN d (32*f+k+1):Nat):Int)+z)=((flN d (32*f+k):Nat):Int):=by rw[s1,wrap_i64]<;>omega
      simp[qcz,e1,e3',e4',e5,e6,hin,u32,u1,f1,f2,v1,v2,v3,v4,v5,hneg,w1,w2,Dy.v,lim];exact⟨k,by omega,by omega,rfl,rfl,rfl⟩
def srT (r:Iv)(p:Int)(n:Nat)(t:Iv):Iv:=(t.mul r p).div (nI n n) p
def prt (n:Nat)(T:Iv):Iv:=if 2<=n%4 then T.neg else T
def srS (p:Int)(n:Nat)(T s:Iv):Iv:=if n%2=1 then s.add (prt n T) p else s
def srC (p:Int)(n:Nat)(T c:Iv):Iv:=if n%2=1 then c else c.add (prt n T) p
def srG (r:Iv)(p:Int):Nat->Nat->Iv->Iv->Iv->Iv × Iv
 |0,_,_,s,c=>(s,c)
 |f+1,n,t,s,c=>if qec t (-p)=true/\8<=n then(s,c)else srG r p f (n+1) (srT r p n t) (srS p n (srT r p n t) s) (srC p n (srT r p n t) c)
def qlv (r:Iv)(p:Int):Nat->Nat->Iv->Prop
 |0,n,t=>qec t (-p)=true/\8<=n
 |f+1,n,t=>(qec t (-p)=true/\8<=n)\/qlv r p f (n+1) (srT r p n t)
def srL (r:Iv)(p:Int):Iv × Iv:=srG r p 1000 1 (nI 1 1) (nI 0 0) (nI 1 1)
def rSin (r:Iv)(p:Int):Iv:=(srL r p).1.add (qbt (pwD (1-p))) p
def rCos (r:Iv)(p:Int):Iv:=(srL r p).2.add (qbt (pwD (1-p))) p
theorem prt_W {n:Nat}{T:Iv}(w:T.W):(prt n T).W:=by unfold prt;split;exact neg_W w;exact w
theorem srS_W {p:Int}{n:Nat}{T s:Iv}(w:s.W):(srS p n T s).W:=by unfold srS;split;exact add_W;exact w
theorem srC_W {p:Int}{n:Nat}{T c:Iv}(w:c.W):(srC p n T c).W:=by unfold srC;split;exact w;exact add_W
theorem srT_W {r:Iv}{p:Int}{n:Nat}{t:Iv}:(srT r p n t).W:=div_W
theorem srG_W {r:Iv}{p:Int}:∀(f n:Nat) (t s c:Iv),s.W->c.W->(srG r p f n t s c).1.W/\(srG r p f n t s c).2.W
 |0,_,_,_,_,h,k=>⟨h,k⟩
 |f+1,n,t,s,c,h,k=>by
  unfold srG;split
  ·exact⟨h,k⟩
  ·exact srG_W f (n+1) _ _ _ (srS_W h) (srC_W k)
set_option maxHeartbeats 2000000 in
theorem qaa8 (r:Iv)(p:Int)(wr:r.W)(h1:8<=p)(h2:p<=10000)(hs:qlv r p 1000 1 (nI 1 1)):CQ prog qtx [r.v,.int .i64 p] (.tup [(rSin r p).v,(rCos r p).v]):=by
 refine qah rfl fun H=>?_
 have i0:=qd4 0 (by omega) (by omega);have i1:=qd4 1 (by omega) (by omega);have w0:(nI 0 0).W:=nI_Wk (by decide);have w1:(nI 1 1).W:=nI_Wk (by decide);have g1:(nI 1 1).Gd:=.inr (nI_Bt (k:=1) (by decide)).k;have eS:rSin r p=(srG r p 1000 1 (nI 1 1) (nI 0 0) (nI 1 1)).1.add (qbt (pwD (1-p))) p:=rfl;have eC:rCos r p=(srG r p 1000 1 (nI 1 1) (nI 0 0) (nI 1 1)).2.add (qbt (pwD (1-p))) p:=rfl;rw[eS,eC];have ew:IntKind.i64.wrap (-p)=-p:=by rw[wrap_i64]<;>omega
 have ew1:IntKind.i64.wrap (1-p)=1-p:=by rw[wrap_i64]<;>omega
 have⟨L,hL⟩:∃L,L=srG r p 1000 1 (nI 1 1) (nI 0 0) (nI 1 1):=⟨_,rfl⟩
 rw[<-hL];generalize nI 0 0=I0 at *
 generalize nI 1 1=I1 at *
 simp;refine zq i1 ?_;simp;refine zq i0 ?_;simp;refine zq i1 ?_;simp;refine qbw (fun f E H'=>∃(n:Nat) (t s c:Iv),(∃G,H'=H++some ⟨7,[r.v],false,true⟩ :: some ⟨7,[zIv],false,true⟩ :: some ⟨7,[zIv],false,true⟩ :: some ⟨7,[t.v],false,true⟩ :: some ⟨7,[s.v],false,true⟩ :: some ⟨7,[c.v],false,true⟩ :: G) /\
  E 1=.int .i64 p/\E 2=.ptr H.length 0 0/\E 4=.ptr (H.length+1) 0 0/\E 5=.ptr (H.length+2) 0 0/\E 6=.ptr (H.length+3) 0 0/\E 7=.ptr (H.length+4) 0 0/\E 8=.ptr (H.length+5) 0 0/\E 9=.int .i64 n/\t.W/\t.Gd/\s.W/\c.W/\n+f=1001/\qlv r p f n t/\srG r p f n t s c=L) 1000 ?_ ?_
 ·exact⟨1,I1,I0,I1,⟨[],by simp[zIv,lim]⟩,by simp,by simp,by simp,by simp,by simp,by simp,by simp,by simp,w1,g1,w0,w1,by omega,hs,hL.symm⟩
 ·rintro f E H' ⟨n,t,s,c,⟨G,rfl⟩,e1,e2,e4,e5,e6,e7,e8,e9,wt,gt,ws,wc,hf,hst,hg⟩;have cb:=q99 t (-p) wt gt (by omega) (by omega);by_cases hd:qec t (-p)=true/\8<=n
  ·obtain⟨hb,hn⟩:=hd;rw[hb]at cb;have hg2:(s,c)=L:=by
    rw[<-hg];cases f with
    |zero=>rfl
    |succ f=>show _=if qec t (-p)=true/\8<=n then _ else _;rw[if_pos ⟨hb,hn⟩]
   have o:=qkc (n:=1-p) (by omega) (by omega);have c1:=qr0 (1-p) (by omega) (by omega);have c2:=q5s (pwD (1-p));have c3:=qfe s (qbt (pwD (1-p))) p ws (qgg o);have c4:=qfe c (qbt (pwD (1-p))) p wc (qgg o);rw[<-hg2];have n8:¬(n:Int)<8:=by omega
   generalize s.add (qbt (pwD (1-p))) p=S at *
   generalize c.add (qbt (pwD (1-p))) p=C at *
   generalize qbt (pwD (1-p))=A at *
   generalize pwD (1-p)=d at *
   refine qam ?_;simp[qbv,e1,e6,ew];refine zq cb ?_;simp[e1,e9,n8,ew1];refine zq c1 ?_;simp;refine zq c2 ?_;simp[e1,e7];refine zq c3 ?_;simp[e1,e8];refine zq c4 ?_;simp[e4,e5,zIv,lim]
  ·have hcond:qec t (-p)=false\/(qec t (-p)=true/\(n:Int)<8):=by
    cases hb:qec t (-p)
    ·exact .inl rfl
    ·have:¬8<=n:=fun h=>hd ⟨hb,h⟩
     exact .inr ⟨rfl,by omega⟩
   obtain⟨f,rfl⟩:∃j,f=j+1:=by
    cases f with
    |zero=>unfold qlv at hst;exact absurd hst hd
    |succ j=>exact⟨j,rfl⟩
   have hst2:qlv r p f (n+1) (srT r p n t):=by
    unfold qlv at hst;rcases hst with h|h
    ·exact absurd h hd
    ·exact h
   have hg2:srG r p f (n+1) (srT r p n t) (srS p n (srT r p n t) s) (srC p n (srT r p n t) c)=L:=by
    rw[<-hg];show _=if qec t (-p)=true/\8<=n then _ else _;rw[if_neg hd]
   have wm:(t.mul r p).W:=mul_W;have c1:=qpo t r p wt wr;have c2:=qd4 (n:Int) (by omega) (by omega);have wI:(nI (n:Int) (n:Int)).W:=nI_Wk (by omega);have c3:=qg7 (t.mul r p) (nI n n) p wm wI;rw[show(t.mul r p).div (nI n n) p=srT r p n t from rfl]at c3;have wT:(srT r p n t).W:=srT_W;have gT:(srT r p n t).Gd:=qaq7 wm wI;have c4:=qpn (srT r p n t) wT;have wP:(prt n (srT r p n t)).W:=prt_W wT;have c5:=qfe s (prt n (srT r p n t)) p ws wP;have c6:=qfe c (prt n (srT r p n t)) p wc wP;have wS:(srS p n (srT r p n t) s).W:=srS_W ws;have wC:(srC p n (srT r p n t) c).W:=srC_W wc;have e9':IntKind.i64.wrap ((n:Int)+1)=((n+1:Nat):Int):=by rw[wrap_i64]<;>omega
   have eP:prt n (srT r p n t)=if 2<=n%4 then(srT r p n t).neg else srT r p n t:=rfl;have eSS:srS p n (srT r p n t) s=if n%2=1 then s.add (prt n (srT r p n t)) p else s:=rfl;have eCC:srC p n (srT r p n t) c=if n%2=1 then c else c.add (prt n (srT r p n t)) p:=rfl;have m4:(n:Int).tmod 4=(n:Int)%4:=Int.tmod_eq_emod_of_nonneg (by omega);have m2:(n:Int).tmod 2=(n:Int)%2:=Int.tmod_eq_emod_of_nonneg (by omega);generalize srS p n (srT r p n t) s=SS at *
   generalize srC p n (srT r p n t) c=CC at *
   generalize s.add (prt n (srT r p n t)) p=S1 at *
   generalize c.add (prt n (srT r p n t)) p=C1 at *
   generalize prt n (srT r p n t)=P at *
   generalize srT r p n t=T at *
   generalize t.mul r p=M at *
   generalize nI (n:Int) (n:Int)=I at *
   by_cases h4:2<=n%4
   ·rw[if_pos h4]at eP;subst eP;have q4:(2:Int)<=(n:Int)%4:=by omega
    by_cases h2:n%2=1
    ·rw[if_pos h2]at eSS eCC;subst eSS eCC;have q2:(n:Int)%2=1:=by omega
     refine qam ?_;simp[qbv,e1,e6,ew];refine zq cb ?_;rcases hcond with hb|hb;all_goals
      simp[e1,e2,e6,e9,hb];refine zq c1 ?_;simp[e9];refine zq c2 ?_;simp[e1];refine zq c3 ?_;simp[e6,e9,m4,q4];refine zq c4 ?_;simp[e1,e9,m2,q2,e7];refine zq c5 ?_;simp[e1,e2,e4,e5,e6,e7,e8,e9];exact⟨f,by omega,n+1,T,SS,CC,by simp,e9',wT,gT,wS,wC,by omega,hst2,hg2⟩
    ·rw[if_neg h2]at eSS eCC;subst eSS eCC;have q2:¬(n:Int)%2=1:=by omega
     refine qam ?_;simp[qbv,e1,e6,ew];refine zq cb ?_;rcases hcond with hb|hb;all_goals
      simp[e1,e2,e6,e9,hb];refine zq c1 ?_;simp[e9];refine zq c2 ?_;simp[e1];refine zq c3 ?_;simp[e6,e9,m4,q4];refine zq c4 ?_;simp[e1,e9,m2,q2,e8];refine zq c6 ?_;simp[e1,e2,e4,e5,e6,e7,e8,e9];exact⟨f,by omega,n+1,T,SS,CC,by simp,e9',wT,gT,wS,wC,by omega,hst2,hg2⟩
   ·rw[if_neg h4]at eP;subst eP;have q4:¬(2:Int)<=(n:Int)%4:=by omega
    by_cases h2:n%2=1
    ·rw[if_pos h2]at eSS eCC;subst eSS eCC;have q2:(n:Int)%2=1:=by omega
     refine qam ?_;simp[qbv,e1,e6,ew];refine zq cb ?_;rcases hcond with hb|hb;all_goals
      simp[e1,e2,e6,e9,hb];refine zq c1 ?_;simp[e9];refine zq c2 ?_;simp[e1];refine zq c3 ?_;simp[e1,e6,e7,e9,m2,m4,q2,q4];refine zq c5 ?_;simp[e1,e2,e4,e5,e6,e7,e8,e9];exact⟨f,by omega,n+1,P,SS,CC,by simp,e9',wT,gT,wS,wC,by omega,hst2,hg2⟩
    ·rw[if_neg h2]at eSS eCC;subst eSS eCC;have q2:¬(n:Int)%2=1:=by omega
     refine qam ?_;simp[qbv,e1,e6,ew];refine zq cb ?_;rcases hcond with hb|hb;all_goals
      simp[e1,e2,e6,e9,hb];refine zq c1 ?_;simp[e9];refine zq c2 ?_;simp[e1];refine zq c3 ?_;simp[e1,e6,e8,e9,m2,m4,q2,q4];refine zq c6 ?_;simp[e1,e2,e4,e5,e6,e7,e8,e9];exact⟨f,by omega,n+1,P,SS,CC,by simp,e9',wT,gT,wS,wC,by omega,hst2,hg2⟩
def hT (T:Rat):Nat->Rat
 |0=>T
 |i+1=>hT T i/2
theorem qapp {x h:Rat}{n:Nat}(hx:Bd x 3)(hn:7<=n)(ht:Bd (tm x n) h):Bd (tm x (n+1)) (h/2):=by
 have e:=qhc x n;have h0:=ht.nn;obtain⟨p1,p2⟩:=hx.mul ht;have N:=qak (show 8<=n+1 by omega);rw[show((8:Nat):Rat)=8 from rfl]at N;generalize ((n+1:Nat):Rat)=c at *
 generalize tm x (n+1)=B at *
 generalize tm x n=A at *
 constructor
 ·rcases(inferInstance:Decidable (-(h/2)<=B))with k|k
  ·exfalso;have m:=mul_nn (show 0<=c-8 by grind) (show 0<=-B by grind);grind
  ·exact k
 ·rcases(inferInstance:Decidable (B<=h/2))with k|k
  ·exfalso;have m:=mul_nn (show 0<=c-8 by grind) (show 0<=B by grind);grind
  ·exact k
theorem qac2 {x T:Rat}{j:Nat}(hx:Bd x 3)(hj:7<=j)(h:Bd (tm x j) T):∀i,Bd (tm x (j+i)) (hT T i)/\Bd (cs x (j+i)-cs x j) (T-hT T i)/\Bd (ss x (j+i)-ss x j) (T-hT T i)
 |0=>⟨h,by show Bd _ (T-T);constructor<;>grind,by show Bd _ (T-T);constructor<;>grind⟩
 |i+1=>by
  obtain⟨a,b,c⟩:=qac2 hx hj h i;have t:=qapp hx (show 7<=j+i by omega) a;have e1:cs x (j+(i+1))=cs x (j+i)+c4 (j+i+1)*tm x (j+i+1):=rfl;have e2:ss x (j+(i+1))=ss x (j+i)+s4 (j+i+1)*tm x (j+i+1):=rfl;obtain⟨u1,u2⟩:=(c4_Bd (j+i+1)).1.mul t;obtain⟨v1,v2⟩:=(c4_Bd (j+i+1)).2.mul t;obtain⟨b1,b2⟩:=b;obtain⟨d1,d2⟩:=c;refine⟨t,?_,?_⟩
  ·rw[e1];show Bd _ (T-hT T i/2);constructor<;>grind
  ·rw[e2];show Bd _ (T-hT T i/2);constructor<;>grind
theorem hT_nn {T:Rat}(h:0<=T):∀i,0<=hT T i
 |0=>h
 |i+1=>by have:=hT_nn h i;show 0<=hT T i/2;grind
theorem qah7 {x T:Rat}{j n:Nat}(hx:Bd x 3)(hj:7<=j)(hn:j<=n)(h:Bd (tm x j) T):Bd (cs x n-cs x j) T/\Bd (ss x n-ss x j) T:=by
 obtain⟨i,rfl⟩:=Nat.exists_eq_add_of_le hn;obtain⟨_,⟨b1,b2⟩,⟨c1,c2⟩⟩:=qac2 hx hj h i;have:=hT_nn h.nn i;exact⟨⟨by grind,by grind⟩,⟨by grind,by grind⟩⟩
def sE (j:Nat):Nat:=if j=0 then 16384 else if j<=3 then 16385 else 16388-j
theorem qams (j:Nat)(hj:j<=10000):∃k:Nat,sE j+1=sE (j+1)+k/\pw k<=((j+1:Nat):Int):=by
 have p0:pw 0=1:=rfl;have p1:pw 1=2:=rfl;have p2:pw 2=4:=rfl;unfold sE;by_cases h0:j=0
 ·refine⟨0,?_,by omega⟩;subst h0;rfl
 ·by_cases h3:j<=2
  ·refine⟨1,?_,by omega⟩;rw[if_neg h0,if_pos (by omega),if_neg (by omega),if_pos (by omega)]
  ·by_cases h4:j<=3
   ·refine⟨2,?_,by omega⟩;rw[if_neg h0,if_pos h4,if_neg (by omega),if_neg (by omega)];omega
   ·refine⟨2,?_,by omega⟩;rw[if_neg h0,if_neg h4,if_neg (by omega),if_neg (by omega)];omega
theorem sE_le (j:Nat):sE j<=16385:=by unfold sE;split;omega;split<;>omega
theorem qac3 {r t:Iv}{p j:Nat}(wt:t.W)(wr:r.W)(hp:precB (p:Int)=true)(ht:t.Bt (-pw (sE j)) (pw (sE j)))(hr:r.Bt (-pw 16385) (pw 16385))(hj:j<=10000):(srT r p (j+1) t).Bt (-pw (sE (j+1))) (pw (sE (j+1))):=by
 have l:=sE_le j;have l2:=sE_le (j+1);have m:=qzc (c:=pw (sE j+1)) wt wr hp ht hr (qc1 (by omega)) (by rw[<-qbh,<-qbh];exact pw_le (by omega));have n:=nI_Bt (k:=((j+1:Nat):Int)) (by omega);have p0:=qaw 16384;have q0:=qaw (sE (j+1));obtain⟨k,hk,hk2⟩:=qams j hj;refine qwx mul_W (nI_Wk (by omega)) hp m n (Int.mul_pos (by omega) p0) (qc1 (by omega)) (Int.le_of_lt q0) ?_;rw[<-Int.mul_assoc];refine Int.mul_le_mul_of_nonneg_right ?_ (Int.le_of_lt p0);rw[hk,qbh];exact Int.mul_le_mul_of_nonneg_left hk2 (Int.le_of_lt q0)
theorem qac1 {r:Iv}{p:Nat}(wr:r.W)(hp:precB (p:Int)=true)(hr:r.Bt (-pw 16385) (pw 16385)):∀(f j:Nat) (t:Iv),t.W->t.Bt (-pw (sE j)) (pw (sE j))->p+5<=j+f->j+f<=2000->qlv r p f (j+1) t
 |0,j,t,wt,ht,h1,h2=>by
  unfold qlv;have hpp:=precB_iff.1 hp;rw[qrp wt ht.k (by omega),q6k wt ht.k];have a:=ht.lo;have b:=ht.hi;have le:=qap wt ht.k;have c:pw (sE j)<pw (16384-p):=by
   refine pw_lt_iff.2 ?_;unfold sE;rw[if_neg (by omega),if_neg (by omega)];omega
  exact⟨by omega,by omega⟩
 |f+1,j,t,wt,ht,h1,h2=>by
  unfold qlv;right;exact qac1 wr hp hr f (j+1) _ srT_W (qac3 wt wr hp ht hr (by omega)) (by omega) (by omega)
theorem qaec : (nI 1 1).Bt (-pw (sE 0)) (pw (sE 0)):=by
 have n:=nI_Bt (k:=1) (by decide);rw[Int.one_mul]at n;have p0:=qaw 16384;exact n.mono (by show -pw 16384<=_;omega) (by show _<=pw 16384;omega)
theorem q78 {r:Iv}{p:Nat}(wr:r.W)(hp:precB (p:Int)=true)(hr:r.Bt (-pw 16385) (pw 16385)):qlv r p 1000 1 (nI 1 1):=by
 have hpp:=precB_iff.1 hp;exact qac1 wr hp hr 1000 0 _ (nI_Wk (by decide)) qaec (by omega) (by omega)
theorem qakq : ((pw 16385:Int):Rat)=2*sc:=by
 rw[pwq,sc_p2,show p2 16385=p2 (16384+1) from rfl,qdy,Rat.mul_comm];rfl
theorem qakk {r:Iv}{v:Nat->Rat}(hr:r.Bt (-pw 16385) (pw 16385))(hv:r.Has v):∃N,∀n,N<=n->Bd (v n) 3:=by
 obtain⟨a,b⟩:=qed hr.k hv;have u:r.hi.rat<=2:=q0m hr.hi (by rw[qakq];exact Rat.le_refl);have l:-2<=r.lo.rat:=q8l hr.lo (by rw[Rat.intCast_neg,qakq];grind);obtain⟨N,hN⟩:=a 1 (by grind);obtain⟨M,hM⟩:=b 1 (by grind);refine⟨max N M,fun n hn=>?_⟩;have p:=hN n (by omega);have q:=hM n (by omega);constructor<;>grind
theorem qam5 {p:Nat}(h:1<=p)(hp:p<=16384):(pwD (1-(p:Int))).rat=2*(pwD (-(p:Int))).rat:=by
 have a:=qgj (n:=1-(p:Int)) (by omega);have b:=qgj (n:=-(p:Int)) (by omega);rw[show(1-(p:Int)+16384).toNat=(16384-p)+1 by omega,qcj]at a;rw[show(-(p:Int)+16384).toNat=16384-p by omega]at b;refine qfh (c:=sc) (by have:=qbf;grind) ?_;have e:2*(pwD (-(p:Int))).rat*sc=2*((pwD (-(p:Int))).rat*sc):=by grind
 rw[e,qay,qay,a,b,Rat.intCast_mul];rfl
theorem q38 {x:Iv}{s:Nat->Rat}(wx:x.W)(k:x.known=true)(h:x.Has s):Bnd s:=by
 obtain⟨N,hN⟩:=q6l wx k h 1 (by grind);exact⟨x.mag.rat+1,N,hN⟩
theorem q7a : ∀n:Nat,(n%4=0/\c4 n=1/\s4 n=0)\/(n%4=1/\c4 n=0/\s4 n=1)\/(n%4=2/\c4 n=-1/\s4 n=0)\/(n%4=3/\c4 n=0/\s4 n=-1)
 |0=>.inl ⟨rfl,qgf,qfg⟩
 |n+1=>by
  rw[qcn,qci];rcases q7a n with ⟨h,a,b⟩|⟨h,a,b⟩|⟨h,a,b⟩|⟨h,a,b⟩<;>rw[a,b]
  ·exact .inr (.inl ⟨by omega,by grind,rfl⟩)
  ·exact .inr (.inr (.inl ⟨by omega,rfl,rfl⟩))
  ·exact .inr (.inr (.inr ⟨by omega,by grind,rfl⟩))
  ·exact .inl ⟨by omega,by grind,rfl⟩
theorem qaml {v:Nat->Rat}{p:Int}{j:Nat}{T s:Iv}(wT:T.W)(ws:s.W)(hT:T.Has (fun n=>tm (v n) (j+1)))(hs:s.Has (fun n=>ss (v n) j)):(srS p (j+1) T s).Has (fun n=>ss (v n) (j+1)):=by
 have e:∀n,ss (v n) (j+1)=ss (v n) j+s4 (j+1)*tm (v n) (j+1):=fun _=>rfl
 unfold srS prt;rcases q7a (j+1)with ⟨h,a,b⟩|⟨h,a,b⟩|⟨h,a,b⟩|⟨h,a,b⟩
 ·rw[if_neg (by omega)];exact hs.near (Near.of_eq fun n=>by rw[e,b];grind)
 ·rw[if_pos (by omega),if_neg (by omega)];exact(qj3 ws wT hs hT).near (Near.of_eq fun n=>by rw[e,b];grind)
 ·rw[if_neg (by omega)];exact hs.near (Near.of_eq fun n=>by rw[e,b];grind)
 ·rw[if_pos (by omega),if_pos (by omega)];exact(qj3 ws (neg_W wT) hs (qp9 wT hT)).near (Near.of_eq fun n=>by rw[e,b];grind)
theorem qamm {v:Nat->Rat}{p:Int}{j:Nat}{T c:Iv}(wT:T.W)(wc:c.W)(hT:T.Has (fun n=>tm (v n) (j+1)))(hc:c.Has (fun n=>cs (v n) j)):(srC p (j+1) T c).Has (fun n=>cs (v n) (j+1)):=by
 have e:∀n,cs (v n) (j+1)=cs (v n) j+c4 (j+1)*tm (v n) (j+1):=fun _=>rfl
 unfold srC prt;rcases q7a (j+1)with ⟨h,a,b⟩|⟨h,a,b⟩|⟨h,a,b⟩|⟨h,a,b⟩
 ·rw[if_neg (by omega),if_neg (by omega)];exact(qj3 wc wT hc hT).near (Near.of_eq fun n=>by rw[e,a];grind)
 ·rw[if_pos (by omega)];exact hc.near (Near.of_eq fun n=>by rw[e,a];grind)
 ·rw[if_neg (by omega),if_pos (by omega)];exact(qj3 wc (neg_W wT) hc (qp9 wT hT)).near (Near.of_eq fun n=>by rw[e,a];grind)
 ·rw[if_pos (by omega)];exact hc.near (Near.of_eq fun n=>by rw[e,a];grind)
theorem qac4 {r:Iv}{p:Nat}{v:Nat->Rat}(wr:r.W)(hp:precB (p:Int)=true)(hr:r.Bt (-pw 16385) (pw 16385))(hv:r.Has v):∀(f j:Nat) (t s c:Iv),f+j<=2000->t.W->t.Bt (-pw (sE j)) (pw (sE j))->s.W->c.W ->
 t.Has (fun n=>tm (v n) j)->s.Has (fun n=>ss (v n) j)->c.Has (fun n=>cs (v n) j)->qlv r p f (j+1) t ->
 ((srG r p f (j+1) t s c).1.add (qbt (pwD (1-(p:Int)))) p).Has (Si v)/\((srG r p f (j+1) t s c).2.add (qbt (pwD (1-(p:Int)))) p).Has (Co v)
 |f,j,t,s,c,hf,wt,bt,ws,wc,ht,hs,hc,hst=>by
  have hpp:=precB_iff.1 hp;have o:=qkc (n:=1-(p:Int)) (by omega) (by omega);obtain⟨K,hK⟩:=qakk hr hv;have fin:qec t (-(p:Int))=true/\8<=j+1->(s.add (qbt (pwD (1-(p:Int)))) p).Has (Si v)/\(c.add (qbt (pwD (1-(p:Int)))) p).Has (Co v):=by
   rintro⟨hb,h8⟩;have rp:=q8u (p:=p) (by omega);have e2:=qam5 (p:=p) (by omega) (by omega);have mr:t.mag.rat<=(pwD (-(p:Int))).rat:=by
    refine rat_le.2 ?_;rw[qgj (by omega),show(-(p:Int)+16384).toNat=16384-p by omega];exact Int.le_of_lt ((qrp wt bt.k (by omega)).1 hb)
   obtain⟨M,hM⟩:=q6l wt bt.k ht (pwD (-(p:Int))).rat rp;have key:∀n,max (max K M) j<=n->Bd (cs (v n) n-cs (v n) j) (pwD (1-(p:Int))).rat/\Bd (ss (v n) n-ss (v n) j) (pwD (1-(p:Int))).rat:=fun n hn=>by
    refine qah7 (hK n (by omega)) (by omega) (by omega) ?_;obtain⟨a,b⟩:=hM n (by omega);rw[e2];constructor<;>grind
   have k1:(qbt (pwD (1-(p:Int)))).Has (fun n=>ss (v n) n-ss (v n) j):=Iv.Has.of_ev _ fun n hn=>qsx (key n hn).2
   have k2:(qbt (pwD (1-(p:Int)))).Has (fun n=>cs (v n) n-cs (v n) j):=Iv.Has.of_ev _ fun n hn=>qsx (key n hn).1
   exact⟨(qj3 ws (qgg o) hs k1).near (Near.of_eq fun n=>by show ss (v n) n=_;grind),(qj3 wc (qgg o) hc k2).near (Near.of_eq fun n=>by show cs (v n) n=_;grind)⟩
  cases f with
  |zero=>exact fin hst
  |succ f=>
   by_cases hd:qec t (-(p:Int))=true/\8<=j+1
   ·unfold srG;rw[if_pos hd];exact fin hd
   ·unfold srG;rw[if_neg hd];have hst2:qlv r p f (j+1+1) (srT r p (j+1) t):=by
     unfold qlv at hst;rcases hst with h|h
     ·exact absurd h hd
     ·exact h
    have bv:Bnd v:=⟨3,K,hK⟩
    have btm:Bnd (fun n=>tm (v n) j):=q38 wt bt.k ht;have h1:=qzp (p:=p) (n:=j+1) mul_W (by omega) (qvj (p:=p) wt wr ht hv btm bv);have hT:(srT r p (j+1) t).Has (fun n=>tm (v n) (j+1)):=h1.near (Near.of_eq fun n=>rfl);have wT:(srT r p (j+1) t).W:=srT_W;refine qac4 wr hp hr hv f (j+1) _ _ _ (by omega) wT (qac3 wt wr hp bt hr (by omega)) (srS_W ws) (srC_W wc) hT (qaml wT ws hT hs) (qamm wT wc hT hc) hst2
theorem qu7 {r:Iv}{p:Int}:(rSin r p).W:=add_W
theorem qva {r:Iv}{p:Int}:(rCos r p).W:=add_W
theorem qaih {r:Iv}{p:Nat}{v:Nat->Rat}(wr:r.W)(hp:precB (p:Int)=true)(hr:r.Bt (-pw 16385) (pw 16385))(hv:r.Has v):(rSin r p).Has (Si v)/\(rCos r p).Has (Co v):=by
 have w0:(nI 0 0).W:=nI_Wk (by decide);have w1:(nI 1 1).W:=nI_Wk (by decide);exact qac4 wr hp hr hv 1000 0 _ _ _ (by omega) w1 qaec w0 w1 (qs5 1).has ((qs5 0).has.near (Near.of_eq fun n=>by show s4 0*tm (v n) 0=_;rw[qfg];show 0*1=((0:Int):Rat);grind)) ((qs5 1).has.near (Near.of_eq fun n=>by show c4 0*tm (v n) 0=_;rw[qgf];show 1*1=((1:Int):Rat);grind)) (q78 wr hp hr)
theorem q4t {d:Dy}(ok:d.Ok):qc8 d*pw 16384<=d.val/\d.val<(qc8 d+1)*pw 16384/\(qbs d:Int)*pw 16384<=d.val.natAbs:=by
 have elo:=ok.elo;have ab:=qdt d;have⟨K,hK⟩:∃K:Nat,K=16384:=⟨_,rfl⟩
 have⟨P,hP⟩:∃P:Nat,P=2^K:=⟨_,rfl⟩
 have P0:0<P:=by rw[hP];exact Nat.two_pow_pos _
 have key:∃r:Nat,d.absN=qbs d*P+r/\r<P/\(natV d.m%2^flF d=0↔r=0):=by
  rcases Int.lt_or_le d.e 0 with h|h
  ·have⟨F,hF⟩:∃F,F=flF d:=⟨_,rfl⟩
   have eF:F=(-d.e).toNat:=hF;have⟨c,hc⟩:∃c,c=16384-F:=⟨_,rfl⟩
   have e1:d.absN=natV d.m*2^c:=by unfold Dy.absN;rw[show(d.e+16384).toNat=c by omega]
   have e2:P=2^F*2^c:=by rw[hP,<-Nat.pow_add];exact congrArg (2^·) (by omega)
   have e3:qbs d=natV d.m/2^F:=by unfold qbs;rw[<-hF,show d.e.toNat=0 by omega,Nat.pow_zero,Nat.mul_one]
   have dm:=Nat.div_add_mod (natV d.m) (2^F);have lt:natV d.m%2^F<2^F:=Nat.mod_lt _ (Nat.two_pow_pos _);rw[<-hF,e1,e2,e3];refine⟨natV d.m%2^F*2^c,?_,?_,⟨fun h0=>by rw[h0,Nat.zero_mul],fun h0=>(Nat.mul_eq_zero.1 h0).resolve_right (Nat.ne_of_gt (Nat.two_pow_pos c))⟩⟩
   ·rw[<-Nat.mul_assoc,<-Nat.add_mul,Nat.mul_comm (_/_),dm]
   ·exact Nat.mul_lt_mul_of_pos_right lt (Nat.two_pow_pos _)
  ·have⟨E,hE⟩:∃E,E=d.e.toNat:=⟨_,rfl⟩
   have f0:flF d=0:=by unfold flF;omega
   have e1:d.absN=natV d.m*2^E*P:=by
    unfold Dy.absN;rw[hP,Nat.mul_assoc,<-Nat.pow_add];exact congrArg (fun i=>natV d.m*2^i) (by omega)
   have e3:qbs d=natV d.m*2^E:=by unfold qbs;rw[f0,Nat.pow_zero,Nat.div_one,hE]
   exact⟨0,by rw[e1,e3,Nat.add_zero],P0,⟨fun _=>rfl,fun _=>by rw[f0,Nat.pow_zero];exact Nat.mod_one _⟩⟩
 obtain⟨r,h1,h2,h3⟩:=key;have eP:pw 16384=(P:Int):=by rw[hP,<-hK];rfl
 have h1':(d.absN:Int)=qbs d*(P:Int)+r:=by rw[h1];simp
 rw[ab,eP];clear hP eP ab h1;have a1:=Int.add_mul (qbs d:Int) 1 (P:Int);have a2:(-(qbs d:Int))*P=-((qbs d:Int)*P):=Int.neg_mul _ _;have a3:=Int.add_mul (-(qbs d:Int)) 1 (P:Int);have a4:=Int.sub_mul (-(qbs d:Int)) 1 (P:Int);rw[a2]at a3 a4;rw[Int.one_mul]at a1 a3 a4;have eD:qc8 d=if d.neg=true then(if natV d.m%2^flF d≠0 then -(qbs d:Int)-1 else -(qbs d:Int))else qbs d:=rfl;have eV:d.val=if d.neg=true then -(d.absN:Int)else d.absN:=rfl;rw[eD,eV];generalize (qbs d:Int)=N at *
 generalize (d.absN:Int)=A at *
 cases hn:d.neg
 ·simp only[Bool.false_eq_true,if_false];rw[a1];exact⟨by omega,by omega,by omega⟩
 ·simp only[if_true];split
  ·rename_i hz;have:r≠0:=fun h=>hz (h3.2 h)
   rw[Int.sub_add_cancel,a2,a4];exact⟨by omega,by omega,by omega⟩
  ·rename_i hz;have:=h3.1 (by omega);rw[a2,a3];exact⟨by omega,by omega,by omega⟩
theorem ql5 {d:Dy}(ok:d.Ok):((qc8 d:Int):Rat)<=d.rat/\d.rat<((qc8 d:Int):Rat)+1:=by
 obtain⟨a,b,_⟩:=q4t ok;have hsc:=qbf;have ep:((pw 16384:Int):Rat)=sc:=rfl;have a':=qav a;have b':=qfj b;rw[Rat.intCast_mul,ep,<-qay]at a' b';rw[Rat.intCast_add]at b';exact⟨Rat.le_of_mul_le_mul_right a' hsc,Rat.lt_of_mul_lt_mul_right b' (Rat.le_of_lt hsc)⟩
theorem q18 {d:Dy}{t:Nat}(ok:d.Ok)(ht:t<=40)(h:Bd d.rat (p2 t)):qbs d<1125899906842624/\d.e<=60:=by
 obtain⟨_,_,c⟩:=q4t ok;obtain⟨a,b⟩:=q4c (qay d).symm h;have p0:=qaw 16384;have h1:(qbs d:Int)*pw 16384<=pw t*pw 16384:=by
  rw[<-qbh,Nat.add_comm];omega
 have h2:=Int.le_of_mul_le_mul_right h1 p0;have h3:pw t<=pw 40:=pw_le ht;have e40:pw 40=1099511627776:=rfl;refine⟨by omega,?_⟩;by_cases hm:d.m=[]
 ·rw[(ok.zero hm).2];omega
 ·rcases Int.lt_or_le 60 d.e with h4|h4
  ·exfalso;have od:=ok.odd hm;have f0:flF d=0:=by unfold flF;omega
   have e3:qbs d=natV d.m*2^d.e.toNat:=by unfold qbs;rw[f0,Nat.pow_zero,Nat.div_one]
   have g1:2^60<=2^d.e.toNat:=Nat.pow_le_pow_right (by omega) (by omega);have g2:1*2^d.e.toNat<=natV d.m*2^d.e.toNat:=Nat.mul_le_mul_right _ (by omega);have g3:(2:Nat)^60=1152921504606846976:=rfl;omega
  ·exact h4
def rK (d:Dy):Int:=qc8 (rq d half210 210).lo
def rR (d:Dy):Iv:=rr d half210 (rK d) 210
def rScS (d:Dy):Iv:=if rK d%4=0 then rSin (rR d) 210 else if rK d%4=1 then rCos (rR d) 210 else if rK d%4=2 then(rSin (rR d) 210).neg else(rCos (rR d) 210).neg
def rScC (d:Dy):Iv:=if rK d%4=0 then rCos (rR d) 210 else if rK d%4=1 then(rSin (rR d) 210).neg else if rK d%4=2 then(rCos (rR d) 210).neg else rSin (rR d) 210
theorem qoi : half210.W:=q5r
theorem q4e : Half half210 half210.lo.rat:=qae4 qxq
theorem q6p : half210.Has hpi:=(q6o rPi_W (q6d (p:=210) (by omega) (by omega))).near (Near.of_eq fun n=>by show hpi n=2*hpi n/2;grind)
theorem q8p {d:Dy}(ok:d.Ok)(ht:d.top<=20):(rq d half210 210).lo.Ok/\qbs (rq d half210 210).lo<1125899906842624/\(rq d half210 210).lo.e<=60/\(rR d).Bt (-pw 16385) (pw 16385)/\(rK d).natAbs<=1048580:=by
 have wq:(rq d half210 210).W:=add_W;obtain⟨s,_,sb,nq⟩:=rq_Nr ok ht qoi q4e;have o:=(qai wq nq.k).1;obtain⟨e1,_⟩:=nq.ends wq;have U70:ulp 0 70=(p2 70)⁻¹:=qc5 (by omega);have v70:(p2 70)⁻¹=1/1180591620717411303424:=by rw[show p2 70=1180591620717411303424 from rfl];grind
 rw[U70,v70]at e1;obtain⟨f1,f2⟩:=q18 (t:=21) o (by omega) (by
  obtain⟨a,b⟩:=e1;obtain⟨c,e⟩:=sb;rw[show p2 21=2097152 from rfl];constructor<;>grind)
 obtain⟨k1,k2⟩:=ql5 o;exact⟨o,f1,f2,rr_Bt ok ht qoi q4e k1 (Rat.le_of_lt k2)⟩
theorem rR_W {d:Dy}:(rR d).W:=add_W
theorem qak1 {d:Dy}(ok:d.Ok)(ht:d.top<=20):(rR d).Has (fun n=>d.rat-(rK d:Rat)*hpi n):=by
 obtain⟨_,_,_,_,hk⟩:=q8p ok ht;exact q5y (pt_W ok.w) mul_W (show(Iv.pt d).Has (fun _=>d.rat) from(pt_In d).has) (qvj (nI_W (by omega) (by omega)) qoi (qs5 (rK d)).has q6p (Bnd.const _) hpi_bnd)
theorem qam3 {d:Dy}(ok:d.Ok)(ht:d.top<=20):(rScS d).Has (Si (cK d.rat))/\(rScC d).Has (Co (cK d.rat)):=by
 obtain⟨_,_,_,bt,_⟩:=q8p ok ht;obtain⟨hs,hc⟩:=qaih (p:=210) rR_W (by decide) bt (qak1 ok ht);have bv:Bnd (fun n=>d.rat-(rK d:Rat)*hpi n):=q38 rR_W bt.k (qak1 ok ht);obtain⟨tc,ts⟩:=qqt bv (rK d);have e:(fun n=>d.rat-(rK d:Rat)*hpi n+(rK d:Rat)*hpi n)=cK d.rat:=funext fun n=>by show _=d.rat;grind
 rw[e]at tc ts;have wS:(rSin (rR d) 210).W:=qu7;have wC:(rCos (rR d) 210).W:=qva;have ns:=qp9 wS hs;have nc:=qp9 wC hc;unfold rScS rScC;rcases qqq (rK d)with ⟨h,a,b⟩|⟨h,a,b⟩|⟨h,a,b⟩|⟨h,a,b⟩<;>rw[a,b]at tc ts
 ·rw[if_pos h,if_pos h];exact⟨hs.near (ts.trans (Near.of_eq fun n=>by grind)),hc.near (tc.trans (Near.of_eq fun n=>by grind))⟩
 ·rw[if_neg (by omega),if_pos h,if_neg (by omega),if_pos h];exact⟨hc.near (ts.trans (Near.of_eq fun n=>by grind)),ns.near (tc.trans (Near.of_eq fun n=>by grind))⟩
 ·rw[if_neg (by omega),if_neg (by omega),if_pos h,if_neg (by omega),if_neg (by omega),if_pos h];exact⟨ns.near (ts.trans (Near.of_eq fun n=>by grind)),nc.near (tc.trans (Near.of_eq fun n=>by grind))⟩
 ·rw[if_neg (by omega),if_neg (by omega),if_neg (by omega),if_neg (by omega),if_neg (by omega),if_neg (by omega)];exact⟨nc.near (ts.trans (Near.of_eq fun n=>by grind)),hs.near (tc.trans (Near.of_eq fun n=>by grind))⟩
theorem qap5 {d:Dy}:(rScS d).W:=by
 unfold rScS;split;exact qu7;split;exact qva;split;exact neg_W qu7;exact neg_W qva
theorem qap6 {d:Dy}:(rScC d).W:=by
 unfold rScC;split;exact qva;split;exact neg_W qu7;split;exact neg_W qva;exact qu7
theorem qz7 (k:Int):(k.tmod 4+4).tmod 4=k%4/\-4<=k.tmod 4/\k.tmod 4<=4:=by
 have h:=Int.tmod_eq_emod (a:=k) (b:=4);have h2:k.tmod 4=k%4\/k.tmod 4=k%4-4:=by
  rw[h];split
  ·left;omega
  ·right;rfl
 generalize k.tmod 4=t at *
 refine⟨?_,by omega,by omega⟩;rw[Int.tmod_eq_emod_of_nonneg (by omega)];omega
set_option maxHeartbeats 2000000 in
theorem qy1 (d:Dy)(ok:d.Ok)(ht:d.top<=20):CQ prog qty [d.v,.int .i64 150] (.tup [(rScS d).v,(rScC d).v]):=by
 refine qah rfl fun H=>?_
 obtain⟨o,f1,f2,bt,hk⟩:=q8p ok ht;have wp:(Iv.pt d).W:=pt_W ok.w;have c1:CQ prog qhf [.int .i64 210] (rPi 210).v:=qr8 210 (by omega) (by omega);have c2:CQ prog qix [(rPi 210).v,.int .i64 (-1)] half210.v:=qpm (rPi 210) (-1) rPi_W;have c3:=qhb d;have c4:CQ prog qih [(Iv.pt d).v,half210.v,.int .i64 210] ((Iv.pt d).div half210 (210:Nat)).v:=qg7 (Iv.pt d) half210 210 wp qoi;have c5:=qr0 (-1) (by omega) (by omega);have c6:CQ prog qrc [((Iv.pt d).div half210 (210:Nat)).v,qHalf.v,.int .i64 210] (rq d half210 210).v:=qfe ((Iv.pt d).div half210 (210:Nat)) qHalf 210 div_W qad1;have c7:CQ prog qok [(rq d half210 210).lo.v] (.int .i64 (rK d)):=q2u (rq d half210 210).lo o f1 f2;have c8:=qd4 (rK d) (by omega) (by omega);have c9:CQ prog qra [(nI (rK d) (rK d)).v,half210.v,.int .i64 210] ((nI (rK d) (rK d)).mul half210 (210:Nat)).v:=qpo (nI (rK d) (rK d)) half210 210 (nI_W (by omega) (by omega)) qoi;have c10:CQ prog qq9 [(Iv.pt d).v,((nI (rK d) (rK d)).mul half210 (210:Nat)).v,.int .i64 210] (rR d).v:=q2p (Iv.pt d) ((nI (rK d) (rK d)).mul half210 (210:Nat)) 210 wp mul_W
 have c11:=qaa8 (rR d) 210 rR_W (by omega) (by omega) (q78 (p:=210) rR_W (by decide) bt);have c12:=qpn (rSin (rR d) 210) qu7;have c13:=qpn (rCos (rR d) 210) qva;obtain⟨m1,m2,m3⟩:=qz7 (rK d);have ew:IntKind.i64.wrap ((rK d).tmod 4+4)=(rK d).tmod 4+4:=by rw[wrap_i64]<;>omega
 have eq:qHalf=⟨pwD (-1),pwD (-1),false⟩:=rfl;have eS:rScS d=if rK d%4=0 then rSin (rR d) 210 else if rK d%4=1 then rCos (rR d) 210 else if rK d%4=2 then(rSin (rR d) 210).neg else(rCos (rR d) 210).neg:=rfl;have eC:rScC d=if rK d%4=0 then rCos (rR d) 210 else if rK d%4=1 then(rSin (rR d) 210).neg else if rK d%4=2 then(rCos (rR d) 210).neg else rSin (rR d) 210:=rfl;rw[eS,eC];rw[eq]at c6;clear eS eC eq o f1 f2 bt;generalize (rSin (rR d) 210).neg=NS at *
 generalize (rCos (rR d) 210).neg=NC at *
 generalize rSin (rR d) 210=S at *
 generalize rCos (rR d) 210=C at *
 generalize rR d=R at *
 generalize (nI (rK d) (rK d)).mul half210 (210:Nat)=M at *
 generalize nI (rK d) (rK d)=I at *
 generalize rK d=k at *
 generalize rq d half210 210=Q at *
 generalize (Iv.pt d).div half210 (210:Nat)=D at *
 generalize Iv.pt d=P at *
 generalize half210=hf at *
 generalize rPi 210=pi at *
 generalize pwD (-1)=q at *
 simp;refine zq c1 ?_;simp;refine zq c2 ?_;simp;refine zq c3 ?_;simp;refine zq c4 ?_;simp;refine zq c5 ?_;simp;refine zq c5 ?_;simp;refine zq c6 ?_;simp;refine zq c7 ?_;simp;refine zq c8 ?_;simp;refine zq c9 ?_;simp;refine zq c10 ?_;simp;refine zq c11 ?_;rcases(by omega:k%4=0\/k%4=1\/k%4=2\/k%4=3)with h|h|h|h
 ·simp[ew,m1,h,qzf,qse,qzg,apart]
 ·simp[ew,m1,h];refine zq c12 ?_;simp
 ·simp[ew,m1,h];refine zq c12 ?_;simp;refine zq c13 ?_;simp
 ·simp[ew,m1,h];refine zq c13 ?_;simp[qzf,qse,qzg,apart]
end Go.Abs.W
