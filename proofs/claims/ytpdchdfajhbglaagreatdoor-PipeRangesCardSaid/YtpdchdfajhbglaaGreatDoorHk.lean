/- Parts of the proof: FpIvK, FpIvL, FpQ. -/
import Derived.Test.YtpdchdfajhbglaaGreatDoorHz
import Derived.Test.YtpdchdfajhbglaaGreatDoorHm
import Derived.Test.YtpdchdfajhbglaaGreatDoorFe
namespace Go.Abs.W
def Dy.ex (d:Dy):Dy × Int:=(if d.valid then d else Dy.zero,if d.valid then 0 else 9)
theorem IsDn.at {p:Nat}{r:Dy × Int}{le:Int->Prop}(h:IsDn p r le)(h0:r.2=0):le r.1.val:=by
 rcases h with ⟨_,b,c⟩|⟨a,_⟩
 ·exact(c _ b).1 (Int.le_refl _)
 ·exact absurd h0 a
def sc : Rat:=(pw 16384:Int)
theorem qgk : 0<sc:=by
 have:=Rat.intCast_lt_intCast.2 (qax 16384);simpa[sc]using this
def Iv.In (x:Iv)(q:Rat):Prop:=x.known=true->(x.lo.val:Rat)<=q*sc/\q*sc<=(x.hi.val:Rat)
theorem Iv.In.whole {q:Rat}:Iv.whole.In q:=fun h=>by cases h
theorem qbb {a b:Int}(h:a<=b):(a:Rat)<=(b:Rat):=Rat.intCast_le_intCast.2 h
theorem qsy {x y:Iv}{p:Int}{q r:Rat}(wx:x.W)(wy:y.W)(hq:x.In q)(hr:y.In r):(x.add y p).In (q+r):=by
 unfold Iv.add;split
 ·rename_i h;simp only[Bool.and_eq_true]at h;obtain⟨⟨k1,k2⟩,hp⟩:=h;obtain⟨a1,a2⟩:=qai wx k1;obtain⟨b1,b2⟩:=qai wy k2;obtain⟨q1,q2⟩:=hq k1;obtain⟨r1,r2⟩:=hr k2;unfold Iv.made;split
  ·rename_i h0;intro _;have u:=qbb ((qp0 a1 b1 hp).at h0.1);have v:=qbb ((qpz a2 b2 hp).at h0.2);rw[Rat.intCast_add]at u v;refine⟨?_,?_⟩
   ·show(((rAdd x.lo y.lo p false).1.val:Int):Rat)<=_;rw[Rat.add_mul];grind
   ·show _<=(((rAdd x.hi y.hi p true).1.val:Int):Rat);rw[Rat.add_mul];grind
  ·exact .whole
 ·exact .whole
theorem rmulR {a b c:Rat}(h:a<=b)(hc:0<=c):a*c<=b*c:=Rat.mul_le_mul_of_nonneg_right h hc
theorem rmulL {a b c:Rat}(h:a<=b)(hc:0<=c):c*a<=c*b:=Rat.mul_le_mul_of_nonneg_left h hc
theorem q7c {a b c:Rat}(h:a<=b)(hc:c<=0):b*c<=a*c:=by
 have:=rmulR (c:=-c) h (by grind);grind
theorem q7d {a b c:Rat}(h:a<=b)(hc:c<=0):c*b<=c*a:=by
 have:=rmulL (c:=-c) h (by grind);grind
theorem qup {a0 a1 b0 b1 U V:Rat}(h1:a0<=U)(h2:U<=a1)(h3:b0<=V)(h4:V<=b1):a0*b0<=U*V\/a0*b1<=U*V\/a1*b0<=U*V\/a1*b1<=U*V:=by
 by_cases hV:V<=0
 ·have t:=q7c h2 hV;by_cases ha:a1<=0
  ·have:=q7d h4 ha;grind
  ·have:=rmulL h3 (show 0<=a1 by grind);grind
 ·have t:=rmulR h1 (show 0<=V by grind);by_cases ha:a0<=0
  ·have:=q7d h4 ha;grind
  ·have:=rmulL h3 (show 0<=a0 by grind);grind
theorem quq {a0 a1 b0 b1 U V:Rat}(h1:a0<=U)(h2:U<=a1)(h3:b0<=V)(h4:V<=b1):U*V<=a0*b0\/U*V<=a0*b1\/U*V<=a1*b0\/U*V<=a1*b1:=by
 by_cases hV:V<=0
 ·have t:=q7c h1 hV;by_cases ha:a0<=0
  ·have:=q7d h3 ha;grind
  ·have:=rmulL h4 (show 0<=a0 by grind);grind
 ·have t:=rmulR h2 (show 0<=V by grind);by_cases ha:a1<=0
  ·have:=q7d h3 ha;grind
  ·have:=rmulL h4 (show 0<=a1 by grind);grind
theorem q1f {f g:Dy->Dy->Dy × Int}{x y:Iv}(hg:¬good4 f g x y 4):Iv.four f g x y=Iv.whole:=by
 unfold Iv.four;split
 ·rename_i hc;exfalso;apply hg;intro j hj;simp[pairs]at hc;obtain rfl|rfl|rfl|rfl:j=0\/j=1\/j=2\/j=3:=by omega
  all_goals simp[qah,pairs,hc]
 ·rfl
theorem q2w {x y:Iv}{p:Int}{q r:Rat}(wx:x.W)(wy:y.W)(hq:x.In q)(hr:y.In r):(x.mul y p).In (q*r):=by
 unfold Iv.mul;split
 ·rename_i h;simp only[Bool.and_eq_true]at h;obtain⟨⟨k1,k2⟩,hp⟩:=h;have ox:=qai wx k1;have oy:=qai wy k2;obtain⟨r1,r2⟩:=hq k1;obtain⟨r3,r4⟩:=hr k2;by_cases hg:good4 (fun a b=>rMul a b p false) (fun a b=>rMul a b p true) x y 4
  ·rw[qfd hg];intro _;have okf:∀a b:Dy,(rMul a b p false).1.Ok:=fun _ _=>rMul_ok
   have okg:∀a b:Dy,(rMul a b p true).1.Ok:=fun _ _=>rMul_ok
   obtain⟨j,hj,hq⟩:=qot (a:=x) (b:=y) (Q:=fun u v=>(u.val:Rat)*v.val<=q*sc*(r*sc)) (qup r1 r2 r3 r4);obtain⟨j2,hj2,hq2⟩:=qot (a:=x) (b:=y) (Q:=fun u v=>q*sc*(r*sc)<=(u.val:Rat)*v.val) (quq r1 r2 r3 r4);have o1:=qba hj ox oy;have o2:=qba hj2 ox oy;have d1:=qbb ((qj7 o1.1 o1.2 hp).at (hg j hj).1);have d2:=qbb ((qj6 o2.1 o2.2 hp).at (hg j2 hj2).2);have l1:=qbb (qt6 okf (x:=x) (y:=y) hj);have l2:=qbb (qt7 okg (x:=x) (y:=y) hj2);rw[Rat.intCast_mul,Rat.intCast_mul]at d1 d2;rw[show((pw 16384:Int):Rat)=sc from rfl]at d1 d2;have e:q*sc*(r*sc)=(q*r*sc)*sc:=by grind
   rw[e]at hq hq2;refine⟨Rat.le_trans l1 ?_,Rat.le_trans ?_ l2⟩
   ·exact Rat.le_of_mul_le_mul_right (Rat.le_trans d1 hq) qgk
   ·exact Rat.le_of_mul_le_mul_right (Rat.le_trans hq2 d2) qgk
  ·rw[q1f hg];exact .whole
 ·exact .whole
theorem In.meet {x y:Iv}{q:Rat}(kx:x.known=true)(ky:y.known=true)(hx:x.In q)(hy:y.In q):x.lo.val<=y.hi.val/\y.lo.val<=x.hi.val:=by
 obtain⟨a,b⟩:=hx kx;obtain⟨c,d⟩:=hy ky;exact⟨Rat.intCast_le_intCast.1 (Rat.le_trans a d),Rat.intCast_le_intCast.1 (Rat.le_trans c b)⟩
theorem q46 {a b:Rat}(ha:0<a)(h:a<=b):b⁻¹<=a⁻¹:=by
 have hb:0<b:=by grind
 have h1:=Rat.inv_pos.2 ha;have h2:=Rat.inv_pos.2 hb;have h3:=rmulR (rmulL h (Rat.le_of_lt h1)) (Rat.le_of_lt h2);have e1:a⁻¹*a*b⁻¹=b⁻¹:=by rw[Rat.inv_mul_cancel a (by grind),Rat.one_mul]
 have e2:a⁻¹*b*b⁻¹=a⁻¹:=by rw[Rat.mul_assoc,Rat.mul_inv_cancel b (by grind),Rat.mul_one]
 rw[e1,e2]at h3;exact h3
theorem qz3 (a:Rat):(-a)⁻¹=-(a⁻¹):=by
 by_cases h:a=0
 ·subst h;simp
 ·grind
theorem qum {a b:Rat}(hb:b<0)(h:a<=b):b⁻¹<=a⁻¹:=by
 have:=q46 (a:=-b) (b:=-a) (by grind) (by grind);rw[qz3,qz3]at this;grind
theorem qul {a:Rat}(h:a<0):a⁻¹<0:=by
 have:=Rat.inv_pos.2 (show 0 < -a by grind);rw[qz3]at this;grind
theorem qkc {a b:Int}(h:a<b):(a:Rat)<(b:Rat):=Rat.intCast_lt_intCast.2 h
theorem qad3 {u v g:Int}(hv:v≠0)(h:divLe u v g):(g:Rat)<=(u:Rat)*(v:Rat)⁻¹*sc:=by
 rcases Int.lt_or_le 0 v with h0|h0
 ·rw[qfh h0]at h;have c:=qbb h;rw[Rat.intCast_mul,Rat.intCast_mul,show((pw 16384:Int):Rat)=sc from rfl]at c;have v0:(0:Rat)<v:=qkc h0;have:=rmulR c (Rat.le_of_lt (Rat.inv_pos.2 v0));rw[Rat.mul_assoc,Rat.mul_inv_cancel _ (by grind),Rat.mul_one]at this;grind
 ·have hneg:v<0:=by omega
  rw[qln (by omega)]at h;have c:=qbb h;rw[Rat.intCast_mul,Rat.intCast_mul,show((pw 16384:Int):Rat)=sc from rfl]at c;have v0:(v:Rat)<0:=qkc hneg;have:=q7c c (Rat.le_of_lt (qul v0));rw[Rat.mul_assoc (g:Rat),Rat.mul_inv_cancel _ (by grind),Rat.mul_one]at this;grind
theorem qad5 {u v g:Int}(hv:v≠0)(h:divGe u v g):(u:Rat)*(v:Rat)⁻¹*sc<=(g:Rat):=by
 rcases Int.lt_or_le 0 v with h0|h0
 ·rw[qgm h0]at h;have c:=qbb h;rw[Rat.intCast_mul,Rat.intCast_mul,show((pw 16384:Int):Rat)=sc from rfl]at c;have v0:(0:Rat)<v:=qkc h0;have:=rmulR c (Rat.le_of_lt (Rat.inv_pos.2 v0));rw[Rat.mul_assoc (g:Rat),Rat.mul_inv_cancel _ (by grind),Rat.mul_one]at this;grind
 ·have hneg:v<0:=by omega
  rw[qlo (by omega)]at h;have c:=qbb h;rw[Rat.intCast_mul,Rat.intCast_mul,show((pw 16384:Int):Rat)=sc from rfl]at c;have v0:(v:Rat)<0:=qkc hneg;have:=q7c c (Rat.le_of_lt (qul v0));rw[Rat.mul_assoc (g:Rat),Rat.mul_inv_cancel _ (by grind),Rat.mul_one]at this;grind
theorem q8g {x y:Iv}{p:Int}{q r:Rat}(wx:x.W)(wy:y.W)(hq:x.In q)(hr:y.In r):(x.div y p).In (q/r):=by
 unfold Iv.div;split
 ·rename_i h;simp only[Bool.and_eq_true,decide_eq_true_eq]at h;obtain⟨⟨⟨k1,k2⟩,hp⟩,hs⟩:=h;have ox:=qai wx k1;have oy:=qai wy k2;obtain⟨r1,r2⟩:=hq k1;obtain⟨r3,r4⟩:=hr k2;have rs:=(qlf wy k2).1 hs;have q2:=qal wy k2;have q1:=qal wx k1;have hV:(y.hi.val:Rat)⁻¹<=(r*sc)⁻¹/\(r*sc)⁻¹<=(y.lo.val:Rat)⁻¹:=by
   rcases rs with rs|rs
   ·have h0:=qkc rs;rw[show((0:Int):Rat)=0 from rfl]at h0;exact⟨q46 (by grind) r4,q46 h0 r3⟩
   ·have h0:=qkc rs;rw[show((0:Int):Rat)=0 from rfl]at h0;exact⟨qum h0 r4,qum (by grind) r3⟩
  have hr0:r*sc≠0:=by
   rcases rs with rs|rs
   ·have h0:=qkc rs;rw[show((0:Int):Rat)=0 from rfl]at h0;grind
   ·have h0:=qkc rs;rw[show((0:Int):Rat)=0 from rfl]at h0;grind
  have e:q*sc*(r*sc)⁻¹=q/r:=by
   have hsc:=qgk;have:r≠0:=by intro h;rw[h]at hr0;simp at hr0
   grind
  by_cases hg:good4 (fun a b=>rDiv a b p false) (fun a b=>rDiv a b p true) x y 4
  ·rw[qfd hg];intro _;have okf:∀a b:Dy,(rDiv a b p false).1.Ok:=fun _ _=>rDiv_ok
   have okg:∀a b:Dy,(rDiv a b p true).1.Ok:=fun _ _=>rDiv_ok
   obtain⟨j,hj,hq⟩:=qot (a:=x) (b:=y) (Q:=fun u v=>(u.val:Rat)*(v.val:Rat)⁻¹<=q/r) (by
    have:=qup r1 r2 hV.1 hV.2;rw[e]at this;rcases this with h|h|h|h
    ·exact .inr (.inl h)
    ·exact .inl h
    ·exact .inr (.inr (.inr h))
    ·exact .inr (.inr (.inl h)))
   obtain⟨j2,hj2,hq2⟩:=qot (a:=x) (b:=y) (Q:=fun u v=>q/r<=(u.val:Rat)*(v.val:Rat)⁻¹) (by
    have:=quq r1 r2 hV.1 hV.2;rw[e]at this;rcases this with h|h|h|h
    ·exact .inr (.inl h)
    ·exact .inl h
    ·exact .inr (.inr (.inr h))
    ·exact .inr (.inr (.inl h)))
   have o1:=qba hj ox oy;have o2:=qba hj2 ox oy;have n1:(qah x y j).2.val≠0:=by have:=qc7 hj q1 q2;omega
   have n2:(qah x y j2).2.val≠0:=by have:=qc7 hj2 q1 q2;omega
   have d1:=qad3 n1 ((qrp o1.1 o1.2 hp (qpo n1)).at (hg j hj).1);have d2:=qad5 n2 ((qro o2.1 o2.2 hp (qpo n2)).at (hg j2 hj2).2);have l1:=qbb (qt6 okf (x:=x) (y:=y) hj);have l2:=qbb (qt7 okg (x:=x) (y:=y) hj2);have s0:=Rat.le_of_lt qgk;exact⟨Rat.le_trans l1 (Rat.le_trans d1 (rmulR hq s0)),Rat.le_trans (rmulR hq2 s0) (Rat.le_trans d2 l2)⟩
  ·rw[q1f hg];exact .whole
 ·exact .whole
end Go.Abs.W
