/- Parts of the proof: FpIvK, FpIvL, FpQ. -/
import Derived.Test.YtfioikimlnlcbaaGreatDoorHz
import Derived.Test.YtfioikimlnlcbaaGreatDoorHm
import Derived.Test.YtfioikimlnlcbaaGreatDoorFe
namespace Go.Abs.W
def Dy.ex (d:Dy):Dy × Int:=(if d.valid then d else Dy.zero,if d.valid then 0 else 9)
theorem IsDn.at {p:Nat}{r:Dy × Int}{le:Int->Prop}(h:IsDn p r le)(h0:r.2=0):le r.1.val:=by
 rcases h with ⟨_,b,c⟩|⟨a,_⟩
 ·exact(c _ b).1 (Int.le_refl _)
 ·exact absurd h0 a
def sc : Rat:=(pw 16384:Int)
theorem q3b : 0<sc:=by
 have:=Rat.intCast_lt_intCast.2 (qc6 16384);simpa[sc]using this
def Iv.In (x:Iv)(q:Rat):Prop:=x.known=true->(x.lo.val:Rat)<=q*sc/\q*sc<=(x.hi.val:Rat)
theorem Iv.In.whole {q:Rat}:Iv.whole.In q:=fun h=>by cases h
theorem qf3 {a b:Int}(h:a<=b):(a:Rat)<=(b:Rat):=Rat.intCast_le_intCast.2 h
theorem rmulR {a b c:Rat}(h:a<=b)(hc:0<=c):a*c<=b*c:=Rat.mul_le_mul_of_nonneg_right h hc
theorem rmulL {a b c:Rat}(h:a<=b)(hc:0<=c):c*a<=c*b:=Rat.mul_le_mul_of_nonneg_left h hc
theorem qaer {a b c:Rat}(h:a<=b)(hc:c<=0):b*c<=a*c:=by
 have:=rmulR (c:=-c) h (by grind);grind
theorem q3d {a b c:Rat}(h:a<=b)(hc:c<=0):c*b<=c*a:=by
 have:=rmulL (c:=-c) h (by grind);grind
theorem qm0 {a0 a1 b0 b1 U V:Rat}(h1:a0<=U)(h2:U<=a1)(h3:b0<=V)(h4:V<=b1):a0*b0<=U*V\/a0*b1<=U*V\/a1*b0<=U*V\/a1*b1<=U*V:=by
 by_cases hV:V<=0
 ·have t:=qaer h2 hV;by_cases ha:a1<=0
  ·have:=q3d h4 ha;grind
  ·have:=rmulL h3 (show 0<=a1 by grind);grind
 ·have t:=rmulR h1 (show 0<=V by grind);by_cases ha:a0<=0
  ·have:=q3d h4 ha;grind
  ·have:=rmulL h3 (show 0<=a0 by grind);grind
theorem qm1 {a0 a1 b0 b1 U V:Rat}(h1:a0<=U)(h2:U<=a1)(h3:b0<=V)(h4:V<=b1):U*V<=a0*b0\/U*V<=a0*b1\/U*V<=a1*b0\/U*V<=a1*b1:=by
 by_cases hV:V<=0
 ·have t:=qaer h1 hV;by_cases ha:a0<=0
  ·have:=q3d h3 ha;grind
  ·have:=rmulL h4 (show 0<=a0 by grind);grind
 ·have t:=rmulR h2 (show 0<=V by grind);by_cases ha:a1<=0
  ·have:=q3d h3 ha;grind
  ·have:=rmulL h4 (show 0<=a1 by grind);grind
theorem qac2 {f g:Dy->Dy->Dy × Int}{x y:Iv}(hg:¬good4 f g x y 4):Iv.four f g x y=Iv.whole:=by
 unfold Iv.four;split
 ·rename_i hc;exfalso;apply hg;intro j hj;simp[pairs]at hc;obtain rfl|rfl|rfl|rfl:j=0\/j=1\/j=2\/j=3:=by omega
  all_goals simp[qai,pairs,hc]
 ·rfl
theorem qajy {x y:Iv}{p:Int}{q r:Rat}(wx:x.W)(wy:y.W)(hq:x.In q)(hr:y.In r):(x.mul y p).In (q*r):=by
 unfold Iv.mul;split
 ·rename_i h;simp only[Bool.and_eq_true]at h;obtain⟨⟨k1,k2⟩,hp⟩:=h;have ox:=qb3 wx k1;have oy:=qb3 wy k2;obtain⟨r1,r2⟩:=hq k1;obtain⟨r3,r4⟩:=hr k2;by_cases hg:good4 (fun a b=>rMul a b p false) (fun a b=>rMul a b p true) x y 4
  ·rw[qot hg];intro _;have okf:∀a b:Dy,(rMul a b p false).1.Ok:=fun _ _=>qk6
   have okg:∀a b:Dy,(rMul a b p true).1.Ok:=fun _ _=>qk6
   obtain⟨j,hj,hq⟩:=qaat (a:=x) (b:=y) (Q:=fun u v=>(u.val:Rat)*v.val<=q*sc*(r*sc)) (qm0 r1 r2 r3 r4);obtain⟨j2,hj2,hq2⟩:=qaat (a:=x) (b:=y) (Q:=fun u v=>q*sc*(r*sc)<=(u.val:Rat)*v.val) (qm1 r1 r2 r3 r4);have o1:=qjh hj ox oy;have o2:=qjh hj2 ox oy;have d1:=qf3 ((q77 o1.1 o1.2 hp).at (hg j hj).1);have d2:=qf3 ((q76 o2.1 o2.2 hp).at (hg j2 hj2).2);have l1:=qf3 (q4x okf (x:=x) (y:=y) hj);have l2:=qf3 (q4y okg (x:=x) (y:=y) hj2);rw[Rat.intCast_mul,Rat.intCast_mul]at d1 d2;rw[show((pw 16384:Int):Rat)=sc from rfl]at d1 d2;have e:q*sc*(r*sc)=(q*r*sc)*sc:=by grind
   rw[e]at hq hq2;refine⟨Rat.le_trans l1 ?_,Rat.le_trans ?_ l2⟩
   ·exact Rat.le_of_mul_le_mul_right (Rat.le_trans d1 hq) q3b
   ·exact Rat.le_of_mul_le_mul_right (Rat.le_trans hq2 d2) q3b
  ·rw[qac2 hg];exact .whole
 ·exact .whole
theorem q1b {a b:Rat}(ha:0<a)(h:a<=b):b⁻¹<=a⁻¹:=by
 have hb:0<b:=by grind
 have h1:=Rat.inv_pos.2 ha;have h2:=Rat.inv_pos.2 hb;have h3:=rmulR (rmulL h (Rat.le_of_lt h1)) (Rat.le_of_lt h2);have e1:a⁻¹*a*b⁻¹=b⁻¹:=by rw[Rat.inv_mul_cancel a (by grind),Rat.one_mul]
 have e2:a⁻¹*b*b⁻¹=a⁻¹:=by rw[Rat.mul_assoc,Rat.mul_inv_cancel b (by grind),Rat.mul_one]
 rw[e1,e2]at h3;exact h3
theorem q3e (a:Rat):(-a)⁻¹=-(a⁻¹):=by
 by_cases h:a=0
 ·subst h;simp
 ·grind
theorem qrq {a b:Rat}(hb:b<0)(h:a<=b):b⁻¹<=a⁻¹:=by
 have:=q1b (a:=-b) (b:=-a) (by grind) (by grind);rw[q3e,q3e]at this;grind
theorem qaag {a b:Int}(h:a<b):(a:Rat)<(b:Rat):=Rat.intCast_lt_intCast.2 h
end Go.Abs.W
