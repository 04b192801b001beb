import Derived.Test.YtblicjipogbhmaaGreatDoorHz
import Derived.Test.YtblicjipogbhmaaGreatDoorHm
import Derived.Test.YtblicjipogbhmaaGreatDoorFe
namespace Go.Abs.W
def Dy.ex (d:Dy):Dy × Int:=(if d.valid then d else Dy.zero,if d.valid then 0 else 9)
theorem IsDn.at {p:Nat}{r:Dy × Int}{le:Int->Prop}(h:IsDn p r le)(d:r.2=0):le r.1.val:=by
 rcases h with ⟨_,b,c⟩|⟨a,_⟩
 ·exact(c _ b).1 (VL _)
 ·exact absurd d a
theorem Tf {x:Iv}{a:Dy}(k:x.W)(j:a.W)(h:x.has a=true):a.Ok/\(x.known=true->x.lo.val<=a.val/\a.val<=x.hi.val):=by
 simp only[Iv.has,VA,WF,VT]at h;obtain⟨⟨hv,f⟩,h⟩:=h;have b:=Dy.Ok.of j.li f;refine⟨b,fun e=>?_⟩;obtain⟨g,i⟩:=bg k e;rcases h with h|⟨c,d⟩
 ·rw[(gO e).2]at h;cases h
 ·rw[gB g b,jw]at c;rw[gB b i,jw]at d;exact⟨c,d⟩
def sc : Rat:=(pw 16384:Int)
theorem dK : 0<sc:=by
 have:=Rat.intCast_lt_intCast.2 (bf 16384);simpa[sc]using this
def Iv.In (x:Iv)(q:Rat):Prop:=x.known=true->(x.lo.val:Rat)<=q*sc/\q*sc<=(x.hi.val:Rat)
theorem Iv.In.whole {q:Rat}:Iv.whole.In q:=fun h=>by cases h
theorem dt {a b:Int}(h:a<=b):(a:Rat)<=(b:Rat):=Rat.intCast_le_intCast.2 h
theorem iO {x y:Iv}{p:Int}{q r:Rat}(l:x.W)(m:y.W)(j:x.In q)(k:y.In r):(x.add y p).In (q+r):=by
 unfold Iv.add;split
 ·rename_i h;simp only[VA]at h;obtain⟨⟨c,d⟩,b⟩:=h;obtain⟨e,f⟩:=bg l c;obtain⟨g,i⟩:=bg m d;obtain⟨n,o⟩:=j c;obtain⟨s,t⟩:=k d;unfold Iv.made;split
  ·rename_i a;intro _;have u:=dt ((pH e g b).at a.1);have v:=dt ((mJ f i b).at a.2);rw[Wg]at u v;refine⟨?_,?_⟩
   ·show(((aV x.lo y.lo p false).1.val:Int):Rat)<=_;rw[aaJ];grind
   ·show _<=(((aV x.hi y.hi p true).1.val:Int):Rat);rw[aaJ];grind
  ·exact .whole
 ·exact .whole
theorem rE {y:Iv}{r:Rat}(b:y.W)(a:y.In r):y.neg.In (-r):=by
 unfold Iv.neg;split
 ·rename_i k;obtain⟨c,d⟩:=bg b k;obtain⟨e,f⟩:=a k;intro _;refine⟨?_,?_⟩
  ·show((y.hi.neg'.val:Int):Rat)<=_;rw[ie,VQ,aam];grind
  ·show _<=((y.lo.neg'.val:Int):Rat);rw[ie,VQ,aam];grind
 ·exact .whole
theorem TX {x y:Iv}{p:Int}{q r:Rat}(d:x.W)(a:y.W)(b:x.In q)(c:y.In r):(x.add y.neg p).In (q-r):=by
 have:=iO (p:=p) d (bZ a) b (rE a c);rwa[<-Yo]at this
theorem fp {a b c:Rat}(h:a<=b)(d:0<=c):a*c<=b*c:=Vq h d
theorem hZ {a b c:Rat}(h:a<=b)(d:0<=c):c*a<=c*b:=Wf h d
theorem o5 {a b c:Rat}(h:a<=b)(d:c<=0):b*c<=a*c:=by
 have:=fp (c:=-c) h (by grind);grind
theorem o0 {a b c:Rat}(h:a<=b)(d:c<=0):c*b<=c*a:=by
 have:=hZ (c:=-c) h (by grind);grind
theorem q0t {a b b0 c U V:Rat}(g:a<=U)(h:U<=b)(e:b0<=V)(f:V<=c):a*b0<=U*V\/a*c<=U*V\/b*b0<=U*V\/b*c<=U*V:=by
 by_cases i:V<=0
 ·have t:=o5 h i;by_cases d:b<=0
  ·have:=o0 f d;grind
  ·have:=hZ e (show 0<=b by grind);grind
 ·have t:=fp g (show 0<=V by grind);by_cases d:a<=0
  ·have:=o0 f d;grind
  ·have:=hZ e (show 0<=a by grind);grind
theorem q0u {a b b0 c U V:Rat}(g:a<=U)(h:U<=b)(e:b0<=V)(f:V<=c):U*V<=a*b0\/U*V<=a*c\/U*V<=b*b0\/U*V<=b*c:=by
 by_cases i:V<=0
 ·have t:=o5 g i;by_cases d:a<=0
  ·have:=o0 e d;grind
  ·have:=hZ f (show 0<=a by grind);grind
 ·have t:=fp h (show 0<=V by grind);by_cases d:b<=0
  ·have:=o0 e d;grind
  ·have:=hZ f (show 0<=b by grind);grind
theorem Ur {f g:Dy->Dy->Dy × Int}{x y:Iv}(b:¬c9 f g x y 4):Iv.four f g x y=Iv.whole:=by
 unfold Iv.four;split
 ·rename_i a;exfalso;apply b;intro j c;simp[aO]at a;obtain rfl|rfl|rfl|rfl:j=0\/j=1\/j=2\/j=3:=by omega
  all_goals simp[au,aO,a]
 ·rfl
theorem jO {x y:Iv}{p:Int}{q r:Rat}(K:x.W)(L:y.W)(g:x.In q)(G:y.In r):(x.mul y p).In (q*r):=by
 unfold Iv.mul;split
 ·rename_i h;simp only[VA]at h;obtain⟨⟨s,t⟩,o⟩:=h;have A:=bg K s;have B:=bg L t;obtain⟨C,D⟩:=g s;obtain⟨E,F⟩:=G t;by_cases f:c9 (fun a b=>aM a b p false) (fun a b=>aM a b p true) x y 4
  ·rw[kI f];intro _;have m:∀a b:Dy,(aM a b p false).1.Ok:=fun _ _=>rMul_ok
   have n:∀a b:Dy,(aM a b p true).1.Ok:=fun _ _=>rMul_ok
   obtain⟨j,l,g⟩:=py (a:=x) (b:=y) (Q:=fun u v=>(u.val:Rat)*v.val<=q*sc*(r*sc)) (q0t C D E F);obtain⟨H,c,d⟩:=py (a:=x) (b:=y) (Q:=fun u v=>q*sc*(r*sc)<=(u.val:Rat)*v.val) (q0u C D E F);have w:=fO l A B;have z:=fO c A B;have i:=dt ((m0 w.1 w.2 o).at (f j l).1);have k:=dt ((nc z.1 z.2 o).at (f H c).2);have I:=dt (B8 m (x:=x) (y:=y) l);have J:=dt (B7 n (x:=x) (y:=y) c);rw[VG,VG]at i k;rw[show((pw 16384:Int):Rat)=sc from rfl]at i k;have e:q*sc*(r*sc)=(q*r*sc)*sc:=by grind
   rw[e]at g d;refine⟨Wp I ?_,Wp ?_ J⟩
   ·exact Vw (Wp i g) dK
   ·exact Vw (Wp d k) dK
  ·rw[Ur f];exact .whole
 ·exact .whole
theorem In.meet {x y:Iv}{q:Rat}(g:x.known=true)(h:y.known=true)(e:x.In q)(f:y.In q):x.lo.val<=y.hi.val/\y.lo.val<=x.hi.val:=by
 obtain⟨a,b⟩:=e g;obtain⟨c,d⟩:=f h;exact⟨Rat.intCast_le_intCast.1 (Wp a d),Rat.intCast_le_intCast.1 (Wp c b)⟩
theorem sS {a b:Rat}(i:0<a)(h:a<=b):b⁻¹<=a⁻¹:=by
 have j:0<b:=by grind
 have f:=Rat.inv_pos.2 i;have g:=Rat.inv_pos.2 j;have c:=fp (hZ h (Vj f)) (Vj g);have d:a⁻¹*a*b⁻¹=b⁻¹:=by rw[XR a (by grind),WB]
 have e:a⁻¹*b*b⁻¹=a⁻¹:=by rw[VR,Wv b (by grind),VP]
 rw[d,e]at c;exact c
theorem UG (a:Rat):(-a)⁻¹=-(a⁻¹):=by
 by_cases h:a=0
 ·subst h;simp
 ·grind
theorem q0r {a b:Rat}(c:b<0)(h:a<=b):b⁻¹<=a⁻¹:=by
 have:=sS (a:=-b) (b:=-a) (by grind) (by grind);rw[UG,UG]at this;grind
theorem q0q {a:Rat}(h:a<0):a⁻¹<0:=by
 have:=Rat.inv_pos.2 (show 0 < -a by grind);rw[UG]at this;grind
theorem kb {a b:Int}(h:a<b):(a:Rat)<(b:Rat):=Rat.intCast_lt_intCast.2 h
theorem Pb {u v g:Int}(hv:v≠0)(h:bD u v g):(g:Rat)<=(u:Rat)*(v:Rat)⁻¹*sc:=by
 rcases V5 0 v with b|b
 ·rw[nl b]at h;have c:=dt h;rw[VG,VG,show((pw 16384:Int):Rat)=sc from rfl]at c;have d:(0:Rat)<v:=kb b;have:=fp c (Vj (Rat.inv_pos.2 d));rw[VR,Wv _ (by grind),VP]at this;grind
 ·have a:v<0:=by omega
  rw[tY (by omega)]at h;have c:=dt h;rw[VG,VG,show((pw 16384:Int):Rat)=sc from rfl]at c;have d:(v:Rat)<0:=kb a;have:=o5 c (Vj (q0q d));rw[VR (g:Rat),Wv _ (by grind),VP]at this;grind
theorem O9 {u v g:Int}(hv:v≠0)(h:bE u v g):(u:Rat)*(v:Rat)⁻¹*sc<=(g:Rat):=by
 rcases V5 0 v with b|b
 ·rw[pV b]at h;have c:=dt h;rw[VG,VG,show((pw 16384:Int):Rat)=sc from rfl]at c;have d:(0:Rat)<v:=kb b;have:=fp c (Vj (Rat.inv_pos.2 d));rw[VR (g:Rat),Wv _ (by grind),VP]at this;grind
 ·have a:v<0:=by omega
  rw[tX (by omega)]at h;have c:=dt h;rw[VG,VG,show((pw 16384:Int):Rat)=sc from rfl]at c;have d:(v:Rat)<0:=kb a;have:=o5 c (Vj (q0q d));rw[VR (g:Rat),Wv _ (by grind),VP]at this;grind
theorem jL {x y:Iv}{p:Int}{q r:Rat}(O:x.W)(w:y.W)(m:x.In q)(T:y.In r):(x.div y p).In (q/r):=by
 unfold Iv.div;split
 ·rename_i h;simp only[VA,VT]at h;obtain⟨⟨⟨o,l⟩,z⟩,U⟩:=h;have F:=bg O o;have G:=bg w l;obtain⟨J,K⟩:=m o;obtain⟨L,M⟩:=T l;have rs:=(qV w l).1 U;have I:=bP w l;have H:=bP O o;have g:(y.hi.val:Rat)⁻¹<=(r*sc)⁻¹/\(r*sc)⁻¹<=(y.lo.val:Rat)⁻¹:=by
   rcases rs with rs|rs
   ·have c:=kb rs;rw[show((0:Int):Rat)=0 from rfl]at c;exact⟨sS (by grind) M,sS c L⟩
   ·have c:=kb rs;rw[show((0:Int):Rat)=0 from rfl]at c;exact⟨q0r c M,q0r (by grind) L⟩
  have f:r*sc≠0:=by
   rcases rs with rs|rs
   ·have c:=kb rs;rw[show((0:Int):Rat)=0 from rfl]at c;grind
   ·have c:=kb rs;rw[show((0:Int):Rat)=0 from rfl]at c;grind
  have e:q*sc*(r*sc)⁻¹=q/r:=by
   have W:=dK;have:r≠0:=by intro h;rw[h]at f;simp at f
   grind
  by_cases i:c9 (fun a b=>aT a b p false) (fun a b=>aT a b p true) x y 4
  ·rw[kI i];intro _;have s:∀a b:Dy,(aT a b p false).1.Ok:=fun _ _=>iS
   have t:∀a b:Dy,(aT a b p true).1.Ok:=fun _ _=>iS
   obtain⟨j,k,m⟩:=py (a:=x) (b:=y) (Q:=fun u v=>(u.val:Rat)*(v.val:Rat)⁻¹<=q/r) (by
    have:=q0t J K g.1 g.2;rw[e]at this;rcases this with h|h|h|h
    ·exact .inr (.inl h)
    ·exact .inl h
    ·exact .inr (.inr (.inr h))
    ·exact .inr (.inr (.inl h)))
   obtain⟨A,d,n⟩:=py (a:=x) (b:=y) (Q:=fun u v=>q/r<=(u.val:Rat)*(v.val:Rat)⁻¹) (by
    have:=q0u J K g.1 g.2;rw[e]at this;rcases this with h|h|h|h
    ·exact .inr (.inl h)
    ·exact .inl h
    ·exact .inr (.inr (.inr h))
    ·exact .inr (.inr (.inl h)))
   have D:=fO k F G;have E:=fO d F G;have B:(au x y j).2.val≠0:=by have:=jU k H I;omega
   have C:(au x y A).2.val≠0:=by have:=jU d H I;omega
   have P:=Pb B ((qD D.1 D.2 z (mB B)).at (i j k).1);have S:=O9 C ((qE E.1 E.2 z (mB C)).at (i A d).2);have Y:=dt (B8 s (x:=x) (y:=y) k);have Z:=dt (B7 t (x:=x) (y:=y) d);have N:=Vj dK;exact⟨Wp Y (Wp P (fp m N)),Wp (fp n N) (Wp S Z)⟩
  ·rw[Ur i];exact .whole
 ·exact .whole
