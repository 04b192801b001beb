import Derived.Test.YtblicjipogbhmaaGreatDoorTs
import Derived.Test.YtblicjipogbhmaaGreatDoorWn
namespace Go.Abs.W
theorem TH {d:Dy}(ok:d.Ok):(Iv.pt d).mid 320=d:=by
 unfold Iv.mid;rw[lB ok,Vh (by decide)];split
 ·rename_i h;obtain⟨o,b⟩:=Tf (dX ok.w) scl_ok.w h.2.2;obtain⟨a,c⟩:=b (lB ok);have a:d.val<=_:=a;have c:_<=d.val:=c;exact qF o ok (by omega)
 ·rfl
theorem t7 {d:Dy}(ok:d.Ok):((Iv.pt d).wid 320).2=0/\((Iv.pt d).wid 320).1.val=0/\((Iv.pt d).wid 320).1.Ok:=by
 have e:(Iv.pt d).wid 320=aV d d.neg' 320 true:=by unfold Iv.wid;rw[lB ok,Vh (by decide)];rfl
 have up:=mJ (p:=320) ok (gh ok) (by decide);have z:d.val+d.neg'.val=0:=by rw[ie];omega
 rw[z]at up;have f:aE (320:Int).toNat 0:=by
  have:=nh (p:=(320:Int).toNat) (a:=0) (b:=1) (k:=0) (Xa _) (by decide) (by decide);rwa[WV]at this
 obtain⟨c,i⟩:=up.atu f (VL _);obtain⟨g,h⟩:=up.ok2 c;have:=(h _ g).1 (VL _);rw[e];exact⟨c,by omega,rAdd_ok⟩
def iw (d:Dy):Iv:=⟨((Iv.pt d).wid 320).1.neg',((Iv.pt d).wid 320).1,false⟩
def ey (c:Bool)(d:Dy):Iv:=if d.m=[]then(if c=true then nI 1 1 else nI 0 0)else rF c d
theorem rX {c:Bool}{d:Dy}:(ey c d).W:=by
 unfold ey;split
 ·split<;>exact ay (by decide)
 ·exact DQ
theorem NS {c:Bool}{d:Dy}(ok:d.Ok)(a:d.top<=20):(ey c d).Bt (-Bw 4002) (Bw 4002)/\(ey c d).Has (Fn c (cK d.rat)):=by
 unfold ey;split
 ·rename_i b;have f:=bf 16384;have e:Bw 4002=4002*pw 16384:=rfl;rw[q8 b];cases c
  ·refine⟨(bo (k:=0) (by decide)).mono (by omega) (by omega),?_⟩;show(nI 0 0).Has (Si (cK 0));rw[yf];exact(j9 0).has
  ·refine⟨(bo (k:=1) (by decide)).mono (by omega) (by omega),?_⟩;show(nI 1 1).Has (Co (cK 0));rw[xd];exact(j9 1).has
 ·exact⟨uD ok a,TL ok a⟩
def eR (c:Bool)(d:Dy):Iv:=(ey c d).add (iw d) 320
theorem wG {d:Dy}(ok:d.Ok):(iw d).W:=⟨(gh (t7 ok).2.2).w,(t7 ok).2.2.w⟩
theorem Mg {d:Dy}(ok:d.Ok):(iw d).Bt 0 0:=by
 obtain⟨_,v,o⟩:=t7 ok;refine⟨fv (gh o) o (by rw[ie];omega),?_,?_⟩
 ·show _<=((Iv.pt d).wid 320).1.neg'.val;rw[ie];omega
 ·show((Iv.pt d).wid 320).1.val<=0;omega
theorem ts {c:Bool}{d:Dy}:(eR c d).W:=aH
theorem z8 {c:Bool}{d:Dy}(ok:d.Ok)(f:d.top<=20):(eR c d).known=true/\(eR c d).Has (Fn c (cK d.rat)):=by
 obtain⟨b,e⟩:=NS (c:=c) ok f;have z:=Mg ok;have w:=wG ok;refine⟨(pi (E:=-Bw 4002) (F:=Bw 4002) rX w dM b z (jz (DA (by decide) (by decide))) (DA (by decide) (by decide)) (by omega) (by omega)).k,?_⟩;have g:(iw d).In 0:=fun _=>by
  have j:=z.lo;have k:=z.hi;have a:=Rat.intCast_le_intCast.2 (show(iw d).lo.val<=0 by
   show((Iv.pt d).wid 320).1.neg'.val<=0;rw[ie];have:=(t7 ok).2.1;omega)
  have b:=Rat.intCast_le_intCast.2 (show 0<=(iw d).hi.val by
   show 0<=((Iv.pt d).wid 320).1.val;have:=(t7 ok).2.1;omega)
  constructor
  ·rw[Xr];exact a
  ·rw[Xr];exact b
 have h:=mF (p:=320) rX w e g.has;exact h.near (Near.of_eq fun i=>by show _=Fn c (cK d.rat) i+0;grind)
