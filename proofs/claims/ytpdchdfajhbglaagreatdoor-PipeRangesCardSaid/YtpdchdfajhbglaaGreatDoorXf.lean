/- Parts of the proof: FpXj, FpXk, FpXl, FpXm, FpXn, FpXo. -/
import Derived.Test.YtpdchdfajhbglaaGreatDoorXd
import Derived.Test.YtpdchdfajhbglaaGreatDoorHm
import Derived.Test.YtpdchdfajhbglaaGreatDoorHx
namespace Go.Abs.W
def Iv.Gd (x:Iv):Prop:=x=Iv.whole\/x.known=true
theorem qq4 {r s:Iv}(h:r.ins s=true):r.valid=true:=by
 simp only[Iv.ins,Bool.and_eq_true]at h;exact h.1.1
theorem Gd.of_valid {r:Iv}(h:r.valid=true)(hw:r.all=true->r=Iv.whole):r.Gd:=by
 cases ha:r.all
 ·right;simp[Iv.known,ha,h]
 ·exact .inl (hw ha)
theorem qq0 {r s:Dy × Int}(h:(Iv.made r s).all=true):Iv.made r s=Iv.whole:=by
 unfold Iv.made at h ⊢;split at h
 ·cases h
 ·rename_i h2;rw[if_neg h2]
theorem q77 {f g:Dy->Dy->Dy × Int}{x y:Iv}(h:(Iv.four f g x y).all=true):Iv.four f g x y=Iv.whole:=by
 by_cases hg:good4 f g x y 4
 ·rw[qfd hg]at h;cases h
 ·exact q1f hg
theorem qam2 {x y:Iv}{p:Int}(wx:x.W)(wy:y.W):(x.mul y p).Gd:=by
 unfold Iv.mul;split
 ·rename_i h;have h2:=h;simp only[Bool.and_eq_true]at h2;have v:=qq4 (qaj8 (p:=p) wx wy wx wy (.inr ⟨h2.1.1,h2.1.1,Int.le_refl _,Int.le_refl _⟩) (.inr ⟨h2.1.2,h2.1.2,Int.le_refl _,Int.le_refl _⟩));unfold Iv.mul at v;rw[if_pos h]at v;exact Gd.of_valid v q77
 ·exact .inl rfl
theorem qany {x y:Iv}{p:Int}(wx:x.W)(wy:y.W):(x.div y p).Gd:=by
 unfold Iv.div;split
 ·rename_i h;have h2:=h;simp only[Bool.and_eq_true]at h2;have v:=qq4 (qak3 (p:=p) wx wy wx wy (.inr ⟨h2.1.1.1,h2.1.1.1,Int.le_refl _,Int.le_refl _⟩) (.inr ⟨h2.1.1.2,h2.1.1.2,Int.le_refl _,Int.le_refl _⟩));unfold Iv.div at v;rw[if_pos h]at v;exact Gd.of_valid v q77
 ·exact .inl rfl
theorem Near.le_right {s t:Nat->Rat}(h:Near s t):SLe t s:=h.symm.le_left
theorem rat_le {u v:Dy}:u.rat<=v.rat↔u.val<=v.val:=by
 constructor
 ·intro h;have:=Rat.mul_le_mul_of_nonneg_right h (Rat.le_of_lt qgk);rw[qh7,qh7]at this;exact Rat.intCast_le_intCast.1 this
 ·intro h;have:=qbb h;rw[<-qh7 u,<-qh7 v]at this;exact Rat.le_of_mul_le_mul_right this qgk
theorem qafh {x:Iv}{s:Nat->Rat}(k:x.known=true)(h:x.Has s):SLe (fun _=>x.lo.rat) s/\SLe s (fun _=>x.hi.rat):=by
 obtain⟨c,h1,h2⟩:=h;exact⟨(SLe.of_le 0 fun n _=>(qov (h1 n) k).1).trans h2.le_right,h2.le_left.trans (SLe.of_le 0 fun n _=>(qov (h1 n) k).2)⟩
theorem qajk {x:Iv}{s:Nat->Rat}(wx:x.W)(h:x.known=true->SLe (fun _=>x.lo.rat) s/\SLe s (fun _=>x.hi.rat)):x.Has s:=by
 refine qao3 (fun k=>?_) wx;obtain⟨a,b⟩:=h k;have hs:=Rat.le_of_lt qgk;have a2:=a.mul_left (c:=fun _=>sc) (fun _=>hs) (Bnd.const sc);have b2:=b.mul_left (c:=fun _=>sc) (fun _=>hs) (Bnd.const sc);have e1:=qh7 x.lo;have e2:=qh7 x.hi;exact⟨((SLe.of_le 0 fun n _=>by show _<=sc*x.lo.rat;rw[Rat.mul_comm,e1];exact Rat.le_refl).trans a2).trans (SLe.of_le 0 fun n _=>by show sc*s n<=s n*sc;rw[Rat.mul_comm];exact Rat.le_refl),
  ((SLe.of_le 0 fun n _=>by show s n*sc<=sc*s n;rw[Rat.mul_comm];exact Rat.le_refl).trans b2).trans (SLe.of_le 0 fun n _=>by show sc*x.hi.rat<=_;rw[Rat.mul_comm,e2];exact Rat.le_refl)⟩
theorem qwg {a b:Iv}(wa:a.W)(wb:b.W)(ka:a.known=true)(kb:b.known=true)(h:a.lo.val<=b.hi.val):endsI a b=⟨a.lo,b.hi,false⟩/\(endsI a b).known=true:=by
 have e:endsI a b=⟨a.lo,b.hi,false⟩:=by
  unfold endsI;rw[(qia ka).2,(qia kb).2];rfl
 exact⟨e,by rw[e];exact qcl (qai wa ka).1 (qai wb kb).2 h⟩
theorem qadu {a b:Iv}{sa sb s:Nat->Rat}(wa:a.W)(wb:b.W)(ka:a.known=true)(kb:b.known=true)(ha:a.Has sa)(hb:b.Has sb)(h1:SLe sa s)(h2:SLe s sb) :
 (endsI a b).known=true/\(endsI a b).Has s:=by
 have q1:=(qafh ka ha).1.trans h1;have q2:=h2.trans (qafh kb hb).2;have hv:a.lo.val<=b.hi.val:=rat_le.1 (q1.trans q2).const;obtain⟨e,k⟩:=qwg wa wb ka kb hv;refine⟨k,qajk (q55 wa wb) fun _=>?_⟩;rw[e];exact⟨q1,q2⟩
theorem qadn {x:Iv}{p:Int}{q:Rat}(w:x.W)(k:x.known=true)(hp:precB p=true)(h1:modB x.lo=true)(h2:modB x.hi=true)(q1:x.lo.rat<=q)(q2:q<=x.hi.rat) :
 (x.exp p).known=true/\(x.exp p).Has (es q):=by
 obtain⟨o1,o2⟩:=qai w k;have e:x.exp p=endsI (qfw x.lo p) (qfw x.hi p):=by unfold Iv.exp;rw[k,hp,h1,h2];rfl
 rw[e];exact qadu (qty o1) (qty o2) (q2o o1 hp h1).1.k (q2o o2 hp h2).1.k (qrr p o1).2 (qrr p o2).2 (qmb q1) (qmb q2)
theorem exp_W {x:Iv}{p:Int}(w:x.W):(x.exp p).W:=by
 unfold Iv.exp;split
 ·rename_i h;simp only[Bool.and_eq_true]at h;obtain⟨o1,o2⟩:=qai w h.1.1.1;exact q55 (qty o1) (qty o2)
 ·exact Iv.whole_W
def sh (q:Rat)(n:Nat):Rat:=(es q n-es (-q) n)/2
def ch (q:Rat)(n:Nat):Rat:=(es q n+es (-q) n)/2
theorem q87 : (Iv.mk Dy.zero Dy.zero false).known=true:=qcl Dy.zero_ok Dy.zero_ok (Int.le_refl _)
theorem qafm : Dy.zero.rat=0:=qsz rfl
theorem qamz (k:Int):(nD k).rat=(k:Rat):=by
 have hs:=qgk;have:(nD k).rat*sc=(k:Rat)*sc:=by rw[qh7,qpp,Rat.intCast_mul];rfl
 have a:=Rat.le_of_mul_le_mul_right (show(nD k).rat*sc<=(k:Rat)*sc by rw[this];exact Rat.le_refl) hs;have b:=Rat.le_of_mul_le_mul_right (show(k:Rat)*sc<=(nD k).rat*sc by rw[this];exact Rat.le_refl) hs;exact Rat.le_antisymm a b
theorem In_lo {x:Iv}(w:x.W)(k:x.known=true):x.In x.lo.rat:=fun _=>by
 rw[qh7];exact⟨Rat.le_refl,qbb (qal w k)⟩
theorem In_hi {x:Iv}(w:x.W)(k:x.known=true):x.In x.hi.rat:=fun _=>by
 rw[qh7];exact⟨qbb (qal w k),Rat.le_refl⟩
theorem qox : ¬Iv.whole.known=true:=by decide
theorem qaol {x y:Iv}{p:Int}(h:(x.add y p).known=true):x.known=true/\y.known=true:=by
 unfold Iv.add at h;split at h
 ·rename_i h2;simp only[Bool.and_eq_true]at h2;exact h2.1
 ·exact absurd h qox
theorem qam0 {x y:Iv}{p:Int}(h:(x.mul y p).known=true):x.known=true/\y.known=true:=by
 unfold Iv.mul at h;split at h
 ·rename_i h2;simp only[Bool.and_eq_true]at h2;exact h2.1
 ·exact absurd h qox
theorem qaml {x:Iv}{p:Int}(h:(x.rnd p).known=true):x.known=true:=by
 unfold Iv.rnd at h;split at h
 ·rename_i h2;simp only[Bool.and_eq_true]at h2;exact h2.1
 ·exact absurd h qox
theorem qaac {x y:Iv}{p:Int}{a b:Rat}(wx:x.W)(wy:y.W)(ha:0<=a)(hb:0<=b)(hx:x.HasLog a)(hy:y.HasLog b):(x.add y p).HasLog (a*b):=by
 intro k;obtain⟨kx,ky⟩:=qaol k;obtain⟨x1,x2⟩:=hx kx;obtain⟨y1,y2⟩:=hy ky;have l:=qov (qsy (p:=p) wx wy (In_lo wx kx) (In_lo wy ky)) k;have u:=qov (qsy (p:=p) wx wy (In_hi wx kx) (In_hi wy ky)) k;exact⟨(x1.add y1 ha).mono l.1,(x2.add y2 hb).mono u.2⟩
theorem qyj {x:Iv}{p:Int}{a:Rat}(wx:x.W)(hx:x.HasLog a):(x.rnd p).HasLog a:=by
 intro k;have kx:=qaml k;obtain⟨x1,x2⟩:=hx kx;have l:=qov (q2j (p:=p) wx (In_lo wx kx)) k;have u:=qov (q2j (p:=p) wx (In_hi wx kx)) k;exact⟨x1.mono l.1,x2.mono u.2⟩
def zp (t:Int):Rat:=if 0<=t then(pw t.toNat:Rat)else((pw (-t).toNat:Int):Rat)⁻¹
theorem qal6 (t:Int):0<zp t:=by
 unfold zp;split
 ·exact qlz _
 ·exact Rat.inv_pos.2 (qlz _)
theorem qab1 (n:Nat):(pw (n+1):Rat)=(pw n:Rat)*2:=by rw[qdn,Rat.intCast_mul,Rat.mul_comm];rfl
theorem q6r {u:Rat}(h:ELo u 2):∀n:Nat,ELo ((n:Rat)*u) (pw n:Rat)
 |0=>by
  have e:((0:Nat):Rat)*u=0:=by rw[show((0:Nat):Rat)=0 from rfl];grind
  rw[e];exact ELo.zero
 |n+1=>by
  have:=(q6r h n).add h (Rat.le_of_lt (qlz n));rw[qab1,qa1,show((n:Rat)+1)*u=(n:Rat)*u+u by grind];exact this
theorem q6s {u:Rat}(h:EHi 2 u):∀n:Nat,EHi (pw n:Rat) ((n:Rat)*u)
 |0=>by
  have e:((0:Nat):Rat)*u=0:=by rw[show((0:Nat):Rat)=0 from rfl];grind
  rw[e];exact EHi.zero
 |n+1=>by
  have:=(q6s h n).add h (show(0:Rat)<=2 by decide);rw[qab1,qa1,show((n:Rat)+1)*u=(n:Rat)*u+u by grind];exact this
theorem q0b {y:Iv}{p t:Int}(wy:y.W)(ht:t.natAbs<=1048576)(hy:y.HasLog 2):((nI t t).mul y p).HasLog (zp t):=by
 intro k;obtain⟨_,ky⟩:=qam0 k;obtain⟨y1,y2⟩:=hy ky;have wt:(nI t t).W:=nI_Wk ht;have l:=qov (q2w (p:=p) wt wy (q7q t) (In_lo wy ky)) k;have u:=qov (q2w (p:=p) wt wy (q7q t) (In_hi wy ky)) k;unfold zp;split
 ·rename_i h;obtain⟨n,rfl⟩:∃n:Nat,t=n:=⟨t.toNat,by omega⟩
  rw[Int.toNat_natCast];rw[Rat.intCast_natCast]at l u;exact⟨(q6r y1 n).mono l.1,(q6s y2 n).mono u.2⟩
 ·rename_i h;obtain⟨n,rfl⟩:∃n:Nat,t=-(n:Int):=⟨(-t).toNat,by omega⟩
  rw[show(-(-(n:Int))).toNat=n by omega];rw[Rat.intCast_neg,Rat.intCast_natCast]at l u;have a:=(q6s y2 n).inv (qlz n);have b:=(q6r y1 n).inv (qlz n);exact⟨a.mono (by grind),b.mono (by grind)⟩
theorem mant1 {m s B d A q:Rat}(e:m*B=d*A)(e3:s=q*2)(l3:q*B<=d*s*A):1*(s*B)<=2*m*(s*B):=by
 have t1:2*m*(s*B)=2*(d*s*A):=by grind
 have t2:1*(s*B)=2*(q*B):=by grind
 rw[t1,t2];generalize d*s*A=X at *
 generalize q*B=Y at *
 grind
theorem mant2 {m s B d A:Rat}(e:m*B=d*A)(u3:d*s*A<=s*B):m*(s*B)<=1*(s*B):=by
 have t1:m*(s*B)=d*s*A:=by grind
 rw[t1,Rat.one_mul];exact u3
theorem mant {d:Dy}(ok:d.Ok)(h:0<d.sgn):∃m:Rat,(∀{x:Iv},x.W->x.In d.rat->(x.scl (-d.top)).In m)/\1<=2*m/\m<=1/\m*zp d.top=d.rat:=by
 obtain⟨hm,hv⟩:=quv ok h;obtain⟨b1,b2⟩:=ok.absN_bounds hm;have ht:=ok.top_pos hm;have⟨a,ha⟩:∃a:Nat,a=(-d.top).toNat:=⟨_,rfl⟩
 have⟨b,hb⟩:∃b:Nat,b=d.top.toNat:=⟨_,rfl⟩
 have pa:=qlz a;have pb:=qlz b;have s0:=qgk;have⟨m,hmd⟩:∃m:Rat,m=d.rat*(pw a:Rat)/(pw b:Rat):=⟨_,rfl⟩
 have e:m*(pw b:Rat)=d.rat*(pw a:Rat):=by
  rw[hmd,Rat.div_def,Rat.mul_assoc,Rat.inv_mul_cancel _ (by grind),Rat.mul_one]
 have l:pw (d.top+16383).toNat<=d.val:=by rw[hv];unfold pw;exact Int.ofNat_le.2 b1
 have u:d.val<=pw (d.top+16384).toNat:=by rw[hv];unfold pw;exact Int.ofNat_le.2 (Nat.le_of_lt b2)
 have l2:pw 16383*pw b<=d.val*pw a:=by
  rw[<-qa3,show 16383+b=(d.top+16383).toNat+a by omega,qa3];exact(qav (qax a)).2 l
 have u2:d.val*pw a<=pw 16384*pw b:=by
  rw[<-qa3,show 16384+b=(d.top+16384).toNat+a by omega,qa3];exact(qav (qax a)).2 u
 have l3:=qbb l2;have u3:=qbb u2;have e2:((pw 16384:Int):Rat)=sc:=rfl;have e3:sc=((pw 16383:Int):Rat)*2:=qab1 16383;rw[Rat.intCast_mul,Rat.intCast_mul,<-qh7 d]at l3 u3;rw[e2]at u3;refine⟨m,fun wx hx=>qabn (a:=a) (b:=b) wx (by omega) e hx,?_,?_,?_⟩
 ·refine Rat.le_of_mul_le_mul_right (c:=sc*(pw b:Rat)) ?_ (Rat.mul_pos s0 pb);generalize ((pw 16383:Int):Rat)=q at *
  generalize ((pw a:Int):Rat)=A at *
  generalize ((pw b:Int):Rat)=B at *
  exact mant1 e e3 l3
 ·refine Rat.le_of_mul_le_mul_right (c:=sc*(pw b:Rat)) ?_ (Rat.mul_pos s0 pb);generalize ((pw a:Int):Rat)=A at *
  generalize ((pw b:Int):Rat)=B at *
  exact mant2 e u3
 ·unfold zp;split
  ·have a0:a=0:=by omega
   rw[<-hb,e,a0,show((pw 0:Int):Rat)=1 from rfl,Rat.mul_one]
  ·have b0:b=0:=by omega
   rw[b0,show((pw 0:Int):Rat)=1 from rfl,Rat.mul_one]at e;rw[<-ha,e,Rat.mul_assoc,Rat.mul_inv_cancel _ (by grind),Rat.mul_one]
theorem zeta {m:Rat}(h1:1<=2*m)(h2:m<=1):∃ζ:Rat,ζ=(m+-1)/(m+1)/\-1<ζ/\ζ<1/\-1<=3*ζ/\3*ζ<=1/\2*(ζ*ζ)<=1/\gg ζ=m:=by
 have p:0<m+1:=by grind
 have q:=Rat.inv_pos.2 p;have e:=Rat.mul_inv_cancel (m+1) (by grind);refine⟨_,rfl,?_⟩;rw[Rat.div_def];generalize (m+1)⁻¹=c at *
 have m0:=mul_nn (show 0<=m by grind) (Rat.le_of_lt q);have m1:=mul_nn (show 0<=2*m-1 by grind) (Rat.le_of_lt q);have m2:=mul_nn (show 0<=1-m by grind) (Rat.le_of_lt q);have pm:=Rat.mul_pos (show 0<m by grind) q;have⟨ζ,hz⟩:∃ζ,ζ=(m+-1)*c:=⟨_,rfl⟩
 rw[<-hz];have z0:ζ<=0:=by grind
 have z1:-1<=3*ζ:=by grind
 have z2:1-ζ=2*c:=by grind
 have z3:1+ζ=m*(1-ζ):=by grind
 refine⟨by grind,by grind,z1,by grind,?_,?_⟩
 ·have:=qfx (a:=-ζ) (b:=1/3) (c:=-ζ) (d:=1/3) (by grind) (by grind) (by grind) (by grind);grind
 ·unfold gg;rw[z3,Rat.mul_assoc,Rat.mul_inv_cancel _ (by grind),Rat.mul_one]
theorem qaka : (nI (-1) (-1)).In (-1:Rat):=q7q (-1)
theorem qafu : gg (1/3)=2:=by unfold gg;grind
theorem qafv {p:Int}:((nI 1 1).div (nI 3 3) p).In (1/3:Rat):=by
 have i3:(nI 3 3).In ((3:Nat):Rat):=nI_In (by decide);have:=q8g (p:=p) (nI_Wk (k:=1) (by decide)) (nI_Wk (k:=3) (by decide)) q2t i3;exact this
theorem qacq {p:Int}:(log2I p).HasLog 2:=by
 unfold log2I;split
 ·have:=(q7w (P:=gP p 16) (z:=(nI 1 1).div (nI 3 3) (gP p 16)) (ζ:=1/3) div_W qafv (by grind) (by grind) (by grind)).2;rw[qafu]at this;exact qyj q7v this
 ·exact fun h=>absurd h qox
theorem qacw {d:Dy}{p:Int}(ok:d.Ok)(h:0<d.sgn):(lgI d p).HasLog d.rat:=by
 by_cases hc:d.cmp (nD 1)=0
 ·have on:(nD 1).Ok:=nD_ok (k:=1) (by omega);have e:=(q1n ok on).1 hc;have e2:d.rat=1:=by rw[e];exact qamz 1
  unfold lgI;rw[if_pos hc,e2];intro _;show ELo Dy.zero.rat 1/\EHi 1 Dy.zero.rat;rw[qafm];exact⟨ELo.zero,EHi.zero⟩
 ·obtain⟨m,m1,m2,m3,m4⟩:=mant ok h;obtain⟨hm,_⟩:=quv ok h;have ht:=ok.top_pos hm;have htop:d.top<=16384:=by have:=ok.top;unfold Dy.top;rw[if_neg hm];exact this
  obtain⟨ζ,z0,z1,z2,_,_,z3,z4⟩:=zeta m2 m3;have w:(Iv.pt d).W:=⟨ok.w,ok.w⟩
  have i1:=m1 (qni (x:=Iv.pt d) (p:=gP p 40)) (q2j w (pt_In d));have a1:=qsy (p:=gP p 40) qrl (nI_Wk (k:=-1) (by decide)) i1 qaka;have a2:=qsy (p:=gP p 40) qrl (nI_Wk (k:=1) (by decide)) i1 q2t;have dv:=q8g (p:=gP p 40) add_W add_W a1 a2;rw[<-z0]at dv;have l:=(q7w (P:=gP p 40) div_W dv z1 z2 z3).2;rw[z4]at l;have t:=q0b (p:=gP p 40) (t:=d.top) (qacp (p:=gP p 40)) (by omega) qacq;have s:=qaac (p:=gP p 40) q7v mul_W (by grind) (Rat.le_of_lt (qal6 _)) l t;rw[m4]at s;unfold lgI;rw[if_neg hc];exact qyj add_W s
theorem qw8 {a b:Iv}{da db q:Rat}(wa:a.W)(wb:b.W)(ka:a.known=true)(kb:b.known=true)(ha:a.HasLog da)(hb:b.HasLog db)(h1:da<=q)(h2:q<=db) :
 (endsI a b).known=true/\(endsI a b).HasLog q:=by
 have q1:=(ha ka).1.up h1;have q2:=(hb kb).2.down h2;have hv:a.lo.val<=b.hi.val:=rat_le.1 (q1.le q2);obtain⟨e,k⟩:=qwg wa wb ka kb hv;refine⟨k,fun _=>?_⟩;rw[e];exact⟨q1,q2⟩
theorem log_W {x:Iv}{p:Int}:(x.log p).W:=by
 unfold Iv.log;split
 ·exact q55 lgI_W lgI_W
 ·exact Iv.whole_W
def pz (f:Nat->Rat):Nat->Rat
 |0=>0
 |k+1=>ps f k
theorem qaiv {x y:Iv}{p:Int}(wx:x.W)(wy:y.W):(x.add y p).Gd:=by
 unfold Iv.add;split
 ·rename_i h;have h2:=h;simp only[Bool.and_eq_true]at h2;have v:=qq4 (qale (p:=p) wx wy wx wy (.inr ⟨h2.1.1,h2.1.1,Int.le_refl _,Int.le_refl _⟩) (.inr ⟨h2.1.2,h2.1.2,Int.le_refl _,Int.le_refl _⟩));unfold Iv.add at v;rw[if_pos h]at v;exact Gd.of_valid v qq0
 ·exact .inl rfl
theorem qamm {x:Iv}{p:Int}(wx:x.W):(x.rnd p).Gd:=by
 unfold Iv.rnd;split
 ·rename_i h;have h2:=h;simp only[Bool.and_eq_true]at h2;have v:=qq4 (qajq (p:=p) wx wx (.inr ⟨h2.1,h2.1,Int.le_refl _,Int.le_refl _⟩));unfold Iv.rnd at v;rw[if_pos h]at v;exact Gd.of_valid v qq0
 ·exact .inl rfl
end Go.Abs.W
