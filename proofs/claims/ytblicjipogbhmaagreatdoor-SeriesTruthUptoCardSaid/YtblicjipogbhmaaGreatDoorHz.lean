import Derived.Test.YtblicjipogbhmaaGreatDoorHy
import Derived.Test.YtblicjipogbhmaaGreatDoorHr
import Derived.Test.YtblicjipogbhmaaGreatDoorHp
namespace Go.Abs.W
def Iv.Le (x a:Iv):Prop:=a=Iv.whole\/(x.known=true/\a.known=true/\a.lo.val<=x.lo.val/\x.hi.val<=a.hi.val)
theorem uO {l h:Dy}(ol:l.Ok)(oh:h.Ok)(a:l.val<=h.val):(Iv.mk l h false).valid=true:=by
 have:l.cmp h<=0:=by rw[gB ol oh,jw];exact a
 simp[Iv.valid,ol.valid,oh.valid,this]
theorem fv {l h:Dy}(ol:l.Ok)(oh:h.Ok)(a:l.val<=h.val):(Iv.mk l h false).known=true:=by
 have:=uO ol oh a;simp[Iv.known,this]
theorem gO {x:Iv}(h:x.known=true):x.valid=true/\x.all=false:=by
 simp[Iv.known]at h;exact⟨h.2,h.1⟩
theorem jT {r:Iv}(h:r.valid=true):r.ins Iv.whole=true:=by
 have a:Iv.whole.valid=true:=rfl;have b:Iv.whole.all=true:=rfl;simp[Iv.ins,h,a,b]
theorem ry {r s:Iv}(wr:r.W)(ws:s.W)(a:r.known=true)(b:s.known=true)(i:s.lo.val<=r.lo.val)(j:r.hi.val<=s.hi.val):r.ins s=true:=by
 obtain⟨c,d⟩:=bg wr a;obtain⟨e,f⟩:=bg ws b;obtain⟨m,k⟩:=gO a;obtain⟨n,l⟩:=gO b;have g:s.lo.cmp r.lo<=0:=by rw[gB e c,jw];exact i
 have h:r.hi.cmp s.hi<=0:=by rw[gB d f,jw];exact j
 simp[Iv.ins,m,n,k,l,g,h]
theorem zR {a b c d:Dy × Int}(f:a.1.Ok)(g:b.1.Ok)(j:c.1.Ok)(p2:d.1.Ok)(hv:a.2=0->b.2=0->a.1.val<=b.1.val)
 (o:c.2=0->a.2=0/\c.1.val<=a.1.val) (p:d.2=0->b.2=0/\b.1.val<=d.1.val):(Iv.made a b).ins (Iv.made c d)=true:=by
 have r:(Iv.made a b).valid=true:=by
  unfold Iv.made;split
  ·rename_i h;exact uO f g (hv h.1 h.2)
  ·rfl
 by_cases h:c.2=0/\d.2=0
 ·obtain⟨i,l⟩:=o h.1;obtain⟨k,q⟩:=p h.2;have n:=hv i k;have m:Iv.made a b=⟨a.1,b.1,false⟩:=by unfold Iv.made;rw[Vh ⟨i,k⟩]
  have e:Iv.made c d=⟨c.1,d.1,false⟩:=by unfold Iv.made;rw[Vh h]
  rw[m,e];exact ry ⟨f.w,g.w⟩ ⟨j.w,p2.w⟩ (fv f g n) (fv j p2 (by omega)) l q
 ·have e:Iv.made c d=Iv.whole:=by unfold Iv.made;rw[Vk h]
  rw[e];exact jT r
theorem IsDn.le_up {p:Nat}{r s:Dy × Int}{le ge:Int->Prop}(h:IsDn p r le)(j:IsUp p s ge)(d:∀g e,le g->ge e->g<=e)(f:r.2=0)(i:s.2=0):r.1.val<=s.1.val:=by
 rcases h with ⟨_,b,c⟩|⟨a,_⟩
 ·rcases j with ⟨_,y,z⟩|⟨x,_⟩
  ·exact d _ _ ((c _ b).1 (VL _)) ((z _ y).1 (VL _))
  ·exact absurd i x
 ·exact absurd f a
theorem KQ {x y a b:Iv}{p:Int}(l:x.W)(m:y.W)(E:a.W)(F:b.W)(A:x.Le a)(B:y.Le b):(x.add y p).ins (a.add b p)=true:=by
 have hv:(x.add y p).valid=true:=by
  unfold Iv.add;split
  ·rename_i h;simp only[VA]at h;obtain⟨⟨d,e⟩,c⟩:=h;obtain⟨f,i⟩:=bg l d;obtain⟨j,k⟩:=bg m e;have C:=bP l d;have D:=bP m e;unfold Iv.made;split
   ·rename_i o;exact uO rAdd_ok rAdd_ok ((pH f j c).le_up (mJ i k c) (fun g v h n=>by omega) o.1 o.2)
   ·rfl
  ·rfl
 have q:∀z:Iv,Iv.whole.add z p=Iv.whole/\z.add Iv.whole p=Iv.whole:=fun z=>by
  have:Iv.whole.known=false:=rfl;simp[Iv.add,this]
 rcases A with rfl|⟨d,k3,C,D⟩
 ·rw[(q b).1];exact jT hv
 ·rcases B with rfl|⟨e,k4,G,H⟩
  ·rw[(q a).2];exact jT hv
  ·cases c:af p
   ·have:a.add b p=Iv.whole:=by simp[Iv.add,c]
    rw[this];exact jT hv
   ·obtain⟨f,i⟩:=bg l d;obtain⟨j,k⟩:=bg m e;obtain⟨r,s⟩:=bg E k3;obtain⟨t,u⟩:=bg F k4;have I:=bP l d;have J:=bP m e;unfold Iv.add;rw[d,e,k3,k4,c,Vh (by rfl),Vh (by rfl)];refine zR rAdd_ok rAdd_ok rAdd_ok rAdd_ok (fun w n=>(pH f j c).le_up (mJ i k c) (fun g v h n=>by omega) w n) ?_ ?_
    ·exact(pH r t c).mono (pH f j c) (fun g h=>by omega)
    ·exact(mJ i k c).mono (mJ s u c) (fun g h=>by omega)
theorem LH {x a:Iv}{p:Int}(f:x.W)(r:a.W)(o:x.Le a):(x.rnd p).ins (a.rnd p)=true:=by
 have hv:(x.rnd p).valid=true:=by
  unfold Iv.rnd;split
  ·rename_i h;simp only[VA]at h;obtain⟨c,b⟩:=h;obtain⟨d,e⟩:=bg f c;have q:=bP f c;unfold Iv.made;split
   ·rename_i j;exact uO rRound_ok rRound_ok ((qT d b).le_up (qU e b) (fun g m h i=>by omega) j.1 j.2)
   ·rfl
  ·rfl
 rcases o with rfl|⟨c,k3,q,s⟩
 ·have:Iv.whole.rnd p=Iv.whole:=by
   have:Iv.whole.known=false:=rfl;simp[Iv.rnd,this]
  rw[this];exact jT hv
 ·cases b:af p
  ·have:a.rnd p=Iv.whole:=by simp[Iv.rnd,b]
   rw[this];exact jT hv
  ·obtain⟨d,e⟩:=bg f c;obtain⟨k,l⟩:=bg r k3;have t:=bP f c;unfold Iv.rnd;rw[c,k3,b,Vh (by rfl),Vh (by rfl)];refine zR rRound_ok rRound_ok rRound_ok rRound_ok (fun n i=>(qT d b).le_up (qU e b) (fun g m h i=>by omega) n i) ?_ ?_
   ·exact(qT k b).mono (qT d b) (fun g h=>by omega)
   ·exact(qU e b).mono (qU l b) (fun g h=>by omega)
theorem Ah {f:Dy->Dy->Dy × Int}(c:∀a b,(f a b).1.Ok){x y:Iv} :
 (cS f (aO x y) 4).val=min (min (min (f (au x y 0).1 (au x y 0).2).1.val (f (au x y 1).1 (au x y 1).2).1.val) (f (au x y 2).1 (au x y 2).2).1.val) (f (au x y 3).1 (au x y 3).2).1.val:=by
 rw[kL,Vk (by omega),mH (iD c 3) (c _ _),kL,Vk (by omega),mH (iD c 2) (c _ _),kL,Vk (by omega),mH (iD c 1) (c _ _),kL,Vh rfl]
theorem AG {f:Dy->Dy->Dy × Int}(c:∀a b,(f a b).1.Ok){x y:Iv} :
 (cT f (aO x y) 4).val=max (max (max (f (au x y 0).1 (au x y 0).2).1.val (f (au x y 1).1 (au x y 1).2).1.val) (f (au x y 2).1 (au x y 2).2).1.val) (f (au x y 3).1 (au x y 3).2).1.val:=by
 rw[kK,Vk (by omega),kD (iC c 3) (c _ _),kK,Vk (by omega),kD (iC c 2) (c _ _),kK,Vk (by omega),kD (iC c 1) (c _ _),kK,Vh rfl]
theorem B8 {f:Dy->Dy->Dy × Int}(c:∀a b,(f a b).1.Ok){x y:Iv}{i:Nat}(hi:i<4):(cS f (aO x y) 4).val<=(f (au x y i).1 (au x y i).2).1.val:=by
 rw[Ah c];obtain rfl|rfl|rfl|rfl:i=0\/i=1\/i=2\/i=3:=by omega
 all_goals omega
theorem B7 {f:Dy->Dy->Dy × Int}(c:∀a b,(f a b).1.Ok){x y:Iv}{i:Nat}(hi:i<4):(f (au x y i).1 (au x y i).2).1.val<=(cT f (aO x y) 4).val:=by
 rw[AG c];obtain rfl|rfl|rfl|rfl:i=0\/i=1\/i=2\/i=3:=by omega
 all_goals omega
theorem Uy {f:Dy->Dy->Dy × Int}(c:∀a b,(f a b).1.Ok){x y:Iv}{v:Int}(h:∀i,i<4->v<=(f (au x y i).1 (au x y i).2).1.val):v<=(cS f (aO x y) 4).val:=by
 have d:=h 0 (by omega);have e:=h 1 (by omega);have j:=h 2 (by omega);have k:=h 3 (by omega);rw[Ah c];omega
theorem Uj {f:Dy->Dy->Dy × Int}(c:∀a b,(f a b).1.Ok){x y:Iv}{v:Int}(h:∀i,i<4->(f (au x y i).1 (au x y i).2).1.val<=v):(cT f (aO x y) 4).val<=v:=by
 have d:=h 0 (by omega);have e:=h 1 (by omega);have j:=h 2 (by omega);have k:=h 3 (by omega);rw[AG c];omega
section
variable {P : Nat} {f g : Dy → Dy → Dy × Int} {x y a b : Iv} {le ge : Dy → Dy → Int → Prop}
theorem uW (n:IsDn P (f (au x y 0).1 (au x y 0).2) (le (au x y 0).1 (au x y 0).2))(p:IsUp P (g (au x y 0).1 (au x y 0).2) (ge (au x y 0).1 (au x y 0).2))
 (o:∀h l,le (au x y 0).1 (au x y 0).2 h->ge (au x y 0).1 (au x y 0).2 l->h<=l) (e:∀a b,(f a b).1.Ok) (k:∀a b,(g a b).1.Ok) :
 (Iv.four f g x y).valid=true/\(c9 f g x y 4->(cS f (aO x y) 4).val<=(cT g (aO x y) 4).val):=by
 have d:c9 f g x y 4->(cS f (aO x y) 4).val<=(cT g (aO x y) 4).val:=by
  intro c;have h:=c 0 (by omega);have q:=n.le_up p o h.1 h.2;have l:=B8 e (x:=x) (y:=y) (i:=0) (by omega);have r:=B7 k (x:=x) (y:=y) (i:=0) (by omega);omega
 refine⟨?_,d⟩;by_cases c:c9 f g x y 4
 ·rw[kI c];exact uO (iD e 4) (iC k 4) (d c)
 ·unfold Iv.four;split
  ·rename_i m;exfalso;apply c;intro j s;simp[aO]at m;obtain rfl|rfl|rfl|rfl:j=0\/j=1\/j=2\/j=3:=by omega
   all_goals simp[au,aO,m]
  ·rfl
theorem y7 (c:∀a b,(f a b).1.Ok)(d:∀a b,(g a b).1.Ok)(p:∀i,i<4->IsDn P (f (au x y i).1 (au x y i).2) (le (au x y i).1 (au x y i).2))(r:∀i,i<4->IsUp P (g (au x y i).1 (au x y i).2) (ge (au x y i).1 (au x y i).2))
 (t:∀i,i<4->IsDn P (f (au a b i).1 (au a b i).2) (le (au a b i).1 (au a b i).2)) (u2:∀i,i<4->IsUp P (g (au a b i).1 (au a b i).2) (ge (au a b i).1 (au a b i).2))
 (A:∀h m,le (au x y 0).1 (au x y 0).2 h->ge (au x y 0).1 (au x y 0).2 m->h<=m)
 (cd:∀i,i<4->∃j,j<4/\∀h,le (au a b j).1 (au a b j).2 h->le (au x y i).1 (au x y i).2 h)
 (s:∀i,i<4->∃j,j<4/\∀h,ge (au a b j).1 (au a b j).2 h->ge (au x y i).1 (au x y i).2 h) :
 (Iv.four f g x y).ins (Iv.four f g a b)=true:=by
 obtain⟨B,u⟩:=uW (p 0 (by omega)) (r 0 (by omega)) A c d;by_cases n:c9 f g a b 4
 ·have lo:∀i,i<4->(f (au x y i).1 (au x y i).2).2=0/\(cS f (aO a b) 4).val<=(f (au x y i).1 (au x y i).2).1.val:=by
   intro i hi;obtain⟨j,e,k⟩:=cd i hi;obtain⟨o,m⟩:=(t j e).mono (p i hi) k (n j e).1;have:=B8 c (x:=a) (y:=b) e;exact⟨o,by omega⟩
  have l:∀i,i<4->(g (au x y i).1 (au x y i).2).2=0/\(g (au x y i).1 (au x y i).2).1.val<=(cT g (aO a b) 4).val:=by
   intro i hi;obtain⟨j,e,k⟩:=s i hi;obtain⟨o,m⟩:=(r i hi).mono (u2 j e) k (n j e).2;have:=B7 d (x:=a) (y:=b) e;exact⟨o,by omega⟩
  have q:c9 f g x y 4:=fun i hi=>⟨(lo i hi).1,(l i hi).1⟩
  have v:=Uy c (x:=x) (y:=y) (fun i hi=>(lo i hi).2);have w:=Uj d (x:=x) (y:=y) (fun i hi=>(l i hi).2);have z:=u q;rw[kI q,kI n];exact ry ⟨(iD c 4).w,(iC d 4).w⟩ ⟨(iD c 4).w,(iC d 4).w⟩ (fv (iD c 4) (iC d 4) z) (fv (iD c 4) (iC d 4) (by omega)) v w
 ·have:Iv.four f g a b=Iv.whole:=by
   unfold Iv.four;split
   ·rename_i k;exfalso;apply n;intro j e;simp[aO]at k;obtain rfl|rfl|rfl|rfl:j=0\/j=1\/j=2\/j=3:=by omega
    all_goals simp[au,aO,k]
   ·rfl
  rw[this];exact jT B
end
theorem gy {a b c:Int}(h:a<=b)(d:0<=c):c*a<=c*b:=V1 h d
theorem em {a b c:Int}(h:a<=b)(d:c<=0):c*b<=c*a:=by
 have:=gy h (show 0<=-c by omega);rw[V9,V9]at this;omega
theorem gx {a b c:Int}(h:a<=b)(d:0<=c):a*c<=b*c:=VB h d
theorem p9 {a b c:Int}(h:a<=b)(d:c<=0):b*c<=a*c:=by
 have:=gx h (show 0<=-c by omega);rw[X7,X7]at this;omega
theorem Qm {d e b0 h U V:Int}(l:d<=U)(m:U<=e)(j:b0<=V)(k:V<=h):d*b0<=U*V\/d*h<=U*V\/e*b0<=U*V\/e*h<=U*V:=by
 rcases V5 V 0 with i|i
 ·have:=p9 m (Vu i);rcases V5 e 0 with c|c
  ·have:=em k (Vu c);omega
  ·have:=gy j c;omega
 ·have:=gx l i;rcases V5 d 0 with c|c
  ·have:=em k (Vu c);omega
  ·have:=gy j c;omega
theorem Ql {d e b0 h U V:Int}(l:d<=U)(m:U<=e)(j:b0<=V)(k:V<=h):U*V<=d*b0\/U*V<=d*h\/U*V<=e*b0\/U*V<=e*h:=by
 rcases V5 V 0 with i|i
 ·have:=p9 l (Vu i);rcases V5 d 0 with c|c
  ·have:=em j (Vu c);omega
  ·have:=gy k c;omega
 ·have:=gx m i;rcases V5 e 0 with c|c
  ·have:=em j (Vu c);omega
  ·have:=gy k c;omega
theorem jU {x y:Iv}{i:Nat}(hi:i<4)(c:x.lo.val<=x.hi.val)(d:y.lo.val<=y.hi.val):x.lo.val<=(au x y i).1.val/\(au x y i).1.val<=x.hi.val/\y.lo.val<=(au x y i).2.val/\(au x y i).2.val<=y.hi.val:=by
 obtain rfl|rfl|rfl|rfl:i=0\/i=1\/i=2\/i=3:=by omega
 all_goals simp[au,aO,c,d]
theorem fO {x y:Iv}{i:Nat}(hi:i<4)(c:x.lo.Ok/\x.hi.Ok)(d:y.lo.Ok/\y.hi.Ok):(au x y i).1.Ok/\(au x y i).2.Ok:=by
 obtain rfl|rfl|rfl|rfl:i=0\/i=1\/i=2\/i=3:=by omega
 all_goals simp[au,aO,c,d]
theorem py {a b:Iv}{Q:Dy->Dy->Prop}(h:Q a.lo b.lo\/Q a.lo b.hi\/Q a.hi b.lo\/Q a.hi b.hi):∃j,j<4/\Q (au a b j).1 (au a b j).2:=by
 rcases h with h|h|h|h
 ·exact⟨0,by omega,h⟩
 ·exact⟨1,by omega,h⟩
 ·exact⟨2,by omega,h⟩
 ·exact⟨3,by omega,h⟩
theorem K8 {x y a b:Iv}{p:Int}(n:x.W)(q:y.W)(L:a.W)(M:b.W)(J:x.Le a)(K:y.Le b):(x.mul y p).ins (a.mul b p)=true:=by
 have k:∀u v:Dy,∀h l:Int,h*pw 16384<=u.val*v.val->u.val*v.val<=l*pw 16384->h<=l:=fun u v h l r s=>(ed (bf 16384)).1 (by omega)
 have hv:(x.mul y p).valid=true:=by
  unfold Iv.mul;split
  ·rename_i h;simp only[VA]at h;obtain⟨⟨d,e⟩,c⟩:=h;have o:=fO (i:=0) (by omega) (bg n d) (bg q e);exact(uW (le:=fun u v g=>g*pw 16384<=u.val*v.val) (ge:=fun u v g=>u.val*v.val<=g*pw 16384) (m0 o.1 o.2 c) (nc o.1 o.2 c) (k _ _) (fun _ _=>rMul_ok) (fun _ _=>rMul_ok)).1
  ·rfl
 have E:∀z:Iv,Iv.whole.mul z p=Iv.whole/\z.mul Iv.whole p=Iv.whole:=fun z=>by
  have:Iv.whole.known=false:=rfl;simp[Iv.mul,this]
 rcases J with rfl|⟨d,k3,N,O⟩
 ·rw[(E b).1];exact jT hv
 ·rcases K with rfl|⟨e,k4,S,T⟩
  ·rw[(E a).2];exact jT hv
  ·cases c:af p
   ·have:a.mul b p=Iv.whole:=by simp[Iv.mul,c]
    rw[this];exact jT hv
   ·have A:=bg n d;have B:=bg q e;have t:=bg L k3;have w:=bg M k4;have C:=bP n d;have D:=bP q e;unfold Iv.mul;rw[d,e,k3,k4,c,Vh (by rfl),Vh (by rfl)];refine y7 (P:=p.toNat) (le:=fun u v g=>g*pw 16384<=u.val*v.val) (ge:=fun u v g=>u.val*v.val<=g*pw 16384) (fun _ _=>rMul_ok) (fun _ _=>rMul_ok) ?_ ?_ ?_ ?_ (k _ _) ?_ ?_
    ·intro i hi;have o:=fO hi A B;exact m0 o.1 o.2 c
    ·intro i hi;have o:=fO hi A B;exact nc o.1 o.2 c
    ·intro i hi;have o:=fO hi t w;exact m0 o.1 o.2 c
    ·intro i hi;have o:=fO hi t w;exact nc o.1 o.2 c
    ·intro i hi;obtain⟨r,s,F,G⟩:=jU hi C D;obtain⟨j,m,I⟩:=py (a:=a) (b:=b) (Q:=fun u v=>u.val*v.val<=(au x y i).1.val*(au x y i).2.val) (Qm (by omega) (by omega) (by omega) (by omega));exact⟨j,m,fun h H=>by omega⟩
    ·intro i hi;obtain⟨r,s,F,G⟩:=jU hi C D;obtain⟨j,m,I⟩:=py (a:=a) (b:=b) (Q:=fun u v=>(au x y i).1.val*(au x y i).2.val<=u.val*v.val) (Ql (by omega) (by omega) (by omega) (by omega));exact⟨j,m,fun h H=>by omega⟩
end Go.Abs.W
namespace Go.Abs.W
theorem q45 {d e b0 f U V:Int}(m:d<=U)(n:U<=e)(k:b0<=V)(l:V<=f)(i:0<b0\/f<0) :
 (∀g,bD d b0 g->bD U V g)\/(∀g,bD d f g->bD U V g)\/(∀g,bD e b0 g->bD U V g)\/(∀g,bD e f g->bD U V g):=by
 have c:=Vu (bf 16384);rcases i with i|i
 ·have o:=gx m c;rcases V5 d 0 with a|a
  ·left;intro g b;rw[nl i]at b;rw[nl (by omega)];have z:=gx (Vu a) c;rw[WV]at z;have p:d*pw 16384<0:=by
    have:=aax a (bf 16384);rwa[WV]at this
   have j:g<0:=by
    rcases V5 g 0 with h|h
    ·exact h
    ·have:=Xm h (Vu i);omega
   have:=em k (Vu j);omega
  ·right;left;intro g b;rw[nl (by omega)]at b ⊢;have z:=Xm a c;rcases V5 g 0 with h|h
   ·have:=em (show 0<=V by omega) (Vu h);rw[abb]at this;omega
   ·have:=gy l h;omega
 ·have o:=gx n c;rcases V5 0 e with a|a
  ·right;right;right;intro g b;rw[tY (by omega)]at b ⊢;have p:0<e*pw 16384:=Xl a (bf 16384);have j:g<0:=by
    rcases V5 g 0 with h|h
    ·exact h
    ·have:=gy (show f<=0 by omega) h;rw[abb]at this;omega
   have:=em l (Vu j);omega
  ·right;right;left;intro g b;rw[tY (by omega)]at b ⊢;have z:=gx a c;rw[WV]at z;rcases V5 0 g with h|h
   ·have:=gy k (Vu h);omega
   ·have:=em (show V<=0 by omega) h;rw[abb]at this;omega
theorem q46 {f i b0 d U V:Int}(m:f<=U)(n:U<=i)(k:b0<=V)(l:V<=d)(e:0<b0\/d<0) :
 (∀g,bE f b0 g->bE U V g)\/(∀g,bE f d g->bE U V g)\/(∀g,bE i b0 g->bE U V g)\/(∀g,bE i d g->bE U V g):=by
 have c:=Vu (bf 16384);rcases e with e|e
 ·have o:=gx n c;rcases V5 i 0 with a|a
  ·right;right;right;intro g b;rw[pV (by omega)]at b ⊢;have z:=gx (Vu a) c;rw[WV]at z;rcases V5 g 0 with h|h
   ·have:=em l (Vu h);omega
   ·have:=Xm h (show 0<=V by omega);omega
  ·right;right;left;intro g b;rw[pV (by omega)]at b ⊢;have z:=Xm a c;have j:0<=g:=by
    rcases V5 g 0 with h|h
    ·have:g*b0<0:=aaG h e;omega
    ·exact h
   have:=gy k j;omega
 ·have o:=gx m c;rcases V5 0 f with a|a
  ·left;intro g b;rw[tX (by omega)]at b ⊢;have z:=Xm (Vu a) c;rcases V5 g 0 with h|h
   ·have:=em k (Vu h);omega
   ·have:=gy (show V<=0 by omega) h;rw[abb]at this;omega
  ·right;left;intro g b;rw[tX (by omega)]at b ⊢;have z:=gx a c;rw[WV]at z;have j:0<=g:=by
    rcases V5 g 0 with h|h
    ·have:0<g*d:=Int.mul_pos_of_neg_of_neg h e;omega
    ·exact h
   have:=gy l j;omega
theorem nW {u v:Int}(hv:v≠0)(h b:Int)(d:bD u v h)(e:bE u v b):h<=b:=by
 rcases V5 0 v with a|a
 ·rw[nl a]at d;rw[pV a]at e;exact(ed a).1 (by omega)
 ·rw[tY (by omega)]at d;rw[tX (by omega)]at e;have:=ed (x:=h) (y:=b) (c:=-v) (by omega);rw[X7,X7]at this;omega
theorem qV {y:Iv}(j:y.W)(d:y.known=true):y.sgn≠0↔(0<y.lo.val\/y.hi.val<0):=by
 obtain⟨g,i⟩:=bg j d;have e:=mK g;have f:=mK i;unfold Iv.sgn;rw[Vh d];constructor
 ·intro h;by_cases b:0<y.lo.sgn
  ·exact .inl (e.1.1 b)
  ·rw[Vk b]at h;by_cases a:y.hi.sgn<0
   ·exact .inr (f.2.1 a)
   ·rw[Vk a]at h;exact absurd rfl h
 ·rintro(h|h)
  ·rw[Vh (e.1.2 h)];omega
  ·have a:=f.2.2 h;by_cases c:0<y.lo.sgn
   ·rw[Vh c];omega
   ·rw[Vk c,Vh a];omega
theorem mB {d:Dy}(h:d.val≠0):d.m≠[]:=by
 intro a;apply h;unfold Dy.val;rw[Dy.absN_nil a];simp
theorem Kv {x y a b:Iv}{p:Int}(l:x.W)(k:y.W)(F:a.W)(t:b.W)(M:x.Le a)(N:y.Le b):(x.div y p).ins (a.div b p)=true:=by
 have hv:(x.div y p).valid=true:=by
  unfold Iv.div;split
  ·rename_i h;simp only[VA,VT]at h;obtain⟨⟨⟨j,d⟩,c⟩,L⟩:=h;have o:=fO (i:=0) (by omega) (bg l j) (bg k d);have r:=jU (i:=0) (by omega) (bP l j) (bP k d);have T:=(qV k d).1 L;have e:(au x y 0).2.val≠0:=by omega
   exact(uW (le:=fun u v=>bD u.val v.val) (ge:=fun u v=>bE u.val v.val) (qD o.1 o.2 c (mB e)) (qE o.1 o.2 c (mB e)) (nW e) (fun _ _=>iS) (fun _ _=>iS)).1
  ·rfl
 have G:∀z:Iv,Iv.whole.div z p=Iv.whole/\z.div Iv.whole p=Iv.whole:=fun z=>by
  have:Iv.whole.known=false:=rfl;simp[Iv.div,this]
 rcases M with rfl|⟨j,k3,U,W⟩
 ·rw[(G b).1];exact jT hv
 ·rcases N with rfl|⟨d,k4,Y,Z⟩
  ·rw[(G a).2];exact jT hv
  ·cases c:af p
   ·have:a.div b p=Iv.whole:=by simp[Iv.div,c]
    rw[this];exact jT hv
   ·by_cases f:b.sgn=0
    ·have:a.div b p=Iv.whole:=by simp[Iv.div,f]
     rw[this];exact jT hv
    ·have C:=bg l j;have D:=bg k d;have A:=bg F k3;have B:=bg t k4;have q:=bP l j;have s:=bP k d;have S:=bP t k4;have O:=bP F k3;have E:=(qV t k4).1 f;have m:y.sgn≠0:=(qV k d).2 (by omega);unfold Iv.div;rw[j,d,k3,k4,c,Vh (by simpa using m),Vh (by simpa using f)];have n:∀i,i<4->(au x y i).2.val≠0:=fun i hi=>by have:=jU hi q s;omega
     have w:∀i,i<4->(au a b i).2.val≠0:=fun i hi=>by have:=jU hi O S;omega
     refine y7 (P:=p.toNat) (le:=fun u v=>bD u.val v.val) (ge:=fun u v=>bE u.val v.val) (fun _ _=>iS) (fun _ _=>iS) ?_ ?_ ?_ ?_ (nW (n 0 (by omega))) ?_ ?_
     ·intro i hi;have o:=fO hi C D;exact qD o.1 o.2 c (mB (n i hi))
     ·intro i hi;have o:=fO hi C D;exact qE o.1 o.2 c (mB (n i hi))
     ·intro i hi;have o:=fO hi A B;exact qD o.1 o.2 c (mB (w i hi))
     ·intro i hi;have o:=fO hi A B;exact qE o.1 o.2 c (mB (w i hi))
     ·intro i hi;obtain⟨H,I,J,K⟩:=jU hi q s;exact py (a:=a) (b:=b) (Q:=fun u v=>∀g,bD u.val v.val g->bD (au x y i).1.val (au x y i).2.val g) (q45 (by omega) (by omega) (by omega) (by omega) E)
     ·intro i hi;obtain⟨H,I,J,K⟩:=jU hi q s;exact py (a:=a) (b:=b) (Q:=fun u v=>∀g,bE u.val v.val g->bE (au x y i).1.val (au x y i).2.val g) (q46 (by omega) (by omega) (by omega) (by omega) E)
theorem Cn {x:Iv}(e:x.W)(a:x.known=true):x.abs.known=true/\x.abs.lo.Ok/\x.abs.hi.Ok/\0<=x.abs.lo.val/\x.abs.lo.val<=x.abs.hi.val:=by
 obtain⟨b,c⟩:=KP e a;obtain⟨g,d⟩:=AF e a;have f:x.abs.all=false:=by unfold Iv.abs;rw[Vh a]
 have hv:x.abs.known=true:=by
  have:x.abs.lo.cmp x.abs.hi<=0:=by rw[gB b c,jw];exact d
  simp[Iv.known,Iv.valid,f,b.valid,c.valid,this]
 exact⟨hv,b,c,g,d⟩
theorem uJ {x:Iv}(g:x.W)(c:x.known=true):x.abs.hi.val=max (x.lo.val.natAbs:Int) x.hi.val.natAbs/\x.abs.lo.val=(if 0<x.lo.val\/x.hi.val<0 then min (x.lo.val.natAbs:Int) x.hi.val.natAbs else 0):=by
 obtain⟨a,b⟩:=bg g c;have d:=mY a;have e:=mY b;have k:=kD (fG a) (fG b);have j:=mH (fG a) (fG b);have f:=qV g c;unfold Iv.abs;rw[Vh c];show x.mag.val=_/\x.mig.val=_;unfold Iv.mag Iv.mig;rw[k,d,e];refine⟨rfl,?_⟩;by_cases h:x.sgn=0
 ·rw[Vh h,ni,Vk (fun i=>(f.2 i) h)]
 ·rw[Vk h,j,d,e,Vh (f.1 h)]
theorem IsUp.at {p:Nat}{r:Dy × Int}{ge:Int->Prop}(h:IsUp p r ge)(f:r.2=0):ge r.1.val:=by
 rcases h with ⟨_,b,c⟩|⟨a,_⟩
 ·exact(c _ b).1 (VL _)
 ·exact absurd f a
section
variable {d e : Dy} {p : Int}
end
