import Derived.Test.YtblicjipogbhmaaGreatDoorCb
import Derived.Test.YtblicjipogbhmaaGreatDoorHy
import Derived.Test.YtblicjipogbhmaaGreatDoorHm
import Derived.Test.YtblicjipogbhmaaGreatDoorHx
import Derived.Test.YtblicjipogbhmaaGreatDoorXc
namespace Go.Abs.W
def eV (d:Dy):Iv:=⟨d.neg',d,false⟩
theorem AA (d:Dy):CQ prog qzd [d.v] (eV d).v:=by
 refine ap rfl fun H=>?_
 have c:=mA d;have e:eV d=⟨d.neg',d,false⟩:=rfl;rw[e];generalize d.neg'=n at *
 simp[Dy.v];refine zq c ?_;simp[lim]
theorem TP (k:Int)(a:-4611686018427387904<=k)(b:k<=4611686018427387904):CQ prog YP [.int .i64 k] (nD k).v:=Bl k a b
def Fx.int (a:Fx):Int:=if a.neg then -(a.n:Int)else a.n
theorem pW (a:Fx):a.minus.int=-a.int:=by
 unfold Fx.int Fx.minus;cases a.neg<;>simp
theorem mZ (a b:Fx):(a.add b).int=a.int+b.int:=by
 obtain⟨s,m⟩:=a;obtain⟨t,n⟩:=b;unfold Fx.add;by_cases h:s=t
 ·subst h;rw[Vh rfl];unfold Fx.int;cases s<;>simp<;>omega
 ·rw[Vk h];simp only[];split<;>unfold Fx.int<;>cases s<;>cases t<;>first|exact absurd rfl h| (simp;omega)
theorem xE (a:Fx):a.int.natAbs=a.n:=by unfold Fx.int;split<;>omega
theorem wg {a:Fx}{b:Nat}(c:b<=16384):(Dy.of a.neg a.n (-(b:Int))).val=a.int*pw (16384-b):=by
 rw[pm (by omega),show(-(b:Int)+16384).toNat=16384-b by omega];unfold Fx.int;rw[<-ec];split
 ·rw[V9]
 ·rfl
theorem rS {a:Fx}{b:Nat}(c:b<=16384):(cM a b).val=(a.int-2^24)*pw (16384-b)/\(cN a b).val=(a.int+2^24)*pw (16384-b):=by
 have d:cM a b=Dy.of (a.add eps24.minus).neg (a.add eps24.minus).n (-(b:Int)):=rfl;have e:cN a b=Dy.of (a.add eps24).neg (a.add eps24).n (-(b:Int)):=rfl;have f:eps24.int=2^24:=rfl;rw[d,e,wg c,wg c,mZ,mZ,pW,f];exact⟨rfl,rfl⟩
theorem zu {a:Fx}{b:Nat}(d:ac a.n<=4000)(g:b<=8000):(cM a b).inR=true/\(cN a b).inR=true:=by
 have c:ac eps24.n<=4000:=by
  have:ac (2^24)=25:=by decide
  show ac (2^24)<=_;omega
 have e:=AU (a:=a) (b:=eps24.minus) (k:=4000) d (show ac eps24.n<=_ from c);have f:=AU (a:=a) (b:=eps24) (k:=4000) d c;exact⟨Dy.of_inR (by omega) (by omega) (by omega),Dy.of_inR (by omega) (by omega) (by omega)⟩
theorem La {a:Fx}{b:Nat}{p A B:Int}(c:af p=true)(q:ac a.n<=4000)(r:b<=8000)(l:aE p.toNat A)(m:aE p.toNat B)(n:A<=(a.int-2^24)*pw (16384-b))(o:(a.int+2^24)*pw (16384-b)<=B):(Iv.near a b p).Bt A B:=by
 obtain⟨g,h⟩:=zu q r;obtain⟨i,j⟩:=rS (a:=a) (b:=b) (by omega);have d:(cM a b).Ok:=Dy.of_ok g;have f:(cN a b).Ok:=Dy.of_ok h;have k:(Iv.mk (cM a b) (cN a b) false).known=true:=by
  refine fv d f ?_;rw[i,j];exact VB (by omega) (Vu (bf _))
 have e:Iv.near a b p=(Iv.mk (cM a b) (cN a b) false).rnd p:=by
  unfold Iv.near Iv.rnd;rw[g,h,k,c]
 rw[e];exact(lT ⟨d.w,f.w⟩ c ⟨k,by rw[i];exact n,by rw[j];exact o⟩ l m).1
theorem Oa {a:Fx}{b:Nat}{p:Int}(d:af p=true)(m:b<=3000)(h:a.n+2^24<=2*2^b):(Iv.near a b p).Bt (-pw 16385) (pw 16385):=by
 have i:=pU b;have j:=qY (a:=2) (b:=2^b);have k:ac 2=2:=by decide
 have l:=dW (show a.n<=2*2^b by omega);have n:=xE a;have g:aE p.toNat (pw 16385):=eK (by omega);have e:pw 16385=(2*pw b)*pw (16384-b):=by rw[<-eE,<-bK];congr 1;omega
 have q:=bf (16384-b);have f:pw b=((2^b:Nat):Int):=rfl;have c:((2^24:Nat):Int)=2^24:=rfl;refine La d (by omega) (by omega) (jz g) g ?_ ?_
 ·rw[e,<-V9];exact VB (by omega) (Vu q)
 ·rw[e];exact VB (by omega) (Vu q)
theorem Ud (d:Dy)(b:Int):(Fx.of d b).neg=d.neg:=by unfold Fx.of;split<;>rfl
theorem QR : unitI.known=true:=by decide +kernel
theorem ZI : (nD (-1)).val=-pw 16384/\(nD 1).val=pw 16384:=by
 refine⟨?_,?_⟩
 ·rw[iP];omega
 ·rw[iP];omega
structure InU (y:Iv):Prop where
 ol:y.lo.Ok
 oh:y.hi.Ok
 al:y.all=false
 lo:-pw 16384<=y.lo.val
 le:y.lo.val<=y.hi.val
 hi:y.hi.val<=pw 16384
theorem InU.ins {y:Iv}(h:InU y):y.ins unitI=true:=by
 obtain⟨l,r,a⟩:=y;have b:a=false:=h.al;subst b;obtain⟨c,d⟩:=ZI;refine ry ⟨h.ol.w,h.oh.w⟩ tq (fv h.ol h.oh h.le) QR ?_ ?_
 ·show(nD (-1)).val<=_;rw[c];exact h.lo
 ·show _<=(nD 1).val;rw[d];exact h.hi
theorem InU.put {y:Iv}(q:InU y)(s t:Bool):InU ⟨if s=true then nD (-1)else y.lo,if t=true then nD 1 else y.hi,y.all⟩:=by
 obtain⟨h,i⟩:=ZI;have g:=bf 16384;obtain⟨a,b,c,d,e,f⟩:=q;cases s<;>cases t<;>simp only[Wm,Vv,V8]
 ·exact⟨a,b,c,d,e,f⟩
 ·exact⟨a,nD1,c,d,by simp only[];omega,by simp only[];omega⟩
 ·exact⟨nDm1,b,c,by simp only[];omega,by simp only[];omega,f⟩
 ·exact⟨nDm1,nD1,c,by simp only[];omega,by simp only[];omega,by simp only[];omega⟩
