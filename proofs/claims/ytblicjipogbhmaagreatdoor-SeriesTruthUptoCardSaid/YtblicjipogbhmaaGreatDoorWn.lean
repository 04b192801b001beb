import Derived.Test.YtblicjipogbhmaaGreatDoorWg
import Derived.Test.YtblicjipogbhmaaGreatDoorWa
namespace Go.Abs.W
def rF (c:Bool)(d:Dy):Iv:=if c=true then gH d else gG d
def Bw (k:Int):Int:=k*pw 16384
theorem DA {p:Nat}{k:Int}(a:16<=p)(h:k.natAbs<65536):aE p (Bw k):=by
 refine nh (b:=16) ?_ h (by unfold ci;omega);have:2^16<=2^p:=Vg (by omega) a;have e:(2:Nat)^16=65536:=rfl;omega
theorem r9 {a b:Int}(h:a<=b):Bw a<=Bw b:=VB h (Vu (bf _))
theorem Sh {a b:Int}:Bw (a+b)=Bw a+Bw b:=X5 _ _ _
theorem Sj : Bw 1=pw 16384:=WN _
theorem vk : Bw 2=pw 16385:=(eE 16384).symm
theorem nO {x y:Iv}{p:Nat}{a b c:Int}(j:x.W)(k:y.W)(f:af (p:Int)=true)(d:16<=p)(g:x.Bt (-Bw a) (Bw a))(i:y.Bt (-Bw b) (Bw b))(e:a+b=c)(h:c.natAbs<65536):(x.add y p).Bt (-Bw c) (Bw c):=by
 subst e;have e:=Sh (a:=a) (b:=b);exact pi j k f g i (jz (DA d h)) (DA d h) (by omega) (by omega)
theorem OK {d:Dy}{k:Int}(o:d.Ok)(a:0<=d.val)(h:d.val<=Bw k):(eV d).Bt (-Bw k) (Bw k):=by
 refine⟨fv (gh o) o (by rw[ie];omega),?_,h⟩;show _<=d.neg'.val;rw[ie];omega
theorem rD {x:Iv}{k:Int}(w:x.W)(h:x.Bt (-Bw k) (Bw k)):x.neg.Bt (-Bw k) (Bw k):=by
 have:=ma w h;rwa[Int.neg_neg]at this
theorem L4 {n:Nat}{T:Iv}{k:Int}(w:T.W)(h:T.Bt (-Bw k) (Bw k)):(dY n T).Bt (-Bw k) (Bw k):=by
 unfold dY;split;exact rD w h;exact h
theorem v4 {r:Iv}{p:Nat}(wr:r.W)(g:af (p:Int)=true)(a:16<=p)(u:r.Bt (-pw 16385) (pw 16385)):∀(f j:Nat) (t s c:Iv),f+j<=2000->t.W->t.Bt (-pw (sE j)) (pw (sE j))->s.W->c.W ->
 s.Bt (-Bw (2*j+1)) (Bw (2*j+1))->c.Bt (-Bw (2*j+1)) (Bw (2*j+1))->(iV r p f (j+1) t s c).1.Bt (-Bw 4001) (Bw 4001)/\(iV r p f (j+1) t s c).2.Bt (-Bw 4001) (Bw 4001)
 |0,j,t,s,c,y,wt,q,ws,i,d,b=>by
  have m:=r9 (show 2*(j:Int)+1<=4001 by omega);exact⟨d.mono (by omega) m,b.mono (by omega) m⟩
 |f+1,j,t,s,c,y,wt,q,ws,i,d,b=>by
  have m:=r9 (show 2*(j:Int)+1<=4001 by omega);unfold iV;split
  ·exact⟨d.mono (by omega) m,b.mono (by omega) m⟩
  ·have o:=r8 wt wr g q u (show j<=10000 by omega);have l:=bd (kY (j+1));have h:(dQ r p (j+1) t).Bt (-Bw 2) (Bw 2):=o.mono (by rw[vk];omega) (by rw[vk];exact l);have k:=L4 (n:=j+1) fU h;have e:(2*(j:Int)+1)+2=2*((j+1:Nat):Int)+1:=by omega
   have w:=nO ws (rJ fU) g a d k e (by omega);have x:=nO i (rJ fU) g a b k e (by omega);have v:=r9 (show 2*(j:Int)+1<=2*((j+1:Nat):Int)+1 by omega);refine v4 wr g a u f (j+1) _ _ _ (by omega) fU o (jF ws) (jG i) ?_ ?_
   ·unfold mt;split;exact w;exact d.mono (by omega) v
   ·unfold mu;split;exact b.mono (by omega) v;exact x
theorem LJ {r:Iv}{p:Nat}(wr:r.W)(d:af (p:Int)=true)(b:16<=p)(m:r.Bt (-pw 16385) (pw 16385)):(dU r p).Bt (-Bw 4002) (Bw 4002)/\(dV r p).Bt (-Bw 4002) (Bw 4002):=by
 have j:=precB_iff.1 d;have f:(nI 0 0).W:=ay (by decide);have e:(nI 1 1).W:=ay (by decide);have t:=bf 16384;have b0:(nI 0 0).Bt (-Bw (2*((0:Nat):Int)+1)) (Bw (2*((0:Nat):Int)+1)):=(bo (k:=0) (by decide)).mono (by show -((1:Int)*pw 16384)<=_;omega) (by show _<=(1:Int)*pw 16384;omega);have g:(nI 1 1).Bt (-Bw (2*((0:Nat):Int)+1)) (Bw (2*((0:Nat):Int)+1)):=(bo (k:=1) (by decide)).mono (by show -((1:Int)*pw 16384)<=_;omega) (by show _<=(1:Int)*pw 16384;omega);obtain⟨s,c⟩:=v4 wr d b m 1000 0 (nI 1 1) (nI 0 0) (nI 1 1) (by omega) e rI f e b0 g;have o:=jJ (n:=1-(p:Int)) (by omega) (by omega);have v:=pF (n:=1-(p:Int)) (by omega);have q:=bf (1-(p:Int)+16384).toNat;have l:pw (1-(p:Int)+16384).toNat<=pw 16384:=bd (by omega);have a:=OK (k:=1) o (by omega) (by rw[Sj];omega);obtain⟨h,i⟩:=pd (r:=r) (p:=(p:Int)) 1000 1 (nI 1 1) (nI 0 0) (nI 1 1) f e;exact⟨nO h (nv o) d b s a (by decide) (by decide),nO i (nv o) d b c a (by decide) (by decide)⟩
theorem DQ {c:Bool}{d:Dy}:(rF c d).W:=by unfold rF;split;exact TM;exact TN
theorem uD {c:Bool}{d:Dy}(ok:d.Ok)(g:d.top<=20):(rF c d).Bt (-Bw 4002) (Bw 4002):=by
 obtain⟨_,_,_,f,_⟩:=om ok g;obtain⟨s,a⟩:=LJ (p:=380) ld (by decide) (by decide) f;have e:=rD tp s;have b:=rD tn a;generalize Bw 4002=B at *
 unfold rF;split
 ·unfold gH;split;exact a;split;exact e;split;exact b;exact s
 ·unfold gG;split;exact s;split;exact a;split;exact e;exact b
theorem TL {c:Bool}{d:Dy}(ok:d.Ok)(b:d.top<=20):(rF c d).Has (Fn c (cK d.rat)):=by
 obtain⟨s,a⟩:=L7 ok b;unfold rF Fn;cases c
 ·exact s
 ·exact a
