/- Parts of the proof: FpCm. -/
import Derived.Test.YtnkijamajifgpaaGreatDoorCc
import Derived.Test.YtnkijamajifgpaaGreatDoorHs
import Derived.Test.YtnkijamajifgpaaGreatDoorHx
namespace Go.Abs.W
def com10 (d:Dy)(n:Int):Bool:=decide (d.m.length<=10)&&d.valid&&decide (-400<=d.e)&&decide (d.top<=n)
theorem q69 (d:Dy)(n:Int)(w:d.W):CQ prog qn4 [d.v,.int .i64 n] (.bool (com10 d n)):=by
 refine qah rfl fun H=>?_
 have c1:=qj5 d w;by_cases h1:d.m.length<=10
 ·have h1':(d.m.length:Int)<=10:=by omega
  cases hv:d.valid
  ·simp[Dy.v,lim,h1'];refine zq c1 ?_;simp[hv,com10]
  ·have ok:=Dy.Ok.of w.li hv;have c2:=qaha d ok;by_cases h2:-400<=d.e
   ·simp[Dy.v,lim,h1'];refine zq c1 ?_;simp[hv,h2];refine zq c2 ?_;simp[com10,hv,h1,h2]
   ·simp[Dy.v,lim,h1'];refine zq c1 ?_;simp[hv,h2,com10]
 ·have h1':¬(d.m.length:Int)<=10:=by omega
  have e:com10 d n=false:=by unfold com10;rw[decide_eq_false h1];rfl
  simp[Dy.v,lim,h1',e]
def qbt (d:Dy):Iv:=⟨d.neg',d,false⟩
theorem q5s (d:Dy):CQ prog qtz [d.v] (qbt d).v:=by
 refine qah rfl fun H=>?_
 have c:=qj6 d;have e:qbt d=⟨d.neg',d,false⟩:=rfl;rw[e];generalize d.neg'=n at *
 simp[Dy.v];refine zq c ?_;simp[lim]
theorem q8i (k:Int)(h1:-4611686018427387904<=k)(h2:k<=4611686018427387904):CQ prog qrg [.int .i64 k] (nD k).v:=qaoy k h1 h2
def z10 : Iv:=⟨Dy.zero,Dy.zero,false⟩
theorem z10_W : z10.W:=⟨Dy.zero_W,Dy.zero_W⟩
theorem qage {p:Int}(c:Bool)(h:precB p=true):bothI z10 c p=if c then Iv.pt (nD 1)else z10:=by
 unfold bothI;rw[h,show z10.known=true by decide +kernel];rw[if_pos (show(true&&true)=true from rfl),if_neg (show ¬(100<z10.lo.top\/100<z10.hi.top) by decide),if_neg (show ¬((z10.wid 64).2≠0\/0<=(z10.wid 64).1.cmp (nD 7)) by decide +kernel)];cases c
 ·rw[show qbg z10.lo false p.toNat=z10 from rfl,show qbg z10.hi false p.toNat=z10 from rfl,show(z10.hull z10).meet unitI=some z10 by decide +kernel];show(if z10.lo.cmp z10.hi=0 then z10 else _)=z10;rw[if_pos (show z10.lo.cmp z10.hi=0 by decide +kernel)]
 ·rw[show qbg z10.lo true p.toNat=Iv.pt (nD 1) from rfl,show qbg z10.hi true p.toNat=Iv.pt (nD 1) from rfl,show((Iv.pt (nD 1)).hull (Iv.pt (nD 1))).meet unitI=some (Iv.pt (nD 1)) by decide +kernel];show(if z10.lo.cmp z10.hi=0 then Iv.pt (nD 1)else _)=Iv.pt (nD 1);rw[if_pos (show z10.lo.cmp z10.hi=0 by decide +kernel)]
theorem qagn {p:Int}(h:precB p=true):atanI z10 p=z10:=by
 unfold atanI;rw[h,show z10.known=true by decide +kernel,if_pos (show(true&&true)=true from rfl)];rw[show qbx z10.lo p.toNat=z10 from rfl,show qbx z10.hi p.toNat=z10 from rfl];decide +kernel
theorem qabo (p:Int)(h:precB p=true):CQ prog qwl [.int .i64 p] (.bool true):=by
 refine qah rfl fun H=>?_
 have c1:=qag6 z10 p z10_W;have c2:=qalv z10 p z10_W;have c3:=qahk z10 p z10_W;rw[qage _ h]at c1 c2;rw[qagn h]at c3;simp only[if_true,Bool.false_eq_true,if_false]at c1 c2;have w1:(Iv.pt (nD 1)).W:=pt_W nD1.w;have c4:=qz2 z10 z10 z10_W z10_W;have c5:=qz2 (Iv.pt (nD 1)) (Iv.pt (nD 1)) w1 w1;have c6:=q8i 1 (by omega) (by omega);have c7:=qhb (nD 1);rw[decide_eq_true rfl]at c4 c5;have ez:z10.v=.agg [.bool false,.sl [],.int .i64 0,.bool false,.sl [],.int .i64 0,.bool false]:=rfl;rw[ez]at c1 c2 c3 c4;generalize Iv.pt (nD 1)=P at *
 generalize nD 1=one at *
 simp;refine zq c1 ?_;simp;refine zq c4 ?_;simp;refine zq c2 ?_;simp;refine zq c6 ?_;simp;refine zq c7 ?_;simp;refine zq c5 ?_;simp;refine zq c3 ?_;simp;refine zq c4 ?_;simp
def aw10 : Iv:=⟨Dy.zero,nD 2,false⟩
theorem nD2 : (nD 2).Ok:=nD_ok (by omega)
theorem qalo : aw10.W:=⟨Dy.zero_W,nD2.w⟩
theorem qagm : (bothI aw10 false 30).has (nD 1)=true:=by decide +kernel
theorem qajz : (piO 30).all=false/\(piO 30).sgn=1:=by decide +kernel
end Go.Abs.W
