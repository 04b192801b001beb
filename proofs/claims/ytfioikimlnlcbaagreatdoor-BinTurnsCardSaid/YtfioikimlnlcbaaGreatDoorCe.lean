/- Parts of the proof: FpCj, FpCl, FpCm, FpCn, FpCo, FpCp. -/
import Derived.Test.YtfioikimlnlcbaaGreatDoorCb
import Derived.Test.YtfioikimlnlcbaaGreatDoorHy
import Derived.Test.YtfioikimlnlcbaaGreatDoorHm
import Derived.Test.YtfioikimlnlcbaaGreatDoorHx
import Derived.Test.YtfioikimlnlcbaaGreatDoorXc
namespace Go.Abs.W
def Fx.int (a:Fx):Int:=if a.neg then -(a.n:Int)else a.n
theorem qyv (a:Fx):a.minus.int=-a.int:=by
 unfold Fx.int Fx.minus;cases a.neg<;>simp
theorem qxh (a b:Fx):(a.add b).int=a.int+b.int:=by
 obtain⟨s,m⟩:=a;obtain⟨t,n⟩:=b;unfold Fx.add;by_cases h:s=t
 ·subst h;rw[if_pos rfl];unfold Fx.int;cases s<;>simp<;>omega
 ·rw[if_neg h];simp only[];split<;>unfold Fx.int<;>cases s<;>cases t<;>first|exact absurd rfl h| (simp;omega)
theorem qae8 {a:Fx}{b:Nat}(hb:b<=16384):(Dy.of a.neg a.n (-(b:Int))).val=a.int*pw (16384-b):=by
 rw[qqh (by omega),show(-(b:Int)+16384).toNat=16384-b by omega];unfold Fx.int;rw[<-qcr];split
 ·rw[Int.neg_mul]
 ·rfl
theorem q8t {a:Fx}{b:Nat}(hb:b<=16384):(nearL a b).val=(a.int-2^24)*pw (16384-b)/\(nearH a b).val=(a.int+2^24)*pw (16384-b):=by
 have e1:nearL a b=Dy.of (a.add eps24.minus).neg (a.add eps24.minus).n (-(b:Int)):=rfl;have e2:nearH a b=Dy.of (a.add eps24).neg (a.add eps24).n (-(b:Int)):=rfl;have e3:eps24.int=2^24:=rfl;rw[e1,e2,qae8 hb,qae8 hb,qxh,qxh,qyv,e3];exact⟨rfl,rfl⟩
theorem q3l {a:Fx}{b:Nat}(ha:bitL a.n<=4000)(hb:b<=8000):(nearL a b).inR=true/\(nearH a b).inR=true:=by
 have b24:bitL eps24.n<=4000:=by
  have:bitL (2^24)=25:=by decide
  show bitL (2^24)<=_;omega
 have h1:=qzr (a:=a) (b:=eps24.minus) (k:=4000) ha (show bitL eps24.n<=_ from b24);have h2:=qzr (a:=a) (b:=eps24) (k:=4000) ha b24;exact⟨Dy.of_inR (by omega) (by omega) (by omega),Dy.of_inR (by omega) (by omega) (by omega)⟩
theorem qag0 {a:Fx}{b:Nat}{p A B:Int}(hp:precB p=true)(ha:bitL a.n<=4000)(hb:b<=8000)(gA:GridI p.toNat A)(gB:GridI p.toNat B)(hA:A<=(a.int-2^24)*pw (16384-b))(hB:(a.int+2^24)*pw (16384-b)<=B):(Iv.near a b p).Bt A B:=by
 obtain⟨r1,r2⟩:=q3l ha hb;obtain⟨v1,v2⟩:=q8t (a:=a) (b:=b) (by omega);have o1:(nearL a b).Ok:=Dy.of_ok r1;have o2:(nearH a b).Ok:=Dy.of_ok r2;have k:(Iv.mk (nearL a b) (nearH a b) false).known=true:=by
  refine qma o1 o2 ?_;rw[v1,v2];exact Int.mul_le_mul_of_nonneg_right (by omega) (Int.le_of_lt (qc6 _))
 have e:Iv.near a b p=(Iv.mk (nearL a b) (nearH a b) false).rnd p:=by
  unfold Iv.near Iv.rnd;rw[r1,r2,k,hp]
 rw[e];exact(qaji ⟨o1.w,o2.w⟩ hp ⟨k,by rw[v1];exact hA,by rw[v2];exact hB⟩ gA gB).1
theorem q48 : unitI.known=true:=by decide +kernel
theorem qxw : (nD (-1)).val=-pw 16384/\(nD 1).val=pw 16384:=by
 refine⟨?_,?_⟩
 ·rw[qqi];omega
 ·rw[qqi];omega
structure InU (y:Iv):Prop where
 ol:y.lo.Ok
 oh:y.hi.Ok
 al:y.all=false
 lo:-pw 16384<=y.lo.val
 le:y.lo.val<=y.hi.val
 hi:y.hi.val<=pw 16384
theorem InU.ins {y:Iv}(h:InU y):y.ins unitI=true:=by
 obtain⟨l,r,a⟩:=y;have ha:a=false:=h.al;subst ha;obtain⟨u1,u2⟩:=qxw;refine qaj8 ⟨h.ol.w,h.oh.w⟩ qai7 (qma h.ol h.oh h.le) q48 ?_ ?_
 ·show(nD (-1)).val<=_;rw[u1];exact h.lo
 ·show _<=(nD 1).val;rw[u2];exact h.hi
theorem InU.put {y:Iv}(q:InU y)(s t:Bool):InU ⟨if s=true then nD (-1)else y.lo,if t=true then nD 1 else y.hi,y.all⟩:=by
 obtain⟨u1,u2⟩:=qxw;have p0:=qc6 16384;obtain⟨a,b,c,d,e,f⟩:=q;cases s<;>cases t<;>simp only[if_true,Bool.false_eq_true,if_false]
 ·exact⟨a,b,c,d,e,f⟩
 ·exact⟨a,nD1,c,d,by simp only[];omega,by simp only[];omega⟩
 ·exact⟨nDm1,b,c,by simp only[];omega,by simp only[];omega,f⟩
 ·exact⟨nDm1,nD1,c,by simp only[];omega,by simp only[];omega,by simp only[];omega⟩
end Go.Abs.W
