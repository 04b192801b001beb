/- Parts of the proof: FpCn, FpCo. -/
import Derived.Test.YtpdchdfajhbglaaGreatDoorCd
import Derived.Test.YtpdchdfajhbglaaGreatDoorXc
namespace Go.Abs.W
def Fx.int (a:Fx):Int:=if a.neg then -(a.n:Int)else a.n
theorem qer (a:Fx):a.minus.int=-a.int:=by
 unfold Fx.int Fx.minus;cases a.neg<;>simp
theorem qe7 (a b:Fx):(a.add b).int=a.int+b.int:=by
 obtain⟨s,m⟩:=a;obtain⟨t,n⟩:=b;unfold Fx.add;by_cases h:s=t
 ·subst h;rw[if_pos rfl];unfold Fx.int;cases s<;>simp<;>omega
 ·rw[if_neg h];simp only[];split<;>unfold Fx.int<;>cases s<;>cases t<;>first|exact absurd rfl h| (simp;omega)
theorem qadp (a:Fx):a.int.natAbs=a.n:=by unfold Fx.int;split<;>omega
theorem qaj4 {a:Fx}{b:Nat}(hb:b<=16384):(Dy.of a.neg a.n (-(b:Int))).val=a.int*pw (16384-b):=by
 rw[qu0 (by omega),show(-(b:Int)+16384).toNat=16384-b by omega];unfold Fx.int;rw[<-qbu];split
 ·rw[Int.neg_mul]
 ·rfl
theorem qacv {a:Fx}{b:Nat}(hb:b<=16384):(nearL a b).val=(a.int-2^24)*pw (16384-b)/\(nearH a b).val=(a.int+2^24)*pw (16384-b):=by
 have e1:nearL a b=Dy.of (a.add eps24.minus).neg (a.add eps24.minus).n (-(b:Int)):=rfl;have e2:nearH a b=Dy.of (a.add eps24).neg (a.add eps24).n (-(b:Int)):=rfl;have e3:eps24.int=2^24:=rfl;rw[e1,e2,qaj4 hb,qaj4 hb,qe7,qe7,qer,e3];exact⟨rfl,rfl⟩
theorem q7u {a:Fx}{b:Nat}(ha:bitL a.n<=4000)(hb:b<=8000):(nearL a b).inR=true/\(nearH a b).inR=true:=by
 have b24:bitL eps24.n<=4000:=by
  have:bitL (2^24)=25:=by decide
  show bitL (2^24)<=_;omega
 have h1:=qir (a:=a) (b:=eps24.minus) (k:=4000) ha (show bitL eps24.n<=_ from b24);have h2:=qir (a:=a) (b:=eps24) (k:=4000) ha b24;exact⟨Dy.of_inR (by omega) (by omega) (by omega),Dy.of_inR (by omega) (by omega) (by omega)⟩
theorem qaln {a:Fx}{b:Nat}{p A B:Int}(hp:precB p=true)(ha:bitL a.n<=4000)(hb:b<=8000)(gA:GridI p.toNat A)(gB:GridI p.toNat B)(hA:A<=(a.int-2^24)*pw (16384-b))(hB:(a.int+2^24)*pw (16384-b)<=B):(Iv.near a b p).Bt A B:=by
 obtain⟨r1,r2⟩:=q7u ha hb;obtain⟨v1,v2⟩:=qacv (a:=a) (b:=b) (by omega);have o1:(nearL a b).Ok:=Dy.of_ok r1;have o2:(nearH a b).Ok:=Dy.of_ok r2;have k:(Iv.mk (nearL a b) (nearH a b) false).known=true:=by
  refine qb8 o1 o2 ?_;rw[v1,v2];exact Int.mul_le_mul_of_nonneg_right (by omega) (Int.le_of_lt (qaw _))
 have e:Iv.near a b p=(Iv.mk (nearL a b) (nearH a b) false).rnd p:=by
  unfold Iv.near Iv.rnd;rw[r1,r2,k,hp]
 rw[e];exact(q15 ⟨o1.w,o2.w⟩ hp ⟨k,by rw[v1];exact hA,by rw[v2];exact hB⟩ gA gB).1
theorem qahe {a:Fx}{b:Nat}{p:Int}(hp:precB p=true)(hb:b<=3000)(h:a.n+2^24<=2*2^b):(Iv.near a b p).Bt (-pw 16385) (pw 16385):=by
 have eb:=qeu b;have h1:=qfc (a:=2) (b:=2^b);have h2:bitL 2=2:=by decide
 have h3:=qar (show a.n<=2*2^b by omega);have ia:=qadp a;have g:GridI p.toNat (pw 16385):=qbx (by omega);have e:pw 16385=(2*pw b)*pw (16384-b):=by rw[<-qc1,<-qa7];congr 1;omega
 have q:=qaw (16384-b);have eP:pw b=((2^b:Nat):Int):=rfl;have e24:((2^24:Nat):Int)=2^24:=rfl;refine qaln hp (by omega) (by omega) (qgp g) g ?_ ?_
 ·rw[e,<-Int.neg_mul];exact Int.mul_le_mul_of_nonneg_right (by omega) (Int.le_of_lt q)
 ·rw[e];exact Int.mul_le_mul_of_nonneg_right (by omega) (Int.le_of_lt q)
theorem qao1 (d:Dy)(b:Int):(Fx.of d b).neg=d.neg:=by unfold Fx.of;split<;>rfl
theorem qxt : unitI.known=true:=by decide +kernel
theorem qll : (nD (-1)).val=-pw 16384/\(nD 1).val=pw 16384:=by
 refine⟨?_,?_⟩
 ·rw[qih];omega
 ·rw[qih];omega
structure InU (y:Iv):Prop where
 ol:y.lo.Ok
 oh:y.hi.Ok
 al:y.all=false
 lo:-pw 16384<=y.lo.val
 le:y.lo.val<=y.hi.val
 hi:y.hi.val<=pw 16384
theorem InU.ins {y:Iv}(h:InU y):y.ins unitI=true:=by
 obtain⟨l,r,a⟩:=y;have ha:a=false:=h.al;subst ha;obtain⟨u1,u2⟩:=qll;refine qyh ⟨h.ol.w,h.oh.w⟩ qaa9 (qb8 h.ol h.oh h.le) qxt ?_ ?_
 ·show(nD (-1)).val<=_;rw[u1];exact h.lo
 ·show _<=(nD 1).val;rw[u2];exact h.hi
theorem qt4 : InU unitI:=by
 obtain⟨u1,u2⟩:=qll;have p:=qaw 16384;exact⟨nDm1,nD1,rfl,by show _<=(nD (-1)).val;omega,by show(nD (-1)).val<=(nD 1).val;omega,by show(nD 1).val<=_;omega⟩
theorem q2u {C y:Iv}(w:C.W)(h:C.meet unitI=some y):InU y:=by
 obtain⟨u1,u2⟩:=qll;unfold Iv.meet at h;split at h
 ·rename_i hv;simp only[Bool.and_eq_true]at hv;split at h
  ·injection h with h;subst h;exact qt4
  ·rename_i ha;rw[if_neg (show ¬unitI.all=true by decide)]at h;split at h
   ·cases h
   ·rename_i hc;injection h with h
    subst h;obtain⟨ol,oh⟩:=qai w (show C.known=true by simp[Iv.known,hv.1,ha]);have a1:(C.lo.hi2 unitI.lo).Ok:=q8f ol nDm1;have a2:(C.hi.lo2 unitI.hi).Ok:=q79 oh nD1;rw[qkc a1 a2]at hc;have hle:(C.lo.hi2 unitI.lo).val<=(C.hi.lo2 unitI.hi).val:=cmpI_le.1 (by omega);refine⟨a1,a2,rfl,?_,hle,?_⟩
    ·show _<=(C.lo.hi2 unitI.lo).val;rw[qij ol (show unitI.lo.Ok from nDm1)];show _<=max C.lo.val (nD (-1)).val;omega
    ·show(C.hi.lo2 unitI.hi).val<=_;rw[qii oh (show unitI.hi.Ok from nD1)];show min C.hi.val (nD 1).val<=_;omega
 ·cases h
theorem InU.put {y:Iv}(q:InU y)(s t:Bool):InU ⟨if s=true then nD (-1)else y.lo,if t=true then nD 1 else y.hi,y.all⟩:=by
 obtain⟨u1,u2⟩:=qll;have p0:=qaw 16384;obtain⟨a,b,c,d,e,f⟩:=q;cases s<;>cases t<;>simp only[if_true,Bool.false_eq_true,if_false]
 ·exact⟨a,b,c,d,e,f⟩
 ·exact⟨a,nD1,c,d,by simp only[];omega,by simp only[];omega⟩
 ·exact⟨nDm1,b,c,by simp only[];omega,by simp only[];omega,f⟩
 ·exact⟨nDm1,nD1,c,by simp only[];omega,by simp only[];omega,by simp only[];omega⟩
theorem qaih {x:Iv}{c:Bool}{p:Int}(w:x.W)(h:precB p=true)(k:x.known=true):InU (bothI x c p):=by
 obtain⟨ol,oh⟩:=qai w k;obtain⟨u1,u2⟩:=qll;have p0:=qaw 16384;unfold bothI;rw[h,k,if_pos (show(true&&true)=true from rfl)];split
 ·exact qt4
 ·split
  ·exact qt4
  ·split
   ·exact qt4
   ·rename_i y hy;have q:=q2u ((qo8 ol.w).hull (qo8 oh.w)) hy;split
    ·exact q
    ·exact q.put _ _
theorem qy4 {x:Iv}{c:Bool}{p:Int}(w:x.W):(bothI x c p).W:=by
 by_cases h:(precB p&&x.known)=true
 ·simp only[Bool.and_eq_true]at h;have q:=qaih (c:=c) w h.1 h.2;exact⟨q.ol.w,q.oh.w⟩
 ·unfold bothI;rw[if_neg h];exact Iv.whole_W
end Go.Abs.W
