/- Parts of the proof: FpCn, FpCo. -/
import Derived.Test.YtpdchdfajhbglaaGreatDoorCd
import Derived.Test.YtpdchdfajhbglaaGreatDoorXc
namespace Go.Abs.W
def Fx.int (a:Fx):Int:=if a.neg then -(a.n:Int)else a.n
theorem qdc (a:Fx):a.minus.int=-a.int:=by
 unfold Fx.int Fx.minus;cases a.neg<;>simp
theorem qd6 (a b:Fx):(a.add b).int=a.int+b.int:=by
 obtain⟨s,m⟩:=a;obtain⟨t,n⟩:=b;unfold Fx.add;by_cases h:s=t
 ·subst h;rw[if_pos rfl];unfold Fx.int;cases s<;>simp<;>omega
 ·rw[if_neg h];simp only[];split<;>unfold Fx.int<;>cases s<;>cases t<;>first|exact absurd rfl h| (simp;omega)
theorem q95 (a:Fx):a.int.natAbs=a.n:=by unfold Fx.int;split<;>omega
theorem qaf1 {a:Fx}{b:Nat}(hb:b<=16384):(Dy.of a.neg a.n (-(b:Int))).val=a.int*pw (16384-b):=by
 rw[qr8 (by omega),show(-(b:Int)+16384).toNat=16384-b by omega];unfold Fx.int;rw[<-qbo];split
 ·rw[Int.neg_mul]
 ·rfl
theorem q9c {a:Fx}{b:Nat}(hb:b<=16384):(nearL a b).val=(a.int-2^24)*pw (16384-b)/\(nearH a b).val=(a.int+2^24)*pw (16384-b):=by
 have e1:nearL a b=Dy.of (a.add eps24.minus).neg (a.add eps24.minus).n (-(b:Int)):=rfl;have e2:nearH a b=Dy.of (a.add eps24).neg (a.add eps24).n (-(b:Int)):=rfl;have e3:eps24.int=2^24:=rfl;rw[e1,e2,qaf1 hb,qaf1 hb,qd6,qd6,qdc,e3];exact⟨rfl,rfl⟩
theorem q4d {a:Fx}{b:Nat}(ha:bitL a.n<=4000)(hb:b<=8000):(nearL a b).inR=true/\(nearH a b).inR=true:=by
 have b24:bitL eps24.n<=4000:=by
  have:bitL (2^24)=25:=by decide
  show bitL (2^24)<=_;omega
 have h1:=qho (a:=a) (b:=eps24.minus) (k:=4000) ha (show bitL eps24.n<=_ from b24);have h2:=qho (a:=a) (b:=eps24) (k:=4000) ha b24;exact⟨Dy.of_inR (by omega) (by omega) (by omega),Dy.of_inR (by omega) (by omega) (by omega)⟩
theorem q9b {a:Fx}{b:Nat}{p A B:Int}(hp:precB p=true)(ha:bitL a.n<=4000)(hb:b<=8000)(gA:GridI p.toNat A)(gB:GridI p.toNat B)(hA:A<=(a.int-2^24)*pw (16384-b))(hB:(a.int+2^24)*pw (16384-b)<=B):(Iv.near a b p).Bt A B:=by
 obtain⟨r1,r2⟩:=q4d ha hb;obtain⟨v1,v2⟩:=q9c (a:=a) (b:=b) (by omega);have o1:(nearL a b).Ok:=Dy.of_ok r1;have o2:(nearH a b).Ok:=Dy.of_ok r2;have k:(Iv.mk (nearL a b) (nearH a b) false).known=true:=by
  refine qbd o1 o2 ?_;rw[v1,v2];exact Int.mul_le_mul_of_nonneg_right (by omega) (Int.le_of_lt (qas _))
 have e:Iv.near a b p=(Iv.mk (nearL a b) (nearH a b) false).rnd p:=by
  unfold Iv.near Iv.rnd;rw[r1,r2,k,hp]
 rw[e];exact(qp4 ⟨o1.w,o2.w⟩ hp ⟨k,by rw[v1];exact hA,by rw[v2];exact hB⟩ gA gB).1
theorem q4c {a:Fx}{b:Nat}{p:Int}(hp:precB p=true)(hb:b<=3000)(h:a.n+2^24<=2*2^b):(Iv.near a b p).Bt (-pw 16385) (pw 16385):=by
 have eb:=qbb b;have h1:=qbj (a:=2) (b:=2^b);have h2:bitL 2=2:=by decide
 have h3:=qao (show a.n<=2*2^b by omega);have ia:=q95 a;have g:GridI p.toNat (pw 16385):=qa3 (by omega);have e:pw 16385=(2*pw b)*pw (16384-b):=by rw[<-qbr,<-qa0];congr 1;omega
 have q:=qas (16384-b);have eP:pw b=((2^b:Nat):Int):=rfl;have e24:((2^24:Nat):Int)=2^24:=rfl;refine q9b hp (by omega) (by omega) (qc7 g) g ?_ ?_
 ·rw[e,<-Int.neg_mul];exact Int.mul_le_mul_of_nonneg_right (by omega) (Int.le_of_lt q)
 ·rw[e];exact Int.mul_le_mul_of_nonneg_right (by omega) (Int.le_of_lt q)
theorem qw1 {x:Fx}{b:Nat}(h:x.neg=false):∀j,(halv x b j).neg=false
 |0=>h
 |j+1=>qaaa (qw1 h j)
theorem q5l {x:Fx}{b:Nat}(hn:x.neg=false)(hx:x.n<=2^b):189*(arcI x b).n<=190*2^b:=by
 obtain⟨_,h8⟩:=qkm hx 3;have e8:(2:Nat)^3=8:=rfl;rw[e8]at h8;have h3:=qw1 (b:=b) hn 3;have qn:(arcQ x b).neg=false:=q1f _ _;have e:arcA x b=altG (fun a=>a.times (arcQ x b) b) ((halv x b 3).n+1) 1 (halv x b 3) (halv x b 3):=rfl;obtain⟨_,_,c⟩:=qpc (fun a=>a.times (arcQ x b) b) 64 (by omega) (fun a=>qr9 hx) (fun a h=>by show(a.neg != (arcQ x b).neg)=false;rw[h,qn];rfl) ((halv x b 3).n+1) 1 (halv x b 3) (halv x b 3) (by omega) h3 h3 (Nat.le_refl _);rw[<-e]at c;show 189*((arcA x b).n*2^3)<=_;omega
theorem qwk (d:Dy)(b:Nat):(recI d b).neg=false:=by unfold recI;split<;>rfl
theorem q83 (d:Dy)(b:Int):(Fx.of d b).neg=d.neg:=by unfold Fx.of;split<;>rfl
theorem qaiu {d:Dy}{b:Nat}(ok:d.Ok)(h0:d.m≠[])(hb:10<=b):10*(angV d b).n<=17*2^b:=by
 have hl1:=q2w ok h0;have eabs:=q5s ok h0;have pn:0<natV d.m:=by have:=ok.odd h0;omega
 have am:d.abs.m=d.m:=by rw[eabs]
 have ae:d.abs.e=d.e:=by rw[eabs]
 have an:d.abs.neg=false:=by rw[eabs]
 unfold angV;split
 ·rename_i hc;have l1:=hl1.1 hc;have ofl:=q84 (d:=d.abs) (b:=b) (by rw[am,ae];exact l1);have:=q5l (by rw[q83];exact an) ofl;omega
 ·rename_i hc;have l1:¬(d.e<=0/\natV d.m<=2^(-d.e).toNat):=fun h=>hc (hl1.2 h)
  have rl:=q8o (d:=d.abs) (b:=b) (by rw[am];exact pn) (by rw[am,ae];exact l1);have an:=q5l (qwk d.abs b) rl;obtain⟨_,_,pu⟩:=qhh hb;have rn:(arcI (recI d.abs b) b).neg=false:=rfl;generalize arcI (recI d.abs b) b=R at *
  have p1:(2:Nat)^1=2:=rfl;rw[p1];generalize (piI b).n=P at *
  unfold Fx.add Fx.minus;rw[rn];simp only[Bool.not_false,Bool.false_eq_true,if_false];split
  ·simp only[];omega
  ·simp only[];omega
theorem qut : unitI.known=true:=by decide +kernel
theorem qju : (nD (-1)).val=-pw 16384/\(nD 1).val=pw 16384:=by
 refine⟨?_,?_⟩
 ·rw[qlk];omega
 ·rw[qlk];omega
structure InU (y:Iv):Prop where
 ol:y.lo.Ok
 oh:y.hi.Ok
 al:y.all=false
 lo:-pw 16384<=y.lo.val
 le:y.lo.val<=y.hi.val
 hi:y.hi.val<=pw 16384
theorem InU.ins {y:Iv}(h:InU y):y.ins unitI=true:=by
 obtain⟨l,r,a⟩:=y;have ha:a=false:=h.al;subst ha;obtain⟨u1,u2⟩:=qju;refine qzq ⟨h.ol.w,h.oh.w⟩ q7h (qbd h.ol h.oh h.le) qut ?_ ?_
 ·show(nD (-1)).val<=_;rw[u1];exact h.lo
 ·show _<=(nD 1).val;rw[u2];exact h.hi
theorem qrm : InU unitI:=by
 obtain⟨u1,u2⟩:=qju;have p:=qas 16384;exact⟨nDm1,nD1,rfl,by show _<=(nD (-1)).val;omega,by show(nD (-1)).val<=(nD 1).val;omega,by show(nD 1).val<=_;omega⟩
theorem qzg {C y:Iv}(w:C.W)(h:C.meet unitI=some y):InU y:=by
 obtain⟨u1,u2⟩:=qju;unfold Iv.meet at h;split at h
 ·rename_i hv;simp only[Bool.and_eq_true]at hv;split at h
  ·injection h with h;subst h;exact qrm
  ·rename_i ha;rw[if_neg (show ¬unitI.all=true by decide)]at h;split at h
   ·cases h
   ·rename_i hc;injection h with h
    subst h;obtain⟨ol,oh⟩:=qai w (show C.known=true by simp[Iv.known,hv.1,ha]);have a1:(C.lo.hi2 unitI.lo).Ok:=qzr ol nDm1;have a2:(C.hi.lo2 unitI.hi).Ok:=qzl oh nD1;rw[qe6 a1 a2]at hc;have hle:(C.lo.hi2 unitI.lo).val<=(C.hi.lo2 unitI.hi).val:=cmpI_le.1 (by omega);refine⟨a1,a2,rfl,?_,hle,?_⟩
    ·show _<=(C.lo.hi2 unitI.lo).val;rw[qf6 ol (show unitI.lo.Ok from nDm1)];show _<=max C.lo.val (nD (-1)).val;omega
    ·show(C.hi.lo2 unitI.hi).val<=_;rw[qf4 oh (show unitI.hi.Ok from nD1)];show min C.hi.val (nD 1).val<=_;omega
 ·cases h
theorem InU.put {y:Iv}(q:InU y)(s t:Bool):InU ⟨if s=true then nD (-1)else y.lo,if t=true then nD 1 else y.hi,y.all⟩:=by
 obtain⟨u1,u2⟩:=qju;have p0:=qas 16384;obtain⟨a,b,c,d,e,f⟩:=q;cases s<;>cases t<;>simp only[if_true,Bool.false_eq_true,if_false]
 ·exact⟨a,b,c,d,e,f⟩
 ·exact⟨a,nD1,c,d,by simp only[];omega,by simp only[];omega⟩
 ·exact⟨nDm1,b,c,by simp only[];omega,by simp only[];omega,f⟩
 ·exact⟨nDm1,nD1,c,by simp only[];omega,by simp only[];omega,by simp only[];omega⟩
theorem q5i {x:Iv}{c:Bool}{p:Int}(w:x.W)(h:precB p=true)(k:x.known=true):InU (bothI x c p):=by
 obtain⟨ol,oh⟩:=qai w k;obtain⟨u1,u2⟩:=qju;have p0:=qas 16384;unfold bothI;rw[h,k,if_pos (show(true&&true)=true from rfl)];split
 ·exact qrm
 ·split
  ·exact qrm
  ·split
   ·exact qrm
   ·rename_i y hy;have q:=qzg ((qmv ol.w).hull (qmv oh.w)) hy;split
    ·exact q
    ·exact q.put _ _
theorem qdl {x:Iv}{c:Bool}{p:Int}(w:x.W):(bothI x c p).W:=by
 by_cases h:(precB p&&x.known)=true
 ·simp only[Bool.and_eq_true]at h;have q:=q5i (c:=c) w h.1 h.2;exact⟨q.ol.w,q.oh.w⟩
 ·unfold bothI;rw[if_neg h];exact Iv.whole_W
theorem q0y {x:Iv}{p:Int}(w:x.W):(atanI x p).W:=by
 unfold atanI;split
 ·exact(qm1 w.lo).hull (qm1 w.hi)
 ·exact Iv.whole_W
end Go.Abs.W
