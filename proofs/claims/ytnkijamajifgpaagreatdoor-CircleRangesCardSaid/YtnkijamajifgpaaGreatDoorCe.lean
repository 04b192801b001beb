/- Parts of the proof: FpCn, FpCo. -/
import Derived.Test.YtnkijamajifgpaaGreatDoorCd
import Derived.Test.YtnkijamajifgpaaGreatDoorXc
namespace Go.Abs.W
def Fx.int (a:Fx):Int:=if a.neg then -(a.n:Int)else a.n
theorem qd5 (a:Fx):a.minus.int=-a.int:=by
 unfold Fx.int Fx.minus;cases a.neg<;>simp
theorem qey (a b:Fx):(a.add b).int=a.int+b.int:=by
 obtain⟨s,m⟩:=a;obtain⟨t,n⟩:=b;unfold Fx.add;by_cases h:s=t
 ·subst h;rw[if_pos rfl];unfold Fx.int;cases s<;>simp<;>omega
 ·rw[if_neg h];simp only[];split<;>unfold Fx.int<;>cases s<;>cases t<;>first|exact absurd rfl h| (simp;omega)
theorem q6n (a:Fx):a.int.natAbs=a.n:=by unfold Fx.int;split<;>omega
theorem qalg {a:Fx}{b:Nat}(hb:b<=16384):(Dy.of a.neg a.n (-(b:Int))).val=a.int*pw (16384-b):=by
 rw[qs3 (by omega),show(-(b:Int)+16384).toNat=16384-b by omega];unfold Fx.int;rw[<-qca];split
 ·rw[Int.neg_mul]
 ·rfl
theorem q86 {a:Fx}{b:Nat}(hb:b<=16384):(nearL a b).val=(a.int-2^24)*pw (16384-b)/\(nearH a b).val=(a.int+2^24)*pw (16384-b):=by
 have e1:nearL a b=Dy.of (a.add eps24.minus).neg (a.add eps24.minus).n (-(b:Int)):=rfl;have e2:nearH a b=Dy.of (a.add eps24).neg (a.add eps24).n (-(b:Int)):=rfl;have e3:eps24.int=2^24:=rfl;rw[e1,e2,qalg hb,qalg hb,qey,qey,qd5,e3];exact⟨rfl,rfl⟩
theorem q84 {a:Fx}{b:Nat}(ha:bitL a.n<=4000)(hb:b<=8000):(nearL a b).inR=true/\(nearH a b).inR=true:=by
 have b24:bitL eps24.n<=4000:=by
  have:bitL (2^24)=25:=by decide
  show bitL (2^24)<=_;omega
 have h1:=qiz (a:=a) (b:=eps24.minus) (k:=4000) ha (show bitL eps24.n<=_ from b24);have h2:=qiz (a:=a) (b:=eps24) (k:=4000) ha b24;exact⟨Dy.of_inR (by omega) (by omega) (by omega),Dy.of_inR (by omega) (by omega) (by omega)⟩
theorem qanf {a:Fx}{b:Nat}{p A B:Int}(hp:precB p=true)(ha:bitL a.n<=4000)(hb:b<=8000)(gA:GridI p.toNat A)(gB:GridI p.toNat B)(hA:A<=(a.int-2^24)*pw (16384-b))(hB:(a.int+2^24)*pw (16384-b)<=B):(Iv.near a b p).Bt A B:=by
 obtain⟨r1,r2⟩:=q84 ha hb;obtain⟨v1,v2⟩:=q86 (a:=a) (b:=b) (by omega);have o1:(nearL a b).Ok:=Dy.of_ok r1;have o2:(nearH a b).Ok:=Dy.of_ok r2;have k:(Iv.mk (nearL a b) (nearH a b) false).known=true:=by
  refine qbj o1 o2 ?_;rw[v1,v2];exact Int.mul_le_mul_of_nonneg_right (by omega) (Int.le_of_lt (qaw _))
 have e:Iv.near a b p=(Iv.mk (nearL a b) (nearH a b) false).rnd p:=by
  unfold Iv.near Iv.rnd;rw[r1,r2,k,hp]
 rw[e];exact(qap3 ⟨o1.w,o2.w⟩ hp ⟨k,by rw[v1];exact hA,by rw[v2];exact hB⟩ gA gB).1
theorem q83 {a:Fx}{b:Nat}{p:Int}(hp:precB p=true)(hb:b<=3000)(h:a.n+2^24<=2*2^b):(Iv.near a b p).Bt (-pw 16385) (pw 16385):=by
 have eb:=qbu b;have h1:=qb4 (a:=2) (b:=2^b);have h2:bitL 2=2:=by decide
 have h3:=qat (show a.n<=2*2^b by omega);have ia:=q6n a;have g:GridI p.toNat (pw 16385):=qc1 (by omega);have e:pw 16385=(2*pw b)*pw (16384-b):=by rw[<-qcj,<-qbh];congr 1;omega
 have q:=qaw (16384-b);have eP:pw b=((2^b:Nat):Int):=rfl;have e24:((2^24:Nat):Int)=2^24:=rfl;refine qanf hp (by omega) (by omega) (qpi g) g ?_ ?_
 ·rw[e,<-Int.neg_mul];exact Int.mul_le_mul_of_nonneg_right (by omega) (Int.le_of_lt q)
 ·rw[e];exact Int.mul_le_mul_of_nonneg_right (by omega) (Int.le_of_lt q)
theorem q03 {x:Fx}{b:Nat}(h:x.neg=false):∀j,(halv x b j).neg=false
 |0=>h
 |j+1=>qae3 (q03 h j)
theorem qaab {x:Fx}{b:Nat}(hn:x.neg=false)(hx:x.n<=2^b):189*(arcI x b).n<=190*2^b:=by
 obtain⟨_,h8⟩:=qmp hx 3;have e8:(2:Nat)^3=8:=rfl;rw[e8]at h8;have h3:=q03 (b:=b) hn 3;have qn:(arcQ x b).neg=false:=q5t _ _;have e:arcA x b=altG (fun a=>a.times (arcQ x b) b) ((halv x b 3).n+1) 1 (halv x b 3) (halv x b 3):=rfl;obtain⟨_,_,c⟩:=qrr (fun a=>a.times (arcQ x b) b) 64 (by omega) (fun a=>qvg hx) (fun a h=>by show(a.neg != (arcQ x b).neg)=false;rw[h,qn];rfl) ((halv x b 3).n+1) 1 (halv x b 3) (halv x b 3) (by omega) h3 h3 (Nat.le_refl _);rw[<-e]at c;show 189*((arcA x b).n*2^3)<=_;omega
theorem q0l (d:Dy)(b:Nat):(recI d b).neg=false:=by unfold recI;split<;>rfl
theorem qaee (d:Dy)(b:Int):(Fx.of d b).neg=d.neg:=by unfold Fx.of;split<;>rfl
theorem qagt {d:Dy}{b:Nat}(ok:d.Ok)(h0:d.m≠[])(hb:10<=b):10*(angV d b).n<=17*2^b:=by
 have hl1:=q7h ok h0;have eabs:=qaah ok h0;have pn:0<natV d.m:=by have:=ok.odd h0;omega
 have am:d.abs.m=d.m:=by rw[eabs]
 have ae:d.abs.e=d.e:=by rw[eabs]
 have an:d.abs.neg=false:=by rw[eabs]
 unfold angV;split
 ·rename_i hc;have l1:=hl1.1 hc;have ofl:=qaef (d:=d.abs) (b:=b) (by rw[am,ae];exact l1);have:=qaab (by rw[qaee];exact an) ofl;omega
 ·rename_i hc;have l1:¬(d.e<=0/\natV d.m<=2^(-d.e).toNat):=fun h=>hc (hl1.2 h)
  have rl:=qads (d:=d.abs) (b:=b) (by rw[am];exact pn) (by rw[am,ae];exact l1);have an:=qaab (q0l d.abs b) rl;obtain⟨_,_,pu⟩:=qkq hb;have rn:(arcI (recI d.abs b) b).neg=false:=rfl;generalize arcI (recI d.abs b) b=R at *
  have p1:(2:Nat)^1=2:=rfl;rw[p1];generalize (piI b).n=P at *
  unfold Fx.add Fx.minus;rw[rn];simp only[Bool.not_false,Bool.false_eq_true,if_false];split
  ·simp only[];omega
  ·simp only[];omega
theorem qr3 : unitI.known=true:=by decide +kernel
theorem unit_vals : (nD (-1)).val=-pw 16384/\(nD 1).val=pw 16384:=by
 refine⟨?_,?_⟩
 ·rw[qq3];omega
 ·rw[qq3];omega
structure InU (y:Iv):Prop where
 ol:y.lo.Ok
 oh:y.hi.Ok
 al:y.all=false
 lo:-pw 16384<=y.lo.val
 le:y.lo.val<=y.hi.val
 hi:y.hi.val<=pw 16384
theorem InU.ins {y:Iv}(h:InU y):y.ins unitI=true:=by
 obtain⟨l,r,a⟩:=y;have ha:a=false:=h.al;subst ha;obtain⟨u1,u2⟩:=unit_vals;refine qae1 ⟨h.ol.w,h.oh.w⟩ q7u (qbj h.ol h.oh h.le) qr3 ?_ ?_
 ·show(nD (-1)).val<=_;rw[u1];exact h.lo
 ·show _<=(nD 1).val;rw[u2];exact h.hi
theorem qun : InU unitI:=by
 obtain⟨u1,u2⟩:=unit_vals;have p:=qaw 16384;exact⟨nDm1,nD1,rfl,by show _<=(nD (-1)).val;omega,by show(nD (-1)).val<=(nD 1).val;omega,by show(nD 1).val<=_;omega⟩
theorem q30 {C y:Iv}(w:C.W)(h:C.meet unitI=some y):InU y:=by
 obtain⟨u1,u2⟩:=unit_vals;unfold Iv.meet at h;split at h
 ·rename_i hv;simp only[Bool.and_eq_true]at hv;split at h
  ·injection h with h;subst h;exact qun
  ·rename_i ha;rw[if_neg (show ¬unitI.all=true by decide)]at h;split at h
   ·cases h
   ·rename_i hc;injection h with h
    subst h;obtain⟨ol,oh⟩:=qai w (show C.known=true by simp[Iv.known,hv.1,ha]);have a1:(C.lo.hi2 unitI.lo).Ok:=qs8 ol nDm1;have a2:(C.hi.lo2 unitI.hi).Ok:=qpz oh nD1;rw[qie a1 a2]at hc;have hle:(C.lo.hi2 unitI.lo).val<=(C.hi.lo2 unitI.hi).val:=cmpI_le.1 (by omega);refine⟨a1,a2,rfl,?_,hle,?_⟩
    ·show _<=(C.lo.hi2 unitI.lo).val;rw[qfi ol (show unitI.lo.Ok from nDm1)];show _<=max C.lo.val (nD (-1)).val;omega
    ·show(C.hi.lo2 unitI.hi).val<=_;rw[qdv oh (show unitI.hi.Ok from nD1)];show min C.hi.val (nD 1).val<=_;omega
 ·cases h
theorem InU.put {y:Iv}(q:InU y)(s t:Bool):InU ⟨if s=true then nD (-1)else y.lo,if t=true then nD 1 else y.hi,y.all⟩:=by
 obtain⟨u1,u2⟩:=unit_vals;have p0:=qaw 16384;obtain⟨a,b,c,d,e,f⟩:=q;cases s<;>cases t<;>simp only[if_true,Bool.false_eq_true,if_false]
 ·exact⟨a,b,c,d,e,f⟩
 ·exact⟨a,nD1,c,d,by simp only[];omega,by simp only[];omega⟩
 ·exact⟨nDm1,b,c,by simp only[];omega,by simp only[];omega,f⟩
 ·exact⟨nDm1,nD1,c,by simp only[];omega,by simp only[];omega,by simp only[];omega⟩
theorem q2g {x:Iv}{c:Bool}{p:Int}(w:x.W)(h:precB p=true)(k:x.known=true):InU (bothI x c p):=by
 obtain⟨ol,oh⟩:=qai w k;obtain⟨u1,u2⟩:=unit_vals;have p0:=qaw 16384;unfold bothI;rw[h,k,if_pos (show(true&&true)=true from rfl)];split
 ·exact qun
 ·split
  ·exact qun
  ·split
   ·exact qun
   ·rename_i y hy;have q:=q30 ((qke ol.w).hull (qke oh.w)) hy;split
    ·exact q
    ·exact q.put _ _
theorem qall {x:Iv}{c:Bool}{p:Int}(w:x.W):(bothI x c p).W:=by
 by_cases h:(precB p&&x.known)=true
 ·simp only[Bool.and_eq_true]at h;have q:=q2g (c:=c) w h.1 h.2;exact⟨q.ol.w,q.oh.w⟩
 ·unfold bothI;rw[if_neg h];exact Iv.whole_W
theorem qark {x:Iv}{p:Int}(w:x.W):(atanI x p).W:=by
 unfold atanI;split
 ·exact(qkn w.lo).hull (qkn w.hi)
 ·exact Iv.whole_W
theorem qab0 : CQ prog qwm [] (.bool true):=by
 refine qah rfl fun H=>?_
 have c1:=qs6 1 (by omega) (by omega);have c2:=qabo 30 (by decide);have c3:=qs6 2 (by omega) (by omega);have c4:=qag6 aw10 30 qalo;have c5:=qaoz (bothI aw10 false 30) (nD 1) (qall qalo) nD1.w;rw[qagm]at c5;have c6:=Pi_cq 30;obtain⟨a1,a2⟩:=qajz;have wpi:(piO 30).W:=by unfold piO;split<;>first|exact qaej|exact Iv.whole_W
 have c7:=qake (piO 30) wpi;rw[a2]at c7;have ew:aw10.v=.agg [.bool false,.sl [],.int .i64 0,.bool (nD 2).neg,lim (nD 2).m,.int .i64 (nD 2).e,.bool false]:=rfl;rw[ew]at c4;generalize bothI aw10 false 30=S at *
 generalize piO 30=P at *
 generalize nD 1=one at *
 generalize nD 2=two at *
 simp;refine zq c1 ?_;simp;refine zq c2 ?_;simp;refine zq c3 ?_;simp;refine zq c4 ?_;simp;refine zq c5 ?_;simp;refine zq c6 ?_;simp[a1];refine zq c6 ?_;simp;refine zq c7 ?_;simp
end Go.Abs.W
