/- Parts of the proof: FpCn, FpCo. -/
import Derived.Test.YtnkijamajifgpaaGreatDoorCd
import Derived.Test.YtnkijamajifgpaaGreatDoorXc
namespace Go.Abs.W
def Fx.int (a:Fx):Int:=if a.neg then -(a.n:Int) else a.n
theorem qs7 (a:Fx):a.minus.int=-a.int:=by
 unfold Fx.int Fx.minus
 cases a.neg<;>simp
theorem quz (a b:Fx):(a.add b).int=a.int+b.int:=by
 obtain ⟨s,m⟩:=a
 obtain ⟨t,n⟩:=b
 unfold Fx.add
 by_cases h:s=t
 · subst h
   rw [if_pos rfl]
   unfold Fx.int
   cases s<;>simp<;>omega
 · rw [if_neg h]
   simp only []
   split<;>unfold Fx.int<;>cases s<;>cases t<;>first | exact absurd rfl h | (simp; omega)
theorem qaa5 (a:Fx):a.int.natAbs=a.n:=by unfold Fx.int; split<;>omega
theorem qag4 {a:Fx} {b:Nat} (hb:b≤16384):(Dy.of a.neg a.n (-(b:Int))).val=a.int*pw (16384-b):=by
 rw [qqu (by omega),show (-(b:Int)+16384).toNat=16384-b by omega]
 unfold Fx.int
 rw [← qbt]
 split
 · rw [Int.neg_mul]
 · rfl
theorem q5a {a:Fx} {b:Nat} (hb:b≤16384):(nearL a b).val=(a.int-2^24)*pw (16384-b)∧(nearH a b).val=(a.int+2^24)*pw (16384-b):=by
 have e1:nearL a b=Dy.of (a.add eps24.minus).neg (a.add eps24.minus).n (-(b:Int)):=rfl
 have e2:nearH a b=Dy.of (a.add eps24).neg (a.add eps24).n (-(b:Int)):=rfl
 have e3:eps24.int=2^24:=rfl
 rw [e1,e2,qag4 hb,qag4 hb,quz,quz,qs7,e3]
 exact ⟨rfl,rfl⟩
theorem q49 {a:Fx} {b:Nat} (ha:bitL a.n≤4000) (hb:b≤8000):(nearL a b).inR=true∧(nearH a b).inR=true:=by
 have b24:bitL eps24.n≤4000:=by
   have:bitL (2^24)=25:=by decide
   show bitL (2^24)≤_
   omega
 have h1:=qhx (a:=a) (b:=eps24.minus) (k:=4000) ha (show bitL eps24.n≤_ from b24)
 have h2:=qhx (a:=a) (b:=eps24) (k:=4000) ha b24
 exact ⟨Dy.of_inR (by omega) (by omega) (by omega),Dy.of_inR (by omega) (by omega) (by omega)⟩
theorem qais {a:Fx} {b:Nat} {p A B:Int} (hp:precB p=true) (ha:bitL a.n≤4000) (hb:b≤8000) (gA:GridI p.toNat A) (gB:GridI p.toNat B) (hA:A≤(a.int-2^24)*pw (16384-b)) (hB:(a.int+2^24)*pw (16384-b)≤B):(Iv.near a b p).Bt A B:=by
 obtain ⟨r1,r2⟩:=q49 ha hb
 obtain ⟨v1,v2⟩:=q5a (a:=a) (b:=b) (by omega)
 have o1:(nearL a b).Ok:=Dy.of_ok r1
 have o2:(nearH a b).Ok:=Dy.of_ok r2
 have k:(Iv.mk (nearL a b) (nearH a b) false).known=true:=by
   refine qbx o1 o2 ?_
   rw [v1,v2]
   exact Int.mul_le_mul_of_nonneg_right (by omega) (Int.le_of_lt (qa3 _))
 have e:Iv.near a b p=(Iv.mk (nearL a b) (nearH a b) false).rnd p:=by
   unfold Iv.near Iv.rnd
   rw [r1,r2,k,hp]
 rw [e]
 exact (qak8 ⟨o1.w,o2.w⟩ hp ⟨k,by rw [v1]; exact hA,by rw [v2]; exact hB⟩ gA gB).1
theorem q48 {a:Fx} {b:Nat} {p:Int} (hp:precB p=true) (hb:b≤3000) (h:a.n+2^24≤2*2^b):(Iv.near a b p).Bt (-pw 16385) (pw 16385):=by
 have eb:=qbw b
 have h1:=qb2 (a:=2) (b:=2^b)
 have h2:bitL 2=2:=by decide
 have h3:=qaq (show a.n≤2*2^b by omega)
 have ia:=qaa5 a
 have g:GridI p.toNat (pw 16385):=qdg (by omega)
 have e:pw 16385=(2*pw b)*pw (16384-b):=by rw [← qch,← qbi]; congr 1; omega
 have q:=qa3 (16384-b)
 have eP:pw b=((2^b:Nat):Int):=rfl
 have e24:((2^24:Nat):Int)=2^24:=rfl
 refine qais hp (by omega) (by omega) (qo6 g) g ?_ ?_
 · rw [e,← Int.neg_mul]
   exact Int.mul_le_mul_of_nonneg_right (by omega) (Int.le_of_lt q)
 · rw [e]
   exact Int.mul_le_mul_of_nonneg_right (by omega) (Int.le_of_lt q)
theorem qx2 {x:Fx} {b:Nat} (h:x.neg=false):∀ j,(halv x b j).neg=false
 | 0=>h
 | j+1=>qaa7 (qx2 h j)
theorem q6a {x:Fx} {b:Nat} (hn:x.neg=false) (hx:x.n≤2^b):189*(arcI x b).n≤190*2^b:=by
 obtain ⟨_,h8⟩:=qk8 hx 3
 have e8:(2:Nat)^3=8:=rfl
 rw [e8] at h8
 have h3:=qx2 (b:=b) hn 3
 have qn:(arcQ x b).neg=false:=q2l _ _
 have e:arcA x b=altG (fun a=>a.times (arcQ x b) b) ((halv x b 3).n+1) 1 (halv x b 3) (halv x b 3):=rfl
 obtain ⟨_,_,c⟩:=qpq (fun a=>a.times (arcQ x b) b) 64 (by omega) (fun a=>qs4 hx) (fun a h=>by show (a.neg != (arcQ x b).neg)=false; rw [h,qn]; rfl) ((halv x b 3).n+1) 1 (halv x b 3) (halv x b 3) (by omega) h3 h3 (Nat.le_refl _)
 rw [← e] at c
 show 189*((arcA x b).n*2^3)≤_
 omega
theorem qxp (d:Dy) (b:Nat):(recI d b).neg=false:=by unfold recI; split<;>rfl
theorem qaai (d:Dy) (b:Int):(Fx.of d b).neg=d.neg:=by unfold Fx.of; split<;>rfl
theorem q31 {d:Dy} {b:Nat} (ok:d.Ok) (h0:d.m≠[]) (hb:10≤b):10*(angV d b).n≤17*2^b:=by
 have hl1:=q33 ok h0
 have eabs:=q6i ok h0
 have pn:0<natV d.m:=by have:=ok.odd h0; omega
 have am:d.abs.m=d.m:=by rw [eabs]
 have ae:d.abs.e=d.e:=by rw [eabs]
 have an:d.abs.neg=false:=by rw [eabs]
 unfold angV
 split
 · rename_i hc
   have l1:=hl1.1 hc
   have ofl:=qaaj (d:=d.abs) (b:=b) (by rw [am,ae]; exact l1)
   have:=q6a (by rw [qaai]; exact an) ofl
   omega
 · rename_i hc
   have l1:¬ (d.e≤0∧natV d.m≤2^(-d.e).toNat):=fun h=>hc (hl1.2 h)
   have rl:=q9x (d:=d.abs) (b:=b) (by rw [am]; exact pn) (by rw [am,ae]; exact l1)
   have an:=q6a (qxp d.abs b) rl
   obtain ⟨_,_,pu⟩:=qog hb
   have rn:(arcI (recI d.abs b) b).neg=false:=rfl
   generalize arcI (recI d.abs b) b=R at *
   have p1:(2:Nat)^1=2:=rfl
   rw [p1]
   generalize (piI b).n=P at *
   unfold Fx.add Fx.minus
   rw [rn]
   simp only [Bool.not_false,Bool.false_eq_true,if_false]
   split
   · simp only []; omega
   · simp only []; omega
end Go.Abs.W
namespace Go.Abs.W
theorem q6w:unitI.known=true:=by decide +kernel
theorem qmq:(nD (-1)).val=-pw 16384∧(nD 1).val=pw 16384:=by
 refine ⟨?_,?_⟩
 · rw [qo2]; omega
 · rw [qo2]; omega
structure InU (y:Iv):Prop where
 ol:y.lo.Ok
 oh:y.hi.Ok
 al:y.all=false
 lo:-pw 16384≤y.lo.val
 le:y.lo.val≤y.hi.val
 hi:y.hi.val≤pw 16384
theorem InU.ins {y:Iv} (h:InU y):y.ins unitI=true:=by
 obtain ⟨l,r,a⟩:=y
 have ha:a=false:=h.al
 subst ha
 obtain ⟨u1,u2⟩:=qmq
 refine q5l ⟨h.ol.w,h.oh.w⟩ qagg (qbx h.ol h.oh h.le) q6w ?_ ?_
 · show (nD (-1)).val≤_; rw [u1]; exact h.lo
 · show _≤(nD 1).val; rw [u2]; exact h.hi
theorem qsd:InU unitI:=by
 obtain ⟨u1,u2⟩:=qmq
 have p:=qa3 16384
 exact ⟨nDm1,nD1,rfl,by show _≤(nD (-1)).val; omega,by show (nD (-1)).val≤(nD 1).val; omega,by show (nD 1).val≤_; omega⟩
theorem qaav {C y:Iv} (w:C.W) (h:C.meet unitI=some y):InU y:=by
 obtain ⟨u1,u2⟩:=qmq
 unfold Iv.meet at h
 split at h
 · rename_i hv
   simp only [Bool.and_eq_true] at hv
   split at h
   · injection h with h; subst h; exact qsd
   · rename_i ha
     rw [if_neg (show ¬ unitI.all=true by decide)] at h
     split at h
     · cases h
     · rename_i hc
       injection h with h
       subst h
       obtain ⟨ol,oh⟩:=qak w (show C.known=true by simp [Iv.known,hv.1,ha])
       have a1:(C.lo.hi2 unitI.lo).Ok:=qn4 ol nDm1
       have a2:(C.hi.lo2 unitI.hi).Ok:=qqw oh nD1
       rw [qjd a1 a2] at hc
       have hle:(C.lo.hi2 unitI.lo).val≤(C.hi.lo2 unitI.hi).val:=cmpI_le.1 (by omega)
       refine ⟨a1,a2,rfl,?_,hle,?_⟩
       · show _≤(C.lo.hi2 unitI.lo).val
         rw [qdx ol (show unitI.lo.Ok from nDm1)]
         show _≤max C.lo.val (nD (-1)).val
         omega
       · show (C.hi.lo2 unitI.hi).val≤_
         rw [qe3 oh (show unitI.hi.Ok from nD1)]
         show min C.hi.val (nD 1).val≤_
         omega
 · cases h
theorem InU.put {y:Iv} (q:InU y) (s t:Bool):InU ⟨if s=true then nD (-1) else y.lo,if t=true then nD 1 else y.hi,y.all⟩:=by
 obtain ⟨u1,u2⟩:=qmq
 have p0:=qa3 16384
 obtain ⟨a,b,c,d,e,f⟩:=q
 cases s<;>cases t<;>simp only [if_true,Bool.false_eq_true,if_false]
 · exact ⟨a,b,c,d,e,f⟩
 · exact ⟨a,nD1,c,d,by simp only []; omega,by simp only []; omega⟩
 · exact ⟨nDm1,b,c,by simp only []; omega,by simp only []; omega,f⟩
 · exact ⟨nDm1,nD1,c,by simp only []; omega,by simp only []; omega,by simp only []; omega⟩
theorem qafq {x:Iv} {c:Bool} {p:Int} (w:x.W) (h:precB p=true) (k:x.known=true):InU (bothI x c p):=by
 obtain ⟨ol,oh⟩:=qak w k
 obtain ⟨u1,u2⟩:=qmq
 have p0:=qa3 16384
 unfold bothI
 rw [h,k,if_pos (show (true&&true)=true from rfl)]
 split
 · exact qsd
 · split
   · exact qsd
   · split
     · exact qsd
     · rename_i y hy
       have q:=qaav ((qr5 ol.w).hull (qr5 oh.w)) hy
       split
       · exact q
       · exact q.put _ _
theorem qamn {x:Iv} {c:Bool} {p:Int} (w:x.W):(bothI x c p).W:=by
 by_cases h:(precB p&&x.known)=true
 · simp only [Bool.and_eq_true] at h
   have q:=qafq (c:=c) w h.1 h.2
   exact ⟨q.ol.w,q.oh.w⟩
 · unfold bothI; rw [if_neg h]; exact Iv.whole_W
theorem qamo {x:Iv} {p:Int} (w:x.W):(atanI x p).W:=by
 unfold atanI
 split
 · exact (qfo w.lo).hull (qfo w.hi)
 · exact Iv.whole_W
def twoI:Iv:=qfn (nD 2)
theorem qadk:twoI.lo.val=-pw 16385∧twoI.hi.val=pw 16385:=by
 have e:twoI.lo=nD (-2):=by decide
 have e2:twoI.hi=nD 2:=rfl
 rw [e,e2,qo2,qo2]
 have:pw 16385=2*pw 16384:=qch 16384
 omega
theorem two_W:twoI.W:=by
 have e:twoI.lo=nD (-2):=by decide
 exact ⟨by rw [e]; exact (nD_ok (by omega)).w,nD2.w⟩
theorem q8l:twoI.known=true:=by decide +kernel
theorem q6d {d:Dy} {p:Int} (ok:d.Ok) (hp:precB p=true):(qbd d p.toNat).Bt (-pw 16385) (pw 16385):=by
 obtain ⟨p1,p2⟩:=qs0 hp
 unfold qbd
 split
 · rename_i h0
   have hv:d.val=0:=by unfold Dy.val Dy.absN; rw [h0]; simp [natV]
   have q:=qa3 16385
   refine ⟨qbx ok ok (Int.le_refl _),?_,?_⟩
   · show _≤d.val; omega
   · show d.val≤_; omega
 · rename_i h0
   have h1:=q31 (b:=p.toNat+64) ok h0 (by omega)
   have e2:2^30≤2^(p.toNat+64):=Nat.pow_le_pow_right (by omega) (by omega)
   have e30:(2:Nat)^30=1073741824:=rfl
   have e24:(2:Nat)^24=16777216:=rfl
   have:=q48 (a:=⟨(angV d (p.toNat+64)).neg != d.neg,(angV d (p.toNat+64)).n⟩) (b:=p.toNat+64) hp (by omega) (by simp only []; omega)
   rw [show (p.toNat:Int)=p by omega]
   exact this
theorem qai9 {x y:Iv} {A B:Int} (wx:x.W) (wy:y.W) (hx:x.Bt A B) (hy:y.Bt A B):(x.hull y).Bt A B:=by
 obtain ⟨a1,a2⟩:=qak wx hx.k
 obtain ⟨b1,b2⟩:=qak wy hy.k
 have l1:=qaw wx hx.k
 have e:x.hull y=⟨x.lo.lo2 y.lo,x.hi.hi2 y.hi,false⟩:=by unfold Iv.hull; rw [hx.k,hy.k]; rfl
 have:=hx.lo; have:=hx.hi; have:=hy.lo; have:=hy.hi
 refine ⟨?_,?_,?_⟩
 · rw [e]
   refine qbx (qqw a1 b1) (qn4 a2 b2) ?_
   rw [qe3 a1 b1,qdx a2 b2]; omega
 · rw [e]
   show _≤(x.lo.lo2 y.lo).val
   rw [qe3 a1 b1]; omega
 · rw [e]
   show (x.hi.hi2 y.hi).val≤_
   rw [qdx a2 b2]; omega
theorem qafu {x:Iv} {p:Int} (w:x.W) (hp:precB p=true) (k:x.known=true):(atanI x p).ins twoI=true:=by
 obtain ⟨ol,oh⟩:=qak w k
 have e:atanI x p=(qbd x.lo p.toNat).hull (qbd x.hi p.toNat):=by unfold atanI; rw [hp,k]; rfl
 rw [e]
 have b:=qai9 (qfo ol.w) (qfo oh.w) (q6d ol hp) (q6d oh hp)
 obtain ⟨t1,t2⟩:=qadk
 exact q5l ((qfo ol.w).hull (qfo oh.w)) two_W b.k q8l (by rw [t1]; exact b.lo) (by rw [t2]; exact b.hi)
theorem q70:CQ prog qt9 [] (.bool true):=by
 refine qah rfl fun H=>?_
 have c1:=qqv 1 (by omega) (by omega)
 have c2:=q7o 30 (by decide)
 have c3:=qqv 2 (by omega) (by omega)
 have c4:=qahg aw10 30 qag9
 have c5:=qakc (bothI aw10 false 30) (nD 1) (qamn qag9) nD1.w
 rw [qack] at c5
 have c6:=Pi_cq 30
 obtain ⟨a1,a2⟩:=qaft
 have wpi:(piO 30).W:=by unfold piO; split<;>first | exact qaan | exact Iv.whole_W
 have c7:=qagb (piO 30) wpi
 rw [a2] at c7
 have ew:aw10.v=.agg [.bool false,.sl [],.int .i64 0,.bool (nD 2).neg,lim (nD 2).m,.int .i64 (nD 2).e,.bool false]:=rfl
 rw [ew] at c4
 generalize bothI aw10 false 30=S at *
 generalize piO 30=P at *
 generalize nD 1=one at *
 generalize nD 2=two at *
 simp
 refine qaa rfl rfl rfl c1 ?_
 simp
 refine qaa rfl rfl rfl c2 ?_
 simp
 refine qaa rfl rfl rfl c3 ?_
 simp
 refine qaa rfl rfl rfl c4 ?_
 simp
 refine qaa rfl rfl rfl c5 ?_
 simp
 refine qaa rfl rfl rfl c6 ?_
 simp [a1]
 refine qaa rfl rfl rfl c6 ?_
 simp
 refine qaa rfl rfl rfl c7 ?_
 simp
end Go.Abs.W
