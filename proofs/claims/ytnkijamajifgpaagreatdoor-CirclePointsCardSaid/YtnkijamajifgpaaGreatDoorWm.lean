/- Parts of the proof: FpWm. -/
import Derived.Test.YtnkijamajifgpaaGreatDoorWc
import Derived.Test.YtnkijamajifgpaaGreatDoorWg
namespace Go.Abs.W
theorem qalu {d:Dy} (ok:d.Ok):¬ ((Iv.pt d).wid 64).2≠0∧¬ 0≤((Iv.pt d).wid 64).1.cmp (nD 7):=by
 have e:(Iv.pt d).wid 64=rAdd d d.neg' 64 true:=by unfold Iv.wid; rw [qpg ok,if_pos (by decide)]; rfl
 have up:=qot (p:=64) ok (qd5 ok) (by decide)
 have p0:=qa3 100
 have z:d.val+d.neg'.val=0:=by rw [qf8]; omega
 rw [z] at up
 obtain ⟨u1,u2⟩:=up.err (m:=100) (by decide) (by omega) (by omega) (by omega)
 rw [show ((64:Int).toNat)=64 from rfl] at u2
 have o:(rAdd d d.neg' 64 true).1.Ok:=rAdd_ok
 rw [e]
 refine ⟨fun h=>h u1,?_⟩
 rw [qjm o nD7]
 have v7:(nD 7).val=7*pw 16384:=qpj
 have l:pw (100-64)≤pw 16384:=pw_le (by omega)
 have q:=qa3 16384
 generalize (rAdd d d.neg' 64 true).1.val=V at *
 rw [v7]
 unfold cmpI
 rw [if_pos (by omega)]
 omega
theorem qaej {d:Dy} {b t:Nat} (ok:d.Ok) (h0:d.val=0):Fine (Iv.pt d) b t:=by
 have p:=qa3 (16384+t)
 refine ⟨qpg ok,?_,?_,?_,?_⟩
 · show _∣d.val; rw [h0]; exact Int.dvd_zero _
 · show _∣d.val; rw [h0]; exact Int.dvd_zero _
 · show _≤d.val; omega
 · show d.val≤_; omega
theorem q7s {d:Dy} {c:Bool} {n:Nat} (ok:d.Ok) (hp:precB (n:Int)=true) (ht:d.top≤128):Fine (qbe d c n) (n+64) 3∧(qbe d c n).hi.val-(qbe d c n).lo.val≤pw (16388-n):=by
 have hpp:=precB_iff.1 hp
 have p0:=qa3 (16388-n)
 unfold qbe
 split
 · rename_i hm
   have z:d.val=0:=by have:=qky d; have:=Dy.absN_nil hm; omega
   cases c
   · simp only [Bool.false_eq_true,if_false]
     exact ⟨qaej ok z,by show d.val-d.val≤_; omega⟩
   · simp only [if_true]
     have v:(nD 1).val=pw 16384:=unit_vals.2
     have q:=qa3 (16384+3)
     have dv:pw (16384-(n+64))∣(nD 1).val:=by
       rw [v]
       exact ⟨pw (n+64),by rw [← qb1]; exact congrArg pw (by omega)⟩
     have le:(nD 1).val≤pw (16384+3):=by rw [v]; exact pw_le (by omega)
     have g:-pw (16384+3)≤(nD 1).val:=by rw [v]; have:=qa3 16384; omega
     exact ⟨⟨qbh nD1 nD1 (Int.le_refl _),dv,dv,g,le⟩,by show (nD 1).val-(nD 1).val≤_; omega⟩
 · obtain ⟨n1,_⟩:=qags (c:=c) ok (b:=n+64) (by omega) (by omega) ht
   have big:2^30≤2^(n+64):=Nat.pow_le_pow_right (by omega) (by omega)
   exact qaar hp rfl (by omega)
theorem q2l {d:Dy} {c:Bool} {n:Nat} (ok:d.Ok) (hp:precB (n:Int)=true) (ht:d.top≤100):Fine (bothI (Iv.pt d) c n) (n+64) 3∧(bothI (Iv.pt d) c n).hi.val-(bothI (Iv.pt d) c n).lo.val≤pw (16388-n):=by
 have hpp:=precB_iff.1 hp
 obtain ⟨f,wd⟩:=q7s (c:=c) ok hp (show d.top≤128 by omega)
 have wA:(qbe d c n).W:=qlg ok.w
 have hA:=(qtp (c:=c) ok hp (show d.top≤128 by omega)).2
 rw [show ((n:Int).toNat)=n from rfl] at hA
 obtain ⟨wz1,wz2⟩:=qalu ok
 obtain ⟨k,v1,v2⟩:=qxk wA wA f.k f.k
 have hh:((qbe d c n).hull (qbe d c n)).Has (Fn c (cK d.rat)):=by
   obtain ⟨s1,s2⟩:=qrf f.k hA
   refine qya (wA.hull wA) fun _=>⟨?_,?_⟩
   · exact (SLe.of_le 0 fun _ _=>rat_le.2 (by omega)).trans s1
   · exact s2.trans (SLe.of_le 0 fun _ _=>rat_le.2 (by omega))
 have mb:=qty (wA.hull wA) qwy (.inr k) (.inr qql) hh (q4t (c:=c) (q6m d.rat))
 have e0:(Iv.pt d).lo.cmp (Iv.pt d).hi=0:=(qsz ok ok).2 rfl
 have eB:bothI (Iv.pt d) c n=(((qbe d c n).hull (qbe d c n)).meet unitI).getD unitI:=by
   unfold bothI
   rw [hp,qpg ok,if_pos (show (true&&true)=true from rfl),if_neg (show ¬ (100<(Iv.pt d).lo.top∨100<(Iv.pt d).hi.top) from by show ¬ (100<d.top∨100<d.top); omega),if_neg (by rintro (h | h); exact wz1 h; exact wz2 h)]
   show (match ((qbe d c n).hull (qbe d c n)).meet unitI with
     | none=>unitI
     | some y=>_)=_
   cases ((qbe d c n).hull (qbe d c n)).meet unitI with
   | none=>rfl
   | some y=>exact if_pos e0
 unfold meetB at mb
 obtain ⟨y,hy⟩:=Option.isSome_iff_exists.1 mb
 rw [eB,hy]
 show Fine y (n+64) 3∧y.hi.val-y.lo.val≤pw (16388-n)
 obtain ⟨y1,y2⟩:=qok (wA.hull wA) k hy
 have u:=qtw (wA.hull wA) hy
 rw [v1] at y1
 rw [v2] at y2
 have dv:pw (16384-(n+64))∣pw 16384:=⟨pw (n+64),by rw [← qb1]; exact congrArg pw (by omega)⟩
 have l:=f.lo; have h:=f.hi
 have d1:=f.dl; have d2:=f.dh
 have ol:=u.le
 have a1:=u.lo
 have a2:=u.hi
 have ky:y.known=true:=by
   obtain ⟨yl,yh,ya⟩:=y
   have ha:ya=false:=u.al
   subst ha
   exact qbh u.ol u.oh u.le
 have l3:pw 16384≤pw (16384+3):=pw_le (by omega)
 have goal:pw (16384-(n+64))∣y.lo.val∧pw (16384-(n+64))∣y.hi.val∧-pw (16384+3)≤y.lo.val∧y.hi.val≤pw (16384+3)∧y.hi.val-y.lo.val≤pw (16388-n):=by
   generalize pw (16384+3)=B at *
   generalize pw (16388-n)=W at *
   generalize pw (16384-(n+64))=D at *
   generalize pw 16384=P at *
   generalize (qbe d c n).lo.val=L at *
   generalize (qbe d c n).hi.val=R at *
   have e1:min L L=L:=Int.min_self L
   have e2:max R R=R:=Int.max_self R
   rw [e1] at y1
   rw [e2] at y2
   refine ⟨?_,?_,by omega,by omega,by omega⟩
   · rw [y1]
     rcases (by omega:max L (-P)=L∨max L (-P)=-P) with e | e<;>rw [e]
     · exact d1
     · exact Int.dvd_neg.2 dv
   · rw [y2]
     rcases (by omega:min R P=R∨min R P=P) with e | e<;>rw [e]
     · exact d2
     · exact dv
 obtain ⟨g1,g2,g3,g4,g5⟩:=goal
 exact ⟨⟨ky,g1,g2,g3,g4⟩,g5⟩
set_option maxHeartbeats 2000000 in
theorem q3g (d:Dy) (p:Int) (l:Li d.m) (hp:IntKind.u8.min≤p∧p≤IntKind.u8.max):CQ prog qmz [d.v,.int .u8 p] (.bool true):=by
 refine qah rfl fun H=>?_
 have ca:=q8b
 have cm:=q2h d 20 l
 cases hc:com10 d 20
 · rw [hc] at cm
   simp
   refine qaa rfl rfl rfl ca ?_
   simp
   refine qaa rfl rfl rfl cm ?_
   simp
   refine qaa rfl rfl rfl ca ?_
   simp
 · rw [hc] at cm
   obtain ⟨ok,_,t20⟩:=q4c l hc
   have ct:=qrd d ok
   have cp:=qaag p hp
   obtain ⟨n1,n2,hn⟩:=qael (p:=p)
   generalize hN:qto p=N at *
   obtain ⟨n,rfl⟩:∃ n:Nat,N=(n:Int):=⟨N.toNat,by omega⟩
   have w:(Iv.pt d).W:=pt_W ok.w
   have kp:=qpg ok
   have wS:(bothI (Iv.pt d) false n).W:=qaci w
   have wC:(bothI (Iv.pt d) true n).W:=qaci w
   have gS:(bothI (Iv.pt d) false n).Gd:=qacj w
   have gC:(bothI (Iv.pt d) true n).Gd:=qacj w
   have hS:=q6n (c:=false) (p:=(n:Int)) w (qagp d)
   have hC:=q6n (c:=true) (p:=(n:Int)) w (qagp d)
   obtain ⟨rS,rC⟩:=qaij ok t20
   have c1:=qqi d ok.w
   rw [if_pos ok.valid] at c1
   have c2:=qac9 (Iv.pt d) n w
   have c3:=qahk (Iv.pt d) n w
   have c4:=q7p d ok t20
   have m1:=qxh (bothI (Iv.pt d) false n) (rScS d) wS qagm (q0f gS)
   rw [qty wS qagm gS qaik hS rS] at m1
   have m2:=qxh (bothI (Iv.pt d) true n) (rScC d) wC qagn (q0f gC)
   rw [qty wC qagn gC qail hC rC] at m2
   have cu:=q8q
   have i1:=qvw (bothI (Iv.pt d) false n) unitI wS qwy
   rw [(qs0 w hn kp).ins] at i1
   have i2:=qvw (bothI (Iv.pt d) true n) unitI wC qwy
   rw [(qs0 w hn kp).ins] at i2
   obtain ⟨f1,w1⟩:=q2l (c:=false) ok hn (by omega)
   obtain ⟨f2,w2⟩:=q2l (c:=true) ok hn (by omega)
   have e8:pw (16388-n)≤pw (8-(n:Int)+16384).toNat:=pw_le (by omega)
   have q1:=qtt (bothI (Iv.pt d) false n) (8-n) wS f1.k (f1.sum wS (by omega) (by omega)) (by omega) (by omega) (Int.le_trans w1 e8)
   have q2:=qtt (bothI (Iv.pt d) true n) (8-n) wC f2.k (f2.sum wC (by omega) (by omega)) (by omega) (by omega) (Int.le_trans w2 e8)
   have ew:IntKind.i64.wrap (8-(n:Int))=8-(n:Int):=by rw [wrap_i64]<;>omega
   clear w1 w2 f1 f2 e8 rS rC hS hC gS gC
   generalize bothI (Iv.pt d) false n=S at *
   generalize bothI (Iv.pt d) true n=C at *
   generalize rScS d=A at *
   generalize rScC d=B at *
   generalize Iv.pt d=P at *
   generalize unitI=U at *
   by_cases h6:6<d.top
   · simp
     refine qaa rfl rfl rfl ca ?_
     simp
     refine qaa rfl rfl rfl cm ?_
     simp
     refine qaa rfl rfl rfl cp ?_
     simp
     refine qaa rfl rfl rfl c1 ?_
     simp
     refine qaa rfl rfl rfl c2 ?_
     simp
     refine qaa rfl rfl rfl c3 ?_
     simp
     refine qaa rfl rfl rfl c4 ?_
     simp
     refine qaa rfl rfl rfl m1 ?_
     simp
     refine qaa rfl rfl rfl m2 ?_
     simp
     refine qaa rfl rfl rfl cu ?_
     simp
     refine qaa rfl rfl rfl i1 ?_
     simp
     refine qaa rfl rfl rfl cu ?_
     simp
     refine qaa rfl rfl rfl i2 ?_
     simp
     refine qaa rfl rfl rfl ct ?_
     simp [h6]
   · simp
     refine qaa rfl rfl rfl ca ?_
     simp
     refine qaa rfl rfl rfl cm ?_
     simp
     refine qaa rfl rfl rfl cp ?_
     simp
     refine qaa rfl rfl rfl c1 ?_
     simp
     refine qaa rfl rfl rfl c2 ?_
     simp
     refine qaa rfl rfl rfl c3 ?_
     simp
     refine qaa rfl rfl rfl c4 ?_
     simp
     refine qaa rfl rfl rfl m1 ?_
     simp
     refine qaa rfl rfl rfl m2 ?_
     simp
     refine qaa rfl rfl rfl cu ?_
     simp
     refine qaa rfl rfl rfl i1 ?_
     simp
     refine qaa rfl rfl rfl cu ?_
     simp
     refine qaa rfl rfl rfl i2 ?_
     simp
     refine qaa rfl rfl rfl ct ?_
     simp [h6,ew]
     refine qaa rfl rfl rfl q1 ?_
     simp [ew]
     refine qaa rfl rfl rfl q2 ?_
     simp
end Go.Abs.W
