/- Parts of the proof: FpWf. -/
import Derived.Test.YtnkijamajifgpaaGreatDoorWd
import Derived.Test.YtnkijamajifgpaaGreatDoorWc
namespace Go.Abs.W
theorem qaij {d:Dy} {b t:Nat} (ok:d.Ok) (h0:d.val=0):Fine (Iv.pt d) b t:=by
 have p:=qa3 (16384+t)
 refine ⟨qr4 ok,?_,?_,?_,?_⟩
 · show _∣d.val; rw [h0]; exact Int.dvd_zero _
 · show _∣d.val; rw [h0]; exact Int.dvd_zero _
 · show _≤d.val; omega
 · show d.val≤_; omega
theorem q73 {d:Dy} {n:Nat} (ok:d.Ok) (hp:precB (n:Int)=true):Fine (qbd d n) (n+64) 3∧(qbd d n).hi.val-(qbd d n).lo.val≤pw (16388-n):=by
 have p0:=qa3 (16388-n)
 unfold qbd
 split
 · rename_i hm
   have z:d.val=0:=by have:=qhj d; have:=Dy.absN_nil hm; omega
   exact ⟨qaij ok z,by show d.val-d.val≤_; omega⟩
 · rename_i hm
   have hpp:=precB_iff.1 hp
   have al:=q31 (b:=n+64) ok hm (by omega)
   have big:2^30≤2^(n+64):=Nat.pow_le_pow_right (by omega) (by omega)
   have e30:(2:Nat)^30=1073741824:=rfl
   have e24:(2:Nat)^24=16777216:=rfl
   exact qaam hp rfl (by simp only []; omega)
theorem qacm {d:Dy} {n:Nat} (ok:d.Ok) (hp:precB (n:Int)=true):Fine (atanI (Iv.pt d) n) (n+64) 3∧(atanI (Iv.pt d) n).hi.val-(atanI (Iv.pt d) n).lo.val≤pw (16388-n):=by
 obtain ⟨f,wd⟩:=q73 (n:=n) ok hp
 have wa:(qbd d n).W:=qfo ok.w
 have e:atanI (Iv.pt d) n=(qbd d n).hull (qbd d n):=by
   unfold atanI
   rw [hp,qr4 ok,if_pos (show (true&&true)=true from rfl)]
   rfl
 obtain ⟨k,v1,v2⟩:=qwt wa wa f.k f.k
 have l:=f.lo
 have h:=f.hi
 rw [e]
 have v1':((qbd d n).hull (qbd d n)).lo.val=(qbd d n).lo.val:=by omega
 have v2':((qbd d n).hull (qbd d n)).hi.val=(qbd d n).hi.val:=by omega
 exact ⟨⟨k,by rw [v1']; exact f.dl,by rw [v2']; exact f.dh,by omega,by omega⟩,by omega⟩
set_option maxHeartbeats 1000000 in
theorem q71 (d:Dy) (p:Int) (l:Li d.m) (hp:IntKind.u8.min≤p∧p≤IntKind.u8.max):CQ prog qm0 [d.v,.int .u8 p] (.bool true):=by
 refine qah rfl fun H=>?_
 have ca:=q70
 have cm:=q10 d 20 l
 cases hc:com10 d 20
 · rw [hc] at cm
   simp
   refine qaa rfl rfl rfl ca ?_
   simp
   refine qaa rfl rfl rfl cm ?_
   simp
   refine qaa rfl rfl rfl ca ?_
   simp
 · rw [hc] at cm
   obtain ⟨ok,_,_⟩:=q3w l hc
   have ct:=qov d ok
   by_cases h150:d.top < -150
   · simp
     refine qaa rfl rfl rfl ca ?_
     simp
     refine qaa rfl rfl rfl cm ?_
     simp
     refine qaa rfl rfl rfl ct ?_
     simp [h150]
     refine qaa rfl rfl rfl ca ?_
     simp
   have cp:=qaae p hp
   obtain ⟨n1,n2,hn⟩:=qaej (p:=p)
   generalize hN:qs1 p=N at *
   obtain ⟨n,rfl⟩:∃ n:Nat,N=(n:Int):=⟨N.toNat,by omega⟩
   have w:(Iv.pt d).W:=pt_W ok.w
   have wA:(atanI (Iv.pt d) n).W:=qamo w
   obtain ⟨ga,ha⟩:=qafv (p:=(n:Int)) w (pt_In d)
   obtain ⟨fn,wd⟩:=qacm (n:=n) ok hn
   have c1:=qpy d ok.w
   rw [if_pos ok.valid] at c1
   have c2:=qadd (Iv.pt d) n w
   have c3:=qaec d 150 ok (by omega)
   have c4:=q7g (atanI (Iv.pt d) n) (rAtan d 150) wA q96 (q6s ga)
   rw [qaaw wA q96 ga qaed ha (q97 ok (by omega))] at c4
   have c5:=q9u 2 (by omega) (by omega)
   have c6:=q2k (nD 2)
   rw [show qfn (nD 2)=twoI from rfl] at c6
   have c7:=q37 (atanI (Iv.pt d) n) twoI wA two_W
   rw [qafu w hn (qr4 ok)] at c7
   have wd2:(atanI (Iv.pt d) n).hi.val-(atanI (Iv.pt d) n).lo.val≤pw (8-(n:Int)+16384).toNat:=Int.le_trans wd (pw_le (by omega))
   have c8:=q27 (atanI (Iv.pt d) n) (8-n) wA fn.k (fn.sum wA (by omega) (by omega)) (by omega) (by omega) wd2
   have ew:IntKind.i64.wrap (8-(n:Int))=8-(n:Int):=by rw [wrap_i64]<;>omega
   clear wd wd2 fn ga ha
   generalize atanI (Iv.pt d) n=A at *
   generalize rAtan d 150=R at *
   generalize Iv.pt d=P at *
   generalize twoI=two at *
   generalize nD 2=two2 at *
   by_cases h6:6<d.top
   · simp
     refine qaa rfl rfl rfl ca ?_
     simp
     refine qaa rfl rfl rfl cm ?_
     simp
     refine qaa rfl rfl rfl ct ?_
     simp [h150]
     refine qaa rfl rfl rfl cp ?_
     simp
     refine qaa rfl rfl rfl c1 ?_
     simp
     refine qaa rfl rfl rfl c2 ?_
     simp
     refine qaa rfl rfl rfl c3 ?_
     simp
     refine qaa rfl rfl rfl c4 ?_
     simp
     refine qaa rfl rfl rfl c5 ?_
     simp
     refine qaa rfl rfl rfl c6 ?_
     simp
     refine qaa rfl rfl rfl c7 ?_
     simp
     refine qaa rfl rfl rfl ct ?_
     simp [h6]
   · simp
     refine qaa rfl rfl rfl ca ?_
     simp
     refine qaa rfl rfl rfl cm ?_
     simp
     refine qaa rfl rfl rfl ct ?_
     simp [h150]
     refine qaa rfl rfl rfl cp ?_
     simp
     refine qaa rfl rfl rfl c1 ?_
     simp
     refine qaa rfl rfl rfl c2 ?_
     simp
     refine qaa rfl rfl rfl c3 ?_
     simp
     refine qaa rfl rfl rfl c4 ?_
     simp
     refine qaa rfl rfl rfl c5 ?_
     simp
     refine qaa rfl rfl rfl c6 ?_
     simp
     refine qaa rfl rfl rfl c7 ?_
     simp
     refine qaa rfl rfl rfl ct ?_
     simp [h6,ew]
     refine qaa rfl rfl rfl c8 ?_
     simp
end Go.Abs.W
