/- Parts of the proof: FpKn, FpXe, FpKe, FpKf, FpXf. -/
import Derived.Test.YtnkijamajifgpaaGreatDoorXb
import Derived.Test.YtnkijamajifgpaaGreatDoorHz
import Derived.Test.YtnkijamajifgpaaGreatDoorFe
namespace Go.Abs.W
structure Iv.Bt (x:Iv) (A B:Int):Prop where
 k:x.known=true
 lo:A≤x.lo.val
 hi:x.hi.val≤B
theorem Iv.Bt.mono {x:Iv} {A B C D:Int} (h:x.Bt A B) (h1:C≤A) (h2:B≤D):x.Bt C D:=⟨h.k,Int.le_trans h1 h.lo,Int.le_trans h.hi h2⟩
theorem qpp {p:Nat} {g:Int} (h:GridI p g):GridI p (-g):=by unfold GridI at *; rwa [Int.natAbs_neg]
theorem qpq {p a b:Nat} {k:Int} (hk:k.natAbs≤2^p) (hb:k.natAbs<2^b) (hab:a+b≤capE):GridI p (k*pw a):=by
 unfold GridI
 rw [qaav]
 refine ⟨⟨k.natAbs,a,rfl,hk⟩,?_⟩
 unfold capN
 have h1:k.natAbs*2^a<2^b*2^a:=Nat.mul_lt_mul_of_pos_right hb (Nat.two_pow_pos a)
 rw [← Nat.pow_add] at h1
 exact Nat.lt_of_lt_of_le h1 (Nat.pow_le_pow_right (by omega) (by omega))
theorem qjs {p a:Nat} (ha:a≤32767):GridI p (pw a):=by
 have:=qpq (p:=p) (a:=a) (b:=1) (k:=1) (Nat.one_le_two_pow) (by decide) (by unfold capE; omega)
 rwa [Int.one_mul] at this
theorem pw_le {a b:Nat} (h:a≤b):pw a≤pw b:=by
 unfold pw
 exact Int.ofNat_le.2 (Nat.pow_le_pow_right (by omega) h)
theorem qdb (a:Nat):pw (a+1)=2*pw a:=by rw [qb1,Int.mul_comm]; rfl
section
variable {p : Nat} {r s : Dy × Int} {le ge : Int → Prop} {A B v : Int}
theorem IsDn.atl (h:IsDn p r le) (g:GridI p A) (hA:le A):r.2=0∧A≤r.1.val:=by
 rcases h with ⟨a,_,c⟩ | ⟨_,c⟩
 · exact ⟨a,(c A g).2 hA⟩
 · exact absurd hA (c A g)
theorem IsUp.atu (h:IsUp p r ge) (g:GridI p A) (hA:ge A):r.2=0∧r.1.val≤A:=by
 rcases h with ⟨a,_,c⟩ | ⟨_,c⟩
 · exact ⟨a,(c A g).2 hA⟩
 · exact absurd hA (c A g)
theorem IsDn.grid (h:IsDn p r le) (h0:r.2=0):GridI p r.1.val:=by
 rcases h with ⟨_,b,_⟩ | ⟨a,_⟩
 · exact b
 · exact absurd h0 a
theorem IsUp.grid (h:IsUp p r ge) (h0:r.2=0):GridI p r.1.val:=by
 rcases h with ⟨_,b,_⟩ | ⟨a,_⟩
 · exact b
 · exact absurd h0 a
theorem qai6 (or:r.1.Ok) (os:s.1.Ok) (d:IsDn p r le) (u:IsUp p s ge) (lg:∀ g g2,le g→ge g2→g≤g2) (gA:GridI p A) (gB:GridI p B) (hA:le A) (hB:ge B) :
   (Iv.made r s).Bt A B∧GridI p (Iv.made r s).lo.val∧GridI p (Iv.made r s).hi.val:=by
 obtain ⟨d1,d2⟩:=d.atl gA hA
 obtain ⟨u1,u2⟩:=u.atu gB hB
 have e:Iv.made r s=⟨r.1,s.1,false⟩:=by unfold Iv.made; rw [if_pos ⟨d1,u1⟩]
 rw [e]
 exact ⟨⟨qbh or os (d.le_up u lg d1 u1),d2,u2⟩,d.grid d1,u.grid u1⟩
theorem IsDn.ok2 (h:IsDn p r le) (h0:r.2=0):GridI p r.1.val∧∀ g,GridI p g→(g≤r.1.val↔le g):=by
 rcases h with ⟨_,b⟩ | ⟨a,_⟩
 · exact b
 · exact absurd h0 a
theorem IsUp.ok2 (h:IsUp p r ge) (h0:r.2=0):GridI p r.1.val∧∀ g,GridI p g→(r.1.val≤g↔ge g):=by
 rcases h with ⟨_,b⟩ | ⟨a,_⟩
 · exact b
 · exact absurd h0 a
theorem IsDn.err {m:Nat} (h:IsDn p r (fun g=>g≤v)) (hp:p≤m) (hm:m≤32767) (h1:-pw m≤v) (h2:v≤pw m):r.2=0∧v-pw (m-p)≤r.1.val:=by
 have hpos:=qa3 (m-p)
 obtain ⟨q,hq⟩:∃ q,q=v/pw (m-p):=⟨_,rfl⟩
 have e1:q*pw (m-p)≤v:=by rw [hq]; exact Int.ediv_mul_le v (by omega)
 have e2:v<(q+1)*pw (m-p):=by rw [hq]; exact Int.lt_ediv_add_one_mul_self v hpos
 have em:pw m=pw p*pw (m-p):=by rw [← qb1]; congr 1; omega
 have q1:-pw p≤q:=by
   rw [em] at h1
   have:(-pw p)*pw (m-p)<(q+1)*pw (m-p):=by rw [Int.neg_mul]; omega
   have:=Int.lt_of_mul_lt_mul_right this (Int.le_of_lt hpos)
   omega
 have q2:q≤pw p:=by
   rw [em] at h2
   exact (qbd hpos).1 (by omega)
 have hqn:q.natAbs≤2^p:=by
   have:pw p=((2^p:Nat):Int):=rfl
   omega
 have g:GridI p (q*pw (m-p)):=qpq (b:=p+1) hqn (by rw [Nat.pow_succ]; have:=Nat.two_pow_pos p; omega) (by unfold capE; omega)
 obtain ⟨a,b⟩:=h.atl g e1
 rw [Int.add_mul,Int.one_mul] at e2
 exact ⟨a,by omega⟩
theorem IsUp.err {m:Nat} (h:IsUp p r (fun g=>v≤g)) (hp:p≤m) (hm:m≤32767) (h1:-pw m≤v) (h2:v≤pw m):r.2=0∧r.1.val≤v+pw (m-p):=by
 have hpos:=qa3 (m-p)
 obtain ⟨q,hq⟩:∃ q,q=(-v)/pw (m-p):=⟨_,rfl⟩
 have e1:q*pw (m-p)≤-v:=by rw [hq]; exact Int.ediv_mul_le _ (by omega)
 have e2:-v<(q+1)*pw (m-p):=by rw [hq]; exact Int.lt_ediv_add_one_mul_self _ hpos
 have em:pw m=pw p*pw (m-p):=by rw [← qb1]; congr 1; omega
 have q1:-pw p≤q:=by
   rw [em] at h2
   have:(-pw p)*pw (m-p)<(q+1)*pw (m-p):=by rw [Int.neg_mul]; omega
   have:=Int.lt_of_mul_lt_mul_right this (Int.le_of_lt hpos)
   omega
 have q2:q≤pw p:=by
   rw [em] at h1
   exact (qbd hpos).1 (by omega)
 have hqn:q.natAbs≤2^p:=by
   have:pw p=((2^p:Nat):Int):=rfl
   omega
 have g:GridI p (-(q*pw (m-p))):=qpp (qpq (b:=p+1) hqn (by rw [Nat.pow_succ]; have:=Nat.two_pow_pos p; omega) (by unfold capE; omega))
 obtain ⟨a,b⟩:=h.atu g (by omega)
 rw [Int.add_mul,Int.one_mul] at e2
 exact ⟨a,by omega⟩
theorem qt5 {g:Int} (h:GridI p g) (c:Nat):pw c∣g∨(0<c∧g.natAbs≤2^(p+(c-1))):=by
 obtain ⟨⟨q,k,e,hq⟩,_⟩:=h
 by_cases hk:c≤k
 · left
   have:2^c∣g.natAbs:=⟨q*2^(k-c),by rw [e,Nat.mul_left_comm,← Nat.pow_add]; congr 2; omega⟩
   exact Int.natAbs_dvd_natAbs.1 this
 · right
   refine ⟨by omega,?_⟩
   rw [e,Nat.pow_add]
   exact Nat.mul_le_mul hq (Nat.pow_le_pow_right (by omega) (by omega))
theorem IsDn.dvd {c:Nat} (h:IsDn p r (fun g=>g≤v)) (h0:r.2=0) (hp:1≤p) (hc:c+p≤32766) (hd:pw c∣v):pw c∣r.1.val:=by
 have gr:=h.grid h0
 rcases qt5 gr c with h2 | ⟨h2,h3⟩
 · exact h2
 obtain ⟨_,e⟩:=h.ok2 h0
 have hpos:=qa3 c
 have hle:=(e _ gr).1 (Int.le_refl _)
 generalize r.1.val=R at *
 obtain ⟨m,rfl⟩:=hd
 obtain ⟨t,ht⟩:∃ t,t=(-R)/pw c:=⟨_,rfl⟩
 have e1:t*pw c≤-R:=by rw [ht]; exact Int.ediv_mul_le _ (by omega)
 have e2:-R<(t+1)*pw c:=by rw [ht]; exact Int.lt_ediv_add_one_mul_self _ hpos
 have e3:-m≤t:=by
   have:(-m)*pw c<(t+1)*pw c:=by rw [Int.neg_mul,Int.mul_comm m]; omega
   have:=Int.lt_of_mul_lt_mul_right this (Int.le_of_lt hpos)
   omega
 have e4:pw (p+(c-1))*2=pw p*pw c:=by
   rw [← qb1,Int.mul_comm,← qdb]; congr 1; omega
 have e5:pw c≤pw (p+(c-1)):=pw_le (by omega)
 have hR:(R.natAbs:Int)≤pw (p+(c-1)):=by unfold pw; exact Int.ofNat_le.2 h3
 have t1:t≤pw p:=(qbd hpos).1 (by omega)
 have t2:-pw p≤t:=by
   have:(-pw p)*pw c<(t+1)*pw c:=by rw [Int.neg_mul]; omega
   have:=Int.lt_of_mul_lt_mul_right this (Int.le_of_lt hpos)
   omega
 have htn:t.natAbs≤2^p:=by
   have:pw p=((2^p:Nat):Int):=rfl
   omega
 have g:=qpp (qpq (p:=p) (a:=c) (b:=p+1) htn (by rw [Nat.pow_succ]; have:=Nat.two_pow_pos p; omega) (by unfold capE; omega))
 have hm:-(t*pw c)≤pw c*m:=by
   rw [← Int.neg_mul,Int.mul_comm (pw c)]
   exact (qbd hpos).2 (by omega)
 have:=(e _ g).2 hm
 exact ⟨-t,by rw [Int.mul_neg,Int.mul_comm]; omega⟩
theorem IsUp.dvd {c:Nat} (h:IsUp p r (fun g=>v≤g)) (h0:r.2=0) (hp:1≤p) (hc:c+p≤32766) (hd:pw c∣v):pw c∣r.1.val:=by
 have gr:=h.grid h0
 rcases qt5 gr c with h2 | ⟨h2,h3⟩
 · exact h2
 obtain ⟨_,e⟩:=h.ok2 h0
 have hpos:=qa3 c
 have hle:=(e _ gr).1 (Int.le_refl _)
 generalize r.1.val=R at *
 obtain ⟨m,rfl⟩:=hd
 obtain ⟨t,ht⟩:∃ t,t=R/pw c:=⟨_,rfl⟩
 have e1:t*pw c≤R:=by rw [ht]; exact Int.ediv_mul_le _ (by omega)
 have e2:R<(t+1)*pw c:=by rw [ht]; exact Int.lt_ediv_add_one_mul_self _ hpos
 have e3:m≤t:=by
   have:m*pw c<(t+1)*pw c:=by rw [Int.mul_comm m]; omega
   have:=Int.lt_of_mul_lt_mul_right this (Int.le_of_lt hpos)
   omega
 have e4:pw (p+(c-1))*2=pw p*pw c:=by
   rw [← qb1,Int.mul_comm,← qdb]; congr 1; omega
 have e5:pw c≤pw (p+(c-1)):=pw_le (by omega)
 have hR:(R.natAbs:Int)≤pw (p+(c-1)):=by unfold pw; exact Int.ofNat_le.2 h3
 have t1:t≤pw p:=(qbd hpos).1 (by omega)
 have t2:-pw p≤t:=by
   have:(-pw p)*pw c<(t+1)*pw c:=by rw [Int.neg_mul]; omega
   have:=Int.lt_of_mul_lt_mul_right this (Int.le_of_lt hpos)
   omega
 have htn:t.natAbs≤2^p:=by
   have:pw p=((2^p:Nat):Int):=rfl
   omega
 have g:=qpq (p:=p) (a:=c) (b:=p+1) htn (by rw [Nat.pow_succ]; have:=Nat.two_pow_pos p; omega) (by unfold capE; omega)
 have hm:pw c*m≤t*pw c:=by
   rw [Int.mul_comm (pw c)]
   exact (qbd hpos).2 (by omega)
 have:=(e _ g).2 hm
 exact ⟨t,by rw [Int.mul_comm]; omega⟩
end
section
variable {p : Int} {x y : Iv} {A B C D E F : Int}
theorem qacy {m:Nat} (wx:x.W) (wy:y.W) (hp:precB p=true) (kx:x.known=true) (ky:y.known=true) (hm:p.toNat≤m) (hm2:m≤32767) (h1:-pw m≤x.lo.val+y.lo.val) (h2:x.hi.val+y.hi.val≤pw m) :
   (x.add y p).Bt (x.lo.val+y.lo.val-pw (m-p.toNat)) (x.hi.val+y.hi.val+pw (m-p.toNat)):=by
 obtain ⟨a1,a2⟩:=qaj wx kx
 obtain ⟨b1,b2⟩:=qaj wy ky
 have q1:=qat wx kx
 have q2:=qat wy ky
 have d:=qqn a1 b1 hp
 have u:=qot a2 b2 hp
 obtain ⟨d1,d2⟩:=d.err hm hm2 h1 (by omega)
 obtain ⟨u1,u2⟩:=u.err hm hm2 (by omega) h2
 unfold Iv.add
 rw [kx,ky,hp,if_pos (by rfl)]
 have e:Iv.made (rAdd x.lo y.lo p false) (rAdd x.hi y.hi p true)=⟨(rAdd x.lo y.lo p false).1,(rAdd x.hi y.hi p true).1,false⟩:=by unfold Iv.made; rw [if_pos ⟨d1,u1⟩]
 rw [e]
 exact ⟨qbh rAdd_ok rAdd_ok (d.le_up u (fun g g2 h h2=>by omega) d1 u1),d2,u2⟩
theorem qalq (wx:x.W) (hp:precB p=true) (hx:x.Bt A B) (gA:GridI p.toNat A) (gB:GridI p.toNat B):(x.rnd p).Bt A B∧GridI p.toNat (x.rnd p).lo.val∧GridI p.toNat (x.rnd p).hi.val:=by
 obtain ⟨a1,a2⟩:=qaj wx hx.k
 have q1:=qat wx hx.k
 have:=hx.lo; have:=hx.hi
 unfold Iv.rnd
 rw [hx.k,hp,if_pos (by rfl)]
 exact qai6 rRound_ok rRound_ok (qtl a1 hp) (qtk a2 hp) (fun g g2 h h2=>by omega) gA gB (by omega) (by omega)
theorem qabj {P:Nat} {f g:Dy→Dy→Dy × Int} {le ge:Dy→Dy→Int→Prop} (okf:∀ a b,(f a b).1.Ok) (okg:∀ a b,(g a b).1.Ok)
   (d1:∀ i,i<4→IsDn P (f (qaf x y i).1 (qaf x y i).2) (le (qaf x y i).1 (qaf x y i).2)) (u1:∀ i,i<4→IsUp P (g (qaf x y i).1 (qaf x y i).2) (ge (qaf x y i).1 (qaf x y i).2))
   (lg:∀ h h2,le (qaf x y 0).1 (qaf x y 0).2 h→ge (qaf x y 0).1 (qaf x y 0).2 h2→h≤h2) (gA:GridI P A) (gB:GridI P B)
   (cd:∀ i,i<4→le (qaf x y i).1 (qaf x y i).2 A) (cu:∀ i,i<4→ge (qaf x y i).1 (qaf x y i).2 B):(Iv.four f g x y).Bt A B:=by
 have hs:good4 f g x y 4:=fun i hi=>⟨((d1 i hi).atl gA (cd i hi)).1,((u1 i hi).atu gB (cu i hi)).1⟩
 obtain ⟨v1,k1⟩:=qk2 (d1 0 (by omega)) (u1 0 (by omega)) lg okf okg
 have l1:=qys okf (x:=x) (y:=y) (fun i hi=>((d1 i hi).atl gA (cd i hi)).2)
 have l2:=q0a okg (x:=x) (y:=y) (fun i hi=>((u1 i hi).atu gB (cu i hi)).2)
 rw [qdm hs]
 exact ⟨qbh (qcc okf 4) (qcd okg 4) (k1 hs),l1,l2⟩
theorem qaay {a b u v:Int} (h1:-a≤u) (h2:u≤a) (h3:-b≤v) (h4:v≤b):-(a*b)≤u*v∧u*v≤a*b:=by
 have ha:0≤a:=by omega
 have hb:0≤b:=by omega
 have e:(u*v).natAbs≤(a*b).natAbs:=by
   rw [Int.natAbs_mul,Int.natAbs_mul]
   exact Nat.mul_le_mul (by omega) (by omega)
 have:=Int.mul_nonneg ha hb
 omega
theorem q1b {a b c:Int} (wx:x.W) (wy:y.W) (hp:precB p=true) (hx:x.Bt (-a) a) (hy:y.Bt (-b) b) (g:GridI p.toNat c) (hc:a*b≤c*pw 16384):(x.mul y p).Bt (-c) c:=by
 have ox:=qaj wx hx.k
 have oy:=qaj wy hy.k
 have q1:=qat wx hx.k
 have q2:=qat wy hy.k
 have h1:=hx.lo; have h2:=hx.hi; have h3:=hy.lo; have h4:=hy.hi
 have bd:∀ i,i<4→-(a*b)≤(qaf x y i).1.val*(qaf x y i).2.val∧(qaf x y i).1.val*(qaf x y i).2.val≤a*b:=by
   intro i hi
   obtain ⟨g1,g2,g3,g4⟩:=qch hi q1 q2
   exact qaay (by omega) (by omega) (by omega) (by omega)
 unfold Iv.mul
 rw [hx.k,hy.k,hp,if_pos (by rfl)]
 refine qabj (P:=p.toNat) (le:=fun u v g=>g*pw 16384≤u.val*v.val) (ge:=fun u v g=>u.val*v.val≤g*pw 16384) (fun _ _=>rMul_ok) (fun _ _=>rMul_ok) ?_ ?_
   (fun h h2 g1 g2=>(qbd (qa3 16384)).1 (by omega)) (qpp g) g ?_ ?_
 · intro i hi; have o:=qa6 hi ox oy; exact qm2 o.1 o.2 hp
 · intro i hi; have o:=qa6 hi ox oy; exact qm1 o.1 o.2 hp
 · intro i hi; have:=bd i hi; rw [Int.neg_mul]; omega
 · intro i hi; have:=bd i hi; omega
theorem qaby {a c m u v:Int} (hu1:-a≤u) (hu2:u≤a) (hm:0<m) (hv:m≤v) (hc:0≤c) (h:a*pw 16384≤c*m):divLe u v (-c)∧divGe u v c:=by
 have hpos:=qa3 16384
 have h1:c*m≤c*v:=Int.mul_le_mul_of_nonneg_left hv hc
 have h2:u*pw 16384≤a*pw 16384:=(qbd hpos).2 hu2
 have h3:(-a)*pw 16384≤u*pw 16384:=(qbd hpos).2 hu1
 rw [Int.neg_mul] at h3
 rw [qe8 (by omega),qgi (by omega),Int.neg_mul]
 constructor<;>omega
theorem q6h {a c m M:Int} (wx:x.W) (wy:y.W) (hp:precB p=true) (hx:x.Bt (-a) a) (hy:y.Bt m M) (hm:0<m) (g:GridI p.toNat c) (h0:0≤c) (hc:a*pw 16384≤c*m):(x.div y p).Bt (-c) c:=by
 have ox:=qaj wx hx.k
 have oy:=qaj wy hy.k
 have q1:=qat wx hx.k
 have q2:=qat wy hy.k
 have h1:=hx.lo; have h2:=hx.hi; have h3:=hy.lo
 have sg:y.sgn≠0:=(qhv wy hy.k).2 (.inl (by omega))
 have pos:∀ i,i<4→m≤(qaf x y i).2.val:=by
   intro i hi
   obtain ⟨g1,g2,g3,g4⟩:=qch hi q1 q2
   omega
 have bd:∀ i,i<4→divLe (qaf x y i).1.val (qaf x y i).2.val (-c)∧divGe (qaf x y i).1.val (qaf x y i).2.val c:=by
   intro i hi
   obtain ⟨g1,g2,g3,g4⟩:=qch hi q1 q2
   exact qaby (a:=a) (m:=m) (by omega) (by omega) hm (pos i hi) h0 hc
 unfold Iv.div
 rw [hx.k,hy.k,hp,decide_eq_true sg,if_pos (by rfl)]
 have ne:∀ i,i<4→(qaf x y i).2.m≠[]:=fun i hi=>qoj (by have:=pos i hi; omega)
 refine qabj (P:=p.toNat) (le:=fun u v g=>divLe u.val v.val g) (ge:=fun u v g=>divGe u.val v.val g) (fun _ _=>qd4) (fun _ _=>qd4) ?_ ?_
   (q6g (by have:=pos 0 (by omega); omega)) (qpp g) g (fun i hi=>(bd i hi).1) (fun i hi=>(bd i hi).2)
 · intro i hi; have o:=qa6 hi ox oy; exact qos o.1 o.2 hp (ne i hi)
 · intro i hi; have o:=qa6 hi ox oy; exact qor o.1 o.2 hp (ne i hi)
theorem sq_up {a c:Int} (wx:x.W) (hp:precB p=true) (hx:x.Bt (-a) a) (g:GridI p.toNat c) (hc:a*a≤c*pw 16384):(x.sq p).Bt (-c) c:=by
 obtain ⟨k,o1,o2,n1,n2⟩:=qac0 wx hx.k
 obtain ⟨v1,v2⟩:=q0b wx hx.k
 have h1:=hx.lo; have h2:=hx.hi
 have le0:=qat wx hx.k
 rw [q9i wx]
 have ha:x.abs.Bt (-a) a:=⟨k,by omega,by omega⟩
 exact q1b (abs_W wx) (abs_W wx) hp ha ha g hc
theorem nI_Bt {k:Int} (hk:k.natAbs≤1048576):(nI k k).Bt (k*pw 16384) (k*pw 16384):=by
 refine ⟨qaer hk,?_,?_⟩
 · show _≤(nD k).val; rw [qpj]; exact Int.le_refl _
 · show (nD k).val≤_; rw [qpj]; exact Int.le_refl _
theorem nI_Wk {k:Int} (hk:k.natAbs≤1048576):(nI k k).W:=nI_W (by omega) (by omega)
theorem qaaq (wx:x.W) (hx:x.Bt A B):x.neg.Bt (-B) (-A):=by
 obtain ⟨a1,a2⟩:=qaj wx hx.k
 have q1:=qat wx hx.k
 have h1:=hx.lo; have h2:=hx.hi
 unfold Iv.neg
 rw [if_pos hx.k]
 refine ⟨qbh (qd5 a2) (qd5 a1) ?_,?_,?_⟩<;>simp only [qf8]<;>omega
theorem q3n (wx:x.W) (hk:x.known=true):x.mag.val=max (x.lo.val.natAbs:Int) x.hi.val.natAbs:=by
 have:=(q0b wx hk).1
 have e:x.abs.hi=x.mag:=by unfold Iv.abs; rw [if_pos hk]
 rwa [e] at this
end
end Go.Abs.W
namespace Go.Abs.W
def wk (P:Int):V:=.agg [.int .i64 P]
end Go.Abs.W
namespace Go.Abs.W
theorem qky (d:Dy):d.val.natAbs=d.absN:=by
 unfold Dy.val
 split
 · rw [Int.natAbs_neg]; rfl
 · rfl
theorem pw_lt_iff {a b:Nat}:pw a<pw b↔a<b:=by
 constructor
 · intro h
   rcases Nat.lt_or_ge a b with h1 | h1
   · exact h1
   · have:=pw_le h1; omega
 · intro h
   have:=pw_le (show a+1≤b from h)
   rw [qdb] at this
   have:=qa3 a
   omega
def Tb (n:Nat):Int:=if n=0 then pw 16384 else pw (16385-2*n)
theorem qakf:Tb 0=pw 16384:=rfl
theorem qac7 (n:Nat):Tb (n+1)=pw (16385-2*(n+1)):=by unfold Tb; rw [if_neg (by omega)]
structure ExpInv (P n:Nat) (t s:Iv):Prop where
 wt:t.W
 ws:s.W
 t:t.Bt (-(Tb n)) (Tb n)
 k:s.known=true
 lo:pw 16384+pw (16385-2*n)-3*((n:Int)*pw (16385-P))≤3*s.lo.val
 hi:3*s.hi.val≤5*pw 16384-pw (16385-2*n)+3*((n:Int)*pw (16385-P))
section
variable {P n : Nat} {y t s : Iv}
theorem precP (h1:32≤P) (h2:P≤512):precB (P:Int)=true:=precB_iff.2 (by omega)
theorem q4x:(P:Int).toNat=P:=rfl
theorem qafb (h1:32≤P) (h2:P≤512) (hn:n≤300) (wy:y.W) (hy:y.Bt (-pw 16383) (pw 16383)) (wt:t.W) (ht:t.Bt (-(Tb n)) (Tb n)) :
   ((t.mul y P).div (nI ((n+1:Nat):Int) ((n+1:Nat):Int)) P).Bt (-(Tb (n+1))) (Tb (n+1)):=by
 have hp:=precP h1 h2
 have hnI:=nI_Bt (k:=((n+1:Nat):Int)) (by omega)
 have wn:(nI ((n+1:Nat):Int) ((n+1:Nat):Int)).W:=nI_W (by omega) (by omega)
 have p0:=qa3 16384
 rw [qac7]
 by_cases h0:n=0
 · subst h0
   have m:=q1b (c:=pw 16383) wt wy hp ht hy (qjs (by omega)) (by rw [qakf,Int.mul_comm]; exact Int.le_refl _)
   exact q6h (m:=((0+1:Nat):Int)*pw 16384) mul_W wn hp m hnI (by omega) (qjs (by omega)) (Int.le_of_lt (qa3 _)) (by simp)
 · have e:Tb n=pw (16385-2*n):=by unfold Tb; rw [if_neg h0]
   have m:=q1b (c:=pw (16384-2*n)) wt wy hp ht hy (qjs (by omega)) (by
     rw [e,← qb1,← qb1]; exact pw_le (by omega))
   refine q6h (m:=((n+1:Nat):Int)*pw 16384) mul_W wn hp m hnI (Int.mul_pos (by omega) p0) (qjs (by omega)) (Int.le_of_lt (qa3 _)) ?_
   have e2:pw (16384-2*n)=2*pw (16385-2*(n+1)):=by rw [← qdb]; congr 1; omega
   rw [e2,← Int.mul_assoc]
   refine (qbd p0).2 ?_
   rw [Int.mul_comm]
   exact Int.mul_le_mul_of_nonneg_left (by omega) (Int.le_of_lt (qa3 _))
theorem ExpInv.step (h1:32≤P) (h2:P≤512) (hn:n≤300) (wy:y.W) (hy:y.Bt (-pw 16383) (pw 16383)) (h:ExpInv P n t s) :
   ExpInv P (n+1) ((t.mul y P).div (nI ((n+1:Nat):Int) ((n+1:Nat):Int)) P) (s.add ((t.mul y P).div (nI ((n+1:Nat):Int) ((n+1:Nat):Int)) P) P):=by
 have hp:=precP h1 h2
 have ht:=qafb h1 h2 hn wy hy h.wt h.t
 have wt':((t.mul y P).div (nI ((n+1:Nat):Int) ((n+1:Nat):Int)) P).W:=div_W
 generalize (t.mul y P).div (nI ((n+1:Nat):Int) ((n+1:Nat):Int)) P=t' at ht wt' ⊢
 have eX:pw (16385-2*n)=4*pw (16385-2*(n+1)):=by
   rw [show 16385-2*n=(16385-2*(n+1))+1+1 by omega,qdb,qdb]; omega
 have eE:pw 16384=pw (16385-P)*pw (P-1):=by rw [← qb1]; congr 1; omega
 have eP:pw 31≤pw (P-1):=pw_le (by omega)
 have e31:pw 31=2147483648:=rfl
 have pe:=qa3 (16385-P)
 have eA:2147483648*pw (16385-P)≤pw 16384:=by
   rw [eE,Int.mul_comm]
   exact Int.mul_le_mul_of_nonneg_left (by omega) (Int.le_of_lt pe)
 have px:=qa3 (16385-2*(n+1))
 have eN:(n:Int)*pw (16385-P)≤300*pw (16385-P):=Int.mul_le_mul_of_nonneg_right (by omega) (Int.le_of_lt pe)
 have eN0:0≤(n:Int)*pw (16385-P):=Int.mul_nonneg (by omega) (Int.le_of_lt pe)
 have eN1:((n+1:Nat):Int)*pw (16385-P)=(n:Int)*pw (16385-P)+pw (16385-P):=by
   rw [show ((n+1:Nat):Int)=(n:Int)+1 by omega,Int.add_mul,Int.one_mul]
 have e5:pw 16385=2*pw 16384:=qdb 16384
 have l1:=h.lo; have l2:=h.hi
 have t1:=ht.lo; have t2:=ht.hi
 have tl:=qat wt' ht.k
 have sl:=qat h.ws h.k
 rw [qac7] at t1 t2
 rw [eX] at l1 l2
 have b:=qacy (m:=16385) (p:=(P:Int)) h.ws wt' hp h.k ht.k (by rw [q4x]; omega) (by omega) (by omega) (by omega)
 rw [q4x] at b
 have b1:=b.lo; have b2:=b.hi
 refine ⟨wt',add_W,ht,b.k,?_,?_⟩
 · rw [eN1]; omega
 · rw [eN1]; omega
end
end Go.Abs.W
namespace Go.Abs.W
theorem qpg {d:Dy} (ok:d.Ok):(Iv.pt d).known=true:=qbh ok ok (Int.le_refl _)
end Go.Abs.W
namespace Go.Abs.W
end Go.Abs.W
