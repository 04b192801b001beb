/- Parts of the proof: FpUa, FpUb, FpUc. -/
import Derived.Test.YtnkijamajifgpaaGreatDoorCe
import Derived.Test.YtnkijamajifgpaaGreatDoorTa
namespace Go.Abs.W
theorem qe2 {a d:Nat} (hd:0<d):0≤(a:Rat)/(d:Rat)-((a/d:Nat):Rat)∧(a:Rat)/(d:Rat)-((a/d:Nat):Rat)≤1:=by
 have h1:=Nat.div_mul_le_self a d
 have h2:a≤(a/d+1)*d:=Nat.le_of_lt (Nat.lt_mul_of_div_lt (Nat.lt_succ_self _) hd)
 have c1:=qav h1
 have c2:=qav h2
 rw [Rat.natCast_mul] at c1 c2
 rw [qas] at c2
 have dp:(0:Rat)<(d:Rat):=by have:=qav (show 1≤d from hd); have e:((1:Nat):Rat)=1:=rfl; grind
 have ip:=Rat.inv_pos.2 dp
 have pm:=qbj dp
 have k1:=Rat.mul_le_mul_of_nonneg_right c1 (Rat.le_of_lt ip)
 have k2:=Rat.mul_le_mul_of_nonneg_right c2 (Rat.le_of_lt ip)
 rw [Rat.div_def]
 have e1:((a/d:Nat):Rat)*(d:Rat)*(d:Rat)⁻¹=((a/d:Nat):Rat):=by rw [Rat.mul_assoc,pm,Rat.mul_one]
 have e2:(((a/d:Nat):Rat)+1)*(d:Rat)*(d:Rat)⁻¹=((a/d:Nat):Rat)+1:=by rw [Rat.mul_assoc,pm,Rat.mul_one]
 rw [e1] at k1
 rw [e2] at k2
 constructor<;>grind
theorem qjj {a:Fx} (h:a.neg=false):(a.int:Rat)=(a.n:Rat):=by
 unfold Fx.int
 rw [h]
 exact Rat.intCast_natCast _
theorem q3c (a:Fx):(a.int:Rat)=(if a.neg then -1 else 1)*(a.n:Rat):=by
 unfold Fx.int
 cases a.neg
 · simp only [Bool.false_eq_true,if_false]; rw [Rat.intCast_natCast]; grind
 · simp only [if_true]; rw [Rat.intCast_neg,Rat.intCast_natCast]; grind
theorem qamm (a:Fx) {k:Nat} (hk:0<k):Bd (((a.by' k).int:Rat)-(a.int:Rat)/(k:Rat)) 1:=by
 obtain ⟨h1,h2⟩:=qe2 (a:=a.n) hk
 rw [q3c,q3c]
 have e1:(a.by' k).neg=a.neg:=rfl
 have e2:(a.by' k).n=a.n/k:=rfl
 rw [e1,e2]
 rw [Rat.div_def] at *
 cases a.neg
 · simp only [Bool.false_eq_true,if_false]; constructor<;>grind
 · simp only [if_true]; constructor<;>grind
theorem qaak (z:Rat) (j i:Nat):od z (j+i)=od z j*ev z i:=by
 induction i with
 | zero=>simp only [Nat.add_zero,ev]; grind
 | succ i ih=>rw [← Nat.add_assoc]; simp only [od,ev]; rw [ih]; grind
theorem qacn {z:Rat} (h0:0≤z) (h1:4*z≤1) (j i:Nat):Bd (at' z (j+i)-at' z j) (16/15*od z (j+1)):=by
 have key:∀ i,Bd (at' z (j+(i+1))-at' z j) (od z (j+1)*ps (ev z) i):=by
   have st:∀ i,Bd (lta z (j+1+i)) (od z (j+1)*ev z i):=fun i=>by
     have:=sg_Bd (lt_le h0 (j+1+i)) (j+1+i)
     rw [← od_ev,qaak] at this
     exact this
   intro i
   unfold at'
   induction i with
   | zero=>obtain ⟨a,b⟩:=st 0; simp only [ps,Nat.add_zero] at *; constructor<;>grind
   | succ i ih =>
     have s:=st (i+1)
     rw [show j+1+(i+1)=j+(i+1)+1 by omega] at s
     obtain ⟨a,b⟩:=ih.add s
     rw [show j+(i+1+1)=j+(i+1)+1 by omega]
     simp only [ps] at *
     constructor<;>grind
 have o:=od_nn h0 (j+1)
 cases i with
 | zero=>rw [Nat.add_zero]; constructor<;>grind
 | succ i =>
   obtain ⟨a,b⟩:=key i
   have m:=mul_nn o (show 0≤16/15-ps (ev z) i by have:=qm2 h0 h1 i; grind)
   constructor<;>grind
theorem qak5 (j:Nat):sg j=if j%2=1 then -1 else 1:=by
 induction j with
 | zero=>rfl
 | succ j ih =>
   simp only [sg]; rw [ih]
   by_cases h:j%2=1
   · rw [if_pos h,if_neg (by omega)]; grind
   · rw [if_neg h,if_pos (by omega)]
theorem qzn (next:Fx→Fx) {z B:Rat} (z0:0≤z) (z4:4*z≤1) (P0:Nat)
   (H:∀ (p:Fx) (j:Nat),p.n≤P0→p.neg=false→Bd ((p.n:Rat)-od z j*B) 2→(next p).neg=false∧Bd (((next p).n:Rat)-od z (j+1)*B) 2∧2*(next p).n≤p.n) (J:Nat) (B0:0≤B) :
   ∀ (f j:Nat) (p s:Fx),p.n≤P0→p.n<f→p.neg=false→j+bitL p.n≤J→Bd ((p.n:Rat)-od z j*B) 2→Bd ((s.int:Rat)-at' z j*B) (2*(j:Rat)+1) →
   ∃ N,∀ n,N≤n→Bd (((altG next f (j+1) p s).int:Rat)-at' z n*B) (2*(J:Rat)+4)
 | 0,j,p,s,_,hf,_,_,_,_=>absurd hf (by omega)
 | f+1,j,p,s,hP,hf,hn,hJ,hp,hs=>by
   obtain ⟨q1,q2,q3⟩:=H p j hP hn hp
   unfold altG
   by_cases hz:(next p).n=0
   · rw [if_pos hz]
     rw [hz,show ((0:Nat):Rat)=0 from rfl] at q2
     refine ⟨j,fun n hjn=>?_⟩
     obtain ⟨i,rfl⟩:=Nat.exists_eq_add_of_le hjn
     have r:=qacn z0 z4 j i
     have jJ:=qav (show j≤J by omega)
     obtain ⟨a,b⟩:=r
     obtain ⟨c,d⟩:=hs
     obtain ⟨e,g⟩:=q2
     have m1:=mul_nn (show 0≤16/15*od z (j+1)-(at' z (j+i)-at' z j) by grind) B0
     have m2:=mul_nn (show 0≤16/15*od z (j+1)+(at' z (j+i)-at' z j) by grind) B0
     constructor<;>grind
   · rw [if_neg hz]
     have hb:=qqo q3 hz
     obtain ⟨te1,te2⟩:=qamm (next p) (k:=2*(j+1)+1) (by omega)
     have tn:((next p).by' (2*(j+1)+1)).neg=false:=q1
     rw [qjj q1] at te1 te2
     have e2k:((2*(j+1)+1:Nat):Rat)=2*((j:Rat)+1)+1:=by rw [qxw,qas]
     have hlta:lta z (j+1)=sg (j+1)*(od z (j+1)/((2*(j+1)+1:Nat):Rat)):=rfl
     have cp:=qs5 (2*(j+1))
     have ci:=Rat.inv_pos.2 cp
     have c3:((2*(j+1)+1:Nat):Rat)⁻¹≤1/2:=by
       have:=qo5 (show (0:Rat)<2 by decide) (show (2:Rat)≤((2*(j+1)+1:Nat):Rat) by have:=natnn j; rw [e2k]; grind)
       have e:(2:Rat)⁻¹=1/2:=by grind
       grind
     rw [Rat.div_def] at te1 te2 hlta
     have ats:at' z (j+1)=at' z j+lta z (j+1):=rfl
     obtain ⟨u1,u2⟩:=q2
     have m1:=mul_nn (show 0≤2-(((next p).n:Rat)-od z (j+1)*B) by grind) (Rat.le_of_lt ci)
     have m2:=mul_nn (show 0≤2+(((next p).n:Rat)-od z (j+1)*B) by grind) (Rat.le_of_lt ci)
     obtain ⟨v1,v2⟩:=hs
     have sgn:=qak5 (j+1)
     have key:Bd (((s.add (if (j+1)%2=1 then ((next p).by' (2*(j+1)+1)).minus else (next p).by' (2*(j+1)+1))).int:Rat)-at' z (j+1)*B) (2*((j+1:Nat):Rat)+1):=by
       rw [qas,quz,Rat.intCast_add,ats,hlta,sgn]
       split
       · rw [qs7,Rat.intCast_neg]
         constructor<;>grind
       · constructor<;>grind
     exact qzn next z0 z4 P0 H J B0 f (j+1) (next p) _ (by omega) (by omega) q1 (by omega) ⟨u1,u2⟩ key
theorem qdd (b:Nat):((2^b:Nat):Rat)=p2 b:=rfl
theorem q5k {m b:Nat} (hm:4≤m) (_hm2:m≤1000):∃ N,∀ n,N≤n→Bd (((invI m b).int:Rat)-at' (1/(m:Rat)) n*p2 b) (2*(b:Rat)+8):=by
 have m4:=qav hm
 rw [show ((4:Nat):Rat)=4 from rfl] at m4
 have mp:(0:Rat)<(m:Rat):=by grind
 have im:=Rat.inv_pos.2 mp
 have mm:=qbj mp
 have ez:1/(m:Rat)=(m:Rat)⁻¹:=by rw [Rat.div_def,Rat.one_mul]
 have z4:4*(m:Rat)⁻¹≤1:=by
   have:=Rat.mul_le_mul_of_nonneg_right m4 (Rat.le_of_lt im)
   rwa [mm] at this
 have B0:=qe1 b
 rw [ez]
 obtain ⟨d1,d2⟩:=qe2 (a:=2^b) (d:=m) (by omega)
 rw [qdd,Rat.div_def] at d1 d2
 have bl:bitL (2^b/m)≤b+1:=by
   have:=qaq (Nat.div_le_self (2^b) m)
   rw [qbw] at this; exact this
 have key:=qzn (fun a=>a.by' (m*m)) (z:=(m:Rat)⁻¹) (B:=p2 b) (Rat.le_of_lt im) z4 (2^b/m) (fun p j hp hn hb=>by
   have mm0:0<m*m:=Nat.mul_pos (by omega) (by omega)
   refine ⟨hn,?_,?_⟩
   · obtain ⟨e1,e2⟩:=qe2 (a:=p.n) (d:=m*m) mm0
     show Bd (((p.n/(m*m):Nat):Rat)-_) 2
     rw [Rat.div_def,Rat.natCast_mul] at e1 e2
     have ei:((m:Rat)*(m:Rat))⁻¹=(m:Rat)⁻¹*(m:Rat)⁻¹:=by
       have h1:((m:Rat)*(m:Rat))*((m:Rat)⁻¹*(m:Rat)⁻¹)=1:=by
         have:((m:Rat)*(m:Rat))*((m:Rat)⁻¹*(m:Rat)⁻¹)=((m:Rat)*(m:Rat)⁻¹)*((m:Rat)*(m:Rat)⁻¹):=by grind
         rw [this,mm,Rat.one_mul]
       have h2:=qbj (Rat.mul_pos mp mp)
       have h3:((m:Rat)*(m:Rat))⁻¹*(((m:Rat)*(m:Rat))*((m:Rat)⁻¹*(m:Rat)⁻¹))=((m:Rat)*(m:Rat))*((m:Rat)*(m:Rat))⁻¹*((m:Rat)⁻¹*(m:Rat)⁻¹):=by grind
       rw [h1,h2,Rat.mul_one,Rat.one_mul] at h3
       exact h3
     rw [ei] at e1 e2
     simp only [od]
     obtain ⟨f1,f2⟩:=hb
     have zz:0≤(m:Rat)⁻¹*(m:Rat)⁻¹:=sq_nn _
     have zz1:(m:Rat)⁻¹*(m:Rat)⁻¹≤1/16:=by
       have:=qck (a:=(m:Rat)⁻¹) (b:=1/4) (c:=(m:Rat)⁻¹) (d:=1/4) (by grind) (by grind) (by grind) (Rat.le_of_lt im)
       grind
     have g1:=mul_nn (show 0≤2-((p.n:Rat)-od (m:Rat)⁻¹ j*p2 b) by grind) zz
     have g2:=mul_nn (show 0≤2+((p.n:Rat)-od (m:Rat)⁻¹ j*p2 b) by grind) zz
     constructor<;>grind
   · exact q3x (a:=p) (n:=m) (by omega)) (b+2) (Rat.le_of_lt B0) (2^b/m+1) 0 ⟨false,2^b/m⟩ ⟨false,2^b/m⟩ (Nat.le_refl _) (Nat.lt_succ_self _) rfl (by simp only []; omega) (by
   simp only [od]
   constructor<;>grind) (by
   rw [qjj rfl]
   have e0:at' (m:Rat)⁻¹ 0=(m:Rat)⁻¹:=by
     show sg 0*lt (m:Rat)⁻¹ 0=_
     unfold lt; simp only [od,sg]; rw [show ((2*0+1:Nat):Rat)=1 from rfl]; grind
   rw [e0,show ((0:Nat):Rat)=0 from rfl]
   simp only []
   constructor<;>grind)
 obtain ⟨N,hN⟩:=key
 refine ⟨N,fun n hn=>?_⟩
 obtain ⟨a,c⟩:=hN n hn
 have eJ:((b+2:Nat):Rat)=(b:Rat)+2:=by rw [qas,qas]; grind
 rw [eJ] at a c
 unfold invI altI
 constructor<;>grind
theorem qaim {b:Nat} (_hb:10≤b) (hb2:b≤3000):∃ N,∀ n,N≤n→Bd (((piI b).int:Rat)-2*hpi n*p2 b) 131072:=by
 obtain ⟨N,hN⟩:=q5k (m:=5) (b:=b) (by decide) (by decide)
 obtain ⟨M,hM⟩:=q5k (m:=239) (b:=b) (by decide) (by decide)
 have bb:=qav hb2
 rw [show ((3000:Nat):Rat)=3000 from rfl] at bb
 refine ⟨max N M,fun n hn=>?_⟩
 obtain ⟨a1,a2⟩:=hN n (by omega)
 obtain ⟨c1,c2⟩:=hM n (by omega)
 rw [qjj (qtc (by decide)).1] at a1 a2 c1 c2
 rw [show ((5:Nat):Rat)=5 from rfl] at a1 a2
 rw [show ((239:Nat):Rat)=239 from rfl] at c1 c2
 have e:((piI b).int:Rat)=16*((invI 5 b).n:Rat)-4*((invI 239 b).n:Rat):=by
   unfold piI
   rw [quz,Rat.intCast_add]
   have e1:(Fx.mk false ((invI 5 b).n*2^4)).int=16*((invI 5 b).n:Int):=by unfold Fx.int; simp; omega
   have e2:(Fx.mk true ((invI 239 b).n*2^2)).int=-(4*((invI 239 b).n:Int)):=by unfold Fx.int; simp; omega
   rw [e1,e2,Rat.intCast_neg,Rat.intCast_mul,Rat.intCast_mul,Rat.intCast_natCast,Rat.intCast_natCast,show ((16:Int):Rat)=16 from rfl,show ((4:Int):Rat)=4 from rfl]
   grind
 rw [e]
 unfold hpi e8
 constructor<;>grind
end Go.Abs.W
namespace Go.Abs.W
end Go.Abs.W
namespace Go.Abs.W
theorem pwq (a:Nat):((pw a:Int):Rat)=p2 a:=by unfold pw p2; rw [Rat.intCast_natCast]
theorem q0m (a b:Nat):p2 (a+b)=p2 a*p2 b:=by unfold p2; rw [Nat.pow_add,Rat.natCast_mul]
def sgr (neg:Bool):Rat:=if neg then -1 else 1
theorem q9k (n:Bool):sgr n=1∨sgr n=-1:=by unfold sgr; cases n<;>simp
theorem qn9 {a b c:Rat} (hc:c≠0) (h:a*c=b*c):a=b:=by
 have m:=Rat.mul_inv_cancel c hc
 have e:a*c*c⁻¹=b*c*c⁻¹:=by rw [h]
 rwa [Rat.mul_assoc,Rat.mul_assoc,m,Rat.mul_one,Rat.mul_one] at e
theorem qahl (d:Dy):(d.val:Rat)=sgr d.neg*(natV d.m:Rat)*p2 (d.e+16384).toNat:=by
 have e:d.val=(if d.neg=true then -(d.absN:Int) else (d.absN:Int)):=rfl
 have e2:d.absN=natV d.m*2^(d.e+16384).toNat:=rfl
 rw [e,e2]
 unfold sgr
 split
 · rw [Rat.intCast_neg,Rat.intCast_natCast,Rat.natCast_mul]
   show -((natV d.m:Rat)*p2 _)=_
   grind
 · rw [Rat.intCast_natCast,Rat.natCast_mul]
   show (natV d.m:Rat)*p2 _=_
   grind
theorem qwg {d:Dy} {a c:Nat} (he:0≤d.e+16384) (h:d.e+a=c):d.rat*p2 a=sgr d.neg*(natV d.m:Rat)*p2 c:=by
 have hs:=qdc
 have es:sc=p2 16384:=pwq 16384
 refine qn9 (c:=sc) (by grind) ?_
 have e1:d.rat*p2 a*sc=d.rat*sc*p2 a:=by grind
 rw [e1,qet,qahl,es]
 have e3:(d.e+16384).toNat+a=c+16384:=by omega
 have e2:p2 (d.e+16384).toNat*p2 a=p2 c*p2 16384:=(q0m _ _).symm.trans ((congrArg p2 e3).trans (q0m _ _))
 generalize p2 (d.e+16384).toNat=X at *
 generalize p2 16384=Y at *
 have:sgr d.neg*(natV d.m:Rat)*X*p2 a=sgr d.neg*(natV d.m:Rat)*(X*p2 a):=by grind
 rw [this,e2]; grind
theorem q3b (a:Fx):(a.int:Rat)=sgr a.neg*(a.n:Rat):=q3c a
theorem qale {d:Dy} {b:Nat} (ok:d.Ok):Bd (((Fx.of d b).int:Rat)-d.rat*p2 b) 1:=by
 have he:=ok.elo
 rw [q3b,qaai]
 unfold Fx.of
 split
 · rename_i h
   simp only []
   obtain ⟨k,hk⟩:∃ k:Nat,k=(-(d.e+b)).toNat:=⟨_,rfl⟩
   rw [← hk]
   have e1:=qwg (d:=d) (a:=b+k) (c:=0) (by omega) (by omega)
   rw [q0m] at e1
   have e0:p2 0=1:=rfl
   rw [e0] at e1
   obtain ⟨h1,h2⟩:=qe2 (a:=natV d.m) (d:=2^k) (Nat.two_pow_pos k)
   rw [qdd,Rat.div_def] at h1 h2
   have pk:=qe1 k
   have ik:=qbj pk
   have e2:sgr d.neg*((natV d.m:Rat)*(p2 k)⁻¹)=d.rat*p2 b:=by
     have:sgr d.neg*((natV d.m:Rat)*(p2 k)⁻¹)=(sgr d.neg*(natV d.m:Rat)*1)*(p2 k)⁻¹:=by grind
     rw [this,← e1]
     have:d.rat*(p2 b*p2 k)*(p2 k)⁻¹=d.rat*p2 b*(p2 k*(p2 k)⁻¹):=by grind
     rw [this,ik,Rat.mul_one]
   rw [← e2]
   unfold sgr
   split<;>constructor<;>grind
 · rename_i h
   simp only []
   have e1:=qwg (d:=d) (a:=b) (c:=(d.e+b).toNat) (by omega) (by omega)
   rw [e1,Rat.natCast_mul,qdd]
   constructor<;>grind
theorem qae1 {b:Nat} (hb:10≤b) (hb2:b≤3000):∃ N,∀ n,N≤n→Bd (((piI b).n/2:Nat)-hpi n*p2 b) 65537:=by
 obtain ⟨N,hN⟩:=qaim hb hb2
 refine ⟨N,fun n hn=>?_⟩
 obtain ⟨a,c⟩:=hN n hn
 rw [qjj (qog hb).1] at a c
 obtain ⟨h1,h2⟩:=qe2 (a:=(piI b).n) (d:=2) (by decide)
 rw [show ((2:Nat):Rat)=2 from rfl] at h1 h2
 constructor<;>grind
end Go.Abs.W
