/- Parts of the proof: FpGalQ, FpGalS, FpIvX. -/
import Derived.Test.YtnkijamajifgpaaGreatDoorHr
import Derived.Test.YtnkijamajifgpaaGreatDoorHp
namespace Go.Abs.W
theorem q17 {neg:Bool} {A B k p:Nat} {E:Int} {up:Bool} (hA:A≠0) (hB:B≠0) (hp:1≤p) (h:p+bitL B≤bitL A+k) :
   ∀ j:Nat,cutR neg (A*2^(k+j)/B) (E-(k+j:Nat)) (decide (A*2^(k+j)%B≠0)) p up=cutR neg (A*2^k/B) (E-k) (decide (A*2^k%B≠0)) p up
 | 0=>rfl
 | j+1=>by
   rw [← q17 hA hB hp h j]
   exact qafc (k:=k+j) hA hB hp (by omega)
theorem qacd {X B:Nat} {G:Int} (hB:0<B):((X/B:Nat):Int)+((if decide (X%B≠0)=true then 1 else 0:Nat):Int)≤G↔(X:Int)≤G*(B:Int):=by
 have e:=Nat.div_add_mod X B
 have l:=Nat.mod_lt X hB
 generalize X/B=M at *
 generalize X%B=r at *
 have eI:(X:Int)=(M:Int)*(B:Int)+r:=by rw [← e]; simp [Int.mul_comm]
 have hBI:(0:Int)<B:=by omega
 constructor
 · intro h
   by_cases hr:r=0
   · subst hr
     have:(M:Int)≤G:=by simpa using h
     have:=Int.mul_le_mul_of_nonneg_right this (Int.le_of_lt hBI)
     omega
   · have:(M:Int)+1≤G:=by simpa [hr] using h
     have:=Int.mul_le_mul_of_nonneg_right this (Int.le_of_lt hBI)
     rw [Int.add_mul,Int.one_mul] at this
     omega
 · intro h
   by_cases hr:r=0
   · subst hr
     have:(M:Int)*B≤G*B:=by omega
     have:=(qbd hBI).1 this
     simpa using this
   · have h2:(M:Int)*B<G*B:=by omega
     have:=Int.lt_of_mul_lt_mul_right h2 (Int.le_of_lt hBI)
     simp [hr]; omega
theorem q58 {X B:Nat} {G:Int} (hB:0<B):G≤((X/B:Nat):Int)↔G*(B:Int)≤(X:Int):=by
 have e:((X/B:Nat):Int)=(X:Int)/(B:Int):=by simp
 rw [e]
 exact Int.le_ediv_iff_mul_le (by omega)
def divLe (a b g:Int):Prop:=if 0<b then g*b≤a*pw 16384 else a*pw 16384≤g*b
def divGe (a b g:Int):Prop:=if 0<b then a*pw 16384≤g*b else g*b≤a*pw 16384
theorem qe8 {a b g:Int} (h:0<b):divLe a b g↔g*b≤a*pw 16384:=by unfold divLe; rw [if_pos h]
theorem qk3 {a b g:Int} (h:¬ 0<b):divLe a b g↔a*pw 16384≤g*b:=by unfold divLe; rw [if_neg h]
theorem qgi {a b g:Int} (h:0<b):divGe a b g↔a*pw 16384≤g*b:=by unfold divGe; rw [if_pos h]
theorem qk4 {a b g:Int} (h:¬ 0<b):divGe a b g↔g*b≤a*pw 16384:=by unfold divGe; rw [if_neg h]
theorem q19 {A B:Int} {g:Int} {a' kj ea eb:Nat} (h:kj+eb=ea+16384+a'):g*pw a'*B≤A*pw kj↔g*(B*pw eb)≤A*pw ea*pw 16384:=by
 have h1:(g*pw a'*B)*pw eb≤(A*pw kj)*pw eb↔g*pw a'*B≤A*pw kj:=qbd (qa3 eb)
 have h2:(g*(B*pw eb))*pw a'≤(A*pw ea*pw 16384)*pw a'↔g*(B*pw eb)≤A*pw ea*pw 16384:=qbd (qa3 a')
 rw [← h1,← h2]
 have e1:(A*pw kj)*pw eb=(A*pw ea*pw 16384)*pw a':=by
   rw [Int.mul_assoc,← qb1,h,qb1,qb1]; simp only [Int.mul_assoc]
 have e2:(g*pw a'*B)*pw eb=(g*(B*pw eb))*pw a':=by
   generalize pw a'=P
   generalize pw eb=Q
   grind
 rw [e1,e2]
theorem qxs {A B:Int} {g:Int} {a' kj ea eb:Nat} (h:kj+eb=ea+16384+a'):A*pw kj≤g*pw a'*B↔A*pw ea*pw 16384≤g*(B*pw eb):=by
 have h1:(A*pw kj)*pw eb≤(g*pw a'*B)*pw eb↔A*pw kj≤g*pw a'*B:=qbd (qa3 eb)
 have h2:(A*pw ea*pw 16384)*pw a'≤(g*(B*pw eb))*pw a'↔A*pw ea*pw 16384≤g*(B*pw eb):=qbd (qa3 a')
 rw [← h1,← h2]
 have e1:(A*pw kj)*pw eb=(A*pw ea*pw 16384)*pw a':=by
   rw [Int.mul_assoc,← qb1,h,qb1,qb1]; simp only [Int.mul_assoc]
 have e2:(g*pw a'*B)*pw eb=(g*(B*pw eb))*pw a':=by
   generalize pw a'=P
   generalize pw eb=Q
   grind
 rw [e1,e2]
theorem qst {d:Dy} (ok:d.Ok) (h:d.m≠[]):natV d.m≠0:=qft ok.tr h
theorem qsq {d:Dy} (ok:d.Ok) (h:d.m≠[]):(0<d.val↔d.neg=false):=by
 have:=ok.absN_ne h
 unfold Dy.val
 cases d.neg
 · simp only [if_false,Bool.false_eq_true,iff_true]; omega
 · simp only [if_true,reduceCtorEq,iff_false]; omega
theorem qx4 {d:Dy}:d.val=if d.neg then -((natV d.m:Int)*pw (d.e+16384).toNat) else (natV d.m:Int)*pw (d.e+16384).toNat:=by
 unfold Dy.val Dy.absN
 rw [qc4]
theorem q18 {a b:Dy} {p:Int} {up:Bool} (oa:a.Ok) (ob:b.Ok) (hp:precB p=true) (ha:a.m≠[]) (hb:b.m≠[]) :
   ∃ kj a':Nat,kj+(b.e+16384).toNat=(a.e+16384).toNat+16384+a'∧natV a.m*2^kj/natV b.m≠0 ∧
     rDiv a b p up=cutR (a.neg != b.neg) (natV a.m*2^kj/natV b.m) (-16384-(a':Int)) (decide (natV a.m*2^kj%natV b.m≠0)) p.toNat up:=by
 have h:=precB_iff.1 hp
 have hA:=qst oa ha
 have hB:=qst ob hb
 have e1:=oa.elo
 have e2:=ob.elo
 have hk:p.toNat+bitL (natV b.m)≤bitL (natV a.m)+divK a b p 2:=by unfold divK; omega
 obtain ⟨k,hkk⟩:∃ k,k=divK a b p 2:=⟨_,rfl⟩
 rw [← hkk] at hk
 obtain ⟨j,hj⟩:∃ j,j=(a.e-b.e-k+16384).toNat:=⟨_,rfl⟩
 refine ⟨k+j,(-16384-(a.e-b.e-k)).toNat,by omega,?_,?_⟩
 · have:=q01 (k:=k+j) (c:=p.toNat) hA hB (by omega) (by omega)
   intro h0
   rw [h0] at this
   have:bitL 0=0:=rfl
   omega
 · have ds:=q17 (neg:=a.neg != b.neg) (up:=up) (E:=a.e-b.e) hA hB (show 1≤p.toNat by omega) hk j
   unfold rDiv
   rw [if_pos (qhm (by simp [oa,ob]) hp),if_neg hb,if_neg ha,← hkk,← ds]
   congr 1
   omega
theorem qos {a b:Dy} {p:Int} (oa:a.Ok) (ob:b.Ok) (hp:precB p=true) (hb:b.m≠[]):IsDn p.toNat (rDiv a b p false) (divLe a.val b.val):=by
 have h:=precB_iff.1 hp
 by_cases ha:a.m=[]
 · have hz:rDiv a b p false=(Dy.zero,0):=by
     unfold rDiv; rw [if_pos (qhm (by simp [oa,ob]) hp),if_neg hb,if_pos ha]
   have va:a.val=0:=by unfold Dy.val; rw [Dy.absN_nil ha]; simp
   rw [hz]
   have hs:=qsq ob hb
   have hnb:b.val≠0:=by
     have:=ob.absN_ne hb
     unfold Dy.val; split<;>omega
   refine .inl ⟨rfl,by rw [qjc]; exact qh2,fun g _=>?_⟩
   rw [qjc,va]
   unfold divLe
   rw [Int.zero_mul]
   split
   · rename_i hpos
     have:=qbd (x:=g) (y:=0) hpos
     rw [Int.zero_mul] at this
     exact this.symm
   · have:=qbd (x:=g) (y:=0) (c:=-b.val) (by omega)
     rw [Int.zero_mul,Int.mul_neg] at this
     rw [← this]; omega
 · obtain ⟨kj,a',hkj,hne,hd⟩:=q18 (up:=false) oa ob hp ha hb
   have hB:=qst ob hb
   rw [hd]
   refine (qag8 (by omega) (by omega) rfl (fun h0=>absurd h0 hne)).congr fun g=>?_
   have sb:=qsq ob hb
   have cl:=qacd (X:=natV a.m*2^kj) (B:=natV b.m) (G:=(-g)*pw a') (by omega)
   have fl:=q58 (X:=natV a.m*2^kj) (B:=natV b.m) (G:=g*pw a') (by omega)
   rw [← qc4,qxs hkj,Int.neg_mul] at cl
   rw [← qc4,q19 hkj] at fl
   have va:=qx4 (d:=a)
   have vb:=qx4 (d:=b)
   generalize (if decide (natV a.m*2^kj%natV b.m≠0)=true then 1 else 0:Nat)=c at *
   generalize natV a.m*2^kj/natV b.m=M at *
   generalize (natV a.m:Int)*pw (a.e+16384).toNat=U at *
   generalize (natV b.m:Int)*pw (b.e+16384).toNat=V at *
   have e1:(-g)*V=-(g*V):=Int.neg_mul _ _
   have e2:g*(-V)=-(g*V):=Int.mul_neg _ _
   have e3:(-U)*pw 16384=-(U*pw 16384):=Int.neg_mul _ _
   cases hna:a.neg<;>cases hnb:b.neg<;>rw [hna] at va<;>rw [hnb] at vb sb<;>simp only [if_true,if_false,Bool.false_eq_true,bne_self_eq_false,Bool.false_bne,Bool.true_bne,Bool.not_false,reduceCtorEq] at va vb sb ⊢
   · rw [qe8 (sb.2 trivial),va,vb]; omega
   · rw [qk3 sb.1,va,vb,e2]; omega
   · rw [qe8 (sb.2 trivial),va,vb,e3]; omega
   · rw [qk3 sb.1,va,vb,e2,e3]; omega
theorem qor {a b:Dy} {p:Int} (oa:a.Ok) (ob:b.Ok) (hp:precB p=true) (hb:b.m≠[]):IsUp p.toNat (rDiv a b p true) (divGe a.val b.val):=by
 have h:=precB_iff.1 hp
 by_cases ha:a.m=[]
 · have hz:rDiv a b p true=(Dy.zero,0):=by
     unfold rDiv; rw [if_pos (qhm (by simp [oa,ob]) hp),if_neg hb,if_pos ha]
   have va:a.val=0:=by unfold Dy.val; rw [Dy.absN_nil ha]; simp
   rw [hz]
   have hs:=qsq ob hb
   have hnb:b.val≠0:=by
     have:=ob.absN_ne hb
     unfold Dy.val; split<;>omega
   refine .inl ⟨rfl,by rw [qjc]; exact qh2,fun g _=>?_⟩
   rw [qjc,va]
   unfold divGe
   rw [Int.zero_mul]
   split
   · rename_i hpos
     have:=qbd (x:=0) (y:=g) hpos
     rw [Int.zero_mul] at this
     exact this.symm
   · have:=qbd (x:=0) (y:=g) (c:=-b.val) (by omega)
     rw [Int.zero_mul,Int.mul_neg] at this
     rw [← this]; omega
 · obtain ⟨kj,a',hkj,hne,hd⟩:=q18 (up:=true) oa ob hp ha hb
   have hB:=qst ob hb
   rw [hd]
   refine (qag7 (by omega) (by omega) rfl (fun h0=>absurd h0 hne)).congr fun g=>?_
   have sb:=qsq ob hb
   have cl:=qacd (X:=natV a.m*2^kj) (B:=natV b.m) (G:=g*pw a') (by omega)
   have fl:=q58 (X:=natV a.m*2^kj) (B:=natV b.m) (G:=(-g)*pw a') (by omega)
   rw [← qc4,qxs hkj] at cl
   rw [← qc4,q19 hkj,Int.neg_mul] at fl
   have va:=qx4 (d:=a)
   have vb:=qx4 (d:=b)
   generalize (if decide (natV a.m*2^kj%natV b.m≠0)=true then 1 else 0:Nat)=c at *
   generalize natV a.m*2^kj/natV b.m=M at *
   generalize (natV a.m:Int)*pw (a.e+16384).toNat=U at *
   generalize (natV b.m:Int)*pw (b.e+16384).toNat=V at *
   have e1:(-g)*V=-(g*V):=Int.neg_mul _ _
   have e2:g*(-V)=-(g*V):=Int.mul_neg _ _
   have e3:(-U)*pw 16384=-(U*pw 16384):=Int.neg_mul _ _
   cases hna:a.neg<;>cases hnb:b.neg<;>rw [hna] at va<;>rw [hnb] at vb sb<;>simp only [if_true,if_false,Bool.false_eq_true,bne_self_eq_false,Bool.false_bne,Bool.true_bne,Bool.not_false,reduceCtorEq] at va vb sb ⊢
   · rw [qgi (sb.2 trivial),va,vb]; omega
   · rw [qk4 sb.1,va,vb,e2]; omega
   · rw [qgi (sb.2 trivial),va,vb,e3]; omega
   · rw [qk4 sb.1,va,vb,e2,e3]; omega
end Go.Abs.W
namespace Go.Abs.W
end Go.Abs.W
namespace Go.Abs.W
theorem IsDn.exact {p:Nat} {r:Dy × Int} {le:Int→Prop} (h:IsDn p r le) {V:Int} (hV:GridI p V) (hle:∀ g,le g↔g≤V):r.2=0∧r.1.val=V:=by
 rcases h with ⟨a,b,c⟩ | ⟨_,c⟩
 · have h1:=(c V hV).2 ((hle V).2 (Int.le_refl _))
   have h2:=(hle _).1 ((c _ b).1 (Int.le_refl _))
   exact ⟨a,by omega⟩
 · exact absurd ((hle V).2 (Int.le_refl _)) (c V hV)
theorem IsUp.exact {p:Nat} {r:Dy × Int} {ge:Int→Prop} (h:IsUp p r ge) {V:Int} (hV:GridI p V) (hge:∀ g,ge g↔V≤g):r.2=0∧r.1.val=V:=by
 rcases h with ⟨a,b,c⟩ | ⟨_,c⟩
 · have h1:=(c V hV).2 ((hge V).2 (Int.le_refl _))
   have h2:=(hge _).1 ((c _ b).1 (Int.le_refl _))
   exact ⟨a,by omega⟩
 · exact absurd ((hge V).2 (Int.le_refl _)) (c V hV)
theorem qpj {k:Int}:(nD k).val=k*pw 16384:=by
 unfold nD
 have hA:((0:Int)+16384).toNat=16384:=rfl
 rw [qrj (by omega),← qc4,hA]
 obtain ⟨n,rfl | rfl⟩:=k.eq_nat_or_neg
 · rw [if_neg (by simp)]
   simp
 · by_cases h:n=0
   · subst h; simp
   · rw [if_pos (by simp; omega),Int.neg_mul]
     simp
theorem qaav {k:Int} {a:Nat}:(k*pw a).natAbs=k.natAbs*2^a:=by
 rw [Int.natAbs_mul]; rfl
theorem qaer {k:Int} (hk:k.natAbs≤1048576):(nI k k).known=true:=by
 have ok:=nD_ok (k:=k) (by omega)
 simp [Iv.known,Iv.valid,nI,ok.valid,(qsz ok ok).2 rfl]
end Go.Abs.W
