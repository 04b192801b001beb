/- Parts of the proof: FpGalQ, FpGalS, FpIvX. -/
import Derived.Test.YtfioikimlnlcbaaGreatDoorHr
import Derived.Test.YtfioikimlnlcbaaGreatDoorHp
namespace Go.Abs.W
theorem qzv {neg:Bool}{A B k p:Nat}{E:Int}{up:Bool}(hA:A≠0)(hB:B≠0)(hp:1<=p)(h:p+bitL B<=bitL A+k) :
 ∀j:Nat,cutR neg (A*2^(k+j)/B) (E-(k+j:Nat)) (decide (A*2^(k+j)%B≠0)) p up=cutR neg (A*2^k/B) (E-k) (decide (A*2^k%B≠0)) p up
 |0=>rfl
 |j+1=>by
  rw[<-qzv hA hB hp h j];exact qada (k:=k+j) hA hB hp (by omega)
theorem qaaf {X B:Nat}{G:Int}(hB:0<B):((X/B:Nat):Int)+((if decide (X%B≠0)=true then 1 else 0:Nat):Int)<=G↔(X:Int)<=G*(B:Int):=by
 have e:=Nat.div_add_mod X B;have l:=Nat.mod_lt X hB;generalize X/B=M at *
 generalize X%B=r at *
 have eI:(X:Int)=(M:Int)*(B:Int)+r:=by rw[<-e];simp[Int.mul_comm]
 have hBI:(0:Int)<B:=by omega
 constructor
 ·intro h;by_cases hr:r=0
  ·subst hr;have:(M:Int)<=G:=by simpa using h
   have:=Int.mul_le_mul_of_nonneg_right this (Int.le_of_lt hBI);omega
  ·have:(M:Int)+1<=G:=by simpa[hr]using h
   have:=Int.mul_le_mul_of_nonneg_right this (Int.le_of_lt hBI);rw[Int.add_mul,Int.one_mul]at this;omega
 ·intro h;by_cases hr:r=0
  ·subst hr;have:(M:Int)*B<=G*B:=by omega
   have:=(qbl hBI).1 this;simpa using this
  ·have h2:(M:Int)*B<G*B:=by omega
   have:=Int.lt_of_mul_lt_mul_right h2 (Int.le_of_lt hBI);simp[hr];omega
theorem q33 {X B:Nat}{G:Int}(hB:0<B):G<=((X/B:Nat):Int)↔G*(B:Int)<=(X:Int):=by
 have e:((X/B:Nat):Int)=(X:Int)/(B:Int):=by simp
 rw[e];exact Int.le_ediv_iff_mul_le (by omega)
def divLe (a b g:Int):Prop:=if 0<b then g*b<=a*pw 16384 else a*pw 16384<=g*b
def divGe (a b g:Int):Prop:=if 0<b then a*pw 16384<=g*b else g*b<=a*pw 16384
theorem qo0 {a b g:Int}(h:0<b):divLe a b g↔g*b<=a*pw 16384:=by unfold divLe;rw[if_pos h]
theorem qs3 {a b g:Int}(h:¬0<b):divLe a b g↔a*pw 16384<=g*b:=by unfold divLe;rw[if_neg h]
theorem qo1 {a b g:Int}(h:0<b):divGe a b g↔a*pw 16384<=g*b:=by unfold divGe;rw[if_pos h]
theorem qs4 {a b g:Int}(h:¬0<b):divGe a b g↔g*b<=a*pw 16384:=by unfold divGe;rw[if_neg h]
theorem qzx {A B:Int}{g:Int}{a' kj ea eb:Nat}(h:kj+eb=ea+16384+a'):g*pw a'*B<=A*pw kj↔g*(B*pw eb)<=A*pw ea*pw 16384:=by
 have h1:(g*pw a'*B)*pw eb<=(A*pw kj)*pw eb↔g*pw a'*B<=A*pw kj:=qbl (qc6 eb);have h2:(g*(B*pw eb))*pw a'<=(A*pw ea*pw 16384)*pw a'↔g*(B*pw eb)<=A*pw ea*pw 16384:=qbl (qc6 a');rw[<-h1,<-h2];have e1:(A*pw kj)*pw eb=(A*pw ea*pw 16384)*pw a':=by
  rw[Int.mul_assoc,<-qe9,h,qe9,qe9];simp only[Int.mul_assoc]
 have e2:(g*pw a'*B)*pw eb=(g*(B*pw eb))*pw a':=by
  generalize pw a'=P;generalize pw eb=Q;grind
 rw[e1,e2]
theorem qvc {A B:Int}{g:Int}{a' kj ea eb:Nat}(h:kj+eb=ea+16384+a'):A*pw kj<=g*pw a'*B↔A*pw ea*pw 16384<=g*(B*pw eb):=by
 have h1:(A*pw kj)*pw eb<=(g*pw a'*B)*pw eb↔A*pw kj<=g*pw a'*B:=qbl (qc6 eb);have h2:(A*pw ea*pw 16384)*pw a'<=(g*(B*pw eb))*pw a'↔A*pw ea*pw 16384<=g*(B*pw eb):=qbl (qc6 a');rw[<-h1,<-h2];have e1:(A*pw kj)*pw eb=(A*pw ea*pw 16384)*pw a':=by
  rw[Int.mul_assoc,<-qe9,h,qe9,qe9];simp only[Int.mul_assoc]
 have e2:(g*pw a'*B)*pw eb=(g*(B*pw eb))*pw a':=by
  generalize pw a'=P;generalize pw eb=Q;grind
 rw[e1,e2]
theorem qrd {d:Dy}(ok:d.Ok)(h:d.m≠[]):natV d.m≠0:=qf1 ok.tr h
theorem qra {d:Dy}(ok:d.Ok)(h:d.m≠[]):(0<d.val↔d.neg=false):=by
 have:=ok.absN_ne h;unfold Dy.val;cases d.neg
 ·simp only[if_false,Bool.false_eq_true,iff_true];omega
 ·simp only[if_true,reduceCtorEq,iff_false];omega
theorem qvv {d:Dy}:d.val=if d.neg then -((natV d.m:Int)*pw (d.e+16384).toNat)else(natV d.m:Int)*pw (d.e+16384).toNat:=by
 unfold Dy.val Dy.absN;rw[qcr]
theorem qzw {a b:Dy}{p:Int}{up:Bool}(oa:a.Ok)(ob:b.Ok)(hp:precB p=true)(ha:a.m≠[])(hb:b.m≠[]) :
 ∃kj a':Nat,kj+(b.e+16384).toNat=(a.e+16384).toNat+16384+a'/\natV a.m*2^kj/natV b.m≠0 /\
  rDiv a b p up=cutR (a.neg != b.neg) (natV a.m*2^kj/natV b.m) (-16384-(a':Int)) (decide (natV a.m*2^kj%natV b.m≠0)) p.toNat up:=by
 have h:=precB_iff.1 hp;have hA:=qrd oa ha;have hB:=qrd ob hb;have e1:=oa.elo;have e2:=ob.elo;have hk:p.toNat+bitL (natV b.m)<=bitL (natV a.m)+divK a b p 2:=by unfold divK;omega
 have⟨k,hkk⟩:∃k,k=divK a b p 2:=⟨_,rfl⟩
 rw[<-hkk]at hk;have⟨j,hj⟩:∃j,j=(a.e-b.e-k+16384).toNat:=⟨_,rfl⟩
 refine⟨k+j,(-16384-(a.e-b.e-k)).toNat,by omega,?_,?_⟩
 ·have:=qyj (k:=k+j) (c:=p.toNat) hA hB (by omega) (by omega);intro h0;rw[h0]at this;have:bitL 0=0:=rfl;omega
 ·have ds:=qzv (neg:=a.neg != b.neg) (up:=up) (E:=a.e-b.e) hA hB (show 1<=p.toNat by omega) hk j;unfold rDiv;rw[if_pos (qgu (by simp[oa,ob]) hp),if_neg hb,if_neg ha,<-hkk,<-ds]
  congr 1
  omega
theorem qagk {a b:Dy}{p:Int}(oa:a.Ok)(ob:b.Ok)(hp:precB p=true)(hb:b.m≠[]):IsDn p.toNat (rDiv a b p false) (divLe a.val b.val):=by
 have h:=precB_iff.1 hp;by_cases ha:a.m=[]
 ·have hz:rDiv a b p false=(Dy.zero,0):=by
   unfold rDiv;rw[if_pos (qgu (by simp[oa,ob]) hp),if_neg hb,if_pos ha]
  have va:a.val=0:=by unfold Dy.val;rw[Dy.absN_nil ha];simp
  rw[hz];have hs:=qra ob hb;have hnb:b.val≠0:=by
   have:=ob.absN_ne hb;unfold Dy.val;split<;>omega
  refine .inl ⟨rfl,by rw[qn2];exact qjl,fun g _=>?_⟩;rw[qn2,va];unfold divLe;rw[Int.zero_mul];split
  ·rename_i hpos;have:=qbl (x:=g) (y:=0) hpos;rw[Int.zero_mul]at this;exact this.symm
  ·have:=qbl (x:=g) (y:=0) (c:=-b.val) (by omega);rw[Int.zero_mul,Int.mul_neg]at this;rw[<-this];omega
 ·obtain⟨kj,a',hkj,hne,hd⟩:=qzw (up:=false) oa ob hp ha hb;have hB:=qrd ob hb;rw[hd];refine(qafd (by omega) (by omega) rfl (fun h0=>absurd h0 hne)).congr fun g=>?_
  have sb:=qra ob hb;have cl:=qaaf (X:=natV a.m*2^kj) (B:=natV b.m) (G:=(-g)*pw a') (by omega);have fl:=q33 (X:=natV a.m*2^kj) (B:=natV b.m) (G:=g*pw a') (by omega);rw[<-qcr,qvc hkj,Int.neg_mul]at cl;rw[<-qcr,qzx hkj]at fl;have va:=qvv (d:=a);have vb:=qvv (d:=b);generalize (if decide (natV a.m*2^kj%natV b.m≠0)=true then 1 else 0:Nat)=c at *
  generalize natV a.m*2^kj/natV b.m=M at *
  generalize (natV a.m:Int)*pw (a.e+16384).toNat=U at *
  generalize (natV b.m:Int)*pw (b.e+16384).toNat=V at *
  have e1:(-g)*V=-(g*V):=Int.neg_mul _ _;have e2:g*(-V)=-(g*V):=Int.mul_neg _ _;have e3:(-U)*pw 16384=-(U*pw 16384):=Int.neg_mul _ _;cases hna:a.neg<;>cases hnb:b.neg<;>rw[hna]at va<;>rw[hnb]at vb sb<;>simp only[if_true,if_false,Bool.false_eq_true,bne_self_eq_false,Bool.false_bne,Bool.true_bne,Bool.not_false,reduceCtorEq]at va vb sb ⊢
  ·rw[qo0 (sb.2 trivial),va,vb];omega
  ·rw[qs3 sb.1,va,vb,e2];omega
  ·rw[qo0 (sb.2 trivial),va,vb,e3];omega
  ·rw[qs3 sb.1,va,vb,e2,e3];omega
theorem qagj {a b:Dy}{p:Int}(oa:a.Ok)(ob:b.Ok)(hp:precB p=true)(hb:b.m≠[]):IsUp p.toNat (rDiv a b p true) (divGe a.val b.val):=by
 have h:=precB_iff.1 hp;by_cases ha:a.m=[]
 ·have hz:rDiv a b p true=(Dy.zero,0):=by
   unfold rDiv;rw[if_pos (qgu (by simp[oa,ob]) hp),if_neg hb,if_pos ha]
  have va:a.val=0:=by unfold Dy.val;rw[Dy.absN_nil ha];simp
  rw[hz];have hs:=qra ob hb;have hnb:b.val≠0:=by
   have:=ob.absN_ne hb;unfold Dy.val;split<;>omega
  refine .inl ⟨rfl,by rw[qn2];exact qjl,fun g _=>?_⟩;rw[qn2,va];unfold divGe;rw[Int.zero_mul];split
  ·rename_i hpos;have:=qbl (x:=0) (y:=g) hpos;rw[Int.zero_mul]at this;exact this.symm
  ·have:=qbl (x:=0) (y:=g) (c:=-b.val) (by omega);rw[Int.zero_mul,Int.mul_neg]at this;rw[<-this];omega
 ·obtain⟨kj,a',hkj,hne,hd⟩:=qzw (up:=true) oa ob hp ha hb;have hB:=qrd ob hb;rw[hd];refine(qafc (by omega) (by omega) rfl (fun h0=>absurd h0 hne)).congr fun g=>?_
  have sb:=qra ob hb;have cl:=qaaf (X:=natV a.m*2^kj) (B:=natV b.m) (G:=g*pw a') (by omega);have fl:=q33 (X:=natV a.m*2^kj) (B:=natV b.m) (G:=(-g)*pw a') (by omega);rw[<-qcr,qvc hkj]at cl;rw[<-qcr,qzx hkj,Int.neg_mul]at fl;have va:=qvv (d:=a);have vb:=qvv (d:=b);generalize (if decide (natV a.m*2^kj%natV b.m≠0)=true then 1 else 0:Nat)=c at *
  generalize natV a.m*2^kj/natV b.m=M at *
  generalize (natV a.m:Int)*pw (a.e+16384).toNat=U at *
  generalize (natV b.m:Int)*pw (b.e+16384).toNat=V at *
  have e1:(-g)*V=-(g*V):=Int.neg_mul _ _;have e2:g*(-V)=-(g*V):=Int.mul_neg _ _;have e3:(-U)*pw 16384=-(U*pw 16384):=Int.neg_mul _ _;cases hna:a.neg<;>cases hnb:b.neg<;>rw[hna]at va<;>rw[hnb]at vb sb<;>simp only[if_true,if_false,Bool.false_eq_true,bne_self_eq_false,Bool.false_bne,Bool.true_bne,Bool.not_false,reduceCtorEq]at va vb sb ⊢
  ·rw[qo1 (sb.2 trivial),va,vb];omega
  ·rw[qs4 sb.1,va,vb,e2];omega
  ·rw[qo1 (sb.2 trivial),va,vb,e3];omega
  ·rw[qs4 sb.1,va,vb,e2,e3];omega
theorem IsDn.exact {p:Nat}{r:Dy × Int}{le:Int->Prop}(h:IsDn p r le){V:Int}(hV:GridI p V)(hle:∀g,le g↔g<=V):r.2=0/\r.1.val=V:=by
 rcases h with ⟨a,b,c⟩|⟨_,c⟩
 ·have h1:=(c V hV).2 ((hle V).2 (Int.le_refl _));have h2:=(hle _).1 ((c _ b).1 (Int.le_refl _));exact⟨a,by omega⟩
 ·exact absurd ((hle V).2 (Int.le_refl _)) (c V hV)
theorem IsUp.exact {p:Nat}{r:Dy × Int}{ge:Int->Prop}(h:IsUp p r ge){V:Int}(hV:GridI p V)(hge:∀g,ge g↔V<=g):r.2=0/\r.1.val=V:=by
 rcases h with ⟨a,b,c⟩|⟨_,c⟩
 ·have h1:=(c V hV).2 ((hge V).2 (Int.le_refl _));have h2:=(hge _).1 ((c _ b).1 (Int.le_refl _));exact⟨a,by omega⟩
 ·exact absurd ((hge V).2 (Int.le_refl _)) (c V hV)
theorem qqi {k:Int}:(nD k).val=k*pw 16384:=by
 unfold nD;have hA:((0:Int)+16384).toNat=16384:=rfl;rw[qqh (by omega),<-qcr,hA];obtain⟨n,rfl|rfl⟩:=k.eq_nat_or_neg
 ·rw[if_neg (by simp)];simp
 ·by_cases h:n=0
  ·subst h;simp
  ·rw[if_pos (by simp;omega),Int.neg_mul];simp
theorem q8w {k:Int}{a:Nat}:(k*pw a).natAbs=k.natAbs*2^a:=by
 rw[Int.natAbs_mul];rfl
theorem qaco {k:Int}(hk:k.natAbs<=1048576):(nI k k).known=true:=by
 have ok:=nD_ok (k:=k) (by omega);simp[Iv.known,Iv.valid,nI,ok.valid,(qadj ok ok).2 rfl]
end Go.Abs.W
