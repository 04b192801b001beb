/- Parts of the proof: FpGalQ, FpGalS, FpIvX. -/
import Derived.Test.YtpdchdfajhbglaaGreatDoorHr
import Derived.Test.YtpdchdfajhbglaaGreatDoorHp
namespace Go.Abs.W
theorem q33 {neg:Bool}{A B k p:Nat}{E:Int}{up:Bool}(hA:A≠0)(hB:B≠0)(hp:1<=p)(h:p+bitL B<=bitL A+k) :
 ∀j:Nat,cutR neg (A*2^(k+j)/B) (E-(k+j:Nat)) (decide (A*2^(k+j)%B≠0)) p up=cutR neg (A*2^k/B) (E-k) (decide (A*2^k%B≠0)) p up
 |0=>rfl
 |j+1=>by
  rw[<-q33 hA hB hp h j];exact q1l (k:=k+j) hA hB hp (by omega)
theorem qaei {X B:Nat}{G:Int}(hB:0<B):((X/B:Nat):Int)+((if decide (X%B≠0)=true then 1 else 0:Nat):Int)<=G↔(X:Int)<=G*(B:Int):=by
 have e:=Nat.div_add_mod X B;have l:=Nat.mod_lt X hB;generalize X/B=M at *
 generalize X%B=r at *
 have eI:(X:Int)=(M:Int)*(B:Int)+r:=by rw[<-e];simp[Int.mul_comm]
 have hBI:(0:Int)<B:=by omega
 constructor
 ·intro h;by_cases hr:r=0
  ·subst hr;have:(M:Int)<=G:=by simpa using h
   have:=Int.mul_le_mul_of_nonneg_right this (Int.le_of_lt hBI);omega
  ·have:(M:Int)+1<=G:=by simpa[hr]using h
   have:=Int.mul_le_mul_of_nonneg_right this (Int.le_of_lt hBI);rw[Int.add_mul,Int.one_mul]at this;omega
 ·intro h;by_cases hr:r=0
  ·subst hr;have:(M:Int)*B<=G*B:=by omega
   have:=(qav hBI).1 this;simpa using this
  ·have h2:(M:Int)*B<G*B:=by omega
   have:=Int.lt_of_mul_lt_mul_right h2 (Int.le_of_lt hBI);simp[hr];omega
theorem q78 {X B:Nat}{G:Int}(hB:0<B):G<=((X/B:Nat):Int)↔G*(B:Int)<=(X:Int):=by
 have e:((X/B:Nat):Int)=(X:Int)/(B:Int):=by simp
 rw[e];exact Int.le_ediv_iff_mul_le (by omega)
def divLe (a b g:Int):Prop:=if 0<b then g*b<=a*pw 16384 else a*pw 16384<=g*b
def divGe (a b g:Int):Prop:=if 0<b then a*pw 16384<=g*b else g*b<=a*pw 16384
theorem qfh {a b g:Int}(h:0<b):divLe a b g↔g*b<=a*pw 16384:=by unfold divLe;rw[if_pos h]
theorem qln {a b g:Int}(h:¬0<b):divLe a b g↔a*pw 16384<=g*b:=by unfold divLe;rw[if_neg h]
theorem qgm {a b g:Int}(h:0<b):divGe a b g↔a*pw 16384<=g*b:=by unfold divGe;rw[if_pos h]
theorem qlo {a b g:Int}(h:¬0<b):divGe a b g↔g*b<=a*pw 16384:=by unfold divGe;rw[if_neg h]
theorem q35 {A B:Int}{g:Int}{a' kj ea eb:Nat}(h:kj+eb=ea+16384+a'):g*pw a'*B<=A*pw kj↔g*(B*pw eb)<=A*pw ea*pw 16384:=by
 have h1:(g*pw a'*B)*pw eb<=(A*pw kj)*pw eb↔g*pw a'*B<=A*pw kj:=qav (qax eb);have h2:(g*(B*pw eb))*pw a'<=(A*pw ea*pw 16384)*pw a'↔g*(B*pw eb)<=A*pw ea*pw 16384:=qav (qax a');rw[<-h1,<-h2];have e1:(A*pw kj)*pw eb=(A*pw ea*pw 16384)*pw a':=by
  rw[Int.mul_assoc,<-qa3,h,qa3,qa3];simp only[Int.mul_assoc]
 have e2:(g*pw a'*B)*pw eb=(g*(B*pw eb))*pw a':=by
  generalize pw a'=P;generalize pw eb=Q;grind
 rw[e1,e2]
theorem qze {A B:Int}{g:Int}{a' kj ea eb:Nat}(h:kj+eb=ea+16384+a'):A*pw kj<=g*pw a'*B↔A*pw ea*pw 16384<=g*(B*pw eb):=by
 have h1:(A*pw kj)*pw eb<=(g*pw a'*B)*pw eb↔A*pw kj<=g*pw a'*B:=qav (qax eb);have h2:(A*pw ea*pw 16384)*pw a'<=(g*(B*pw eb))*pw a'↔A*pw ea*pw 16384<=g*(B*pw eb):=qav (qax a');rw[<-h1,<-h2];have e1:(A*pw kj)*pw eb=(A*pw ea*pw 16384)*pw a':=by
  rw[Int.mul_assoc,<-qa3,h,qa3,qa3];simp only[Int.mul_assoc]
 have e2:(g*pw a'*B)*pw eb=(g*(B*pw eb))*pw a':=by
  generalize pw a'=P;generalize pw eb=Q;grind
 rw[e1,e2]
theorem qt0 {d:Dy}(ok:d.Ok)(h:d.m≠[]):natV d.m≠0:=qcq ok.tr h
theorem qqq {d:Dy}(ok:d.Ok)(h:d.m≠[]):(0<d.val↔d.neg=false):=by
 have:=ok.absN_ne h;unfold Dy.val;cases d.neg
 ·simp only[if_false,Bool.false_eq_true,iff_true];omega
 ·simp only[if_true,reduceCtorEq,iff_false];omega
theorem qzt {d:Dy}:d.val=if d.neg then -((natV d.m:Int)*pw (d.e+16384).toNat)else(natV d.m:Int)*pw (d.e+16384).toNat:=by
 unfold Dy.val Dy.absN;rw[qbt]
theorem q34 {a b:Dy}{p:Int}{up:Bool}(oa:a.Ok)(ob:b.Ok)(hp:precB p=true)(ha:a.m≠[])(hb:b.m≠[]) :
 ∃kj a':Nat,kj+(b.e+16384).toNat=(a.e+16384).toNat+16384+a'/\natV a.m*2^kj/natV b.m≠0 /\
  rDiv a b p up=cutR (a.neg != b.neg) (natV a.m*2^kj/natV b.m) (-16384-(a':Int)) (decide (natV a.m*2^kj%natV b.m≠0)) p.toNat up:=by
 have h:=precB_iff.1 hp;have hA:=qt0 oa ha;have hB:=qt0 ob hb;have e1:=oa.elo;have e2:=ob.elo;have hk:p.toNat+bitL (natV b.m)<=bitL (natV a.m)+divK a b p 2:=by unfold divK;omega
 have⟨k,hkk⟩:∃k,k=divK a b p 2:=⟨_,rfl⟩
 rw[<-hkk]at hk;have⟨j,hj⟩:∃j,j=(a.e-b.e-k+16384).toNat:=⟨_,rfl⟩
 refine⟨k+j,(-16384-(a.e-b.e-k)).toNat,by omega,?_,?_⟩
 ·have:=qus (k:=k+j) (c:=p.toNat) hA hB (by omega) (by omega);intro h0;rw[h0]at this;have:bitL 0=0:=rfl;omega
 ·have ds:=q33 (neg:=a.neg != b.neg) (up:=up) (E:=a.e-b.e) hA hB (show 1<=p.toNat by omega) hk j;unfold rDiv;rw[if_pos (qgf (by simp[oa,ob]) hp),if_neg hb,if_neg ha,<-hkk,<-ds]
  congr 1
  omega
theorem qrp {a b:Dy}{p:Int}(oa:a.Ok)(ob:b.Ok)(hp:precB p=true)(hb:b.m≠[]):IsDn p.toNat (rDiv a b p false) (divLe a.val b.val):=by
 have h:=precB_iff.1 hp;by_cases ha:a.m=[]
 ·have hz:rDiv a b p false=(Dy.zero,0):=by
   unfold rDiv;rw[if_pos (qgf (by simp[oa,ob]) hp),if_neg hb,if_pos ha]
  have va:a.val=0:=by unfold Dy.val;rw[Dy.absN_nil ha];simp
  rw[hz];have hs:=qqq ob hb;have hnb:b.val≠0:=by
   have:=ob.absN_ne hb;unfold Dy.val;split<;>omega
  refine .inl ⟨rfl,by rw[qhs];exact qfb,fun g _=>?_⟩;rw[qhs,va];unfold divLe;rw[Int.zero_mul];split
  ·rename_i hpos;have:=qav (x:=g) (y:=0) hpos;rw[Int.zero_mul]at this;exact this.symm
  ·have:=qav (x:=g) (y:=0) (c:=-b.val) (by omega);rw[Int.zero_mul,Int.mul_neg]at this;rw[<-this];omega
 ·obtain⟨kj,a',hkj,hne,hd⟩:=q34 (up:=false) oa ob hp ha hb;have hB:=qt0 ob hb;rw[hd];refine(qaeb (by omega) (by omega) rfl (fun h0=>absurd h0 hne)).congr fun g=>?_
  have sb:=qqq ob hb;have cl:=qaei (X:=natV a.m*2^kj) (B:=natV b.m) (G:=(-g)*pw a') (by omega);have fl:=q78 (X:=natV a.m*2^kj) (B:=natV b.m) (G:=g*pw a') (by omega);rw[<-qbt,qze hkj,Int.neg_mul]at cl;rw[<-qbt,q35 hkj]at fl;have va:=qzt (d:=a);have vb:=qzt (d:=b);generalize (if decide (natV a.m*2^kj%natV b.m≠0)=true then 1 else 0:Nat)=c at *
  generalize natV a.m*2^kj/natV b.m=M at *
  generalize (natV a.m:Int)*pw (a.e+16384).toNat=U at *
  generalize (natV b.m:Int)*pw (b.e+16384).toNat=V at *
  have e1:(-g)*V=-(g*V):=Int.neg_mul _ _;have e2:g*(-V)=-(g*V):=Int.mul_neg _ _;have e3:(-U)*pw 16384=-(U*pw 16384):=Int.neg_mul _ _;cases hna:a.neg<;>cases hnb:b.neg<;>rw[hna]at va<;>rw[hnb]at vb sb<;>simp only[if_true,if_false,Bool.false_eq_true,bne_self_eq_false,Bool.false_bne,Bool.true_bne,Bool.not_false,reduceCtorEq]at va vb sb ⊢
  ·rw[qfh (sb.2 trivial),va,vb];omega
  ·rw[qln sb.1,va,vb,e2];omega
  ·rw[qfh (sb.2 trivial),va,vb,e3];omega
  ·rw[qln sb.1,va,vb,e2,e3];omega
theorem qro {a b:Dy}{p:Int}(oa:a.Ok)(ob:b.Ok)(hp:precB p=true)(hb:b.m≠[]):IsUp p.toNat (rDiv a b p true) (divGe a.val b.val):=by
 have h:=precB_iff.1 hp;by_cases ha:a.m=[]
 ·have hz:rDiv a b p true=(Dy.zero,0):=by
   unfold rDiv;rw[if_pos (qgf (by simp[oa,ob]) hp),if_neg hb,if_pos ha]
  have va:a.val=0:=by unfold Dy.val;rw[Dy.absN_nil ha];simp
  rw[hz];have hs:=qqq ob hb;have hnb:b.val≠0:=by
   have:=ob.absN_ne hb;unfold Dy.val;split<;>omega
  refine .inl ⟨rfl,by rw[qhs];exact qfb,fun g _=>?_⟩;rw[qhs,va];unfold divGe;rw[Int.zero_mul];split
  ·rename_i hpos;have:=qav (x:=0) (y:=g) hpos;rw[Int.zero_mul]at this;exact this.symm
  ·have:=qav (x:=0) (y:=g) (c:=-b.val) (by omega);rw[Int.zero_mul,Int.mul_neg]at this;rw[<-this];omega
 ·obtain⟨kj,a',hkj,hne,hd⟩:=q34 (up:=true) oa ob hp ha hb;have hB:=qt0 ob hb;rw[hd];refine(qad8 (by omega) (by omega) rfl (fun h0=>absurd h0 hne)).congr fun g=>?_
  have sb:=qqq ob hb;have cl:=qaei (X:=natV a.m*2^kj) (B:=natV b.m) (G:=g*pw a') (by omega);have fl:=q78 (X:=natV a.m*2^kj) (B:=natV b.m) (G:=(-g)*pw a') (by omega);rw[<-qbt,qze hkj]at cl;rw[<-qbt,q35 hkj,Int.neg_mul]at fl;have va:=qzt (d:=a);have vb:=qzt (d:=b);generalize (if decide (natV a.m*2^kj%natV b.m≠0)=true then 1 else 0:Nat)=c at *
  generalize natV a.m*2^kj/natV b.m=M at *
  generalize (natV a.m:Int)*pw (a.e+16384).toNat=U at *
  generalize (natV b.m:Int)*pw (b.e+16384).toNat=V at *
  have e1:(-g)*V=-(g*V):=Int.neg_mul _ _;have e2:g*(-V)=-(g*V):=Int.mul_neg _ _;have e3:(-U)*pw 16384=-(U*pw 16384):=Int.neg_mul _ _;cases hna:a.neg<;>cases hnb:b.neg<;>rw[hna]at va<;>rw[hnb]at vb sb<;>simp only[if_true,if_false,Bool.false_eq_true,bne_self_eq_false,Bool.false_bne,Bool.true_bne,Bool.not_false,reduceCtorEq]at va vb sb ⊢
  ·rw[qgm (sb.2 trivial),va,vb];omega
  ·rw[qlo sb.1,va,vb,e2];omega
  ·rw[qgm (sb.2 trivial),va,vb,e3];omega
  ·rw[qlo sb.1,va,vb,e2,e3];omega
def sqLe (v g:Int):Prop:=g<=0\/g*g<=v*pw 16384
def sqGe (v g:Int):Prop:=0<=g/\v*pw 16384<=g*g
theorem q7z {N G:Nat}:G<=isq N↔G*G<=N:=by
 obtain⟨h1,h2⟩:=qeo N;constructor
 ·intro h;exact Nat.le_trans (Nat.mul_le_mul h h) h1
 ·intro h;rcases Nat.lt_or_ge (isq N) G with h3|h3
  ·have:=Nat.mul_le_mul (show isq N+1<=G from h3) (show isq N+1<=G from h3);omega
  ·exact h3
theorem qanf {N G:Nat}:isq N+(if decide (isq N*isq N≠N)=true then 1 else 0)<=G↔N<=G*G:=by
 obtain⟨h1,h2⟩:=qeo N;by_cases h:isq N*isq N=N
 ·rw[if_neg (by simpa using h),Nat.add_zero];constructor
  ·intro h3;have:=Nat.mul_le_mul h3 h3;omega
  ·intro h3;rcases Nat.lt_or_ge G (isq N)with h4|h4
   ·have:G*G<isq N*isq N:=Nat.mul_lt_mul_of_lt_of_le h4 (Nat.le_of_lt h4) (by omega);omega
   ·exact h4
 ·rw[if_pos (by simpa using h)];constructor
  ·intro h3;have:=Nat.mul_le_mul h3 h3;omega
  ·intro h3;rcases Nat.lt_or_ge G (isq N+1)with h4|h4
   ·have h5:G<=isq N:=by omega
    have:=Nat.mul_le_mul h5 h5;omega
   ·exact h4
theorem qaha (j:Nat):2^j*2^j=2^(2*j):=by rw[<-Nat.pow_add];congr 1;omega
theorem qaf9 {N p j:Nat}{e:Int}{up:Bool}(hN:N≠0)(hp:p<=bitL (isq N)) :
 cutR false (isq (N*2^(2*j))) (e-j) (decide (isq (N*2^(2*j))*isq (N*2^(2*j))≠N*2^(2*j))) p up=cutR false (isq N) e (decide (isq N*isq N≠N)) p up:=by
 obtain⟨s1,s2⟩:=qeo N;have hm:isq N≠0:=by
  intro h;rw[h]at s2;omega
 have f4:=qaha j;have⟨T,hT⟩:∃T,T=2^j:=⟨_,rfl⟩
 have hTp:0<T:=by rw[hT];exact Nat.two_pow_pos j
 rw[<-f4,<-hT];have lo:isq N*T<=isq (N*(T*T)):=by
  rw[q7z];have:=Nat.mul_le_mul_right (T*T) s1
  calc isq N*T*(isq N*T)=isq N*isq N*(T*T):=by grind
   _<=_:=this
 have hi:isq (N*(T*T))<isq N*T+T:=by
  rcases Nat.lt_or_ge (isq (N*(T*T))) (isq N*T+T)with h|h
  ·exact h
  ·rw[ge_iff_le,q7z]at h;have h3:(isq N*T+T)*(isq N*T+T)=(isq N+1)*(isq N+1)*(T*T):=by grind
   rw[h3]at h;have:=Nat.le_of_mul_le_mul_right h (Nat.mul_pos hTp hTp);omega
 have⟨r,hr⟩:∃r,isq (N*(T*T))=isq N*T+r:=⟨isq (N*(T*T))-isq N*T,by omega⟩
 rw[hr,hT];refine qdp hm (by rw[<-hT];omega) ?_ (fun _=>hp);rw[<-hT];rw[Bool.eq_iff_iff];simp only[decide_eq_true_eq,Bool.or_eq_true];constructor
 ·intro h;by_cases h0:r=0
  ·left;subst h0;intro h2;have:(isq N*T+0)*(isq N*T+0)=isq N*isq N*(T*T):=by grind
   rw[this]at h2;exact h (Nat.eq_of_mul_eq_mul_right (Nat.mul_pos hTp hTp) h2)
  ·exact .inr h0
 ·rintro h h2;have e1:isq (N*(T*T))=isq N*T:=by
   have:∀M:Nat,isq (M*M)=M:=fun M=>by
    have a1:=(q7z (N:=M*M) (G:=M)).2 (Nat.le_refl _);have a2:=(qeo (M*M)).1;rcases Nat.lt_or_ge M (isq (M*M))with h|h
    ·have:=Nat.mul_lt_mul_of_lt_of_le h (Nat.le_of_lt h) (by omega);omega
    ·omega
   have e2:N*(T*T)=(isq N*T)*(isq N*T):=by
    calc N*(T*T)=isq N*isq N*(T*T):=by rw[h2]
     _=_:=by grind
   rw[e2,this]
  have r0:r=0:=by omega
  subst r0;rcases h with h|h
  ·apply h;have:(isq N*T+0)*(isq N*T+0)=isq N*isq N*(T*T):=by grind
   rw[this,h2]
  ·exact h rfl
theorem qye {d:Dy}{p:Int}{up:Bool}(od:d.Ok)(hp:precB p=true)(hm:d.m≠[])(hn:d.neg=false) :
 ∃k a':Nat,(k:Int)=d.e+32768+2*a'/\isq (natV d.m*2^k)≠0 /\
  rSqrt d p up=cutR false (isq (natV d.m*2^k)) (-16384-(a':Int)) (decide (isq (natV d.m*2^k)*isq (natV d.m*2^k)≠natV d.m*2^k)) p.toNat up:=by
 have h:=precB_iff.1 hp;have hA:=qcq od.tr hm;have e1:=od.elo;have⟨K,hK⟩:∃K,K=sqK d p:=⟨_,rfl⟩
 have hK1:2*p+4<=bitL (natV d.m)+K/\(d.e-(K:Int))%2=0:=by
  rw[hK];unfold sqK;split
  ·omega
  ·omega
 have hb2:=qft (m:=natV d.m) (j:=K) (r:=0) hA (Nat.two_pow_pos K);rw[Nat.add_zero]at hb2;have hq:=(q70 (m:=natV d.m*2^K) (c:=p.toNat) (by omega) (by omega)).1;have hN:natV d.m*2^K≠0:=Nat.mul_ne_zero hA (Nat.ne_of_gt (Nat.two_pow_pos K));have⟨E,hE⟩:∃E,E=(d.e-(K:Int))/2:=⟨_,rfl⟩
 have hE2:d.e-(K:Int)=2*E:=by omega
 have⟨j,hj⟩:∃j,j=(E+16384).toNat:=⟨_,rfl⟩
 have ek:natV d.m*2^(K+2*j)=natV d.m*2^K*2^(2*j):=by rw[Nat.pow_add,Nat.mul_assoc]
 refine⟨K+2*j,(-16384-E).toNat,by omega,?_,?_⟩
 ·rw[ek];intro h0;have:=(qeo (natV d.m*2^K*2^(2*j))).2;rw[h0]at this;have:=Nat.mul_pos (Nat.pos_of_ne_zero hN) (Nat.two_pow_pos (2*j));omega
 ·have sh:=qaf9 (N:=natV d.m*2^K) (p:=p.toNat) (j:=j) (e:=E) (up:=up) hN hq;unfold rSqrt;rw[if_pos (qgf (by simpa using od) hp),hn,<-hK,<-hE,ek];simp only[Bool.false_eq_true,if_false];rw[if_neg hm,<-sh]
  congr 1
  omega
theorem qaga {A a' e k:Nat}(h:k=e+16384+2*a')(g:Int):g*pw a'*(g*pw a')<=(A:Int)*pw k↔g*g<=(A:Int)*pw e*pw 16384:=by
 have h2:g*g*(pw a'*pw a')<=((A:Int)*pw e*pw 16384)*(pw a'*pw a')↔g*g<=(A:Int)*pw e*pw 16384:=qav (Int.mul_pos (qax a') (qax a'));rw[<-h2];have e1:(A:Int)*pw k=((A:Int)*pw e*pw 16384)*(pw a'*pw a'):=by
  rw[h,qa3,qa3,<-qa3 a' a',show 2*a'=a'+a' by omega];simp only[Int.mul_assoc]
 have e2:g*pw a'*(g*pw a')=g*g*(pw a'*pw a'):=by grind
 rw[e1,e2]
theorem qabf {A a' e k:Nat}(h:k=e+16384+2*a')(g:Int):(A:Int)*pw k<=g*pw a'*(g*pw a')↔(A:Int)*pw e*pw 16384<=g*g:=by
 have h2:((A:Int)*pw e*pw 16384)*(pw a'*pw a')<=g*g*(pw a'*pw a')↔(A:Int)*pw e*pw 16384<=g*g:=qav (Int.mul_pos (qax a') (qax a'));rw[<-h2];have e1:(A:Int)*pw k=((A:Int)*pw e*pw 16384)*(pw a'*pw a'):=by
  rw[h,qa3,qa3,<-qa3 a' a',show 2*a'=a'+a' by omega];simp only[Int.mul_assoc]
 have e2:g*pw a'*(g*pw a')=g*g*(pw a'*pw a'):=by grind
 rw[e1,e2]
theorem q13 {d:Dy}(hn:d.neg=false):d.val=(natV d.m:Int)*pw (d.e+16384).toNat:=by
 unfold Dy.val Dy.absN;rw[hn,qbt];simp
theorem qtx {d:Dy}{p:Int}(od:d.Ok)(hp:precB p=true)(hm:d.m≠[])(hn:d.neg=false):IsDn p.toNat (rSqrt d p false) (sqLe d.val):=by
 have h:=precB_iff.1 hp;have e0:=od.elo;obtain⟨k,a',hk,hne,hd⟩:=qye (up:=false) od hp hm hn;rw[hd];refine(qaeb (by omega) (by omega) rfl (fun h0=>absurd h0 hne)).congr fun g=>?_
 simp only[Bool.false_eq_true,if_false];unfold sqLe;rw[q13 hn,<-qaga (A:=natV d.m) (a':=a') (e:=(d.e+16384).toNat) (k:=k) (by omega) g];obtain⟨n,rfl|rfl⟩:=g.eq_nat_or_neg
 ·rw[qbt,qbt];have:=q7z (N:=natV d.m*2^k) (G:=n*2^a');have e3:(((n*2^a':Nat):Int)*((n*2^a':Nat):Int))=((n*2^a'*(n*2^a'):Nat):Int):=by simp
  rw[e3];by_cases h0:n=0
  ·subst h0;simp
  ·constructor
   ·intro h2;right;omega
   ·rintro(h2|h2)
    ·omega
    ·omega
 ·rw[Int.neg_mul,qbt];constructor
  ·intro _;left;omega
  ·intro _;omega
theorem qtw {d:Dy}{p:Int}(od:d.Ok)(hp:precB p=true)(hm:d.m≠[])(hn:d.neg=false):IsUp p.toNat (rSqrt d p true) (sqGe d.val):=by
 have h:=precB_iff.1 hp;have e0:=od.elo;obtain⟨k,a',hk,hne,hd⟩:=qye (up:=true) od hp hm hn;rw[hd];refine(qad8 (by omega) (by omega) rfl (fun h0=>absurd h0 hne)).congr fun g=>?_
 simp only[Bool.false_eq_true,if_false];unfold sqGe;rw[q13 hn,<-qabf (A:=natV d.m) (a':=a') (e:=(d.e+16384).toNat) (k:=k) (by omega) g];have iu:=fun G=>qanf (N:=natV d.m*2^k) (G:=G)
 generalize (if decide (isq (natV d.m*2^k)*isq (natV d.m*2^k)≠natV d.m*2^k)=true then 1 else 0:Nat)=c at *
 obtain⟨n,rfl|rfl⟩:=g.eq_nat_or_neg
 ·rw[qbt,qbt];have:=iu (n*2^a');have e3:(((n*2^a':Nat):Int)*((n*2^a':Nat):Int))=((n*2^a'*(n*2^a'):Nat):Int):=by simp
  rw[e3];omega
 ·rw[Int.neg_mul,qbt];have i0:=Nat.pos_of_ne_zero hne;constructor
  ·intro _;omega
  ·rintro⟨h1,h2⟩;have n0:n=0:=by omega
   subst n0;rw[Nat.zero_mul]at h2 ⊢;have:=iu 0;rw[qbt]at h2;simp only[Int.natCast_zero,Int.zero_mul,Int.neg_zero]at h2;omega
theorem IsDn.exact {p:Nat}{r:Dy × Int}{le:Int->Prop}(h:IsDn p r le){V:Int}(hV:GridI p V)(hle:∀g,le g↔g<=V):r.2=0/\r.1.val=V:=by
 rcases h with ⟨a,b,c⟩|⟨_,c⟩
 ·have h1:=(c V hV).2 ((hle V).2 (Int.le_refl _));have h2:=(hle _).1 ((c _ b).1 (Int.le_refl _));exact⟨a,by omega⟩
 ·exact absurd ((hle V).2 (Int.le_refl _)) (c V hV)
theorem IsUp.exact {p:Nat}{r:Dy × Int}{ge:Int->Prop}(h:IsUp p r ge){V:Int}(hV:GridI p V)(hge:∀g,ge g↔V<=g):r.2=0/\r.1.val=V:=by
 rcases h with ⟨a,b,c⟩|⟨_,c⟩
 ·have h1:=(c V hV).2 ((hge V).2 (Int.le_refl _));have h2:=(hge _).1 ((c _ b).1 (Int.le_refl _));exact⟨a,by omega⟩
 ·exact absurd ((hge V).2 (Int.le_refl _)) (c V hV)
theorem qpp {k:Int}:(nD k).val=k*pw 16384:=by
 unfold nD;have hA:((0:Int)+16384).toNat=16384:=rfl;rw[qyu (by omega),<-qbt,hA];obtain⟨n,rfl|rfl⟩:=k.eq_nat_or_neg
 ·rw[if_neg (by simp)];simp
 ·by_cases h:n=0
  ·subst h;simp
  ·rw[if_pos (by simp;omega),Int.neg_mul];simp
theorem qacg {k:Int}{a:Nat}:(k*pw a).natAbs=k.natAbs*2^a:=by
 rw[Int.natAbs_mul];rfl
theorem qagr {k:Int}(hk:k.natAbs<=1048576):(nI k k).known=true:=by
 have ok:=nD_ok (k:=k) (by omega);simp[Iv.known,Iv.valid,nI,ok.valid,(q1n ok ok).2 rfl]
theorem qabg {G V:Int}(hG:0<=G)(hV:0<=V):G*G<=V*V↔G<=V:=by
 constructor
 ·intro h;rcases Int.lt_or_le V G with h1|h1
  ·have:=Int.mul_le_mul (Int.le_of_lt h1) (Int.le_of_lt h1) hV hG;have h2:V*V<G*G:=by
    have a1:V*V<=V*G:=Int.mul_le_mul_of_nonneg_left (Int.le_of_lt h1) hV;have a2:V*G<G*G:=Int.mul_lt_mul_of_pos_right h1 (by omega);omega
   omega
  ·exact h1
 ·intro h;exact Int.mul_le_mul h h hG hV
end Go.Abs.W
