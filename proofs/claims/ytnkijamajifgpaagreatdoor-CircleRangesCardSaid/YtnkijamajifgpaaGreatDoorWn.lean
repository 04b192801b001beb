/- Parts of the proof: FpWn, FpWo, FpWp, FpWq, FpWr. -/
import Derived.Test.YtnkijamajifgpaaGreatDoorWg
import Derived.Test.YtnkijamajifgpaaGreatDoorWc
import Derived.Test.YtnkijamajifgpaaGreatDoorWy
import Derived.Test.YtnkijamajifgpaaGreatDoorWd
namespace Go.Abs.W
theorem of_G {neg:Bool}{n:Nat}{e:Int}(h1:-16384<=e)(h2:e<=1000)(hn:bitL n<=17500):(Dy.of neg n e).G/\(Dy.of neg n e).M:=by
 unfold Dy.of;by_cases h0:n=0
 ·rw[if_pos h0];exact⟨⟨by intro x hx;simp at hx,by intro x hx;simp at hx,fun _=>⟨rfl,rfl⟩,by show(-16384:Int)<=0;omega⟩,⟨by intro x hx;simp at hx,by simp,by show(-20000:Int)<=0;omega,by show(0:Int)<=20000;omega⟩⟩
 ·rw[if_neg h0];have ht:=tz_le h0;have hb:=bitL_gt.2 ht;have hq:n/2^tz n≠0:=by
   have:=(Nat.le_div_iff_mul_le (Nat.two_pow_pos (tz n)) (x:=1) (y:=n)).2 (by omega);omega
  have hne:=qcw hq;have⟨K,hK⟩:∃K,K=600:=⟨_,rfl⟩
  have hlen:(qad (n/2^tz n)).length<=K:=by
   refine limbsOf_len.2 ?_;have l1:n<2^bitL n:=(qa8 h0).2.1;have l2:2^bitL n<=2^(32*K):=Nat.pow_le_pow_right (by omega) (by omega);rw[<-pow32]at l2;exact Nat.lt_of_le_of_lt (Nat.div_le_self _ _) (Nat.lt_of_lt_of_le l1 l2)
  rw[hK]at hlen;exact⟨⟨qaf _,qd3 _,fun h=>absurd h hne,by show -16384<=e+(tz n:Int);omega⟩,⟨qaf _,hlen,by show -20000<=e+(tz n:Int);omega,by show e+(tz n:Int)<=20000;omega⟩⟩
theorem sum_G {a b:Dy}(oa:a.Ok)(ob:b.Ok)(ta:a.top<=1000)(tb:b.top<=1000):(a.sum b).G/\(a.sum b).M:=by
 unfold Dy.sum;by_cases na:a.m=[]
 ·rw[if_pos na];exact⟨ob.toG,ob.toM⟩
 ·by_cases nb:b.m=[]
  ·rw[if_neg na,if_pos nb];exact⟨oa.toG,oa.toM⟩
  ·rw[if_neg na,if_neg nb];have⟨e,he⟩:∃e,e=min a.e b.e:=⟨_,rfl⟩
   simp only[<-he];have h1:=oa.elo;have h2:=ob.elo;have ea:a.top=bitL (natV a.m)+a.e:=by unfold Dy.top;rw[if_neg na]
   have ba:=qqw na (show e<=a.e by omega);have bb:=qqw nb (show e<=b.e by omega);have bs:=qik (k:=17400) (Nat.le_trans ba (by omega)) (Nat.le_trans bb (by omega));split
   ·exact of_G (by omega) (by omega) (by omega)
   ·split
    ·have:=qat (Nat.sub_le (sumX a e) (sumX b e));exact of_G (by omega) (by omega) (by omega)
    ·have:=qat (Nat.sub_le (sumX b e) (sumX a e));exact of_G (by omega) (by omega) (by omega)
theorem qpb (a b:Dy)(oa:a.Ok)(ob:b.Ok):CQ prog qsi [a.v,b.v] (a.lo2 b).v:=by
 refine qah rfl fun H=>?_
 have c:=qqr a b oa ob;unfold Dy.lo2;by_cases h:a.cmp b<=0
 ·rw[if_pos h];simp;refine zq c ?_;simp[h,lim]
 ·rw[if_neg h];simp;refine zq c ?_;simp[h,lim]
set_option maxHeartbeats 1000000 in
theorem q2y (x a b:Iv)(n:Int)(wx:x.W)(wa:a.W)(wb:b.W)(kx:x.known=true)(ka:a.known=true)(kb:b.known=true)(h1:-16384<=n)(h2:n<=900)(ta:a.lo.top<=900)(tb:b.hi.top<=900)
 (g1:x.lo.val<=a.hi.val) (g2:b.lo.val<=x.hi.val) (g3:a.lo.val-pw (n+16384).toNat<=x.lo.val) (g4:x.hi.val<=b.hi.val+pw (n+16384).toNat):CQ prog qhg [x.v,a.v,b.v,.int .i64 n] (.bool true):=by
 refine qah rfl fun H=>?_
 obtain⟨x1,x2⟩:=qai wx kx;obtain⟨a1,a2⟩:=qai wa ka;obtain⟨b1,b2⟩:=qai wb kb;have op:=qkc (n:=n) h1 (by omega);have on:=qa9 op;have tp:(pwD n).top<=1000:=by
  have hm:(pwD n).m≠[]:=by
   intro h;have:=Dy.absN_nil h;have v:=qgj (n:=n) h1;have nb:=qdt (pwD n);have:=qaw (n+16384).toNat;omega
  have h:=q72 (t:=901) op (by rw[qgj h1];have:=qaw (16384+901);have:=qaw (n+16384).toNat;omega) (by rw[qgj h1];exact pw_le (by omega));omega
 obtain⟨s1,s2⟩:=sum_G a1 on (by omega) (by rw[neg'_same.2.2];omega);obtain⟨r1,r2⟩:=sum_G b2 op (by omega) (by omega);have v1:=(q0a a1 on).1;have v2:=(q0a b2 op).1;rw[qco,qgj h1]at v1;rw[qgj h1]at v2;have c1:=qqr x.lo a.hi x1 a2;have c2:=qqr x.hi b.lo x2 b1;have c3:=qr0 n h1 (by omega);have c4:=qj6 (pwD n);have c5:=qaai a.lo (pwD n).neg' a1.toM on.toM;have c6:=qaai b.hi (pwD n) b2.toM op.toM;have c7:=q2r x.lo (a.lo.sum (pwD n).neg') x1.toG s1 x1.toM s2;have c8:=q2r x.hi (b.hi.sum (pwD n)) x2.toG r1 x2.toM r2;have q1:¬0<x.lo.cmp a.hi:=by
  have:x.lo.cmp a.hi<=0:=by rw[qie x1 a2,cmpI_le];exact g1
  omega
 have q2:¬x.hi.cmp b.lo<0:=by
  have:cmpI b.lo.val x.hi.val<=0:=cmpI_le.2 g2;rw[qie x2 b1];unfold cmpI at this ⊢;split<;>(try split)<;>omega
 have q3:0<=cmpI x.lo.val (a.lo.sum (pwD n).neg').val:=by
  rw[v1];unfold cmpI;split<;>(try split)<;>omega
 have q4:cmpI x.hi.val (b.hi.sum (pwD n)).val<=0:=by
  rw[v2,cmpI_le];omega
 have ha:=(qb6 kx).2;clear v1 v2 s1 s2 r1 r2 tp on op;generalize cmpI x.lo.val (a.lo.sum (pwD n).neg').val=k3 at *
 generalize cmpI x.hi.val (b.hi.sum (pwD n)).val=k4 at *
 generalize x.lo.cmp a.hi=k1 at *
 generalize x.hi.cmp b.lo=k2 at *
 generalize a.lo.sum (pwD n).neg'=S at *
 generalize b.hi.sum (pwD n)=R at *
 generalize (pwD n).neg'=N at *
 generalize pwD n=P at *
 rcases x with ⟨xl,xh,xa⟩;simp only at ha;subst ha;simp only at c1 c2 c7 c8;simp;refine zq c1 ?_;simp[q1];refine zq c2 ?_;simp[q2];refine zq c3 ?_;simp;refine zq c4 ?_;simp;refine zq c5 ?_;simp;refine zq c6 ?_;simp;refine zq c7 ?_;simp[q3];refine zq c8 ?_;simp[q4]
theorem q3y {x:Iv}(h:q0w x=true):qvi x=true/\x.hi.rat<=x.lo.rat+ulp 0 180:=by
 unfold q0w at h;simp only[Bool.and_eq_true,decide_eq_true_eq]at h;obtain⟨⟨⟨k,h1⟩,h2⟩,h3⟩:=h;have l:pw 16204<=pw 16284:=pw_le (by omega);constructor
 ·unfold qvi;simp only[Bool.and_eq_true,decide_eq_true_eq];exact⟨⟨⟨k,h1⟩,h2⟩,by omega⟩
 ·have hsc:=qbf;have c3:=qav h3;have e3:((pw 16204:Int):Rat)=ulp 0 180*sc:=qn7 (t:=0) (p:=180) (by omega);rw[Rat.intCast_sub,e3,<-qay x.hi,<-qay x.lo]at c3;exact Rat.le_of_mul_le_mul_right (c:=sc) (by grind) hsc
theorem ql1 : half190.W:=q5r
theorem half190_H : Half half190 half190.lo.rat:=qae4 (q3y qkr).1
theorem half190_Nr : Nr half190 half190.lo.rat (ulp 0 180):=⟨half190_H.n.k,by have:=qmf 0 180;grind,(q3y qkr).2⟩
theorem qvp : half190.Has hpi:=(q6o rPi_W (q6d (p:=190) (by omega) (by omega))).near (Near.of_eq fun n=>by show hpi n=2*hpi n/2;grind)
def tQ (d:Dy):Iv:=(Iv.pt d).div half190 (190:Nat)
theorem tQ_W {d:Dy}:(tQ d).W:=div_W
theorem tQ_Nr {d:Dy}(ok:d.Ok)(ht:d.top<=6):∃s,s*half190.lo.rat=d.rat/\Bd s 64/\Nr (tQ d) s (ulp 0 173):=by
 have hp:precB ((190:Nat):Int)=true:=by decide
 have hh:=half190_H;have D:=qme ok (t:=6) (by omega);rw[show p2 6=64 from rfl]at D;have l:=hh.lo;generalize hg:half190.lo.rat=h at *
 have h0:0<h:=by grind
 have hm:=qa0 h0;obtain⟨D1,D2⟩:=D;have U180:ulp 0 180=(p2 180)⁻¹:=qc5 (by omega);have U173:ulp 0 173=(p2 173)⁻¹:=qc5 (by omega);have U7:ulp 7 190=(p2 183)⁻¹:=qc5 (by omega);have p180:(0:Rat)<(p2 180)⁻¹:=Rat.inv_pos.2 (qa4 180);have e173:(p2 173)⁻¹=128*(p2 180)⁻¹:=by
  have a:=qa0 (qa4 173);have b:=qa0 (qa4 180);have c:p2 180=p2 173*128:=qdy 173 7;have d0:=qa4 173;refine qfh (c:=p2 173) (by grind) ?_;have:128*(p2 180)⁻¹*p2 173=p2 180*(p2 180)⁻¹:=by rw[c];grind
  rw[this,b,Rat.mul_comm,a]
 have i183:(p2 183)⁻¹<=(p2 180)⁻¹:=qdz (qa4 180) (qak (Nat.pow_le_pow_right (by omega) (by omega)));have i180:(p2 180)⁻¹<=1/1024:=by
  have:=qdz (qa4 10) (show p2 10<=p2 180 from qak (Nat.pow_le_pow_right (by omega) (by omega)));rw[show p2 10=1024 from rfl]at this;grind
 have⟨s,hs⟩:∃s,s=d.rat*h⁻¹:=⟨_,rfl⟩
 have es:s*h=d.rat:=by rw[hs,Rat.mul_assoc,Rat.mul_comm h⁻¹,hm,Rat.mul_one]
 have sb:Bd s 64:=by
  constructor
  ·rcases(inferInstance:Decidable (-64<=s))with h1|h1
   ·exfalso;have m:=mul_nn (show 0<=-64-s by grind) (show 0<=h-1 by grind);grind
   ·exact h1
  ·rcases(inferInstance:Decidable (s<=64))with h1|h1
   ·exfalso;have m:=mul_nn (show 0<=s-64 by grind) (show 0<=h-1 by grind);grind
   ·exact h1
 have nH:=half190_Nr;rw[hg]at nH;refine⟨s,es,sb,?_⟩;have q:=qali (p:=190) (t:=7) (pt_W ok.w) ql1 hp (pt_Nr ok) nH (by rw[U180];generalize (p2 180)⁻¹=E at *;grind) es sb (by omega) (by rw[U180,show p2 7=128 from rfl];generalize (p2 180)⁻¹=E at *;grind);refine q.mono ?_;rw[U180,U173,U7,e173];grind
def tFrom (x:Iv):Int:=-qc8 (tQ x.lo).lo.neg'
def tTo (x:Iv):Int:=qc8 (tQ x.hi).hi
theorem tEnd {d:Dy}(ok:d.Ok)(ht:d.top<=6):(tQ d).known=true/\Bd (tQ d).lo.rat 128/\Bd (tQ d).hi.rat 128:=by
 obtain⟨s,_,⟨b1,b2⟩,nq⟩:=tQ_Nr ok ht;obtain⟨⟨e1,e2⟩,⟨e3,e4⟩⟩:=nq.ends tQ_W;have U173:ulp 0 173=(p2 173)⁻¹:=qc5 (by omega);have i173:(p2 173)⁻¹<=1:=by
  have:=qdz (qa4 0) (show p2 0<=p2 173 from qak (Nat.pow_le_pow_right (by omega) (by omega)));have e:(p2 0)⁻¹=1:=by show(1:Rat)⁻¹=1;grind
  grind
 rw[U173]at e1 e2 e3 e4;exact⟨nq.k,⟨by grind,by grind⟩,⟨by grind,by grind⟩⟩
set_option maxHeartbeats 1000000 in
theorem qaj9 (x:Iv)(ol:x.lo.Ok)(oh:x.hi.Ok)(tl:x.lo.top<=6)(th:x.hi.top<=6):CQ prog qv3 [x.v,.int .i64 150] (.tup [.int .i64 (tFrom x),.int .i64 (tTo x)]):=by
 refine qah rfl fun H=>?_
 obtain⟨k1,b1,_⟩:=tEnd ol tl;obtain⟨k2,_,b2⟩:=tEnd oh th;have o1:=qa9 (qai tQ_W k1).1;have o2:=(qai tQ_W k2).2;obtain⟨f1,f2⟩:=q18 (t:=7) o1 (by omega) (by rw[qgz,show p2 7=128 from rfl];obtain⟨u,v⟩:=b1;constructor<;>grind);obtain⟨f3,f4⟩:=q18 (t:=7) o2 (by omega) (by rw[show p2 7=128 from rfl];exact b2);have wl:(Iv.pt x.lo).W:=pt_W ol.w;have wh:(Iv.pt x.hi).W:=pt_W oh.w;have c1:CQ prog qhf [.int .i64 190] (rPi 190).v:=qr8 190 (by omega) (by omega);have c2:CQ prog qix [(rPi 190).v,.int .i64 (-1)] half190.v:=qpm (rPi 190) (-1) rPi_W;have c3:=qhb x.lo;have c4:CQ prog qih [(Iv.pt x.lo).v,half190.v,.int .i64 190] (tQ x.lo).v:=qg7 (Iv.pt x.lo) half190 190 wl ql1;have c5:=qhb x.hi;have c6:CQ prog qih [(Iv.pt x.hi).v,half190.v,.int .i64 190] (tQ x.hi).v:=qg7 (Iv.pt x.hi) half190 190 wh ql1;have c7:=qj6 (tQ x.lo).lo;have c8:=q2u (tQ x.lo).lo.neg' o1 f1 f2;have c9:=q2u (tQ x.hi).hi o2 f3 f4;have bf:-1125899906842626<=qc8 (tQ x.lo).lo.neg'/\qc8 (tQ x.lo).lo.neg'<=1125899906842626:=by
  unfold qc8;split
  ·split<;>omega
  ·omega
 have eF:tFrom x=-qc8 (tQ x.lo).lo.neg':=rfl;have eT:tTo x=qc8 (tQ x.hi).hi:=rfl;rw[eF,eT];have ew:IntKind.i64.wrap (-qc8 (tQ x.lo).lo.neg')=-qc8 (tQ x.lo).lo.neg':=by rw[wrap_i64]<;>omega
 clear eF eT b1 b2 k1 k2 o1 o2 f1 f2 f3 f4;generalize qc8 (tQ x.lo).lo.neg'=F1 at *
 generalize qc8 (tQ x.hi).hi=F2 at *
 generalize (tQ x.lo).lo.neg'=N at *
 generalize tQ x.lo=Q1 at *
 generalize tQ x.hi=Q2 at *
 generalize Iv.pt x.lo=P1 at *
 generalize Iv.pt x.hi=P2 at *
 generalize half190=hf at *
 generalize rPi 190=pi at *
 simp;refine zq c1 ?_;simp;refine zq c2 ?_;simp;refine zq c3 ?_;simp;refine zq c4 ?_;simp;refine zq c5 ?_;simp;refine zq c6 ?_;simp;refine zq c7 ?_;simp;refine zq c8 ?_;simp[ew];refine zq c9 ?_;simp
def tA (c:Bool)(r fr:Int):Nat->Bool
 |0=>false
 |i+1=>tA c r fr i ||decide ((fr+i+(if c=true then 1 else 0))%4=r)
theorem qakr {c:Bool}{r fr:Int}:∀{n:Nat},tA c r fr n=true↔∃i:Nat,i<n/\(fr+i+(if c=true then 1 else 0))%4=r
 |0=>by simp[tA]
 |n+1=>by
  unfold tA;rw[Bool.or_eq_true,qakr,decide_eq_true_eq];constructor
  ·rintro(⟨i,h1,h2⟩|h)
   ·exact⟨i,by omega,h2⟩
   ·exact⟨n,by omega,h⟩
  ·rintro⟨i,h1,h2⟩;rcases Nat.lt_or_ge i n with h|h
   ·exact .inl ⟨i,h,h2⟩
   ·have:i=n:=by omega
    subst this;exact .inr h2
def rF (c:Bool)(d:Dy):Iv:=if c=true then rScC d else rScS d
def tN (x:Iv):Nat:=(tTo x+1-tFrom x).toNat
def q9b (x:Iv)(c:Bool):Iv:=⟨(rF c x.lo).lo.lo2 (rF c x.hi).lo,(rF c x.lo).hi.lo2 (rF c x.hi).hi,false⟩
def most0 (x:Iv)(c:Bool):Iv:=⟨((rF c x.lo).lo.neg'.lo2 (rF c x.hi).lo.neg').neg',((rF c x.lo).hi.neg'.lo2 (rF c x.hi).hi.neg').neg',false⟩
def ql0 (x:Iv)(c:Bool):Iv:=if tA c 3 (tFrom x) (tN x)=true then Iv.pt (nD (-1))else q9b x c
def mostI (x:Iv)(c:Bool):Iv:=if tA c 1 (tFrom x) (tN x)=true then Iv.pt (nD 1)else most0 x c
set_option maxHeartbeats 4000000 in
theorem qaal (x:Iv)(c:Bool)(ol:x.lo.Ok)(oh:x.hi.Ok)(tl:x.lo.top<=6)(th:x.hi.top<=6)(kl:(rF c x.lo).known=true)(kh:(rF c x.hi).known=true)(wl:(rF c x.lo).W)(wh:(rF c x.hi).W)(hf:-200<=tFrom x)(ht:tTo x<=200):CQ prog qv4 [x.v,.bool c,.int .i64 150] (.tup [(ql0 x c).v,(mostI x c).v]):=by
 refine qah rfl fun H=>?_
 have c1:=qy1 x.lo ol (by omega);have c2:=qy1 x.hi oh (by omega);obtain⟨l1,l2⟩:=qai wl kl;obtain⟨h1,h2⟩:=qai wh kh;have s1:=qpb (rF c x.lo).lo (rF c x.hi).lo l1 h1;have s2:=qpb (rF c x.lo).hi (rF c x.hi).hi l2 h2;have n1:=qj6 (rF c x.lo).lo;have n2:=qj6 (rF c x.hi).lo;have n3:=qj6 (rF c x.lo).hi;have n4:=qj6 (rF c x.hi).hi;have s3:=qpb (rF c x.lo).lo.neg' (rF c x.hi).lo.neg' (qa9 l1) (qa9 h1);have s4:=qpb (rF c x.lo).hi.neg' (rF c x.hi).hi.neg' (qa9 l2) (qa9 h2);have n5:=qj6 ((rF c x.lo).lo.neg'.lo2 (rF c x.hi).lo.neg');have n6:=qj6 ((rF c x.lo).hi.neg'.lo2 (rF c x.hi).hi.neg');have ct:=qaj9 x ol oh tl th;have i1:=q8i 1 (by omega) (by omega);have i2:=q8i (-1) (by omega) (by omega);have p1:=qhb (nD 1);have p2:=qhb (nD (-1));have eL:q9b x c=⟨(rF c x.lo).lo.lo2 (rF c x.hi).lo,(rF c x.lo).hi.lo2 (rF c x.hi).hi,false⟩:=rfl;have eM:most0 x c=⟨((rF c x.lo).lo.neg'.lo2 (rF c x.hi).lo.neg').neg',((rF c x.lo).hi.neg'.lo2 (rF c x.hi).hi.neg').neg',false⟩:=rfl
 have rL:ql0 x c=if tA c 3 (tFrom x) (tN x)=true then Iv.pt (nD (-1))else q9b x c:=rfl;have rM:mostI x c=if tA c 1 (tFrom x) (tN x)=true then Iv.pt (nD 1)else most0 x c:=rfl;have eN:(tN x:Int)=max 0 (tTo x+1-tFrom x):=by unfold tN;omega
 rw[rL,rM];generalize q9b x c=L0 at *
 generalize most0 x c=M0 at *
 generalize (rF c x.lo).lo.lo2 (rF c x.hi).lo=v1 at *
 generalize (rF c x.lo).hi.lo2 (rF c x.hi).hi=v2 at *
 generalize ((rF c x.lo).lo.neg'.lo2 (rF c x.hi).lo.neg').neg'=v3 at *
 generalize ((rF c x.lo).hi.neg'.lo2 (rF c x.hi).hi.neg').neg'=v4 at *
 generalize (rF c x.lo).lo.neg'.lo2 (rF c x.hi).lo.neg'=u3 at *
 generalize (rF c x.lo).hi.neg'.lo2 (rF c x.hi).hi.neg'=u4 at *
 generalize (rF c x.lo).lo.neg'=w1 at *
 generalize (rF c x.hi).lo.neg'=w2 at *
 generalize (rF c x.lo).hi.neg'=w3 at *
 generalize (rF c x.hi).hi.neg'=w4 at *
 generalize tFrom x=fr at *
 generalize tTo x=to at *
 generalize tN x=N at *
 have eA:rF c x.lo=if c=true then rScC x.lo else rScS x.lo:=rfl;have eB:rF c x.hi=if c=true then rScC x.hi else rScS x.hi:=rfl;generalize rF c x.lo=A at *
 generalize rF c x.hi=B at *
 generalize Iv.pt (nD 1)=One at *
 generalize Iv.pt (nD (-1))=Mone at *
 generalize nD 1=d1 at *
 generalize nD (-1)=dm at *
 clear rL rM l1 l2 h1 h2 kl kh wl wh ol oh tl th;generalize rScC x.lo=CL at *
 generalize rScC x.hi=CH at *
 generalize rScS x.lo=SL at *
 generalize rScS x.hi=SH at *
 subst eL eM;cases c
 ·simp only[Bool.false_eq_true,if_false]at eA eB;subst eA eB;simp;refine zq c1 ?_;simp;refine zq c2 ?_;simp;refine zq s1 ?_;simp;refine zq s2 ?_;simp;refine zq n1 ?_;simp;refine zq n2 ?_;simp;refine zq s3 ?_;simp;refine zq n5 ?_;simp;refine zq n3 ?_;simp;refine zq n4 ?_;simp;refine zq s4 ?_;simp;refine zq n6 ?_;simp;refine zq ct ?_;simp;refine WK_up (fun i E H'=>(∃b1 b2 b3 b4:V,H'=H++[some ⟨7,[x.v],false,true⟩,some ⟨7,[zIv],false,true⟩,some ⟨7,[zIv],false,true⟩,some ⟨7,[b1],false,true⟩,some ⟨7,[b2],false,true⟩,some ⟨7,[b3],false,true⟩,some ⟨7,[b4],false,true⟩,
   some ⟨7,[(if tA false 3 fr i=true then Mone else⟨v1,v2,false⟩:Iv).v],false,true⟩,some ⟨7,[(if tA false 1 fr i=true then One else⟨v3,v4,false⟩:Iv).v],false,true⟩]) /\
   E 1=.bool false/\E 6=.ptr (H.length+1) 0 0/\E 7=.ptr (H.length+2) 0 0/\E 12=.ptr (H.length+7) 0 0/\E 13=.ptr (H.length+8) 0 0/\E 15=.int .i64 to/\E 16=.int .i64 (fr+i)) N ?_ ?_
  ·exact⟨⟨_,_,_,_,by simp[tA,zIv,lim];exact⟨rfl,rfl,rfl,rfl⟩⟩,by simp,by simp,by simp,by simp,by simp,by simp,by simp⟩
  ·rintro i E H' hi ⟨⟨b1,b2,b3,b4,rfl⟩,e1,e6,e7,e12,e13,e15,e16⟩;by_cases hle:fr+(i:Int)<=to
   ·obtain⟨m1,m2,m3⟩:=qz7 (fr+i);have ew:IntKind.i64.wrap ((fr+(i:Int)).tmod 4+4)=(fr+(i:Int)).tmod 4+4:=by rw[wrap_i64]<;>omega
    have e9:IntKind.i64.wrap (fr+(i:Int)+1)=fr+((i+1:Nat):Int):=by rw[wrap_i64]<;>omega
    have⟨q,hq⟩:∃q:Int,q=(fr+i)%4:=⟨_,rfl⟩
    rw[<-hq]at m1;have t1:tA false 1 fr (i+1)=(tA false 1 fr i ||decide (q=1)):=by rw[hq];simp[tA]
    have t3:tA false 3 fr (i+1)=(tA false 3 fr i ||decide (q=3)):=by rw[hq];simp[tA]
    clear hq;refine qam ?_;by_cases q1:q=1
    ·have q3:¬q=3:=by omega
     simp[qbe,e1,e15,e16,hle,ew,m1,q1];refine zq i1 ?_;simp;refine zq p1 ?_;simp[e1,e6,e7,e12,e13,e15,e16,q1,t1,t3];exact⟨by omega,by simpa using e9⟩
    ·by_cases q3:q=3
     ·simp[qbe,e1,e15,e16,hle,ew,m1,q3];refine zq i2 ?_;simp;refine zq p2 ?_;simp[e1,e6,e7,e12,e13,e15,e16,q3,t1,t3];exact⟨by omega,by simpa using e9⟩
     ·simp[qbe,e1,e6,e7,e12,e13,e15,e16,hle,ew,m1,q1,q3,t1,t3];exact⟨by omega,by simpa using e9⟩
   ·have hN:i=N:=by omega
    subst hN;refine qam ?_;simp[qbe,e6,e7,e12,e13,e15,e16,hle,qzf,qse,qzg,apart,zIv]
 ·simp only[if_true]at eA eB;subst eA eB;simp;refine zq c1 ?_;simp;refine zq c2 ?_;simp[qzf,qse,qzg,apart];refine zq s1 ?_;simp;refine zq s2 ?_;simp;refine zq n1 ?_;simp;refine zq n2 ?_;simp;refine zq s3 ?_;simp;refine zq n5 ?_;simp;refine zq n3 ?_;simp;refine zq n4 ?_;simp;refine zq s4 ?_;simp;refine zq n6 ?_;simp;refine zq ct ?_;simp;refine WK_up (fun i E H'=>(∃b1 b2 b3 b4:V,H'=H++[some ⟨7,[x.v],false,true⟩,some ⟨7,[zIv],false,true⟩,some ⟨7,[zIv],false,true⟩,some ⟨7,[b1],false,true⟩,some ⟨7,[b2],false,true⟩,some ⟨7,[b3],false,true⟩,some ⟨7,[b4],false,true⟩,
   some ⟨7,[(if tA true 3 fr i=true then Mone else⟨v1,v2,false⟩:Iv).v],false,true⟩,some ⟨7,[(if tA true 1 fr i=true then One else⟨v3,v4,false⟩:Iv).v],false,true⟩]) /\
   E 1=.bool true/\E 6=.ptr (H.length+1) 0 0/\E 7=.ptr (H.length+2) 0 0/\E 12=.ptr (H.length+7) 0 0/\E 13=.ptr (H.length+8) 0 0/\E 15=.int .i64 to/\E 16=.int .i64 (fr+i)) N ?_ ?_
  ·exact⟨⟨_,_,_,_,by simp[tA,zIv,lim];exact⟨rfl,rfl,rfl,rfl⟩⟩,by simp,by simp,by simp,by simp,by simp,by simp,by simp⟩
  ·rintro i E H' hi ⟨⟨b1,b2,b3,b4,rfl⟩,e1,e6,e7,e12,e13,e15,e16⟩;by_cases hle:fr+(i:Int)<=to
   ·obtain⟨m1,m2,m3⟩:=qz7 (fr+i);have ew:IntKind.i64.wrap ((fr+(i:Int)).tmod 4+4)=(fr+(i:Int)).tmod 4+4:=by rw[wrap_i64]<;>omega
    have e9:IntKind.i64.wrap (fr+(i:Int)+1)=fr+((i+1:Nat):Int):=by rw[wrap_i64]<;>omega
    have⟨q,hq⟩:∃q:Int,q=(fr+i+1)%4:=⟨_,rfl⟩
    have ew2:IntKind.i64.wrap ((fr+(i:Int))%4+1)=(fr+(i:Int))%4+1:=by rw[wrap_i64]<;>omega
    have m4:((fr+(i:Int))%4+1).tmod 4=q:=by rw[Int.tmod_eq_emod_of_nonneg (by omega)];omega
    have t1:tA true 1 fr (i+1)=(tA true 1 fr i ||decide (q=1)):=by rw[hq];simp[tA]
    have t3:tA true 3 fr (i+1)=(tA true 3 fr i ||decide (q=3)):=by rw[hq];simp[tA]
    clear hq;refine qam ?_;by_cases q1:q=1
    ·have q3:¬q=3:=by omega
     simp[qbe,e1,e15,e16,hle,ew,m1,q1,ew2,m4];refine zq i1 ?_;simp;refine zq p1 ?_;simp[e1,e6,e7,e12,e13,e15,e16,q1,t1,t3];exact⟨by omega,by simpa using e9⟩
    ·by_cases q3:q=3
     ·simp[qbe,e1,e15,e16,hle,ew,m1,q3,ew2,m4];refine zq i2 ?_;simp;refine zq p2 ?_;simp[e1,e6,e7,e12,e13,e15,e16,q3,t1,t3];exact⟨by omega,by simpa using e9⟩
     ·simp[qbe,e1,e6,e7,e12,e13,e15,e16,hle,ew,m1,q1,q3,ew2,m4,t1,t3];exact⟨by omega,by simpa using e9⟩
   ·have hN:i=N:=by omega
    subst hN;refine qam ?_;simp[qbe,e6,e7,e12,e13,e15,e16,hle,qzf,qse,qzg,apart,zIv]
def Bw (k:Int):Int:=k*pw 16384
theorem qahj {p:Nat}{k:Int}(hp:16<=p)(h:k.natAbs<65536):GridI p (Bw k):=by
 refine qpj (b:=16) ?_ h (by unfold capE;omega);have:2^16<=2^p:=Nat.pow_le_pow_right (by omega) hp;have e:(2:Nat)^16=65536:=rfl;omega
theorem qn2 {a b:Int}(h:a<=b):Bw a<=Bw b:=Int.mul_le_mul_of_nonneg_right h (Int.le_of_lt (qaw _))
theorem qar3 {a b:Int}:Bw (a+b)=Bw a+Bw b:=Int.add_mul _ _ _
theorem qxp : Bw 1=pw 16384:=Int.one_mul _
theorem qaat : Bw 2=pw 16385:=(qcj 16384).symm
theorem qxc {x y:Iv}{p:Nat}{a b c:Int}(wx:x.W)(wy:y.W)(hp:precB (p:Int)=true)(h16:16<=p)(hx:x.Bt (-Bw a) (Bw a))(hy:y.Bt (-Bw b) (Bw b))(e:a+b=c)(h:c.natAbs<65536):(x.add y p).Bt (-Bw c) (Bw c):=by
 subst e;have e:=qar3 (a:=a) (b:=b);exact qagw wx wy hp hx hy (qpi (qahj h16 h)) (qahj h16 h) (by omega) (by omega)
theorem q5h {d:Dy}{k:Int}(o:d.Ok)(h0:0<=d.val)(h:d.val<=Bw k):(qbt d).Bt (-Bw k) (Bw k):=by
 refine⟨qbj (qa9 o) o (by rw[qco];omega),?_,h⟩;show _<=d.neg'.val;rw[qco];omega
theorem q3t {x:Iv}{k:Int}(w:x.W)(h:x.Bt (-Bw k) (Bw k)):x.neg.Bt (-Bw k) (Bw k):=by
 have:=q3u w h;rwa[Int.neg_neg]at this
theorem qaqb {n:Nat}{T:Iv}{k:Int}(w:T.W)(h:T.Bt (-Bw k) (Bw k)):(prt n T).Bt (-Bw k) (Bw k):=by
 unfold prt;split;exact q3t w h;exact h
theorem qaks {r:Iv}{p:Nat}(wr:r.W)(hp:precB (p:Int)=true)(h16:16<=p)(hr:r.Bt (-pw 16385) (pw 16385)):∀(f j:Nat) (t s c:Iv),f+j<=2000->t.W->t.Bt (-pw (sE j)) (pw (sE j))->s.W->c.W ->
 s.Bt (-Bw (2*j+1)) (Bw (2*j+1))->c.Bt (-Bw (2*j+1)) (Bw (2*j+1))->(srG r p f (j+1) t s c).1.Bt (-Bw 4001) (Bw 4001)/\(srG r p f (j+1) t s c).2.Bt (-Bw 4001) (Bw 4001)
 |0,j,t,s,c,hf,wt,bt,ws,wc,bs,bc=>by
  have m:=qn2 (show 2*(j:Int)+1<=4001 by omega);exact⟨bs.mono (by omega) m,bc.mono (by omega) m⟩
 |f+1,j,t,s,c,hf,wt,bt,ws,wc,bs,bc=>by
  have m:=qn2 (show 2*(j:Int)+1<=4001 by omega);unfold srG;split
  ·exact⟨bs.mono (by omega) m,bc.mono (by omega) m⟩
  ·have bT:=qac3 wt wr hp bt hr (show j<=10000 by omega);have l:=pw_le (sE_le (j+1));have bT2:(srT r p (j+1) t).Bt (-Bw 2) (Bw 2):=bT.mono (by rw[qaat];omega) (by rw[qaat];exact l);have bP:=qaqb (n:=j+1) srT_W bT2;have e:(2*(j:Int)+1)+2=2*((j+1:Nat):Int)+1:=by omega
   have a1:=qxc ws (prt_W srT_W) hp h16 bs bP e (by omega);have a2:=qxc wc (prt_W srT_W) hp h16 bc bP e (by omega);have m2:=qn2 (show 2*(j:Int)+1<=2*((j+1:Nat):Int)+1 by omega);refine qaks wr hp h16 hr f (j+1) _ _ _ (by omega) srT_W bT (srS_W ws) (srC_W wc) ?_ ?_
   ·unfold srS;split;exact a1;exact bs.mono (by omega) m2
   ·unfold srC;split;exact bc.mono (by omega) m2;exact a2
theorem qamv {r:Iv}{p:Nat}(wr:r.W)(hp:precB (p:Int)=true)(h16:16<=p)(hr:r.Bt (-pw 16385) (pw 16385)):(rSin r p).Bt (-Bw 4002) (Bw 4002)/\(rCos r p).Bt (-Bw 4002) (Bw 4002):=by
 have hpp:=precB_iff.1 hp;have w0:(nI 0 0).W:=nI_Wk (by decide);have w1:(nI 1 1).W:=nI_Wk (by decide);have p0:=qaw 16384;have b0:(nI 0 0).Bt (-Bw (2*((0:Nat):Int)+1)) (Bw (2*((0:Nat):Int)+1)):=(nI_Bt (k:=0) (by decide)).mono (by show -((1:Int)*pw 16384)<=_;omega) (by show _<=(1:Int)*pw 16384;omega);have b1:(nI 1 1).Bt (-Bw (2*((0:Nat):Int)+1)) (Bw (2*((0:Nat):Int)+1)):=(nI_Bt (k:=1) (by decide)).mono (by show -((1:Int)*pw 16384)<=_;omega) (by show _<=(1:Int)*pw 16384;omega);obtain⟨s,c⟩:=qaks wr hp h16 hr 1000 0 (nI 1 1) (nI 0 0) (nI 1 1) (by omega) w1 qaec w0 w1 b0 b1;have o:=qkc (n:=1-(p:Int)) (by omega) (by omega);have v:=qgj (n:=1-(p:Int)) (by omega);have q:=qaw (1-(p:Int)+16384).toNat;have l:pw (1-(p:Int)+16384).toNat<=pw 16384:=pw_le (by omega);have a:=q5h (k:=1) o (by omega) (by rw[qxp];omega);obtain⟨g1,g2⟩:=srG_W (r:=r) (p:=(p:Int)) 1000 1 (nI 1 1) (nI 0 0) (nI 1 1) w0 w1;exact⟨qxc g1 (qgg o) hp h16 s a (by decide) (by decide),qxc g2 (qgg o) hp h16 c a (by decide) (by decide)⟩
theorem rF_W {c:Bool}{d:Dy}:(rF c d).W:=by unfold rF;split;exact qap6;exact qap5
theorem rF_Bw {c:Bool}{d:Dy}(ok:d.Ok)(ht:d.top<=20):(rF c d).Bt (-Bw 4002) (Bw 4002):=by
 obtain⟨_,_,_,bt,_⟩:=q8p ok ht;obtain⟨s,co⟩:=qamv (p:=210) rR_W (by decide) (by decide) bt;have ns:=q3t qu7 s;have nc:=q3t qva co;generalize Bw 4002=B at *
 unfold rF;split
 ·unfold rScC;split;exact co;split;exact ns;split;exact nc;exact s
 ·unfold rScS;split;exact s;split;exact co;split;exact ns;exact nc
theorem qak2 {c:Bool}{d:Dy}(ok:d.Ok)(ht:d.top<=20):(rF c d).Has (Fn c (cK d.rat)):=by
 obtain⟨s,co⟩:=qam3 ok ht;unfold rF Fn;cases c
 ·exact s
 ·exact co
theorem qak0 {q:Iv}{p:Nat}(wq:q.W)(hp:precB (p:Int)=true)(h16:16<=p)(hq:q.Bt (-pw 16380) (pw 16380)):∀(f j n:Nat) (w s:Iv),f+j<=2000->1<=n->n+2*f<=10000->w.W->w.Bt (-pw 16382) (pw 16382)->s.W->s.Bt (-Bw (j+1)) (Bw (j+1))->(rcG q p f n w s).Bt (-Bw 2001) (Bw 2001)
 |0,j,n,w,s,hf,hn,hn2,ww,bw,ws,bs=>by
  have m:=qn2 (show(j:Int)+1<=2001 by omega);exact bs.mono (by omega) m
 |f+1,j,n,w,s,hf,hn,hn2,ww,bw,ws,bs=>by
  have m:=qn2 (show(j:Int)+1<=2001 by omega);unfold rcG;split
  ·exact bs.mono (by omega) m
  ·have p0:=qaw 16384;have p2:=qaw 16382;have m1:=qzc (c:=pw 16382) ww wq hp bw hq (qc1 (by omega)) (by rw[<-qbh,<-qbh];exact pw_le (by omega));have m2:=q3u mul_W m1;rw[Int.neg_neg]at m2;have ni:=nI_Bt (k:=(n:Int)) (by omega);have d:=qwx (c:=pw 16382) (neg_W mul_W) (nI_Wk (by omega)) hp m2 ni (Int.mul_pos (by omega) p0) (qc1 (by omega)) (Int.le_of_lt p2) (by
    have:(1:Int)*pw 16384<=(n:Int)*pw 16384:=Int.mul_le_mul_of_nonneg_right (by omega) (Int.le_of_lt p0);rw[Int.one_mul]at this;exact Int.mul_le_mul_of_nonneg_left this (Int.le_of_lt p2))
   have l:pw 16382<=pw 16384:=pw_le (by omega);have d2:=d.mono (C:=-Bw 1) (D:=Bw 1) (by rw[qxp];omega) (by rw[qxp];omega);have e:(j:Int)+1+1=((j+1:Nat):Int)+1:=by omega
   have a:=qxc ws div_W hp h16 bs d2 e (by omega);exact qak0 wq hp h16 hq f (j+1) (n+2) _ _ (by omega) (by omega) (by omega) (neg_W mul_W) m2 add_W a
theorem qam4 {y:Iv}{p:Nat}(wy:y.W)(hp:precB (p:Int)=true)(h16:16<=p)(h:y.Bt (-pw 16382) (pw 16382)):(rArc y p).Bt (-Bw 2002) (Bw 2002):=by
 have hpp:=precB_iff.1 hp;have l:pw 16382<=pw 16384:=pw_le (by omega);have g:=qak0 sq_W hp h16 (q8c wy hp h) 1000 0 3 y y (by omega) (by omega) (by omega) wy h wy (h.mono (by show -Bw 1<=_;rw[qxp];omega) (by show _<=Bw 1;rw[qxp];omega));have o:=qkc (n:=-(p:Int)) (by omega) (by omega);have v:=qgj (n:=-(p:Int)) (by omega);have q:=qaw (-(p:Int)+16384).toNat;have l2:pw (-(p:Int)+16384).toNat<=pw 16384:=pw_le (by omega);have a:=q5h (k:=1) o (by omega) (by rw[qxp];omega);exact qxc (rcG_W _ _ _ _ wy) (qgg o) hp h16 g a (by decide) (by decide)
def hR : Rat:=half190.lo.rat
theorem hR_bd : 3/2<=hR/\hR<=17/10:=by
 refine⟨half190_H.lo,?_⟩;obtain⟨a,_⟩:=qed half190_H.n.k qvp;exact SLe.const (a.trans (SLe.of_le 0 fun n _=>(qn3 n).2))
theorem qanw : ∃N,∀n,N<=n->Bd (hpi n-hR) (2*ulp 0 180):=by
 obtain⟨a,b⟩:=qed half190_H.n.k qvp;have u:=qmf 0 180;have hi:=half190_Nr.hi;obtain⟨N,hN⟩:=a (ulp 0 180) u;obtain⟨M,hM⟩:=b (ulp 0 180) u;refine⟨max N M,fun n hn=>?_⟩;have p:half190.lo.rat<=hpi n+ulp 0 180:=hN n (by omega);have q:hpi n<=half190.hi.rat+ulp 0 180:=hM n (by omega);show Bd (hpi n-half190.lo.rat) _;constructor<;>grind
theorem qz6 {p k:Nat}(h:k<=p):ulp 0 p*p2 (p-k)=ulp 0 k:=by
 have e1:ulp 0 p=(p2 p)⁻¹:=qc5 (by omega);have e2:ulp 0 k=(p2 k)⁻¹:=qc5 (by omega);rw[e1,e2];have a:=qa0 (qa4 p);have b:=qa0 (qa4 k);have c:p2 p=p2 k*p2 (p-k):=by rw[<-qdy];exact congrArg p2 (by omega)
 have k0:=qa4 k;refine qfh (c:=p2 k) (by grind) ?_;have:(p2 p)⁻¹*p2 (p-k)*p2 k=p2 p*(p2 p)⁻¹:=by rw[c];grind
 rw[this,a,Rat.mul_comm,b]
theorem qut {k:Int}(hk:k.natAbs<=200):∃N,∀n,N<=n->Bd ((k:Rat)*hpi n-(k:Rat)*hR) (ulp 0 160):=by
 obtain⟨N,hN⟩:=qanw;have e:=qz6 (p:=180) (k:=160) (by omega);rw[show p2 (180-160)=1048576 from rfl]at e;have u:=qmf 0 180;have kb:Bd (k:Rat) 200:=by
  have h1:=qav (show k<=200 by omega);have h2:=qav (show -200<=k by omega);exact⟨h2,h1⟩
 refine⟨N,fun n hn=>?_⟩;obtain⟨a,b⟩:=kb.mul (hN n hn);constructor<;>grind
theorem tQ_In {d:Dy}(ok:d.Ok):(tQ d).In (d.rat/hR):=by
 refine q43 (pt_W ok.w) ql1 (pt_In d) ?_;intro _;show _<=half190.lo.rat*sc/\half190.lo.rat*sc<=_;have le:=qap ql1 half190_H.n.k;rw[qay];exact⟨Rat.le_refl,qav le⟩
theorem qaax {x:Iv}{k:Int}(ol:x.lo.Ok)(oh:x.hi.Ok)(tl:x.lo.top<=6)(th:x.hi.top<=6)(h1:tFrom x<=k)(h2:k<=tTo x):x.lo.rat-ulp 0 160<=(k:Rat)*hR/\(k:Rat)*hR<=x.hi.rat+ulp 0 160/\k.natAbs<=140:=by
 obtain⟨k1,b1,_⟩:=tEnd ol tl;obtain⟨k2,_,b2⟩:=tEnd oh th;obtain⟨s1,e1,_,n1⟩:=tQ_Nr ol tl;obtain⟨s2,e2,_,n2⟩:=tQ_Nr oh th;obtain⟨⟨p1,p2⟩,_⟩:=n1.ends tQ_W;obtain⟨_,⟨p3,p4⟩⟩:=n2.ends tQ_W;have o1:=qa9 (qai tQ_W k1).1;have o2:=(qai tQ_W k2).2;obtain⟨f1,_⟩:=ql5 o1;obtain⟨f2,_⟩:=ql5 o2;rw[qgz]at f1;have c1:=qav (show -k<=qc8 (tQ x.lo).lo.neg' by unfold tFrom at h1;omega);have c2:=qav (show k<=qc8 (tQ x.hi).hi from h2);rw[Rat.intCast_neg]at c1;obtain⟨h3,h4⟩:=hR_bd;have u:=qmf 0 173;have e:=qz6 (p:=173) (k:=160) (by omega);rw[show Go.Abs.W.p2 (173-160)=8192 from rfl]at e;have E1:s1*hR=x.lo.rat:=e1;have E2:s2*hR=x.hi.rat:=e2;obtain⟨q1,q2⟩:=b1;obtain⟨q3,q4⟩:=b2;refine⟨?_,?_,?_⟩
 ·have m:=mul_nn (show 0<=(k:Rat)-(s1-ulp 0 173) by grind) (show 0<=hR by grind);have m2:=mul_nn (show 0<=17/10-hR by grind) (Rat.le_of_lt u);grind
 ·have m:=mul_nn (show 0<=(s2+ulp 0 173)-(k:Rat) by grind) (show 0<=hR by grind);have m2:=mul_nn (show 0<=17/10-hR by grind) (Rat.le_of_lt u);grind
 ·have l1:(-140:Int)<=k:=Rat.intCast_le_intCast.1 (by show(-140:Rat)<=_;grind);have l2:k<=(140:Int):=Rat.intCast_le_intCast.1 (by show _<=(140:Rat);grind);omega
theorem q9c {d:Dy}{k:Int}(ok:d.Ok)(h:(k:Rat)<=d.rat):k<=qc8 d:=by
 obtain⟨_,f⟩:=ql5 ok;have:(k:Rat)<((qc8 d+1:Int):Rat):=by rw[Rat.intCast_add];show _<_+(1:Rat);grind
 have:=Rat.intCast_lt_intCast.1 this;omega
theorem q7z {x:Iv}{k:Int}(oh:x.hi.Ok)(th:x.hi.top<=6)(h:(k:Rat)*hR<=x.hi.rat):k<=tTo x:=by
 obtain⟨k2,_,_⟩:=tEnd oh th;have o2:=(qai tQ_W k2).2;obtain⟨_,i⟩:=tQ_In oh k2;obtain⟨h3,h4⟩:=hR_bd;have r0:0<hR:=by grind
 have im:=qa0 r0;have ip:=Rat.inv_pos.2 r0;rw[<-qay]at i;have i2:=Rat.le_of_mul_le_mul_right i qbf;refine q9c o2 (Rat.le_trans ?_ i2);rw[Rat.div_def];have m:=mul_nn (show 0<=x.hi.rat-(k:Rat)*hR by grind) (Rat.le_of_lt ip);have e:(x.hi.rat-(k:Rat)*hR)*hR⁻¹=x.hi.rat*hR⁻¹-(k:Rat)*(hR*hR⁻¹):=by grind
 rw[e,im]at m;grind
theorem q7y {x:Iv}{k:Int}(ol:x.lo.Ok)(tl:x.lo.top<=6)(h:x.lo.rat<=(k:Rat)*hR):tFrom x<=k:=by
 obtain⟨k1,_,_⟩:=tEnd ol tl;have o1:=(qai tQ_W k1).1;obtain⟨i,_⟩:=tQ_In ol k1;obtain⟨h3,h4⟩:=hR_bd;have r0:0<hR:=by grind
 have im:=qa0 r0;have ip:=Rat.inv_pos.2 r0;rw[<-qay]at i;have i2:=Rat.le_of_mul_le_mul_right i qbf;have key:-k<=qc8 (tQ x.lo).lo.neg':=by
  refine q9c (qa9 o1) ?_;rw[qgz,Rat.intCast_neg];rw[Rat.div_def]at i2;have m:=mul_nn (show 0<=(k:Rat)*hR-x.lo.rat by grind) (Rat.le_of_lt ip);have e:((k:Rat)*hR-x.lo.rat)*hR⁻¹=(k:Rat)*(hR*hR⁻¹)-x.lo.rat*hR⁻¹:=by grind
  rw[e,im]at m;grind
 unfold tFrom;omega
theorem tA_found {x:Iv}{c:Bool}{r:Int}:tA c r (tFrom x) (tN x)=true↔∃k:Int,tFrom x<=k/\k<=tTo x/\(k+(if c=true then 1 else 0))%4=r:=by
 rw[qakr];unfold tN;constructor
 ·rintro⟨i,h1,h2⟩;exact⟨tFrom x+i,by omega,by omega,h2⟩
 ·rintro⟨k,h1,h2,h3⟩;exact⟨(k-tFrom x).toNat,by omega,by rw[show tFrom x+((k-tFrom x).toNat:Int)=k by omega];exact h3⟩
theorem qaaw {x:Iv}{c:Bool}{r:Int}(ol:x.lo.Ok)(oh:x.hi.Ok)(tl:x.lo.top<=6)(th:x.hi.top<=6)(hr:0<=r/\r<4)(h:x.lo.rat+69/10<=x.hi.rat):tA c r (tFrom x) (tN x)=true:=by
 obtain⟨h3,h4⟩:=hR_bd;have r0:0<hR:=by grind
 have im:=qa0 r0;have⟨m,hm⟩:∃m:Int,m=-(-(x.lo.rat*hR⁻¹)).floor:=⟨_,rfl⟩
 have a1:x.lo.rat*hR⁻¹<=(m:Rat):=by
  have:=Rat.floor_le (-(x.lo.rat*hR⁻¹));rw[hm,Rat.intCast_neg];grind
 have a2:(m:Rat)<x.lo.rat*hR⁻¹+1:=by
  have:=Rat.lt_floor_add_one (-(x.lo.rat*hR⁻¹));rw[hm,Rat.intCast_neg];grind
 have⟨k,k1,k2,k3⟩:∃k:Int,m<=k/\k<=m+3/\(k+(if c=true then 1 else 0))%4=r:=by
  refine⟨m+(r-(m+(if c=true then 1 else 0)))%4,?_,?_,?_⟩<;>split<;>omega
 have c1:=qav k1;have c2:=qav k2;rw[Rat.intCast_add,show((3:Int):Rat)=3 from rfl]at c2;have e:x.lo.rat*hR⁻¹*hR=x.lo.rat:=by rw[Rat.mul_assoc,Rat.mul_comm hR⁻¹,im,Rat.mul_one]
 refine tA_found.2 ⟨k,q7y ol tl ?_,q7z oh th ?_,k3⟩
 ·have m1:=mul_nn (show 0<=(k:Rat)-x.lo.rat*hR⁻¹ by grind) (Rat.le_of_lt r0);have:((k:Rat)-x.lo.rat*hR⁻¹)*hR=(k:Rat)*hR-x.lo.rat*hR⁻¹*hR:=by grind
  rw[this,e]at m1;grind
 ·have m1:=mul_nn (show 0<=x.lo.rat*hR⁻¹+4-(k:Rat) by grind) (Rat.le_of_lt r0);have:(x.lo.rat*hR⁻¹+4-(k:Rat))*hR=x.lo.rat*hR⁻¹*hR+4*hR-(k:Rat)*hR:=by grind
  rw[this,e]at m1;grind
end Go.Abs.W
