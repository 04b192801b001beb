/- Parts of the proof: FpQ2, FpQ3, FpXa, FpXb, FpXc, FpXd. -/
import Derived.Test.YtpdchdfajhbglaaGreatDoorHk
import Derived.Test.YtpdchdfajhbglaaGreatDoorXa
import Derived.Test.YtpdchdfajhbglaaGreatDoorHp
import Derived.Test.YtpdchdfajhbglaaGreatDoorFe
import Derived.Test.YtpdchdfajhbglaaGreatDoorHy
namespace Go.Abs.W
theorem qu1 {x:Iv}{p:Int}{q:Rat}(wx:x.W)(hq:x.In q):(x.rnd p).In q:=by
 unfold Iv.rnd;split
 ·rename_i h;simp only[Bool.and_eq_true]at h;obtain⟨k1,hp⟩:=h;obtain⟨a1,a2⟩:=qai wx k1;obtain⟨q1,q2⟩:=hq k1;unfold Iv.made;split
  ·rename_i h0;intro _;have u:=qa7 ((qr3 a1 hp).at h0.1);have v:=qa7 ((qr2 a2 hp).at h0.2);exact⟨Rat.le_trans u q1,Rat.le_trans q2 v⟩
  ·exact .whole
 ·exact .whole
def rabs (q:Rat):Rat:=if 0<=q then q else -q
theorem qado (q:Rat):rabs q*rabs q=q*q:=by unfold rabs;split<;>grind
theorem qab0 {x:Iv}{q:Rat}(wx:x.W)(hq:x.In q):x.abs.In (rabs q):=by
 cases hk:x.known
 ·have:x.abs=Iv.whole:=by unfold Iv.abs;rw[hk];rfl
  rw[this];exact .whole
 ·obtain⟨v1,v2⟩:=qm3 wx hk;obtain⟨r1,r2⟩:=hq hk;intro _;have hs:=qda;have e:rabs q*sc=rabs (q*sc):=by
   unfold rabs;by_cases h:0<=q
   ·rw[if_pos h,if_pos (mul_nn h (Rat.le_of_lt hs))]
   ·have h2:¬0<=q*sc:=by
     have:=Rat.mul_pos (show 0 < -q by grind) hs;grind
    rw[if_neg h,if_neg h2];grind
  rw[e];have p0:0<=rabs (q*sc):=by unfold rabs;split<;>grind
  have le0:=qan wx hk;generalize q*sc=u at *
  refine⟨?_,?_⟩
  ·by_cases h1:0<x.lo.val
   ·have c:=qa7 (show x.abs.lo.val<=x.lo.val by rw[v2,if_pos (.inl h1)];omega);have c0:=qa7 (Int.le_of_lt h1);unfold rabs;rw[if_pos (by grind)];grind
   ·by_cases h2:x.hi.val<0
    ·have c:=qa7 (show x.abs.lo.val<=-x.hi.val by rw[v2,if_pos (.inr h2)];omega);have c0:=qfm h2;rw[Rat.intCast_neg]at c;unfold rabs;rw[if_neg (by grind)];grind
    ·rw[v2,if_neg (by omega)];exact p0
  ·unfold rabs;split
   ·have c:=qa7 (show x.hi.val<=x.abs.hi.val by rw[v1];omega);grind
   ·have c:=qa7 (show -x.lo.val<=x.abs.hi.val by rw[v1];omega);rw[Rat.intCast_neg]at c;grind
theorem sq_In {x:Iv}{p:Int}{q:Rat}(wx:x.W)(hq:x.In q):(x.sq p).In (q*q):=by
 rw[qux wx,<-qado];exact qvg (abs_W wx) (abs_W wx) (qab0 wx hq) (qab0 wx hq)
def Iv.Has (x:Iv)(s:Nat->Rat):Prop:=∃c:Nat->Rat,(∀n,x.In (c n))/\Near s c
theorem Iv.Has.near {x:Iv}{s t:Nat->Rat}(h:x.Has s)(k:Near t s):x.Has t:=by
 obtain⟨c,h1,h2⟩:=h;exact⟨c,h1,k.trans h2⟩
theorem Iv.In.has {x:Iv}{q:Rat}(h:x.In q):x.Has (fun _=>q):=⟨_,fun _=>h,Near.refl _⟩
theorem Near.of_ev {s t:Nat->Rat}(N:Nat)(h:∀n,N<=n->s n=t n):Near s t:=fun ε he=>⟨N,fun n hn=>by have:=h n hn;constructor<;>grind⟩
theorem Iv.Has.of_ev {x:Iv}{s:Nat->Rat}(N:Nat)(h:∀n,N<=n->x.In (s n)):x.Has s:=
 ⟨fun n=>s (max n N),fun n=>h _ (by omega),Near.of_ev N fun n hn=>by rw[Nat.max_eq_left hn]⟩
theorem Iv.Has.whole {s:Nat->Rat}:Iv.whole.Has s:=⟨s,fun _=>.whole,Near.refl s⟩
theorem qtr {x y:Iv}{p:Int}{s t:Nat->Rat}(wx:x.W)(wy:y.W)(hs:x.Has s)(ht:y.Has t):(x.add y p).Has (fun n=>s n+t n):=by
 obtain⟨c,h1,h2⟩:=hs;obtain⟨d,k1,k2⟩:=ht;exact⟨fun n=>c n+d n,fun n=>qmn wx wy (h1 n) (k1 n),h2.add k2⟩
theorem qahg {x:Iv}{s:Nat->Rat}(wx:x.W)(hs:x.Has s):x.neg.Has (fun n=>-s n):=by
 obtain⟨c,h1,h2⟩:=hs;exact⟨fun n=>-c n,fun n=>qafq wx (h1 n),h2.neg⟩
theorem qwx {x y:Iv}{p:Int}{s t:Nat->Rat}(wx:x.W)(wy:y.W)(hs:x.Has s)(ht:y.Has t)(bs:Bnd s)(bt:Bnd t):(x.mul y p).Has (fun n=>s n*t n):=by
 obtain⟨c,h1,h2⟩:=hs;obtain⟨d,k1,k2⟩:=ht;exact⟨fun n=>c n*d n,fun n=>qvg wx wy (h1 n) (k1 n),h2.mul k2 bs bt⟩
theorem q8d {x:Iv}{p:Int}{s:Nat->Rat}(wx:x.W)(hs:x.Has s)(bs:Bnd s):(x.sq p).Has (fun n=>s n*s n):=by
 obtain⟨c,h1,h2⟩:=hs;exact⟨fun n=>c n*c n,fun n=>sq_In wx (h1 n),h2.mul h2 bs bs⟩
theorem qag3 {x:Iv}{p:Int}{s:Nat->Rat}(wx:x.W)(hs:x.Has s):(x.rnd p).Has s:=by
 obtain⟨c,h1,h2⟩:=hs;exact⟨c,fun n=>qu1 wx (h1 n),h2⟩
theorem qae8 {x y:Iv}{s:Nat->Rat}(kx:x.known=true)(ky:y.known=true)(hx:x.Has s)(hy:y.Has s):x.lo.val<=y.hi.val/\y.lo.val<=x.hi.val:=by
 obtain⟨c,h1,h2⟩:=hx;obtain⟨d,k1,k2⟩:=hy;have hs:=qda;have nr:=h2.symm.trans k2;have key:∀{u v:Nat->Rat} {a b:Int},Near u v->(∀n,(a:Rat)<=u n*sc)->(∀n,v n*sc<=(b:Rat))->a<=b:=by
  intro u v a b hn ha hb;refine Rat.intCast_le_intCast.1 (Near.le (s:=fun n=>u n*sc) (t:=fun n=>v n*sc) ?_ ha hb);exact Null.congr (Null.mul hn (Bnd.const sc)) fun n=>by grind
 exact⟨key nr (fun n=>(h1 n kx).1) (fun n=>(k1 n ky).2),key nr.symm (fun n=>(k1 n ky).1) (fun n=>(h1 n kx).2)⟩
theorem qal5 {x:Iv}{s:Nat->Rat}(h:x.known=true->SLe (fun _=>(x.lo.val:Rat)) (fun n=>s n*sc)/\SLe (fun n=>s n*sc) (fun _=>(x.hi.val:Rat)))(wx:x.W):x.Has s:=by
 cases hk:x.known
 ·exact⟨s,(fun n (h:x.known=true)=>absurd h (by rw[hk];decide)),Near.refl s⟩
 obtain⟨h1,h2⟩:=h hk;have hs:=qda;have hi:=Rat.inv_pos.2 hs;have e:∀a:Rat,a*sc⁻¹*sc=a:=fun a=>by
  rw[Rat.mul_assoc,Rat.inv_mul_cancel sc (by grind),Rat.mul_one]
 have le0:=qa7 (qan wx hk);unfold Iv.Has Iv.In;generalize ((x.lo.val:Int):Rat)=a at *
 generalize ((x.hi.val:Int):Rat)=b at *
 have ea:=e a;have eb:=e b;have ab:a*sc⁻¹<=b*sc⁻¹:=Rat.mul_le_mul_of_nonneg_right le0 (Rat.le_of_lt hi);generalize a*sc⁻¹=u at *
 generalize b*sc⁻¹=v at *
 subst ea eb;have canc:∀{p q:Rat},p*sc<=q*sc->p<=q:=fun h=>Rat.le_of_mul_le_mul_right h hs
 refine⟨fun n=>if s n<u then u else if v<s n then v else s n,fun n _=>?_,?_⟩
 ·have m:∀{p q:Rat},p<=q->p*sc<=q*sc:=fun h=>Rat.mul_le_mul_of_nonneg_right h (Rat.le_of_lt hs)
  refine⟨m ?_,m ?_⟩
  ·show u<=if s n<u then u else if v<s n then v else s n;split
   ·exact Rat.le_refl
   ·split<;>grind
  ·show(if s n<u then u else if v<s n then v else s n)<=v;split
   ·exact ab
   ·split<;>grind
 ·intro ε he;obtain⟨N,hN⟩:=h1 (ε*sc) (Rat.mul_pos he hs);obtain⟨M,hM⟩:=h2 (ε*sc) (Rat.mul_pos he hs);refine⟨max N M,fun n hn=>?_⟩;have g1:u<=s n+ε:=canc (by have:=hN n (by omega);rw[Rat.add_mul];exact this);have g2:s n<=v+ε:=canc (by have:=hM n (by omega);rw[Rat.add_mul];exact this);show Bd (s n-if s n<u then u else if v<s n then v else s n) ε;split
  ·constructor<;>grind
  ·split<;>(constructor<;>grind)
theorem qnm {d:Dy}{k:Int}{a b:Nat}(ok:d.Ok)(hk:k=(a:Int)-b)(h:d.sclE k=0):(d.scl k).val*pw b=d.val*pw a:=by
 unfold Dy.sclE at h;unfold Dy.scl;split at h
 ·rename_i hc;rw[if_pos hc];unfold Dy.chkE at h;split at h
  ·rename_i hin;unfold Dy.chk;rw[if_pos hin];by_cases hm:d.m=[]
   ·have e1:(Dy.of d.neg (natV d.m) (d.e+k)).val=0:=by
     have:Dy.of d.neg (natV d.m) (d.e+k)=Dy.zero:=by rw[hm];rfl
     rw[this,qec]
    have e2:d.val=0:=by
     have:=Dy.absN_nil hm;unfold Dy.val;rw[this];simp
    rw[e1,e2,Int.zero_mul,Int.zero_mul]
   ·have hn:=qco ok.tr hm;have ho:=ok.odd hm;have ht:tz (natV d.m)=0:=q7k ho;have he:-16384<=d.e+k:=by
     have hb:=(qa4 hn).2.2;unfold Dy.of at hin;rw[if_neg hn,ht]at hin;unfold Dy.inR at hin;simp only[qad,Nat.pow_zero,Nat.div_one]at hin;simp only[Bool.or_eq_true,Bool.and_eq_true,decide_eq_true_eq,beq_iff_eq]at hin;have h0:bitL (natV d.m)≠0:=by unfold bitL;rw[if_neg hn];omega
     omega
    rw[qr8 he];have elo:=ok.elo;have e3:(2:Nat)^(d.e+k+16384).toNat*2^b=2^(d.e+16384).toNat*2^a:=by
     rw[<-Nat.pow_add,<-Nat.pow_add];congr 1;omega
    have e4:natV d.m*2^(d.e+k+16384).toNat*2^b=natV d.m*2^(d.e+16384).toNat*2^a:=by
     rw[Nat.mul_assoc,e3,Nat.mul_assoc]
    unfold Dy.val Dy.absN pw;split
    ·rw[Int.neg_mul,Int.neg_mul,<-Int.natCast_mul,<-Int.natCast_mul,e4]
    ·rw[<-Int.natCast_mul,<-Int.natCast_mul,e4]
  ·cases h
 ·cases h
theorem qki (a:Nat):(0:Rat)<(pw a:Rat):=by
 have:=qfm (qas a);simpa using this
theorem qu0 {x:Iv}{k:Int}{a b:Nat}{q r:Rat}(wx:x.W)(hk:k=(a:Int)-b)(hr:r*(pw b:Rat)=q*(pw a:Rat))(hq:x.In q):(x.scl k).In r:=by
 unfold Iv.scl;split
 ·rename_i kn;obtain⟨o1,o2⟩:=qai wx kn;obtain⟨q1,q2⟩:=hq kn;unfold Iv.made;split
  ·rename_i h0;intro _;have v1:=qnm o1 hk h0.1;have v2:=qnm o2 hk h0.2;have c1:(((x.lo.scl k).val:Int):Rat)*(pw b:Rat)=(x.lo.val:Rat)*(pw a:Rat):=by rw[<-Rat.intCast_mul,<-Rat.intCast_mul,v1]
   have c2:(((x.hi.scl k).val:Int):Rat)*(pw b:Rat)=(x.hi.val:Rat)*(pw a:Rat):=by rw[<-Rat.intCast_mul,<-Rat.intCast_mul,v2]
   have pa:=qki a;have pb:=qki b;refine⟨Rat.le_of_mul_le_mul_right (c:=(pw b:Rat)) ?_ pb,Rat.le_of_mul_le_mul_right (c:=(pw b:Rat)) ?_ pb⟩
   ·show(((x.lo.scl k).val:Int):Rat)*_<=_;rw[c1];have:=Rat.mul_le_mul_of_nonneg_right q1 (Rat.le_of_lt pa);have e:r*sc*(pw b:Rat)=q*sc*(pw a:Rat):=by grind
    rw[e];exact this
   ·show _<=(((x.hi.scl k).val:Int):Rat)*_;rw[c2];have:=Rat.mul_le_mul_of_nonneg_right q2 (Rat.le_of_lt pa);have e:r*sc*(pw b:Rat)=q*sc*(pw a:Rat):=by grind
    rw[e];exact this
  ·exact .whole
 ·exact .whole
theorem q39 {d:Dy}(ok:d.Ok):d.opp.val=-d.val:=by
 unfold Dy.opp;by_cases hm:d.m=[]
 ·rw[if_neg (fun h=>h.2 hm),qec];have:=Dy.absN_nil hm;unfold Dy.val;rw[this];simp
 ·rw[if_pos ⟨ok.valid,hm⟩];unfold Dy.val;have:Dy.absN ⟨!d.neg,d.m,d.e⟩=d.absN:=rfl;rw[this];cases d.neg<;>simp
theorem qakj {x:Iv}{q δ:Rat}(wx:x.W)(hk:x.known=true)(hq:x.In q)(hd:Bd δ (rabs q)):-(x.mag.val:Rat)<=δ*sc/\δ*sc<=(x.mag.val:Rat):=by
 have h:=(qab0 wx hq) (by
  have:=(qmo wx hk).1;exact this)
 have e:x.abs.hi=x.mag:=by unfold Iv.abs;rw[if_pos hk]
 rw[e]at h;have hs:=qda;obtain⟨d1,d2⟩:=hd;have a:=Rat.mul_le_mul_of_nonneg_right d1 (Rat.le_of_lt hs);have b:=Rat.mul_le_mul_of_nonneg_right d2 (Rat.le_of_lt hs);have c:=h.2;constructor<;>grind
def qcc (P:Int)(x:Iv):Bool:=!x.known ||decide (x.mag.sgn=0) ||decide (x.mag.top<=-P)
def qck (x:Iv):Iv:=if x.known=true then⟨x.mag.opp,x.mag,false⟩else Iv.whole
def expG (P:Int)(y:Iv):Nat->Nat->Iv->Iv->Iv × Iv
 |0,_,t,s=>(t,s)
 |f+1,n,t,s=>
  let t':=(t.mul y P).div (nI n n) P
  let s':=s.add t' P
  if qcc P t'=true then(t',s')else expG P y f (n+1) t' s'
def expI (P:Int)(y:Iv):Iv:=
 let r:=expG P y 1000 1 (nI 1 1) (nI 1 1)
 r.2.add (qck r.1) P
def qey (P:Int):Nat->Iv->Iv
 |0,y=>expI P y
 |n+1,y=>(qey P n (y.scl (-1))).sq P
def gP (p more:Int):Int:=min (p+more) 512
def qc6 (d:Dy)(p:Int):Iv:=
 if d.sgn=0 then nI 1 1 else
 let n:=(d.top+1).toNat
 let P:=gP p (n+24)
 (qey P n ((Iv.pt d).rnd P)).rnd p
def endsI (a b:Iv):Iv:=if(a.all ||b.all)=true then Iv.whole else⟨a.lo,b.hi,false⟩
def modB (d:Dy):Bool:=decide (d.abs.cmp (nD 1000)<=0)
def Iv.exp (x:Iv)(p:Int):Iv:=if(x.known&&precB p&&modB x.lo&&modB x.hi)=true then endsI (qc6 x.lo p) (qc6 x.hi p)else Iv.whole
def logG (P:Int)(sq:Iv):Nat->Nat->Iv->Iv->Iv × Iv
 |0,_,w,s=>(w,s)
 |f+1,n,w,s=>if qcc P w=true then(w,s)else
  let w':=w.mul sq P
  logG P sq f (n+2) w' (s.add (w'.div (nI n n) P) P)
def logI (P:Int)(z:Iv):Iv:=
 let r:=logG P (z.sq P) 1000 3 z z
 (r.2.add (qck r.1) P).scl 1
def log2I (p:Int):Iv:=if precB p=true then(logI (gP p 16) ((nI 1 1).div (nI 3 3) (gP p 16))).rnd p else Iv.whole
def lgI (d:Dy)(p:Int):Iv:=
 if d.cmp (nD 1)=0 then⟨Dy.zero,Dy.zero,false⟩else
 let P:=gP p 40
 let t:=d.top
 let m:=((Iv.pt d).rnd P).scl (-t)
 let z:=(m.add (nI (-1) (-1)) P).div (m.add (nI 1 1) P) P
 ((logI P z).add ((nI t t).mul (log2I P) P) P).rnd p
def Iv.log (x:Iv)(p:Int):Iv:=if(x.known&&precB p&&decide (0<x.lo.sgn))=true then endsI (lgI x.lo p) (lgI x.hi p)else Iv.whole
theorem q0z {x:Iv}{q δ:Rat}(wx:x.W)(hq:x.In q)(hd:Bd δ (rabs q)):(qck x).In δ:=by
 unfold qck;split
 ·rename_i hk;intro _;obtain⟨a,b⟩:=qakj wx hk hq hd;refine⟨?_,b⟩;show((x.mag.opp.val:Int):Rat)<=_;rw[q39 (qng wx hk),Rat.intCast_neg];exact a
 ·exact .whole
theorem qahc {d:Dy}(ok:d.Ok):d.opp.W:=by
 unfold Dy.opp;split
 ·exact⟨ok.li,ok.w.len⟩
 ·exact Dy.zero_W
theorem qlg {x:Iv}(wx:x.W):(qck x).W:=by
 unfold qck;split
 ·rename_i hk;exact⟨qahc (qng wx hk),(qng wx hk).w⟩
 ·exact Iv.whole_W
theorem q4g (k:Int):(nI k k).In (k:Rat):=by
 intro _;show(((nD k).val:Int):Rat)<=_/\_<=(((nD k).val:Int):Rat);rw[qlk,Rat.intCast_mul];exact⟨Rat.le_refl,Rat.le_refl⟩
theorem nI_In {n:Nat}(_h:n<=4611686018427387904):(nI n n).In (n:Rat):=by
 have:=q4g (n:Int);rwa[Rat.intCast_natCast]at this
theorem q8t (q:Rat):Bd q (rabs q):=by unfold rabs;split<;>(constructor<;>grind)
theorem qaat {P:Int}{y:Iv}{x:Rat}(wy:y.W)(hy:y.In x):∀(f n:Nat) (t s:Iv),n+1+f<=1000000->t.W->s.W->t.In (tm x n)->s.In (es x n) ->
 ∃m,n<=m/\(0<f->n<m)/\(expG P y f (n+1) t s).1.W/\(expG P y f (n+1) t s).2.W/\(expG P y f (n+1) t s).1.In (tm x m)/\(expG P y f (n+1) t s).2.In (es x m)
 |0,n,t,s,_,wt,ws,ht,hs=>⟨n,Nat.le_refl _,fun h=>absurd h (by decide),wt,ws,ht,hs⟩
 |f+1,n,t,s,hf,wt,ws,ht,hs=>by
  have w1:(t.mul y P).W:=mul_W;have wn:(nI ((n+1:Nat):Int) ((n+1:Nat):Int)).W:=nI_W (by omega) (by omega);have w2:((t.mul y P).div (nI ((n+1:Nat):Int) ((n+1:Nat):Int)) P).W:=div_W;have h1:=q0j (p:=P) w1 wn (qvg (p:=P) wt wy ht hy) (nI_In (n:=n+1) (by omega));have h2:((t.mul y P).div (nI ((n+1:Nat):Int) ((n+1:Nat):Int)) P).In (tm x (n+1)):=h1;have h3:=qmn (p:=P) ws w2 hs h2;have h4:(s.add ((t.mul y P).div (nI ((n+1:Nat):Int) ((n+1:Nat):Int)) P) P).In (es x (n+1)):=h3;unfold expG;simp only;split
  ·exact⟨n+1,by omega,fun _=>by omega,w2,add_W,h2,h4⟩
  ·obtain⟨m,hm,_,r⟩:=qaat wy hy f (n+1) _ _ (by omega) w2 add_W h2 h4;exact⟨m,by omega,fun _=>by omega,r⟩
theorem qza : (nI 1 1).In (1:Rat):=nI_In (n:=1) (by decide)
theorem qaek {P:Int}{y:Iv}{x:Rat}(wy:y.W)(hy:y.In x)(h1:-1<=2*x)(h2:2*x<=1):(expI P y).Has (es x):=by
 unfold expI;have w1:(nI 1 1).W:=nI_W (by omega) (by omega);obtain⟨m,hm,hm1,wt,ws,ht,hs⟩:=qaat (P:=P) wy hy 1000 0 (nI 1 1) (nI 1 1) (by omega) w1 w1 qza qza;refine Iv.Has.of_ev m fun k hk=>?_
 obtain⟨j,rfl⟩:=Nat.exists_eq_add_of_le hk;have r:=qaic h1 h2 (n:=m) (hm1 (by decide)) (q8t (tm x m)) j;have:=qmn (p:=P) ws (qlg wt) hs (q0z wt ht r);rwa[show es x m+(es x (m+j)-es x m)=es x (m+j) by grind]at this
theorem qie {x:Iv}{k:Int}:(x.scl k).W:=by
 unfold Iv.scl;split
 ·exact qvh scl_W scl_W
 ·exact Iv.whole_W
theorem qaas {P:Int}{y:Iv}:(expI P y).W:=by unfold expI;exact add_W
theorem qvo {P:Int}:∀(n:Nat) (y:Iv) (x:Rat),y.W->y.In x->-(pw n:Rat)<=2*x->2*x<=(pw n:Rat)->(qey P n y).W/\(qey P n y).Has (es x)
 |0,y,x,wy,hy,h1,h2=>by
  have e:(pw 0:Rat)=1:=rfl;rw[e]at h1 h2;show(expI P y).W/\(expI P y).Has (es x);exact⟨qaas,qaek wy hy h1 h2⟩
 |n+1,y,x,wy,hy,h1,h2=>by
  have e:(pw (n+1):Rat)=(pw n:Rat)*2:=by rw[qa0,Rat.intCast_mul];rfl
  rw[e]at h1 h2;have p1:(pw 1:Rat)=2:=rfl;have p0:(pw 0:Rat)=1:=rfl;have hs:(y.scl (-1)).In (x/2):=qu0 (a:=0) (b:=1) wy (by omega) (by rw[p1,p0];grind) hy;obtain⟨w,h⟩:=qvo n (y.scl (-1)) (x/2) qie hs (by grind) (by grind);refine⟨sq_W,?_⟩;have:=q8d (p:=P) w h (qo5 _);exact this.near (qlo x).symm
def Dy.rat (d:Dy):Rat:=(d.val:Rat)*sc⁻¹
theorem qeo (d:Dy):d.rat*sc=(d.val:Rat):=by
 unfold Dy.rat;have hs:=qda;rw[Rat.mul_assoc,Rat.inv_mul_cancel sc (by grind),Rat.mul_one]
theorem pt_In (d:Dy):(Iv.pt d).In d.rat:=by
 intro _;rw[qeo];exact⟨Rat.le_refl,Rat.le_refl⟩
theorem qes {d:Dy}(h:d.m=[]):d.rat=0:=by
 have:=Dy.absN_nil h;unfold Dy.rat Dy.val;rw[this];have e:((if d.neg=true then -((0:Nat):Int)else((0:Nat):Int):Int):Rat)=0:=by split<;>rfl
 rw[e,Rat.zero_mul]
theorem qy2 {d:Dy}(ok:d.Ok)(hm:d.m≠[]){n:Nat}(hn:d.top+1<=n):-(pw n:Rat)<=2*d.rat/\2*d.rat<=(pw n:Rat):=by
 obtain⟨b1,b2⟩:=ok.absN_bounds hm;have ht:=ok.top_pos hm;have h1:2*d.absN<=2^(n+16384):=by
  have e:2^(d.top+16384).toNat*2=2^((d.top+16384).toNat+1):=(Nat.pow_succ ..).symm;have:2^((d.top+16384).toNat+1)<=2^(n+16384):=Nat.pow_le_pow_right (by omega) (by omega);omega
 have h2:((2*d.absN:Nat):Int)<=pw n*pw 16384:=by
  rw[<-qa0];unfold pw;exact Int.ofNat_le.2 h1
 have h3:2*d.val<=pw n*pw 16384/\-(pw n*pw 16384)<=2*d.val:=by
  unfold Dy.val;split<;>omega
 have c1:=qa7 h3.1;have c2:=qa7 h3.2;rw[Rat.intCast_neg]at c2;rw[Rat.intCast_mul,Rat.intCast_mul,show((pw 16384:Int):Rat)=sc from rfl,<-qeo d]at c1 c2;clear h1 h2 h3 b1 b2 ht;have two:((2:Int):Rat)=2:=rfl;rw[two]at c1 c2;have hs:=qda;refine⟨Rat.le_of_mul_le_mul_right (c:=sc) ?_ hs,Rat.le_of_mul_le_mul_right (c:=sc) ?_ hs⟩<;>grind
theorem qhg {x:Iv}{p:Int}:(x.rnd p).W:=by
 unfold Iv.rnd;split
 ·exact qvh rRound_ok.w rRound_ok.w
 ·exact Iv.whole_W
theorem qpk {d:Dy}(p:Int)(ok:d.Ok):(qc6 d p).W/\(qc6 d p).Has (es d.rat):=by
 unfold qc6;by_cases hm:d.m=[]
 ·have hs:d.sgn=0:=by unfold Dy.sgn;rw[if_pos hm]
  rw[if_pos hs,qes hm,show es 0=fun _=>1 from funext qtb];exact⟨nI_W (by omega) (by omega),Iv.In.has qza⟩
 ·have hs:¬d.sgn=0:=by unfold Dy.sgn;rw[if_neg hm];split<;>omega
  rw[if_neg hs];simp only;obtain⟨b1,b2⟩:=qy2 ok hm (n:=(d.top+1).toNat) (by omega);have wp:(Iv.pt d).W:=⟨ok.w,ok.w⟩
  obtain⟨w,h⟩:=qvo (P:=gP p ((d.top+1).toNat+24)) (d.top+1).toNat ((Iv.pt d).rnd (gP p ((d.top+1).toNat+24))) d.rat qhg (qu1 wp (pt_In d)) b1 b2;exact⟨qhg,qag3 w h⟩
def Iv.HasLog (x:Iv)(d:Rat):Prop:=x.known=true->ELo x.lo.rat d/\EHi d x.hi.rat
theorem HasLog.meet {x y:Iv}{d:Rat}(kx:x.known=true)(ky:y.known=true)(hx:x.HasLog d)(hy:y.HasLog d):x.lo.val<=y.hi.val/\y.lo.val<=x.hi.val:=by
 obtain⟨a,b⟩:=hx kx;obtain⟨c,e⟩:=hy ky;have key:∀{u v:Dy},u.rat<=v.rat->u.val<=v.val:=by
  intro u v h;have:=Rat.mul_le_mul_of_nonneg_right h (Rat.le_of_lt qda);rw[qeo,qeo]at this;exact Rat.intCast_le_intCast.1 this
 exact⟨key (a.le e),key (c.le b)⟩
theorem qg1 {x:Iv}{q:Rat}(h:x.In q)(k:x.known=true):x.lo.rat<=q/\q<=x.hi.rat:=by
 obtain⟨a,b⟩:=h k;rw[<-qeo]at a b;exact⟨Rat.le_of_mul_le_mul_right a qda,Rat.le_of_mul_le_mul_right b qda⟩
theorem q9s {P:Int}{sq:Iv}{ζ:Rat}(wq:sq.W)(hq:sq.In (ζ*ζ)):∀(f i:Nat) (w s:Iv),i+f<=1000000->w.W->s.W->w.In (od ζ i)->s.In (ps (lt ζ) i) ->
 ∃m,(logG P sq f (2*i+3) w s).1.W/\(logG P sq f (2*i+3) w s).2.W/\(logG P sq f (2*i+3) w s).1.In (od ζ m)/\(logG P sq f (2*i+3) w s).2.In (ps (lt ζ) m)
 |0,i,w,s,_,ww,ws,hw,hs=>⟨i,ww,ws,hw,hs⟩
 |f+1,i,w,s,hf,ww,ws,hw,hs=>by
  have w1:(w.mul sq P).W:=mul_W;have h1:(w.mul sq P).In (od ζ (i+1)):=qvg ww wq hw hq;have wn:(nI ((2*i+3:Nat):Int) ((2*i+3:Nat):Int)).W:=nI_W (by omega) (by omega);have h2:=q0j (p:=P) w1 wn h1 (nI_In (n:=2*i+3) (by omega));have h3:=qmn (p:=P) ws div_W hs h2;have e:ps (lt ζ) i+od ζ (i+1)/((2*i+3:Nat):Rat)=ps (lt ζ) (i+1):=rfl;rw[e]at h3;unfold logG;split
  ·exact⟨i,ww,ws,hw,hs⟩
  ·simp only;exact q9s wq hq f (i+1) _ _ (by omega) w1 add_W h1 h3
theorem q4o {P:Int}{z:Iv}{ζ:Rat}(wz:z.W)(hz:z.In ζ)(h0:-1<ζ)(h1:ζ<1)(h2:2*(ζ*ζ)<=1):(logI P z).W/\(logI P z).HasLog (gg ζ):=by
 unfold logI;refine⟨qie,fun hk=>?_⟩;have l0:lt ζ 0=ζ:=by
  unfold lt;have:((2*0+1:Nat):Rat)=1:=rfl;rw[this];simp only[od];grind
 obtain⟨m,ww,ws,hw,hs⟩:=q9s (P:=P) (sq:=z.sq P) sq_W (sq_In wz hz) 1000 0 z z (by omega) wz wz hz (by show z.In (lt ζ 0);rw[l0];exact hz);refine q6j h0 h1 m fun k hkm=>?_
 obtain⟨j,rfl⟩:=Nat.exists_eq_add_of_le hkm;have r:=qahp h2 m (q8t (od ζ m)) j;have r2:Bd (ps (lt ζ) (m+j)-ps (lt ζ) m) (rabs (od ζ m)):=by
  obtain⟨u,v⟩:=r;unfold ll at u v;constructor<;>grind
 have a:=qmn (p:=P) ws (qlg ww) hs (q0z ww hw r2);have p1:(pw 1:Rat)=2:=rfl;have p0:(pw 0:Rat)=1:=rfl;have b:=qu0 (k:=1) (a:=1) (b:=0) (r:=ll ζ (m+j)) add_W (by omega) (by rw[p1,p0];unfold ll;grind) a;exact qg1 b hk
end Go.Abs.W
