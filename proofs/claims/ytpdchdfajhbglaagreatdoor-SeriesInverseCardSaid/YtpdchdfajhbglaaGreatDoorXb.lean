/- Parts of the proof: FpQ2, FpQ3, FpXa, FpXb, FpXc, FpXd. -/
import Derived.Test.YtpdchdfajhbglaaGreatDoorHk
import Derived.Test.YtpdchdfajhbglaaGreatDoorXa
import Derived.Test.YtpdchdfajhbglaaGreatDoorHp
import Derived.Test.YtpdchdfajhbglaaGreatDoorFe
import Derived.Test.YtpdchdfajhbglaaGreatDoorHy
namespace Go.Abs.W
theorem qxx {x:Iv}{p:Int}{q:Rat}(wx:x.W)(hq:x.In q):(x.rnd p).In q:=by
 unfold Iv.rnd;split
 ·rename_i h;simp only[Bool.and_eq_true]at h;obtain⟨k1,hp⟩:=h;obtain⟨a1,a2⟩:=qai wx k1;obtain⟨q1,q2⟩:=hq k1;unfold Iv.made;split
  ·rename_i h0;intro _;have u:=qa5 ((qfi a1 hp).at h0.1);have v:=qa5 ((qgx a2 hp).at h0.2);exact⟨Rat.le_trans u q1,Rat.le_trans q2 v⟩
  ·exact .whole
 ·exact .whole
def rabs (q:Rat):Rat:=if 0<=q then q else -q
theorem q7g (q:Rat):rabs q*rabs q=q*q:=by unfold rabs;split<;>grind
theorem q9d {x:Iv}{q:Rat}(wx:x.W)(hq:x.In q):x.abs.In (rabs q):=by
 cases hk:x.known
 ·have:x.abs=Iv.whole:=by unfold Iv.abs;rw[hk];rfl
  rw[this];exact .whole
 ·obtain⟨v1,v2⟩:=qt3 wx hk;obtain⟨r1,r2⟩:=hq hk;intro _;have hs:=qdc;have e:rabs q*sc=rabs (q*sc):=by
   unfold rabs;by_cases h:0<=q
   ·rw[if_pos h,if_pos (mul_nn h (Rat.le_of_lt hs))]
   ·have h2:¬0<=q*sc:=by
     have:=Rat.mul_pos (show 0 < -q by grind) hs;grind
    rw[if_neg h,if_neg h2];grind
  rw[e];have p0:0<=rabs (q*sc):=by unfold rabs;split<;>grind
  have le0:=qam wx hk;generalize q*sc=u at *
  refine⟨?_,?_⟩
  ·by_cases h1:0<x.lo.val
   ·have c:=qa5 (show x.abs.lo.val<=x.lo.val by rw[v2,if_pos (.inl h1)];omega);have c0:=qa5 (Int.le_of_lt h1);unfold rabs;rw[if_pos (by grind)];grind
   ·by_cases h2:x.hi.val<0
    ·have c:=qa5 (show x.abs.lo.val<=-x.hi.val by rw[v2,if_pos (.inr h2)];omega);have c0:=qg6 h2;rw[Rat.intCast_neg]at c;unfold rabs;rw[if_neg (by grind)];grind
    ·rw[v2,if_neg (by omega)];exact p0
  ·unfold rabs;split
   ·have c:=qa5 (show x.hi.val<=x.abs.hi.val by rw[v1];omega);grind
   ·have c:=qa5 (show -x.lo.val<=x.abs.hi.val by rw[v1];omega);rw[Rat.intCast_neg]at c;grind
theorem sq_In {x:Iv}{p:Int}{q:Rat}(wx:x.W)(hq:x.In q):(x.sq p).In (q*q):=by
 rw[qajb wx,<-q7g];exact qn0 (abs_W wx) (abs_W wx) (q9d wx hq) (q9d wx hq)
def Iv.Has (x:Iv)(s:Nat->Rat):Prop:=∃c:Nat->Rat,(∀n,x.In (c n))/\Near s c
theorem Iv.Has.near {x:Iv}{s t:Nat->Rat}(h:x.Has s)(k:Near t s):x.Has t:=by
 obtain⟨c,h1,h2⟩:=h;exact⟨c,h1,k.trans h2⟩
theorem Iv.In.has {x:Iv}{q:Rat}(h:x.In q):x.Has (fun _=>q):=⟨_,fun _=>h,Near.refl _⟩
theorem Near.of_ev {s t:Nat->Rat}(N:Nat)(h:∀n,N<=n->s n=t n):Near s t:=fun ε he=>⟨N,fun n hn=>by have:=h n hn;constructor<;>grind⟩
theorem Iv.Has.of_ev {x:Iv}{s:Nat->Rat}(N:Nat)(h:∀n,N<=n->x.In (s n)):x.Has s:=
 ⟨fun n=>s (max n N),fun n=>h _ (by omega),Near.of_ev N fun n hn=>by rw[Nat.max_eq_left hn]⟩
theorem Iv.Has.whole {s:Nat->Rat}:Iv.whole.Has s:=⟨s,fun _=>.whole,Near.refl s⟩
theorem qam6 {x y:Iv}{p:Int}{s t:Nat->Rat}(wx:x.W)(wy:y.W)(hs:x.Has s)(ht:y.Has t):(x.add y p).Has (fun n=>s n+t n):=by
 obtain⟨c,h1,h2⟩:=hs;obtain⟨d,k1,k2⟩:=ht;exact⟨fun n=>c n+d n,fun n=>ql5 wx wy (h1 n) (k1 n),h2.add k2⟩
theorem qaoj {x:Iv}{p:Int}{s:Nat->Rat}(wx:x.W)(hs:x.Has s)(bs:Bnd s):(x.sq p).Has (fun n=>s n*s n):=by
 obtain⟨c,h1,h2⟩:=hs;exact⟨fun n=>c n*c n,fun n=>sq_In wx (h1 n),h2.mul h2 bs bs⟩
theorem qak6 {x:Iv}{p:Int}{s:Nat->Rat}(wx:x.W)(hs:x.Has s):(x.rnd p).Has s:=by
 obtain⟨c,h1,h2⟩:=hs;exact⟨c,fun n=>qxx wx (h1 n),h2⟩
theorem qaq2 {x:Iv}{s:Nat->Rat}(h:x.known=true->SLe (fun _=>(x.lo.val:Rat)) (fun n=>s n*sc)/\SLe (fun n=>s n*sc) (fun _=>(x.hi.val:Rat)))(wx:x.W):x.Has s:=by
 cases hk:x.known
 ·exact⟨s,(fun n (h:x.known=true)=>absurd h (by rw[hk];decide)),Near.refl s⟩
 obtain⟨h1,h2⟩:=h hk;have hs:=qdc;have hi:=Rat.inv_pos.2 hs;have e:∀a:Rat,a*sc⁻¹*sc=a:=fun a=>by
  rw[Rat.mul_assoc,Rat.inv_mul_cancel sc (by grind),Rat.mul_one]
 have le0:=qa5 (qam wx hk);unfold Iv.Has Iv.In;generalize ((x.lo.val:Int):Rat)=a at *
 generalize ((x.hi.val:Int):Rat)=b at *
 have ea:=e a;have eb:=e b;have ab:a*sc⁻¹<=b*sc⁻¹:=Rat.mul_le_mul_of_nonneg_right le0 (Rat.le_of_lt hi);generalize a*sc⁻¹=u at *
 generalize b*sc⁻¹=v at *
 subst ea eb;have canc:∀{p q:Rat},p*sc<=q*sc->p<=q:=fun h=>Rat.le_of_mul_le_mul_right h hs
 refine⟨fun n=>if s n<u then u else if v<s n then v else s n,fun n _=>?_,?_⟩
 ·have m:∀{p q:Rat},p<=q->p*sc<=q*sc:=fun h=>Rat.mul_le_mul_of_nonneg_right h (Rat.le_of_lt hs)
  refine⟨m ?_,m ?_⟩
  ·show u<=if s n<u then u else if v<s n then v else s n;split
   ·exact Rat.le_refl
   ·split<;>grind
  ·show(if s n<u then u else if v<s n then v else s n)<=v;split
   ·exact ab
   ·split<;>grind
 ·intro ε he;obtain⟨N,hN⟩:=h1 (ε*sc) (Rat.mul_pos he hs);obtain⟨M,hM⟩:=h2 (ε*sc) (Rat.mul_pos he hs);refine⟨max N M,fun n hn=>?_⟩;have g1:u<=s n+ε:=canc (by have:=hN n (by omega);rw[Rat.add_mul];exact this);have g2:s n<=v+ε:=canc (by have:=hM n (by omega);rw[Rat.add_mul];exact this);show Bd (s n-if s n<u then u else if v<s n then v else s n) ε;split
  ·constructor<;>grind
  ·split<;>(constructor<;>grind)
theorem qug {d:Dy}{k:Int}{a b:Nat}(ok:d.Ok)(hk:k=(a:Int)-b)(h:d.sclE k=0):(d.scl k).val*pw b=d.val*pw a:=by
 unfold Dy.sclE at h;unfold Dy.scl;split at h
 ·rename_i hc;rw[if_pos hc];unfold Dy.chkE at h;split at h
  ·rename_i hin;unfold Dy.chk;rw[if_pos hin];by_cases hm:d.m=[]
   ·have e1:(Dy.of d.neg (natV d.m) (d.e+k)).val=0:=by
     have:Dy.of d.neg (natV d.m) (d.e+k)=Dy.zero:=by rw[hm];rfl
     rw[this,qh4]
    have e2:d.val=0:=by
     have:=Dy.absN_nil hm;unfold Dy.val;rw[this];simp
    rw[e1,e2,Int.zero_mul,Int.zero_mul]
   ·have hn:=qc2 ok.tr hm;have ho:=ok.odd hm;have ht:tz (natV d.m)=0:=qabc ho;have he:-16384<=d.e+k:=by
     have hb:=(qa4 hn).2.2;unfold Dy.of at hin;rw[if_neg hn,ht]at hin;unfold Dy.inR at hin;simp only[qad,Nat.pow_zero,Nat.div_one]at hin;simp only[Bool.or_eq_true,Bool.and_eq_true,decide_eq_true_eq,beq_iff_eq]at hin;have h0:bitL (natV d.m)≠0:=by unfold bitL;rw[if_neg hn];omega
     omega
    rw[qu0 he];have elo:=ok.elo;have e3:(2:Nat)^(d.e+k+16384).toNat*2^b=2^(d.e+16384).toNat*2^a:=by
     rw[<-Nat.pow_add,<-Nat.pow_add];congr 1;omega
    have e4:natV d.m*2^(d.e+k+16384).toNat*2^b=natV d.m*2^(d.e+16384).toNat*2^a:=by
     rw[Nat.mul_assoc,e3,Nat.mul_assoc]
    unfold Dy.val Dy.absN pw;split
    ·rw[Int.neg_mul,Int.neg_mul,<-Int.natCast_mul,<-Int.natCast_mul,e4]
    ·rw[<-Int.natCast_mul,<-Int.natCast_mul,e4]
  ·cases h
 ·cases h
theorem qmd (a:Nat):(0:Rat)<(pw a:Rat):=by
 have:=qg6 (qaw a);simpa using this
theorem q68 {x:Iv}{k:Int}{a b:Nat}{q r:Rat}(wx:x.W)(hk:k=(a:Int)-b)(hr:r*(pw b:Rat)=q*(pw a:Rat))(hq:x.In q):(x.scl k).In r:=by
 unfold Iv.scl;split
 ·rename_i kn;obtain⟨o1,o2⟩:=qai wx kn;obtain⟨q1,q2⟩:=hq kn;unfold Iv.made;split
  ·rename_i h0;intro _;have v1:=qug o1 hk h0.1;have v2:=qug o2 hk h0.2;have c1:(((x.lo.scl k).val:Int):Rat)*(pw b:Rat)=(x.lo.val:Rat)*(pw a:Rat):=by rw[<-Rat.intCast_mul,<-Rat.intCast_mul,v1]
   have c2:(((x.hi.scl k).val:Int):Rat)*(pw b:Rat)=(x.hi.val:Rat)*(pw a:Rat):=by rw[<-Rat.intCast_mul,<-Rat.intCast_mul,v2]
   have pa:=qmd a;have pb:=qmd b;refine⟨Rat.le_of_mul_le_mul_right (c:=(pw b:Rat)) ?_ pb,Rat.le_of_mul_le_mul_right (c:=(pw b:Rat)) ?_ pb⟩
   ·show(((x.lo.scl k).val:Int):Rat)*_<=_;rw[c1];have:=Rat.mul_le_mul_of_nonneg_right q1 (Rat.le_of_lt pa);have e:r*sc*(pw b:Rat)=q*sc*(pw a:Rat):=by grind
    rw[e];exact this
   ·show _<=(((x.hi.scl k).val:Int):Rat)*_;rw[c2];have:=Rat.mul_le_mul_of_nonneg_right q2 (Rat.le_of_lt pa);have e:r*sc*(pw b:Rat)=q*sc*(pw a:Rat):=by grind
    rw[e];exact this
  ·exact .whole
 ·exact .whole
theorem q7t {d:Dy}(ok:d.Ok):d.opp.val=-d.val:=by
 unfold Dy.opp;by_cases hm:d.m=[]
 ·rw[if_neg (fun h=>h.2 hm),qh4];have:=Dy.absN_nil hm;unfold Dy.val;rw[this];simp
 ·rw[if_pos ⟨ok.valid,hm⟩];unfold Dy.val;have:Dy.absN ⟨!d.neg,d.m,d.e⟩=d.absN:=rfl;rw[this];cases d.neg<;>simp
theorem qao6 {x:Iv}{q δ:Rat}(wx:x.W)(hk:x.known=true)(hq:x.In q)(hd:Bd δ (rabs q)):-(x.mag.val:Rat)<=δ*sc/\δ*sc<=(x.mag.val:Rat):=by
 have h:=(q9d wx hq) (by
  have:=(qrj wx hk).1;exact this)
 have e:x.abs.hi=x.mag:=by unfold Iv.abs;rw[if_pos hk]
 rw[e]at h;have hs:=qdc;obtain⟨d1,d2⟩:=hd;have a:=Rat.mul_le_mul_of_nonneg_right d1 (Rat.le_of_lt hs);have b:=Rat.mul_le_mul_of_nonneg_right d2 (Rat.le_of_lt hs);have c:=h.2;constructor<;>grind
def qcz (P:Int)(x:Iv):Bool:=!x.known ||decide (x.mag.sgn=0) ||decide (x.mag.top<=-P)
def qd2 (x:Iv):Iv:=if x.known=true then⟨x.mag.opp,x.mag,false⟩else Iv.whole
def expG (P:Int)(y:Iv):Nat->Nat->Iv->Iv->Iv × Iv
 |0,_,t,s=>(t,s)
 |f+1,n,t,s=>
  let t':=(t.mul y P).div (nI n n) P
  let s':=s.add t' P
  if qcz P t'=true then(t',s')else expG P y f (n+1) t' s'
def expI (P:Int)(y:Iv):Iv:=
 let r:=expG P y 1000 1 (nI 1 1) (nI 1 1)
 r.2.add (qd2 r.1) P
def qfk (P:Int):Nat->Iv->Iv
 |0,y=>expI P y
 |n+1,y=>(qfk P n (y.scl (-1))).sq P
def gP (p more:Int):Int:=min (p+more) 512
def qf6 (d:Dy)(p:Int):Iv:=
 if d.sgn=0 then nI 1 1 else
 let n:=(d.top+1).toNat
 let P:=gP p (n+24)
 (qfk P n ((Iv.pt d).rnd P)).rnd p
def endsI (a b:Iv):Iv:=if(a.all ||b.all)=true then Iv.whole else⟨a.lo,b.hi,false⟩
def modB (d:Dy):Bool:=decide (d.abs.cmp (nD 1000)<=0)
def Iv.exp (x:Iv)(p:Int):Iv:=if(x.known&&precB p&&modB x.lo&&modB x.hi)=true then endsI (qf6 x.lo p) (qf6 x.hi p)else Iv.whole
def logG (P:Int)(sq:Iv):Nat->Nat->Iv->Iv->Iv × Iv
 |0,_,w,s=>(w,s)
 |f+1,n,w,s=>if qcz P w=true then(w,s)else
  let w':=w.mul sq P
  logG P sq f (n+2) w' (s.add (w'.div (nI n n) P) P)
def logI (P:Int)(z:Iv):Iv:=
 let r:=logG P (z.sq P) 1000 3 z z
 (r.2.add (qd2 r.1) P).scl 1
def log2I (p:Int):Iv:=if precB p=true then(logI (gP p 16) ((nI 1 1).div (nI 3 3) (gP p 16))).rnd p else Iv.whole
def lgI (d:Dy)(p:Int):Iv:=
 if d.cmp (nD 1)=0 then⟨Dy.zero,Dy.zero,false⟩else
 let P:=gP p 40
 let t:=d.top
 let m:=((Iv.pt d).rnd P).scl (-t)
 let z:=(m.add (nI (-1) (-1)) P).div (m.add (nI 1 1) P) P
 ((logI P z).add ((nI t t).mul (log2I P) P) P).rnd p
def Iv.log (x:Iv)(p:Int):Iv:=if(x.known&&precB p&&decide (0<x.lo.sgn))=true then endsI (lgI x.lo p) (lgI x.hi p)else Iv.whole
theorem q4d {x:Iv}{q δ:Rat}(wx:x.W)(hq:x.In q)(hd:Bd δ (rabs q)):(qd2 x).In δ:=by
 unfold qd2;split
 ·rename_i hk;intro _;obtain⟨a,b⟩:=qao6 wx hk hq hd;refine⟨?_,b⟩;show((x.mag.opp.val:Int):Rat)<=_;rw[q7t (qpt wx hk),Rat.intCast_neg];exact a
 ·exact .whole
theorem qalf {d:Dy}(ok:d.Ok):d.opp.W:=by
 unfold Dy.opp;split
 ·exact⟨ok.li,ok.w.len⟩
 ·exact Dy.zero_W
theorem qpg {x:Iv}(wx:x.W):(qd2 x).W:=by
 unfold qd2;split
 ·rename_i hk;exact⟨qalf (qpt wx hk),(qpt wx hk).w⟩
 ·exact Iv.whole_W
theorem q7y (k:Int):(nI k k).In (k:Rat):=by
 intro _;show(((nD k).val:Int):Rat)<=_/\_<=(((nD k).val:Int):Rat);rw[qih,Rat.intCast_mul];exact⟨Rat.le_refl,Rat.le_refl⟩
theorem nI_In {n:Nat}(_h:n<=4611686018427387904):(nI n n).In (n:Rat):=by
 have:=q7y (n:Int);rwa[Rat.intCast_natCast]at this
theorem qach (q:Rat):Bd q (rabs q):=by unfold rabs;split<;>(constructor<;>grind)
theorem qad7 {P:Int}{y:Iv}{x:Rat}(wy:y.W)(hy:y.In x):∀(f n:Nat) (t s:Iv),n+1+f<=1000000->t.W->s.W->t.In (tm x n)->s.In (es x n) ->
 ∃m,n<=m/\(0<f->n<m)/\(expG P y f (n+1) t s).1.W/\(expG P y f (n+1) t s).2.W/\(expG P y f (n+1) t s).1.In (tm x m)/\(expG P y f (n+1) t s).2.In (es x m)
 |0,n,t,s,_,wt,ws,ht,hs=>⟨n,Nat.le_refl _,fun h=>absurd h (by decide),wt,ws,ht,hs⟩
 |f+1,n,t,s,hf,wt,ws,ht,hs=>by
  have w1:(t.mul y P).W:=mul_W;have wn:(nI ((n+1:Nat):Int) ((n+1:Nat):Int)).W:=nI_W (by omega) (by omega);have w2:((t.mul y P).div (nI ((n+1:Nat):Int) ((n+1:Nat):Int)) P).W:=div_W;have h1:=qp0 (p:=P) w1 wn (qn0 (p:=P) wt wy ht hy) (nI_In (n:=n+1) (by omega));have h2:((t.mul y P).div (nI ((n+1:Nat):Int) ((n+1:Nat):Int)) P).In (tm x (n+1)):=h1;have h3:=ql5 (p:=P) ws w2 hs h2;have h4:(s.add ((t.mul y P).div (nI ((n+1:Nat):Int) ((n+1:Nat):Int)) P) P).In (es x (n+1)):=h3;unfold expG;simp only;split
  ·exact⟨n+1,by omega,fun _=>by omega,w2,add_W,h2,h4⟩
  ·obtain⟨m,hm,_,r⟩:=qad7 wy hy f (n+1) _ _ (by omega) w2 add_W h2 h4;exact⟨m,by omega,fun _=>by omega,r⟩
theorem q2m : (nI 1 1).In (1:Rat):=nI_In (n:=1) (by decide)
theorem qah7 {P:Int}{y:Iv}{x:Rat}(wy:y.W)(hy:y.In x)(h1:-1<=2*x)(h2:2*x<=1):(expI P y).Has (es x):=by
 unfold expI;have w1:(nI 1 1).W:=nI_W (by omega) (by omega);obtain⟨m,hm,hm1,wt,ws,ht,hs⟩:=qad7 (P:=P) wy hy 1000 0 (nI 1 1) (nI 1 1) (by omega) w1 w1 q2m q2m;refine Iv.Has.of_ev m fun k hk=>?_
 obtain⟨j,rfl⟩:=Nat.exists_eq_add_of_le hk;have r:=qamk h1 h2 (n:=m) (hm1 (by decide)) (qach (tm x m)) j;have:=ql5 (p:=P) ws (qpg wt) hs (q4d wt ht r);rwa[show es x m+(es x (m+j)-es x m)=es x (m+j) by grind]at this
theorem qo0 {x:Iv}{k:Int}:(x.scl k).W:=by
 unfold Iv.scl;split
 ·exact qpu scl_W scl_W
 ·exact Iv.whole_W
theorem qad6 {P:Int}{y:Iv}:(expI P y).W:=by unfold expI;exact add_W
theorem qyl {P:Int}:∀(n:Nat) (y:Iv) (x:Rat),y.W->y.In x->-(pw n:Rat)<=2*x->2*x<=(pw n:Rat)->(qfk P n y).W/\(qfk P n y).Has (es x)
 |0,y,x,wy,hy,h1,h2=>by
  have e:(pw 0:Rat)=1:=rfl;rw[e]at h1 h2;show(expI P y).W/\(expI P y).Has (es x);exact⟨qad6,qah7 wy hy h1 h2⟩
 |n+1,y,x,wy,hy,h1,h2=>by
  have e:(pw (n+1):Rat)=(pw n:Rat)*2:=by rw[qa7,Rat.intCast_mul];rfl
  rw[e]at h1 h2;have p1:(pw 1:Rat)=2:=rfl;have p0:(pw 0:Rat)=1:=rfl;have hs:(y.scl (-1)).In (x/2):=q68 (a:=0) (b:=1) wy (by omega) (by rw[p1,p0];grind) hy;obtain⟨w,h⟩:=qyl n (y.scl (-1)) (x/2) qo0 hs (by grind) (by grind);refine⟨sq_W,?_⟩;have:=qaoj (p:=P) w h (q3t _);exact this.near (qnu x).symm
def Dy.rat (d:Dy):Rat:=(d.val:Rat)*sc⁻¹
theorem qep (d:Dy):d.rat*sc=(d.val:Rat):=by
 unfold Dy.rat;have hs:=qdc;rw[Rat.mul_assoc,Rat.inv_mul_cancel sc (by grind),Rat.mul_one]
theorem pt_In (d:Dy):(Iv.pt d).In d.rat:=by
 intro _;rw[qep];exact⟨Rat.le_refl,Rat.le_refl⟩
theorem qg3 {d:Dy}(h:d.m=[]):d.rat=0:=by
 have:=Dy.absN_nil h;unfold Dy.rat Dy.val;rw[this];have e:((if d.neg=true then -((0:Nat):Int)else((0:Nat):Int):Int):Rat)=0:=by split<;>rfl
 rw[e,Rat.zero_mul]
theorem q18 {d:Dy}(ok:d.Ok)(hm:d.m≠[]){n:Nat}(hn:d.top+1<=n):-(pw n:Rat)<=2*d.rat/\2*d.rat<=(pw n:Rat):=by
 obtain⟨b1,b2⟩:=ok.absN_bounds hm;have ht:=ok.top_pos hm;have h1:2*d.absN<=2^(n+16384):=by
  have e:2^(d.top+16384).toNat*2=2^((d.top+16384).toNat+1):=(Nat.pow_succ ..).symm;have:2^((d.top+16384).toNat+1)<=2^(n+16384):=Nat.pow_le_pow_right (by omega) (by omega);omega
 have h2:((2*d.absN:Nat):Int)<=pw n*pw 16384:=by
  rw[<-qa7];unfold pw;exact Int.ofNat_le.2 h1
 have h3:2*d.val<=pw n*pw 16384/\-(pw n*pw 16384)<=2*d.val:=by
  unfold Dy.val;split<;>omega
 have c1:=qa5 h3.1;have c2:=qa5 h3.2;rw[Rat.intCast_neg]at c2;rw[Rat.intCast_mul,Rat.intCast_mul,show((pw 16384:Int):Rat)=sc from rfl,<-qep d]at c1 c2;clear h1 h2 h3 b1 b2 ht;have two:((2:Int):Rat)=2:=rfl;rw[two]at c1 c2;have hs:=qdc;refine⟨Rat.le_of_mul_le_mul_right (c:=sc) ?_ hs,Rat.le_of_mul_le_mul_right (c:=sc) ?_ hs⟩<;>grind
theorem qnm {x:Iv}{p:Int}:(x.rnd p).W:=by
 unfold Iv.rnd;split
 ·exact qpu rRound_ok.w rRound_ok.w
 ·exact Iv.whole_W
theorem qrp {d:Dy}(p:Int)(ok:d.Ok):(qf6 d p).W/\(qf6 d p).Has (es d.rat):=by
 unfold qf6;by_cases hm:d.m=[]
 ·have hs:d.sgn=0:=by unfold Dy.sgn;rw[if_pos hm]
  rw[if_pos hs,qg3 hm,show es 0=fun _=>1 from funext q0z];exact⟨nI_W (by omega) (by omega),Iv.In.has q2m⟩
 ·have hs:¬d.sgn=0:=by unfold Dy.sgn;rw[if_neg hm];split<;>omega
  rw[if_neg hs];simp only;obtain⟨b1,b2⟩:=q18 ok hm (n:=(d.top+1).toNat) (by omega);have wp:(Iv.pt d).W:=⟨ok.w,ok.w⟩
  obtain⟨w,h⟩:=qyl (P:=gP p ((d.top+1).toNat+24)) (d.top+1).toNat ((Iv.pt d).rnd (gP p ((d.top+1).toNat+24))) d.rat qnm (qxx wp (pt_In d)) b1 b2;exact⟨qnm,qak6 w h⟩
def Iv.HasLog (x:Iv)(d:Rat):Prop:=x.known=true->ELo x.lo.rat d/\EHi d x.hi.rat
theorem HasLog.meet {x y:Iv}{d:Rat}(kx:x.known=true)(ky:y.known=true)(hx:x.HasLog d)(hy:y.HasLog d):x.lo.val<=y.hi.val/\y.lo.val<=x.hi.val:=by
 obtain⟨a,b⟩:=hx kx;obtain⟨c,e⟩:=hy ky;have key:∀{u v:Dy},u.rat<=v.rat->u.val<=v.val:=by
  intro u v h;have:=Rat.mul_le_mul_of_nonneg_right h (Rat.le_of_lt qdc);rw[qep,qep]at this;exact Rat.intCast_le_intCast.1 this
 exact⟨key (a.le e),key (c.le b)⟩
theorem qjy {x:Iv}{q:Rat}(h:x.In q)(k:x.known=true):x.lo.rat<=q/\q<=x.hi.rat:=by
 obtain⟨a,b⟩:=h k;rw[<-qep]at a b;exact⟨Rat.le_of_mul_le_mul_right a qdc,Rat.le_of_mul_le_mul_right b qdc⟩
theorem qadb {P:Int}{sq:Iv}{ζ:Rat}(wq:sq.W)(hq:sq.In (ζ*ζ)):∀(f i:Nat) (w s:Iv),i+f<=1000000->w.W->s.W->w.In (od ζ i)->s.In (ps (lt ζ) i) ->
 ∃m,(logG P sq f (2*i+3) w s).1.W/\(logG P sq f (2*i+3) w s).2.W/\(logG P sq f (2*i+3) w s).1.In (od ζ m)/\(logG P sq f (2*i+3) w s).2.In (ps (lt ζ) m)
 |0,i,w,s,_,ww,ws,hw,hs=>⟨i,ww,ws,hw,hs⟩
 |f+1,i,w,s,hf,ww,ws,hw,hs=>by
  have w1:(w.mul sq P).W:=mul_W;have h1:(w.mul sq P).In (od ζ (i+1)):=qn0 ww wq hw hq;have wn:(nI ((2*i+3:Nat):Int) ((2*i+3:Nat):Int)).W:=nI_W (by omega) (by omega);have h2:=qp0 (p:=P) w1 wn h1 (nI_In (n:=2*i+3) (by omega));have h3:=ql5 (p:=P) ws div_W hs h2;have e:ps (lt ζ) i+od ζ (i+1)/((2*i+3:Nat):Rat)=ps (lt ζ) (i+1):=rfl;rw[e]at h3;unfold logG;split
  ·exact⟨i,ww,ws,hw,hs⟩
  ·simp only;exact qadb wq hq f (i+1) _ _ (by omega) w1 add_W h1 h3
theorem q78 {P:Int}{z:Iv}{ζ:Rat}(wz:z.W)(hz:z.In ζ)(h0:-1<ζ)(h1:ζ<1)(h2:2*(ζ*ζ)<=1):(logI P z).W/\(logI P z).HasLog (gg ζ):=by
 unfold logI;refine⟨qo0,fun hk=>?_⟩;have l0:lt ζ 0=ζ:=by
  unfold lt;have:((2*0+1:Nat):Rat)=1:=rfl;rw[this];simp only[od];grind
 obtain⟨m,ww,ws,hw,hs⟩:=qadb (P:=P) (sq:=z.sq P) sq_W (sq_In wz hz) 1000 0 z z (by omega) wz wz hz (by show z.In (lt ζ 0);rw[l0];exact hz);refine q97 h0 h1 m fun k hkm=>?_
 obtain⟨j,rfl⟩:=Nat.exists_eq_add_of_le hkm;have r:=qalx h2 m (qach (od ζ m)) j;have r2:Bd (ps (lt ζ) (m+j)-ps (lt ζ) m) (rabs (od ζ m)):=by
  obtain⟨u,v⟩:=r;unfold ll at u v;constructor<;>grind
 have a:=ql5 (p:=P) ws (qpg ww) hs (q4d ww hw r2);have p1:(pw 1:Rat)=2:=rfl;have p0:(pw 0:Rat)=1:=rfl;have b:=q68 (k:=1) (a:=1) (b:=0) (r:=ll ζ (m+j)) add_W (by omega) (by rw[p1,p0];unfold ll;grind) a;exact qjy b hk
end Go.Abs.W
