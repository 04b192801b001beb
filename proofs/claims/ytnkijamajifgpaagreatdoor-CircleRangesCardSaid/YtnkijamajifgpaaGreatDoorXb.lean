/- Parts of the proof: FpQ2, FpQ3, FpXa, FpXb, FpXc, FpXd. -/
import Derived.Test.YtnkijamajifgpaaGreatDoorHk
import Derived.Test.YtnkijamajifgpaaGreatDoorXa
import Derived.Test.YtnkijamajifgpaaGreatDoorHp
import Derived.Test.YtnkijamajifgpaaGreatDoorFe
import Derived.Test.YtnkijamajifgpaaGreatDoorHy
namespace Go.Abs.W
theorem qap2 {x:Iv}{p:Int}{q:Rat}(wx:x.W)(hq:x.In q):(x.rnd p).In q:=by
 unfold Iv.rnd;split
 ·rename_i h;simp only[Bool.and_eq_true]at h;obtain⟨k1,hp⟩:=h;obtain⟨a1,a2⟩:=qai wx k1;obtain⟨q1,q2⟩:=hq k1;unfold Iv.made;split
  ·rename_i h0;intro _;have u:=qav ((qu9 a1 hp).at h0.1);have v:=qav ((qu8 a2 hp).at h0.2);exact⟨Rat.le_trans u q1,Rat.le_trans q2 v⟩
  ·exact .whole
 ·exact .whole
def rabs (q:Rat):Rat:=if 0<=q then q else -q
theorem qaip (q:Rat):rabs q*rabs q=q*q:=by unfold rabs;split<;>grind
theorem qagy {x:Iv}{q:Rat}(wx:x.W)(hq:x.In q):x.abs.In (rabs q):=by
 cases hk:x.known
 ·have:x.abs=Iv.whole:=by unfold Iv.abs;rw[hk];rfl
  rw[this];exact .whole
 ·obtain⟨v1,v2⟩:=qrs wx hk;obtain⟨r1,r2⟩:=hq hk;intro _;have hs:=qbf;have e:rabs q*sc=rabs (q*sc):=by
   unfold rabs;by_cases h:0<=q
   ·rw[if_pos h,if_pos (mul_nn h (Rat.le_of_lt hs))]
   ·have h2:¬0<=q*sc:=by
     have:=Rat.mul_pos (show 0 < -q by grind) hs;grind
    rw[if_neg h,if_neg h2];grind
  rw[e];have p0:0<=rabs (q*sc):=by unfold rabs;split<;>grind
  have le0:=qap wx hk;generalize q*sc=u at *
  refine⟨?_,?_⟩
  ·by_cases h1:0<x.lo.val
   ·have c:=qav (show x.abs.lo.val<=x.lo.val by rw[v2,if_pos (.inl h1)];omega);have c0:=qav (Int.le_of_lt h1);unfold rabs;rw[if_pos (by grind)];grind
   ·by_cases h2:x.hi.val<0
    ·have c:=qav (show x.abs.lo.val<=-x.hi.val by rw[v2,if_pos (.inr h2)];omega);have c0:=qfj h2;rw[Rat.intCast_neg]at c;unfold rabs;rw[if_neg (by grind)];grind
    ·rw[v2,if_neg (by omega)];exact p0
  ·unfold rabs;split
   ·have c:=qav (show x.hi.val<=x.abs.hi.val by rw[v1];omega);grind
   ·have c:=qav (show -x.lo.val<=x.abs.hi.val by rw[v1];omega);rw[Rat.intCast_neg]at c;grind
theorem sq_In {x:Iv}{p:Int}{q:Rat}(wx:x.W)(hq:x.In q):(x.sq p).In (q*q):=by
 rw[qac7 wx,<-qaip];exact qak8 (abs_W wx) (abs_W wx) (qagy wx hq) (qagy wx hq)
def Iv.Has (x:Iv)(s:Nat->Rat):Prop:=∃c:Nat->Rat,(∀n,x.In (c n))/\Near s c
theorem Iv.Has.near {x:Iv}{s t:Nat->Rat}(h:x.Has s)(k:Near t s):x.Has t:=by
 obtain⟨c,h1,h2⟩:=h;exact⟨c,h1,k.trans h2⟩
theorem Iv.In.has {x:Iv}{q:Rat}(h:x.In q):x.Has (fun _=>q):=⟨_,fun _=>h,Near.refl _⟩
theorem Near.of_ev {s t:Nat->Rat}(N:Nat)(h:∀n,N<=n->s n=t n):Near s t:=fun ε he=>⟨N,fun n hn=>by have:=h n hn;constructor<;>grind⟩
theorem Iv.Has.of_ev {x:Iv}{s:Nat->Rat}(N:Nat)(h:∀n,N<=n->x.In (s n)):x.Has s:=
 ⟨fun n=>s (max n N),fun n=>h _ (by omega),Near.of_ev N fun n hn=>by rw[Nat.max_eq_left hn]⟩
theorem Iv.Has.whole {s:Nat->Rat}:Iv.whole.Has s:=⟨s,fun _=>.whole,Near.refl s⟩
theorem qj3 {x y:Iv}{p:Int}{s t:Nat->Rat}(wx:x.W)(wy:y.W)(hs:x.Has s)(ht:y.Has t):(x.add y p).Has (fun n=>s n+t n):=by
 obtain⟨c,h1,h2⟩:=hs;obtain⟨d,k1,k2⟩:=ht;exact⟨fun n=>c n+d n,fun n=>qarm wx wy (h1 n) (k1 n),h2.add k2⟩
theorem qp9 {x:Iv}{s:Nat->Rat}(wx:x.W)(hs:x.Has s):x.neg.Has (fun n=>-s n):=by
 obtain⟨c,h1,h2⟩:=hs;exact⟨fun n=>-c n,fun n=>qaqf wx (h1 n),h2.neg⟩
theorem qvj {x y:Iv}{p:Int}{s t:Nat->Rat}(wx:x.W)(wy:y.W)(hs:x.Has s)(ht:y.Has t)(bs:Bnd s)(bt:Bnd t):(x.mul y p).Has (fun n=>s n*t n):=by
 obtain⟨c,h1,h2⟩:=hs;obtain⟨d,k1,k2⟩:=ht;exact⟨fun n=>c n*d n,fun n=>qak8 wx wy (h1 n) (k1 n),h2.mul k2 bs bt⟩
theorem qakt {x:Iv}{p:Int}{s:Nat->Rat}(wx:x.W)(hs:x.Has s)(bs:Bnd s):(x.sq p).Has (fun n=>s n*s n):=by
 obtain⟨c,h1,h2⟩:=hs;exact⟨fun n=>c n*c n,fun n=>sq_In wx (h1 n),h2.mul h2 bs bs⟩
theorem qakf {x y:Iv}{s:Nat->Rat}(kx:x.known=true)(ky:y.known=true)(hx:x.Has s)(hy:y.Has s):x.lo.val<=y.hi.val/\y.lo.val<=x.hi.val:=by
 obtain⟨c,h1,h2⟩:=hx;obtain⟨d,k1,k2⟩:=hy;have hs:=qbf;have nr:=h2.symm.trans k2;have key:∀{u v:Nat->Rat} {a b:Int},Near u v->(∀n,(a:Rat)<=u n*sc)->(∀n,v n*sc<=(b:Rat))->a<=b:=by
  intro u v a b hn ha hb;refine Rat.intCast_le_intCast.1 (Near.le (s:=fun n=>u n*sc) (t:=fun n=>v n*sc) ?_ ha hb);exact Null.congr (Null.mul hn (Bnd.const sc)) fun n=>by grind
 exact⟨key nr (fun n=>(h1 n kx).1) (fun n=>(k1 n ky).2),key nr.symm (fun n=>(k1 n ky).1) (fun n=>(h1 n kx).2)⟩
theorem qar0 {x:Iv}{s:Nat->Rat}(h:x.known=true->SLe (fun _=>(x.lo.val:Rat)) (fun n=>s n*sc)/\SLe (fun n=>s n*sc) (fun _=>(x.hi.val:Rat)))(wx:x.W):x.Has s:=by
 cases hk:x.known
 ·exact⟨s,(fun n (h:x.known=true)=>absurd h (by rw[hk];decide)),Near.refl s⟩
 obtain⟨h1,h2⟩:=h hk;have hs:=qbf;have hi:=Rat.inv_pos.2 hs;have e:∀a:Rat,a*sc⁻¹*sc=a:=fun a=>by
  rw[Rat.mul_assoc,Rat.inv_mul_cancel sc (by grind),Rat.mul_one]
 have le0:=qav (qap wx hk);unfold Iv.Has Iv.In;generalize ((x.lo.val:Int):Rat)=a at *
 generalize ((x.hi.val:Int):Rat)=b at *
 have ea:=e a;have eb:=e b;have ab:a*sc⁻¹<=b*sc⁻¹:=Rat.mul_le_mul_of_nonneg_right le0 (Rat.le_of_lt hi);generalize a*sc⁻¹=u at *
 generalize b*sc⁻¹=v at *
 subst ea eb;have canc:∀{p q:Rat},p*sc<=q*sc->p<=q:=fun h=>Rat.le_of_mul_le_mul_right h hs
 refine⟨fun n=>if s n<u then u else if v<s n then v else s n,fun n _=>?_,?_⟩
 ·have m:∀{p q:Rat},p<=q->p*sc<=q*sc:=fun h=>Rat.mul_le_mul_of_nonneg_right h (Rat.le_of_lt hs)
  refine⟨m ?_,m ?_⟩
  ·show u<=if s n<u then u else if v<s n then v else s n;split
   ·exact Rat.le_refl
   ·split<;>grind
  ·show(if s n<u then u else if v<s n then v else s n)<=v;split
   ·exact ab
   ·split<;>grind
 ·intro ε he;obtain⟨N,hN⟩:=h1 (ε*sc) (Rat.mul_pos he hs);obtain⟨M,hM⟩:=h2 (ε*sc) (Rat.mul_pos he hs);refine⟨max N M,fun n hn=>?_⟩;have g1:u<=s n+ε:=canc (by have:=hN n (by omega);rw[Rat.add_mul];exact this);have g2:s n<=v+ε:=canc (by have:=hM n (by omega);rw[Rat.add_mul];exact this);show Bd (s n-if s n<u then u else if v<s n then v else s n) ε;split
  ·constructor<;>grind
  ·split<;>(constructor<;>grind)
theorem q56 {d:Dy}{k:Int}{a b:Nat}(ok:d.Ok)(hk:k=(a:Int)-b)(h:d.sclE k=0):(d.scl k).val*pw b=d.val*pw a:=by
 unfold Dy.sclE at h;unfold Dy.scl;split at h
 ·rename_i hc;rw[if_pos hc];unfold Dy.chkE at h;split at h
  ·rename_i hin;unfold Dy.chk;rw[if_pos hin];by_cases hm:d.m=[]
   ·have e1:(Dy.of d.neg (natV d.m) (d.e+k)).val=0:=by
     have:Dy.of d.neg (natV d.m) (d.e+k)=Dy.zero:=by rw[hm];rfl
     rw[this,qgy]
    have e2:d.val=0:=by
     have:=Dy.absN_nil hm;unfold Dy.val;rw[this];simp
    rw[e1,e2,Int.zero_mul,Int.zero_mul]
   ·have hn:=qeq ok.tr hm;have ho:=ok.odd hm;have ht:tz (natV d.m)=0:=qacf ho;have he:-16384<=d.e+k:=by
     have hb:=(qa8 hn).2.2;unfold Dy.of at hin;rw[if_neg hn,ht]at hin;unfold Dy.inR at hin;simp only[qac,Nat.pow_zero,Nat.div_one]at hin;simp only[Bool.or_eq_true,Bool.and_eq_true,decide_eq_true_eq,beq_iff_eq]at hin;have h0:bitL (natV d.m)≠0:=by unfold bitL;rw[if_neg hn];omega
     omega
    rw[qs3 he];have elo:=ok.elo;have e3:(2:Nat)^(d.e+k+16384).toNat*2^b=2^(d.e+16384).toNat*2^a:=by
     rw[<-Nat.pow_add,<-Nat.pow_add];congr 1;omega
    have e4:natV d.m*2^(d.e+k+16384).toNat*2^b=natV d.m*2^(d.e+16384).toNat*2^a:=by
     rw[Nat.mul_assoc,e3,Nat.mul_assoc]
    unfold Dy.val Dy.absN pw;split
    ·rw[Int.neg_mul,Int.neg_mul,<-Int.natCast_mul,<-Int.natCast_mul,e4]
    ·rw[<-Int.natCast_mul,<-Int.natCast_mul,e4]
  ·cases h
 ·cases h
theorem qad2 (a:Nat):(0:Rat)<(pw a:Rat):=by
 have:=qfj (qaw a);simpa using this
theorem qaky {x:Iv}{k:Int}{a b:Nat}{q r:Rat}(wx:x.W)(hk:k=(a:Int)-b)(hr:r*(pw b:Rat)=q*(pw a:Rat))(hq:x.In q):(x.scl k).In r:=by
 unfold Iv.scl;split
 ·rename_i kn;obtain⟨o1,o2⟩:=qai wx kn;obtain⟨q1,q2⟩:=hq kn;unfold Iv.made;split
  ·rename_i h0;intro _;have v1:=q56 o1 hk h0.1;have v2:=q56 o2 hk h0.2;have c1:(((x.lo.scl k).val:Int):Rat)*(pw b:Rat)=(x.lo.val:Rat)*(pw a:Rat):=by rw[<-Rat.intCast_mul,<-Rat.intCast_mul,v1]
   have c2:(((x.hi.scl k).val:Int):Rat)*(pw b:Rat)=(x.hi.val:Rat)*(pw a:Rat):=by rw[<-Rat.intCast_mul,<-Rat.intCast_mul,v2]
   have pa:=qad2 a;have pb:=qad2 b;refine⟨Rat.le_of_mul_le_mul_right (c:=(pw b:Rat)) ?_ pb,Rat.le_of_mul_le_mul_right (c:=(pw b:Rat)) ?_ pb⟩
   ·show(((x.lo.scl k).val:Int):Rat)*_<=_;rw[c1];have:=Rat.mul_le_mul_of_nonneg_right q1 (Rat.le_of_lt pa);have e:r*sc*(pw b:Rat)=q*sc*(pw a:Rat):=by grind
    rw[e];exact this
   ·show _<=(((x.hi.scl k).val:Int):Rat)*_;rw[c2];have:=Rat.mul_le_mul_of_nonneg_right q2 (Rat.le_of_lt pa);have e:r*sc*(pw b:Rat)=q*sc*(pw a:Rat):=by grind
    rw[e];exact this
  ·exact .whole
 ·exact .whole
theorem qs5 (k:Int):(nI k k).In (k:Rat):=by
 intro _;show(((nD k).val:Int):Rat)<=_/\_<=(((nD k).val:Int):Rat);rw[qq3,Rat.intCast_mul];exact⟨Rat.le_refl,Rat.le_refl⟩
theorem nI_In {n:Nat}(_h:n<=4611686018427387904):(nI n n).In (n:Rat):=by
 have:=qs5 (n:Int);rwa[Rat.intCast_natCast]at this
theorem qak6 : (nI 1 1).In (1:Rat):=nI_In (n:=1) (by decide)
theorem q5r {x:Iv}{k:Int}:(x.scl k).W:=by
 unfold Iv.scl;split
 ·exact q33 scl_W scl_W
 ·exact Iv.whole_W
def Dy.rat (d:Dy):Rat:=(d.val:Rat)*sc⁻¹
theorem qay (d:Dy):d.rat*sc=(d.val:Rat):=by
 unfold Dy.rat;have hs:=qbf;rw[Rat.mul_assoc,Rat.inv_mul_cancel sc (by grind),Rat.mul_one]
theorem pt_In (d:Dy):(Iv.pt d).In d.rat:=by
 intro _;rw[qay];exact⟨Rat.le_refl,Rat.le_refl⟩
theorem qfp {d:Dy}(h:d.m=[]):d.rat=0:=by
 have:=Dy.absN_nil h;unfold Dy.rat Dy.val;rw[this];have e:((if d.neg=true then -((0:Nat):Int)else((0:Nat):Int):Int):Rat)=0:=by split<;>rfl
 rw[e,Rat.zero_mul]
theorem qadz {d:Dy}(ok:d.Ok)(hm:d.m≠[]){n:Nat}(hn:d.top+1<=n):-(pw n:Rat)<=2*d.rat/\2*d.rat<=(pw n:Rat):=by
 obtain⟨b1,b2⟩:=ok.absN_bounds hm;have ht:=ok.top_pos hm;have h1:2*d.absN<=2^(n+16384):=by
  have e:2^(d.top+16384).toNat*2=2^((d.top+16384).toNat+1):=(Nat.pow_succ ..).symm;have:2^((d.top+16384).toNat+1)<=2^(n+16384):=Nat.pow_le_pow_right (by omega) (by omega);omega
 have h2:((2*d.absN:Nat):Int)<=pw n*pw 16384:=by
  rw[<-qbh];unfold pw;exact Int.ofNat_le.2 h1
 have h3:2*d.val<=pw n*pw 16384/\-(pw n*pw 16384)<=2*d.val:=by
  unfold Dy.val;split<;>omega
 have c1:=qav h3.1;have c2:=qav h3.2;rw[Rat.intCast_neg]at c2;rw[Rat.intCast_mul,Rat.intCast_mul,show((pw 16384:Int):Rat)=sc from rfl,<-qay d]at c1 c2;clear h1 h2 h3 b1 b2 ht;have two:((2:Int):Rat)=2:=rfl;rw[two]at c1 c2;have hs:=qbf;refine⟨Rat.le_of_mul_le_mul_right (c:=sc) ?_ hs,Rat.le_of_mul_le_mul_right (c:=sc) ?_ hs⟩<;>grind
def Iv.HasLog (x:Iv)(d:Rat):Prop:=x.known=true->ELo x.lo.rat d/\EHi d x.hi.rat
theorem HasLog.meet {x y:Iv}{d:Rat}(kx:x.known=true)(ky:y.known=true)(hx:x.HasLog d)(hy:y.HasLog d):x.lo.val<=y.hi.val/\y.lo.val<=x.hi.val:=by
 obtain⟨a,b⟩:=hx kx;obtain⟨c,e⟩:=hy ky;have key:∀{u v:Dy},u.rat<=v.rat->u.val<=v.val:=by
  intro u v h;have:=Rat.mul_le_mul_of_nonneg_right h (Rat.le_of_lt qbf);rw[qay,qay]at this;exact Rat.intCast_le_intCast.1 this
 exact⟨key (a.le e),key (c.le b)⟩
theorem qalu {x:Iv}{q:Rat}(h:x.In q)(k:x.known=true):x.lo.rat<=q/\q<=x.hi.rat:=by
 obtain⟨a,b⟩:=h k;rw[<-qay]at a b;exact⟨Rat.le_of_mul_le_mul_right a qbf,Rat.le_of_mul_le_mul_right b qbf⟩
end Go.Abs.W
