/- Parts of the proof: FpQ2, FpQ3, FpXa, FpXb, FpXc, FpXd. -/
import Derived.Test.YtfioikimlnlcbaaGreatDoorHk
import Derived.Test.YtfioikimlnlcbaaGreatDoorXa
import Derived.Test.YtfioikimlnlcbaaGreatDoorHp
import Derived.Test.YtfioikimlnlcbaaGreatDoorFe
import Derived.Test.YtfioikimlnlcbaaGreatDoorHy
namespace Go.Abs.W
theorem qajh {x:Iv}{p:Int}{q:Rat}(wx:x.W)(hq:x.In q):(x.rnd p).In q:=by
 unfold Iv.rnd;split
 ·rename_i h;simp only[Bool.and_eq_true]at h;obtain⟨k1,hp⟩:=h;obtain⟨a1,a2⟩:=qb3 wx k1;obtain⟨q1,q2⟩:=hq k1;unfold Iv.made;split
  ·rename_i h0;intro _;have u:=qf3 ((qyi a1 hp).at h0.1);have v:=qf3 ((qyh a2 hp).at h0.2);exact⟨Rat.le_trans u q1,Rat.le_trans q2 v⟩
  ·exact .whole
 ·exact .whole
def Iv.Has (x:Iv)(s:Nat->Rat):Prop:=∃c:Nat->Rat,(∀n,x.In (c n))/\Near s c
theorem Iv.Has.near {x:Iv}{s t:Nat->Rat}(h:x.Has s)(k:Near t s):x.Has t:=by
 obtain⟨c,h1,h2⟩:=h;exact⟨c,h1,k.trans h2⟩
theorem Iv.In.has {x:Iv}{q:Rat}(h:x.In q):x.Has (fun _=>q):=⟨_,fun _=>h,Near.refl _⟩
theorem Near.of_ev {s t:Nat->Rat}(N:Nat)(h:∀n,N<=n->s n=t n):Near s t:=fun ε he=>⟨N,fun n hn=>by have:=h n hn;constructor<;>grind⟩
theorem Iv.Has.of_ev {x:Iv}{s:Nat->Rat}(N:Nat)(h:∀n,N<=n->x.In (s n)):x.Has s:=
 ⟨fun n=>s (max n N),fun n=>h _ (by omega),Near.of_ev N fun n hn=>by rw[Nat.max_eq_left hn]⟩
theorem Iv.Has.whole {s:Nat->Rat}:Iv.whole.Has s:=⟨s,fun _=>.whole,Near.refl s⟩
theorem qag3 {x y:Iv}{p:Int}{s t:Nat->Rat}(wx:x.W)(wy:y.W)(hs:x.Has s)(ht:y.Has t)(bs:Bnd s)(bt:Bnd t):(x.mul y p).Has (fun n=>s n*t n):=by
 obtain⟨c,h1,h2⟩:=hs;obtain⟨d,k1,k2⟩:=ht;exact⟨fun n=>c n*d n,fun n=>qajy wx wy (h1 n) (k1 n),h2.mul k2 bs bt⟩
theorem q7y {d:Dy}{k:Int}{a b:Nat}(ok:d.Ok)(hk:k=(a:Int)-b)(h:d.sclE k=0):(d.scl k).val*pw b=d.val*pw a:=by
 unfold Dy.sclE at h;unfold Dy.scl;split at h
 ·rename_i hc;rw[if_pos hc];unfold Dy.chkE at h;split at h
  ·rename_i hin;unfold Dy.chk;rw[if_pos hin];by_cases hm:d.m=[]
   ·have e1:(Dy.of d.neg (natV d.m) (d.e+k)).val=0:=by
     have:Dy.of d.neg (natV d.m) (d.e+k)=Dy.zero:=by rw[hm];rfl
     rw[this,qn2]
    have e2:d.val=0:=by
     have:=Dy.absN_nil hm;unfold Dy.val;rw[this];simp
    rw[e1,e2,Int.zero_mul,Int.zero_mul]
   ·have hn:=qf1 ok.tr hm;have ho:=ok.odd hm;have ht:tz (natV d.m)=0:=q67 ho;have he:-16384<=d.e+k:=by
     have hb:=(qar hn).2.2;unfold Dy.of at hin;rw[if_neg hn,ht]at hin;unfold Dy.inR at hin;simp only[qad,Nat.pow_zero,Nat.div_one]at hin;simp only[Bool.or_eq_true,Bool.and_eq_true,decide_eq_true_eq,beq_iff_eq]at hin;have h0:bitL (natV d.m)≠0:=by unfold bitL;rw[if_neg hn];omega
     omega
    rw[qqh he];have elo:=ok.elo;have e3:(2:Nat)^(d.e+k+16384).toNat*2^b=2^(d.e+16384).toNat*2^a:=by
     rw[<-Nat.pow_add,<-Nat.pow_add];congr 1;omega
    have e4:natV d.m*2^(d.e+k+16384).toNat*2^b=natV d.m*2^(d.e+16384).toNat*2^a:=by
     rw[Nat.mul_assoc,e3,Nat.mul_assoc]
    unfold Dy.val Dy.absN pw;split
    ·rw[Int.neg_mul,Int.neg_mul,<-Int.natCast_mul,<-Int.natCast_mul,e4]
    ·rw[<-Int.natCast_mul,<-Int.natCast_mul,e4]
  ·cases h
 ·cases h
theorem q8e (a:Nat):(0:Rat)<(pw a:Rat):=by
 have:=qaag (qc6 a);simpa using this
theorem qajg {x:Iv}{k:Int}{a b:Nat}{q r:Rat}(wx:x.W)(hk:k=(a:Int)-b)(hr:r*(pw b:Rat)=q*(pw a:Rat))(hq:x.In q):(x.scl k).In r:=by
 unfold Iv.scl;split
 ·rename_i kn;obtain⟨o1,o2⟩:=qb3 wx kn;obtain⟨q1,q2⟩:=hq kn;unfold Iv.made;split
  ·rename_i h0;intro _;have v1:=q7y o1 hk h0.1;have v2:=q7y o2 hk h0.2;have c1:(((x.lo.scl k).val:Int):Rat)*(pw b:Rat)=(x.lo.val:Rat)*(pw a:Rat):=by rw[<-Rat.intCast_mul,<-Rat.intCast_mul,v1]
   have c2:(((x.hi.scl k).val:Int):Rat)*(pw b:Rat)=(x.hi.val:Rat)*(pw a:Rat):=by rw[<-Rat.intCast_mul,<-Rat.intCast_mul,v2]
   have pa:=q8e a;have pb:=q8e b;refine⟨Rat.le_of_mul_le_mul_right (c:=(pw b:Rat)) ?_ pb,Rat.le_of_mul_le_mul_right (c:=(pw b:Rat)) ?_ pb⟩
   ·show(((x.lo.scl k).val:Int):Rat)*_<=_;rw[c1];have:=Rat.mul_le_mul_of_nonneg_right q1 (Rat.le_of_lt pa);have e:r*sc*(pw b:Rat)=q*sc*(pw a:Rat):=by grind
    rw[e];exact this
   ·show _<=(((x.hi.scl k).val:Int):Rat)*_;rw[c2];have:=Rat.mul_le_mul_of_nonneg_right q2 (Rat.le_of_lt pa);have e:r*sc*(pw b:Rat)=q*sc*(pw a:Rat):=by grind
    rw[e];exact this
  ·exact .whole
 ·exact .whole
theorem qajv (k:Int):(nI k k).In (k:Rat):=by
 intro _;show(((nD k).val:Int):Rat)<=_/\_<=(((nD k).val:Int):Rat);rw[qqi,Rat.intCast_mul];exact⟨Rat.le_refl,Rat.le_refl⟩
theorem qafn {x:Iv}{k:Int}:(x.scl k).W:=by
 unfold Iv.scl;split
 ·exact q80 scl_W scl_W
 ·exact Iv.whole_W
end Go.Abs.W
