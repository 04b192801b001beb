/- Parts of the proof: FpXj, FpXk, FpXl, FpXm, FpXn, FpXo. -/
import Derived.Test.YtfioikimlnlcbaaGreatDoorXd
import Derived.Test.YtfioikimlnlcbaaGreatDoorHm
import Derived.Test.YtfioikimlnlcbaaGreatDoorHx
namespace Go.Abs.W
def Iv.Gd (x:Iv):Prop:=x=Iv.whole\/x.known=true
theorem Gd.of_valid {r:Iv}(h:r.valid=true)(hw:r.all=true->r=Iv.whole):r.Gd:=by
 cases ha:r.all
 ·right;simp[Iv.known,ha,h]
 ·exact .inl (hw ha)
def withB (x:Iv)(a b:Int):Bool:=x.known&&decide (0<=x.lo.cmp (nD a))&&decide (x.hi.cmp (nD b)<=0)
theorem q5i (x:Iv)(a b:Int)(wx:x.W)(ha:a.natAbs<=1048576)(hb:b.natAbs<=1048576):CQ prog qq1 [x.v,.int .i64 a,.int .i64 b] (.bool (withB x a b)):=by
 refine qaf rfl fun H=>?_
 have c1:=q2r a (by omega) (by omega);rw[<-show nD a=Dy.of (decide (a<0)) a.natAbs 0 from rfl]at c1;have c2:=q2r b (by omega) (by omega);rw[<-show nD b=Dy.of (decide (b<0)) b.natAbs 0 from rfl]at c2;have oa:(nD a).Ok:=nD_ok (by omega);have ob:(nD b).Ok:=nD_ok (by omega);have v:=qvt x wx;cases hk:x.known
 ·rcases x with ⟨xl,xh,xa⟩;simp;refine zq v ?_;cases hv:(Iv.mk xl xh xa).valid
  ·simp[withB,hk]
  ·cases xa
   ·simp[Iv.known,hv]at hk
   ·simp[withB,hk]
 ·obtain⟨o1,o2⟩:=qb3 wx hk;obtain⟨hv,hall⟩:=qc7 hk;rw[hv]at v;have d1:=q2s x.lo (nD a) o1 oa;have d2:=q2s x.hi (nD b) o2 ob;rcases x with ⟨xl,xh,xa⟩;simp only at hall;subst hall;simp;refine zq v ?_;simp;refine zq c1 ?_;simp;refine zq d1 ?_;by_cases q:0<=xl.cmp (nD a)
  ·simp[q];refine zq c2 ?_;simp;refine zq d2 ?_;simp[withB,hk,q]
  ·simp[q];simp[withB,hk,q]
def sh (q:Rat)(n:Nat):Rat:=(es q n-es (-q) n)/2
def ch (q:Rat)(n:Nat):Rat:=(es q n+es (-q) n)/2
theorem qahd {x:Iv}{s:Nat->Rat}(wx:x.W)(h:x.Has s):(x.scl (-1)).Has (fun n=>s n/2):=by
 obtain⟨c,h1,h2⟩:=h;refine⟨fun n=>c n/2,fun n=>qajg (a:=0) (b:=1) wx (by omega) ?_ (h1 n),?_⟩
 ·rw[show((pw 0:Int):Rat)=1 from rfl,show((pw 1:Int):Rat)=2 from rfl];grind
 ·exact Null.congr (Null.mul h2 (Bnd.const (1/2))) fun n=>by grind
def pz (f:Nat->Rat):Nat->Rat
 |0=>0
 |k+1=>ps f k
end Go.Abs.W
