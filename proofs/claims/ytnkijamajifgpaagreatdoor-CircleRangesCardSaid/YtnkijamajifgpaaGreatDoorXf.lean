/- Parts of the proof: FpXl, FpXm, FpXn, FpXo. -/
import Derived.Test.YtnkijamajifgpaaGreatDoorXe
import Derived.Test.YtnkijamajifgpaaGreatDoorHs
import Derived.Test.YtnkijamajifgpaaGreatDoorHx
namespace Go.Abs.W
theorem Near.le_right {s t:Nat->Rat}(h:Near s t):SLe t s:=h.symm.le_left
theorem rat_le {u v:Dy}:u.rat<=v.rat↔u.val<=v.val:=by
 constructor
 ·intro h;have:=Rat.mul_le_mul_of_nonneg_right h (Rat.le_of_lt qbf);rw[qay,qay]at this;exact Rat.intCast_le_intCast.1 this
 ·intro h;have:=qav h;rw[<-qay u,<-qay v]at this;exact Rat.le_of_mul_le_mul_right this qbf
theorem qed {x:Iv}{s:Nat->Rat}(k:x.known=true)(h:x.Has s):SLe (fun _=>x.lo.rat) s/\SLe s (fun _=>x.hi.rat):=by
 obtain⟨c,h1,h2⟩:=h;exact⟨(SLe.of_le 0 fun n _=>(qalu (h1 n) k).1).trans h2.le_right,h2.le_left.trans (SLe.of_le 0 fun n _=>(qalu (h1 n) k).2)⟩
theorem qr5 {x:Iv}{s:Nat->Rat}(wx:x.W)(h:x.known=true->SLe (fun _=>x.lo.rat) s/\SLe s (fun _=>x.hi.rat)):x.Has s:=by
 refine qar0 (fun k=>?_) wx;obtain⟨a,b⟩:=h k;have hs:=Rat.le_of_lt qbf;have a2:=a.mul_left (c:=fun _=>sc) (fun _=>hs) (Bnd.const sc);have b2:=b.mul_left (c:=fun _=>sc) (fun _=>hs) (Bnd.const sc);have e1:=qay x.lo;have e2:=qay x.hi;exact⟨((SLe.of_le 0 fun n _=>by show _<=sc*x.lo.rat;rw[Rat.mul_comm,e1];exact Rat.le_refl).trans a2).trans (SLe.of_le 0 fun n _=>by show sc*s n<=s n*sc;rw[Rat.mul_comm];exact Rat.le_refl),
  ((SLe.of_le 0 fun n _=>by show s n*sc<=sc*s n;rw[Rat.mul_comm];exact Rat.le_refl).trans b2).trans (SLe.of_le 0 fun n _=>by show sc*x.hi.rat<=_;rw[Rat.mul_comm,e2];exact Rat.le_refl)⟩
def sh (q:Rat)(n:Nat):Rat:=(es q n-es (-q) n)/2
def ch (q:Rat)(n:Nat):Rat:=(es q n+es (-q) n)/2
theorem q6o {x:Iv}{s:Nat->Rat}(wx:x.W)(h:x.Has s):(x.scl (-1)).Has (fun n=>s n/2):=by
 obtain⟨c,h1,h2⟩:=h;refine⟨fun n=>c n/2,fun n=>qaky (a:=0) (b:=1) wx (by omega) ?_ (h1 n),?_⟩
 ·rw[show((pw 0:Int):Rat)=1 from rfl,show((pw 1:Int):Rat)=2 from rfl];grind
 ·exact Null.congr (Null.mul h2 (Bnd.const (1/2))) fun n=>by grind
theorem qgz {d:Dy}:d.neg'.rat=-d.rat:=by
 unfold Dy.rat;rw[qco,Rat.intCast_neg,Rat.neg_mul]
theorem q5y {x y:Iv}{p:Int}{s t:Nat->Rat}(wx:x.W)(wy:y.W)(hs:x.Has s)(ht:y.Has t):(x.add y.neg p).Has (fun n=>s n-t n):=by
 have:=qj3 (p:=p) wx (neg_W wy) hs (qp9 wy ht);rwa[show(fun n=>s n+-t n)=fun n=>s n-t n from funext fun n=>by grind]at this
theorem q7q : Dy.zero.rat=0:=qfp rfl
theorem qaeo (k:Int):(nD k).rat=(k:Rat):=by
 have hs:=qbf;have:(nD k).rat*sc=(k:Rat)*sc:=by rw[qay,qq3,Rat.intCast_mul];rfl
 have a:=Rat.le_of_mul_le_mul_right (show(nD k).rat*sc<=(k:Rat)*sc by rw[this];exact Rat.le_refl) hs;have b:=Rat.le_of_mul_le_mul_right (show(k:Rat)*sc<=(nD k).rat*sc by rw[this];exact Rat.le_refl) hs;exact Rat.le_antisymm a b
theorem qam2 (q:Rat):0<=rabs q:=by unfold rabs;split<;>grind
theorem qarn {x y:Iv}{p:Int}(wx:x.W)(wy:y.W):(x.add y p).Gd:=by
 unfold Iv.add;split
 ·rename_i h;have h2:=h;simp only[Bool.and_eq_true]at h2;have v:=q02 (qaoi (p:=p) wx wy wx wy (.inr ⟨h2.1.1,h2.1.1,Int.le_refl _,Int.le_refl _⟩) (.inr ⟨h2.1.2,h2.1.2,Int.le_refl _,Int.le_refl _⟩));unfold Iv.add at v;rw[if_pos h]at v;exact Gd.of_valid v qai5
 ·exact .inl rfl
theorem qakg {x:Iv}(g:x.Gd):x.valid=true:=by
 rcases g with rfl|h
 ·rfl
 ·exact(qb6 h).1
theorem q6j {x y:Iv}(wx:x.W)(wy:y.W)(kx:x.known=true)(ky:y.known=true)(h:x.lo.val<=y.hi.val/\y.lo.val<=x.hi.val):meetB x y=true:=by
 obtain⟨a1,a2⟩:=qai wx kx;obtain⟨b1,b2⟩:=qai wy ky;obtain⟨v1,l1⟩:=qb6 kx;obtain⟨v2,l2⟩:=qb6 ky;have le1:=qap wx kx;have le2:=qap wy ky;have c:¬0<(x.lo.hi2 y.lo).cmp (x.hi.lo2 y.hi):=by
  rw[qie (qs8 a1 b1) (qpz a2 b2),qaoa,qfi a1 b1,qdv a2 b2];omega
 unfold meetB Iv.meet;rw[v1,v2,l1,l2];simp[c]
theorem qvk {x y:Iv}(vx:x.valid=true)(vy:y.valid=true)(h:x.all=true\/y.all=true):meetB x y=true:=by
 unfold meetB Iv.meet;rw[vx,vy];rcases h with h|h
 ·simp[h]
 ·cases ha:x.all<;>simp[h]
theorem qai3 {x y:Iv}(wx:x.W)(wy:y.W)(gx:x.Gd)(gy:y.Gd)(h:x.known=true->y.known=true->x.lo.val<=y.hi.val/\y.lo.val<=x.hi.val):meetB x y=true:=by
 rcases gx with rfl|kx
 ·exact qvk rfl (qakg gy) (.inl rfl)
 ·rcases gy with rfl|ky
  ·exact qvk (qb6 kx).1 rfl (.inr rfl)
  ·exact q6j wx wy kx ky (h kx ky)
theorem qaet {x y:Iv}{s:Nat->Rat}(wx:x.W)(wy:y.W)(gx:x.Gd)(gy:y.Gd)(hx:x.Has s)(hy:y.Has s):meetB x y=true:=
 qai3 wx wy gx gy fun kx ky=>qakf kx ky hx hy
end Go.Abs.W
