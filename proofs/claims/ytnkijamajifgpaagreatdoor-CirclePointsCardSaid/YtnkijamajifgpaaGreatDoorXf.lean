/- Parts of the proof: FpXl, FpXm, FpXn, FpXo. -/
import Derived.Test.YtnkijamajifgpaaGreatDoorXe
import Derived.Test.YtnkijamajifgpaaGreatDoorHs
import Derived.Test.YtnkijamajifgpaaGreatDoorHx
namespace Go.Abs.W
theorem Near.le_right {s t:Nat→Rat} (h:Near s t):SLe t s:=h.symm.le_left
theorem rat_le {u v:Dy}:u.rat≤v.rat↔u.val≤v.val:=by
 constructor
 · intro h
   have:=Rat.mul_le_mul_of_nonneg_right h (Rat.le_of_lt qbv)
   rw [qa8,qa8] at this
   exact Rat.intCast_le_intCast.1 this
 · intro h
   have:=qa0 h
   rw [← qa8 u,← qa8 v] at this
   exact Rat.le_of_mul_le_mul_right this qbv
theorem qrf {x:Iv} {s:Nat→Rat} (k:x.known=true) (h:x.Has s):SLe (fun _=>x.lo.rat) s∧SLe s (fun _=>x.hi.rat):=by
 obtain ⟨c,h1,h2⟩:=h
 exact ⟨(SLe.of_le 0 fun n _=>(qahj (h1 n) k).1).trans h2.le_right,h2.le_left.trans (SLe.of_le 0 fun n _=>(qahj (h1 n) k).2)⟩
theorem qya {x:Iv} {s:Nat→Rat} (wx:x.W) (h:x.known=true→SLe (fun _=>x.lo.rat) s∧SLe s (fun _=>x.hi.rat)):x.Has s:=by
 refine qann (fun k=>?_) wx
 obtain ⟨a,b⟩:=h k
 have hs:=Rat.le_of_lt qbv
 have a2:=a.mul_left (c:=fun _=>sc) (fun _=>hs) (Bnd.const sc)
 have b2:=b.mul_left (c:=fun _=>sc) (fun _=>hs) (Bnd.const sc)
 have e1:=qa8 x.lo
 have e2:=qa8 x.hi
 exact ⟨((SLe.of_le 0 fun n _=>by show _≤sc*x.lo.rat; rw [Rat.mul_comm,e1]; exact Rat.le_refl).trans a2).trans (SLe.of_le 0 fun n _=>by show sc*s n≤s n*sc; rw [Rat.mul_comm]; exact Rat.le_refl),
   ((SLe.of_le 0 fun n _=>by show s n*sc≤sc*s n; rw [Rat.mul_comm]; exact Rat.le_refl).trans b2).trans (SLe.of_le 0 fun n _=>by show sc*x.hi.rat≤_; rw [Rat.mul_comm,e2]; exact Rat.le_refl)⟩
end Go.Abs.W
namespace Go.Abs.W
def sh (q:Rat) (n:Nat):Rat:=(es q n-es (-q) n)/2
def ch (q:Rat) (n:Nat):Rat:=(es q n+es (-q) n)/2
theorem qaje {x:Iv} {s:Nat→Rat} (wx:x.W) (h:x.Has s):(x.scl (-1)).Has (fun n=>s n/2):=by
 obtain ⟨c,h1,h2⟩:=h
 refine ⟨fun n=>c n/2,fun n=>qaln (a:=0) (b:=1) wx (by omega) ?_ (h1 n),?_⟩
 · rw [show ((pw 0:Int):Rat)=1 from rfl,show ((pw 1:Int):Rat)=2 from rfl]; grind
 · exact Null.congr (Null.mul h2 (Bnd.const (1/2))) fun n=>by grind
theorem qyo {d:Dy}:d.neg'.rat=-d.rat:=by
 unfold Dy.rat
 rw [qf8,Rat.intCast_neg,Rat.neg_mul]
theorem q82 {x y:Iv} {p:Int} {s t:Nat→Rat} (wx:x.W) (wy:y.W) (hs:x.Has s) (ht:y.Has t):(x.add y.neg p).Has (fun n=>s n-t n):=by
 have:=qmr (p:=p) wx (neg_W wy) hs (qqq wy ht)
 rwa [show (fun n=>s n+-t n)=fun n=>s n-t n from funext fun n=>by grind] at this
theorem qaaw (k:Int):(nD k).rat=(k:Rat):=by
 have hs:=qbv
 have:(nD k).rat*sc=(k:Rat)*sc:=by rw [qa8,qpj,Rat.intCast_mul]; rfl
 have a:=Rat.le_of_mul_le_mul_right (show (nD k).rat*sc≤(k:Rat)*sc by rw [this]; exact Rat.le_refl) hs
 have b:=Rat.le_of_mul_le_mul_right (show (k:Rat)*sc≤(nD k).rat*sc by rw [this]; exact Rat.le_refl) hs
 exact Rat.le_antisymm a b
end Go.Abs.W
namespace Go.Abs.W
end Go.Abs.W
namespace Go.Abs.W
theorem qacz {x y:Iv} {p:Int} (wx:x.W) (wy:y.W):(x.add y p).Gd:=by
 unfold Iv.add
 split
 · rename_i h
   have h2:=h
   simp only [Bool.and_eq_true] at h2
   have v:=qyu (qaj3 (p:=p) wx wy wx wy (.inr ⟨h2.1.1,h2.1.1,Int.le_refl _,Int.le_refl _⟩) (.inr ⟨h2.1.2,h2.1.2,Int.le_refl _,Int.le_refl _⟩))
   unfold Iv.add at v
   rw [if_pos h] at v
   exact Gd.of_valid v qaew
 · exact .inl rfl
theorem q0f {x:Iv} (g:x.Gd):x.valid=true:=by
 rcases g with rfl | h
 · rfl
 · exact (qb9 h).1
theorem q3m {x y:Iv} (wx:x.W) (wy:y.W) (kx:x.known=true) (ky:y.known=true) (h:x.lo.val≤y.hi.val∧y.lo.val≤x.hi.val):meetB x y=true:=by
 obtain ⟨a1,a2⟩:=qaj wx kx
 obtain ⟨b1,b2⟩:=qaj wy ky
 obtain ⟨v1,l1⟩:=qb9 kx
 obtain ⟨v2,l2⟩:=qb9 ky
 have le1:=qat wx kx
 have le2:=qat wy ky
 have c:¬ 0<(x.lo.hi2 y.lo).cmp (x.hi.lo2 y.hi):=by
   rw [qjm (qpo a1 b1) (qtz a2 b2),qajv,qes a1 b1,qfu a2 b2]
   omega
 unfold meetB Iv.meet
 rw [v1,v2,l1,l2]
 simp [c]
theorem qtx {x y:Iv} (vx:x.valid=true) (vy:y.valid=true) (h:x.all=true∨y.all=true):meetB x y=true:=by
 unfold meetB Iv.meet
 rw [vx,vy]
 rcases h with h | h
 · simp [h]
 · cases ha:x.all<;>simp [h]
theorem qaeu {x y:Iv} (wx:x.W) (wy:y.W) (gx:x.Gd) (gy:y.Gd) (h:x.known=true→y.known=true→x.lo.val≤y.hi.val∧y.lo.val≤x.hi.val):meetB x y=true:=by
 rcases gx with rfl | kx
 · exact qtx rfl (q0f gy) (.inl rfl)
 · rcases gy with rfl | ky
   · exact qtx (qb9 kx).1 rfl (.inr rfl)
   · exact q3m wx wy kx ky (h kx ky)
theorem qty {x y:Iv} {s:Nat→Rat} (wx:x.W) (wy:y.W) (gx:x.Gd) (gy:y.Gd) (hx:x.Has s) (hy:y.Has s):meetB x y=true :=
 qaeu wx wy gx gy fun kx ky=>qaf3 kx ky hx hy
end Go.Abs.W
