/- Parts of the proof: FpXl, FpXm, FpXn, FpXo. -/
import Derived.Test.YtnkijamajifgpaaGreatDoorXe
import Derived.Test.YtnkijamajifgpaaGreatDoorHs
import Derived.Test.YtnkijamajifgpaaGreatDoorHx
namespace Go.Abs.W
theorem Near.le_right {s t:Nat→Rat} (h:Near s t):SLe t s:=h.symm.le_left
theorem rat_le {u v:Dy}:u.rat≤v.rat↔u.val≤v.val:=by
 constructor
 · intro h
   have:=Rat.mul_le_mul_of_nonneg_right h (Rat.le_of_lt qdc)
   rw [qet,qet] at this
   exact Rat.intCast_le_intCast.1 this
 · intro h
   have:=qbk h
   rw [← qet u,← qet v] at this
   exact Rat.le_of_mul_le_mul_right this qdc
theorem qzv {x:Iv} {s:Nat→Rat} (k:x.known=true) (h:x.Has s):SLe (fun _=>x.lo.rat) s∧SLe s (fun _=>x.hi.rat):=by
 obtain ⟨c,h1,h2⟩:=h
 exact ⟨(SLe.of_le 0 fun n _=>(qac7 (h1 n) k).1).trans h2.le_right,h2.le_left.trans (SLe.of_le 0 fun n _=>(qac7 (h1 n) k).2)⟩
theorem q9c {x:Iv} {s:Nat→Rat} (wx:x.W) (h:x.known=true→SLe (fun _=>x.lo.rat) s∧SLe s (fun _=>x.hi.rat)):x.Has s:=by
 refine qam3 (fun k=>?_) wx
 obtain ⟨a,b⟩:=h k
 have hs:=Rat.le_of_lt qdc
 have a2:=a.mul_left (c:=fun _=>sc) (fun _=>hs) (Bnd.const sc)
 have b2:=b.mul_left (c:=fun _=>sc) (fun _=>hs) (Bnd.const sc)
 have e1:=qet x.lo
 have e2:=qet x.hi
 exact ⟨((SLe.of_le 0 fun n _=>by show _≤sc*x.lo.rat; rw [Rat.mul_comm,e1]; exact Rat.le_refl).trans a2).trans (SLe.of_le 0 fun n _=>by show sc*s n≤s n*sc; rw [Rat.mul_comm]; exact Rat.le_refl),
   ((SLe.of_le 0 fun n _=>by show s n*sc≤sc*s n; rw [Rat.mul_comm]; exact Rat.le_refl).trans b2).trans (SLe.of_le 0 fun n _=>by show sc*x.hi.rat≤_; rw [Rat.mul_comm,e2]; exact Rat.le_refl)⟩
end Go.Abs.W
namespace Go.Abs.W
def sh (q:Rat) (n:Nat):Rat:=(es q n-es (-q) n)/2
def ch (q:Rat) (n:Nat):Rat:=(es q n+es (-q) n)/2
theorem qaja {x:Iv} {s:Nat→Rat} (wx:x.W) (h:x.Has s):(x.scl (-1)).Has (fun n=>s n/2):=by
 obtain ⟨c,h1,h2⟩:=h
 refine ⟨fun n=>c n/2,fun n=>qagp (a:=0) (b:=1) wx (by omega) ?_ (h1 n),?_⟩
 · rw [show ((pw 0:Int):Rat)=1 from rfl,show ((pw 1:Int):Rat)=2 from rfl]; grind
 · exact Null.congr (Null.mul h2 (Bnd.const (1/2))) fun n=>by grind
theorem qaem {d:Dy}:d.neg'.rat=-d.rat:=by
 unfold Dy.rat
 rw [qhc,Rat.intCast_neg,Rat.neg_mul]
theorem q8v {x y:Iv} {p:Int} {s t:Nat→Rat} (wx:x.W) (wy:y.W) (hs:x.Has s) (ht:y.Has t):(x.add y.neg p).Has (fun n=>s n-t n):=by
 have:=qu0 (p:=p) wx (neg_W wy) hs (q25 wy ht)
 rwa [show (fun n=>s n+-t n)=fun n=>s n-t n from funext fun n=>by grind] at this
theorem q4d:Dy.zero.rat=0:=qra rfl
theorem qali (k:Int):(nD k).rat=(k:Rat):=by
 have hs:=qdc
 have:(nD k).rat*sc=(k:Rat)*sc:=by rw [qet,qo2,Rat.intCast_mul]; rfl
 have a:=Rat.le_of_mul_le_mul_right (show (nD k).rat*sc≤(k:Rat)*sc by rw [this]; exact Rat.le_refl) hs
 have b:=Rat.le_of_mul_le_mul_right (show (k:Rat)*sc≤(nD k).rat*sc by rw [this]; exact Rat.le_refl) hs
 exact Rat.le_antisymm a b
theorem qaif (q:Rat):0≤rabs q:=by unfold rabs; split<;>grind
end Go.Abs.W
namespace Go.Abs.W
end Go.Abs.W
namespace Go.Abs.W
theorem qahe {x y:Iv} {p:Int} (wx:x.W) (wy:y.W):(x.add y p).Gd:=by
 unfold Iv.add
 split
 · rename_i h
   have h2:=h
   simp only [Bool.and_eq_true] at h2
   have v:=q5m (qajv (p:=p) wx wy wx wy (.inr ⟨h2.1.1,h2.1.1,Int.le_refl _,Int.le_refl _⟩) (.inr ⟨h2.1.2,h2.1.2,Int.le_refl _,Int.le_refl _⟩))
   unfold Iv.add at v
   rw [if_pos h] at v
   exact Gd.of_valid v qaet
 · exact .inl rfl
theorem qak6 {x:Iv} {k:Int} (wx:x.W):(x.scl k).Gd:=by
 unfold Iv.scl
 split
 · rename_i kx
   obtain ⟨o1,o2⟩:=qak wx kx
   have le0:=qaw wx kx
   unfold Iv.made
   split
   · rename_i h
     right
     obtain ⟨a,ha⟩:∃ a:Nat,a=k.toNat:=⟨_,rfl⟩
     obtain ⟨b,hb⟩:∃ b:Nat,b=(-k).toNat:=⟨_,rfl⟩
     have v1:=qxl (a:=a) (b:=b) o1 (by omega) h.1
     have v2:=qxl (a:=a) (b:=b) o2 (by omega) h.2
     refine qbx qago qago ((qa6 (qa3 b)).1 ?_)
     show (x.lo.scl k).val*pw b≤(x.hi.scl k).val*pw b
     rw [v1,v2]
     exact (qa6 (qa3 a)).2 le0
   · exact .inl rfl
 · exact .inl rfl
theorem q6s {x:Iv} (g:x.Gd):x.valid=true:=by
 rcases g with rfl | h
 · rfl
 · exact (qde h).1
theorem q29 {x y:Iv} (wx:x.W) (wy:y.W) (kx:x.known=true) (ky:y.known=true) (h:x.lo.val≤y.hi.val∧y.lo.val≤x.hi.val):meetB x y=true:=by
 obtain ⟨a1,a2⟩:=qak wx kx
 obtain ⟨b1,b2⟩:=qak wy ky
 obtain ⟨v1,l1⟩:=qde kx
 obtain ⟨v2,l2⟩:=qde ky
 have le1:=qaw wx kx
 have le2:=qaw wy ky
 have c:¬ 0<(x.lo.hi2 y.lo).cmp (x.hi.lo2 y.hi):=by
   rw [qjd (qn4 a1 b1) (qqw a2 b2),qajo,qdx a1 b1,qe3 a2 b2]
   omega
 unfold meetB Iv.meet
 rw [v1,v2,l1,l2]
 simp [c]
theorem qs8 {x y:Iv} (vx:x.valid=true) (vy:y.valid=true) (h:x.all=true∨y.all=true):meetB x y=true:=by
 unfold meetB Iv.meet
 rw [vx,vy]
 rcases h with h | h
 · simp [h]
 · cases ha:x.all<;>simp [h]
theorem qaer {x y:Iv} (wx:x.W) (wy:y.W) (gx:x.Gd) (gy:y.Gd) (h:x.known=true→y.known=true→x.lo.val≤y.hi.val∧y.lo.val≤x.hi.val):meetB x y=true:=by
 rcases gx with rfl | kx
 · exact qs8 rfl (q6s gy) (.inl rfl)
 · rcases gy with rfl | ky
   · exact qs8 (qde kx).1 rfl (.inr rfl)
   · exact q29 wx wy kx ky (h kx ky)
theorem qaaw {x y:Iv} {s:Nat→Rat} (wx:x.W) (wy:y.W) (gx:x.Gd) (gy:y.Gd) (hx:x.Has s) (hy:y.Has s):meetB x y=true :=
 qaer wx wy gx gy fun kx ky=>qagc kx ky hx hy
end Go.Abs.W
