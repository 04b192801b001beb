/- Parts of the proof: FpWf. -/
import Derived.Test.YtnkijamajifgpaaGreatDoorWd
import Derived.Test.YtnkijamajifgpaaGreatDoorWc
namespace Go.Abs.W
theorem qam7 {d:Dy}{b t:Nat}(ok:d.Ok)(h0:d.val=0):Fine (Iv.pt d) b t:=by
 have p:=qaw (16384+t);refine⟨qpd ok,?_,?_,?_,?_⟩
 ·show _∣d.val;rw[h0];exact Int.dvd_zero _
 ·show _∣d.val;rw[h0];exact Int.dvd_zero _
 ·show _<=d.val;omega
 ·show d.val<=_;omega
theorem qz0 {d:Dy}{n:Nat}(ok:d.Ok)(hp:precB (n:Int)=true):Fine (qbx d n) (n+64) 3/\(qbx d n).hi.val-(qbx d n).lo.val<=pw (16388-n):=by
 have p0:=qaw (16388-n);unfold qbx;split
 ·rename_i hm;have z:d.val=0:=by have:=qdt d;have:=Dy.absN_nil hm;omega
  exact⟨qam7 ok z,by show d.val-d.val<=_;omega⟩
 ·rename_i hm;have hpp:=precB_iff.1 hp;have al:=qagt (b:=n+64) ok hm (by omega);have big:2^30<=2^(n+64):=Nat.pow_le_pow_right (by omega) (by omega);have e30:(2:Nat)^30=1073741824:=rfl;have e24:(2:Nat)^24=16777216:=rfl;exact q3w hp rfl (by simp only[];omega)
end Go.Abs.W
