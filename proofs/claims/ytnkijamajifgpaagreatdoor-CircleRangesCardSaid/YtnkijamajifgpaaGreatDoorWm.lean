/- Parts of the proof: FpWm. -/
import Derived.Test.YtnkijamajifgpaaGreatDoorWc
import Derived.Test.YtnkijamajifgpaaGreatDoorWg
namespace Go.Abs.W
theorem qaiu {d:Dy}{b t:Nat}(ok:d.Ok)(h0:d.val=0):Fine (Iv.pt d) b t:=by
 have p:=qaw (16384+t);refine⟨qpd ok,?_,?_,?_,?_⟩
 ·show _∣d.val;rw[h0];exact Int.dvd_zero _
 ·show _∣d.val;rw[h0];exact Int.dvd_zero _
 ·show _<=d.val;omega
 ·show d.val<=_;omega
theorem qy4 {d:Dy}{c:Bool}{n:Nat}(ok:d.Ok)(hp:precB (n:Int)=true)(ht:d.top<=128):Fine (qbg d c n) (n+64) 3/\(qbg d c n).hi.val-(qbg d c n).lo.val<=pw (16388-n):=by
 have hpp:=precB_iff.1 hp;have p0:=qaw (16388-n);unfold qbg;split
 ·rename_i hm;have z:d.val=0:=by have:=qdt d;have:=Dy.absN_nil hm;omega
  cases c
  ·simp only[Bool.false_eq_true,if_false];exact⟨qaiu ok z,by show d.val-d.val<=_;omega⟩
  ·simp only[if_true];have v:(nD 1).val=pw 16384:=unit_vals.2;have q:=qaw (16384+3);have dv:pw (16384-(n+64))∣(nD 1).val:=by
    rw[v];exact⟨pw (n+64),by rw[<-qbh];exact congrArg pw (by omega)⟩
   have le:(nD 1).val<=pw (16384+3):=by rw[v];exact pw_le (by omega)
   have g:-pw (16384+3)<=(nD 1).val:=by rw[v];have:=qaw 16384;omega
   exact⟨⟨qbj nD1 nD1 (Int.le_refl _),dv,dv,g,le⟩,by show(nD 1).val-(nD 1).val<=_;omega⟩
 ·obtain⟨n1,_⟩:=qaea (c:=c) ok (b:=n+64) (by omega) (by omega) ht;have big:2^30<=2^(n+64):=Nat.pow_le_pow_right (by omega) (by omega);exact q3w hp rfl (by omega)
end Go.Abs.W
