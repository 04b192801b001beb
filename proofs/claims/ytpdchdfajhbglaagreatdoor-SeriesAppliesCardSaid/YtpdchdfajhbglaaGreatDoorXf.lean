/- Parts of the proof: FpXl, FpXm, FpXn. -/
import Derived.Test.YtpdchdfajhbglaaGreatDoorXe
namespace Go.Abs.W
theorem exp_W {x:Iv}{p:Int}(w:x.W):(x.exp p).W:=by
 unfold Iv.exp;split
 ·rename_i h;simp only[Bool.and_eq_true]at h;obtain⟨o1,o2⟩:=qat w h.1.1.1;exact qafx (q9u o1) (q9u o2)
 ·exact Iv.whole_W
def sh (q:Rat)(n:Nat):Rat:=(es q n-es (-q) n)/2
def ch (q:Rat)(n:Nat):Rat:=(es q n+es (-q) n)/2
theorem log_W {x:Iv}{p:Int}:(x.log p).W:=by
 unfold Iv.log;split
 ·exact qafx lgI_W lgI_W
 ·exact Iv.whole_W
end Go.Abs.W
