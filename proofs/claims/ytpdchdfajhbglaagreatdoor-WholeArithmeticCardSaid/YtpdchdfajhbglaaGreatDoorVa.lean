/- Parts of the proof: FpVa. -/
import Derived.Test.YtpdchdfajhbglaaGreatDoorUb
import Derived.Test.YtpdchdfajhbglaaGreatDoorCe
import Derived.Test.YtpdchdfajhbglaaGreatDoorCf
import Derived.Test.YtpdchdfajhbglaaGreatDoorXf
namespace Go.Abs.W
theorem q98 {x:Iv}{s:Nat->Rat}{d:Dy}(w:x.W)(g:x.Gd)(ok:d.Ok)(h:x.Has s)(hs:Near s (fun _=>d.rat)):x.has d=true:=by
 rcases g with rfl|k
 ·unfold Iv.has;rw[ok.valid];rfl
 ·obtain⟨a,b⟩:=qjt k h;obtain⟨o1,o2⟩:=qai w k;have a':=rat_le.1 (a.trans hs.le_left).const;have b':=rat_le.1 (hs.le_right.trans b).const;unfold Iv.has;rw[(qa2 k).1,(qa2 k).2,ok.valid,qe6 o1 ok,qe6 ok o2,decide_eq_true (cmpI_le.2 a'),decide_eq_true (cmpI_le.2 b')];rfl
theorem sq_Gd {x:Iv}{p:Int}(w:x.W):(x.sq p).Gd:=by rw[<-qaj9 w];exact q4i (abs_W w) (abs_W w)
end Go.Abs.W
