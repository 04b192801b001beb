/- Parts of the proof: FpVg. -/
import Derived.Test.YtnkijamajifgpaaGreatDoorUc
import Derived.Test.YtnkijamajifgpaaGreatDoorVb
namespace Go.Abs.W
theorem neg'_same {d:Dy}:d.neg'.m=d.m/\d.neg'.e=d.e/\d.neg'.top=d.top:=⟨rfl,rfl,rfl⟩
theorem qqw {d:Dy}{e:Int}(hm:d.m≠[])(he:e<=d.e):bitL (sumX d e)<=(d.top-e).toNat:=by
 unfold sumX;have:=q2i (n:=natV d.m) (s:=(d.e-e).toNat);have et:d.top=bitL (natV d.m)+d.e:=by unfold Dy.top;rw[if_neg hm]
 omega
theorem qamd {a b:Dy}(oa:a.Ok)(ob:b.Ok)(ha:-2000<=a.e)(hb:-2000<=b.e)(ta:a.top<=1000)(tb:b.top<=1000):(a.sum b).Ok:=by
 unfold Dy.sum;by_cases na:a.m=[]
 ·rw[if_pos na];exact ob
 ·by_cases nb:b.m=[]
  ·rw[if_neg na,if_pos nb];exact oa
  ·rw[if_neg na,if_neg nb];have⟨e,he⟩:∃e,e=min a.e b.e:=⟨_,rfl⟩
   simp only[<-he];have h1:=oa.elo;have h2:=ob.elo
   have ea:a.e<=1000:=by have:a.top=bitL (natV a.m)+a.e:=by{ unfold Dy.top;rw[if_neg na] }
                         omega
   have ba:=qqw na (show e<=a.e by omega);have bb:=qqw nb (show e<=b.e by omega);have bs:=qik (k:=3000) (Nat.le_trans ba (by omega)) (Nat.le_trans bb (by omega));split
   ·exact Dy.of_ok (Dy.of_inR (by omega) (by omega) (by omega))
   ·split
    ·have:=qat (Nat.sub_le (sumX a e) (sumX b e));exact Dy.of_ok (Dy.of_inR (by omega) (by omega) (by omega))
    ·have:=qat (Nat.sub_le (sumX b e) (sumX a e));exact Dy.of_ok (Dy.of_inR (by omega) (by omega) (by omega))
end Go.Abs.W
