/- Parts of the proof: FpVb. -/
import Derived.Test.YtpdchdfajhbglaaGreatDoorVa
import Derived.Test.YtpdchdfajhbglaaGreatDoorUb
namespace Go.Abs.W
theorem qoh {x:Iv}{c:Bool}{p:Int}(w:x.W):(bothI x c p).Gd:=by
 by_cases h:(precB p&&x.known)=true
 ·simp only[Bool.and_eq_true]at h;have q:=q5i (c:=c) w h.1 h.2;right;have e:bothI x c p=⟨(bothI x c p).lo,(bothI x c p).hi,false⟩:=by
   have:=q.al;generalize bothI x c p=y at *
   rcases y with ⟨l,r,a⟩;simp only at this;subst this;rfl
  rw[e];exact qbd q.ol q.oh q.le
 ·left;unfold bothI;rw[if_neg h]
theorem qpb {x:Iv}{c:Bool}{p:Int}{u:Nat->Rat}(w:x.W)(h:x.Has u):(bothI x c p).Has (Fn c u):=by
 by_cases hc:(precB p&&x.known)=true
 ·have hc2:=hc;simp only[Bool.and_eq_true]at hc2;obtain⟨a,b⟩:=qjt hc2.2 h;exact qaes w hc2.1 hc2.2 a b
 ·unfold bothI;rw[if_neg hc];exact .whole
theorem piO_W {p:Int}:(piO p).W:=by unfold piO;split<;>first|exact q9a|exact Iv.whole_W
end Go.Abs.W
