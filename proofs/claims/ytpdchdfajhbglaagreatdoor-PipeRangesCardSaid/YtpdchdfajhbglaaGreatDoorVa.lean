/- Parts of the proof: FpUa, FpUb, FpUc, FpUd, FpUe, FpUf, FpUg, FpVa, FpVb, FpVc, FpUh, FpUi, FpVf. -/
import Derived.Test.YtpdchdfajhbglaaGreatDoorCe
import Derived.Test.YtpdchdfajhbglaaGreatDoorTa
import Derived.Test.YtpdchdfajhbglaaGreatDoorXf
namespace Go.Abs.W
theorem qaen {x:Iv}{c:Bool}{p:Int}(w:x.W):(bothI x c p).Gd:=by
 by_cases h:(precB p&&x.known)=true
 ·simp only[Bool.and_eq_true]at h;have q:=q8p (c:=c) w h.1 h.2;right;have e:bothI x c p=⟨(bothI x c p).lo,(bothI x c p).hi,false⟩:=by
   have:=q.al;generalize bothI x c p=y at *
   rcases y with ⟨l,r,a⟩;simp only at this;subst this;rfl
  rw[e];exact qcl q.ol q.oh q.le
 ·left;unfold bothI;rw[if_neg h]
def un (x:Fx)(b:Nat):Rat:=(x.n:Rat)*(p2 b)⁻¹
theorem Null.of_ev {s t:Nat->Rat}(ht:Null t)(N:Nat)(h:∀n,N<=n->s n=t n):Null s:=fun ε he=>by
 obtain⟨M,hM⟩:=ht ε he;exact⟨max N M,fun n hn=>by rw[h n (by omega)];exact hM n (by omega)⟩
end Go.Abs.W
