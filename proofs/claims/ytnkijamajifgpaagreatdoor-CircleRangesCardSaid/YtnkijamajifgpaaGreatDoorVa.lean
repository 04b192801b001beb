/- Parts of the proof: FpVa. -/
import Derived.Test.YtnkijamajifgpaaGreatDoorUb
import Derived.Test.YtnkijamajifgpaaGreatDoorCe
import Derived.Test.YtnkijamajifgpaaGreatDoorCf
import Derived.Test.YtnkijamajifgpaaGreatDoorXf
namespace Go.Abs.W
theorem qtd (d:Dy)(n:Int)(l:Li d.m):CQ prog qn4 [d.v,.int .i64 n] (.bool (com10 d n)):=by
 by_cases h1:d.m.length<=10
 ·exact q69 d n ⟨l,by omega⟩
 ·refine qah rfl fun H=>?_
  have h1':¬(d.m.length:Int)<=10:=by omega
  have e:com10 d n=false:=by unfold com10;rw[decide_eq_false h1];rfl
  simp[Dy.v,lim,h1',e]
theorem qw2 {d:Dy}{n:Int}(l:Li d.m)(h:com10 d n=true):d.Ok/\-400<=d.e/\d.top<=n:=by
 unfold com10 at h;simp only[Bool.and_eq_true,decide_eq_true_eq]at h;exact⟨Dy.Ok.of l h.1.1.2,h.1.2,h.2⟩
def qvd (p:Int):Int:=8+p%57
theorem qad6 (p:Int)(hp:IntKind.u8.min<=p/\p<=IntKind.u8.max):CQ prog qyc [.int .u8 p] (.int .i64 (qvd p)):=by
 refine qah rfl fun H=>?_
 have h1:0<=p:=hp.1;have h2:p<=255:=hp.2;have e1:IntKind.i64.wrap p=p:=by rw[wrap_i64]<;>omega
 have e2:p.tmod 57=p%57:=Int.tmod_eq_emod_of_nonneg h1;have e3:IntKind.i64.wrap (p%57)=p%57:=by rw[wrap_i64]<;>omega
 have e4:IntKind.i64.wrap (8+p%57)=8+p%57:=by rw[wrap_i64]<;>omega
 simp[e1,e2,e4,qvd]
theorem qaiw {p:Int}:8<=qvd p/\qvd p<=64/\precB (qvd p)=true:=by
 unfold qvd;have h:8<=8+p%57/\8+p%57<=64:=by omega
 exact⟨h.1,h.2,precB_iff.2 (by omega)⟩
end Go.Abs.W
