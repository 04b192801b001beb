/- Parts of the proof: FpVa. -/
import Derived.Test.YtnkijamajifgpaaGreatDoorUb
import Derived.Test.YtnkijamajifgpaaGreatDoorCe
import Derived.Test.YtnkijamajifgpaaGreatDoorCf
import Derived.Test.YtnkijamajifgpaaGreatDoorXf
namespace Go.Abs.W
theorem q2h (d:Dy) (n:Int) (l:Li d.m):CQ prog qmx [d.v,.int .i64 n] (.bool (com10 d n)):=by
 by_cases h1:d.m.length≤10
 · exact q4b d n ⟨l,by omega⟩
 · refine qah rfl fun H=>?_
   have h1':¬ (d.m.length:Int)≤10:=by omega
   have e:com10 d n=false:=by unfold com10; rw [decide_eq_false h1]; rfl
   simp [Dy.v,lim,h1',e]
theorem q4c {d:Dy} {n:Int} (l:Li d.m) (h:com10 d n=true):d.Ok∧-400≤d.e∧d.top≤n:=by
 unfold com10 at h
 simp only [Bool.and_eq_true,decide_eq_true_eq] at h
 exact ⟨Dy.Ok.of l h.1.1.2,h.1.2,h.2⟩
def qto (p:Int):Int:=8+p%57
theorem qaag (p:Int) (hp:IntKind.u8.min≤p∧p≤IntKind.u8.max):CQ prog qwm [.int .u8 p] (.int .i64 (qto p)):=by
 refine qah rfl fun H=>?_
 have h1:0≤p:=hp.1
 have h2:p≤255:=hp.2
 have e1:IntKind.i64.wrap p=p:=by rw [wrap_i64]<;>omega
 have e2:p.tmod 57=p%57:=Int.tmod_eq_emod_of_nonneg h1
 have e3:IntKind.i64.wrap (p%57)=p%57:=by rw [wrap_i64]<;>omega
 have e4:IntKind.i64.wrap (8+p%57)=8+p%57:=by rw [wrap_i64]<;>omega
 simp [e1,e2,e4,qto]
theorem qael {p:Int}:8≤qto p∧qto p≤64∧precB (qto p)=true:=by
 unfold qto
 have h:8≤8+p%57∧8+p%57≤64:=by omega
 exact ⟨h.1,h.2,precB_iff.2 (by omega)⟩
theorem qxh (x y:Iv) (wx:x.W) (wy:y.W) (vx:x.valid=true):CQ prog quz [x.v,y.v] (.bool (meetB x y)):=by
 refine qah rfl fun H=>?_
 have c:=qafy x y wx wy
 simp only [meetV] at c
 have v:=qht x wx
 rw [vx] at v
 simp
 refine qaa rfl rfl rfl c ?_
 simp
 refine qaa rfl rfl rfl v ?_
 simp [meetB]
end Go.Abs.W
