/- Parts of the proof: FpVa. -/
import Derived.Test.YtnkijamajifgpaaGreatDoorUb
import Derived.Test.YtnkijamajifgpaaGreatDoorCe
import Derived.Test.YtnkijamajifgpaaGreatDoorCf
import Derived.Test.YtnkijamajifgpaaGreatDoorXf
namespace Go.Abs.W
theorem qoc (d : Dy) (n : Int) (l : Li d.m) : CQ prog qkh [d.v, .int .i64 n] (.bool (com10 d n)) := by
 by_cases h1 : d.m.length ≤ 10
 · exact qzh d n ⟨l, by omega⟩
 · refine qag rfl fun H => ?_
   have h1' : ¬ (d.m.length : Int) ≤ 10 := by omega
   have e : com10 d n = false := by unfold com10; rw [decide_eq_false h1]; rfl
   simp [Dy.v, lim, h1', e]
theorem qq6 {d : Dy} {n : Int} (l : Li d.m) (h : com10 d n = true) : d.Ok ∧ -400 ≤ d.e ∧ d.top ≤ n := by
 unfold com10 at h
 simp only [Bool.and_eq_true, decide_eq_true_eq] at h
 exact ⟨Dy.Ok.of l h.1.1.2, h.1.2, h.2⟩
def qn6 (p : Int) : Int := 8 + p % 57
theorem qwe (p : Int) (hp : IntKind.u8.min ≤ p ∧ p ≤ IntKind.u8.max) : CQ prog qr9 [.int .u8 p] (.int .i64 (qn6 p)) := by
 refine qag rfl fun H => ?_
 have h1 : 0 ≤ p := hp.1
 have h2 : p ≤ 255 := hp.2
 have e1 : IntKind.i64.wrap p = p := by rw [wrap_i64] <;> omega
 have e2 : p.tmod 57 = p % 57 := Int.tmod_eq_emod_of_nonneg h1
 have e3 : IntKind.i64.wrap (p % 57) = p % 57 := by rw [wrap_i64] <;> omega
 have e4 : IntKind.i64.wrap (8 + p % 57) = 8 + p % 57 := by rw [wrap_i64] <;> omega
 simp [e1, e2, e4, qn6]
theorem q7w {p : Int} : 8 ≤ qn6 p ∧ qn6 p ≤ 64 ∧ precB (qn6 p) = true := by
 unfold qn6
 have h : 8 ≤ 8 + p % 57 ∧ 8 + p % 57 ≤ 64 := by omega
 exact ⟨h.1, h.2, precB_iff.2 (by omega)⟩
theorem qll (x y : Iv) (wx : x.W) (wy : y.W) (vx : x.valid = true) : CQ prog qqn [x.v, y.v] (.bool (meetB x y)) := by
 refine qag rfl fun H => ?_
 have c := q9c x y wx wy
 simp only [meetV] at c
 have v := qn4 x wx
 rw [vx] at v
 simp
 refine qab rfl rfl rfl c ?_
 simp
 refine qab rfl rfl rfl v ?_
 simp [meetB]
theorem qabz {x : Iv} {s : Nat → Rat} {d : Dy} (w : x.W) (g : x.Gd) (ok : d.Ok) (h : x.Has s) (hs : Near s (fun _ => d.rat)) : x.has d = true := by
 rcases g with rfl | k
 · unfold Iv.has; rw [ok.valid]; rfl
 · obtain ⟨a, b⟩ := qvn k h
   obtain ⟨o1, o2⟩ := qaj w k
   have a' := rat_le.1 (a.trans hs.le_left).const
   have b' := rat_le.1 (hs.le_right.trans b).const
   unfold Iv.has
   rw [(qbo k).1, (qbo k).2, ok.valid, qhr o1 ok, qhr ok o2, decide_eq_true (cmpI_le.2 a'), decide_eq_true (cmpI_le.2 b')]
   rfl
end Go.Abs.W
