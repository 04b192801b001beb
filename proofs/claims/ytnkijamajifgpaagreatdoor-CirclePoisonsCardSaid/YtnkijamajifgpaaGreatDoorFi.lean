/- Parts of the proof: FpR03, FpR03b, FpIvA, FpIvB, FpIvC, FpIvD, FpIvE, FpIvF. -/
import Derived.Test.YtnkijamajifgpaaGreatDoorFh
import Derived.Test.YtnkijamajifgpaaGreatDoorFg
import Derived.Test.YtnkijamajifgpaaGreatDoorFg
import Derived.Test.YtnkijamajifgpaaGreatDoorFe
namespace Go.Abs.W
theorem q1n {q b : Nat} (h : bitL q ≤ b) : (qae q).length ≤ b / 32 + 1 :=
 qdd (Nat.lt_of_lt_of_le (qbm q) (Nat.pow_le_pow_right (by omega) h)) (by omega)
end Go.Abs.W
namespace Go.Abs.W
theorem Dy.Ok.size {d : Dy} (h : d.Ok) : d.m.length ≤ 10000 ∧ Li d.m ∧ -100000 ≤ d.e ∧ d.e ≤ 100000 := by
 have h1 := h.elo; have h2 := h.ehi; have h3 := h.len
 exact ⟨by omega, h.li, by omega, by omega⟩
end Go.Abs.W
namespace Go.Abs.W
def Iv.made (r s : Dy × Int) : Iv := if r.2 = 0 ∧ s.2 = 0 then ⟨r.1, s.1, false⟩ else Iv.whole
def Iv.add (x y : Iv) (p : Int) : Iv := if (x.known && y.known && precB p) = true then Iv.made (rAdd x.lo y.lo p false) (rAdd x.hi y.hi p true) else Iv.whole
def Iv.neg (x : Iv) : Iv := if x.known = true then ⟨x.hi.neg', x.lo.neg', false⟩ else Iv.whole
def Iv.rnd (x : Iv) (p : Int) : Iv := if (x.known && precB p) = true then Iv.made (qb6 x.lo p false) (qb6 x.hi p true) else Iv.whole
def Iv.sgn (x : Iv) : Int := if x.known = true then (if 0 < x.lo.sgn then 1 else if x.hi.sgn < 0 then -1 else 0) else 0
theorem Dy.zero_W : Dy.zero.W := Dy.zero_ok.w
theorem Iv.whole_W : Iv.whole.W := ⟨Dy.zero_W, Dy.zero_W⟩
theorem rRound_ok {d : Dy} {p : Int} {up : Bool} : (qb6 d p up).1.Ok := by
 unfold qb6; split
 · rename_i h; obtain ⟨_, h1, h2⟩ := qjl h; exact qt3 (by omega) (by omega)
 · exact Dy.zero_ok
theorem rAdd_ok {a b : Dy} {p : Int} {up : Bool} : (rAdd a b p up).1.Ok := by
 unfold rAdd; split
 · rename_i h; obtain ⟨_, h1, h2⟩ := qjl h; exact qt3 (by omega) (by omega)
 · exact Dy.zero_ok
theorem q52 {r s : Dy × Int} (hr : r.1.W) (hs : s.1.W) : (Iv.made r s).W := by
 unfold Iv.made; split
 · exact ⟨hr, hs⟩
 · exact Iv.whole_W
theorem qrs (p : Int) : CQ prog qjs [.int .i64 p] (.bool (precB p)) := by
 refine qag rfl fun H => ?_
 simp [precB]
 grind
theorem q1g {d : Dy} (h : d.Ok) : d.opp = d.neg' := by
 unfold Dy.opp Dy.neg'
 rw [h.valid]
 by_cases hm : d.m = []
 · obtain ⟨h1, h2⟩ := h.zero hm
   simp [hm, h2, Dy.zero]
 · simp [hm]
theorem q39 {d : Dy} (h : d.Ok) : d.neg'.Ok := by
 refine ⟨h.li, h.tr, h.len, ?_, h.odd, h.bits, h.elo, h.ehi, h.top⟩
 intro hm
 have hm' : d.m = [] := hm
 exact ⟨by simp [Dy.neg', hm'], (h.zero hm').2⟩
theorem q2j (x : Iv) (wx : x.W) : CQ prog qnf [x.v] (.int .i64 x.sgn) := by
 refine qag rfl fun H => ?_
 simp
 refine qao rfl rfl (H1 := H ++ [some ⟨7, [x.v], false, true⟩, some ⟨7, [x.v], true, false⟩]) (vs := [ivs [x]]) (by simp [prep, frzVs, frzV]; rfl) (qqa [x] (by simp) (by simpa using wx)) ?_
 cases hk : x.known
 · simp [hk, Iv.sgn]
 · obtain ⟨h1, h2⟩ := qb8 wx hk
   have s1 := qlm x.lo wx.lo
   have s2 := qlm x.hi wx.hi
   rw [h1.valid] at s1
   rw [h2.valid] at s2
   simp [hk]
   refine qab rfl rfl rfl s1 ?_
   by_cases hp : 0 < x.lo.sgn
   · simp [Iv.sgn, hk, hp]
   · simp [hp]
     refine qab rfl rfl rfl s2 ?_
     by_cases hn : x.hi.sgn < 0
     · simp [Iv.sgn, hk, hp, hn]
     · simp [Iv.sgn, hk, hp, hn]
end Go.Abs.W
namespace Go.Abs.W
theorem qlt {a b : Dy} (ha : a.Ok) (hb : b.Ok) : a.cmp b = cmpI a.val b.val := by simp [Dy.cmp, ha.valid, hb.valid]
theorem cmpI_le {x y : Int} : cmpI x y ≤ 0 ↔ x ≤ y := by unfold cmpI; split <;> (try split) <;> omega
theorem qzs {x y : Int} : 0 ≤ cmpI x y ↔ y ≤ x := by unfold cmpI; split <;> (try split) <;> omega
theorem qtm {a b : Dy} (ha : a.Ok) (hb : b.Ok) : (a.lo2 b).val = min a.val b.val := by
 unfold Dy.lo2; rw [qlt ha hb]; split
 · rename_i h; rw [cmpI_le] at h; omega
 · rename_i h; rw [cmpI_le] at h; omega
theorem qto {a b : Dy} (ha : a.Ok) (hb : b.Ok) : (a.hi2 b).val = max a.val b.val := by
 unfold Dy.hi2; rw [qlt ha hb]; split
 · rename_i h; rw [qzs] at h; omega
 · rename_i h; rw [qzs] at h; omega
theorem q3f {d : Dy} (h : d.Ok) : d.abs.Ok := by
 unfold Dy.abs
 split
 · rename_i h2
   exact ⟨h.li, h.tr, h.len, fun hm => absurd hm h2.2, h.odd, h.bits, h.elo, h.ehi, h.top⟩
 · exact Dy.zero_ok
theorem qu1 {x : Iv} (w : x.W) (h : x.known = true) : x.lo.val ≤ x.hi.val := by
 obtain ⟨h1, h2⟩ := qb8 w h
 simp [Iv.known] at h
 have hv := h.2
 rw [Iv.valid, if_neg (by simp [h.1])] at hv
 simp [qlt h1 h2, cmpI_le] at hv
 exact hv.2
def Iv.mag (x : Iv) : Dy := x.lo.abs.hi2 x.hi.abs
def Iv.mig (x : Iv) : Dy := if x.sgn = 0 then Dy.zero else x.lo.abs.lo2 x.hi.abs
def Iv.abs (x : Iv) : Iv := if x.known = true then ⟨x.mig, x.mag, false⟩ else Iv.whole
def pairs (x y : Iv) : List (Dy × Dy) := [(x.lo, y.lo), (x.lo, y.hi), (x.hi, y.lo), (x.hi, y.hi)]
def accLo (f : Dy → Dy → Dy × Int) : List (Dy × Dy) → Nat → Dy
 | _, 0 => Dy.zero
 | l, i + 1 => if i = 0 then (f ((l.getD i (Dy.zero, Dy.zero)).1) ((l.getD i (Dy.zero, Dy.zero)).2)).1 else (accLo f l i).lo2 (f ((l.getD i (Dy.zero, Dy.zero)).1) ((l.getD i (Dy.zero, Dy.zero)).2)).1
def accHi (f : Dy → Dy → Dy × Int) : List (Dy × Dy) → Nat → Dy
 | _, 0 => Dy.zero
 | l, i + 1 => if i = 0 then (f ((l.getD i (Dy.zero, Dy.zero)).1) ((l.getD i (Dy.zero, Dy.zero)).2)).1 else (accHi f l i).hi2 (f ((l.getD i (Dy.zero, Dy.zero)).1) ((l.getD i (Dy.zero, Dy.zero)).2)).1
def Iv.four (f g : Dy → Dy → Dy × Int) (x y : Iv) : Iv :=
 if (pairs x y).all (fun q => decide ((f q.1 q.2).2 = 0) && decide ((g q.1 q.2).2 = 0)) = true then ⟨accLo f (pairs x y) 4, accHi g (pairs x y) 4, false⟩ else Iv.whole
end Go.Abs.W
namespace Go.Abs.W
end Go.Abs.W
namespace Go.Abs.W
def Iv.mul (x y : Iv) (p : Int) : Iv := if (x.known && y.known && precB p) = true then Iv.four (fun a b => rMul a b p false) (fun a b => rMul a b p true) x y else Iv.whole
def Iv.div (x y : Iv) (p : Int) : Iv := if (x.known && y.known && precB p && decide (y.sgn ≠ 0)) = true then Iv.four (fun a b => rDiv a b p false) (fun a b => rDiv a b p true) x y else Iv.whole
end Go.Abs.W
namespace Go.Abs.W
def Iv.sq (x : Iv) (p : Int) : Iv := if (!x.abs.all && precB p) = true then Iv.made (rMul x.abs.lo x.abs.lo p false) (rMul x.abs.hi x.abs.hi p true) else Iv.whole
def nD (k : Int) : Dy := Dy.of (decide (k < 0)) k.natAbs 0
end Go.Abs.W
namespace Go.Abs.W
theorem nD_ok {k : Int} (h : k.natAbs ≤ 4611686018427387904) : (nD k).Ok := by
 unfold nD
 have hb : bitL k.natAbs ≤ 64 := qa1 (by omega)
 exact Dy.of_ok (Dy.of_inR (by omega) (by omega) (by omega))
end Go.Abs.W
