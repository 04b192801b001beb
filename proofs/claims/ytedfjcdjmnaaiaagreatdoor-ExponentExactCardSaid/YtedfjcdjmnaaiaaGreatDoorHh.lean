/- Parts of the proof: FpIvH. -/
import Derived.Test.YtedfjcdjmnaaiaaGreatDoorHs
namespace Go.Abs.W
def Iv.pt (d : Dy) : Iv := ⟨d, d, false⟩
def Iv.has (x : Iv) (d : Dy) : Bool := x.valid && d.valid && (x.all || (decide (x.lo.cmp d ≤ 0) && decide (d.cmp x.hi ≤ 0)))
theorem pt_W {d : Dy} (w : d.W) : (Iv.pt d).W := ⟨w, w⟩
theorem qxf (d : Dy) (w : d.W) : CQ prog qtp [d.v] (if d.valid = true then Iv.pt d else Iv.whole).v := by
 refine qag rfl fun H => ?_
 simp
 refine qaa rfl rfl rfl (qeh d w.len w.li) ?_
 cases hv : d.valid
 · simp
   refine qaa rfl rfl rfl qat ?_
   simp [Iv.whole, lim]
 · simp [Iv.pt, lim]
theorem qr6 (d : Dy) : CQ prog qv0 [d.v] (Iv.pt d).v := by
 refine qag rfl fun H => ?_
 simp [Iv.pt, lim]
set_option maxHeartbeats 1000000 in
theorem qak4 (x : Iv) (d : Dy) (wx : x.W) (wd : d.W) : CQ prog qxs [x.v, d.v] (.bool (x.has d)) := by
 refine qag rfl fun H => ?_
 simp
 repeat' first
   | (refine qaa rfl rfl rfl (qd7 x wx) ?_; simp)
   | (refine qaa rfl rfl rfl (qeh d wd.len wd.li) ?_; simp)
   | (refine qaa rfl rfl rfl (qf4 x.lo d wx.lo wd) ?_; simp)
   | (refine qaa rfl rfl rfl (qf4 d x.hi wd wx.hi) ?_; simp)
   | refine And.intro ?_ ?_
   | intro _
 all_goals first | (simp [Iv.has, *]; done) | (simp [Iv.has, *]; grind) | grind [Iv.has]
set_option maxHeartbeats 1000000 in
theorem qaha (x : Iv) (d : Dy) (wx : x.W) (wd : d.W) : CQ prog q1e [x.v, d.v] (.bool (x.has d)) := by
 refine qag rfl fun H => ?_
 simp
 repeat' first
   | (refine qaa rfl rfl rfl (qgr x wx) ?_; simp [*])
   | (refine qaa rfl rfl rfl (qf3 d wd) ?_; simp [*])
   | (refine qaa rfl rfl rfl (qh9 x.lo d (wx.okLo (by assumption) (by assumption)) (Dy.Ok.of wd.li (by assumption))) ?_; simp)
   | (refine qaa rfl rfl rfl (qh9 d x.hi (Dy.Ok.of wd.li (by assumption)) (wx.okHi (by assumption) (by assumption))) ?_; simp)
   | refine And.intro ?_ ?_
   | intro _
 all_goals first | (simp [Iv.has, *]; done) | (simp [Iv.has, *]; grind) | grind [Iv.has]
def Iv.mid (x : Iv) (p : Int) : Dy :=
 if (x.known && precB p) = true then
   (if (rAdd x.lo x.hi p false).2 = 0 ∧ (rAdd x.lo x.hi p false).1.sclE (-1) = 0 ∧ x.has ((rAdd x.lo x.hi p false).1.scl (-1)) = true then (rAdd x.lo x.hi p false).1.scl (-1) else x.lo)
 else Dy.zero
theorem scl_W {d : Dy} {k : Int} : (d.scl k).W := by
 unfold Dy.scl
 split
 · unfold Dy.chk
   split
   · rename_i h; exact (Dy.of_ok h).w
   · exact Dy.zero_W
 · exact Dy.zero_W
theorem qag9 (x : Iv) (p : Int) (wx : x.W) : CQ prog q1c [x.v, .int .i64 p] (x.mid p).v := by
 refine qag rfl fun H => ?_
 simp
 refine qaa rfl rfl rfl (qpk p) ?_
 cases hp : precB p
 · simp [Iv.mid, hp, Dy.zero, lim]
 · simp
   refine qaa rfl rfl rfl (qd6 x wx) ?_
   cases hk : x.known
   · simp [hk, Iv.mid, Dy.zero, lim]
   · simp
     refine qaa rfl rfl rfl (q2g x.lo x.hi p false wx.lo wx.hi) ?_
     have ok := rAdd_ok (a := x.lo) (b := x.hi) (p := p) (up := false)
     have hm : x.mid p = if (rAdd x.lo x.hi p false).2 = 0 ∧ (rAdd x.lo x.hi p false).1.sclE (-1) = 0 ∧ x.has ((rAdd x.lo x.hi p false).1.scl (-1)) = true then (rAdd x.lo x.hi p false).1.scl (-1) else x.lo := by simp [Iv.mid, hk, hp]
     rw [hm]
     generalize rAdd x.lo x.hi p false = r at *
     simp
     refine qaa rfl rfl rfl (qmh r.1 (-1) ok.w) ?_
     by_cases h0 : r.2 = 0
     · by_cases h1 : r.1.sclE (-1) = 0
       · simp [h0, h1]
         refine qaa rfl rfl rfl (qaha x (r.1.scl (-1)) wx scl_W) ?_
         cases h2 : x.has (r.1.scl (-1)) <;> simp [lim]
       · simp [h0, h1, lim]
     · simp [h0, lim]
end Go.Abs.W
