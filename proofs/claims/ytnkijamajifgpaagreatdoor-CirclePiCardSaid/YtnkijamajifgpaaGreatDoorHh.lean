/- Parts of the proof: FpIvH. -/
import Derived.Test.YtnkijamajifgpaaGreatDoorHs
namespace Go.Abs.W
def Iv.pt (d : Dy) : Iv := ⟨d, d, false⟩
def Iv.has (x : Iv) (d : Dy) : Bool := x.valid && d.valid && (x.all || (decide (x.lo.cmp d ≤ 0) && decide (d.cmp x.hi ≤ 0)))
theorem pt_W {d : Dy} (w : d.W) : (Iv.pt d).W := ⟨w, w⟩
theorem qtg (d : Dy) (w : d.W) : CQ prog qp2 [d.v] (if d.valid = true then Iv.pt d else Iv.whole).v := by
 refine qah rfl fun H => ?_
 simp
 refine qab rfl rfl rfl (qe0 d w.len w.li) ?_
 cases hv : d.valid
 · simp
   refine qab rfl rfl rfl qca ?_
   simp [Iv.whole, lim]
 · simp [Iv.pt, lim]
theorem qzz (d : Dy) : CQ prog qr7 [d.v] (Iv.pt d).v := by
 refine qah rfl fun H => ?_
 simp [Iv.pt, lim]
set_option maxHeartbeats 1000000 in
theorem qae5 (x : Iv) (d : Dy) (wx : x.W) (wd : d.W) : CQ prog qtm [x.v, d.v] (.bool (x.has d)) := by
 refine qah rfl fun H => ?_
 simp
 repeat' first
   | (refine qab rfl rfl rfl (qj1 x wx) ?_; simp)
   | (refine qab rfl rfl rfl (qe0 d wd.len wd.li) ?_; simp)
   | (refine qab rfl rfl rfl (qlm x.lo d wx.lo wd) ?_; simp)
   | (refine qab rfl rfl rfl (qlm d x.hi wd wx.hi) ?_; simp)
   | refine And.intro ?_ ?_
   | intro _
 all_goals first | (simp [Iv.has, *]; done) | (simp [Iv.has, *]; grind) | grind [Iv.has]
def Iv.wid (x : Iv) (p : Int) : Dy × Int := if (x.known && precB p) = true then rAdd x.hi x.lo.neg' p true else (Dy.zero, 1)
theorem q8x (x : Iv) (p : Int) (wx : x.W) : CQ prog qpz [x.v, .int .i64 p] (.tup [(x.wid p).1.v, .bool (decide ((x.wid p).2 = 0))]) := by
 refine qah rfl fun H => ?_
 simp
 refine qaq rfl rfl (H1 := H ++ [some ⟨7, [x.v], false, true⟩, some ⟨3, [.agg [.bool false, .nil, .int .i64 0]], false, true⟩, some ⟨7, [x.v], true, false⟩]) (vs := [ivs [x]]) (by simp [prep, frzVs, frzV]; rfl) (qvv [x] (by simp) (by simpa using wx)) ?_
 cases hk : x.known
 · simp [hk, Iv.wid, Dy.zero, lim]
 · obtain ⟨h1, h2⟩ := qao wx hk
   have hn := qd5 h1
   simp [hk]
   refine qab rfl rfl rfl (qx9 p) ?_
   cases hp : precB p
   · simp [Iv.wid, hp, Dy.zero, lim]
   · simp
     refine qab rfl rfl rfl (q8y x.lo wx.lo) ?_
     rw [q9w h1]
     simp
     refine qab rfl rfl rfl (qabj x.hi x.lo.neg' p wx.hi hn.w) ?_
     simp [Iv.wid, hk, hp, lim]
end Go.Abs.W
