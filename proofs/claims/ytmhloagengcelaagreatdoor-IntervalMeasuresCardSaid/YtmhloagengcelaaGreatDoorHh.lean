/- Parts of the proof: FpIvH. -/
import Derived.Test.YtmhloagengcelaaGreatDoorHs
/- Package interval and its reference: New, Point, Has, Interior, Equal, Mid, Width. -/
namespace Go.Abs.W

def Iv.has (x : Iv) (d : Dy) : Bool := x.valid && d.valid && (x.all || (decide (x.lo.cmp d ≤ 0) && decide (d.cmp x.hi ≤ 0)))
set_option maxHeartbeats 1000000 in
theorem IHas_cq (x : Iv) (d : Dy) (wx : x.W) (wd : d.W) : CQ prog g_interval_Has [x.v, d.v] (.bool (x.has d)) := by
  refine CQ_run rfl fun H => ?_
  simp
  repeat' first
    | (refine WL_call rfl rfl rfl (IValid_cq x wx) ?_; simp)
    | (refine WL_call rfl rfl rfl (Valid_cq d wd.len wd.li) ?_; simp)
    | (refine WL_call rfl rfl rfl (DCmp_cq x.lo d wx.lo wd) ?_; simp)
    | (refine WL_call rfl rfl rfl (DCmp_cq d x.hi wd wx.hi) ?_; simp)
    | refine And.intro ?_ ?_
    | intro _
  all_goals first | (simp [Iv.has, *]; done) | (simp [Iv.has, *]; grind) | grind [Iv.has]

set_option maxHeartbeats 1000000 in
theorem RIHas_cq (x : Iv) (d : Dy) (wx : x.W) (wd : d.W) : CQ prog g_fpref05_Has [x.v, d.v] (.bool (x.has d)) := by
  refine CQ_run rfl fun H => ?_
  simp
  repeat' first
    | (refine WL_call rfl rfl rfl (RIValid_cq x wx) ?_; simp [*])
    | (refine WL_call rfl rfl rfl (RValid_cq d wd) ?_; simp [*])
    | (refine WL_call rfl rfl rfl (RCmp_cq x.lo d (wx.okLo (by assumption) (by assumption)) (Dy.Ok.of wd.li (by assumption))) ?_; simp)
    | (refine WL_call rfl rfl rfl (RCmp_cq d x.hi (Dy.Ok.of wd.li (by assumption)) (wx.okHi (by assumption) (by assumption))) ?_; simp)
    | refine And.intro ?_ ?_
    | intro _
  all_goals first | (simp [Iv.has, *]; done) | (simp [Iv.has, *]; grind) | grind [Iv.has]

def Iv.wid (x : Iv) (p : Int) : Dy × Int := if (x.known && precB p) = true then rAdd x.hi x.lo.neg' p true else (Dy.zero, 1)
def Iv.mid (x : Iv) (p : Int) : Dy :=
  if (x.known && precB p) = true then
    (if (rAdd x.lo x.hi p false).2 = 0 ∧ (rAdd x.lo x.hi p false).1.sclE (-1) = 0 ∧ x.has ((rAdd x.lo x.hi p false).1.scl (-1)) = true then (rAdd x.lo x.hi p false).1.scl (-1) else x.lo)
  else Dy.zero

theorem IWidth_cq (x : Iv) (p : Int) (wx : x.W) : CQ prog g_interval_Width [x.v, .int .i64 p] (.tup [(x.wid p).1.v, .bool (decide ((x.wid p).2 = 0))]) := by
  refine CQ_run rfl fun H => ?_
  simp
  refine WL_callH rfl rfl (H1 := H ++ [some ⟨7, [x.v], false, true⟩, some ⟨3, [.agg [.bool false, .nil, .int .i64 0]], false, true⟩, some ⟨7, [x.v], true, false⟩]) (vs := [ivs [x]]) (by simp [prep, frzVs, frzV]; rfl) (known_cq [x] (by simp) (by simpa using wx)) ?_
  cases hk : x.known
  · simp [hk, Iv.wid, Dy.zero, lim]
  · obtain ⟨h1, h2⟩ := known_ok wx hk
    have hn := neg'_ok h1
    simp [hk]
    refine WL_call rfl rfl rfl (permitted_cq p) ?_
    cases hp : precB p
    · simp [Iv.wid, hp, Dy.zero, lim]
    · simp
      refine WL_call rfl rfl rfl (DNeg_cq x.lo wx.lo) ?_
      rw [opp_neg' h1]
      simp
      refine WL_call rfl rfl rfl (AddUp_cq x.hi x.lo.neg' p wx.hi hn.w) ?_
      simp [Iv.wid, hk, hp, lim]

theorem cutR_err {neg : Bool} {m : Nat} {e : Int} {more : Bool} {p : Nat} {up : Bool} (h : (cutR neg m e more p up).2 ≠ 0) : (cutR neg m e more p up).1 = Dy.zero := by
  revert h; unfold cutR
  split
  · split
    · intro _; rfl
    · intro h; exact absurd rfl h
  · intro h; exact absurd rfl h
theorem rAdd_err {a b : Dy} {p : Int} {up : Bool} (h : (rAdd a b p up).2 ≠ 0) : (rAdd a b p up).1 = Dy.zero := by
  revert h; unfold rAdd
  split
  · exact cutR_err
  · intro _; rfl

theorem RIWidth_cq (x : Iv) (p : Int) (wx : x.W) : CQ prog g_fpref05_Width [x.v, .int .i64 p] (.tup [(x.wid p).1.v, .bool (decide ((x.wid p).2 = 0))]) := by
  refine CQ_run rfl fun H => ?_
  simp
  refine WL_call rfl rfl rfl (RPrec5_cq p) ?_
  cases hp : precB p
  · simp [Iv.wid, hp, Dy.zero, lim]
  · simp
    refine WL_call rfl rfl rfl (Rknown_cq x wx) ?_
    cases hk : x.known
    · simp [hk, Iv.wid, Dy.zero, lim]
    · obtain ⟨h1, h2⟩ := known_ok wx hk
      have hn := neg'_ok h1
      simp
      refine WL_call rfl rfl rfl (Neg_cq x.lo) ?_
      simp
      refine WL_call rfl rfl rfl (RAdd3_cq x.hi x.lo.neg' p true wx.hi hn.w) ?_
      have er := rAdd_err (a := x.hi) (b := x.lo.neg') (p := p) (up := true)
      by_cases h0 : (rAdd x.hi x.lo.neg' p true).2 = 0
      · simp [Iv.wid, hk, hp, h0, lim]
      · simp [Iv.wid, hk, hp, h0, lim, er h0, Dy.zero]

theorem scl_W {d : Dy} {k : Int} : (d.scl k).W := by
  unfold Dy.scl
  split
  · unfold Dy.chk
    split
    · rename_i h; exact (Dy.of_ok h).w
    · exact Dy.zero_W
  · exact Dy.zero_W

theorem IMid_cq (x : Iv) (p : Int) (wx : x.W) : CQ prog g_interval_Mid [x.v, .int .i64 p] (x.mid p).v := by
  refine CQ_run rfl fun H => ?_
  simp
  refine WL_callH rfl rfl (H1 := H ++ [some ⟨7, [x.v], false, true⟩, some ⟨3, [.agg [.bool false, .nil, .int .i64 0]], false, true⟩, some ⟨7, [x.v], true, false⟩]) (vs := [ivs [x]]) (by simp [prep, frzVs, frzV]; rfl) (known_cq [x] (by simp) (by simpa using wx)) ?_
  cases hk : x.known
  · simp [hk, Iv.mid, Dy.zero, lim]
  · simp [hk]
    refine WL_call rfl rfl rfl (permitted_cq p) ?_
    cases hp : precB p
    · simp [Iv.mid, hp, Dy.zero, lim]
    · simp
      refine WL_call rfl rfl rfl (AddDown_cq x.lo x.hi p wx.lo wx.hi) ?_
      have ok := rAdd_ok (a := x.lo) (b := x.hi) (p := p) (up := false)
      have hm : x.mid p = if (rAdd x.lo x.hi p false).2 = 0 ∧ (rAdd x.lo x.hi p false).1.sclE (-1) = 0 ∧ x.has ((rAdd x.lo x.hi p false).1.scl (-1)) = true then (rAdd x.lo x.hi p false).1.scl (-1) else x.lo := by simp [Iv.mid, hk, hp]
      rw [hm]
      generalize rAdd x.lo x.hi p false = r at *
      by_cases h0 : r.2 = 0
      · simp [h0]
        refine WL_call rfl rfl rfl (DScale_cq r.1 (-1) ok.w) ?_
        by_cases h1 : r.1.sclE (-1) = 0
        · simp [h1]
          refine WL_call rfl rfl rfl (IHas_cq x (r.1.scl (-1)) wx scl_W) ?_
          cases h2 : x.has (r.1.scl (-1)) <;> simp [lim]
        · simp [h1, lim]
      · simp [h0, lim]

theorem RIMid_cq (x : Iv) (p : Int) (wx : x.W) : CQ prog g_fpref05_Mid [x.v, .int .i64 p] (x.mid p).v := by
  refine CQ_run rfl fun H => ?_
  simp
  refine WL_call rfl rfl rfl (RPrec5_cq p) ?_
  cases hp : precB p
  · simp [Iv.mid, hp, Dy.zero, lim]
  · simp
    refine WL_call rfl rfl rfl (Rknown_cq x wx) ?_
    cases hk : x.known
    · simp [hk, Iv.mid, Dy.zero, lim]
    · simp
      refine WL_call rfl rfl rfl (RAdd3_cq x.lo x.hi p false wx.lo wx.hi) ?_
      have ok := rAdd_ok (a := x.lo) (b := x.hi) (p := p) (up := false)
      have hm : x.mid p = if (rAdd x.lo x.hi p false).2 = 0 ∧ (rAdd x.lo x.hi p false).1.sclE (-1) = 0 ∧ x.has ((rAdd x.lo x.hi p false).1.scl (-1)) = true then (rAdd x.lo x.hi p false).1.scl (-1) else x.lo := by simp [Iv.mid, hk, hp]
      rw [hm]
      generalize rAdd x.lo x.hi p false = r at *
      simp
      refine WL_call rfl rfl rfl (RScale_cq r.1 (-1) ok.w) ?_
      by_cases h0 : r.2 = 0
      · by_cases h1 : r.1.sclE (-1) = 0
        · simp [h0, h1]
          refine WL_call rfl rfl rfl (RIHas_cq x (r.1.scl (-1)) wx scl_W) ?_
          cases h2 : x.has (r.1.scl (-1)) <;> simp [lim]
        · simp [h0, h1, lim]
      · simp [h0, lim]

end Go.Abs.W

