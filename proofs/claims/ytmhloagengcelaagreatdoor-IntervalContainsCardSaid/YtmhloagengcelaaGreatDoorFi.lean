/- Parts of the proof: FpR03, FpR03b, FpIvA, FpIvB, FpIvC, FpIvD, FpIvE, FpIvF. -/
import Derived.Test.YtmhloagengcelaaGreatDoorFh
import Derived.Test.YtmhloagengcelaaGreatDoorFg
import Derived.Test.YtmhloagengcelaaGreatDoorFg
import Derived.Test.YtmhloagengcelaaGreatDoorFe
/- The reference of layer 3: rounding. -/
namespace Go.Abs.W

theorem limbs_le {q b : Nat} (h : bitL q ≤ b) : (limbsOf q).length ≤ b / 32 + 1 :=
 limbs_bits (Nat.lt_of_lt_of_le (lt_bitL q) (Nat.pow_le_pow_right (by omega) h)) (by omega)

end Go.Abs.W

/- The reference of layer 3: rounding, sums, products, quotients, square roots. -/
namespace Go.Abs.W

/-- The size of a canonical number. -/
theorem of_size {neg : Bool} {N : Nat} {e : Int} {b : Nat} (hb : bitL N ≤ b) (he1 : -60000 ≤ e) (he2 : e ≤ 60000) (hbb : b ≤ 40000) :
   (Dy.of neg N e).m.length ≤ 10000 ∧ Li (Dy.of neg N e).m ∧ -100000 ≤ (Dy.of neg N e).e ∧ (Dy.of neg N e).e ≤ 100000 := by
 by_cases h : N = 0
 · subst h
   have : Dy.of neg 0 e = ⟨false, [], 0⟩ := by simp [Dy.of]
   rw [this]
   exact ⟨by simp, by intro x hx; simp at hx, by simp, by simp⟩
 · have hd : Dy.of neg N e = ⟨neg, limbsOf (N / 2 ^ tz N), e + tz N⟩ := by simp [Dy.of, h]
   rw [hd]
   have h1 := bitL_tz h
   have h2 := limbs_le (q := N / 2 ^ tz N) (b := b) (by omega)
   exact ⟨by simp only; omega, li_limbsOf _, by simp only; omega, by simp only; omega⟩

theorem Dy.Ok.size {d : Dy} (h : d.Ok) : d.m.length ≤ 10000 ∧ Li d.m ∧ -100000 ≤ d.e ∧ d.e ≤ 100000 := by
 have h1 := h.elo; have h2 := h.ehi; have h3 := h.len
 exact ⟨by omega, h.li, by omega, by omega⟩

theorem sum_size {a b : Dy} (oa : a.Ok) (ob : b.Ok) : (a.sum b).m.length ≤ 10000 ∧ Li (a.sum b).m ∧ -100000 ≤ (a.sum b).e ∧ (a.sum b).e ≤ 100000 := by
 unfold Dy.sum
 by_cases na : a.m = []
 · rw [if_pos na]; exact ob.size
 · by_cases nb : b.m = []
   · rw [if_neg na, if_pos nb]; exact oa.size
   · rw [if_neg na, if_neg nb]
     have e1 := oa.elo; have e2 := oa.ehi; have e3 := ob.elo; have e4 := ob.ehi
     have ba := oa.bits; have bb := ob.bits
     obtain ⟨e, he⟩ : ∃ e, e = min a.e b.e := ⟨_, rfl⟩
     simp only [← he]
     obtain ⟨B, hB⟩ : ∃ B, B = 37000 := ⟨_, rfl⟩
     have hX : bitL (sumX a e) ≤ B := by
       refine bitL_le_of ?_
       unfold sumX
       refine Nat.lt_of_lt_of_le (Nat.mul_lt_mul_of_pos_right (lt_bitL _) (Nat.two_pow_pos _)) ?_
       rw [← Nat.pow_add]
       exact Nat.pow_le_pow_right (by omega) (by omega)
     have hY : bitL (sumX b e) ≤ B := by
       refine bitL_le_of ?_
       unfold sumX
       refine Nat.lt_of_lt_of_le (Nat.mul_lt_mul_of_pos_right (lt_bitL _) (Nat.two_pow_pos _)) ?_
       rw [← Nat.pow_add]
       exact Nat.pow_le_pow_right (by omega) (by omega)
     have hXY : bitL (sumX a e + sumX b e) ≤ B + 1 := by
       refine bitL_le_of ?_
       have h1 : sumX a e < 2 ^ B := Nat.lt_of_lt_of_le (lt_bitL _) (Nat.pow_le_pow_right (by omega) hX)
       have h2 : sumX b e < 2 ^ B := Nat.lt_of_lt_of_le (lt_bitL _) (Nat.pow_le_pow_right (by omega) hY)
       rw [Nat.pow_succ]
       omega
     split
     · exact of_size hXY (by omega) (by omega) (by omega)
     · split
       · exact of_size (Nat.le_trans (bitL_mono (Nat.sub_le _ _)) hX) (by omega) (by omega) (by omega)
       · exact of_size (Nat.le_trans (bitL_mono (Nat.sub_le _ _)) hY) (by omega) (by omega) (by omega)

end Go.Abs.W

/- MADE BY A PROGRAM (wip/tools/gen_iva.py). Package interval and its reference: functions with two rounded ends. -/
namespace Go.Abs.W

def Iv.made (r s : Dy × Int) : Iv := if r.2 = 0 ∧ s.2 = 0 then ⟨r.1, s.1, false⟩ else Iv.whole
def Iv.add (x y : Iv) (p : Int) : Iv := if (x.known && y.known && precB p) = true then Iv.made (rAdd x.lo y.lo p false) (rAdd x.hi y.hi p true) else Iv.whole
def Iv.neg (x : Iv) : Iv := if x.known = true then ⟨x.hi.neg', x.lo.neg', false⟩ else Iv.whole
def Iv.scl (x : Iv) (k : Int) : Iv := if x.known = true then Iv.made (x.lo.scl k, x.lo.sclE k) (x.hi.scl k, x.hi.sclE k) else Iv.whole
def Iv.sgn (x : Iv) : Int := if x.known = true then (if 0 < x.lo.sgn then 1 else if x.hi.sgn < 0 then -1 else 0) else 0
theorem Dy.zero_W : Dy.zero.W := Dy.zero_ok.w
theorem Iv.whole_W : Iv.whole.W := ⟨Dy.zero_W, Dy.zero_W⟩
theorem rAdd_ok {a b : Dy} {p : Int} {up : Bool} : (rAdd a b p up).1.Ok := by
 unfold rAdd; split
 · rename_i h; obtain ⟨_, h1, h2⟩ := fault_prec h; exact cutR_ok (by omega) (by omega)
 · exact Dy.zero_ok
theorem rMul_ok {a b : Dy} {p : Int} {up : Bool} : (rMul a b p up).1.Ok := by
 unfold rMul; split
 · rename_i h; obtain ⟨_, h1, h2⟩ := fault_prec h; exact cutR_ok (by omega) (by omega)
 · exact Dy.zero_ok
theorem rDiv_ok {a b : Dy} {p : Int} {up : Bool} : (rDiv a b p up).1.Ok := by
 unfold rDiv; split
 · rename_i h; obtain ⟨_, h1, h2⟩ := fault_prec h
   split
   · exact Dy.zero_ok
   · split
     · exact Dy.zero_ok
     · exact cutR_ok (by omega) (by omega)
 · exact Dy.zero_ok
theorem made_W {r s : Dy × Int} (hr : r.1.W) (hs : s.1.W) : (Iv.made r s).W := by
 unfold Iv.made; split
 · exact ⟨hr, hs⟩
 · exact Iv.whole_W

theorem imade_cq (r s : Dy × Int) : CQ prog g_interval_made [r.1.v, .int .i64 r.2, s.1.v, .int .i64 s.2] (Iv.made r s).v := by
 refine CQ_run rfl fun H => ?_
 by_cases hr : r.2 = 0
 · by_cases hs : s.2 = 0
   · simp [hr, hs, Iv.made, lim]
   · simp [hr, hs]
     refine WL_call rfl rfl rfl iWhole_cq ?_
     simp [Iv.made, hs, lim]
 · simp [hr]
   refine WL_call rfl rfl rfl iWhole_cq ?_
   simp [Iv.made, hr, lim]
theorem permitted_cq (p : Int) : CQ prog g_interval_permitted [.int .i64 p] (.bool (precB p)) := by
 refine CQ_run rfl fun H => ?_
 simp [precB]
 grind
theorem opp_neg' {d : Dy} (h : d.Ok) : d.opp = d.neg' := by
 unfold Dy.opp Dy.neg'
 rw [h.valid]
 by_cases hm : d.m = []
 · obtain ⟨h1, h2⟩ := h.zero hm
   simp [hm, h2, Dy.zero]
 · simp [hm]
theorem neg'_ok {d : Dy} (h : d.Ok) : d.neg'.Ok := by
 refine ⟨h.li, h.tr, h.len, ?_, h.odd, h.bits, h.elo, h.ehi, h.top⟩
 intro hm
 have hm' : d.m = [] := hm
 exact ⟨by simp [Dy.neg', hm'], (h.zero hm').2⟩
theorem neg_W {x : Iv} (w : x.W) : x.neg.W := by
 unfold Iv.neg; split
 · rename_i h
   obtain ⟨h1, h2⟩ := known_ok w h
   exact ⟨(neg'_ok h2).w, (neg'_ok h1).w⟩
 · exact Iv.whole_W
theorem add_W {x y : Iv} {p : Int} : (x.add y p).W := by
 unfold Iv.add; split
 · exact made_W rAdd_ok.w rAdd_ok.w
 · exact Iv.whole_W

theorem IAdd_cq (x y : Iv) (p : Int) (wx : x.W) (wy : y.W) : CQ prog g_interval_Add [x.v, y.v, .int .i64 p] (x.add y p).v := by
 refine CQ_run rfl fun H => ?_
 simp
 refine WL_callH rfl rfl (H1 := H ++ [some ⟨7, [x.v], false, true⟩, some ⟨7, [y.v], false, true⟩, some ⟨7, [.agg [.bool false, .nil, .int .i64 0, .bool false, .nil, .int .i64 0, .bool false]], false, true⟩, some ⟨7, [x.v, y.v], true, false⟩]) (vs := [ivs [x, y]]) (by simp [prep, frzVs, frzV]; rfl) (known_cq [x, y] (by simp) (by simp; exact ⟨wx, wy⟩)) ?_
 cases hk : x.known && y.known
 · have : ([x, y].all Iv.known) = false := by simpa using hk
   simp only [this]
   simp
   refine WL_call rfl rfl rfl iWhole_cq ?_
   simp [Iv.add, hk, lim]
 · have : ([x, y].all Iv.known) = true := by simpa using hk
   simp only [this]
   simp
   refine WL_call rfl rfl rfl (permitted_cq p) ?_
   cases hp : precB p
   · simp
     refine WL_call rfl rfl rfl iWhole_cq ?_
     simp [Iv.add, hp, lim]
   · simp
     refine WL_call rfl rfl rfl (AddDown_cq x.lo y.lo p wx.lo wy.lo) ?_
     simp
     refine WL_call rfl rfl rfl (AddUp_cq x.hi y.hi p wx.hi wy.hi) ?_
     simp
     refine WL_call rfl rfl rfl (imade_cq (rAdd x.lo y.lo p false) (rAdd x.hi y.hi p true)) ?_
     simp [Iv.add, hk, hp, lim]

theorem INeg_cq (x : Iv) (wx : x.W) : CQ prog g_interval_Neg [x.v] x.neg.v := by
 refine CQ_run rfl fun H => ?_
 simp
 refine WL_callH rfl rfl (H1 := H ++ [some ⟨7, [x.v], false, true⟩, some ⟨7, [.agg [.bool false, .nil, .int .i64 0, .bool false, .nil, .int .i64 0, .bool false]], false, true⟩, some ⟨7, [x.v], true, false⟩]) (vs := [ivs [x]]) (by simp [prep, frzVs, frzV]; rfl) (known_cq [x] (by simp) (by simpa using wx)) ?_
 cases hk : x.known
 · simp [hk]
   refine WL_call rfl rfl rfl iWhole_cq ?_
   simp [Iv.neg, hk, lim]
 · obtain ⟨h1, h2⟩ := known_ok wx hk
   have n1 := DNeg_cq x.lo wx.lo
   have n2 := DNeg_cq x.hi wx.hi
   rw [opp_neg' h1] at n1
   rw [opp_neg' h2] at n2
   simp [hk]
   refine WL_call rfl rfl rfl n2 ?_
   simp
   refine WL_call rfl rfl rfl n1 ?_
   simp [Iv.neg, hk, lim]

theorem ISub_cq (x y : Iv) (p : Int) (wx : x.W) (wy : y.W) : CQ prog g_interval_Sub [x.v, y.v, .int .i64 p] (x.add y.neg p).v := by
 refine CQ_run rfl fun H => ?_
 simp
 refine WL_call rfl rfl rfl (INeg_cq y wy) ?_
 simp
 refine WL_call rfl rfl rfl (IAdd_cq x y.neg p wx (neg_W wy)) ?_
 simp [lim]
theorem ISign_cq (x : Iv) (wx : x.W) : CQ prog g_interval_Sign [x.v] (.int .i64 x.sgn) := by
 refine CQ_run rfl fun H => ?_
 simp
 refine WL_callH rfl rfl (H1 := H ++ [some ⟨7, [x.v], false, true⟩, some ⟨7, [x.v], true, false⟩]) (vs := [ivs [x]]) (by simp [prep, frzVs, frzV]; rfl) (known_cq [x] (by simp) (by simpa using wx)) ?_
 cases hk : x.known
 · simp [hk, Iv.sgn]
 · obtain ⟨h1, h2⟩ := known_ok wx hk
   have s1 := Sign_cq x.lo wx.lo
   have s2 := Sign_cq x.hi wx.hi
   rw [h1.valid] at s1
   rw [h2.valid] at s2
   simp [hk]
   refine WL_call rfl rfl rfl s1 ?_
   by_cases hp : 0 < x.lo.sgn
   · simp [Iv.sgn, hk, hp]
   · simp [hp]
     refine WL_call rfl rfl rfl s2 ?_
     by_cases hn : x.hi.sgn < 0
     · simp [Iv.sgn, hk, hp, hn]
     · simp [Iv.sgn, hk, hp, hn]
end Go.Abs.W

/- Package interval: absolute values, and the four products of ends. -/
namespace Go.Abs.W

theorem cmp_ok {a b : Dy} (ha : a.Ok) (hb : b.Ok) : a.cmp b = cmpI a.val b.val := by simp [Dy.cmp, ha.valid, hb.valid]
theorem cmpI_le {x y : Int} : cmpI x y ≤ 0 ↔ x ≤ y := by unfold cmpI; split <;> (try split) <;> omega
theorem cmpI_ge {x y : Int} : 0 ≤ cmpI x y ↔ y ≤ x := by unfold cmpI; split <;> (try split) <;> omega
theorem cmpI_lt {x y : Int} : cmpI x y < 0 ↔ x < y := by unfold cmpI; split <;> (try split) <;> omega
theorem cmpI_gt {x y : Int} : 0 < cmpI x y ↔ y < x := by unfold cmpI; split <;> (try split) <;> omega

theorem lo2_min {a b : Dy} (ha : a.Ok) (hb : b.Ok) : (a.lo2 b).val = min a.val b.val := by
 unfold Dy.lo2; rw [cmp_ok ha hb]; split
 · rename_i h; rw [cmpI_le] at h; omega
 · rename_i h; rw [cmpI_le] at h; omega
theorem hi2_max {a b : Dy} (ha : a.Ok) (hb : b.Ok) : (a.hi2 b).val = max a.val b.val := by
 unfold Dy.hi2; rw [cmp_ok ha hb]; split
 · rename_i h; rw [cmpI_ge] at h; omega
 · rename_i h; rw [cmpI_ge] at h; omega

theorem val_neg' {d : Dy} : d.neg'.val = - d.val := by
 by_cases hm : d.m = []
 · have h1 : d.absN = 0 := Dy.absN_nil hm
   have h2 : d.neg'.absN = 0 := Dy.absN_nil hm
   simp [Dy.val, h1, h2]
 · have h2 : d.neg'.absN = d.absN := rfl
   have h3 : d.neg'.neg = !d.neg := by simp [Dy.neg', hm]
   unfold Dy.val
   rw [h2, h3]
   cases d.neg <;> simp
theorem sgn_val {d : Dy} (h : d.Ok) : (0 < d.sgn ↔ 0 < d.val) ∧ (d.sgn < 0 ↔ d.val < 0) := by
 by_cases hm : d.m = []
 · have h1 : d.absN = 0 := Dy.absN_nil hm
   simp [Dy.sgn, Dy.val, hm, h1]
 · have h1 := h.absN_ne hm
   unfold Dy.sgn Dy.val
   rw [if_neg hm]
   cases d.neg <;> simp <;> omega
theorem abs_ok {d : Dy} (h : d.Ok) : d.abs.Ok := by
 unfold Dy.abs
 split
 · rename_i h2
   exact ⟨h.li, h.tr, h.len, fun hm => absurd hm h2.2, h.odd, h.bits, h.elo, h.ehi, h.top⟩
 · exact Dy.zero_ok
theorem zero_val : Dy.zero.val = 0 := by
 unfold Dy.val
 rw [Dy.absN_nil rfl]
 rfl
theorem abs_val {d : Dy} (h : d.Ok) : d.abs.val = d.val.natAbs := by
 unfold Dy.abs
 rw [h.valid]
 by_cases hm : d.m = []
 · have h1 : d.absN = 0 := Dy.absN_nil hm
   simp [hm, zero_val]
   simp [Dy.val, h1]
 · have h2 : (⟨false, d.m, d.e⟩ : Dy).absN = d.absN := rfl
   simp only [true_and, if_pos hm, ne_eq, hm, not_false_eq_true, if_true]
   unfold Dy.val
   rw [h2]
   cases d.neg <;> simp
theorem known_le {x : Iv} (w : x.W) (h : x.known = true) : x.lo.val ≤ x.hi.val := by
 obtain ⟨h1, h2⟩ := known_ok w h
 simp [Iv.known] at h
 have hv := h.2
 rw [Iv.valid, if_neg (by simp [h.1])] at hv
 simp [cmp_ok h1 h2, cmpI_le] at hv
 exact hv.2

def Iv.mag (x : Iv) : Dy := x.lo.abs.hi2 x.hi.abs
def Iv.mig (x : Iv) : Dy := if x.sgn = 0 then Dy.zero else x.lo.abs.lo2 x.hi.abs
def Iv.abs (x : Iv) : Iv := if x.known = true then ⟨x.mig, x.mag, false⟩ else Iv.whole

theorem mag_ok {x : Iv} (w : x.W) (h : x.known = true) : x.mag.Ok := hi2_ok (abs_ok (known_ok w h).1) (abs_ok (known_ok w h).2)
theorem mig_ok {x : Iv} (w : x.W) (h : x.known = true) : x.mig.Ok := by
 unfold Iv.mig; split
 · exact Dy.zero_ok
 · exact lo2_ok (abs_ok (known_ok w h).1) (abs_ok (known_ok w h).2)
theorem abs_W {x : Iv} (w : x.W) : x.abs.W := by
 unfold Iv.abs; split
 · rename_i h; exact ⟨(mig_ok w h).w, (mag_ok w h).w⟩
 · exact Iv.whole_W

theorem IMag_cq (x : Iv) (wx : x.W) : CQ prog g_interval_Mag [x.v] (.tup [(if x.known = true then x.mag else Dy.zero).v, .bool x.known]) := by
 refine CQ_run rfl fun H => ?_
 simp
 refine WL_callH rfl rfl (H1 := H ++ [some ⟨7, [x.v], false, true⟩, some ⟨3, [.agg [.bool false, .nil, .int .i64 0]], false, true⟩, some ⟨7, [x.v], true, false⟩]) (vs := [ivs [x]]) (by simp [prep, frzVs, frzV]; rfl) (known_cq [x] (by simp) (by simpa using wx)) ?_
 cases hk : x.known
 · simp [hk, Dy.zero, lim]
 · obtain ⟨h1, h2⟩ := known_ok wx hk
   simp [hk]
   refine WL_call rfl rfl rfl (DAbs_cq x.lo wx.lo) ?_
   simp
   refine WL_call rfl rfl rfl (DAbs_cq x.hi wx.hi) ?_
   simp
   refine WL_call rfl rfl rfl (imore_cq x.lo.abs x.hi.abs (abs_ok h1).w (abs_ok h2).w) ?_
   simp [Iv.mag, lim]

theorem IMig_cq (x : Iv) (wx : x.W) : CQ prog g_interval_Mig [x.v] (.tup [(if x.known = true then x.mig else Dy.zero).v, .bool x.known]) := by
 refine CQ_run rfl fun H => ?_
 simp
 refine WL_callH rfl rfl (H1 := H ++ [some ⟨7, [x.v], false, true⟩, some ⟨3, [.agg [.bool false, .nil, .int .i64 0]], false, true⟩, some ⟨7, [x.v], true, false⟩]) (vs := [ivs [x]]) (by simp [prep, frzVs, frzV]; rfl) (known_cq [x] (by simp) (by simpa using wx)) ?_
 cases hk : x.known
 · simp [hk, Dy.zero, lim]
 · obtain ⟨h1, h2⟩ := known_ok wx hk
   simp [hk]
   refine WL_call rfl rfl rfl (ISign_cq x wx) ?_
   by_cases hs : x.sgn = 0
   · simp [hs, Iv.mig, Dy.zero, lim]
   · simp [hs]
     refine WL_call rfl rfl rfl (DAbs_cq x.lo wx.lo) ?_
     simp
     refine WL_call rfl rfl rfl (DAbs_cq x.hi wx.hi) ?_
     simp
     refine WL_call rfl rfl rfl (iless_cq x.lo.abs x.hi.abs (abs_ok h1).w (abs_ok h2).w) ?_
     simp [Iv.mig, hs, lim]

theorem IAbs_cq (x : Iv) (wx : x.W) : CQ prog g_interval_Abs [x.v] x.abs.v := by
 refine CQ_run rfl fun H => ?_
 have m1 := IMig_cq x wx
 have m2 := IMag_cq x wx
 simp
 refine WL_callH rfl rfl (H1 := H ++ [some ⟨7, [x.v], false, true⟩, some ⟨7, [.agg [.bool false, .nil, .int .i64 0, .bool false, .nil, .int .i64 0, .bool false]], false, true⟩, some ⟨7, [x.v], true, false⟩]) (vs := [ivs [x]]) (by simp [prep, frzVs, frzV]; rfl) (known_cq [x] (by simp) (by simpa using wx)) ?_
 cases hk : x.known
 · simp [hk]
   refine WL_call rfl rfl rfl iWhole_cq ?_
   simp [Iv.abs, hk, lim]
 · rw [hk] at m1 m2
   simp at m1 m2
   simp [hk]
   refine WL_call rfl rfl rfl m1 ?_
   simp
   refine WL_call rfl rfl rfl m2 ?_
   simp [Iv.abs, hk, lim]
/-- The pairs of ends. -/
def pairs (x y : Iv) : List (Dy × Dy) := [(x.lo, y.lo), (x.lo, y.hi), (x.hi, y.lo), (x.hi, y.hi)]
def accLo (f : Dy → Dy → Dy × Int) : List (Dy × Dy) → Nat → Dy
 | _, 0 => Dy.zero
 | l, i + 1 => if i = 0 then (f ((l.getD i (Dy.zero, Dy.zero)).1) ((l.getD i (Dy.zero, Dy.zero)).2)).1 else (accLo f l i).lo2 (f ((l.getD i (Dy.zero, Dy.zero)).1) ((l.getD i (Dy.zero, Dy.zero)).2)).1
def accHi (f : Dy → Dy → Dy × Int) : List (Dy × Dy) → Nat → Dy
 | _, 0 => Dy.zero
 | l, i + 1 => if i = 0 then (f ((l.getD i (Dy.zero, Dy.zero)).1) ((l.getD i (Dy.zero, Dy.zero)).2)).1 else (accHi f l i).hi2 (f ((l.getD i (Dy.zero, Dy.zero)).1) ((l.getD i (Dy.zero, Dy.zero)).2)).1
/-- The least and the greatest of the results for the ends. -/
def Iv.four (f g : Dy → Dy → Dy × Int) (x y : Iv) : Iv :=
 if (pairs x y).all (fun q => decide ((f q.1 q.2).2 = 0) && decide ((g q.1 q.2).2 = 0)) = true then ⟨accLo f (pairs x y) 4, accHi g (pairs x y) 4, false⟩ else Iv.whole

theorem cmp_flip {a b : Dy} (ha : a.Ok) (hb : b.Ok) : (b.cmp a < 0 ↔ ¬ a.cmp b ≤ 0) ∧ (0 < b.cmp a ↔ ¬ 0 ≤ a.cmp b) := by
 rw [cmp_ok ha hb, cmp_ok hb ha, cmpI_lt, cmpI_gt, cmpI_le, cmpI_ge]; omega

end Go.Abs.W

/- Package interval: products and quotients. -/
namespace Go.Abs.W

def zIv : V := .agg [.bool false, .nil, .int .i64 0, .bool false, .nil, .int .i64 0, .bool false]
/-- One round of four, for a pair of ends. -/
theorem four_round {n0 : Nat} {Q : AX → Env → Heap → Prop} (H G : Heap) (E : Env) (x y : Iv) (p : Int) (gd gu : Nat) (f g : Dy → Dy → Dy × Int)
   (hd : ∀ H args, prep prog gd H args = frzVs H args) (hu : ∀ H args, prep prog gu H args = frzVs H args)
   (cd : ∀ a b : Dy, a.W → b.W → CQ prog gd [a.v, b.v, .int .i64 p] (.tup [(f a b).1.v, .int .i64 (f a b).2])) (cu : ∀ a b : Dy, a.W → b.W → CQ prog gu [a.v, b.v, .int .i64 p] (.tup [(g a b).1.v, .int .i64 (g a b).2]))
   (okf : ∀ a b, (f a b).1.Ok) (okg : ∀ a b, (g a b).1.Ok) (i : Nat) (hi : i < 4) (a b : Dy) (wa : a.W) (wb : b.W) (cs : List V) (A : Blk)
   (hl6 : 6 ≤ cs.length - i * 6) (ht6 : List.take 6 (List.drop (i * 6) cs) = [.bool a.neg, lim a.m, .int .i64 a.e, .bool b.neg, lim b.m, .int .i64 b.e])
   (lo hi2 : Dy) (olo : lo.Ok) (ohi : hi2.Ok) (w : V) (hw : (i = 0 ∧ w = zIv) ∨ (i ≠ 0 ∧ w = Iv.v ⟨lo, hi2, false⟩))
   (h2 : E 2 = .int .i64 p) (h3 : E 3 = .fn gd []) (h4 : E 4 = .fn gu []) (h10 : E 10 = .ptr (H.length + 2) 0 0) (h12 : E 12 = .ptr (H.length + 4) 0 0) (h40 : E 40 = .agg cs) (h41 : E 41 = .int .i64 i)
   (hbad : ((f a b).2 ≠ 0 ∨ (g a b).2 ≠ 0) → ∀ E1 G1, E1 10 = .ptr (H.length + 2) 0 0 → Q .ret E1 (H ++ some ⟨7, [x.v], false, true⟩ :: some ⟨7, [y.v], false, true⟩ :: some ⟨7, [Iv.whole.v], false, true⟩ :: some A :: some ⟨7, [w], false, true⟩ :: G1))
   (hgood : (f a b).2 = 0 → (g a b).2 = 0 → ∀ E1 G1, E1 2 = .int .i64 p → E1 3 = .fn gd [] → E1 4 = .fn gu [] → E1 10 = .ptr (H.length + 2) 0 0 → E1 12 = .ptr (H.length + 4) 0 0 → E1 40 = .agg cs → E1 41 = .int .i64 ((i + 1 : Nat) : Int) →
     Q .normal E1 (H ++ some ⟨7, [x.v], false, true⟩ :: some ⟨7, [y.v], false, true⟩ :: some ⟨7, [zIv], false, true⟩ :: some A :: some ⟨7, [Iv.v ⟨if i = 0 then (f a b).1 else lo.lo2 (f a b).1, if i = 0 then (g a b).1 else hi2.hi2 (g a b).1, false⟩], false, true⟩ :: G1)) (hn0 : n0 = H.length) :
   WK prog n0 c_interval_four_l0 [] E (H ++ some ⟨7, [x.v], false, true⟩ :: some ⟨7, [y.v], false, true⟩ :: some ⟨7, [zIv], false, true⟩ :: some A :: some ⟨7, [w], false, true⟩ :: G) Q := by
 subst hn0
 have e1 : IntKind.i64.wrap ((i : Int) + 1) = ((i + 1 : Nat) : Int) := by rw [wrap_i64] <;> omega
 have c1 := cd a b wa wb
 have c2 := cu a b wa wb
 have hi' : (i : Int) < 4 := by omega
 simp [c_interval_four_l0, h2, h3, h4, h10, h12, h40, h41, hi, hi', hl6, ht6]
 refine WL_call (g := gd) (caps := []) (args := [a.v, b.v, .int .i64 p]) (vs := [a.v, b.v, .int .i64 p]) rfl rfl (by rw [hd]; rfl) c1 ?_
 simp [h4, h2]
 refine WL_call (g := gu) (caps := []) (args := [a.v, b.v, .int .i64 p]) (vs := [a.v, b.v, .int .i64 p]) rfl rfl (by rw [hu]; rfl) c2 ?_
 by_cases b1 : (f a b).2 = 0
 · by_cases b2 : (g a b).2 = 0
   · rcases hw with ⟨rfl, rfl⟩ | ⟨h0, rfl⟩
     · simp [b1, b2, zIv, h41, h12]
       simp [zIv] at hgood
       exact hgood b1 b2 _ _ (by simp [h2]) (by simp [h3]) (by simp [h4]) (by simp [h10]) (by simp [h12]) (by simp [h40]) (by simpa using e1)
     · have h0' : ¬ (i : Int) = 0 := by omega
       simp [b1, b2, h0, h0', h41, h12, zIv]
       simp [zIv, h0] at hgood
       obtain ⟨f1, f2⟩ := cmp_flip olo (okf a b)
       obtain ⟨f3, f4⟩ := cmp_flip ohi (okg a b)
       refine WL_call rfl rfl rfl (DCmp_cq _ _ (okf a b).w olo.w) ?_
       by_cases q1 : (f a b).1.cmp lo < 0
       · simp [q1, h0, h0', h12, h41]
         refine WL_call rfl rfl rfl (DCmp_cq _ _ (okg a b).w ohi.w) ?_
         by_cases q2 : 0 < (g a b).1.cmp hi2
         · simp [q2, h0, h12, h41]
           have q3 := f1.1 q1
           have q4 := f4.1 q2
           simp [Dy.lo2, Dy.hi2, q3, q4] at hgood
           exact hgood b1 b2 _ _ (by simp [h2]) (by simp [h3]) (by simp [h4]) (by simp [h10]) (by simp [h12]) (by simp [h40]) (by simp [e1])
         · simp [q2, h0, h12, h41]
           have q3 := f1.1 q1
           have q4 : 0 ≤ hi2.cmp (g a b).1 := Decidable.byContradiction fun h => q2 (f4.2 h)
           simp [Dy.lo2, Dy.hi2, q3, q4] at hgood
           exact hgood b1 b2 _ _ (by simp [h2]) (by simp [h3]) (by simp [h4]) (by simp [h10]) (by simp [h12]) (by simp [h40]) (by simp [e1])
       · simp [q1, h0, h0', h12, h41]
         have q3 : lo.cmp (f a b).1 ≤ 0 := Decidable.byContradiction fun h => q1 (f1.2 h)
         refine WL_call rfl rfl rfl (DCmp_cq _ _ (okg a b).w ohi.w) ?_
         by_cases q2 : 0 < (g a b).1.cmp hi2
         · simp [q2, h0, h12, h41]
           have q4 := f4.1 q2
           simp [Dy.lo2, Dy.hi2, q3, q4] at hgood
           exact hgood b1 b2 _ _ (by simp [h2]) (by simp [h3]) (by simp [h4]) (by simp [h10]) (by simp [h12]) (by simp [h40]) (by simp [e1])
         · simp [q2, h0, h12, h41]
           have q4 : 0 ≤ hi2.cmp (g a b).1 := Decidable.byContradiction fun h => q2 (f4.2 h)
           simp [Dy.lo2, Dy.hi2, q3, q4] at hgood
           exact hgood b1 b2 _ _ (by simp [h2]) (by simp [h3]) (by simp [h4]) (by simp [h10]) (by simp [h12]) (by simp [h40]) (by simp [e1])
   · simp [b1, b2]
     refine WL_call rfl rfl rfl iWhole_cq ?_
     simp [h10]
     simp [zIv] at hbad
     exact hbad (.inr b2) _ _ (by simp [h10])
 · simp [b1]
   refine WL_call rfl rfl rfl iWhole_cq ?_
   simp [h10]
   simp [zIv] at hbad
   exact hbad (.inl b1) _ _ (by simp [h10])

def pairAt (x y : Iv) (i : Nat) : Dy × Dy := (pairs x y).getD i (Dy.zero, Dy.zero)
def cells4 (x y : Iv) : List V := [.bool x.lo.neg, lim x.lo.m, .int .i64 x.lo.e, .bool y.lo.neg, lim y.lo.m, .int .i64 y.lo.e, .bool x.lo.neg, lim x.lo.m, .int .i64 x.lo.e, .bool y.hi.neg, lim y.hi.m, .int .i64 y.hi.e,
 .bool x.hi.neg, lim x.hi.m, .int .i64 x.hi.e, .bool y.lo.neg, lim y.lo.m, .int .i64 y.lo.e, .bool x.hi.neg, lim x.hi.m, .int .i64 x.hi.e, .bool y.hi.neg, lim y.hi.m, .int .i64 y.hi.e]
theorem cells4_at {x y : Iv} {i : Nat} (hi : i < 4) : 6 ≤ (cells4 x y).length - i * 6 ∧ List.take 6 (List.drop (i * 6) (cells4 x y)) = [.bool (pairAt x y i).1.neg, lim (pairAt x y i).1.m, .int .i64 (pairAt x y i).1.e, .bool (pairAt x y i).2.neg, lim (pairAt x y i).2.m, .int .i64 (pairAt x y i).2.e] := by
 obtain rfl | rfl | rfl | rfl : i = 0 ∨ i = 1 ∨ i = 2 ∨ i = 3 := by omega
 all_goals simp [cells4, pairAt, pairs]
theorem pairAt_W {x y : Iv} (wx : x.W) (wy : y.W) {i : Nat} (hi : i < 4) : (pairAt x y i).1.W ∧ (pairAt x y i).2.W := by
 obtain rfl | rfl | rfl | rfl : i = 0 ∨ i = 1 ∨ i = 2 ∨ i = 3 := by omega
 all_goals simp [pairAt, pairs, wx.lo, wx.hi, wy.lo, wy.hi]

theorem accLo_step {f : Dy → Dy → Dy × Int} {x y : Iv} {i : Nat} : accLo f (pairs x y) (i + 1) = if i = 0 then (f (pairAt x y i).1 (pairAt x y i).2).1 else (accLo f (pairs x y) i).lo2 (f (pairAt x y i).1 (pairAt x y i).2).1 := rfl
theorem accHi_step {f : Dy → Dy → Dy × Int} {x y : Iv} {i : Nat} : accHi f (pairs x y) (i + 1) = if i = 0 then (f (pairAt x y i).1 (pairAt x y i).2).1 else (accHi f (pairs x y) i).hi2 (f (pairAt x y i).1 (pairAt x y i).2).1 := rfl
theorem accLo_ok {f : Dy → Dy → Dy × Int} (okf : ∀ a b, (f a b).1.Ok) {x y : Iv} : ∀ i, (accLo f (pairs x y) i).Ok
 | 0 => Dy.zero_ok
 | i + 1 => by
   rw [accLo_step]; split
   · exact okf _ _
   · exact lo2_ok (accLo_ok okf i) (okf _ _)
theorem accHi_ok {f : Dy → Dy → Dy × Int} (okf : ∀ a b, (f a b).1.Ok) {x y : Iv} : ∀ i, (accHi f (pairs x y) i).Ok
 | 0 => Dy.zero_ok
 | i + 1 => by
   rw [accHi_step]; split
   · exact okf _ _
   · exact hi2_ok (accHi_ok okf i) (okf _ _)
/-- All the results are there. -/
def good4 (f g : Dy → Dy → Dy × Int) (x y : Iv) (i : Nat) : Prop := ∀ j, j < i → (f (pairAt x y j).1 (pairAt x y j).2).2 = 0 ∧ (g (pairAt x y j).1 (pairAt x y j).2).2 = 0
theorem four_good {f g : Dy → Dy → Dy × Int} {x y : Iv} (h : good4 f g x y 4) : Iv.four f g x y = ⟨accLo f (pairs x y) 4, accHi g (pairs x y) 4, false⟩ := by
 have h0 := h 0 (by omega)
 have h1 := h 1 (by omega)
 have h2 := h 2 (by omega)
 have h3 := h 3 (by omega)
 simp [pairAt, pairs] at h0 h1 h2 h3
 unfold Iv.four
 rw [if_pos]
 simp [pairs, h0, h1, h2, h3]
theorem four_bad {f g : Dy → Dy → Dy × Int} {x y : Iv} {i : Nat} (hi : i < 4) (h : (f (pairAt x y i).1 (pairAt x y i).2).2 ≠ 0 ∨ (g (pairAt x y i).1 (pairAt x y i).2).2 ≠ 0) : Iv.four f g x y = Iv.whole := by
 unfold Iv.four
 rw [if_neg]
 intro hc
 simp [pairs] at hc
 obtain rfl | rfl | rfl | rfl : i = 0 ∨ i = 1 ∨ i = 2 ∨ i = 3 := by omega
 all_goals simp [pairAt, pairs] at h
 all_goals obtain ⟨a, b, c, d⟩ := hc
 all_goals rcases h with h | h
 all_goals simp_all

theorem four_cq (x y : Iv) (p : Int) (gd gu : Nat) (f g : Dy → Dy → Dy × Int) (wx : x.W) (wy : y.W)
   (hd : ∀ H args, prep prog gd H args = frzVs H args) (hu : ∀ H args, prep prog gu H args = frzVs H args)
   (cd : ∀ a b : Dy, a.W → b.W → CQ prog gd [a.v, b.v, .int .i64 p] (.tup [(f a b).1.v, .int .i64 (f a b).2])) (cu : ∀ a b : Dy, a.W → b.W → CQ prog gu [a.v, b.v, .int .i64 p] (.tup [(g a b).1.v, .int .i64 (g a b).2]))
   (okf : ∀ a b, (f a b).1.Ok) (okg : ∀ a b, (g a b).1.Ok) : CQ prog g_interval_four [x.v, y.v, .int .i64 p, .fn gd [], .fn gu []] (Iv.four f g x y).v := by
 refine CQ_run rfl fun H => ?_
 simp
 refine WK_loop (fun k E H' => ∃ i w G, k = 4 - i ∧ i ≤ 4 ∧ ((i = 0 ∧ w = zIv) ∨ (i ≠ 0 ∧ w = Iv.v ⟨accLo f (pairs x y) i, accHi g (pairs x y) i, false⟩)) ∧ good4 f g x y i ∧
   E 2 = .int .i64 p ∧ E 3 = .fn gd [] ∧ E 4 = .fn gu [] ∧ E 10 = .ptr (H.length + 2) 0 0 ∧ E 12 = .ptr (H.length + 4) 0 0 ∧ E 40 = .agg (cells4 x y) ∧ E 41 = .int .i64 i ∧
   H' = H ++ some ⟨7, [x.v], false, true⟩ :: some ⟨7, [y.v], false, true⟩ :: some ⟨7, [zIv], false, true⟩ :: some ⟨24, [.agg (cells4 x y)], false, true⟩ :: some ⟨7, [w], false, true⟩ :: G) 4 ?_ ?_
 · refine ⟨0, zIv, [], rfl, by omega, .inl ⟨rfl, rfl⟩, fun j hj => by omega, ?_, ?_, ?_, ?_, ?_, ?_, ?_, ?_⟩ <;> simp [cells4, zIv]
 · rintro k E H' ⟨i, w, G, hk, hi, hw, hg, h2, h3, h4, h10, h12, h40, h41, rfl⟩
   refine WC_round ?_
   by_cases h4' : i < 4
   · obtain ⟨hl, ht⟩ := cells4_at (x := x) (y := y) h4'
     obtain ⟨wa, wb⟩ := pairAt_W wx wy h4'
     refine four_round H G E x y p gd gu f g hd hu cd cu okf okg i h4' _ _ wa wb (cells4 x y) _ hl ht _ _ (accLo_ok okf i) (accHi_ok okg i) w hw h2 h3 h4 h10 h12 h40 h41 ?_ ?_ rfl
     · intro hb E1 G1 e10
       simp [e10, four_bad h4' hb, Iv.whole, lim]
     · intro b1 b2 E1 G1 e2 e3 e4 e10 e12 e40 e41
       refine ⟨4 - (i + 1), by omega, i + 1, _, G1, rfl, by omega, .inr ⟨by omega, ?_⟩, ?_, e2, e3, e4, e10, e12, e40, e41, rfl⟩
       · rw [accLo_step, accHi_step]
       · intro j hj
         by_cases h : j < i
         · exact hg j h
         · have : j = i := by omega
           subst this; exact ⟨b1, b2⟩
   · have : i = 4 := by omega
     subst this
     rcases hw with ⟨h, _⟩ | ⟨_, rfl⟩
     · omega
     · simp [c_interval_four_l0, h41, h10, h12, four_good hg, lim, zIv]

end Go.Abs.W

/- PRINTED BY wip/tools/gen_ivd.py: products and quotients of package interval and of its reference. -/
namespace Go.Abs.W

def Iv.mul (x y : Iv) (p : Int) : Iv := if (x.known && y.known && precB p) = true then Iv.four (fun a b => rMul a b p false) (fun a b => rMul a b p true) x y else Iv.whole
def Iv.div (x y : Iv) (p : Int) : Iv := if (x.known && y.known && precB p && decide (y.sgn ≠ 0)) = true then Iv.four (fun a b => rDiv a b p false) (fun a b => rDiv a b p true) x y else Iv.whole

theorem four_W {f g : Dy → Dy → Dy × Int} (okf : ∀ a b, (f a b).1.Ok) (okg : ∀ a b, (g a b).1.Ok) {x y : Iv} : (Iv.four f g x y).W := by
 unfold Iv.four; split
 · exact ⟨(accLo_ok okf 4).w, (accHi_ok okg 4).w⟩
 · exact Iv.whole_W
theorem mul_W {x y : Iv} {p : Int} : (x.mul y p).W := by
 unfold Iv.mul; split
 · exact four_W (fun _ _ => rMul_ok) (fun _ _ => rMul_ok)
 · exact Iv.whole_W
theorem div_W {x y : Iv} {p : Int} : (x.div y p).W := by
 unfold Iv.div; split
 · exact four_W (fun _ _ => rDiv_ok) (fun _ _ => rDiv_ok)
 · exact Iv.whole_W
theorem IMul_cq (x y : Iv) (p : Int) (wx : x.W) (wy : y.W) : CQ prog g_interval_Mul [x.v, y.v, .int .i64 p] (x.mul y p).v := by
 refine CQ_run rfl fun H => ?_
 simp
 refine WL_callH rfl rfl (H1 := H ++ [some ⟨7, [x.v], false, true⟩, some ⟨7, [y.v], false, true⟩, some ⟨7, [.agg [.bool false, .nil, .int .i64 0, .bool false, .nil, .int .i64 0, .bool false]], false, true⟩, some ⟨7, [x.v, y.v], true, false⟩]) (vs := [ivs [x, y]]) (by simp [prep, frzVs, frzV]; rfl) (known_cq [x, y] (by simp) (by simp; exact ⟨wx, wy⟩)) ?_
 cases hk : x.known && y.known
 · have : ([x, y].all Iv.known) = false := by simpa using hk
   simp only [this]
   simp
   refine WL_call rfl rfl rfl iWhole_cq ?_
   simp [Iv.mul, hk, lim]
 · have : ([x, y].all Iv.known) = true := by simpa using hk
   simp only [this]
   simp
   refine WL_call rfl rfl rfl (permitted_cq p) ?_
   cases hp : precB p
   · simp
     refine WL_call rfl rfl rfl iWhole_cq ?_
     simp [Iv.mul, hp, lim]
   · simp
     refine WL_call rfl rfl rfl (four_cq x y p g_round_MulDown g_round_MulUp (fun a b => rMul a b p false) (fun a b => rMul a b p true) wx wy (fun _ _ => rfl) (fun _ _ => rfl) (fun a b wa wb => MulDown_cq a b p wa wb) (fun a b wa wb => MulUp_cq a b p wa wb) (fun _ _ => rMul_ok) (fun _ _ => rMul_ok)) ?_
     simp [Iv.mul, hk, hp, lim]

theorem IDiv_cq (x y : Iv) (p : Int) (wx : x.W) (wy : y.W) : CQ prog g_interval_Div [x.v, y.v, .int .i64 p] (x.div y p).v := by
 refine CQ_run rfl fun H => ?_
 simp
 refine WL_callH rfl rfl (H1 := H ++ [some ⟨7, [x.v], false, true⟩, some ⟨7, [y.v], false, true⟩, some ⟨7, [.agg [.bool false, .nil, .int .i64 0, .bool false, .nil, .int .i64 0, .bool false]], false, true⟩, some ⟨7, [x.v, y.v], true, false⟩]) (vs := [ivs [x, y]]) (by simp [prep, frzVs, frzV]; rfl) (known_cq [x, y] (by simp) (by simp; exact ⟨wx, wy⟩)) ?_
 cases hk : x.known && y.known
 · have : ([x, y].all Iv.known) = false := by simpa using hk
   simp only [this]
   simp
   refine WL_call rfl rfl rfl iWhole_cq ?_
   simp [Iv.div, hk, lim]
 · have : ([x, y].all Iv.known) = true := by simpa using hk
   simp only [this]
   simp
   refine WL_call rfl rfl rfl (permitted_cq p) ?_
   cases hp : precB p
   · simp
     refine WL_call rfl rfl rfl iWhole_cq ?_
     simp [Iv.div, hp, lim]
   · simp
     refine WL_call rfl rfl rfl (ISign_cq y wy) ?_
     by_cases hs : y.sgn = 0
     · simp [hs]
       refine WL_call rfl rfl rfl iWhole_cq ?_
       simp [Iv.div, hs, lim]
     · simp [hs]
       refine WL_call rfl rfl rfl (four_cq x y p g_round_DivDown g_round_DivUp (fun a b => rDiv a b p false) (fun a b => rDiv a b p true) wx wy (fun _ _ => rfl) (fun _ _ => rfl) (fun a b wa wb => DivDown_cq a b p wa wb) (fun a b wa wb => DivUp_cq a b p wa wb) (fun _ _ => rDiv_ok) (fun _ _ => rDiv_ok)) ?_
       simp [Iv.div, hk, hp, hs, lim]


end Go.Abs.W

/- Square; the helpers of the laws of package interval. -/
namespace Go.Abs.W

def Iv.sq (x : Iv) (p : Int) : Iv := if (!x.abs.all && precB p) = true then Iv.made (rMul x.abs.lo x.abs.lo p false) (rMul x.abs.hi x.abs.hi p true) else Iv.whole
theorem sq_W {x : Iv} {p : Int} : (x.sq p).W := by
 unfold Iv.sq; split
 · exact made_W rMul_ok.w rMul_ok.w
 · exact Iv.whole_W

theorem ISquare_cq (x : Iv) (p : Int) (wx : x.W) : CQ prog g_interval_Square [x.v, .int .i64 p] (x.sq p).v := by
 refine CQ_run rfl fun H => ?_
 have wy := abs_W wx
 simp
 refine WL_call rfl rfl rfl (IAbs_cq x wx) ?_
 generalize hy : x.abs = y at *
 cases ha : y.all
 · simp [ha]
   refine WL_call rfl rfl rfl (permitted_cq p) ?_
   cases hp : precB p
   · simp
     refine WL_call rfl rfl rfl iWhole_cq ?_
     simp [Iv.sq, hy, hp, lim]
   · simp
     refine WL_call rfl rfl rfl (MulDown_cq y.lo y.lo p wy.lo wy.lo) ?_
     simp
     refine WL_call rfl rfl rfl (MulUp_cq y.hi y.hi p wy.hi wy.hi) ?_
     simp
     refine WL_call rfl rfl rfl (imade_cq (rMul y.lo y.lo p false) (rMul y.hi y.hi p true)) ?_
     simp [Iv.sq, hy, ha, hp, lim]
 · simp [ha]
   refine WL_call rfl rfl rfl iWhole_cq ?_
   simp [Iv.sq, hy, ha, lim]

def nD (k : Int) : Dy := Dy.of (decide (k < 0)) k.natAbs 0
theorem n5_cq (k : Int) (h1 : -4611686018427387904 ≤ k) (h2 : k ≤ 4611686018427387904) : CQ prog g_fplaw05_n [.int .i64 k] (nD k).v := by
 refine CQ_run rfl fun H => ?_
 have c := RInt_cq k h1 h2
 rw [← show nD k = Dy.of (decide (k < 0)) k.natAbs 0 from rfl] at c
 simp
 refine WL_call rfl rfl rfl c ?_
 simp [lim]
def nI (a b : Int) : Iv := ⟨nD a, nD b, false⟩
theorem of5_cq (a b : Int) (a1 : -4611686018427387904 ≤ a) (a2 : a ≤ 4611686018427387904) (b1 : -4611686018427387904 ≤ b) (b2 : b ≤ 4611686018427387904) : CQ prog g_fplaw05_of [.int .i64 a, .int .i64 b] (nI a b).v := by
 refine CQ_run rfl fun H => ?_
 simp
 refine WL_call rfl rfl rfl (n5_cq a a1 a2) ?_
 simp
 refine WL_call rfl rfl rfl (n5_cq b b1 b2) ?_
 simp [nI, lim]
theorem same5_cq (x y : Iv) (wx : x.W) (wy : y.W) : CQ prog g_fplaw05_same [x.v, y.v] (.bool (decide (x = y))) := by
 refine CQ_run rfl fun H => ?_
 simp
 refine WL_call rfl rfl rfl (RIEqual_cq x y wx wy) ?_
 simp

end Go.Abs.W

/- The examples of the chapter on intervals; sums. -/
namespace Go.Abs.W

theorem ex5_sub : (nI 1 2).add (nI 1 2).neg 24 = nI (-1) 1 := by decide +kernel
theorem ex5_sq : (nI (-1) 2).sq 24 = nI 0 4 := by decide +kernel
theorem ex5_mul : (nI (-1) 2).mul (nI (-1) 2) 24 = nI (-2) 4 := by decide +kernel
theorem ex5_div : (nI 1 1).div (nI 3 3) 8 = ⟨(nD 170).scl (-9), (nD 171).scl (-9), false⟩ := by decide +kernel
theorem nD_ok {k : Int} (h : k.natAbs ≤ 4611686018427387904) : (nD k).Ok := by
 unfold nD
 have hb : bitL k.natAbs ≤ 64 := bitL_le_of (by omega)
 exact Dy.of_ok (Dy.of_inR (by omega) (by omega) (by omega))
theorem nI_W {a b : Int} (ha : a.natAbs ≤ 4611686018427387904) (hb : b.natAbs ≤ 4611686018427387904) : (nI a b).W := ⟨(nD_ok ha).w, (nD_ok hb).w⟩
theorem same5_t {x y : Iv} (wx : x.W) (h : x = y) : CQ prog g_fplaw05_same [x.v, y.v] (.bool true) := by
 subst h
 simpa using same5_cq x x wx wx

theorem awake5_cq : CQ prog g_fplaw05_awake [] (.bool true) := by
 refine CQ_run rfl fun H => ?_
 have o1 := of5_cq (-1) 2 (by omega) (by omega) (by omega) (by omega)
 have o2 := of5_cq 1 1 (by omega) (by omega) (by omega) (by omega)
 have o3 := of5_cq 3 3 (by omega) (by omega) (by omega) (by omega)
 have o4 := of5_cq 1 2 (by omega) (by omega) (by omega) (by omega)
 have o5 := of5_cq (-1) 1 (by omega) (by omega) (by omega) (by omega)
 have o6 := of5_cq 0 4 (by omega) (by omega) (by omega) (by omega)
 have o7 := of5_cq (-2) 4 (by omega) (by omega) (by omega) (by omega)
 have n1 := n5_cq 170 (by omega) (by omega)
 have n2 := n5_cq 171 (by omega) (by omega)
 have w1 : (nI (-1) 2).W := nI_W (by omega) (by omega)
 have w2 : (nI 1 1).W := nI_W (by omega) (by omega)
 have w3 : (nI 3 3).W := nI_W (by omega) (by omega)
 have w4 : (nI 1 2).W := nI_W (by omega) (by omega)
 have k1 : (nD 170).W := (nD_ok (by omega)).w
 have k2 : (nD 171).W := (nD_ok (by omega)).w
 have s1 := same5_t (y := nI (-1) 1) add_W ex5_sub
 have s2 := same5_t (y := nI 0 4) sq_W ex5_sq
 have s3 := same5_t (y := nI (-2) 4) mul_W ex5_mul
 have s4 := same5_t div_W ex5_div
 have c1 := IDiv_cq (nI 1 1) (nI 3 3) 8 w2 w3
 have c2 := RScale_cq (nD 170) (-9) k1
 have c3 := RScale_cq (nD 171) (-9) k2
 have c4 := ISub_cq (nI 1 2) (nI 1 2) 24 w4 w4
 have c5 := ISquare_cq (nI (-1) 2) 24 w1
 have c6 := IMul_cq (nI (-1) 2) (nI (-1) 2) 24 w1 w1
 generalize nI 1 1 = a1 at *
 generalize nI 3 3 = a2 at *
 generalize nI 1 2 = a3 at *
 generalize nI (-1) 2 = a4 at *
 generalize nI (-1) 1 = a5 at *
 generalize nI 0 4 = a6 at *
 generalize nI (-2) 4 = a7 at *
 generalize a1.div a2 8 = b1 at *
 generalize nD 170 = d1 at *
 generalize nD 171 = d2 at *
 generalize a3.add a3.neg 24 = b2 at *
 generalize a4.sq 24 = b3 at *
 generalize a4.mul a4 24 = b4 at *
 simp
 refine WL_call rfl rfl rfl o1 ?_
 simp
 refine WL_call rfl rfl rfl o2 ?_
 simp
 refine WL_call rfl rfl rfl o3 ?_
 simp
 refine WL_call rfl rfl rfl c1 ?_
 simp
 refine WL_call rfl rfl rfl n1 ?_
 simp
 refine WL_call rfl rfl rfl c2 ?_
 simp
 refine WL_call rfl rfl rfl n2 ?_
 simp
 refine WL_call rfl rfl rfl c3 ?_
 simp
 refine WL_call rfl rfl rfl o4 ?_
 simp
 refine WL_call rfl rfl rfl o4 ?_
 simp
 refine WL_call rfl rfl rfl c4 ?_
 simp
 refine WL_call rfl rfl rfl o5 ?_
 simp
 refine WL_call rfl rfl rfl s1 ?_
 simp
 refine WL_call rfl rfl rfl c5 ?_
 simp
 refine WL_call rfl rfl rfl o6 ?_
 simp
 refine WL_call rfl rfl rfl s2 ?_
 simp
 refine WL_call rfl rfl rfl c6 ?_
 simp
 refine WL_call rfl rfl rfl o7 ?_
 simp
 refine WL_call rfl rfl rfl s3 ?_
 simp
 refine WL_call rfl rfl rfl s4 ?_
 simp

end Go.Abs.W

