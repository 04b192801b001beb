/- Parts of the proof: FpDyR, FpR01a, FpR01b, FpR01c, FpR01d, FpR01e, FpR02, FpR02b. -/
import Derived.Test.YteajloobgibenaaGreatDoorFf
/- Dyadic numbers: canonical forms, and the functions that make numbers. -/
namespace Go.Abs.W

@[simp] theorem nlt_add (n k : Nat) : ¬ (n + k < n) := by omega

set_option maxHeartbeats 1000000 in
theorem trimmed_cq (l : List Nat) (hl : l.length ≤ 1000000000) : CQ prog g_dyadic_trimmed [lim l] (lim (trimL l)) := by
 refine CQ_run rfl fun H => ?_
 simp [lim]
 refine WK_loop (fun k E H' => H' = H ∧ E 0 = lim l ∧ k ≤ l.length ∧ E 3 = .int .i64 k ∧ trimN l k = trimN l l.length) l.length ?_ ?_
 · simp [lim]
 · rintro n E H' ⟨rfl, h0, hn, h3, ht⟩
   refine WC_round ?_
   simp only [lim] at h0
   rcases n with _ | n
   · simp [c_dyadic_trimmed_l0, h0, h3, trimL, ← ht, trimN]
   · have e1 : IntKind.i64.wrap (n : Int) = n := by rw [wrap_i64] <;> omega
     have hlt : n < l.length := by omega
     have p1 : (0 : Int) ≤ (n : Int) + 1 := by omega
     have p2 : (0 : Int) < (n : Int) + 1 := by omega
     by_cases hx : l[n] = 0
     · simp [c_dyadic_trimmed_l0, h0, h3, e1, hlt, hx, u32, p2]
       refine ⟨n, by omega, rfl, by omega, rfl, ?_⟩
       rw [← ht, trimN, if_pos (by rw [List.getElem?_eq_getElem hlt, hx])]
     · simp [c_dyadic_trimmed_l0, h0, h3, e1, hlt, hx, u32, p1, p2, hn]
       rw [trimL, ← ht, trimN, if_neg (by rw [List.getElem?_eq_getElem hlt]; simpa using hx), List.map_take]

theorem tz_unique {n k : Nat} (h1 : n / 2 ^ k % 2 = 1) (h2 : n % 2 ^ k = 0) : tz n = k := by
 have e : n = n / 2 ^ k * 2 ^ k := by
   have := Nat.div_add_mod' n (2 ^ k); omega
 rw [e, tz_mul (by omega), tz_odd h1, Nat.zero_add]

theorem tz_low {x r : Nat} (h0 : x ≠ 0) (h : x < 4294967296) : tz (x + 4294967296 * r) = tz x := by
 obtain ⟨h1, _, h3⟩ := tz_bit h0
 obtain ⟨_, ht⟩ := neg_and x h0 h
 obtain ⟨t, hk⟩ : ∃ t, t = tz x := ⟨_, rfl⟩
 rw [← hk] at h1 h3 ht ⊢
 have e : 4294967296 * r = 2 ^ t * (2 * (2 ^ (31 - t) * r)) := by
   rw [← Nat.mul_assoc 2, ← Nat.mul_assoc (2 ^ t), ← Nat.pow_succ', ← Nat.pow_add, show t + (31 - t + 1) = 32 by omega]
 refine tz_unique ?_ ?_
 · rw [e, Nat.add_mul_div_left _ _ (Nat.two_pow_pos t)]; omega
 · rw [e, Nat.add_mul_mod_self_left, h3]

set_option maxHeartbeats 1000000 in
theorem low_cq (m : List Nat) (hm : m.length ≤ 1000000) (lm : Li m) (h0 : natV m ≠ 0) : CQ prog g_dyadic_low [lim m] (.int .i64 (tz (natV m))) := by
 refine CQ_run rfl fun H => ?_
 simp [lim]
 refine WK_up (fun i E H' => H' = H ∧ E 3 = .int .i64 ((32 * i : Nat) : Int) ∧ E 6 = lim m ∧ E 7 = .int .i64 m.length ∧ E 8 = .int .i64 i ∧ natV (m.take i) = 0) m.length ?_ ?_
 · simp [lim, natV]
 · rintro i E H' hi ⟨rfl, h3, h6, h7, h8, hv⟩
   rcases Nat.lt_or_ge i m.length with hlt | hge
   · simp only [lim] at h6
     have g1 : IntKind.i64.wrap ((i : Int) + 1) = ((i + 1 : Nat) : Int) := by rw [wrap_i64] <;> omega
     have g2 : IntKind.i64.wrap (((32 * i : Nat) : Int) + 32) = ((32 * (i + 1) : Nat) : Int) := by rw [wrap_i64] <;> omega
     have lx : m[i] < 4294967296 := lm _ (List.getElem_mem hlt)
     by_cases hx : m[i] = 0
     · have hv2 : natV (m.take (i + 1)) = 0 := by rw [natV_take_succ, hv, dig_in hlt, hx]; simp
       obtain ⟨A, hA⟩ : ∃ A, A = 32 * i := ⟨_, rfl⟩
       obtain ⟨B, hB⟩ : ∃ B, B = 32 * (i + 1) := ⟨_, rfl⟩
       rw [← hA] at h3 g2
       rw [← hB] at g2
       simp [c_dyadic_low_l0, h3, h6, h7, h8, hlt, hx, u32, g1, g2, lim]
       exact ⟨by omega, hv2⟩
     · have e : tz (natV m) = 32 * i + tz m[i] := by
         rw [natV_split m i, hv, Nat.zero_add, natV_drop, dig_in hlt, pow32, Nat.mul_comm, tz_mul (by omega), tz_low hx lx]; omega
       have ht := (neg_and m[i] hx lx).2
       have hx' : ¬ (m[i] : Int) = 0 := by omega
       obtain ⟨A, hA⟩ : ∃ A, A = 32 * i := ⟨_, rfl⟩
       rw [← hA] at h3 e
       have g3 : IntKind.i64.wrap ((A : Int) + tz m[i]) = tz (natV m) := by rw [e, wrap_i64] <;> omega
       simp [c_dyadic_low_l0, h3, h6, h7, h8, hlt, hx, u32, lim]
       refine WL_call rfl rfl rfl (TrailingZeros32_cq m[i] hx lx) ?_
       simp [h3, g3]
   · exfalso
     rw [natV_take_all hge] at hv
     exact h0 hv

theorem canonical_cq (neg : Bool) (m : List Nat) (e : Int) (hm : m.length ≤ 256) (lm : Li m) (he1 : -1000000 ≤ e) (he2 : e ≤ 1000000) : CQ prog g_dyadic_canonical [.bool neg, lim m, .int .i64 e] (Dy.of neg (natV m) e).v := by
 refine CQ_run rfl fun H => ?_
 simp
 refine WL_call rfl rfl rfl (trimmed_cq m (by omega)) ?_
 rw [trimL_limbsOf lm]
 by_cases h0 : natV m = 0
 · simp [h0, limbsOf_zero, lim, Dy.of]
 · obtain ⟨x, hx⟩ : ∃ x, x = limbsOf (natV m) := ⟨_, rfl⟩
   have hxv : natV x = natV m := by rw [hx, natV_limbsOf]
   have lx : Li x := by rw [hx]; exact li_limbsOf _
   have hxl : x.length ≤ m.length := by rw [hx]; exact limbsOf_len.2 (natV_lt lm)
   have hne : x ≠ [] := by rw [hx]; exact limbsOf_ne h0
   have hl : ¬ (x.length : Int) = 0 := by
     intro h; exact hne (List.eq_nil_of_length_eq_zero (by omega))
   have hb := natV_bound lx (by rw [hxv]; exact h0)
   have f1 : IntKind.i64.wrap (e + (tz (natV m) : Int)) = e + tz (natV m) := by rw [hxv] at hb; rw [wrap_i64] <;> omega
   have hz : (limbsOf (natV m / 2 ^ tz (natV m))).length ≤ 256 := by
     rw [← hxv]
     exact limbs_mono (Nat.div_le_self _ _) (Nat.le_trans (limbsOf_len.2 (natV_lt lx)) (by omega))
   rw [← hx]
   simp [lim, hne]
   refine WL_call rfl rfl rfl (low_cq x (by omega) lx (by rw [hxv]; exact h0)) ?_
   simp
   refine WL_call rfl rfl rfl (NShr_cq x (tz (natV x)) (by omega) lx (by omega)) ?_
   rw [hxv]
   simp
   refine WL_call rfl rfl rfl (CloneU_cq _ (by omega)) ?_
   simp
   refine WL_call rfl rfl rfl (Clip_cq _) ?_
   simp [f1, Dy.of, h0, lim]

theorem checked_cq (d : Dy) (hd : d.W) : CQ prog g_dyadic_checked [d.v] (.tup [(if d.inR then d else Dy.zero).v, .int .i64 (if d.inR then 0 else 9)]) := by
 refine CQ_run rfl fun H => ?_
 simp
 refine WL_call rfl rfl rfl (inRange_cq d hd.len hd.li) ?_
 cases h : d.inR <;> simp [h, Dy.zero, lim]

theorem exponent_cq (e : Int) : CQ prog g_dyadic_exponent [.int .i64 e] (.bool (decide (-32768 ≤ e) && decide (e ≤ 32768))) := by
 refine CQ_run rfl fun H => ?_
 simp
 grind

theorem Dy.of_W {neg : Bool} {n : Nat} {e : Int} (h : (limbsOf n).length ≤ 1000000) : (Dy.of neg n e).W := by
 unfold Dy.of
 split
 · exact ⟨by intro x hx; simp at hx, by simp⟩
 · exact ⟨li_limbsOf _, Nat.le_trans (limbs_mono (Nat.div_le_self _ _) h) (by omega)⟩

/-- Make, in plain numbers. -/
def Dy.chk (d : Dy) : Dy := if d.inR then d else Dy.zero
def Dy.chkE (d : Dy) : Int := if d.inR then 0 else 9

theorem Make_cq (neg : Bool) (m : List Nat) (e : Int) (hm : m.length ≤ 256) (lm : Li m) (he1 : -32768 ≤ e) (he2 : e ≤ 32768) : CQ prog g_dyadic_Make [.bool neg, lim m, .int .i64 e] (.tup [(Dy.of neg (natV m) e).chk.v, .int .i64 (Dy.of neg (natV m) e).chkE]) := by
 refine CQ_run rfl fun H => ?_
 have h1 : ¬ ((256 : Int) < m.length) := by omega
 have h2 : ¬ (256 < m.length) := by omega
 have w : (Dy.of neg (natV m) e).W := Dy.of_W (Nat.le_trans (limbsOf_len.2 (natV_lt lm)) (by omega))
 simp [lim, h1]
 refine WL_call rfl rfl rfl (exponent_cq e) ?_
 simp [he1, he2]
 refine WL_call rfl rfl rfl (canonical_cq neg m e hm lm (by omega) (by omega)) ?_
 simp
 refine WL_call rfl rfl rfl (checked_cq _ w) ?_
 simp [Dy.chk, Dy.chkE, lim]

def Dy.opp (d : Dy) : Dy := if d.valid = true ∧ d.m ≠ [] then ⟨!d.neg, d.m, d.e⟩ else Dy.zero
def Dy.abs (d : Dy) : Dy := if d.valid = true ∧ d.m ≠ [] then ⟨false, d.m, d.e⟩ else Dy.zero

theorem DNeg_cq (d : Dy) (w : d.W) : CQ prog g_dyadic_Neg [d.v] d.opp.v := by
 refine CQ_run rfl fun H => ?_
 have := w.len
 simp
 refine WL_call rfl rfl rfl (Valid_cq d w.len w.li) ?_
 cases hv : d.valid
 · simp [Dy.opp, hv, Dy.zero, lim]
 · by_cases hm : d.m = []
   · simp [Dy.opp, hv, hm, Dy.zero, lim]
   · have hm' : ¬ (d.m.length : Int) = 0 := by intro h; exact hm (List.eq_nil_of_length_eq_zero (by omega))
     simp [lim, hm]
     refine WL_call rfl rfl rfl (CloneU_cq d.m (by omega)) ?_
     simp [Dy.opp, hv, hm, lim]

theorem DAbs_cq (d : Dy) (w : d.W) : CQ prog g_dyadic_Abs [d.v] d.abs.v := by
 refine CQ_run rfl fun H => ?_
 have := w.len
 simp
 refine WL_call rfl rfl rfl (Valid_cq d w.len w.li) ?_
 cases hv : d.valid
 · simp [Dy.abs, hv, Dy.zero, lim]
 · by_cases hm : d.m = []
   · simp [Dy.abs, hv, hm, Dy.zero, lim]
   · have hm' : ¬ (d.m.length : Int) = 0 := by intro h; exact hm (List.eq_nil_of_length_eq_zero (by omega))
     simp [lim, hm]
     refine WL_call rfl rfl rfl (CloneU_cq d.m (by omega)) ?_
     simp [Dy.abs, hv, hm, lim]

theorem DBits_cq (d : Dy) (w : d.W) : CQ prog g_dyadic_Bits [d.v] (.int .i64 (if d.valid then bitL (natV d.m) else 0)) := by
 refine CQ_run rfl fun H => ?_
 simp
 refine WL_call rfl rfl rfl (Valid_cq d w.len w.li) ?_
 cases hv : d.valid
 · simp
 · simp
   refine WL_call rfl rfl rfl (size_cq d.m w.len w.li) ?_
   simp

def Dy.scl (d : Dy) (k : Int) : Dy := if d.valid = true ∧ -32768 ≤ k ∧ k ≤ 32768 then (Dy.of d.neg (natV d.m) (d.e + k)).chk else Dy.zero
def Dy.sclE (d : Dy) (k : Int) : Int := if d.valid = true ∧ -32768 ≤ k ∧ k ≤ 32768 then (Dy.of d.neg (natV d.m) (d.e + k)).chkE else 1

theorem DScale_cq (d : Dy) (k : Int) (w : d.W) : CQ prog g_dyadic_Scale [d.v, .int .i64 k] (.tup [(d.scl k).v, .int .i64 (d.sclE k)]) := by
 refine CQ_run rfl fun H => ?_
 simp
 refine WL_call rfl rfl rfl (Valid_cq d w.len w.li) ?_
 cases hv : d.valid
 · simp [Dy.scl, Dy.sclE, hv, Dy.zero, lim]
 · have ok := Dy.Ok.of w.li hv
   simp
   refine WL_call rfl rfl rfl (exponent_cq k) ?_
   by_cases hk : -32768 ≤ k ∧ k ≤ 32768
   · have h1 := ok.elo; have h2 := ok.ehi
     have e1 : IntKind.i64.wrap (d.e + k) = d.e + k := by rw [wrap_i64] <;> omega
     simp [hk, e1]
     refine WL_call rfl rfl rfl (canonical_cq d.neg d.m (d.e + k) ok.len ok.li (by omega) (by omega)) ?_
     have w2 : (Dy.of d.neg (natV d.m) (d.e + k)).W := Dy.of_W (Nat.le_trans (limbsOf_len.2 (natV_lt ok.li)) (by have := ok.len; omega))
     simp
     refine WL_call rfl rfl rfl (checked_cq _ w2) ?_
     simp [Dy.scl, Dy.sclE, hv, hk, Dy.chk, Dy.chkE]
   · have hk2 : (decide (-32768 ≤ k) && decide (k ≤ 32768)) = false := by
       simp; omega
     simp [hk2, Dy.scl, Dy.sclE, hv, hk, Dy.zero, lim]

end Go.Abs.W

/- The reference of layer 1: lists of limbs. -/
namespace Go.Abs.W

set_option maxHeartbeats 1000000 in
theorem Trim1_cq (l : List Nat) (hl : l.length ≤ 1000000000) : CQ prog g_fpref01_Trim [lim l] (lim (trimL l)) := by
 refine CQ_run rfl fun H => ?_
 simp [lim]
 refine WK_loop (fun k E H' => H' = H ∧ E 0 = lim l ∧ k ≤ l.length ∧ E 3 = .int .i64 k ∧ trimN l k = trimN l l.length) l.length ?_ ?_
 · simp [lim]
 · rintro n E H' ⟨rfl, h0, hn, h3, ht⟩
   refine WC_round ?_
   simp only [lim] at h0
   have hlim : ∀ k, k ≤ l.length → k * 4 ≤ 140737488355328 := by omega
   have fin' : ∀ k, k = trimN l l.length → k ≤ l.length → (List.take k (List.map u32 l)) = List.map u32 (trimL l) := by
     intro k hk _; rw [trimL, hk, List.map_take]
   rcases n with _ | n
   · have ft := fin' 0 (by rw [← ht]; rfl) (by omega)
     simp [c_fpref01_Trim_l0, h0, h3, stpAppend, ← ft]
   · have e1 : IntKind.i64.wrap (n : Int) = n := by rw [wrap_i64] <;> omega
     have hlt : n < l.length := by omega
     have p1 : (0 : Int) ≤ (n : Int) + 1 := by omega
     have p2 : (0 : Int) < (n : Int) + 1 := by omega
     by_cases hx : l[n] = 0
     · simp [c_fpref01_Trim_l0, h0, h3, e1, hlt, hx, u32, p2]
       refine ⟨n, by omega, rfl, by omega, rfl, ?_⟩
       rw [← ht, trimN, if_pos (by rw [List.getElem?_eq_getElem hlt, hx])]
     · have hx' : ¬ ((l[n] : Int) = 0) := by omega
       have ft := fin' (n + 1) (by rw [← ht, trimN, if_neg (by rw [List.getElem?_eq_getElem hlt]; simpa using hx)]) (by omega)
       have f8 := hlim (n + 1) (by omega)
       have hne : l ≠ [] := by intro h; rw [h] at hlt; simp at hlt
       have hhd : headOk 1 (List.take (n + 1) (List.map u32 l)) = true := by
         cases l with
         | nil => exact absurd rfl hne
         | cons x l => simp [headOk]
       obtain ⟨ys, hys⟩ : ∃ ys, ys = List.take (n + 1) (List.map u32 l) := ⟨_, rfl⟩
       rw [← hys] at hhd ft
       have hyl : ys.length = n + 1 := by rw [hys]; simp; omega
       have hyn : ys ≠ [] := by intro h; rw [h] at hyl; simp at hyl
       simp only [headOk] at hhd
       simp [c_fpref01_Trim_l0, h0, h3, e1, hlt, hx, u32, p1, p2, hn, stpAppend, ← hys]
       rw [if_pos hhd]
       simp [hyl, f8, hyn]
       rw [← ft, List.take_of_length_le (by omega)]



/-- A value that shows limbs: a list for good, or a block. -/
def Sees (v : V) (l : List Nat) (H : Heap) : Prop := v = lim l ∨ ∃ b w, v = .ref b 1 0 l.length ∧ H[b]? = some (some ⟨1, l.map u32, true, w⟩)

theorem Sees.lim {l : List Nat} {H : Heap} : Sees (Go.Abs.lim l) l H := .inl rfl

theorem dat_ev {H : Heap} {v : V} {l : List Nat} (h : Sees v l H) (ll : Li l) (i : Nat) : Ev prog (.call g_fpref01_at [v, .int .i64 i] H) (.ret (.int .u64 (dig l i)) H) := by
 refine Ev_run rfl ?_
 have dl := dig_lt ll i
 have e := wrap_nat_u64 (dig l i) (by omega)
 rcases h with rfl | ⟨b, w, rfl, hb⟩
 · by_cases hi : i < l.length
   · rw [dig_in hi] at e ⊢
     simp [Go.Abs.lim, hi, u32, e]
   · rw [dig_out (by omega)]
     simp [Go.Abs.lim, hi]
 · by_cases hi : i < l.length
   · rw [dig_in hi] at e ⊢
     simp [hi, u32, e, hb]
   · rw [dig_out (by omega)]
     simp [hi]

theorem dat_cq (l : List Nat) (ll : Li l) (i : Nat) : CQ prog g_fpref01_at [lim l, .int .i64 i] (.int .u64 (dig l i)) := fun _ => dat_ev Sees.lim ll i

theorem natV_lt_dig {a b : List Nat} (ha : Li a) {k : Nat} (hd : natV (a.drop (k + 1)) = natV (b.drop (k + 1))) (h : dig a k < dig b k) : natV a < natV b := by
 rw [natV_split a k, natV_split b k, natV_drop, natV_drop b, hd]
 have h1 := natV_lt (ha.take k)
 have h0 : 4294967296 ^ (a.take k).length ≤ 4294967296 ^ k := Nat.pow_le_pow_right (by omega) (by simp; omega)
 have h2 : 4294967296 ^ k * (dig a k + 4294967296 * natV (b.drop (k + 1))) + 4294967296 ^ k ≤ 4294967296 ^ k * (dig b k + 4294967296 * natV (b.drop (k + 1))) := by
   rw [← Nat.mul_succ]
   exact Nat.mul_le_mul_left _ (by omega)
 omega

theorem Sees.len {H : Heap} {v : V} {l : List Nat} (h : Sees v l H) : (v = .sl (l.map u32)) ∨ ∃ b, v = .ref b 1 0 l.length := by
 rcases h with h | ⟨b, w, h, _⟩
 · exact .inl h
 · exact .inr ⟨b, h⟩

set_option maxHeartbeats 1000000 in
theorem Cmp1_ev {H : Heap} {va vb : V} {a b : List Nat} (sa : Sees va a H) (sb : Sees vb b H) (la : Li a) (lb : Li b) (ha : a.length ≤ 1000000000) (hb : b.length ≤ 1000000000) : Ev prog (.call g_fpref01_Cmp [va, vb] H) (.ret (.int .i64 (cmpN (natV a) (natV b))) H) := by
 refine Ev_run rfl ?_
 obtain ⟨n, hn⟩ : ∃ n, n = max a.length b.length := ⟨_, rfl⟩
 have e0 : (if a.length < b.length then (b.length : Int) else a.length) = n := by split <;> omega
 have e1 : IntKind.i64.wrap ((n : Int) - 1) = (n : Int) - 1 := by rw [wrap_i64] <;> omega
 have go : ∀ E : Env, E 0 = va → E 1 = vb → E 5 = .int .i64 ((n : Int) - 1) → WK prog H.length (.loop c_fpref01_Cmp_l0) [.blk 0, .seq (.seq (.region false [⟨some 4, .mv (.c (.int .i64 0)), none, false⟩]) .ret)] E H
     (fun x E1 H1 => (x = .normal ∨ x = .ret) ∧ fin false H.length H1 (E1 4) = some (.int .i64 (cmpN (natV a) (natV b)), H)) := by
   intro E g0 g1 g5
   refine WK_loop (fun k E H' => H' = H ∧ E 0 = va ∧ E 1 = vb ∧ k ≤ n ∧ E 5 = .int .i64 ((k : Int) - 1) ∧ natV (a.drop k) = natV (b.drop k)) n ?_ ?_
   · exact ⟨rfl, g0, g1, Nat.le_refl _, g5, by rw [List.drop_of_length_le (by omega), List.drop_of_length_le (by omega)]⟩
   · rintro k E H' ⟨rfl, h0, h1, hk, h5, hd⟩
     refine WC_round ?_
     rcases k with _ | k
     · have h7 : ¬ ((0 : Int) ≤ -1) := by omega
       simp only [List.drop_zero] at hd
       simp [c_fpref01_Cmp_l0, h5, hd, cmpN]
     · have e2 : (k + 1 : Int) - 1 = k := by omega
       have p1 : (0 : Int) ≤ k := by omega
       have e3 : IntKind.i64.wrap ((k : Int) - 1) = (k : Int) - 1 := by rw [wrap_i64] <;> omega
       simp [c_fpref01_Cmp_l0, h0, h1, h5, e2, p1]
       refine WL_ev rfl rfl rfl (dat_ev sa la k) ?_
       simp [h0, h1, h5, e2]
       refine WL_ev rfl rfl rfl (dat_ev sb lb k) ?_
       by_cases hlt : dig a k < dig b k
       · have h2 := natV_lt_dig la hd hlt
         simp [hlt, cmpN, h2]
       · have hlt' : ¬ ((dig a k : Int) < dig b k) := by omega
         simp [hlt, h0, h1, h5, e2]
         refine WL_ev rfl rfl rfl (dat_ev sa la k) ?_
         simp [h0, h1, h5, e2]
         refine WL_ev rfl rfl rfl (dat_ev sb lb k) ?_
         by_cases hgt : dig b k < dig a k
         · have h2 := natV_lt_dig lb hd.symm hgt
           have h3 : ¬ natV a < natV b := by omega
           simp [hgt, cmpN, h2, h3]
         · simp [hgt, h0, h1, h5, e2, e3]
           refine ⟨k, by omega, by omega, rfl, ?_⟩
           rw [natV_drop, natV_drop b, hd]; omega
 rcases sa.len with rfl | ⟨ba, rfl⟩ <;> rcases sb.len with rfl | ⟨bb, rfl⟩ <;> simp [e0, e1] <;> exact go _ (by simp) (by simp) (by simp)

theorem Cmp1_cq (a b : List Nat) (la : Li a) (lb : Li b) (ha : a.length ≤ 1000000000) (hb : b.length ≤ 1000000000) : CQ prog g_fpref01_Cmp [lim a, lim b] (.int .i64 (cmpN (natV a) (natV b))) := fun _ => Cmp1_ev Sees.lim Sees.lim la lb ha hb

theorem cmpN_neg {x y : Nat} : cmpN x y < 0 ↔ x < y := by unfold cmpN; split <;> (try split) <;> omega
theorem cmpN_eq {x y : Nat} : cmpN x y = 0 ↔ x = y := by unfold cmpN; split <;> (try split) <;> omega

end Go.Abs.W

/- The reference of layer 1: bits, sums, differences. -/
namespace Go.Abs.W

set_option maxHeartbeats 1000000 in
theorem Bits1_cq (a : List Nat) (ha : a.length ≤ 1000000) (la : Li a) : CQ prog g_fpref01_Bits [lim a] (.int .i64 (bitL (natV a))) := by
 refine CQ_run rfl fun H => ?_
 simp [lim]
 have e1 : IntKind.i64.wrap ((a.length : Int) - 1) = (a.length : Int) - 1 := by rw [wrap_i64] <;> omega
 refine WK_loop (fun k E H' => H' = H ∧ E 0 = lim a ∧ k ≤ a.length ∧ E 3 = .int .i64 ((k : Int) - 1) ∧ natV (a.drop k) = 0) a.length ?_ ?_
 · simp [lim, e1, natV]
 · rintro k E H' ⟨rfl, h0, hk, h3, hd⟩
   refine WC_round ?_
   simp only [lim] at h0
   rcases k with _ | k
   · have hz : natV a = 0 := by simpa using hd
     simp [c_fpref01_Bits_l1, h3, hz, bitL_zero]
   · have e2 : (k + 1 : Int) - 1 = k := by omega
     have p1 : (0 : Int) ≤ k := by omega
     have hlt : k < a.length := by omega
     have e3 : IntKind.i64.wrap ((k : Int) - 1) = (k : Int) - 1 := by rw [wrap_i64] <;> omega
     by_cases hx : a[k] = 0
     · simp [c_fpref01_Bits_l1, h0, h3, e2, p1, hlt, hx, u32, e3]
       refine ⟨k, by omega, by simp [lim], by omega, rfl, ?_⟩
       rw [natV_drop, dig_in hlt, hx, hd]
     · have lx : a[k] < 4294967296 := la _ (List.getElem_mem hlt)
       have e4 : IntKind.i64.wrap (32 * (k : Int)) = ((32 * k : Nat) : Int) := by rw [wrap_i64] <;> omega
       have hb : bitL (natV a) = 32 * k + bitL a[k] := by
         rw [natV_split a k, natV_drop, hd, dig_in hlt, Nat.mul_zero, Nat.add_zero, Nat.add_comm, Nat.mul_comm, pow32]
         have h5 := natV_lt (la.take k)
         have h6 : 4294967296 ^ (a.take k).length ≤ 4294967296 ^ k := Nat.pow_le_pow_right (by omega) (by simp; omega)
         rw [pow32 k] at h6
         rw [bitL_mul hx (by omega)]; omega
       obtain ⟨N, hN⟩ : ∃ N, N = 32 * k := ⟨_, rfl⟩
       rw [← hN] at e4 hb
       simp [c_fpref01_Bits_l1, h0, h3, e2, p1, hlt, hx, u32, e4]
       have hbl := bitL_lt lx
       refine WK_up (fun i E H'' => H'' = H' ∧ ∃ y, y < 4294967296 ∧ E 5 = .int .u32 (y : Nat) ∧ E 4 = .int .i64 ((N + i : Nat) : Int) ∧ bitL y + i = bitL a[k]) (bitL a[k]) ?_ ?_
       · simp
         exact ⟨a[k], lx, rfl, rfl⟩
       · rintro i E H'' hi ⟨rfl, y, hy, h5, h4, hby⟩
         by_cases hy0 : y = 0
         · subst hy0
           have : i = bitL a[k] := by rw [bitL_zero] at hby; omega
           obtain ⟨M, hM⟩ : ∃ M, M = N + i := ⟨_, rfl⟩
           rw [← hM] at h4
           have hM2 : bitL (natV a) = M := by omega
           simp [c_fpref01_Bits_l0, h5, h4, hM2]
         · have hy0' : (0 : Int) < y := by omega
           have hy0'' : 0 < y := by omega
           have f1 : shiftI .shr .u32 (y : Int) 1 = some (.int .u32 ((y / 2 : Nat) : Int)) := shr32 y 1 (by omega)
           obtain ⟨z, hz⟩ : ∃ z, z = y / 2 := ⟨_, rfl⟩
           rw [← hz] at f1
           have hh := bitL_half hy0
           rw [← hz] at hh
           obtain ⟨M, hM⟩ : ∃ M, M = N + i := ⟨_, rfl⟩
           obtain ⟨M1, hM1⟩ : ∃ M1, M1 = N + (i + 1) := ⟨_, rfl⟩
           have f2 : IntKind.i64.wrap ((M : Int) + 1) = (M1 : Int) := by rw [wrap_i64] <;> omega
           rw [← hM] at h4
           simp [c_fpref01_Bits_l0, h5, h4, hy0'', f1, f2]
           exact ⟨by omega, z, by omega, rfl, by omega, by omega⟩

set_option maxHeartbeats 4000000 in
theorem Add1_cq (a b : List Nat) (ha : a.length ≤ 1000000) (hb : b.length ≤ 1000000) (la : Li a) (lb : Li b) : CQ prog g_fpref01_Add [lim a, lim b] (lim (limbsOf (natV a + natV b))) := by
 refine CQ_run rfl fun H => ?_
 simp [lim]
 obtain ⟨n, hn⟩ : ∃ n, n = max a.length b.length := ⟨_, rfl⟩
 have e0 : (if a.length < b.length then (b.length : Int) else a.length) = n := by split <;> omega
 refine WK_up (fun i E H' => E 0 = lim a ∧ E 1 = lim b ∧ E 7 = .int .i64 i ∧ ∃ c o, c < 2 ∧ (i ≤ n ∨ c = 0) ∧ E 6 = .int .u64 (c : Nat) ∧ Out H H' (E 5) 1 (o.map u32) ∧ o.length = i ∧ Li o ∧
     natV o + 4294967296 ^ i * c = natV (a.take i) + natV (b.take i)) (n + 1) ?_ ?_
 · simp [lim]
   exact ⟨0, by omega, rfl, [], .nil, rfl, by intro x hx; simp at hx, by simp [natV]⟩
 · rintro i E H' hi ⟨h0, h1, h7, c, o, hc, hin, h6, h5, ho, lo, ht⟩
   have fin : c = 0 → n ≤ i → natV o = natV a + natV b := by
     rintro rfl hni
     rw [natV_take_all (l := a) (by omega), natV_take_all (l := b) (by omega)] at ht
     omega
   have da := dig_lt la i
   have db := dig_lt lb i
   have sa := dat_cq a la i
   have sb := dat_cq b lb i
   obtain ⟨T, hT⟩ : ∃ T, T = c + dig a i + dig b i := ⟨_, rfl⟩
   have st := plus_step ho ht hT
   obtain ⟨L, hL⟩ : ∃ L, L = T % 4294967296 := ⟨_, rfl⟩
   obtain ⟨C, hC⟩ : ∃ C, C = T / 4294967296 := ⟨_, rfl⟩
   have f6 : bitsI .and .u64 (T : Int) 4294967295 = some ((T % 4294967296 : Nat) : Int) := bitsI_mask T (by omega)
   have f7 : shiftI .shr .u64 (T : Int) 32 = some (.int .u64 ((T / 4294967296 : Nat) : Int)) := shr64 T 32 (by omega)
   rw [← hL] at f6 st
   rw [← hC] at f7 st
   have f8 : IntKind.u32.wrap (L : Int) = L := wrap_nat_u32 _ (by omega)
   obtain ⟨v', H'', e', ho'⟩ := h5.one L (by omega)
   have f1 : IntKind.i64.wrap ((i : Int) + 1) = ((i + 1 : Nat) : Int) := by rw [wrap_i64] <;> omega
   have t3 : IntKind.u64.wrap ((dig a i : Int) + dig b i) = (dig a i : Int) + dig b i := by rw [wrap_u64] <;> omega
   have t4 : IntKind.u64.wrap ((dig a i : Int) + dig b i + c) = T := by rw [wrap_u64] <;> omega
   have go : i ≤ n → (i < n ∨ c = 1) → ∃ c, c < 2 ∧ (i + 1 ≤ n ∨ c = 0) ∧ (C : Int) = (c : Nat) ∧ ∃ o, Out H H'' v' 1 (List.map u32 o) ∧ o.length = i + 1 ∧ Li o ∧ natV o + 4294967296 ^ (i + 1) * c = natV (a.take (i + 1)) + natV (b.take (i + 1)) := by
     intro h1 h2
     refine ⟨C, by omega, ?_, rfl, o ++ [L], ho', by simp; omega, lo.append (by intro y hy; simp at hy; omega), st⟩
     rcases Nat.lt_or_ge i n with h3 | h3
     · exact .inl h3
     · right
       rw [dig_out (by omega), dig_out (by omega)] at hT
       omega
   simp only [lim] at h0 h1
   rcases Nat.lt_or_ge i n with h2 | h2
   · have h2' : (i : Int) < n := by omega
     simp [c_fpref01_Add_l0, h0, h1, h6, h7, e0, h2]
     refine WL_call rfl rfl rfl sa ?_
     simp [h0, h1, h6, h7]
     refine WL_call rfl rfl rfl sb ?_
     simp [h0, h1, h6, h7, t3, t4, f6, f7, f8, f1, e', lim]
     exact ⟨by omega, go (by omega) (.inl h2)⟩
   · have h2' : ¬ i < n := by omega
     by_cases hc0 : c = 0
     · have hv := fin hc0 h2
       subst hc0
       simp [c_fpref01_Add_l0, h0, h1, h6, h7, e0, h2']
       obtain ⟨H3, hp3, e3⟩ := h5.prep (g := g_fpref01_Trim) rfl
       refine WL_callH rfl rfl e3 (Trim1_cq o (by omega)) ?_
       rw [trimL_limbsOf lo, hv]
       simp [take_pre hp3, lim]
     · have hin2 : i = n := by omega
       have hc1 : (0 : Int) < c := by omega
       have hc2 : 0 < c := by omega
       simp [c_fpref01_Add_l0, h0, h1, h6, h7, e0, h2', hc2]
       refine WL_call rfl rfl rfl sa ?_
       simp [h0, h1, h6, h7]
       refine WL_call rfl rfl rfl sb ?_
       simp [h0, h1, h6, h7, t3, t4, f6, f7, f8, f1, e', lim]
       exact ⟨by omega, go (by omega) (.inr (by omega))⟩

set_option maxHeartbeats 4000000 in
theorem Sub1_cq (a b : List Nat) (ha : a.length ≤ 1000000) (hb : b.length ≤ a.length) (la : Li a) (lb : Li b) (hle : natV b ≤ natV a) : CQ prog g_fpref01_Sub [lim a, lim b] (lim (limbsOf (natV a - natV b))) := by
 refine CQ_run rfl fun H => ?_
 simp [lim]
 refine WK_up (fun i E H' => E 0 = lim a ∧ E 1 = lim b ∧ E 7 = .int .i64 i ∧ ∃ c o, c < 2 ∧ E 6 = .int .u64 (c : Nat) ∧ Out H H' (E 5) 1 (o.map u32) ∧ o.length = i ∧ Li o ∧
     natV o + natV (b.take i) = natV (a.take i) + 4294967296 ^ i * c) a.length ?_ ?_
 · simp [lim]
   exact ⟨0, by omega, rfl, [], .nil, rfl, by intro x hx; simp at hx, by simp [natV]⟩
 · rintro i E H' hi ⟨h0, h1, h7, c, o, hc, h6, h5, ho, lo, ht⟩
   simp only [lim] at h0 h1
   rcases Nat.lt_or_ge i a.length with h2 | h2
   · have da := dig_lt la i
     have db := dig_lt lb i
     have sa := dat_cq a la i
     have sb := dat_cq b lb i
     obtain ⟨T, hT⟩ : ∃ T, T = dig a i + 4294967296 - (c + dig b i) := ⟨_, rfl⟩
     have hT' : T + (c + dig b i) = dig a i + 4294967296 := by omega
     obtain ⟨st, hC1⟩ := minus_step ho ht hc da db hT'
     obtain ⟨L, hL⟩ : ∃ L, L = T % 4294967296 := ⟨_, rfl⟩
     obtain ⟨C, hC⟩ : ∃ C, C = T / 4294967296 := ⟨_, rfl⟩
     have f6 : bitsI .and .u64 (T : Int) 4294967295 = some ((T % 4294967296 : Nat) : Int) := bitsI_mask T (by omega)
     have f7 : shiftI .shr .u64 (T : Int) 32 = some (.int .u64 ((T / 4294967296 : Nat) : Int)) := shr64 T 32 (by omega)
     rw [← hL] at f6 st
     rw [← hC] at f7 st hC1
     have f8 : IntKind.u32.wrap (L : Int) = L := wrap_nat_u32 _ (by omega)
     have f9 : IntKind.u64.wrap (1 - (C : Int)) = ((1 - C : Nat) : Int) := by rw [wrap_u64] <;> omega
     obtain ⟨D, hD⟩ : ∃ D, D = 1 - C := ⟨_, rfl⟩
     rw [← hD] at f9 st
     obtain ⟨v', H'', e', ho'⟩ := h5.one L (by omega)
     have f1 : IntKind.i64.wrap ((i : Int) + 1) = ((i + 1 : Nat) : Int) := by rw [wrap_i64] <;> omega
     have go : ∃ c, c < 2 ∧ (D : Int) = (c : Nat) ∧ ∃ o, Out H H'' v' 1 (List.map u32 o) ∧ o.length = i + 1 ∧ Li o ∧ natV o + natV (b.take (i + 1)) = natV (a.take (i + 1)) + 4294967296 ^ (i + 1) * c :=
       ⟨D, by omega, rfl, o ++ [L], ho', by simp; omega, lo.append (by intro y hy; simp at hy; omega), st⟩
     have t2 : IntKind.u64.wrap ((dig a i : Int) + 4294967296) = (dig a i : Int) + 4294967296 := by rw [wrap_u64] <;> omega
     have t3 : IntKind.u64.wrap ((dig a i : Int) + 4294967296 - dig b i) = (dig a i : Int) + 4294967296 - dig b i := by rw [wrap_u64] <;> omega
     have t4 : IntKind.u64.wrap ((dig a i : Int) + 4294967296 - dig b i - c) = T := by rw [wrap_u64] <;> omega
     simp [c_fpref01_Sub_l0, h0, h1, h6, h7, h2]
     refine WL_call rfl rfl rfl sa ?_
     simp [h0, h1, h6, h7, t2]
     refine WL_call rfl rfl rfl sb ?_
     simp [h0, h1, h6, h7, t2, t3, t4, f6, f7, f8, f9, f1, e', lim]
     exact go
   · have h2' : ¬ i < a.length := by omega
     have hin : i = a.length := by omega
     simp [c_fpref01_Sub_l0, h0, h7, h2']
     obtain ⟨H3, hp3, e3⟩ := h5.prep (g := g_fpref01_Trim) rfl
     refine WL_callH rfl rfl e3 (Trim1_cq o (by omega)) ?_
     have hlt := natV_lt lo
     rw [natV_take_all h2, natV_take_all (l := b) (by omega)] at ht
     rw [ho] at hlt
     have hv : natV o = natV a - natV b := by
       rcases Nat.eq_zero_or_pos c with h0 | h0
       · subst h0; omega
       · have : c = 1 := by omega
         subst this; omega
     rw [trimL_limbsOf lo, hv]
     simp [take_pre hp3, lim]

end Go.Abs.W

/- The reference of layer 1: products and shifts. -/
namespace Go.Abs.W

theorem bitsI_or32 (a c s : Nat) (ha : a % 2 ^ s = 0) (hc : c < 2 ^ s) (ha2 : a < 2 ^ 32) (hc2 : c < 2 ^ 32) : bitsI .or .u32 (a : Int) (c : Int) = some ((a + c : Nat) : Int) ∧ bitsI .or .u32 (c : Int) (a : Int) = some ((a + c : Nat) : Int) := by
 have e : a ||| c = a + c := by
   have := Nat.two_pow_add_eq_or_of_lt hc (a / 2 ^ s)
   rw [show 2 ^ s * (a / 2 ^ s) = a by have := Nat.div_add_mod a (2 ^ s); omega] at this
   exact this.symm
 have hlt : a ||| c < 2 ^ 32 := Nat.or_lt_two_pow ha2 hc2
 constructor
 · show some (IntKind.u32.wrap ((BitVec.ofInt 32 (a : Int) ||| BitVec.ofInt 32 (c : Int)).toNat : Int)) = _
   rw [BitVec.toNat_or, ofInt_nat, ofInt_nat, Nat.mod_eq_of_lt ha2, Nat.mod_eq_of_lt hc2, wrap_nat_u32 _ hlt, e]
 · show some (IntKind.u32.wrap ((BitVec.ofInt 32 (c : Int) ||| BitVec.ofInt 32 (a : Int)).toNat : Int)) = _
   rw [BitVec.toNat_or, ofInt_nat, ofInt_nat, Nat.mod_eq_of_lt ha2, Nat.mod_eq_of_lt hc2, Nat.or_comm, wrap_nat_u32 _ hlt, e]

/-- Reading a block behind what is there, whatever lies ahead. -/
theorem trim_block {H T : Heap} (l : List Nat) : prep prog g_fpref01_Trim (H ++ some ⟨1, l.map u32, true, true⟩ :: T) [.ref H.length 1 0 l.length] = some ([lim l], H ++ some ⟨1, l.map u32, true, false⟩ :: T) := by
 refine Eq.trans (b := frzVs _ _) rfl ?_
 simp [frzVs, frzV, frzC_ref, lim, List.take_of_length_le]

/-- The two halves of a shifted limb. -/
theorem shl_halves {x s : Nat} (hs : s < 32) (hx : x < 4294967296) : x * 2 ^ s / 4294967296 < 2 ^ s ∧ x * 2 ^ s % 4294967296 % 2 ^ s = 0 ∧ x * 2 ^ s < 2 ^ 64 := by
 have h2 : 2 ^ s ≤ 2 ^ 31 := Nat.pow_le_pow_right (by omega) (by omega)
 have hp := Nat.two_pow_pos s
 refine ⟨?_, ?_, ?_⟩
 · rw [Nat.div_lt_iff_lt_mul (by omega), Nat.mul_comm]
   exact Nat.mul_lt_mul_of_pos_left hx hp
 · have e : 4294967296 = 2 ^ s * 2 ^ (32 - s) := by rw [← Nat.pow_add, show s + (32 - s) = 32 by omega]
   rw [e, Nat.mod_mul_right_mod, Nat.mul_mod_left]
 · have : x * 2 ^ s ≤ 4294967295 * 2 ^ 31 := Nat.mul_le_mul (by omega) h2
   omega

set_option maxHeartbeats 4000000 in
theorem Shl1_cq (a : List Nat) (n : Nat) (ha : a.length ≤ 500000) (la : Li a) (hn : n ≤ 10000000) : CQ prog g_fpref01_Shl [lim a, .int .i64 n] (lim (limbsOf (natV a * 2 ^ n))) := by
 refine CQ_run rfl fun H => ?_
 simp
 refine WL_call rfl rfl rfl (Trim1_cq a (by omega)) ?_
 have hxl := trimL_len a
 rw [trimL_limbsOf la] at hxl ⊢
 have lx := li_limbsOf (natV a)
 have vx := (natV_limbsOf (natV a)).symm
 generalize limbsOf (natV a) = x at *
 rw [vx]
 obtain ⟨q, hq'⟩ : ∃ q, q = n / 32 := ⟨_, rfl⟩
 obtain ⟨s, hs⟩ : ∃ s, s = n % 32 := ⟨_, rfl⟩
 have q1 : (n : Int) / 32 = q := by omega
 have s1 : (n : Int).tmod 32 = s := by rw [Int.tmod_eq_emod_of_nonneg (by omega)]; omega
 have hs32 : s < 32 := by omega
 have e1 : IntKind.i64.wrap (q : Int) = q := by rw [wrap_i64] <;> omega
 obtain ⟨N, hN⟩ : ∃ N, N = q + x.length + 1 := ⟨_, rfl⟩
 have e2 : IntKind.i64.wrap ((q : Int) + x.length) = (q : Int) + x.length := by rw [wrap_i64] <;> omega
 have e3 : IntKind.i64.wrap ((q : Int) + x.length + 1) = (N : Int) := by rw [wrap_i64] <;> omega
 have f4 : N * 4 ≤ 281474976710656 ∧ N ≤ 9223372036854775807 := by omega
 have e : natV x * 2 ^ n = 4294967296 ^ q * (natV x * 2 ^ s) := by
   rw [show n = 32 * q + s by omega, Nat.pow_add, ← pow32, Nat.mul_left_comm]
 simp [lim, q1, e1, e2, e3, f4]
 refine WK_up (fun i E H' => ∃ l, H' = H ++ [some ⟨1, l.map u32, true, true⟩] ∧ l.length = N ∧ Li l ∧ E 0 = lim x ∧ E 1 = .int .i64 n ∧ E 5 = .ref H.length 1 0 N ∧ E 6 = .int .i64 i ∧
     dig l (q + i) < 2 ^ s ∧ l.drop (q + i + 1) = List.replicate (N - (q + i + 1)) 0 ∧ natV (l.take (q + i + 1)) = 4294967296 ^ q * (natV (x.take i) * 2 ^ s)) x.length ?_ ?_
 · refine ⟨List.replicate N 0, by rw [zeros_map], by simp, li_zeros, by simp [lim], by simp, by simp, by simp, ?_, by simp, by simp [natV, List.take_replicate, natV_zeros]⟩
   have : dig (List.replicate N 0) (q + 0) = 0 := by simp only [dig, List.getElem?_replicate]; split <;> rfl
   rw [this]; exact Nat.two_pow_pos s
 · rintro i E H' hi ⟨l, rfl, hl, ll, h0, h1, h5, h6, hd, hz, hv⟩
   rcases Nat.lt_or_ge i x.length with hlt | hge
   · simp only [lim] at h0
     have g1 : IntKind.i64.wrap ((i : Int) + 1) = ((i + 1 : Nat) : Int) := by rw [wrap_i64] <;> omega
     have lxi : x[i] < 4294967296 := lx _ (List.getElem_mem hlt)
     obtain ⟨j, hj⟩ : ∃ j, j = q + i := ⟨_, rfl⟩
     obtain ⟨j1, hj1⟩ : ∃ j1, j1 = q + i + 1 := ⟨_, rfl⟩
     rw [← hj1] at hv hz
     rw [← hj] at hd
     have hjl : j < l.length := by omega
     have hj1l : j1 < l.length := by omega
     have hjN : j < N := by omega
     have hj1N : j1 < N := by omega
     have g2 : IntKind.i64.wrap ((i : Int) + q) = (j : Int) := by rw [wrap_i64] <;> omega
     have g3 : IntKind.i64.wrap ((j : Int) + 1) = (j1 : Int) := by rw [wrap_i64] <;> omega
     obtain ⟨s1', s2', s3'⟩ := shl_halves hs32 lxi
     have t1 : IntKind.u64.wrap (x[i] : Int) = x[i] := wrap_nat_u64 _ (by omega)
     obtain ⟨P, hP⟩ : ∃ P, P = x[i] * 2 ^ s := ⟨_, rfl⟩
     have t2 : shiftI .shl .u64 (x[i] : Int) (s : Int) = some (.int .u64 (P : Int)) := by rw [shl64 _ _ (by omega) (by omega), hP]
     rw [← hP] at s1' s2' s3'
     have t3 : bitsI .and .u64 (P : Int) 4294967295 = some ((P % 4294967296 : Nat) : Int) := bitsI_mask P s3'
     have t4 : shiftI .shr .u64 (P : Int) 32 = some (.int .u64 ((P / 4294967296 : Nat) : Int)) := shr64 P 32 (by omega)
     have hPd := Nat.div_add_mod P 4294967296
     have hL2 : P % 4294967296 < 4294967296 := Nat.mod_lt _ (by omega)
     obtain ⟨L, hL⟩ : ∃ L, L = P % 4294967296 := ⟨_, rfl⟩
     obtain ⟨C, hC⟩ : ∃ C, C = P / 4294967296 := ⟨_, rfl⟩
     rw [← hL] at t3 s2' hPd hL2
     rw [← hC] at t4 s1' hPd
     have h2s : 2 ^ s ≤ 2 ^ 31 := Nat.pow_le_pow_right (by omega) (by omega)
     have t5 : IntKind.u32.wrap (L : Int) = L := wrap_nat_u32 _ hL2
     have t6 : IntKind.u32.wrap (C : Int) = C := wrap_nat_u32 _ (by omega)
     have hLd : L + dig l j < 4294967296 := by
       have e5 : 4294967296 = 2 ^ s * 2 ^ (32 - s) := by rw [← Nat.pow_add, show s + (32 - s) = 32 by omega]
       have e6 : L = 2 ^ s * (L / 2 ^ s) := by have := Nat.div_add_mod L (2 ^ s); omega
       have e7 : L / 2 ^ s < 2 ^ (32 - s) := by
         rw [Nat.div_lt_iff_lt_mul (Nat.two_pow_pos s), Nat.mul_comm, ← e5]; exact hL2
       have e8 : 2 ^ s * (L / 2 ^ s + 1) ≤ 2 ^ s * 2 ^ (32 - s) := Nat.mul_le_mul_left _ e7
       rw [← e5, Nat.mul_add, ← e6] at e8
       omega
     have t7 := (bitsI_or32 L (dig l j) s s2' hd (by omega) (by omega)).2
     obtain ⟨D, hD⟩ : ∃ D, D = L + dig l j := ⟨_, rfl⟩
     rw [← hD] at t7 hLd
     have st : natV (((l.set j D).set j1 C).take (q + (i + 1) + 1)) = 4294967296 ^ q * (natV (x.take (i + 1)) * 2 ^ s) := by
       rw [show q + (i + 1) + 1 = j1 + 1 by omega, natV_take_set (by simp; omega), show j1 = j + 1 by omega, natV_take_set hjl, Nat.pow_succ]
       have e5 : natV (l.take j) + 4294967296 ^ j * dig l j = 4294967296 ^ q * (natV (x.take i) * 2 ^ s) := by
         rw [← natV_take_succ, ← hv]; congr 2; omega
       rw [natV_take_succ, dig_in hlt, Nat.add_mul, Nat.mul_add, ← e5, hD, Nat.mul_assoc (4294967296 ^ i), ← hP, ← Nat.mul_assoc, ← Nat.pow_add, ← hj, ← hPd]
       have e6 : 4294967296 ^ j * 4294967296 * C = 4294967296 ^ j * (4294967296 * C) := Nat.mul_assoc ..
       rw [e6, Nat.mul_add, Nat.mul_add]
       omega
     have st2 : ((l.set j D).set j1 C).drop (q + (i + 1) + 1) = List.replicate (N - (q + (i + 1) + 1)) 0 := by
       rw [List.drop_set_of_lt (by omega), List.drop_set_of_lt (by omega)]
       have := congrArg (List.drop 1) hz
       rw [List.drop_drop, List.drop_replicate] at this
       rw [show q + (i + 1) + 1 = j1 + 1 by omega, this]; congr 1
     have st3 : dig ((l.set j D).set j1 C) (q + (i + 1)) < 2 ^ s := by
       rw [show q + (i + 1) = j1 by omega, dig_set (by simp; omega)]; exact s1'
     have go : ∃ l3 : List Nat, H ++ [some ⟨1, ((List.map u32 l).set j (V.int IntKind.u32 D)).set j1 (V.int IntKind.u32 C), true, true⟩] = H ++ [some ⟨1, l3.map u32, true, true⟩] ∧ l3.length = N ∧ Li l3 ∧ dig l3 (q + (i + 1)) < 2 ^ s ∧ l3.drop (q + (i + 1) + 1) = List.replicate (N - (q + (i + 1) + 1)) 0 ∧ natV (l3.take (q + (i + 1) + 1)) = 4294967296 ^ q * (natV (x.take (i + 1)) * 2 ^ s) :=
       ⟨(l.set j D).set j1 C, by rw [mapu_set, mapu_set], by simp [hl], Li.set (Li.set ll hLd) (by omega), st3, st2, st⟩
     obtain ⟨l3, y1, y2, y3, y4, y5, y6⟩ := go
     rw [dig_in hjl] at t7
     clear st st2 st3
     have hset : ∀ (v : V) (h : j1 < ((List.map u32 l).set j v).length), ((List.map u32 l).set j v)[j1] = V.int IntKind.u32 (l[j1] : Nat) := by
       intro v h
       rw [List.getElem_set_ne (by omega), List.getElem_map]; rfl
     simp [u32] at y1
     simp [c_fpref01_Shl_l0, h0, h1, h5, h6, hlt, u32, t1, t2, t3, t4, t5, t6, t7, s1, q1, e1, g1, g2, g3, hjN, hj1N, hjl, hj1l, hset, lim]
     exact ⟨l3, y1, y2, y3, y4, y5, y6⟩
   · have hin : i = x.length := by omega
     subst hin
     rw [natV_take_all (l := x) (Nat.le_refl _), natV_take_all (l := l) (by omega)] at hv
     simp only [lim] at h0
     simp [c_fpref01_Shl_l0, h0, h5, h6]
     refine WL_callH (args := [.ref H.length 1 0 l.length]) rfl (by simp [hl, h5]) (trim_block l) (Trim1_cq l (by omega)) ?_
     rw [trimL_limbsOf ll, hv, e]
     simp [lim]

set_option maxHeartbeats 4000000 in
theorem Shr1_cq (a : List Nat) (n : Nat) (ha : a.length ≤ 500000) (la : Li a) (hn : n ≤ 10000000) : CQ prog g_fpref01_Shr [lim a, .int .i64 n] (lim (limbsOf (natV a / 2 ^ n))) := by
 refine CQ_run rfl fun H => ?_
 obtain ⟨q, hq'⟩ : ∃ q, q = n / 32 := ⟨_, rfl⟩
 obtain ⟨s, hs⟩ : ∃ s, s = n % 32 := ⟨_, rfl⟩
 have q1 : (n : Int) / 32 = q := by omega
 have s1 : (n : Int).tmod 32 = s := by rw [Int.tmod_eq_emod_of_nonneg (by omega)]; omega
 have hs32 : s < 32 := by omega
 have e1 : IntKind.i64.wrap (q : Int) = q := by rw [wrap_i64] <;> omega
 obtain ⟨x, hx⟩ : ∃ x, x = a.drop q := ⟨_, rfl⟩
 have lx : Li x := by rw [hx]; exact la.drop _
 have hxl : x.length = a.length - q := by rw [hx]; simp
 have e : natV a / 2 ^ n = natV x / 2 ^ s := by
   rw [hx, show n = 32 * q + s by omega, Nat.pow_add, ← pow32, ← Nat.div_div_eq_div_mul, natV_div la]
 rw [e]
 simp [lim, q1, e1]
 refine WK_up (fun i E H' => E 0 = lim a ∧ E 1 = .int .i64 n ∧ E 6 = .int .i64 ((q + i : Nat) : Int) ∧ ∃ o, Out H H' (E 5) 1 (o.map u32) ∧ o.length = i ∧ Li o ∧ natV o = natV x / 2 ^ s % 4294967296 ^ i) x.length ?_ ?_
 · simp [lim]
   exact ⟨[], .nil, rfl, by intro x hx; simp at hx, by simp [natV, Nat.mod_one]⟩
 · rintro i E H' hi ⟨h0, h1, h6, o, h5, ho, lo, hv⟩
   simp only [lim] at h0
   obtain ⟨j, hj⟩ : ∃ j, j = q + i := ⟨_, rfl⟩
   obtain ⟨j1, hj1⟩ : ∃ j1, j1 = q + (i + 1) := ⟨_, rfl⟩
   rw [← hj] at h6
   have g1 : IntKind.i64.wrap ((j : Int) + 1) = (j1 : Int) := by rw [wrap_i64] <;> omega
   rcases Nat.lt_or_ge j a.length with h2 | h2
   · have d1 : dig x i = dig a j := by rw [hx, dig_drop, hj]
     have d2 : dig x (i + 1) = dig a j1 := by rw [hx, dig_drop, hj1]
     have da := dig_lt la j
     have db := dig_lt la j1
     have st := right_step (M := natV x) (s := s) o ho hv
     rw [right_limb lx i s hs32, d1, d2] at st
     obtain ⟨T, hT⟩ : ∃ T, T = dig a j + 4294967296 * dig a j1 := ⟨_, rfl⟩
     have hT2 : T < 2 ^ 64 := by omega
     have f4 : shiftI .shr .u64 (T : Int) (s : Int) = some (.int .u64 ((T / 2 ^ s : Nat) : Int)) := shr64 T s (by omega)
     rw [← hT] at st
     obtain ⟨Y, hY⟩ : ∃ Y, Y = T / 2 ^ s := ⟨_, rfl⟩
     have hY2 : Y < 2 ^ 64 := by rw [hY]; exact Nat.lt_of_le_of_lt (Nat.div_le_self _ _) hT2
     rw [← hY] at f4 st
     have f5 := bitsI_mask Y hY2
     obtain ⟨L, hL⟩ : ∃ L, L = Y % 4294967296 := ⟨_, rfl⟩
     rw [← hL] at f5 st
     have f6 : IntKind.u32.wrap (L : Int) = L := wrap_nat_u32 _ (by omega)
     obtain ⟨v', H'', e', ho'⟩ := h5.one L (by omega)
     have t3 : shiftI .shl .u64 (dig a j1 : Int) 32 = some (.int .u64 ((dig a j1 * 2 ^ 32 : Nat) : Int)) := shl64 _ 32 (by omega) (by omega)
     obtain ⟨P, hP⟩ : ∃ P, P = dig a j1 * 2 ^ 32 := ⟨_, rfl⟩
     rw [← hP] at t3
     have t4 : IntKind.u64.wrap ((dig a j : Int) + P) = (T : Int) := by rw [wrap_u64] <;> omega
     have go : ∃ o, Out H H'' v' 1 (List.map u32 o) ∧ o.length = i + 1 ∧ Li o ∧ natV o = natV x / 2 ^ s % 4294967296 ^ (i + 1) :=
       ⟨o ++ [L], ho', by simp; omega, lo.append (by intro y hy; simp at hy; omega), st⟩
     simp [c_fpref01_Shr_l0, h0, h1, h6, h2]
     refine WL_call rfl rfl rfl (dat_cq a la j) ?_
     simp [h0, h1, h6, g1]
     refine WL_call rfl rfl rfl (dat_cq a la j1) ?_
     simp [h0, h1, h6, g1, t3, t4, s1, f4, f5, f6, e', lim]
     exact ⟨by omega, by omega, go⟩
   · have h2' : ¬ j < a.length := by omega
     simp [c_fpref01_Shr_l0, h0, h6, h2']
     obtain ⟨H3, hp3, e3⟩ := h5.prep (g := g_fpref01_Trim) rfl
     refine WL_callH rfl rfl e3 (Trim1_cq o (by omega)) ?_
     have hv2 : natV o = natV x / 2 ^ s := by
       have := natV_lt lx
       rw [hv, Nat.mod_eq_of_lt]
       rw [show i = x.length by omega]
       exact Nat.lt_of_le_of_lt (Nat.div_le_self _ _) this
     rw [trimL_limbsOf lo, hv2]
     simp [take_pre hp3, lim]

end Go.Abs.W

/- The reference of layer 1: quotients, bit by bit. -/
namespace Go.Abs.W

end Go.Abs.W

/- The reference of layer 1: quotients and square roots. -/
namespace Go.Abs.W

structure DmInv (A B : Nat) (o r : List Nat) (la n k : Nat) : Prop where
 lo : o.length = la
 lr : r.length = n
 Lo : Li o
 Lr : Li r
 vr : natV r = A / 2 ^ k % B
 vo : natV o = A / 2 ^ k / B * 2 ^ k

end Go.Abs.W

/- The reference of layer 2: products, and numbers that are made. -/
namespace Go.Abs.W

end Go.Abs.W

/- The reference of layer 2: sums, differences, products, integers. -/
namespace Go.Abs.W

/-- A canonical number is valid if it is in range. -/
theorem Dy.of_valid {neg : Bool} {n : Nat} {e : Int} : (Dy.of neg n e).valid = (Dy.of neg n e).inR := by
 by_cases h : n = 0
 · subst h
   simp only [Dy.of, if_pos]
   rfl
 · have hd : Dy.of neg n e = ⟨neg, limbsOf (n / 2 ^ tz n), e + tz n⟩ := by simp [Dy.of, h]
   rw [hd]
   obtain ⟨h1, _, _⟩ := tz_bit h
   obtain ⟨N, hN⟩ : ∃ N, N = n / 2 ^ tz n := ⟨_, rfl⟩
   rw [← hN] at h1 ⊢
   have hn0 : N ≠ 0 := by omega
   have ht := trim_limbsOf N
   have hv := natV_limbsOf N
   obtain ⟨B, hB⟩ : ∃ B, B = 4096 := ⟨_, rfl⟩
   have hb := limbs_bits (N := N) (B := B) (k := 128)
   cases hl : limbsOf N with
   | nil => exact absurd hl (limbsOf_ne hn0)
   | cons x l =>
     rw [hl] at ht hv hb
     have hx : x % 2 = 1 := by simp only [natV] at hv; omega
     have hlast : (x :: l).getLast (by simp) ≠ 0 := ht _ (List.getLast?_eq_some_getLast (by simp))
     simp only [Dy.valid]
     cases hr : Dy.inR ⟨neg, x :: l, e + tz n⟩ with
     | false => simp
     | true =>
       have hlen : (x :: l).length ≤ 256 := by
         simp only [Dy.inR, Bool.or_eq_true, Bool.and_eq_true, decide_eq_true_eq, beq_iff_eq] at hr
         have h4 : bitL (natV (x :: l)) ≤ B := by
           rcases hr with h | h
           · omega
           · have := h.1.1.1; omega
         rw [hv] at h4
         have := hb (Nat.lt_of_lt_of_le (lt_bitL N) (Nat.pow_le_pow_right (by omega) h4)) (by omega)
         omega
       simp only [Bool.and_true, Bool.and_eq_true, decide_eq_true_eq]
       exact ⟨⟨hlen, hx⟩, hlast⟩

theorem Dy.of_ok {neg : Bool} {n : Nat} {e : Int} (h : (Dy.of neg n e).inR = true) : (Dy.of neg n e).Ok := by
 refine Dy.Ok.of ?_ (by rw [Dy.of_valid]; exact h)
 unfold Dy.of
 split
 · intro x hx; simp at hx
 · exact li_limbsOf _

theorem natV2 (n : Nat) : natV [n % 4294967296, n / 4294967296] = n := by simp [natV]; omega

theorem RInt_cq (n : Int) (h1 : -4611686018427387904 ≤ n) (h2 : n ≤ 4611686018427387904) : CQ prog g_fpref02_Int [.int .i64 n] (Dy.of (decide (n < 0)) n.natAbs 0).v := by
 refine CQ_run rfl fun H => ?_
 obtain ⟨N, hN⟩ : ∃ N, N = n.natAbs := ⟨_, rfl⟩
 have e3 := bitsI_mask N (by omega)
 have e5 : shiftI .shr .u64 (N : Int) 32 = some (.int .u64 ((N / 2 ^ 32 : Nat) : Int)) := shr64 N 32 (by omega)
 have hv := natV2 N
 obtain ⟨L, hL⟩ : ∃ L, L = N % 4294967296 := ⟨_, rfl⟩
 obtain ⟨C, hC⟩ : ∃ C, C = N / 4294967296 := ⟨_, rfl⟩
 rw [← hL] at e3
 rw [show (2 : Nat) ^ 32 = 4294967296 from rfl, ← hC] at e5
 rw [← hL, ← hC] at hv
 have e4 : IntKind.u32.wrap (L : Int) = L := wrap_nat_u32 _ (by omega)
 have e6 : IntKind.u32.wrap (C : Int) = C := wrap_nat_u32 _ (by omega)
 have oc := Of_cq (decide (n < 0)) [L, C] 0 (by simp) (by intro x hx; simp at hx; omega) (by omega) (by omega)
 rw [hv] at oc
 rw [← hN]
 by_cases hn : n < 0
 · have e1 : IntKind.u64.wrap n = 18446744073709551616 + n := by simp only [IntKind.wrap, IntKind.bits, IntKind.signed]; simp; omega
   have e2 : IntKind.u64.wrap (0 - (18446744073709551616 + n)) = (N : Int) := by simp only [IntKind.wrap, IntKind.bits, IntKind.signed]; simp; omega
   have e2' : IntKind.u64.wrap (-(18446744073709551616 + n)) = (N : Int) := by rw [← e2]; congr 1; omega
   simp [hn] at oc ⊢
   simp [e1, e2, e2', e3, e4, e5, e6]
   refine WL_callH rfl rfl (H1 := H ++ [some ⟨3, [.agg [.bool false, .nil, .int .i64 0]], false, true⟩, some ⟨1, [.int .u32 L, .int .u32 C], true, false⟩]) (vs := [.bool true, lim [L, C], .int .i64 0]) (by simp [prep, frzVs, frzV]; rfl) oc ?_
   simp
 · have e1 : IntKind.u64.wrap n = (N : Int) := by rw [wrap_u64] <;> omega
   simp [hn] at oc ⊢
   simp [e1, e3, e4, e5, e6]
   refine WL_callH rfl rfl (H1 := H ++ [some ⟨3, [.agg [.bool false, .nil, .int .i64 0]], false, true⟩, some ⟨1, [.int .u32 L, .int .u32 C], true, false⟩]) (vs := [.bool false, lim [L, C], .int .i64 0]) (by simp [prep, frzVs, frzV]; rfl) oc ?_
   simp

theorem DInt_cq (n : Int) (h1 : -4611686018427387904 ≤ n) (h2 : n ≤ 4611686018427387904) : CQ prog g_dyadic_Int [.int .i64 n] (Dy.of (decide (n < 0)) n.natAbs 0).v := by
 refine CQ_run rfl fun H => ?_
 obtain ⟨N, hN⟩ : ∃ N, N = n.natAbs := ⟨_, rfl⟩
 have e3 := wrap_nat_u32_mod N
 have e5 : shiftI .shr .u64 (N : Int) 32 = some (.int .u64 ((N / 2 ^ 32 : Nat) : Int)) := shr64 N 32 (by omega)
 have hv := natV2 N
 obtain ⟨L, hL⟩ : ∃ L, L = N % 4294967296 := ⟨_, rfl⟩
 obtain ⟨C, hC⟩ : ∃ C, C = N / 4294967296 := ⟨_, rfl⟩
 rw [← hL] at e3
 rw [show (2 : Nat) ^ 32 = 4294967296 from rfl, ← hC] at e5
 rw [← hL, ← hC] at hv
 have e6 : IntKind.u32.wrap (C : Int) = C := wrap_nat_u32 _ (by omega)
 have oc := canonical_cq (decide (n < 0)) [L, C] 0 (by simp) (by intro x hx; simp at hx; omega) (by omega) (by omega)
 rw [hv] at oc
 rw [← hN]
 by_cases hn : n < 0
 · have e1 : IntKind.u64.wrap n = 18446744073709551616 + n := by simp only [IntKind.wrap, IntKind.bits, IntKind.signed]; simp; omega
   have e2 : IntKind.u64.wrap (0 - (18446744073709551616 + n)) = (N : Int) := by simp only [IntKind.wrap, IntKind.bits, IntKind.signed]; simp; omega
   have e2' : IntKind.u64.wrap (-(18446744073709551616 + n)) = (N : Int) := by rw [← e2]; congr 1; omega
   simp [hn] at oc ⊢
   simp [e1, e2, e2', e3, e5, e6]
   refine WL_callH rfl rfl (H1 := H ++ [some ⟨3, [.agg [.bool false, .nil, .int .i64 0]], false, true⟩, some ⟨1, [.int .u32 L, .int .u32 C], true, false⟩]) (vs := [.bool true, lim [L, C], .int .i64 0]) (by simp [prep, frzVs, frzV]; rfl) oc ?_
   simp
 · have e1 : IntKind.u64.wrap n = (N : Int) := by rw [wrap_u64] <;> omega
   simp [hn] at oc ⊢
   simp [e1, e3, e5, e6]
   refine WL_callH rfl rfl (H1 := H ++ [some ⟨3, [.agg [.bool false, .nil, .int .i64 0]], false, true⟩, some ⟨1, [.int .u32 L, .int .u32 C], true, false⟩]) (vs := [.bool false, lim [L, C], .int .i64 0]) (by simp [prep, frzVs, frzV]; rfl) oc ?_
   simp

end Go.Abs.W

