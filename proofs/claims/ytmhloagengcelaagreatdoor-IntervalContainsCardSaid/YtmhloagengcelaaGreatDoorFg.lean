/- Parts of the proof: FpDyR, FpR01a, FpR01b, FpR01c, FpR01d, FpR01e, FpR02, FpR02b. -/
import Derived.Test.YtmhloagengcelaaGreatDoorFf
/- Dyadic numbers: canonical forms, and the functions that make numbers. -/
namespace Go.Abs.W

@[simp] theorem nlt_add (n k : Nat) : ¬ (n + k < n) := by omega

set_option maxHeartbeats 1000000 in
theorem trimmed_cq (l : List Nat) (hl : l.length ≤ 1000000000) : CQ prog g_dyadic_trimmed [lim l] (lim (trimL l)) := by
 refine CQ_run rfl fun H => ?_
 simp [lim]
 refine WK_loop (fun k E H' => H' = H ∧ E 0 = lim l ∧ k ≤ l.length ∧ E 3 = .int .i64 k ∧ trimN l k = trimN l l.length) l.length ?_ ?_
 · simp [lim]
 · rintro n E H' ⟨rfl, h0, hn, h3, ht⟩
   refine WC_round ?_
   simp only [lim] at h0
   rcases n with _ | n
   · simp [c_dyadic_trimmed_l0, h0, h3, trimL, ← ht, trimN]
   · have e1 : IntKind.i64.wrap (n : Int) = n := by rw [wrap_i64] <;> omega
     have hlt : n < l.length := by omega
     have p1 : (0 : Int) ≤ (n : Int) + 1 := by omega
     have p2 : (0 : Int) < (n : Int) + 1 := by omega
     by_cases hx : l[n] = 0
     · simp [c_dyadic_trimmed_l0, h0, h3, e1, hlt, hx, u32, p2]
       refine ⟨n, by omega, rfl, by omega, rfl, ?_⟩
       rw [← ht, trimN, if_pos (by rw [List.getElem?_eq_getElem hlt, hx])]
     · simp [c_dyadic_trimmed_l0, h0, h3, e1, hlt, hx, u32, p1, p2, hn]
       rw [trimL, ← ht, trimN, if_neg (by rw [List.getElem?_eq_getElem hlt]; simpa using hx), List.map_take]

theorem tz_unique {n k : Nat} (h1 : n / 2 ^ k % 2 = 1) (h2 : n % 2 ^ k = 0) : tz n = k := by
 have e : n = n / 2 ^ k * 2 ^ k := by
   have := Nat.div_add_mod' n (2 ^ k); omega
 rw [e, tz_mul (by omega), tz_odd h1, Nat.zero_add]

theorem tz_low {x r : Nat} (h0 : x ≠ 0) (h : x < 4294967296) : tz (x + 4294967296 * r) = tz x := by
 obtain ⟨h1, _, h3⟩ := tz_bit h0
 obtain ⟨_, ht⟩ := neg_and x h0 h
 obtain ⟨t, hk⟩ : ∃ t, t = tz x := ⟨_, rfl⟩
 rw [← hk] at h1 h3 ht ⊢
 have e : 4294967296 * r = 2 ^ t * (2 * (2 ^ (31 - t) * r)) := by
   rw [← Nat.mul_assoc 2, ← Nat.mul_assoc (2 ^ t), ← Nat.pow_succ', ← Nat.pow_add, show t + (31 - t + 1) = 32 by omega]
 refine tz_unique ?_ ?_
 · rw [e, Nat.add_mul_div_left _ _ (Nat.two_pow_pos t)]; omega
 · rw [e, Nat.add_mul_mod_self_left, h3]

set_option maxHeartbeats 1000000 in
theorem low_cq (m : List Nat) (hm : m.length ≤ 1000000) (lm : Li m) (h0 : natV m ≠ 0) : CQ prog g_dyadic_low [lim m] (.int .i64 (tz (natV m))) := by
 refine CQ_run rfl fun H => ?_
 simp [lim]
 refine WK_up (fun i E H' => H' = H ∧ E 3 = .int .i64 ((32 * i : Nat) : Int) ∧ E 6 = lim m ∧ E 7 = .int .i64 m.length ∧ E 8 = .int .i64 i ∧ natV (m.take i) = 0) m.length ?_ ?_
 · simp [lim, natV]
 · rintro i E H' hi ⟨rfl, h3, h6, h7, h8, hv⟩
   rcases Nat.lt_or_ge i m.length with hlt | hge
   · simp only [lim] at h6
     have g1 : IntKind.i64.wrap ((i : Int) + 1) = ((i + 1 : Nat) : Int) := by rw [wrap_i64] <;> omega
     have g2 : IntKind.i64.wrap (((32 * i : Nat) : Int) + 32) = ((32 * (i + 1) : Nat) : Int) := by rw [wrap_i64] <;> omega
     have lx : m[i] < 4294967296 := lm _ (List.getElem_mem hlt)
     by_cases hx : m[i] = 0
     · have hv2 : natV (m.take (i + 1)) = 0 := by rw [natV_take_succ, hv, dig_in hlt, hx]; simp
       obtain ⟨A, hA⟩ : ∃ A, A = 32 * i := ⟨_, rfl⟩
       obtain ⟨B, hB⟩ : ∃ B, B = 32 * (i + 1) := ⟨_, rfl⟩
       rw [← hA] at h3 g2
       rw [← hB] at g2
       simp [c_dyadic_low_l0, h3, h6, h7, h8, hlt, hx, u32, g1, g2, lim]
       exact ⟨by omega, hv2⟩
     · have e : tz (natV m) = 32 * i + tz m[i] := by
         rw [natV_split m i, hv, Nat.zero_add, natV_drop, dig_in hlt, pow32, Nat.mul_comm, tz_mul (by omega), tz_low hx lx]; omega
       have ht := (neg_and m[i] hx lx).2
       have hx' : ¬ (m[i] : Int) = 0 := by omega
       obtain ⟨A, hA⟩ : ∃ A, A = 32 * i := ⟨_, rfl⟩
       rw [← hA] at h3 e
       have g3 : IntKind.i64.wrap ((A : Int) + tz m[i]) = tz (natV m) := by rw [e, wrap_i64] <;> omega
       simp [c_dyadic_low_l0, h3, h6, h7, h8, hlt, hx, u32, lim]
       refine WL_call rfl rfl rfl (TrailingZeros32_cq m[i] hx lx) ?_
       simp [h3, g3]
   · exfalso
     rw [natV_take_all hge] at hv
     exact h0 hv

theorem canonical_cq (neg : Bool) (m : List Nat) (e : Int) (hm : m.length ≤ 256) (lm : Li m) (he1 : -1000000 ≤ e) (he2 : e ≤ 1000000) : CQ prog g_dyadic_canonical [.bool neg, lim m, .int .i64 e] (Dy.of neg (natV m) e).v := by
 refine CQ_run rfl fun H => ?_
 simp
 refine WL_call rfl rfl rfl (trimmed_cq m (by omega)) ?_
 rw [trimL_limbsOf lm]
 by_cases h0 : natV m = 0
 · simp [h0, limbsOf_zero, lim, Dy.of]
 · obtain ⟨x, hx⟩ : ∃ x, x = limbsOf (natV m) := ⟨_, rfl⟩
   have hxv : natV x = natV m := by rw [hx, natV_limbsOf]
   have lx : Li x := by rw [hx]; exact li_limbsOf _
   have hxl : x.length ≤ m.length := by rw [hx]; exact limbsOf_len.2 (natV_lt lm)
   have hne : x ≠ [] := by rw [hx]; exact limbsOf_ne h0
   have hl : ¬ (x.length : Int) = 0 := by
     intro h; exact hne (List.eq_nil_of_length_eq_zero (by omega))
   have hb := natV_bound lx (by rw [hxv]; exact h0)
   have f1 : IntKind.i64.wrap (e + (tz (natV m) : Int)) = e + tz (natV m) := by rw [hxv] at hb; rw [wrap_i64] <;> omega
   have hz : (limbsOf (natV m / 2 ^ tz (natV m))).length ≤ 256 := by
     rw [← hxv]
     exact limbs_mono (Nat.div_le_self _ _) (Nat.le_trans (limbsOf_len.2 (natV_lt lx)) (by omega))
   rw [← hx]
   simp [lim, hne]
   refine WL_call rfl rfl rfl (low_cq x (by omega) lx (by rw [hxv]; exact h0)) ?_
   simp
   refine WL_call rfl rfl rfl (NShr_cq x (tz (natV x)) (by omega) lx (by omega)) ?_
   rw [hxv]
   simp
   refine WL_call rfl rfl rfl (CloneU_cq _ (by omega)) ?_
   simp
   refine WL_call rfl rfl rfl (Clip_cq _) ?_
   simp [f1, Dy.of, h0, lim]

theorem checked_cq (d : Dy) (hd : d.W) : CQ prog g_dyadic_checked [d.v] (.tup [(if d.inR then d else Dy.zero).v, .int .i64 (if d.inR then 0 else 9)]) := by
 refine CQ_run rfl fun H => ?_
 simp
 refine WL_call rfl rfl rfl (inRange_cq d hd.len hd.li) ?_
 cases h : d.inR <;> simp [h, Dy.zero, lim]

theorem exponent_cq (e : Int) : CQ prog g_dyadic_exponent [.int .i64 e] (.bool (decide (-32768 ≤ e) && decide (e ≤ 32768))) := by
 refine CQ_run rfl fun H => ?_
 simp
 grind

theorem Dy.of_W {neg : Bool} {n : Nat} {e : Int} (h : (limbsOf n).length ≤ 1000000) : (Dy.of neg n e).W := by
 unfold Dy.of
 split
 · exact ⟨by intro x hx; simp at hx, by simp⟩
 · exact ⟨li_limbsOf _, Nat.le_trans (limbs_mono (Nat.div_le_self _ _) h) (by omega)⟩

/-- Make, in plain numbers. -/
def Dy.chk (d : Dy) : Dy := if d.inR then d else Dy.zero
def Dy.chkE (d : Dy) : Int := if d.inR then 0 else 9

theorem Make_cq (neg : Bool) (m : List Nat) (e : Int) (hm : m.length ≤ 256) (lm : Li m) (he1 : -32768 ≤ e) (he2 : e ≤ 32768) : CQ prog g_dyadic_Make [.bool neg, lim m, .int .i64 e] (.tup [(Dy.of neg (natV m) e).chk.v, .int .i64 (Dy.of neg (natV m) e).chkE]) := by
 refine CQ_run rfl fun H => ?_
 have h1 : ¬ ((256 : Int) < m.length) := by omega
 have h2 : ¬ (256 < m.length) := by omega
 have w : (Dy.of neg (natV m) e).W := Dy.of_W (Nat.le_trans (limbsOf_len.2 (natV_lt lm)) (by omega))
 simp [lim, h1]
 refine WL_call rfl rfl rfl (exponent_cq e) ?_
 simp [he1, he2]
 refine WL_call rfl rfl rfl (canonical_cq neg m e hm lm (by omega) (by omega)) ?_
 simp
 refine WL_call rfl rfl rfl (checked_cq _ w) ?_
 simp [Dy.chk, Dy.chkE, lim]

def Dy.opp (d : Dy) : Dy := if d.valid = true ∧ d.m ≠ [] then ⟨!d.neg, d.m, d.e⟩ else Dy.zero
def Dy.abs (d : Dy) : Dy := if d.valid = true ∧ d.m ≠ [] then ⟨false, d.m, d.e⟩ else Dy.zero

theorem DNeg_cq (d : Dy) (w : d.W) : CQ prog g_dyadic_Neg [d.v] d.opp.v := by
 refine CQ_run rfl fun H => ?_
 have := w.len
 simp
 refine WL_call rfl rfl rfl (Valid_cq d w.len w.li) ?_
 cases hv : d.valid
 · simp [Dy.opp, hv, Dy.zero, lim]
 · by_cases hm : d.m = []
   · simp [Dy.opp, hv, hm, Dy.zero, lim]
   · have hm' : ¬ (d.m.length : Int) = 0 := by intro h; exact hm (List.eq_nil_of_length_eq_zero (by omega))
     simp [lim, hm]
     refine WL_call rfl rfl rfl (CloneU_cq d.m (by omega)) ?_
     simp [Dy.opp, hv, hm, lim]

theorem DAbs_cq (d : Dy) (w : d.W) : CQ prog g_dyadic_Abs [d.v] d.abs.v := by
 refine CQ_run rfl fun H => ?_
 have := w.len
 simp
 refine WL_call rfl rfl rfl (Valid_cq d w.len w.li) ?_
 cases hv : d.valid
 · simp [Dy.abs, hv, Dy.zero, lim]
 · by_cases hm : d.m = []
   · simp [Dy.abs, hv, hm, Dy.zero, lim]
   · have hm' : ¬ (d.m.length : Int) = 0 := by intro h; exact hm (List.eq_nil_of_length_eq_zero (by omega))
     simp [lim, hm]
     refine WL_call rfl rfl rfl (CloneU_cq d.m (by omega)) ?_
     simp [Dy.abs, hv, hm, lim]

theorem DBits_cq (d : Dy) (w : d.W) : CQ prog g_dyadic_Bits [d.v] (.int .i64 (if d.valid then bitL (natV d.m) else 0)) := by
 refine CQ_run rfl fun H => ?_
 simp
 refine WL_call rfl rfl rfl (Valid_cq d w.len w.li) ?_
 cases hv : d.valid
 · simp
 · simp
   refine WL_call rfl rfl rfl (size_cq d.m w.len w.li) ?_
   simp

def Dy.scl (d : Dy) (k : Int) : Dy := if d.valid = true ∧ -32768 ≤ k ∧ k ≤ 32768 then (Dy.of d.neg (natV d.m) (d.e + k)).chk else Dy.zero
def Dy.sclE (d : Dy) (k : Int) : Int := if d.valid = true ∧ -32768 ≤ k ∧ k ≤ 32768 then (Dy.of d.neg (natV d.m) (d.e + k)).chkE else 1

end Go.Abs.W

/- The reference of layer 1: lists of limbs. -/
namespace Go.Abs.W

/-- A value that shows limbs: a list for good, or a block. -/
def Sees (v : V) (l : List Nat) (H : Heap) : Prop := v = lim l ∨ ∃ b w, v = .ref b 1 0 l.length ∧ H[b]? = some (some ⟨1, l.map u32, true, w⟩)

theorem Sees.lim {l : List Nat} {H : Heap} : Sees (Go.Abs.lim l) l H := .inl rfl

theorem Sees.len {H : Heap} {v : V} {l : List Nat} (h : Sees v l H) : (v = .sl (l.map u32)) ∨ ∃ b, v = .ref b 1 0 l.length := by
 rcases h with h | ⟨b, w, h, _⟩
 · exact .inl h
 · exact .inr ⟨b, h⟩

theorem cmpN_neg {x y : Nat} : cmpN x y < 0 ↔ x < y := by unfold cmpN; split <;> (try split) <;> omega
end Go.Abs.W

/- The reference of layer 1: bits, sums, differences. -/
namespace Go.Abs.W

end Go.Abs.W

/- The reference of layer 1: products and shifts. -/
namespace Go.Abs.W

theorem natV_dig_zero {l : List Nat} {i : Nat} (hl : Li l) (h : natV l < 4294967296 ^ i) : dig l i = 0 := by
 have h0 := (natV_take_small hl h).2
 rw [natV_drop] at h0
 omega

end Go.Abs.W

/- The reference of layer 1: quotients, bit by bit. -/
namespace Go.Abs.W

end Go.Abs.W

/- The reference of layer 1: quotients and square roots. -/
namespace Go.Abs.W

structure DmInv (A B : Nat) (o r : List Nat) (la n k : Nat) : Prop where
 lo : o.length = la
 lr : r.length = n
 Lo : Li o
 Lr : Li r
 vr : natV r = A / 2 ^ k % B
 vo : natV o = A / 2 ^ k / B * 2 ^ k

end Go.Abs.W

/- The reference of layer 2: products, and numbers that are made. -/
namespace Go.Abs.W

theorem rtrim_block {H T : Heap} (l : List Nat) : prep prog g_fpref02_trim (H ++ some ⟨1, l.map u32, true, true⟩ :: T) [.ref H.length 1 0 l.length] = some ([lim l], H ++ some ⟨1, l.map u32, true, false⟩ :: T) := by
 refine Eq.trans (b := frzVs _ _) rfl ?_
 simp [frzVs, frzV, frzC_ref, lim, List.take_of_length_le]

set_option maxHeartbeats 4000000 in
theorem times_cq (a b : List Nat) (ha : a.length ≤ 500000) (hb : b.length ≤ 500000) (la : Li a) (lb : Li b) : CQ prog g_fpref02_times [lim a, lim b] (lim (limbsOf (natV a * natV b))) := by
 refine CQ_run rfl fun H => ?_
 obtain ⟨n, hn⟩ : ∃ n, n = a.length + b.length + 1 := ⟨_, rfl⟩
 have f0 : IntKind.i64.wrap ((a.length : Int) + b.length) = (a.length : Int) + b.length := by rw [wrap_i64] <;> omega
 have f1 : IntKind.i64.wrap ((a.length : Int) + b.length + 1) = (n : Int) := by rw [wrap_i64] <;> omega
 have f4 : n * 4 ≤ 281474976710656 ∧ n ≤ 9223372036854775807 := by omega
 simp [lim, f0, f1, f4]
 refine WK_up (fun i E H' => ∃ l, H' = H ++ [some ⟨1, l.map u32, true, true⟩] ∧ l.length = n ∧ Li l ∧ E 0 = lim a ∧ E 1 = lim b ∧ E 5 = .ref H.length 1 0 n ∧ E 6 = .int .i64 i ∧ natV l = natV (a.take i) * natV b) a.length ?_ ?_
 · exact ⟨List.replicate n 0, by rw [zeros_map], by simp, li_zeros, by simp [lim], by simp [lim], by simp, by simp, by simp [natV, natV_zeros]⟩
 · rintro i E H' hi ⟨l, rfl, hl, ll, h0, h1, h5, h6, hv⟩
   rcases Nat.lt_or_ge i a.length with hlt | hge
   · simp only [lim] at h0 h1
     have g1 : IntKind.i64.wrap ((i : Int) + 1) = ((i + 1 : Nat) : Int) := by rw [wrap_i64] <;> omega
     have lx := la _ (List.getElem_mem hlt)
     have hz : dig l (i + b.length) = 0 := by
       refine natV_dig_zero ll ?_
       rw [hv, Nat.pow_add]
       have h8 := natV_lt (la.take i)
       have h9 := natV_lt lb
       rw [List.length_take, Nat.min_eq_left hi] at h8
       rcases Nat.eq_zero_or_pos (natV b) with h | h
       · rw [h, Nat.mul_zero]; exact Nat.mul_pos (Nat.pow_pos (by omega)) (Nat.pow_pos (by omega))
       · exact Nat.mul_lt_mul'' h8 h9
     simp [c_fpref02_times_l2, h0, h1, h5, h6, hlt]
     refine WK_up (fun k E H' => ∃ l2 c, H' = H ++ [some ⟨1, l2.map u32, true, true⟩] ∧ l2.length = n ∧ Li l2 ∧ c < 4294967296 ∧ E 0 = lim a ∧ E 1 = lim b ∧ E 5 = .ref H.length 1 0 n ∧ E 6 = .int .i64 i ∧ E 7 = .int .u64 (c : Nat) ∧ E 8 = .int .i64 k ∧
         l2.drop (i + k) = l.drop (i + k) ∧ natV l2 + 4294967296 ^ (i + k) * c = natV l + 4294967296 ^ i * (a[i] * natV (b.take k))) b.length ?_ ?_
     · exact ⟨l, 0, by simp, hl, ll, by omega, by simp [h0, lim], by simp [h1, lim], by simp [h5], by simp [h6], by simp, by simp, rfl, by simp [natV]⟩
     · clear h0 h1 h5 h6
       rintro k E H' hk ⟨l2, c, rfl, hl2, ll2, hc, h0, h1, h5, h6, h7, h8, hdr, hv2⟩
       simp only [lim] at h0 h1
       have hdk : dig l2 (i + k) = dig l (i + k) := by
         have q1 : dig l2 (i + k) = dig (l2.drop (i + k)) 0 := by simp [dig]
         have q2 : dig l (i + k) = dig (l.drop (i + k)) 0 := by simp [dig]
         rw [q1, q2, hdr]
       obtain ⟨j, hj⟩ : ∃ j, j = i + k := ⟨_, rfl⟩
       rw [← hj] at hdk hdr hv2
       have hjn : j < n := by omega
       have hjl : j < l2.length := by omega
       have dl := dig_lt ll2 j
       have g2 : IntKind.i64.wrap ((i : Int) + k) = (j : Int) := by rw [wrap_i64] <;> omega
       rcases Nat.lt_or_ge k b.length with hlb | hgb
       · have db := dig_lt lb k
         obtain ⟨T, hT⟩ : ∃ T, T = a[i] * dig b k + dig l2 j + c := ⟨_, rfl⟩
         obtain ⟨m1, m2, m3, m4⟩ := mul_fits lx db dl hc
         rw [← hT] at m1 m4
         have e1 : 4294967296 ^ i * (a[i] * natV (b.take k)) + 4294967296 ^ j * (a[i] * dig b k) = 4294967296 ^ i * (a[i] * natV (b.take (k + 1))) := by
           rw [natV_take_succ, hj, Nat.pow_add, Nat.mul_assoc, ← Nat.mul_add, Nat.mul_left_comm (4294967296 ^ k), ← Nat.mul_add]
         have st := row_step hv2 (natV_set (v := T % 4294967296) hjl) hT
         rw [e1] at st
         obtain ⟨M, hM⟩ : ∃ M, M = a[i] * dig b k := ⟨_, rfl⟩
         rw [← hM] at hT m2 m3
         rw [dig_in hjl] at dl hT m3
         rw [dig_in hlb] at db hM
         have t1 : IntKind.u64.wrap (a[i] : Int) = a[i] := wrap_nat_u64 _ (by omega)
         have t2 : IntKind.u64.wrap (b[k] : Int) = b[k] := wrap_nat_u64 _ (by omega)
         have t3 : IntKind.u64.wrap ((a[i] : Int) * b[k]) = M := by
           rw [show (a[i] : Int) * b[k] = ((M : Nat) : Int) by rw [hM]; simp]; exact wrap_nat_u64 _ m2
         have t4 : IntKind.u64.wrap (l2[j] : Int) = l2[j] := wrap_nat_u64 _ (by omega)
         have t5 : IntKind.u64.wrap ((M : Int) + l2[j]) = (M : Int) + l2[j] := by rw [wrap_u64] <;> omega
         have t6 : IntKind.u64.wrap ((M : Int) + l2[j] + c) = T := by rw [wrap_u64] <;> omega
         have t7 : bitsI .and .u64 (T : Int) 4294967295 = some ((T % 4294967296 : Nat) : Int) := bitsI_mask T (by omega)
         have t8 : shiftI .shr .u64 (T : Int) 32 = some (.int .u64 ((T / 4294967296 : Nat) : Int)) := shr64 T 32 (by omega)
         obtain ⟨L, hL⟩ : ∃ L, L = T % 4294967296 := ⟨_, rfl⟩
         obtain ⟨C, hC⟩ : ∃ C, C = T / 4294967296 := ⟨_, rfl⟩
         rw [← hL] at t7 st
         rw [← hC] at t8 st m4
         have t9 : IntKind.u32.wrap (L : Int) = L := wrap_nat_u32 _ (by omega)
         have g3 : IntKind.i64.wrap ((k : Int) + 1) = ((k + 1 : Nat) : Int) := by rw [wrap_i64] <;> omega
         have hset : (l2.set j L).drop (i + (k + 1)) = l.drop (i + (k + 1)) := by
           rw [List.drop_set_of_lt (by omega)]
           have := congrArg (List.drop 1) hdr
           rwa [List.drop_drop, List.drop_drop, hj] at this
         have gof : ∃ l3, H ++ [some ⟨1, (List.map u32 l2).set j (V.int IntKind.u32 L), true, true⟩] = H ++ [some ⟨1, l3.map u32, true, true⟩] ∧ l3.length = n ∧ Li l3 ∧ l3.drop (i + (k + 1)) = l.drop (i + (k + 1)) ∧ natV l3 + 4294967296 ^ (i + (k + 1)) * C = natV l + 4294967296 ^ i * (a[i] * natV (b.take (k + 1))) :=
           ⟨l2.set j L, by rw [mapu_set], by simp [hl2], Li.set ll2 (by omega), hset, by rw [show i + (k + 1) = j + 1 by omega, Nat.pow_succ]; exact st⟩
         obtain ⟨l3, y1, y2, y3, y4, y5⟩ := gof
         simp [u32] at y1
         simp [c_fpref02_times_l0, h0, h1, h5, h6, h7, h8, hlb, hlt, hjn, hjl, u32, t1, t2, t3, t4, t5, t6, t7, t8, t9, g2, g3, lim]
         exact ⟨l3, y1, y2, y3, C, m4, rfl, y4, y5⟩
       · have hkb : k = b.length := by omega
         rw [natV_take_all (l := b) hgb] at hv2
         have hv3 : natV l + 4294967296 ^ i * (a[i] * natV b) = natV (a.take (i + 1)) * natV b := by
           rw [hv, natV_take_succ, dig_in hlt, Nat.add_mul, Nat.mul_assoc]
         rw [hv3] at hv2
         rw [hkb] at hj g2
         have hd0 : dig l2 j = 0 := by rw [hdk, hj, hz]
         simp [c_fpref02_times_l0, h0, h1, h5, h6, h7, h8, hkb, g2, lim]
         refine WK_up (fun t E H' => ∃ l3 c2, H' = H ++ [some ⟨1, l3.map u32, true, true⟩] ∧ l3.length = n ∧ Li l3 ∧ c2 < 4294967296 ∧ (t = 0 → l3 = l2) ∧ (t = 1 → c2 = 0) ∧ E 0 = lim a ∧ E 1 = lim b ∧ E 5 = .ref H.length 1 0 n ∧ E 6 = .int .i64 i ∧ E 7 = .int .u64 (c2 : Nat) ∧ E 10 = .int .i64 ((j + t : Nat) : Int) ∧ natV l3 + 4294967296 ^ (j + t) * c2 = natV (a.take (i + 1)) * natV b) 1 ?_ ?_
         · exact ⟨l2, c, by simp, hl2, ll2, hc, fun _ => rfl, by simp, by simp [h0, lim], by simp [h1, lim], by simp [h5], by simp [h6], by simp [h7], by simp, hv2⟩
         · rintro t E' H' ht ⟨l3, c2, rfl, hl3, ll3, hc2, ht0, ht1, k0, k1, k5, k6, k7, k10, hv4⟩
           simp only [lim] at k0 k1
           by_cases hc0 : c2 = 0
           · subst hc0
             rw [Nat.mul_zero, Nat.add_zero] at hv4
             simp [c_fpref02_times_l1, k0, k1, k5, k6, k7, k10, g1, lim]
             exact ⟨l3, rfl, hl3, ll3, hv4⟩
           · have htz : t = 0 := by
               rcases Nat.lt_or_ge t 1 with h | h
               · omega
               · exact absurd (ht1 (by omega)) hc0
             subst htz
             have hl32 := ht0 rfl
             subst hl32
             rw [Nat.add_zero] at k10 hv4
             rw [dig_in hjl] at hd0 dl
             have hc3 : 0 < c2 := by omega
             have t4 : IntKind.u64.wrap 0 = 0 := rfl
             have t6 : IntKind.u64.wrap (c2 : Int) = c2 := wrap_nat_u64 _ (by omega)
             have t7 : bitsI .and .u64 (c2 : Int) 4294967295 = some ((c2 % 4294967296 : Nat) : Int) := bitsI_mask c2 (by omega)
             rw [Nat.mod_eq_of_lt hc2] at t7
             have t8 : shiftI .shr .u64 (c2 : Int) 32 = some (.int .u64 ((c2 / 4294967296 : Nat) : Int)) := shr64 c2 32 (by omega)
             rw [Nat.div_eq_of_lt hc2] at t8
             have t9 : IntKind.u32.wrap (c2 : Int) = c2 := wrap_nat_u32 _ hc2
             have g3 : IntKind.i64.wrap ((j : Int) + 1) = ((j + 1 : Nat) : Int) := by rw [wrap_i64] <;> omega
             have st : natV (l3.set j c2) + 4294967296 ^ (j + 1) * 0 = natV (a.take (i + 1)) * natV b := by
               have := natV_set (l := l3) (v := c2) hjl
               rw [dig_in hjl, hd0, Nat.mul_zero, Nat.add_zero] at this
               rw [Nat.mul_zero, Nat.add_zero, this]; exact hv4
             simp [c_fpref02_times_l1, k0, k1, k5, k6, k7, k10, hc3, hjn, hjl, hd0, u32, t4, t6, t7, t8, t9, g3, lim]
             exact ⟨l3.set j c2, by simp [u32], by simp [hl3], Li.set ll3 (by omega), 0, by omega, rfl, rfl, st⟩
   · have hin : i = a.length := by omega
     subst hin
     rw [natV_take_all (l := a) (Nat.le_refl _)] at hv
     simp only [lim] at h0
     simp [c_fpref02_times_l2, h0, h5, h6]
     refine WL_callH (args := [.ref H.length 1 0 l.length]) rfl (by simp [hl, h5]) (rtrim_block l) (rtrim_cq l (by omega)) ?_
     rw [trimL_limbsOf ll, hv]
     simp [lim]

end Go.Abs.W

/- The reference of layer 2: sums, differences, products, integers. -/
namespace Go.Abs.W

def Dy.prod (a b : Dy) : Dy := Dy.of (a.neg != b.neg) (natV a.m * natV b.m) (a.e + b.e)

theorem Product_cq (a b : Dy) (ma : a.M) (mb : b.M) : CQ prog g_fpref02_Product [a.v, b.v] (a.prod b).v := by
 refine CQ_run rfl fun H => ?_
 have h1 := ma.len; have h2 := mb.len; have h3 := ma.lo; have h4 := ma.hi; have h5 := mb.lo; have h6 := mb.hi
 have e1 : IntKind.i64.wrap (a.e + b.e) = a.e + b.e := by rw [wrap_i64] <;> omega
 have hl : (limbsOf (natV a.m * natV b.m)).length ≤ 100000 := by
   refine Nat.le_trans ((limbsOf_len (k := a.m.length + b.m.length)).2 ?_) (by omega)
   rw [Nat.pow_add]
   exact Nat.mul_lt_mul'' (natV_lt ma.li) (natV_lt mb.li)
 simp
 refine WL_call rfl rfl rfl (times_cq a.m b.m (by omega) (by omega) ma.li mb.li) ?_
 simp [e1]
 refine WL_call rfl rfl rfl (Of_cq (a.neg != b.neg) (limbsOf (natV a.m * natV b.m)) (a.e + b.e) hl (li_limbsOf _) (by omega) (by omega)) ?_
 rw [natV_limbsOf]
 simp [Dy.prod, lim]

/-- A canonical number is valid if it is in range. -/
theorem Dy.of_valid {neg : Bool} {n : Nat} {e : Int} : (Dy.of neg n e).valid = (Dy.of neg n e).inR := by
 by_cases h : n = 0
 · subst h
   simp only [Dy.of, if_pos]
   rfl
 · have hd : Dy.of neg n e = ⟨neg, limbsOf (n / 2 ^ tz n), e + tz n⟩ := by simp [Dy.of, h]
   rw [hd]
   obtain ⟨h1, _, _⟩ := tz_bit h
   obtain ⟨N, hN⟩ : ∃ N, N = n / 2 ^ tz n := ⟨_, rfl⟩
   rw [← hN] at h1 ⊢
   have hn0 : N ≠ 0 := by omega
   have ht := trim_limbsOf N
   have hv := natV_limbsOf N
   obtain ⟨B, hB⟩ : ∃ B, B = 4096 := ⟨_, rfl⟩
   have hb := limbs_bits (N := N) (B := B) (k := 128)
   cases hl : limbsOf N with
   | nil => exact absurd hl (limbsOf_ne hn0)
   | cons x l =>
     rw [hl] at ht hv hb
     have hx : x % 2 = 1 := by simp only [natV] at hv; omega
     have hlast : (x :: l).getLast (by simp) ≠ 0 := ht _ (List.getLast?_eq_some_getLast (by simp))
     simp only [Dy.valid]
     cases hr : Dy.inR ⟨neg, x :: l, e + tz n⟩ with
     | false => simp
     | true =>
       have hlen : (x :: l).length ≤ 256 := by
         simp only [Dy.inR, Bool.or_eq_true, Bool.and_eq_true, decide_eq_true_eq, beq_iff_eq] at hr
         have h4 : bitL (natV (x :: l)) ≤ B := by
           rcases hr with h | h
           · omega
           · have := h.1.1.1; omega
         rw [hv] at h4
         have := hb (Nat.lt_of_lt_of_le (lt_bitL N) (Nat.pow_le_pow_right (by omega) h4)) (by omega)
         omega
       simp only [Bool.and_true, Bool.and_eq_true, decide_eq_true_eq]
       exact ⟨⟨hlen, hx⟩, hlast⟩

theorem Dy.of_ok {neg : Bool} {n : Nat} {e : Int} (h : (Dy.of neg n e).inR = true) : (Dy.of neg n e).Ok := by
 refine Dy.Ok.of ?_ (by rw [Dy.of_valid]; exact h)
 unfold Dy.of
 split
 · intro x hx; simp at hx
 · exact li_limbsOf _

theorem Checked_cq (d : Dy) (w : d.W) : CQ prog g_fpref02_Checked [d.v] (.tup [(if d.valid then d else Dy.zero).v, .int .i64 (if d.valid then 0 else 9)]) := by
 refine CQ_run rfl fun H => ?_
 simp
 refine WL_call rfl rfl rfl (RValid_cq d w) ?_
 cases h : d.valid <;> simp [h, Dy.zero, lim]

theorem rexponent_cq (e : Int) : CQ prog g_fpref02_exponent [.int .i64 e] (.bool (decide (-32768 ≤ e) && decide (e ≤ 32768))) := by
 refine CQ_run rfl fun H => ?_
 simp
 grind

theorem chk_eq {neg : Bool} {n : Nat} {e : Int} : (if (Dy.of neg n e).valid then Dy.of neg n e else Dy.zero) = (Dy.of neg n e).chk ∧ (if (Dy.of neg n e).valid then (0 : Int) else 9) = (Dy.of neg n e).chkE := by
 rw [Dy.of_valid]; exact ⟨rfl, rfl⟩

theorem RScale_cq (d : Dy) (k : Int) (w : d.W) : CQ prog g_fpref02_Scale [d.v, .int .i64 k] (.tup [(d.scl k).v, .int .i64 (d.sclE k)]) := by
 refine CQ_run rfl fun H => ?_
 simp
 refine WL_call rfl rfl rfl (RValid_cq d w) ?_
 cases hv : d.valid
 · simp [Dy.scl, Dy.sclE, hv, Dy.zero, lim]
 · have ok := Dy.Ok.of w.li hv
   simp
   refine WL_call rfl rfl rfl (rexponent_cq k) ?_
   by_cases hk : -32768 ≤ k ∧ k ≤ 32768
   · have h1 := ok.elo; have h2 := ok.ehi; have h3 := ok.len
     have e1 : IntKind.i64.wrap (d.e + k) = d.e + k := by rw [wrap_i64] <;> omega
     simp [hk, e1]
     refine WL_call rfl rfl rfl (Of_cq d.neg d.m (d.e + k) (by omega) ok.li (by omega) (by omega)) ?_
     have w2 : (Dy.of d.neg (natV d.m) (d.e + k)).W := Dy.of_W (Nat.le_trans (limbsOf_len.2 (natV_lt ok.li)) (by omega))
     simp
     refine WL_call rfl rfl rfl (Checked_cq _ w2) ?_
     rw [chk_eq.1, chk_eq.2]
     simp [Dy.scl, Dy.sclE, hv, hk, lim]
   · have hk2 : (decide (-32768 ≤ k) && decide (k ≤ 32768)) = false := by
       simp; omega
     simp [hk2, Dy.scl, Dy.sclE, hv, hk, Dy.zero, lim]

theorem natV2 (n : Nat) : natV [n % 4294967296, n / 4294967296] = n := by simp [natV]; omega

theorem RInt_cq (n : Int) (h1 : -4611686018427387904 ≤ n) (h2 : n ≤ 4611686018427387904) : CQ prog g_fpref02_Int [.int .i64 n] (Dy.of (decide (n < 0)) n.natAbs 0).v := by
 refine CQ_run rfl fun H => ?_
 obtain ⟨N, hN⟩ : ∃ N, N = n.natAbs := ⟨_, rfl⟩
 have e3 := bitsI_mask N (by omega)
 have e5 : shiftI .shr .u64 (N : Int) 32 = some (.int .u64 ((N / 2 ^ 32 : Nat) : Int)) := shr64 N 32 (by omega)
 have hv := natV2 N
 obtain ⟨L, hL⟩ : ∃ L, L = N % 4294967296 := ⟨_, rfl⟩
 obtain ⟨C, hC⟩ : ∃ C, C = N / 4294967296 := ⟨_, rfl⟩
 rw [← hL] at e3
 rw [show (2 : Nat) ^ 32 = 4294967296 from rfl, ← hC] at e5
 rw [← hL, ← hC] at hv
 have e4 : IntKind.u32.wrap (L : Int) = L := wrap_nat_u32 _ (by omega)
 have e6 : IntKind.u32.wrap (C : Int) = C := wrap_nat_u32 _ (by omega)
 have oc := Of_cq (decide (n < 0)) [L, C] 0 (by simp) (by intro x hx; simp at hx; omega) (by omega) (by omega)
 rw [hv] at oc
 rw [← hN]
 by_cases hn : n < 0
 · have e1 : IntKind.u64.wrap n = 18446744073709551616 + n := by simp only [IntKind.wrap, IntKind.bits, IntKind.signed]; simp; omega
   have e2 : IntKind.u64.wrap (0 - (18446744073709551616 + n)) = (N : Int) := by simp only [IntKind.wrap, IntKind.bits, IntKind.signed]; simp; omega
   have e2' : IntKind.u64.wrap (-(18446744073709551616 + n)) = (N : Int) := by rw [← e2]; congr 1; omega
   simp [hn] at oc ⊢
   simp [e1, e2, e2', e3, e4, e5, e6]
   refine WL_callH rfl rfl (H1 := H ++ [some ⟨3, [.agg [.bool false, .nil, .int .i64 0]], false, true⟩, some ⟨1, [.int .u32 L, .int .u32 C], true, false⟩]) (vs := [.bool true, lim [L, C], .int .i64 0]) (by simp [prep, frzVs, frzV]; rfl) oc ?_
   simp
 · have e1 : IntKind.u64.wrap n = (N : Int) := by rw [wrap_u64] <;> omega
   simp [hn] at oc ⊢
   simp [e1, e3, e4, e5, e6]
   refine WL_callH rfl rfl (H1 := H ++ [some ⟨3, [.agg [.bool false, .nil, .int .i64 0]], false, true⟩, some ⟨1, [.int .u32 L, .int .u32 C], true, false⟩]) (vs := [.bool false, lim [L, C], .int .i64 0]) (by simp [prep, frzVs, frzV]; rfl) oc ?_
   simp

end Go.Abs.W

