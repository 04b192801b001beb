/- Parts of the proof: FpCat, FpSeG, FpSeH. -/
import Derived.Test.YteajloobgibenaaGreatDoorSc
import Derived.Test.YteajloobgibenaaGreatDoorHz
/- slices.Concat on lists of intervals. -/
namespace Go.Abs.W

theorem GrowI_ct (n : Nat) (hn : 0 < n) (hb : n ≤ 1000000000) (H : Heap) (Q : V → Heap → Prop) (hQ : Q (.ref H.length 7 0 0) (H ++ [some ⟨7, [], true, true⟩])) : CT prog g_slices_Grow_Interval [.nil, .int .i64 n] H Q := by
 refine CT_of (f := c_slices_Grow_Interval) rfl (WC_of_WK ?_)
 have e1 : IntKind.i64.wrap (n : Int) = n := by rw [wrap_i64] <;> omega
 have e2 : ¬ ((n : Int) < 0) := by omega
 have e3 : (0 : Int) < n := by omega
 have e4 : n * 88 ≤ 140737488355328 ∧ n ≤ 9223372036854775807 := by omega
 have e0 : IntKind.i64.wrap 0 = 0 := by decide
 simp [e0, e1, e2, e4, hn, fin, ownV, ownC_ref]
 exact ⟨_, _, ⟨rfl, rfl⟩, hQ⟩

theorem Out.appE {H0 H : Heap} {v y : V} {z bytes : Nat} {l ys : List V} (h : Out H0 H v z l) (hy : elems H y = some ys) (hz : headOk z ys = true) (hb : (l.length + ys.length) * bytes ≤ 140737488355328) :
   ∃ v' H', stpAppend z bytes v y H = some (v', H') ∧ Out H0 H' v' z (l ++ ys) := by
 by_cases hn : ys = []
 · subst hn
   refine ⟨v, H, ?_, by simpa using h⟩
   unfold stpAppend
   rw [hy]
   simp only [Option.bind_some, hz, if_true]
   rcases h.val with ⟨h1, h2⟩ | ⟨b, blk, h1, h2, h3, h4, h5⟩
   · subst h2; simp
   · subst h2
     have : appendLimit (l.length + 0) bytes = true := by simp [appendLimit]; simpa using hb
     simp only [List.length_nil, h3, this]
     simp [h5]
 · exact h.app hy hz hn hb

def pre4 (ls : List (List Iv)) (i : Nat) : List Iv := (ls.take i).flatten
theorem pre4_succ {ls : List (List Iv)} {i : Nat} (h : i < ls.length) : pre4 ls (i + 1) = pre4 ls i ++ ls[i] := by
 unfold pre4
 rw [List.take_add_one, List.getElem?_eq_getElem h, Option.toList_some, List.flatten_append, List.flatten_cons, List.flatten_nil, List.append_nil]
theorem pre4_len {ls : List (List Iv)} : ∀ i, (pre4 ls i).length ≤ ls.flatten.length := by
 intro i
 have : ls.flatten = pre4 ls i ++ (ls.drop i).flatten := by
   rw [pre4, ← List.flatten_append, List.take_append_drop]
 have h := congrArg List.length this
 rw [List.length_append] at h
 omega

set_option maxHeartbeats 2000000 in
theorem ConcatI_ev {H : Heap} {q : Nat} (ls : List (List Iv)) (h0 : 0 < ls.flatten.length) (hb : ls.flatten.length ≤ 1000000) (hn : ls.length ≤ 1000000) (hq : H[q]? = some (some ⟨1, ls.map ivs, true, true⟩)) :
   Ev prog (.call g_slices_Concat_Interval [.ref q 1 0 ls.length] H) (.ret (ivs ls.flatten) H) := by
 refine Ev_run rfl ?_
 simp
 refine WK_up (fun i E H' => H' = H ∧ E 0 = .ref q 1 0 ls.length ∧ E 9 = .ref q 1 0 ls.length ∧ E 10 = .int .i64 ls.length ∧ E 11 = .int .i64 i ∧ E 3 = .int .i64 (pre4 ls i).length) ls.length ?_ ?_
 · simp [pre4]
 · rintro i E H' hi ⟨rfl, h0', h9, h10, h11, h3⟩
   rcases Nat.lt_or_ge i ls.length with hlt | hge
   · have c5 : IntKind.i64.wrap ((i : Int) + 1) = (i : Int) + 1 := by rw [wrap_i64] <;> omega
     have hl := pre4_len (ls := ls) (i + 1)
     have hs := congrArg List.length (pre4_succ hlt)
     rw [List.length_append] at hs
     have c1 : IntKind.i64.wrap (((pre4 ls i).length : Int) + (ls[i]).length) = ((pre4 ls (i + 1)).length : Nat) := by rw [wrap_i64] <;> omega
     have c2 : ¬ (((pre4 ls (i + 1)).length : Nat) : Int) < 0 := by omega
     have hg : (ls.map ivs)[i]? = some (ivs ls[i]) := by rw [List.getElem?_map, List.getElem?_eq_getElem hlt]; rfl
     have hi2 : i < (ls.map ivs).length := by simpa using hlt
     generalize hx : ls[i] = x at *
     simp [c_slices_Concat_Interval_l0, hq, h0', h9, h10, h11, h3, hlt, hx, ivs]
     simp [c1, c2, c5]
   · have hin : i = ls.length := by omega
     subst hin
     have e1 : pre4 ls ls.length = ls.flatten := by simp [pre4]
     obtain ⟨N, hN⟩ : ∃ N, N = ls.flatten.length := ⟨_, rfl⟩
     rw [e1, ← hN] at h3
     simp [c_slices_Concat_Interval_l0, h10, h11, h3]
     refine WL_callT rfl rfl rfl (GrowI_ct N (by omega) (by omega) _ _ ?_)
     simp [h0']
     refine WK_up (fun i E H'' => Out H' H'' (E 6) 7 ((pre4 ls i).map Iv.v) ∧ E 25 = .ref q 1 0 ls.length ∧ E 26 = .int .i64 ls.length ∧ E 27 = .int .i64 i) ls.length ?_ ?_
     · simp [pre4]
       exact ⟨List.prefix_append _ _, .inr ⟨H'.length, [], by simp, by simp, by simp, by simp, by simp⟩⟩
     · rintro i E H'' hi ⟨ho, h25, h26, h27⟩
       have hq' := (pre_get ho.pre hq).1
       rcases Nat.lt_or_ge i ls.length with hlt | hge
       · have c5 : IntKind.i64.wrap ((i : Int) + 1) = (i : Int) + 1 := by rw [wrap_i64] <;> omega
         have hs := pre4_succ hlt
         have hl := pre4_len (ls := ls) (i + 1)
         rw [hs, List.length_append] at hl
         generalize hx : ls[i] = x at *
         obtain ⟨v', H3, p1, p2⟩ := ho.appE (y := ivs x) (bytes := 88) (ys := x.map Iv.v) rfl (by cases x <;> rfl) (by simp; omega)
         simp only [ivs] at p1
         simp [c_slices_Concat_Interval_l1, hq', h25, h26, h27, hlt, hx, ivs]
         simp [p1, c5]
         rw [hs]; simpa using p2
       · have hin : i = ls.length := by omega
         subst hin
         simp [c_slices_Concat_Interval_l1, h26, h27]
         have := ho.fin (H1 := H') (List.prefix_refl _)
         rw [this, e1]
         rfl

end Go.Abs.W

/- Larger series have larger results. -/
namespace Go.Abs.W

theorem Iv.Le.whole {x : Iv} : x.Le Iv.whole := .inl rfl
theorem isZ_eq {d : Dy} (h : d.isZ = true) : d = Dy.zero := by
 rcases d with ⟨n, m, e⟩
 simp [Dy.isZ] at h
 simp [Dy.zero, h]
theorem ins_Le {x a : Iv} (wx : x.W) (wa : a.W) (h : x.ins a = true) : x.Le a := by
 simp only [Iv.ins, Bool.and_eq_true, Bool.or_eq_true, Bool.not_eq_true', decide_eq_true_eq] at h
 obtain ⟨⟨hx, ha⟩, h⟩ := h
 rcases h with h | ⟨⟨h1, h2⟩, h3⟩
 · left
   rw [Iv.valid, if_pos h] at ha
   simp only [Bool.and_eq_true] at ha
   rcases a with ⟨l, u, b⟩
   simp only at h ha
   rw [isZ_eq ha.1, isZ_eq ha.2, h]; rfl
 · cases hb : a.all
   · right
     have k1 : x.known = true := by simp [Iv.known, h1, hx]
     have k2 : a.known = true := by simp [Iv.known, hb, ha]
     obtain ⟨o1, o2⟩ := known_ok wx k1
     obtain ⟨o3, o4⟩ := known_ok wa k2
     rw [cmp_ok o3 o1, cmpI_le] at h2
     rw [cmp_ok o2 o4, cmpI_le] at h3
     exact ⟨k1, k2, h2, h3⟩
   · left
     rw [Iv.valid, if_pos hb] at ha
     simp only [Bool.and_eq_true] at ha
     rcases a with ⟨l, u, b⟩
     simp only at hb ha
     rw [isZ_eq ha.1, isZ_eq ha.2, hb]; rfl
theorem Le_ins {x a : Iv} (wx : x.W) (wa : a.W) (hv : x.valid = true) (h : x.Le a) : x.ins a = true := by
 rcases h with rfl | ⟨k1, k2, h1, h2⟩
 · exact ins_whole hv
 · exact ins_of wx wa k1 k2 h1 h2
/-- Contained, coefficient by coefficient. -/
def LeL (a x : List Iv) : Prop := a.length = x.length ∧ ∀ i, (at0 a i).Le (at0 x i)
def InL (a x : List Iv) : Prop := a.length = x.length ∧ ∀ i, i < a.length → (at0 a i).ins (at0 x i) = true
theorem at0_ge {a : List Iv} {i : Nat} (h : a.length ≤ i) : at0 a i = Iv.whole := by simp [at0, List.getElem?_eq_none h]
theorem InL.le {a x : List Iv} (wa : ∀ y ∈ a, y.W) (wx : ∀ y ∈ x, y.W) (h : InL a x) : LeL a x := by
 refine ⟨h.1, fun i => ?_⟩
 rcases Nat.lt_or_ge i a.length with h1 | h1
 · exact ins_Le (at0_W wa) (at0_W wx) (h.2 i h1)
 · rw [at0_ge (a := x) (by have := h.1; omega)]; exact .inl rfl
theorem InL.allB {a x : List Iv} (h : InL a x) : (decide (a.length = x.length) && Go.Abs.W.allB Iv.ins a x) = true := by
 simp only [Bool.and_eq_true, decide_eq_true_eq]
 refine ⟨h.1, ?_⟩
 rw [allB_iff]
 intro i u v hu hv
 have hi := (List.getElem?_eq_some_iff.1 hu).1
 have := h.2 i hi
 simp only [at0, hu, hv, Option.getD_some] at this
 exact this

theorem sumI_Le {p : Int} {f g : Nat → Iv} (wf : ∀ i, (f i).W) (wg : ∀ i, (g i).W) (h : ∀ i, (f i).ins (g i) = true) : ∀ n, (sumI p f n).ins (sumI p g n) = true
 | 0 => h 0
 | n + 1 => add_iso (sumI_W (wf 0) n) (wf _) (sumI_W (wg 0) n) (wg _) (ins_Le (sumI_W (wf 0) n) (sumI_W (wg 0) n) (sumI_Le wf wg h n)) (ins_Le (wf _) (wg _) (h _))
theorem lessI_Le {p : Int} {s t : Iv} {f g : Nat → Iv} (ws : s.W) (wt : t.W) (hs : s.Le t) (wf : ∀ i, (f i).W) (wg : ∀ i, (g i).W) (h : ∀ i, (f i).Le (g i)) : ∀ n, (lessI s p f n).Le (lessI t p g n)
 | 0 => hs
 | n + 1 => ins_Le add_W add_W (add_iso (lessI_W ws n) (neg_W (wf _)) (lessI_W wt n) (neg_W (wg _)) (lessI_Le ws wt hs wf wg h n) (neg_Le (wf _) (wg _) (h _)))

theorem bld_In {f g : List Iv → Nat → Iv} (wf : ∀ o k, (f o k).W) (wg : ∀ o k, (g o k).W) {n : Nat} (h : ∀ o o' k, k < n → (∀ y ∈ o, y.W) → (∀ y ∈ o', y.W) → LeL o o' → (f o k).ins (g o' k) = true) : InL (bld f n) (bld g n) := by
 induction n with
 | zero => exact ⟨rfl, fun i hi => by simp at hi⟩
 | succ n ih =>
   have hn := ih fun o o' k hk => h o o' k (by omega)
   refine ⟨by simp, fun i hi => ?_⟩
   simp at hi
   rcases Nat.lt_or_ge i n with h1 | h1
   · have := hn.2 i (by simpa using h1)
     rw [at0_bld (by omega), at0_bld (by omega)] at this ⊢
     exact this
   · have : i = n := by omega
     subst this
     rw [at0_bld (by omega), at0_bld (by omega)]
     exact h _ _ _ (by omega) (bld_W fun _ _ _ => wf _ _) (bld_W fun _ _ _ => wg _ _) (hn.le (bld_W fun _ _ _ => wf _ _) (bld_W fun _ _ _ => wg _ _))

variable {a b x y : List Iv} {p : Int}

theorem mulC_In (wa : ∀ z ∈ a, z.W) (wb : ∀ z ∈ b, z.W) (wx : ∀ z ∈ x, z.W) (wy : ∀ z ∈ y, z.W) (ha : LeL a x) (hb : LeL b y) {k : Nat} : (mulC a b p k).ins (mulC x y p k) = true :=
 sumI_Le (fun _ => mul_W) (fun _ => mul_W) (fun i => mul_iso (at0_W wa) (at0_W wb) (at0_W wx) (at0_W wy) (ha.2 i) (hb.2 (k - i))) k
theorem mulS_In (wa : ∀ z ∈ a, z.W) (wb : ∀ z ∈ b, z.W) (wx : ∀ z ∈ x, z.W) (wy : ∀ z ∈ y, z.W) (ha : LeL a x) (hb : LeL b y) : InL (mulS a b p) (mulS x y p) := by
 unfold mulS
 rw [← ha.1]
 exact bld_In (fun _ _ => mulC_W) (fun _ _ => mulC_W) fun _ _ _ _ _ _ _ => mulC_In wa wb wx wy ha hb
theorem divL_In (wa : ∀ z ∈ a, z.W) (wb : ∀ z ∈ b, z.W) (wx : ∀ z ∈ x, z.W) (wy : ∀ z ∈ y, z.W) (ha : LeL a x) (hb : LeL b y) : InL (divL a b p) (divL x y p) := by
 unfold divL
 rw [← ha.1]
 refine bld_In (fun _ _ => divC_W) (fun _ _ => divC_W) fun o o' k _ wo wo' ho => ?_
 unfold divC
 exact div_iso (lessI_W (at0_W wa) _) (at0_W wb) (lessI_W (at0_W wx) _) (at0_W wy)
   (lessI_Le (at0_W wa) (at0_W wx) (ha.2 k) (fun _ => mul_W) (fun _ => mul_W) (fun i => ins_Le mul_W mul_W (mul_iso (at0_W wo) (at0_W wb) (at0_W wo') (at0_W wy) (ho.2 i) (hb.2 (k - i)))) k) (hb.2 0)
theorem scl1_spec {d : Dy} (ok : d.Ok) : ∃ K : Nat, K = 32767 ∧ (d.sclE 1 = 0 ↔ d.absN < 2 ^ K) ∧ (d.sclE 1 = 0 → (d.scl 1).val = 2 * d.val) := by
 refine ⟨_, rfl, ?_⟩
 obtain ⟨K, hK⟩ : ∃ K : Nat, K = 32767 := ⟨_, rfl⟩
 rw [← hK]
 have e1 := ok.elo
 have hv : (Dy.of d.neg (natV d.m) (d.e + 1)).val = 2 * d.val := by
   rw [of_val (by omega)]
   unfold Dy.val Dy.absN
   rw [show (d.e + 1 + 16384).toNat = (d.e + 16384).toNat + 1 by omega, Nat.pow_succ, ← Nat.mul_assoc]
   split <;> omega
 have key : (Dy.of d.neg (natV d.m) (d.e + 1)).inR = true ↔ d.absN < 2 ^ K := by
   by_cases hm : d.m = []
   · have h0 : d.absN = 0 := Dy.absN_nil hm
     have hp := Nat.two_pow_pos K
     rw [h0, hm]
     simp [hp, natV, Dy.of, Dy.inR, bitL]
   · obtain ⟨b1, b2⟩ := ok.absN_bounds hm
     have ht := ok.top_pos hm
     have htop : d.top = bitL (natV d.m) + d.e := by unfold Dy.top; rw [if_neg hm]
     constructor
     · intro h
       have : d.top + 1 ≤ 16384 := by
         have hn := natV_ne ok.tr hm
         have hb := bitL_tz hn
         have hn2 : natV d.m / 2 ^ tz (natV d.m) ≠ 0 := by have := (tz_bit hn).1; omega
         have hp := (bitL_pow hn2).2.2
         unfold Dy.of at h
         rw [if_neg hn] at h
         unfold Dy.inR at h
         simp only [natV_limbsOf] at h
         generalize bitL (natV d.m / 2 ^ tz (natV d.m)) = B at *
         simp only [Bool.or_eq_true, Bool.and_eq_true, decide_eq_true_eq, beq_iff_eq] at h
         omega
       exact Nat.lt_of_lt_of_le b2 (Nat.pow_le_pow_right (by omega) (by omega))
     · intro h
       have h2 : (d.top + 16383).toNat < K := (Nat.pow_lt_pow_iff_right (by omega)).1 (Nat.lt_of_le_of_lt b1 h)
       exact Dy.of_inR ok.bits (by omega) (by omega)
 have hval := ok.valid
 constructor
 · rw [← key]
   unfold Dy.sclE
   rw [if_pos ⟨hval, by omega, by omega⟩]
   unfold Dy.chkE
   split <;> simp [*]
 · intro h
   have hin : (Dy.of d.neg (natV d.m) (d.e + 1)).inR = true := by
     unfold Dy.sclE at h
     rw [if_pos ⟨hval, by omega, by omega⟩] at h
     unfold Dy.chkE at h
     split at h
     · assumption
     · cases h
   unfold Dy.scl
   rw [if_pos ⟨hval, by omega, by omega⟩]
   unfold Dy.chk
   rw [if_pos hin, hv]

theorem absN_val {d : Dy} : (d.absN : Int) = d.val.natAbs := by
 unfold Dy.val; split <;> omega
theorem scl_Le {u v : Iv} (wu : u.W) (wv : v.W) (h : u.Le v) : (u.scl 1).Le (v.scl 1) := by
 rcases h with rfl | ⟨k1, k2, h1, h2⟩
 · exact .inl rfl
 · obtain ⟨o1, o2⟩ := known_ok wu k1
   obtain ⟨o3, o4⟩ := known_ok wv k2
   have q1 := known_le wu k1
   have q2 := known_le wv k2
   unfold Iv.scl
   rw [if_pos k1, if_pos k2]
   by_cases hE : v.lo.sclE 1 = 0 ∧ v.hi.sclE 1 = 0
   · obtain ⟨K, hK, a1, a2⟩ := scl1_spec o1
     obtain ⟨K2, hK2, b1, b2⟩ := scl1_spec o2
     obtain ⟨K3, hK3, c1, c2⟩ := scl1_spec o3
     obtain ⟨K4, hK4, d1, d2⟩ := scl1_spec o4
     obtain rfl : K2 = K := by omega
     obtain rfl : K3 = K2 := by omega
     obtain rfl : K4 = K3 := by omega
     clear hK hK2 hK3 hK4
     have i1 := c1.1 hE.1
     have i2 := d1.1 hE.2
     have n1 := absN_val (d := u.lo)
     have n2 := absN_val (d := u.hi)
     have n3 := absN_val (d := v.lo)
     have n4 := absN_val (d := v.hi)
     generalize 2 ^ K4 = B at *
     have j1 := a1.2 (by omega)
     have j2 := b1.2 (by omega)
     have r1 := a2 j1
     have r2 := b2 j2
     have r3 := c2 hE.1
     have r4 := d2 hE.2
     unfold Iv.made
     rw [if_pos ⟨j1, j2⟩, if_pos hE]
     exact .inr ⟨known_mk scl_ok scl_ok (by show (u.lo.scl 1).val ≤ (u.hi.scl 1).val; omega), known_mk scl_ok scl_ok (by show (v.lo.scl 1).val ≤ (v.hi.scl 1).val; omega), by show (v.lo.scl 1).val ≤ (u.lo.scl 1).val; omega, by show (u.hi.scl 1).val ≤ (v.hi.scl 1).val; omega⟩
   · left
     unfold Iv.made
     rw [if_neg hE]
theorem sqrtL_In (wa : ∀ z ∈ a, z.W) (wx : ∀ z ∈ x, z.W) (ha : LeL a x) : InL (sqrtL a p) (sqrtL x p) := by
 unfold sqrtL
 rw [← ha.1]
 refine bld_In (fun _ _ => sqrtC_W) (fun _ _ => sqrtC_W) fun o o' k _ wo wo' ho => ?_
 cases k with
 | zero => exact sqrt_iso (at0_W wa) (at0_W wx) (ha.2 0)
 | succ k =>
   simp only [sqrtC]
   exact div_iso (lessI_W (at0_W wa) _) Iv.scl_W' (lessI_W (at0_W wx) _) Iv.scl_W'
     (lessI_Le (at0_W wa) (at0_W wx) (ha.2 _) (fun _ => mul_W) (fun _ => mul_W) (fun i => ins_Le mul_W mul_W (mul_iso (at0_W wo) (at0_W wo) (at0_W wo') (at0_W wo') (ho.2 _) (ho.2 _))) k) (scl_Le (at0_W wo) (at0_W wo') (ho.2 0))

theorem zip_In {F : Iv → Iv → Iv} (wF : ∀ u v, (F u v).W) (h : ∀ i, (F (at0 a i) (at0 b i)).ins (F (at0 x i) (at0 y i)) = true) (hab : areB [a, b] = true) (hxy : areB [x, y] = true) (hl : a.length = x.length) : InL (zipI F a b) (zipI F x y) := by
 unfold zipI
 rw [if_pos hab, if_pos hxy, ← hl]
 exact bld_In (fun _ _ => wF _ _) (fun _ _ => wF _ _) fun _ _ _ _ _ _ _ => h _

theorem pwI_In (wa : ∀ z ∈ a, z.W) (wx : ∀ z ∈ x, z.W) (ha : InL a x) : ∀ k, InL (pwI a p k) (pwI x p k)
 | 0 => ha
 | k + 1 => mulS_In (pwI_W wa k) wa (pwI_W wx k) wx ((pwI_In wa wx ha k).le (pwI_W wa k) (pwI_W wx k)) (ha.le wa wx)
theorem at0_set {l : List Iv} {u : Iv} {i : Nat} (h : i < l.length) : at0 (l.set 0 u) i = if i = 0 then u else at0 l i := by
 unfold at0
 rw [List.getElem?_set]
 split
 · rename_i e; subst e; rw [if_pos rfl, if_pos h]; rfl
 · rename_i e; rw [if_neg (fun h => e h.symm)]
theorem powS_In (wa : ∀ z ∈ a, z.W) (wx : ∀ z ∈ x, z.W) (ha : InL a x) {n : Int} : InL (powS a n p) (powS x n p) := by
 have le := ha.le wa wx
 unfold powS
 split
 · rw [← ha.1]
   exact bld_In (fun _ _ => Iv.whole_W) (fun _ _ => Iv.whole_W) fun _ _ _ _ _ _ _ => rfl
 · have key : InL (if n = 0 then zerL a p else pwI a p (n.toNat - 1)) (if n = 0 then zerL x p else pwI x p (n.toNat - 1)) := by
     split
     · unfold zerL
       rw [← ha.1]
       exact bld_In (fun _ _ => mul_W) (fun _ _ => mul_W) fun _ _ _ _ _ _ _ => mul_iso nI0_W (at0_W wa) nI0_W (at0_W wx) (ins_Le nI0_W nI0_W (by decide +kernel)) (le.2 _)
     · exact pwI_In wa wx ha _
   refine ⟨by simpa using key.1, fun i hi => ?_⟩
   rw [List.length_set] at hi
   rw [at0_set hi, at0_set (by rw [← key.1]; exact hi)]
   split
   · exact pow_iso (at0_W wa) (at0_W wx) (le.2 0)
   · exact key.2 i hi

end Go.Abs.W

/- The law SeriesIsotone. -/
namespace Go.Abs.W

@[simp] theorem pureIn_fn {H : Heap} {g : Nat} : pureIn H (.fn g []) = some (.fn g [], H) := rfl
@[simp] theorem nilfn_cells : V.nilfn.cells = [.nilfn] := rfl
@[simp] theorem nilfn_pure : V.nilfn.cellPure = true := rfl

theorem all21_cq (a b : List Iv) (wa : SW a) (wb : SW b) : CQ prog g_fplaw21_all [ivs a, ivs b] (.bool (decide (a.length = b.length) && allB Iv.ins a b)) := by
 refine CQ_run rfl fun H => ?_
 simp
 refine WL_ev rfl rfl rfl (EqualIv_ev (p := Iv.ins) a b (by have := wa.1; omega) fun x hx y hy => Cb_of (fun _ => rfl) (IInside_cq x y (wa.2 x hx) (wb.2 y hy))) ?_
 simp
theorem all21_t {a b : List Iv} (wa : SW a) (wb : SW b) (h : InL a b) : CQ prog g_fplaw21_all [ivs a, ivs b] (.bool true) := by
 have := all21_cq a b wa wb
 rwa [h.allB] at this
theorem iso1_cq (x : Iv) (w : x.W) : CQ prog g_fplaw21_SeriesIsotone_1 [x.v] (.bool !x.valid) := by
 refine CQ_run rfl fun H => ?_
 simp
 refine WL_call rfl rfl rfl (IValid_cq x w) ?_
 simp

def hulS (x y : List Iv) : List Iv := bld (fun _ k => (at0 x k).hull (at0 y k)) x.length
theorem iso2_cq (x y : List Iv) (wx : SW x) (wy : SW y) (hl : x.length = y.length) : CQ prog g_fplaw21_SeriesIsotone_2 [ivs x, ivs y] (ivs (hulS x y)) := by
 refine CQ_run rfl fun H => ?_
 have la := wx.1
 simp [ivs]
 refine WK_up (fun i E H' => E 0 = ivs x ∧ E 1 = ivs y ∧ E 8 = .int .i64 x.length ∧ E 9 = .int .i64 i ∧ Out H H' (E 5) 7 ((bld (fun _ k => (at0 x k).hull (at0 y k)) i).map Iv.v)) x.length ?_ ?_
 · simp [ivs, bld]
   exact .nil
 · rintro i E H' hi ⟨e0, e1, e8, e9, ho⟩
   simp only [ivs] at e0 e1
   rcases Nat.lt_or_ge i x.length with hlt | hge
   · have hlb : i < y.length := by omega
     have g1 : IntKind.i64.wrap ((i : Int) + 1) = (i : Int) + 1 := by rw [wrap_i64] <;> omega
     simp [c_fplaw21_SeriesIsotone_2_l0, e0, e1, e8, e9, hlt, hlb]
     refine WL_call rfl rfl rfl (iHull_cq x[i] y[i] (wx.2 _ (List.getElem_mem hlt)) (wy.2 _ (List.getElem_mem hlb))) ?_
     obtain ⟨v', H'', e', ho'⟩ := ho.oneIv (x[i].hull y[i]) (by simp; omega)
     simp only [Iv.v] at e'
     simp [e0, e1, e8, e9, e', g1, ivs]
     simpa [bld, at0_lt hlt, at0_lt hlb] using ho'
   · have hin : i = x.length := by omega
     subst hin
     simp [c_fplaw21_SeriesIsotone_2_l0, e8, e9]
     have := ho.fin (H1 := H) (List.prefix_refl _)
     rw [this]
     rfl
theorem hulS_W {x y : List Iv} (wx : SW x) (wy : SW y) : SW (hulS x y) := ⟨by unfold hulS; rw [bld_len]; exact wx.1, bld_W fun _ _ _ => (at0_W wx.2).hull (at0_W wy.2)⟩
theorem at0_valid {x : List Iv} (h : ∀ z ∈ x, z.valid = true) {i : Nat} : (at0 x i).valid = true := by
 unfold at0
 cases hx : x[i]? with
 | none => rfl
 | some z => exact h z (List.mem_of_getElem? hx)
theorem hulS_In {x y : List Iv} (wx : SW x) (wy : SW y) (hx : ∀ z ∈ x, z.valid = true) (hy : ∀ z ∈ y, z.valid = true) : InL x (hulS x y) := by
 refine ⟨by unfold hulS; rw [bld_len], fun i hi => ?_⟩
 unfold hulS
 rw [at0_bld hi]
 have w1 := at0_W wx.2 (k := i)
 have w2 := at0_W wy.2 (k := i)
 exact Le_ins w1 (w1.hull w2) (at0_valid hx) (hull_Le w1 w2 (at0_valid hx) (at0_valid hy))

/-- What the law says of a function of two series. -/
theorem iso_pair {F : Iv → Iv → Iv} {a b x y : List Iv} (wF : ∀ u v, (F u v).W) (h : ∀ i, (F (at0 a i) (at0 b i)).ins (F (at0 x i) (at0 y i)) = true) (hab : areB [a, b] = true) (hxy : areB [x, y] = true) (hl : a.length = x.length) (la : a.length ≤ 1000000) :
   CQ prog g_fplaw21_all [ivs (zipI F a b), ivs (zipI F x y)] (.bool true) := by
 have l1 : (zipI F a b).length = a.length := by unfold zipI; rw [if_pos hab, bld_len]
 have l2 : (zipI F x y).length = x.length := by unfold zipI; rw [if_pos hxy, bld_len]
 exact all21_t ⟨by omega, zipI_W fun _ _ _ _ => wF _ _⟩ ⟨by omega, zipI_W fun _ _ _ _ => wF _ _⟩ (zip_In wF h hab hxy hl)

theorem sqrtL_W {a : List Iv} {p : Int} (w : a.length ≤ 1000000) : SW (sqrtL a p) := ⟨by unfold sqrtL; rw [bld_len]; exact w, bld_W fun _ _ _ => sqrtC_W⟩

set_option maxHeartbeats 1000000 in
theorem isoS_cq (a b u v : List Iv) (n p : Int) (la : LL a) (lb : LL b) (lu : LL u) (lv : LL v) : CQ prog g_fplaw21_SeriesIsotone [ivs a, ivs b, ivs u, ivs v, .int .i64 n, .int .i64 p] (.bool true) := by
 refine CQ_run rfl fun H => ?_
 have g := gr21_cq p [a, b, u, v] (by simp) (by simp; exact ⟨la.len, lb.len, lu.len, lv.len⟩)
 simp
 refine WL_call rfl rfl rfl awake21_cq ?_
 simp
 refine WL_callH (vs := [.int .i64 p, ivss [a, b, u, v]]) rfl rfl (by simp [prep, frzVs, frzV, ivs, ivss]; rfl) g ?_
 cases hg : gr21 p [a, b, u, v]
 · obtain ⟨hl, wa⟩ := gr21_false hg (by simp) la
   obtain ⟨hlb, wb⟩ := gr21_false hg (by simp) lb
   obtain ⟨hlu, wu⟩ := gr21_false hg (by simp) lu
   obtain ⟨hlv, wv⟩ := gr21_false hg (by simp) lv
   simp
   refine WL_call rfl rfl rfl (pair_cq a b) ?_
   cases hab : areB [a, b]
   · simp
   simp
   refine WL_call rfl rfl rfl (pair_cq u v) ?_
   cases huv : areB [u, v]
   · simp
   obtain ⟨a1, a2, a3⟩ := are2.1 hab
   obtain ⟨u1, u2, u3⟩ := are2.1 huv
   by_cases hau : a.length = u.length
   case neg =>
     have : ¬ (a.length : Int) = u.length := by omega
     simp [ivs, this]
   simp [ivs, hau]
   have cc := ConcatI_ev (H := H ++ [some ⟨1, [ivs a, ivs b, ivs u, ivs v], true, false⟩, some ⟨1, [ivs a, ivs b, ivs u, ivs v], true, true⟩]) (q := H.length + 1) [a, b, u, v] (by simp; omega) (by simp; omega) (by simp) (by simp)
   obtain ⟨L, hL⟩ : ∃ L, L = [a, b, u, v].flatten := ⟨_, rfl⟩
   have hmem : ∀ x, x ∈ L ↔ x ∈ a ∨ x ∈ b ∨ x ∈ u ∨ x ∈ v := by intro x; rw [hL]; simp
   have hlen : L.length ≤ 1000000 := by rw [hL]; simp; omega
   rw [← hL] at cc
   refine WL_ev rfl rfl rfl cc ?_
   simp
   have wcat : ∀ x ∈ L, x.W := by
     intro x hx
     rcases (hmem x).1 hx with h | h | h | h
     · exact wa.2 x h
     · exact wb.2 x h
     · exact wu.2 x h
     · exact wv.2 x h
   refine WL_ev rfl rfl rfl (ContainsIv_ev (p := fun x => !x.valid) L (by omega) fun x hx => Cb_of (fun _ => rfl) (iso1_cq x (wcat x hx))) ?_
   cases hv : (L.any fun x => !x.valid)
   case true => simp
   have vall : ∀ x ∈ L, x.valid = true := by
     intro x hx
     have := List.any_eq_false.1 hv x hx
     simpa using this
   have va : ∀ x ∈ a, x.valid = true := fun x hx => vall x ((hmem x).2 (.inl hx))
   have vb : ∀ x ∈ b, x.valid = true := fun x hx => vall x ((hmem x).2 (.inr (.inl hx)))
   have vu : ∀ x ∈ u, x.valid = true := fun x hx => vall x ((hmem x).2 (.inr (.inr (.inl hx))))
   have vv : ∀ x ∈ v, x.valid = true := fun x hx => vall x ((hmem x).2 (.inr (.inr (.inr hx))))
   have ix := iso2_cq a u wa wu hau
   have iy := iso2_cq b v wb wv (by omega)
   have inx := hulS_In wa wu va vu
   have iny := hulS_In wb wv vb vv
   have wx := hulS_W wa wu
   have wy := hulS_W wb wv
   have lx : (hulS a u).length = a.length := by unfold hulS; rw [bld_len]
   have ly : (hulS b v).length = b.length := by unfold hulS; rw [bld_len]
   generalize hulS a u = x at *
   generalize hulS b v = y at *
   have hxy : areB [x, y] = true := are2.2 (by omega)
   have hA : areB [a] = true := are1.2 ⟨a1, a2⟩
   have hX : areB [x] = true := are1.2 (by omega)
   have lex := inx.le wa.2 wx.2
   have ley := iny.le wb.2 wy.2
   simp
   refine WL_call rfl rfl rfl ix ?_
   simp
   refine WL_call rfl rfl rfl iy ?_
   simp
   have cA := iso_pair (F := fun u v => u.add v p) (fun _ _ => add_W) (fun i => add_iso (at0_W wa.2) (at0_W wb.2) (at0_W wx.2) (at0_W wy.2) (lex.2 i) (ley.2 i)) hab hxy lx.symm wa.1
   have cS := iso_pair (F := fun u v => u.add v.neg p) (fun _ _ => add_W) (fun i => add_iso (at0_W wa.2) (neg_W (at0_W wb.2)) (at0_W wx.2) (neg_W (at0_W wy.2)) (lex.2 i) (neg_Le (at0_W wb.2) (at0_W wy.2) (ley.2 i))) hab hxy lx.symm wa.1
   have cM := all21_t (mulL_SW (p := p) (b := b) wa.1) (mulL_SW (p := p) (b := y) wx.1) (mulS_In wa.2 wb.2 wx.2 wy.2 lex ley)
   have cD := all21_t (divL_W (p := p) (b := b) wa.1) (divL_W (p := p) (b := y) wx.1) (divL_In wa.2 wb.2 wx.2 wy.2 lex ley)
   have cP := all21_t (powS_W (n := n) (p := p) wa) (powS_W (n := n) (p := p) wx) (powS_In wa.2 wx.2 inx)
   have cQ := all21_t (sqrtL_W (p := p) wa.1) (sqrtL_W (p := p) wx.1) (sqrtL_In wa.2 wx.2 lex)
   have A1 := SAdd_cq a b p wa wb
   have A2 := SAdd_cq x y p wx wy
   have B1 := SSub_cq a b p wa wb
   have B2 := SSub_cq x y p wx wy
   have M1 := SMul_ev a b p wa wb
   have M2 := SMul_ev x y p wx wy
   have D1 := SDiv_cq a b p wa wb
   have D2 := SDiv_cq x y p wx wy
   have P1 := SPow_cq a n p wa
   have P2 := SPow_cq x n p wx
   have Q1 := SSqrt_cq a p wa
   have Q2 := SSqrt_cq x p wx
   have lM1 : (mulS a b p).length = a.length := mulL_len
   have lM2 : (mulS x y p).length = x.length := mulL_len
   simp only [hab, hxy, hA, hX, if_true] at M1 M2 D1 D2 P1 P2 Q1 Q2
   generalize zipI (fun u v => u.add v p) a b = a1' at *
   generalize zipI (fun u v => u.add v p) x y = a2' at *
   generalize zipI (fun u v => u.add v.neg p) a b = b1' at *
   generalize zipI (fun u v => u.add v.neg p) x y = b2' at *
   generalize mulS a b p = m1 at *
   generalize mulS x y p = m2 at *
   generalize divL a b p = d1 at *
   generalize divL x y p = d2 at *
   generalize powS a n p = p1 at *
   generalize powS x n p = p2 at *
   generalize sqrtL a p = q1 at *
   generalize sqrtL x p = q2 at *
   have tM1 : List.take a.length (List.map Iv.v m1) = List.map Iv.v m1 := List.take_of_length_le (by simp [lM1])
   have tM2 : List.take x.length (List.map Iv.v m2) = List.map Iv.v m2 := List.take_of_length_le (by simp [lM2])
   refine WK_up (fun i E H' => E 0 = ivs a ∧ E 1 = ivs b ∧ E 4 = .int .i64 n ∧ E 5 = .int .i64 p ∧ E 14 = ivs x ∧ E 15 = ivs y ∧ E 63 = .ref (H.length + 2) 1 0 4 ∧ E 64 = .int .i64 4 ∧ E 65 = .int .i64 i ∧ H <+: H' ∧ H'[H.length + 2]? = some (some ⟨1, [.fn 294 [], .fn 295 [], .fn 302 [], .fn 303 []], true, true⟩)) 4 ?_ ?_
   · simp [ivs]
   · rintro i E H' hi ⟨e0, e1, e4, e5, e14, e15, e63, e64, e65, hp, hq⟩
     have hp2 := fun G : Heap => take_pre (hp.trans (List.prefix_append H' G))
     obtain rfl | rfl | rfl | rfl | rfl : i = 0 ∨ i = 1 ∨ i = 2 ∨ i = 3 ∨ i = 4 := by omega
     · simp [c_fplaw21_SeriesIsotone_l0, e0, e1, e5, e63, e64, e65, hq]
       refine WL_call rfl rfl rfl A1 ?_
       simp [e5, e14, e15]
       refine WL_call rfl rfl rfl A2 ?_
       simp
       refine WL_call rfl rfl rfl cA ?_
       have w : IntKind.i64.wrap 1 = 1 := by decide
       simp [e0, e1, e4, e5, e14, e15, e63, e64, e65, hq, hp, w, ivs]
     · simp [c_fplaw21_SeriesIsotone_l0, e0, e1, e5, e63, e64, e65, hq]
       refine WL_call rfl rfl rfl B1 ?_
       simp [e5, e14, e15]
       refine WL_call rfl rfl rfl B2 ?_
       simp
       refine WL_call rfl rfl rfl cS ?_
       have w : IntKind.i64.wrap 2 = 2 := by decide
       simp [e0, e1, e4, e5, e14, e15, e63, e64, e65, hq, hp, w, ivs]
     · simp [c_fplaw21_SeriesIsotone_l0, e0, e1, e5, e63, e64, e65, hq]
       refine WL_callT rfl rfl rfl ⟨_, _, M1 _, ?_⟩
       simp [e5, e14, e15]
       refine WL_callT rfl rfl rfl ⟨_, _, M2 _, ?_⟩
       simp
       refine WL_callH (vs := [ivs m1, ivs m2]) rfl rfl (by simp [prep, frzVs, frzV, ivs, tM1, tM2, lM1, lM2]; rfl) cM ?_
       have w : IntKind.i64.wrap 3 = 3 := by decide
       have hb := (List.getElem?_eq_some_iff.1 hq).1
       simp [e0, e1, e4, e5, e14, e15, e63, e64, e65, w, ivs]
       exact ⟨hp.trans (List.prefix_append _ _), by rw [List.getElem?_append_left hb]; exact hq⟩
     · simp [c_fplaw21_SeriesIsotone_l0, e0, e1, e5, e63, e64, e65, hq]
       refine WL_call rfl rfl rfl D1 ?_
       simp [e5, e14, e15]
       refine WL_call rfl rfl rfl D2 ?_
       simp
       refine WL_call rfl rfl rfl cD ?_
       have w : IntKind.i64.wrap 4 = 4 := by decide
       simp [e0, e1, e4, e5, e14, e15, e63, e64, e65, hq, hp, w, ivs]
     · simp [c_fplaw21_SeriesIsotone_l0, e0, e4, e5, e64, e65]
       refine WL_call rfl rfl rfl P1 ?_
       simp [e4, e5, e14]
       refine WL_call rfl rfl rfl P2 ?_
       simp
       refine WL_call rfl rfl rfl cP ?_
       simp [e0, e5]
       refine WL_call rfl rfl rfl Q1 ?_
       simp [e5, e14]
       refine WL_call rfl rfl rfl Q2 ?_
       simp
       refine WL_call rfl rfl rfl cQ ?_
       simp [take_pre hp]
 · simp

end Go.Abs.W

