/- Parts of the proof: FpSeK, FpSeL, FpSeM. -/
import Derived.Test.YteajloobgibenaaGreatDoorSc
/- Lists that are read and written afterwards: equality that freezes nothing; slices.Repeat. -/
namespace Go.Abs.W

/-- A list, or a block of one's own that holds it. -/
def SeesI (H : Heap) (v : V) (l : List Iv) : Prop := v = ivs l ∨ ∃ b, v = .ref b 7 0 l.length ∧ H[b]? = some (some ⟨7, l.map Iv.v, true, true⟩)

set_option maxHeartbeats 4000000 in
theorem EqualR_ev {H : Heap} {g : Nat} {caps : List V} {p : Iv → Iv → Bool} {v w : V} (l m : List Iv) (sv : SeesI H v l) (sw : SeesI H w m) (hl : l.length ≤ 9223372036854775807) (h : ∀ x ∈ l, ∀ y ∈ m, Cb H g caps [x.v, y.v] (.bool (p x y))) :
   Ev prog (.call g_slices_EqualFuncR_Interval [v, w, .fn g caps] H) (.ret (.bool (decide (l.length = m.length) && allB p l m)) H) := by
 refine Ev_run rfl ?_
 by_cases heq : l.length = m.length
 case neg =>
   have hne : ¬ (l.length : Int) = m.length := by omega
   rcases sv with rfl | ⟨b, rfl, hb⟩ <;> rcases sw with rfl | ⟨b2, rfl, hb2⟩ <;> simp [ivs, heq, hne]
 have loop : ∀ (E : Env) (Q : AX → Env → Heap → Prop) (K : List Fr), E 1 = w → E 2 = .fn g caps → E 15 = v → E 16 = .int .i64 l.length → E 17 = .int .i64 0 →
     (allB p l m = true → ∀ E2 H2, H <+: H2 → WP prog H.length Q K (.exit 0) E2 H2) → (allB p l m = false → ∀ E2 H2, H <+: H2 → E2 6 = .bool false → WP prog H.length Q K .ret E2 H2) →
     WK prog H.length (.loop c_slices_EqualFuncR_Interval_l0) K E H Q := by
   intro E Q K e1 e2 e15 e16 e17 kt kf
   refine WK_up (fun i E H' => H <+: H' ∧ E 1 = w ∧ E 2 = .fn g caps ∧ E 15 = v ∧ E 16 = .int .i64 l.length ∧ E 17 = .int .i64 i ∧ (∀ j x y, j < i → l[j]? = some x → m[j]? = some y → p x y = true)) l.length ?_ ?_
   · exact ⟨List.prefix_refl _, e1, e2, e15, e16, e17, fun j x y hj => by omega⟩
   · rintro i E H' hi ⟨hH, h1, h2, h15, h16, h17, hp⟩
     rcases Nat.lt_or_ge i l.length with hlt | hge
     · have f2 : IntKind.i64.wrap ((i : Int) + 1) = ((i + 1 : Nat) : Int) := by rw [wrap_i64] <;> omega
       have hlt2 : i < m.length := by omega
       have cb := h l[i] (List.getElem_mem hlt) m[i] (List.getElem_mem hlt2)
       have next : p l[i] m[i] = true → ∀ j x y, j < i + 1 → l[j]? = some x → m[j]? = some y → p x y = true := by
         intro hpx j x y hj hx hy
         rcases Nat.lt_or_ge j i with hji | hji
         · exact hp j x y hji hx hy
         · have : j = i := by omega
           subst this
           rw [List.getElem?_eq_getElem hlt] at hx; rw [List.getElem?_eq_getElem hlt2] at hy
           injection hx with hx; injection hy with hy; rw [← hx, ← hy]; exact hpx
       have bad : p l[i] m[i] = false → allB p l m = false := by
         intro hpx
         rw [Bool.eq_false_iff]
         intro ha
         rw [allB_iff] at ha
         rw [ha i _ _ (List.getElem?_eq_getElem hlt) (List.getElem?_eq_getElem hlt2)] at hpx
         cases hpx
       rcases sv with rfl | ⟨b, rfl, hb⟩ <;> rcases sw with rfl | ⟨b2, rfl, hb2⟩
       · simp only [ivs] at h1 h15
         simp [c_slices_EqualFuncR_Interval_l0, h1, h15, h16, h17, h2, hlt, hlt2]
         refine WL_cb cb (pre_app hH) rfl rfl ?_
         simp [h1, h15, h16, h17, h2, f2, pre_app hH, ivs]
         exact ⟨fun hpx => kf (bad hpx) _ _ (pre_app hH) (by simp), next⟩
       · simp only [ivs] at h15
         have q2 := pre_get hH hb2
         simp [c_slices_EqualFuncR_Interval_l0, h1, h15, h16, h17, h2, hlt, hlt2, q2.1, q2.2]
         refine WL_cb cb (pre_app hH) rfl rfl ?_
         simp [h1, h15, h16, h17, h2, f2, pre_app hH, ivs]
         exact ⟨fun hpx => kf (bad hpx) _ _ (pre_app hH) (by simp), next⟩
       · simp only [ivs] at h1
         have q1 := pre_get hH hb
         simp [c_slices_EqualFuncR_Interval_l0, h1, h15, h16, h17, h2, hlt, hlt2, q1.1, q1.2]
         refine WL_cb cb (pre_app hH) rfl rfl ?_
         simp [h1, h15, h16, h17, h2, f2, pre_app hH, ivs]
         exact ⟨fun hpx => kf (bad hpx) _ _ (pre_app hH) (by simp), next⟩
       · have q1 := pre_get hH hb
         have q2 := pre_get hH hb2
         simp [c_slices_EqualFuncR_Interval_l0, h1, h15, h16, h17, h2, hlt, hlt2, q1.1, q1.2, q2.1, q2.2]
         refine WL_cb cb (pre_app hH) rfl rfl ?_
         simp [h1, h15, h16, h17, h2, f2, pre_app hH]
         exact ⟨fun hpx => kf (bad hpx) _ _ (pre_app hH) (by simp), next⟩
     · have hin : i = l.length := by omega
       subst hin
       have e1 : allB p l m = true := by
         rw [allB_iff]
         intro j x y hx hy
         exact hp j x y (List.getElem?_eq_some_iff.1 hx).1 hx hy
       simp [c_slices_EqualFuncR_Interval_l0, h16, h17]
       have := kt e1 (upd E 18 (.bool false)) H' hH
       simpa using this
 have fin2 : ∀ (H2 : Heap), H <+: H2 → H2.take H.length = H := fun H2 h => take_pre h
 rcases sv with rfl | ⟨b, rfl, hb⟩ <;> rcases sw with rfl | ⟨b2, rfl, hb2⟩ <;>
   (simp [ivs, heq]
    refine loop _ _ _ (by simp [ivs]) (by simp) (by simp [ivs, heq]) (by simp [heq]) (by simp) (fun ha E2 H2 hp => ?_) (fun ha E2 H2 hp h6 => ?_)
    · simp [ha, fin2 H2 hp]
    · simp [ha, h6, fin2 H2 hp])

end Go.Abs.W

/- Products of words of 64 bits; lists of noughts by slices.Repeat. -/
namespace Go.Abs.W

theorem Mul64_cq (n : Nat) (h : n ≤ 17) : CQ prog g_math_bits_Mul64 [.int .u64 1, .int .u64 n] (.tup [.int .u64 0, .int .u64 n]) := by
 refine CQ_run rfl fun H => ?_
 have e1 : bitsI .and .u64 1 4294967295 = some 1 := by decide +kernel
 have e2 : bitsI .and .u64 0 4294967295 = some 0 := by decide +kernel
 have e3 : bitsI .and .u64 (n : Int) 4294967295 = some (n : Int) := by
   have : ∀ m : Fin 18, bitsI .and .u64 ((m.1 : Nat) : Int) 4294967295 = some (m.1 : Int) := by decide +kernel
   exact this ⟨n, by omega⟩
 have sh : ∀ m : Nat, m ≤ 17 → shiftI .shr .u64 (m : Int) 32 = some (.int .u64 0) := by
   intro m hm
   have e := shr64 m 32 (by omega)
   rw [show m / 2 ^ 32 = 0 by omega] at e
   exact e
 have s1 := sh 1 (by omega)
 have s2 := sh 0 (by omega)
 have s3 := sh n h
 simp only [Int.natCast_one, Int.natCast_zero] at s1 s2
 have w0 : IntKind.u64.wrap 0 = 0 := by decide +kernel
 have w1 : IntKind.u64.wrap (n : Int) = n := wrap_nat_u64 _ (by omega)
 simp [e1, e2, e3, s1, s2, s3, w0, w1]
theorem Mul_cq (n : Nat) (h : n ≤ 17) : CQ prog g_math_bits_Mul [.int .u64 1, .int .u64 n] (.tup [.int .u64 0, .int .u64 n]) := by
 refine CQ_run rfl fun H => ?_
 simp
 refine WL_call rfl rfl rfl (Mul64_cq n h) ?_
 simp

theorem splice_rep {m off j : Nat} {z : V} (h : off + j ≤ m) : splice (List.replicate m z) off (List.replicate j z) = List.replicate m z := by
 simp only [splice, List.take_replicate, List.drop_replicate, List.length_replicate, List.replicate_append_replicate]
 congr 1
 omega

abbrev nz : V := .agg [.bool false, .sl [], .int .i64 0, .bool false, .sl [], .int .i64 0, .bool false]
theorem Repeat_ev (k : Nat) (hk : k ≤ 16) (H : Heap) :
   Ev prog (.call g_slices_Repeat_Interval [ivs [nI 0 0], .int .i64 ((k : Int) + 1)] H) (.ret (.ref H.length 7 0 (k + 1)) (H ++ [some ⟨7, (List.replicate (k + 1) (nI 0 0)).map Iv.v, true, true⟩])) := by
 have z0 : ivs [nI 0 0] = .sl [nz] := by show V.sl [(nI 0 0).v] = _; rw [nI0_v]
 have z1 : (List.replicate (k + 1) (nI 0 0)).map Iv.v = List.replicate (k + 1) nz := by rw [List.map_replicate, nI0_v]
 rw [z0, z1]
 suffices CT prog g_slices_Repeat_Interval [.sl [nz], .int .i64 ((k : Int) + 1)] H (fun v H' => v = (.ref H.length 7 0 (k + 1)) ∧ H' = (H ++ [some ⟨7, List.replicate (k + 1) nz, true, true⟩])) by
   obtain ⟨v, H', e, rfl, rfl⟩ := this; exact e
 refine CT_of (f := c_slices_Repeat_Interval) rfl (WC_of_WK ?_)
 have f1 : ¬ ((k : Int) + 1 < 0) := by omega
 have f2 : IntKind.u64.wrap ((k : Int) + 1) = ((k + 1 : Nat) : Int) := by rw [wrap_u64] <;> omega
 have f3 : IntKind.i64.wrap ((k : Int) + 1) = (k : Int) + 1 := by rw [wrap_i64] <;> omega
 have f4 : (0 : Int) ≤ (k : Int) + 1 := by omega
 have f5 : ¬ (9223372036854775807 < (k : Int) + 1) := by omega
 have f6 : ((k : Int) + 1).toNat = k + 1 := by omega
 have f7 : (k + 1) * 88 ≤ 281474976710656 := by omega
 have f8 : k + 1 ≤ 9223372036854775807 := by omega
 have w1 : IntKind.u64.wrap 1 = 1 := by decide +kernel
 simp [f1, f2, w1]
 refine WL_call rfl rfl rfl (Mul_cq (k + 1) (by omega)) ?_
 have c1 : splice (List.replicate (k + 1) nz) 0 (List.replicate 1 nz) = List.replicate (k + 1) nz := splice_rep (by omega)
 simp only [List.replicate_one] at c1
 have c2 : ∀ n j : Nat, n + j ≤ k + 1 → splice (List.replicate (k + 1) nz) n (List.replicate j nz) = List.replicate (k + 1) nz := fun n j h => splice_rep h
 simp only [nz] at c1 c2
 have mn : Nat.min 1 (k + 1) = 1 := by show min 1 (k + 1) = 1; omega
 simp [f3, f4, f5, f6, f7, f8, mn]
 obtain ⟨L, hL⟩ : ∃ L, L = List.replicate (k + 1) nz := ⟨_, rfl⟩
 have lL : L.length = k + 1 := by rw [hL]; simp
 have tL : ∀ n, n ≤ k + 1 → L.take n = List.replicate n nz := fun n h => by rw [hL, List.take_replicate, Nat.min_eq_left h]
 have cL : ∀ n j : Nat, n + j ≤ k + 1 → splice L n (List.replicate j nz) = L := fun n j h => by rw [hL]; exact splice_rep h
 clear c1 c2 z0 z1
 refine WK_loop (fun q E H' => H' = H ++ [some ⟨7, L, true, true⟩] ∧ E 7 = .ref H.length 7 0 (k + 1) ∧ ∃ n : Nat, 1 ≤ n ∧ n + q = k + 1 ∧ E 8 = .int .i64 n) k ?_ ?_
 · simp
   exact ⟨hL.symm, 1, by omega, by omega, rfl⟩
 · rintro q E H' ⟨rfl, e7, n, n1, nq, e8⟩
   refine WC_round ?_
   rcases Nat.lt_or_ge n (k + 1) with hlt | hge
   · have g1 : (n : Int) < (k : Int) + 1 := by omega
     have g2 : n ≤ k + 1 := by omega
     obtain ⟨j, hj⟩ : ∃ j, j = Nat.min n (k + 1 - n) := ⟨_, rfl⟩
     have j1 : 1 ≤ j := by rw [hj]; show 1 ≤ min n (k + 1 - n); omega
     have j2 : n + j ≤ k + 1 := by rw [hj]; show n + min n (k + 1 - n) ≤ k + 1; omega
     have g3 : IntKind.i64.wrap ((n : Int) + j) = (n : Int) + j := by rw [wrap_i64] <;> omega
     have g4 : n + (k + 1 - n) ≤ k + 1 := by omega
     have g6 : min (k + 1 - n) n = j := by rw [hj]; show _ = min n (k + 1 - n); omega
     have c3 := cL n j j2
     have t1 := tL n g2
     have hd : headOk 7 (List.replicate n nz) = true := by cases n <;> rfl
     simp [-headOk, -splice, c_slices_Repeat_Interval_l0, e7, e8, g1, g2, g4, lL, t1, hd, g6, ← hj, c3, g3, List.take_replicate]
     exact ⟨q - j, by omega, n + j, by omega, by omega, by simp⟩
   · have : n = k + 1 := by omega
     subst this
     simp [c_slices_Repeat_Interval_l0, e7, e8, fin, ownV, ownC_ref, hL]

end Go.Abs.W

/- The law SeriesSums. -/
namespace Go.Abs.W

theorem sameR_ev {H : Heap} {v w : V} {a b : List Iv} (sv : SeesI H v a) (sw : SeesI H w b) (wa : SW a) (wb : SW b) : Ev prog (.call g_fplaw21_sameR [v, w] H) (.ret (.bool (decide (a = b))) H) := by
 refine Ev_run rfl ?_
 simp
 refine WL_ev rfl rfl rfl (EqualR_ev (p := fun x y => decide (x = y)) a b sv sw (by have := wa.1; omega) fun x hx y hy => Cb_of (fun _ => rfl) (RIEqual_cq x y (wa.2 x hx) (wb.2 y hy))) ?_
 simp only [decide_allB]
 simp
theorem sameR_t {H : Heap} {v w : V} {a : List Iv} (sv : SeesI H v a) (sw : SeesI H w a) (wa : SW a) : Ev prog (.call g_fplaw21_sameR [v, w] H) (.ret (.bool true) H) := by
 simpa using sameR_ev sv sw wa wa

theorem awakeR_cq : CQ prog g_fplaw21_awakeR [] (.bool true) := by
 refine CQ_run rfl fun H => ?_
 have n1 := RNum_cq 1 (by omega) (by omega)
 have n2 := RNum_cq (-1) (by omega) (by omega)
 have w1 := nI1_W
 have w2 : (nI (-1) (-1)).W := nI_W (by omega) (by omega)
 have v1 := SVar_cq (nI 1 1) 2
 have c1 := SConst_ev (nI 1 1) 2
 have s1 := IScale_cq (nI 1 1) (-1) w1
 have s2 := IScale_cq (nI (-1) (-1)) (-3) w2
 have q1 := SSqrt_cq exA 24 ex21_W
 have d1 := SDiv_cq (conL (nI 1 1) 2) exA 24 ⟨by decide, conL_W w1⟩ ex21_W
 rw [show (if ordB 2 = true then varL (nI 1 1) (Int.toNat 2) else []) = exA from rfl] at v1
 rw [show (if areB [exA] = true then sqrtL exA 24 else []) = sqrtL exA 24 from rfl, ex21_sqrt] at q1
 rw [show (if areB [conL (nI 1 1) 2, exA] = true then divL (conL (nI 1 1) 2) exA 24 else []) = divL (conL (nI 1 1) 2) exA 24 from rfl, ex21_div] at d1
 have wt1 : SW [nI 1 1, (nI 1 1).scl (-1), (nI (-1) (-1)).scl (-3)] := ⟨by simp, by simp [w1, Iv.scl_W']⟩
 have wt2 : SW [nI 1 1, nI (-1) (-1), nI 1 1] := ⟨by simp, by simp [w1, w2]⟩
 simp only [show ordB 2 = true from rfl, if_true, show (2 : Int).toNat = 2 from rfl] at c1
 generalize exA = A at *
 generalize hC : conL (nI 1 1) 2 = C at *
 have lC : C.length = 3 := by rw [← hC]; rfl
 have tC : List.take 3 (List.map Iv.v C) = List.map Iv.v C := List.take_of_length_le (by simp [lC])
 generalize (nI 1 1).scl (-1) = h1 at *
 generalize (nI (-1) (-1)).scl (-3) = h2 at *
 generalize nI 1 1 = one at *
 generalize nI (-1) (-1) = two at *
 simp
 refine WL_call rfl rfl rfl n1 ?_
 simp
 refine WL_call rfl rfl rfl v1 ?_
 simp
 refine WL_call rfl rfl rfl n1 ?_
 simp
 refine WL_call rfl rfl rfl s1 ?_
 simp
 refine WL_call rfl rfl rfl q1 ?_
 simp
 refine WL_call rfl rfl rfl n1 ?_
 simp
 refine WL_callT rfl rfl rfl ⟨_, _, c1 _, ?_⟩
 simp
 refine WL_callT (vs := [ivs C, ivs A, .int .i64 24]) rfl rfl (by simp [prep, frzVs, frzV, ivs, lC, tC]; rfl) ⟨_, _, d1 _, ?_⟩
 simp
 refine WL_call rfl rfl rfl n1 ?_
 simp
 refine WL_call rfl rfl rfl n2 ?_
 simp
 refine WL_call rfl rfl rfl s2 ?_
 simp
 refine WL_ev rfl rfl rfl (sameR_t (a := [one, h1, h2]) (.inl rfl) (.inr ⟨_, rfl, by simp⟩) wt1) ?_
 simp
 refine WL_call rfl rfl rfl n1 ?_
 simp
 refine WL_call rfl rfl rfl n2 ?_
 simp
 refine WL_call rfl rfl rfl n1 ?_
 simp
 refine WL_ev rfl rfl rfl (sameR_t (a := [one, two, one]) (.inl rfl) (.inr ⟨_, rfl, by simp⟩) wt2) ?_
 simp

theorem zipI_SW {F : Iv → Iv → Iv} {a b : List Iv} (la : a.length ≤ 1000000) (h : ∀ x y, (F x y).W) : SW (zipI F a b) := by
 refine ⟨?_, zipI_W fun x _ y _ => h x y⟩
 unfold zipI
 split
 · rw [bld_len]; exact la
 · simp

theorem sums_tail (H H1 : Heap) (E : Env) (a b : List Iv) (p : Int) (wa : SW a) (wb : SW b) (e0 : E 0 = ivs a) (e1 : E 1 = ivs b) (e4 : E 4 = .int .i64 p) (hp : H <+: H1) :
   WC prog H.length (seqTail 5 c_fplaw21_SeriesSumsR.body) E H1 (fun x E1 H1 => (x = .normal ∨ x = .ret) ∧ ∃ v0, resV E1 H1 [.tmp 10] = some v0 ∧ fin false H.length H1 v0 = some (.bool true, H)) := by
 refine WC_of_WK ?_
 have ca := SAdd_cq a b p wa wb
 have cs := SSub_cq a b p wa wb
 have cq := pair_cq a b
 have wS := zipI_SW (b := b) (F := fun x y => x.add y p) wa.1 fun _ _ => add_W
 have wD := zipI_SW (b := b) (F := fun x y => x.add y.neg p) wa.1 fun _ _ => add_W
 have hH : H1.take H.length = H := take_pre hp
 simp only [ivs] at e0 e1
 cases hb : areB [a, b]
 · have z1 : ∀ F : Iv → Iv → Iv, zipI F a b = [] := fun F => by simp [zipI, hb]
   rw [z1] at ca cs
   simp [seqTail, e0, e1, e4]
   refine WL_call rfl rfl rfl ca ?_
   simp [e0, e1, e4]
   refine WL_call rfl rfl rfl cs ?_
   simp [e0, e1, e4, ivs]
   refine WL_call rfl rfl rfl cq ?_
   simp [hb, hH]
 · have hl := (are2.1 hb).2.2
   have r1 := RSum_cq a b false p wa wb hl
   have r2 := RSum_cq a b true p wa wb hl
   simp only [if_true, if_false, Bool.false_eq_true] at r1 r2
   have z1 : ∀ F : Iv → Iv → Iv, zipI F a b = bld (fun _ k => F (at0 a k) (at0 b k)) a.length := fun F => by simp [zipI, hb]
   rw [z1] at ca cs wS wD
   generalize bld (fun _ k => (at0 a k).add (at0 b k) p) a.length = S at *
   generalize bld (fun _ k => (at0 a k).add (at0 b k).neg p) a.length = D at *
   simp [seqTail, e0, e1, e4]
   refine WL_call rfl rfl rfl ca ?_
   simp [e0, e1, e4]
   refine WL_call rfl rfl rfl cs ?_
   simp [e0, e1, e4]
   refine WL_call rfl rfl rfl cq ?_
   simp [e0, e1, e4, hb]
   refine WL_call rfl rfl rfl r1 ?_
   simp [e0, e1, e4]
   refine WL_ev rfl rfl rfl (sameR_t (a := S) (.inl rfl) (.inl rfl) wS) ?_
   simp [e0, e1, e4]
   refine WL_call rfl rfl rfl r2 ?_
   simp [e0, e1, e4]
   refine WL_ev rfl rfl rfl (sameR_t (a := D) (.inl rfl) (.inl rfl) wD) ?_
   simp [hH]

theorem sumsR_cq (a b : List Iv) (x : Iv) (k p : Int) (la : LL a) (lb : LL b) (lx : x.Lm) : CQ prog g_fplaw21_SeriesSumsR [ivs a, ivs b, x.v, .int .i64 k, .int .i64 p] (.bool true) := by
 refine CQ_of rfl fun H => ?_
 have g := gr21_cq p [a, b, [x]] (by simp) (by simp; exact ⟨la.len, lb.len⟩)
 refine WC_seq (b := seqTail 1 c_fplaw21_SeriesSumsR.body) ?_
 refine WC_round ?_
 simp
 refine WC_seq (b := seqTail 2 c_fplaw21_SeriesSumsR.body) ?_
 refine WC_round ?_
 simp
 refine WL_call rfl rfl rfl awakeR_cq ?_
 simp
 refine WC_seq (b := seqTail 3 c_fplaw21_SeriesSumsR.body) ?_
 refine WC_round ?_
 simp
 refine WL_callH (vs := [.int .i64 p, ivss [a, b, [x]]]) rfl rfl (by simp [prep, frzVs, frzV, ivs, ivss]; rfl) g ?_
 cases hg : gr21 p [a, b, [x]]
 case true => simp
 obtain ⟨hl, wa⟩ := gr21_false hg (by simp) la
 obtain ⟨hlb, wb⟩ := gr21_false hg (by simp) lb
 have wx : x.W := (gr21_false hg (a := [x]) (by simp) ⟨by simp, by simpa using lx⟩).2.2 x (by simp)
 have cc := SConst_ev x k
 have cv := SVar_cq x k
 have tail := fun E H1 => sums_tail H H1 E a b p wa wb
 generalize hT : seqTail 5 c_fplaw21_SeriesSumsR.body = T at tail
 simp
 refine WC_seq (b := seqTail 4 c_fplaw21_SeriesSumsR.body) ?_
 refine WC_round ?_
 cases o : ordB k
 · simp only [o, if_false, Bool.false_eq_true] at cc cv
   simp [ordB] at o
   simp
   refine WL_callT rfl rfl rfl ⟨_, _, cc _, ?_⟩
   simp
   refine WL_call rfl rfl rfl cv ?_
   simp [ivs]
   refine WC_seq (b := seqTail 5 c_fplaw21_SeriesSumsR.body) ?_
   rw [hT]
   refine WC_round ?_
   by_cases h1 : k < 0
   · simp [h1]
     exact WC_mono (tail _ _ (by simp [ivs]) (by simp [ivs]) (by simp) (by simp)) (fun x E1 H1 h => by simpa using h)
   · have h2 : 16 < k := o (by omega)
     simp [h1, h2]
     exact WC_mono (tail _ _ (by simp [ivs]) (by simp [ivs]) (by simp) (by simp)) (fun x E1 H1 h => by simpa using h)
 · simp only [o, if_true] at cc cv
   simp [ordB] at o
   obtain ⟨n, rfl⟩ : ∃ n : Nat, k = n := ⟨k.toNat, by omega⟩
   simp only [Int.toNat_natCast] at cc cv
   have f0 : ¬ (n : Int) < 0 := by omega
   have f1 : ¬ (16 : Int) < n := by omega
   have f2 : IntKind.i64.wrap ((n : Int) + 1) = (n : Int) + 1 := by rw [wrap_i64] <;> omega
   have n0 := RNum_cq 0 (by omega) (by omega)
   have n1 := RNum_cq 1 (by omega) (by omega)
   have rp := Repeat_ev n (by omega)
   simp
   refine WL_callT rfl rfl rfl ⟨_, _, cc _, ?_⟩
   simp
   refine WL_call rfl rfl rfl cv ?_
   simp
   refine WC_seq (b := seqTail 5 c_fplaw21_SeriesSumsR.body) ?_
   rw [hT]
   refine WC_round ?_
   simp [f0, f1]
   refine WL_call rfl rfl rfl n0 ?_
   simp [f2]
   refine WL_callT (vs := [ivs [nI 0 0], .int .i64 ((n : Int) + 1)]) rfl rfl (by simp [prep, frzVs, frzV, ivs]; rfl) ⟨_, _, rp _, ?_⟩
   have eC : List.map Iv.v (List.replicate (n + 1) (nI 0 0)) = (nI 0 0).v :: List.replicate n (nI 0 0).v := by simp [List.replicate_succ]
   rw [eC]
   have eK : List.map Iv.v (conL x n) = x.v :: List.replicate n (nI 0 0).v := by simp [conL]
   have wK : SW (conL x n) := ⟨by rw [conL_len]; omega, conL_W wx⟩
   have wV : SW (varL x n) := ⟨by cases n <;> simp [varL]; omega, varL_W wx⟩
   have z7 : (nI 0 0).v.cells.length = 7 := rfl
   simp only [Iv.v] at eK z7
   generalize hN : nI 0 0 = nul at *
   simp
   refine WL_ev rfl rfl rfl (sameR_t (a := conL x n) (.inr ⟨_, by rw [conL_len]; rfl, by simp⟩) (.inr ⟨_, by rw [conL_len]; rfl, by simp [eK]⟩) wK) ?_
   rcases n with _ | m
   · simp
     refine WL_ev rfl rfl rfl (sameR_t (a := varL x 0) (.inl rfl) (.inr ⟨_, rfl, by simp [varL]⟩) wV) ?_
     simp
     exact WC_mono (tail _ _ (by simp [ivs]) (by simp [ivs]) (by simp) (by simp)) (fun x E1 H1 h => by simpa using h)
   · have eV : List.map Iv.v (varL x (m + 1)) = x.v :: (nI 1 1).v :: List.replicate m nul.v := by simp [varL, hN]
     have lV : (varL x (m + 1)).length = m + 1 + 1 := by simp [varL]
     have g1 : (0 : Int) < (m : Int) + 1 := by omega
     simp only [Iv.v] at eV
     generalize nI 1 1 = one at *
     simp [g1, List.replicate_succ]
     refine WL_call rfl rfl rfl n1 ?_
     simp
     refine WL_ev rfl rfl rfl (sameR_t (a := varL x (m + 1)) (.inl rfl) (.inr ⟨_, by rw [lV]; rfl, by simp [eV]⟩) wV) ?_
     simp
     exact WC_mono (tail _ _ (by simp [ivs]) (by simp [ivs]) (by simp) (by simp)) (fun x E1 H1 h => by simpa using h)

end Go.Abs.W

