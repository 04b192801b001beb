/- Parts of the proof: FpR03, FpR03b, FpIvA, FpIvB, FpIvC, FpIvD, FpIvE, FpIvF. -/
import Derived.Test.YteajloobgibenaaGreatDoorFh
import Derived.Test.YteajloobgibenaaGreatDoorFg
import Derived.Test.YteajloobgibenaaGreatDoorFg
import Derived.Test.YteajloobgibenaaGreatDoorFe
/- The reference of layer 3: rounding. -/
namespace Go.Abs.W

theorem RPrec_cq (p : Int) : CQ prog g_fpref03_Prec [.int .i64 p] (.bool (precB p)) := by
 refine CQ_run rfl fun H => ?_
 simp [precB]
 grind

theorem Rfault_cq (a b : Dy) (p : Int) (wa : a.W) (wb : b.W) : CQ prog g_fpref03_fault [a.v, b.v, .int .i64 p] (.int .i64 (faultE [a, b] p)) := by
 refine CQ_run rfl fun H => ?_
 simp
 refine WL_call rfl rfl rfl (RValid_cq a wa) ?_
 cases ha : a.valid
 · simp [faultE, ha]
 · simp
   refine WL_call rfl rfl rfl (RValid_cq b wb) ?_
   cases hb : b.valid
   · simp [faultE, ha, hb]
   · simp
     refine WL_call rfl rfl rfl (RPrec_cq p) ?_
     cases hp : precB p <;> simp [faultE, ha, hb, hp]

theorem limbs_le {q b : Nat} (h : bitL q ≤ b) : (limbsOf q).length ≤ b / 32 + 1 :=
 limbs_bits (Nat.lt_of_lt_of_le (lt_bitL q) (Nat.pow_le_pow_right (by omega) h)) (by omega)

theorem greatest_cq (neg : Bool) (p : Nat) (hp : p ≤ 512) : CQ prog g_fpref03_greatest [.bool neg, .int .i64 p] (Dy.of neg (2 ^ p - 1) (16384 - p)).v := by
 refine CQ_run rfl fun H => ?_
 have l1 : Li [1] := by intro x hx; simp at hx; omega
 have v1 : natV [1] = 1 := rfl
 have h2p : 1 ≤ 2 ^ p := Nat.one_le_two_pow
 have hpl : (limbsOf (2 ^ p)).length ≤ 1000 := limbs_bits (B := p + 1) (Nat.pow_lt_pow_right (by omega) (by omega)) (by omega)
 have hp1 : 1 ≤ (limbsOf (2 ^ p)).length := List.length_pos_iff.2 (limbsOf_ne (by omega))
 have sc := Shl1_cq [1] p (by simp) l1 (by omega)
 rw [v1, Nat.one_mul] at sc
 have dc := Sub1_cq (limbsOf (2 ^ p)) [1] (by omega) (by simpa using hp1) (li_limbsOf _) l1 (by rw [natV_limbsOf, v1]; exact h2p)
 rw [natV_limbsOf, v1] at dc
 have hl2 : (limbsOf (2 ^ p - 1)).length ≤ 1000 := limbs_mono (Nat.sub_le _ _) hpl
 have e2 : IntKind.i64.wrap (16384 - (p : Int)) = 16384 - (p : Int) := by rw [wrap_i64] <;> omega
 have oc := Of_cq neg (limbsOf (2 ^ p - 1)) (16384 - p) (by omega) (li_limbsOf _) (by omega) (by omega)
 rw [natV_limbsOf] at oc
 simp
 refine WL_callH (args := [.ref (H.length + 1) 1 0 1, .int .i64 p]) (vs := [lim [1], .int .i64 p]) (H1 := H ++ [some ⟨3, [.agg [.bool false, .nil, .int .i64 0]], false, true⟩, some ⟨1, [.int .u32 1], true, false⟩]) rfl (by simp) (by refine Eq.trans (b := frzVs _ _) rfl ?_; simp [frzVs, frzV, frzC_ref, lim, u32]) sc ?_
 simp
 refine WL_callH (args := [lim (limbsOf (2 ^ p)), .ref (H.length + 2) 1 0 1]) (vs := [lim (limbsOf (2 ^ p)), lim [1]]) (H1 := H ++ [some ⟨3, [.agg [.bool false, .nil, .int .i64 0]], false, true⟩, some ⟨1, [.int .u32 1], true, false⟩, some ⟨1, [.int .u32 1], true, false⟩]) rfl (by simp) (by refine Eq.trans (b := frzVs _ _) rfl ?_; simp [frzVs, frzV, frzC_ref, lim, u32]) dc ?_
 simp [e2]
 refine WL_call rfl rfl rfl oc ?_
 simp [lim]

def cutX (neg out : Bool) (Q : Nat) (e : Int) (k p : Nat) : Dy × Int :=
 if Q ≠ 0 ∧ (16384 : Int) < bitL Q + (e + k) then (if out then (Dy.zero, 9) else (Dy.of neg (2 ^ p - 1) (16384 - p), 0)) else (Dy.of neg Q (e + k), 0)

set_option maxHeartbeats 1000000 in
theorem rcut_tail8 {H : Heap} {E : Env} (G : Heap) (neg out : Bool) (Q : Nat) (e : Int) (k p : Nat) (hp : p ≤ 512) (hQ : bitL Q ≤ 600000) (hk : k ≤ 600000) (he1 : -400000 ≤ e) (he2 : e ≤ 400000)
   (h0 : E 0 = .bool neg) (h2 : E 2 = .int .i64 e) (h4 : E 4 = .int .i64 p) (h12 : E 12 = .ptr H.length 0 0) (h13 : E 13 = .int .i64 0) (h15 : E 15 = .int .i64 k) (h16 : E 16 = lim (limbsOf Q)) (h17 : E 17 = .bool out) :
   WC prog H.length (seqTail 8 c_fpref03_Cut.body) E (H ++ some ⟨3, [.agg [.bool false, .nil, .int .i64 0]], false, true⟩ :: G) (fun x E1 H1 => (x = .normal ∨ x = .ret) ∧ ∃ v0, resV E1 H1 [.cell 12 true 3, .tmp 13] = some v0 ∧
     fin false H.length H1 v0 = some (.tup [(cutX neg out Q e k p).1.v, .int .i64 (cutX neg out Q e k p).2], H)) := by
 have hl := limbs_le hQ
 have bc := Bits1_cq (limbsOf Q) (by omega) (li_limbsOf Q)
 rw [natV_limbsOf] at bc
 have w3 : IntKind.i64.wrap (e + (k : Int)) = e + k := by rw [wrap_i64] <;> omega
 refine WC_of_WK ?_
 simp [seqTail, h16]
 refine WL_call rfl rfl rfl bc ?_
 by_cases hq0 : Q = 0
 · subst hq0
   have oc := Of_cq neg (limbsOf 0) (e + k) (by rw [limbsOf_zero]; simp) (li_limbsOf _) (by omega) (by omega)
   rw [natV_limbsOf] at oc
   simp [bitL_zero, h0, h2, h15, h16, w3]
   refine WL_call rfl rfl rfl oc ?_
   simp [h12, h13, cutX, lim]
 · have hbp := (bitL_pow hq0).2.2
   obtain ⟨B, hB⟩ : ∃ B, B = bitL Q := ⟨_, rfl⟩
   rw [← hB] at bc hQ hbp ⊢
   have w1 : IntKind.i64.wrap ((B : Int) + e) = B + e := by rw [wrap_i64] <;> omega
   have w2 : IntKind.i64.wrap ((B : Int) + e + k) = B + e + k := by rw [wrap_i64] <;> omega
   simp [hbp, h16]
   refine WL_call rfl rfl rfl bc ?_
   by_cases hov : (16384 : Int) < B + e + k
   · have hov' : (16384 : Int) < B + (e + k) := by omega
     cases out
     · have gc := greatest_cq neg p hp
       simp [h0, h2, h4, h15, h17, w1, w2, hov]
       refine WL_call rfl rfl rfl gc ?_
       simp [h12, h13, cutX, hq0, ← hB, hov', lim]
     · simp [h2, h12, h15, h17, w1, w2, hov, cutX, hq0, ← hB, hov', Dy.zero, lim]
   · have hov' : ¬ (16384 : Int) < B + (e + k) := by omega
     have oc := Of_cq neg (limbsOf Q) (e + k) (by omega) (li_limbsOf _) (by omega) (by omega)
     rw [natV_limbsOf] at oc
     simp [h0, h2, h15, h16, w1, w2, w3, hov]
     refine WL_call rfl rfl rfl oc ?_
     simp [h12, h13, cutX, hq0, ← hB, hov', lim]

theorem cutX_cutR {neg : Bool} {m : Nat} {e : Int} {more : Bool} {p : Nat} {up : Bool} : cutX neg (neg != up) (cutQ m e more p (neg != up)) e (cutK m e p) p = cutR neg m e more p up := rfl

set_option maxHeartbeats 2000000 in
theorem RCut_cq' (neg : Bool) (m : List Nat) (e : Int) (more : Bool) (p : Nat) (up : Bool) (hm : m.length ≤ 10000) (lm : Li m) (he1 : -100000 ≤ e) (he2 : e ≤ 100000) (hp : p ≤ 512) :
   CQ prog g_fpref03_Cut [.bool neg, lim m, .int .i64 e, .bool more, .int .i64 p, .bool up] (.tup [(cutR neg (natV m) e more p up).1.v, .int .i64 (cutR neg (natV m) e more p up).2]) := by
 refine CQ_of rfl fun H => ?_
 have hlen := limbsOf_len.2 (natV_lt lm)
 have hA := natV_lt lm
 rw [pow32] at hA
 have hbit := bitL_le_of hA
 obtain ⟨M, hM⟩ : ∃ M, M = natV m := ⟨_, rfl⟩
 rw [← hM] at hlen hbit ⊢
 have bc := Bits1_cq (limbsOf M) (by omega) (li_limbsOf _)
 rw [natV_limbsOf] at bc
 have w1 : IntKind.i64.wrap ((bitL M : Int) - p) = bitL M - p := by rw [wrap_i64] <;> omega
 have w2 : IntKind.i64.wrap (-16384 - e) = -16384 - e := by rw [wrap_i64] <;> omega
 have hmax : (if (if (bitL M : Int) - p < -16384 - e then -16384 - e else (bitL M : Int) - p) < 0 then 0 else if (bitL M : Int) - p < -16384 - e then -16384 - e else (bitL M : Int) - p) = (cutK M e p : Int) := by
   unfold cutK; split <;> split <;> omega
 have hkb : cutK M e p ≤ 500000 := by unfold cutK; omega
 have hres := cutX_cutR (neg := neg) (m := M) (e := e) (more := more) (p := p) (up := up)
 rw [← hres]
 have hQb : bitL (cutQ M e more p (neg != up)) ≤ 600 := Nat.le_trans cutQ_bits (by omega)
 have hcq : ∀ o, cutQ M e more p o = M / 2 ^ cutK M e p + (if (more || decide (M % 2 ^ cutK M e p ≠ 0)) && o then 1 else 0) := fun _ => rfl
 obtain ⟨k, hk⟩ : ∃ k, k = cutK M e p := ⟨_, rfl⟩
 rw [← hk] at hmax hkb hcq ⊢
 have sc := Shr1_cq (limbsOf M) k (by omega) (li_limbsOf _) (by omega)
 rw [natV_limbsOf] at sc
 have hql : (limbsOf (M / 2 ^ k)).length ≤ 20000 := Nat.le_trans (limbs_mono (Nat.div_le_self _ _) hlen) (by omega)
 -- from the rounded limbs on
 have tail6 : ∀ (E : Env) (lost : Bool), lost = (more || decide (M % 2 ^ k ≠ 0)) → E 0 = .bool neg → E 2 = .int .i64 e → E 3 = .bool lost → E 4 = .int .i64 p → E 5 = .bool up → E 12 = .ptr H.length 0 0 → E 13 = .int .i64 0 → E 15 = .int .i64 k → E 16 = lim (limbsOf (M / 2 ^ k)) →
     WC prog H.length (seqTail 6 c_fpref03_Cut.body) E (H ++ [some ⟨3, [.agg [.bool false, .nil, .int .i64 0]], false, true⟩]) (fun x E1 H1 => (x = .normal ∨ x = .ret) ∧ ∃ v0, resV E1 H1 [.cell 12 true 3, .tmp 13] = some v0 ∧
       fin false H.length H1 v0 = some (.tup [(cutX neg (neg != up) (cutQ M e more p (neg != up)) e k p).1.v, .int .i64 (cutX neg (neg != up) (cutQ M e more p (neg != up)) e k p).2], H)) := by
   intro E lost hlost h0 h2 h3 h4 h5 h12 h13 h15 h16
   rw [← hlost] at hcq
   refine WC_seq (b := seqTail 7 c_fpref03_Cut.body) ?_
   refine WC_round ?_
   simp [h0, h5]
   refine WC_seq (b := seqTail 8 c_fpref03_Cut.body) ?_
   refine WC_round ?_
   have hout : (!(neg == up)) = (neg != up) := by cases neg <;> cases up <;> rfl
   by_cases hb : lost = true ∧ (neg != up) = true
   · obtain ⟨rfl, ho⟩ := hb
     have l1 : Li [1] := by intro x hx; simp at hx; omega
     have v1 : natV [1] = 1 := rfl
     have ac := Add1_cq (limbsOf (M / 2 ^ k)) [1] (by omega) (by simp) (li_limbsOf _) l1
     have hq1 : cutQ M e more p (neg != up) = M / 2 ^ k + 1 := by rw [hcq, ho]; simp
     rw [natV_limbsOf, v1, ← hq1] at ac
     have ho2 : (neg == up) = false := by cases neg <;> cases up <;> simp at ho ⊢
     simp [h3, ho2, h16]
     refine WL_callH (args := [lim (limbsOf (M / 2 ^ k)), .ref (H.length + 1) 1 0 1]) (vs := [lim (limbsOf (M / 2 ^ k)), lim [1]]) (H1 := H ++ some ⟨3, [.agg [.bool false, .nil, .int .i64 0]], false, true⟩ :: [some ⟨1, [.int .u32 1], true, false⟩]) rfl ?_ ?_ ac ?_
     · simp [h16]
     · refine Eq.trans (b := frzVs _ _) rfl ?_; simp [frzVs, frzV, frzC_ref, lim, u32]
     simp
     exact WC_mono (rcut_tail8 [some ⟨1, [.int .u32 1], true, false⟩] neg (neg != up) (cutQ M e more p (neg != up)) e k p hp (by omega) (by omega) (by omega) (by omega) (by simp [h0]) (by simp [h2]) (by simp [h4]) (by simp [h12]) (by simp [h13]) (by simp [h15]) (by simp) (by rw [ho]; simp)) (fun x E1 H1 h => by simpa using h)
   · have hq0 : cutQ M e more p (neg != up) = M / 2 ^ k := by
       rw [hcq]
       cases lost <;> cases h : (neg != up) <;> simp [h] at hb ⊢
     have ct := fun (E : Env) h0 h2 h4 h12 h13 h15 h16 h17 => rcut_tail8 (H := H) (E := E) [] neg (neg != up) (cutQ M e more p (neg != up)) e k p hp (by omega) (by omega) (by omega) (by omega) h0 h2 h4 h12 h13 h15 h16 h17
     cases lost
     · simp [h3]
       exact WC_mono (ct _ (by simp [h0]) (by simp [h2]) (by simp [h4]) (by simp [h12]) (by simp [h13]) (by simp [h15]) (by simp [h16, hq0]) (by simp [hout])) (fun x E1 H1 h => by simpa using h)
     · have ho2 : (neg == up) = true := by cases neg <;> cases up <;> simp at hb ⊢
       simp [h3, ho2]
       exact WC_mono (ct _ (by simp [h0]) (by simp [h2]) (by simp [h4]) (by simp [h12]) (by simp [h13]) (by simp [h15]) (by simp [h16, hq0]) (by rw [← hout, ho2]; simp)) (fun x E1 H1 h => by simpa using h)
 refine WC_seq (b := seqTail 1 c_fpref03_Cut.body) ?_
 refine WC_round ?_
 simp
 refine WC_seq (b := seqTail 2 c_fpref03_Cut.body) ?_
 refine WC_round ?_
 simp
 refine WL_call rfl rfl rfl (Trim1_cq m (by omega)) ?_
 rw [trimL_limbsOf lm, ← hM]
 simp
 refine WC_seq (b := seqTail 3 c_fpref03_Cut.body) ?_
 refine WC_round ?_
 simp
 refine WL_call rfl rfl rfl bc ?_
 simp
 refine WC_seq (b := seqTail 4 c_fpref03_Cut.body) ?_
 refine WC_round ?_
 simp [w1, w2, hmax]
 refine WC_seq (b := seqTail 5 c_fpref03_Cut.body) ?_
 refine WC_round ?_
 simp
 refine WL_call rfl rfl rfl sc ?_
 simp
 refine WC_seq (b := seqTail 6 c_fpref03_Cut.body) ?_
 refine WC_round ?_
 by_cases hk0 : k = 0
 · subst hk0
   simp
   exact WC_mono (tail6 _ more (by simp [Nat.mod_one]) (by simp) (by simp) (by simp) (by simp) (by simp) (by simp) (by simp) (by simp) (by simp)) (fun x E1 H1 h => by simpa using h)
 · have hkp : 0 < k := by omega
   have hle : M / 2 ^ k * 2 ^ k ≤ M := Nat.div_mul_le_self _ _
   have lc := Shl1_cq (limbsOf (M / 2 ^ k)) k (by omega) (li_limbsOf _) (by omega)
   rw [natV_limbsOf] at lc
   have hl2 : (limbsOf (M / 2 ^ k * 2 ^ k)).length ≤ 20000 := Nat.le_trans (limbs_mono hle hlen) (by omega)
   have cc := Cmp1_cq (limbsOf (M / 2 ^ k * 2 ^ k)) (limbsOf M) (li_limbsOf _) (li_limbsOf _) (by omega) (by omega)
   rw [natV_limbsOf, natV_limbsOf] at cc
   have hne : cmpN (M / 2 ^ k * 2 ^ k) M = 0 ↔ M % 2 ^ k = 0 := by
     rw [cmpN_eq]
     have := Nat.div_add_mod' M (2 ^ k)
     omega
   simp [hkp]
   refine WL_call rfl rfl rfl lc ?_
   simp
   refine WL_call rfl rfl rfl cc ?_
   by_cases hz : M % 2 ^ k = 0
   · simp [hne, hz]
     exact WC_mono (tail6 _ more (by simp [hz]) (by simp) (by simp) (by simp) (by simp) (by simp) (by simp) (by simp) (by simp) (by simp)) (fun x E1 H1 h => by simpa using h)
   · simp [hne, hz]
     exact WC_mono (tail6 _ true (by simp [hz]) (by simp) (by simp) (by simp) (by simp) (by simp) (by simp) (by simp) (by simp) (by simp)) (fun x E1 H1 h => by simpa using h)

end Go.Abs.W

/- The reference of layer 3: rounding, sums, products, quotients, square roots. -/
namespace Go.Abs.W

theorem exact_cq (d : Dy) (p : Nat) (up : Bool) (hm : d.m.length ≤ 10000) (lm : Li d.m) (he1 : -100000 ≤ d.e) (he2 : d.e ≤ 100000) (hp : p ≤ 512) :
   CQ prog g_fpref03_exact [d.v, .int .i64 p, .bool up] (.tup [(cutR d.neg (natV d.m) d.e false p up).1.v, .int .i64 (cutR d.neg (natV d.m) d.e false p up).2]) := by
 refine CQ_run rfl fun H => ?_
 simp
 refine WL_call rfl rfl rfl (RCut_cq' d.neg d.m d.e false p up hm lm he1 he2 hp) ?_
 simp [lim]

/-- The size of a canonical number. -/
theorem of_size {neg : Bool} {N : Nat} {e : Int} {b : Nat} (hb : bitL N ≤ b) (he1 : -60000 ≤ e) (he2 : e ≤ 60000) (hbb : b ≤ 40000) :
   (Dy.of neg N e).m.length ≤ 10000 ∧ Li (Dy.of neg N e).m ∧ -100000 ≤ (Dy.of neg N e).e ∧ (Dy.of neg N e).e ≤ 100000 := by
 by_cases h : N = 0
 · subst h
   have : Dy.of neg 0 e = ⟨false, [], 0⟩ := by simp [Dy.of]
   rw [this]
   exact ⟨by simp, by intro x hx; simp at hx, by simp, by simp⟩
 · have hd : Dy.of neg N e = ⟨neg, limbsOf (N / 2 ^ tz N), e + tz N⟩ := by simp [Dy.of, h]
   rw [hd]
   have h1 := bitL_tz h
   have h2 := limbs_le (q := N / 2 ^ tz N) (b := b) (by omega)
   exact ⟨by simp only; omega, li_limbsOf _, by simp only; omega, by simp only; omega⟩

theorem Dy.Ok.size {d : Dy} (h : d.Ok) : d.m.length ≤ 10000 ∧ Li d.m ∧ -100000 ≤ d.e ∧ d.e ≤ 100000 := by
 have h1 := h.elo; have h2 := h.ehi; have h3 := h.len
 exact ⟨by omega, h.li, by omega, by omega⟩

theorem sum_size {a b : Dy} (oa : a.Ok) (ob : b.Ok) : (a.sum b).m.length ≤ 10000 ∧ Li (a.sum b).m ∧ -100000 ≤ (a.sum b).e ∧ (a.sum b).e ≤ 100000 := by
 unfold Dy.sum
 by_cases na : a.m = []
 · rw [if_pos na]; exact ob.size
 · by_cases nb : b.m = []
   · rw [if_neg na, if_pos nb]; exact oa.size
   · rw [if_neg na, if_neg nb]
     have e1 := oa.elo; have e2 := oa.ehi; have e3 := ob.elo; have e4 := ob.ehi
     have ba := oa.bits; have bb := ob.bits
     obtain ⟨e, he⟩ : ∃ e, e = min a.e b.e := ⟨_, rfl⟩
     simp only [← he]
     obtain ⟨B, hB⟩ : ∃ B, B = 37000 := ⟨_, rfl⟩
     have hX : bitL (sumX a e) ≤ B := by
       refine bitL_le_of ?_
       unfold sumX
       refine Nat.lt_of_lt_of_le (Nat.mul_lt_mul_of_pos_right (lt_bitL _) (Nat.two_pow_pos _)) ?_
       rw [← Nat.pow_add]
       exact Nat.pow_le_pow_right (by omega) (by omega)
     have hY : bitL (sumX b e) ≤ B := by
       refine bitL_le_of ?_
       unfold sumX
       refine Nat.lt_of_lt_of_le (Nat.mul_lt_mul_of_pos_right (lt_bitL _) (Nat.two_pow_pos _)) ?_
       rw [← Nat.pow_add]
       exact Nat.pow_le_pow_right (by omega) (by omega)
     have hXY : bitL (sumX a e + sumX b e) ≤ B + 1 := by
       refine bitL_le_of ?_
       have h1 : sumX a e < 2 ^ B := Nat.lt_of_lt_of_le (lt_bitL _) (Nat.pow_le_pow_right (by omega) hX)
       have h2 : sumX b e < 2 ^ B := Nat.lt_of_lt_of_le (lt_bitL _) (Nat.pow_le_pow_right (by omega) hY)
       rw [Nat.pow_succ]
       omega
     split
     · exact of_size hXY (by omega) (by omega) (by omega)
     · split
       · exact of_size (Nat.le_trans (bitL_mono (Nat.sub_le _ _)) hX) (by omega) (by omega) (by omega)
       · exact of_size (Nat.le_trans (bitL_mono (Nat.sub_le _ _)) hY) (by omega) (by omega) (by omega)

theorem RAdd3_cq (a b : Dy) (p : Int) (up : Bool) (wa : a.W) (wb : b.W) : CQ prog g_fpref03_Add [a.v, b.v, .int .i64 p, .bool up] (.tup [(rAdd a b p up).1.v, .int .i64 (rAdd a b p up).2]) := by
 refine CQ_run rfl fun H => ?_
 have fc := Rfault_cq a b p wa wb
 simp
 refine WL_call rfl rfl rfl fc ?_
 by_cases hf : faultE [a, b] p = 0
 · obtain ⟨hv, hp8, hp5⟩ := fault_prec hf
   have oa := Dy.Ok.of wa.li (hv a (by simp))
   have ob := Dy.Ok.of wb.li (hv b (by simp))
   obtain ⟨P, rfl⟩ : ∃ P : Nat, p = P := ⟨p.toNat, by omega⟩
   obtain ⟨s1, s2, s3, s4⟩ := sum_size oa ob
   have xc := exact_cq (a.sum b) P up s1 s2 s3 s4 (by omega)
   simp [hf]
   refine WL_call rfl rfl rfl (Sum_cq a b oa.toM ob.toM) ?_
   simp
   refine WL_call rfl rfl rfl xc ?_
   simp [rAdd, hf, lim]
 · simp [hf, rAdd, Dy.zero, lim]

end Go.Abs.W

/- MADE BY A PROGRAM (wip/tools/gen_iva.py). Package interval and its reference: functions with two rounded ends. -/
namespace Go.Abs.W

def Iv.made (r s : Dy × Int) : Iv := if r.2 = 0 ∧ s.2 = 0 then ⟨r.1, s.1, false⟩ else Iv.whole
def Iv.add (x y : Iv) (p : Int) : Iv := if (x.known && y.known && precB p) = true then Iv.made (rAdd x.lo y.lo p false) (rAdd x.hi y.hi p true) else Iv.whole
def Iv.neg (x : Iv) : Iv := if x.known = true then ⟨x.hi.neg', x.lo.neg', false⟩ else Iv.whole
def Iv.scl (x : Iv) (k : Int) : Iv := if x.known = true then Iv.made (x.lo.scl k, x.lo.sclE k) (x.hi.scl k, x.hi.sclE k) else Iv.whole
def Iv.sgn (x : Iv) : Int := if x.known = true then (if 0 < x.lo.sgn then 1 else if x.hi.sgn < 0 then -1 else 0) else 0
def Iv.sqrt (x : Iv) (p : Int) : Iv := if (x.known && precB p && decide (0 < x.lo.sgn)) = true then Iv.made (rSqrt x.lo p false) (rSqrt x.hi p true) else Iv.whole

theorem Dy.zero_W : Dy.zero.W := Dy.zero_ok.w
theorem Iv.whole_W : Iv.whole.W := ⟨Dy.zero_W, Dy.zero_W⟩
theorem rRound_ok {d : Dy} {p : Int} {up : Bool} : (rRound d p up).1.Ok := by
 unfold rRound; split
 · rename_i h; obtain ⟨_, h1, h2⟩ := fault_prec h; exact cutR_ok (by omega) (by omega)
 · exact Dy.zero_ok
theorem rAdd_ok {a b : Dy} {p : Int} {up : Bool} : (rAdd a b p up).1.Ok := by
 unfold rAdd; split
 · rename_i h; obtain ⟨_, h1, h2⟩ := fault_prec h; exact cutR_ok (by omega) (by omega)
 · exact Dy.zero_ok
theorem rMul_ok {a b : Dy} {p : Int} {up : Bool} : (rMul a b p up).1.Ok := by
 unfold rMul; split
 · rename_i h; obtain ⟨_, h1, h2⟩ := fault_prec h; exact cutR_ok (by omega) (by omega)
 · exact Dy.zero_ok
theorem rDiv_ok {a b : Dy} {p : Int} {up : Bool} : (rDiv a b p up).1.Ok := by
 unfold rDiv; split
 · rename_i h; obtain ⟨_, h1, h2⟩ := fault_prec h
   split
   · exact Dy.zero_ok
   · split
     · exact Dy.zero_ok
     · exact cutR_ok (by omega) (by omega)
 · exact Dy.zero_ok
theorem rSqrt_ok {d : Dy} {p : Int} {up : Bool} : (rSqrt d p up).1.Ok := by
 unfold rSqrt; split
 · rename_i h; obtain ⟨_, h1, h2⟩ := fault_prec h
   split
   · exact Dy.zero_ok
   · split
     · exact Dy.zero_ok
     · exact cutR_ok (by omega) (by omega)
 · exact Dy.zero_ok
theorem chk_ok {neg : Bool} {n : Nat} {e : Int} : (Dy.of neg n e).chk.Ok := by
 unfold Dy.chk; split
 · rename_i h; exact Dy.of_ok h
 · exact Dy.zero_ok
theorem scl_ok {d : Dy} {k : Int} : (d.scl k).Ok := by
 unfold Dy.scl; split
 · exact chk_ok
 · exact Dy.zero_ok
theorem made_W {r s : Dy × Int} (hr : r.1.W) (hs : s.1.W) : (Iv.made r s).W := by
 unfold Iv.made; split
 · exact ⟨hr, hs⟩
 · exact Iv.whole_W

theorem imade_cq (r s : Dy × Int) : CQ prog g_interval_made [r.1.v, .int .i64 r.2, s.1.v, .int .i64 s.2] (Iv.made r s).v := by
 refine CQ_run rfl fun H => ?_
 by_cases hr : r.2 = 0
 · by_cases hs : s.2 = 0
   · simp [hr, hs, Iv.made, lim]
   · simp [hr, hs]
     refine WL_call rfl rfl rfl iWhole_cq ?_
     simp [Iv.made, hs, lim]
 · simp [hr]
   refine WL_call rfl rfl rfl iWhole_cq ?_
   simp [Iv.made, hr, lim]
theorem Rmade_cq (r s : Dy × Int) : CQ prog g_fpref05_made [r.1.v, .int .i64 r.2, s.1.v, .int .i64 s.2] (Iv.made r s).v := by
 refine CQ_run rfl fun H => ?_
 by_cases hr : r.2 = 0
 · by_cases hs : s.2 = 0
   · simp [hr, hs, Iv.made, lim]
   · simp [hr, hs]
     refine WL_call rfl rfl rfl RWhole_cq ?_
     simp [Iv.made, hs, lim]
 · simp [hr]
   refine WL_call rfl rfl rfl RWhole_cq ?_
   simp [Iv.made, hr, lim]
theorem permitted_cq (p : Int) : CQ prog g_interval_permitted [.int .i64 p] (.bool (precB p)) := by
 refine CQ_run rfl fun H => ?_
 simp [precB]
 grind
theorem RPrec5_cq (p : Int) : CQ prog g_fpref05_Prec [.int .i64 p] (.bool (precB p)) := by
 refine CQ_run rfl fun H => ?_
 simp [precB]
 grind

theorem opp_neg' {d : Dy} (h : d.Ok) : d.opp = d.neg' := by
 unfold Dy.opp Dy.neg'
 rw [h.valid]
 by_cases hm : d.m = []
 · obtain ⟨h1, h2⟩ := h.zero hm
   simp [hm, h2, Dy.zero]
 · simp [hm]
theorem neg'_ok {d : Dy} (h : d.Ok) : d.neg'.Ok := by
 refine ⟨h.li, h.tr, h.len, ?_, h.odd, h.bits, h.elo, h.ehi, h.top⟩
 intro hm
 have hm' : d.m = [] := hm
 exact ⟨by simp [Dy.neg', hm'], (h.zero hm').2⟩
theorem neg_W {x : Iv} (w : x.W) : x.neg.W := by
 unfold Iv.neg; split
 · rename_i h
   obtain ⟨h1, h2⟩ := known_ok w h
   exact ⟨(neg'_ok h2).w, (neg'_ok h1).w⟩
 · exact Iv.whole_W
theorem add_W {x y : Iv} {p : Int} : (x.add y p).W := by
 unfold Iv.add; split
 · exact made_W rAdd_ok.w rAdd_ok.w
 · exact Iv.whole_W

theorem IAdd_cq (x y : Iv) (p : Int) (wx : x.W) (wy : y.W) : CQ prog g_interval_Add [x.v, y.v, .int .i64 p] (x.add y p).v := by
 refine CQ_run rfl fun H => ?_
 simp
 refine WL_callH rfl rfl (H1 := H ++ [some ⟨7, [x.v], false, true⟩, some ⟨7, [y.v], false, true⟩, some ⟨7, [.agg [.bool false, .nil, .int .i64 0, .bool false, .nil, .int .i64 0, .bool false]], false, true⟩, some ⟨7, [x.v, y.v], true, false⟩]) (vs := [ivs [x, y]]) (by simp [prep, frzVs, frzV]; rfl) (known_cq [x, y] (by simp) (by simp; exact ⟨wx, wy⟩)) ?_
 cases hk : x.known && y.known
 · have : ([x, y].all Iv.known) = false := by simpa using hk
   simp only [this]
   simp
   refine WL_call rfl rfl rfl iWhole_cq ?_
   simp [Iv.add, hk, lim]
 · have : ([x, y].all Iv.known) = true := by simpa using hk
   simp only [this]
   simp
   refine WL_call rfl rfl rfl (permitted_cq p) ?_
   cases hp : precB p
   · simp
     refine WL_call rfl rfl rfl iWhole_cq ?_
     simp [Iv.add, hp, lim]
   · simp
     refine WL_call rfl rfl rfl (AddDown_cq x.lo y.lo p wx.lo wy.lo) ?_
     simp
     refine WL_call rfl rfl rfl (AddUp_cq x.hi y.hi p wx.hi wy.hi) ?_
     simp
     refine WL_call rfl rfl rfl (imade_cq (rAdd x.lo y.lo p false) (rAdd x.hi y.hi p true)) ?_
     simp [Iv.add, hk, hp, lim]

theorem RIAdd_cq (x y : Iv) (p : Int) (wx : x.W) (wy : y.W) : CQ prog g_fpref05_Add [x.v, y.v, .int .i64 p] (x.add y p).v := by
 refine CQ_run rfl fun H => ?_
 simp
 refine WL_call rfl rfl rfl (RPrec5_cq p) ?_
 cases hp : precB p
 · simp
   refine WL_call rfl rfl rfl RWhole_cq ?_
   simp [Iv.add, hp, lim]
 · simp
   refine WL_call rfl rfl rfl (Rknown_cq x wx) ?_
   cases hx : x.known
   · simp
     refine WL_call rfl rfl rfl RWhole_cq ?_
     simp [Iv.add, hx, lim]
   · simp
     refine WL_call rfl rfl rfl (Rknown_cq y wy) ?_
     cases hy : y.known
     · simp
       refine WL_call rfl rfl rfl RWhole_cq ?_
       simp [Iv.add, hy, lim]
     · simp
       refine WL_call rfl rfl rfl (RAdd3_cq x.lo y.lo p false wx.lo wy.lo) ?_
       simp
       refine WL_call rfl rfl rfl (RAdd3_cq x.hi y.hi p true wx.hi wy.hi) ?_
       simp
       refine WL_call rfl rfl rfl (Rmade_cq (rAdd x.lo y.lo p false) (rAdd x.hi y.hi p true)) ?_
       simp [Iv.add, hx, hy, hp, lim]

theorem INeg_cq (x : Iv) (wx : x.W) : CQ prog g_interval_Neg [x.v] x.neg.v := by
 refine CQ_run rfl fun H => ?_
 simp
 refine WL_callH rfl rfl (H1 := H ++ [some ⟨7, [x.v], false, true⟩, some ⟨7, [.agg [.bool false, .nil, .int .i64 0, .bool false, .nil, .int .i64 0, .bool false]], false, true⟩, some ⟨7, [x.v], true, false⟩]) (vs := [ivs [x]]) (by simp [prep, frzVs, frzV]; rfl) (known_cq [x] (by simp) (by simpa using wx)) ?_
 cases hk : x.known
 · simp [hk]
   refine WL_call rfl rfl rfl iWhole_cq ?_
   simp [Iv.neg, hk, lim]
 · obtain ⟨h1, h2⟩ := known_ok wx hk
   have n1 := DNeg_cq x.lo wx.lo
   have n2 := DNeg_cq x.hi wx.hi
   rw [opp_neg' h1] at n1
   rw [opp_neg' h2] at n2
   simp [hk]
   refine WL_call rfl rfl rfl n2 ?_
   simp
   refine WL_call rfl rfl rfl n1 ?_
   simp [Iv.neg, hk, lim]

theorem RINeg_cq (x : Iv) (wx : x.W) : CQ prog g_fpref05_Neg [x.v] x.neg.v := by
 refine CQ_run rfl fun H => ?_
 simp
 refine WL_call rfl rfl rfl (Rknown_cq x wx) ?_
 cases hk : x.known
 · simp
   refine WL_call rfl rfl rfl RWhole_cq ?_
   simp [Iv.neg, hk, lim]
 · simp
   refine WL_call rfl rfl rfl (Neg_cq x.hi) ?_
   simp
   refine WL_call rfl rfl rfl (Neg_cq x.lo) ?_
   simp [Iv.neg, hk, lim]

theorem ISub_cq (x y : Iv) (p : Int) (wx : x.W) (wy : y.W) : CQ prog g_interval_Sub [x.v, y.v, .int .i64 p] (x.add y.neg p).v := by
 refine CQ_run rfl fun H => ?_
 simp
 refine WL_call rfl rfl rfl (INeg_cq y wy) ?_
 simp
 refine WL_call rfl rfl rfl (IAdd_cq x y.neg p wx (neg_W wy)) ?_
 simp [lim]
theorem RISub_cq (x y : Iv) (p : Int) (wx : x.W) (wy : y.W) : CQ prog g_fpref05_Sub [x.v, y.v, .int .i64 p] (x.add y.neg p).v := by
 refine CQ_run rfl fun H => ?_
 simp
 refine WL_call rfl rfl rfl (RINeg_cq y wy) ?_
 simp
 refine WL_call rfl rfl rfl (RIAdd_cq x y.neg p wx (neg_W wy)) ?_
 simp [lim]

theorem IScale_cq (x : Iv) (k : Int) (wx : x.W) : CQ prog g_interval_Scale [x.v, .int .i64 k] (x.scl k).v := by
 refine CQ_run rfl fun H => ?_
 simp
 refine WL_callH rfl rfl (H1 := H ++ [some ⟨7, [x.v], false, true⟩, some ⟨7, [.agg [.bool false, .nil, .int .i64 0, .bool false, .nil, .int .i64 0, .bool false]], false, true⟩, some ⟨7, [x.v], true, false⟩]) (vs := [ivs [x]]) (by simp [prep, frzVs, frzV]; rfl) (known_cq [x] (by simp) (by simpa using wx)) ?_
 cases hk : x.known
 · simp [hk]
   refine WL_call rfl rfl rfl iWhole_cq ?_
   simp [Iv.scl, hk, lim]
 · simp [hk]
   refine WL_call rfl rfl rfl (DScale_cq x.lo k wx.lo) ?_
   simp
   refine WL_call rfl rfl rfl (DScale_cq x.hi k wx.hi) ?_
   simp
   refine WL_call rfl rfl rfl (imade_cq (x.lo.scl k, x.lo.sclE k) (x.hi.scl k, x.hi.sclE k)) ?_
   simp [Iv.scl, hk, lim]
theorem ISign_cq (x : Iv) (wx : x.W) : CQ prog g_interval_Sign [x.v] (.int .i64 x.sgn) := by
 refine CQ_run rfl fun H => ?_
 simp
 refine WL_callH rfl rfl (H1 := H ++ [some ⟨7, [x.v], false, true⟩, some ⟨7, [x.v], true, false⟩]) (vs := [ivs [x]]) (by simp [prep, frzVs, frzV]; rfl) (known_cq [x] (by simp) (by simpa using wx)) ?_
 cases hk : x.known
 · simp [hk, Iv.sgn]
 · obtain ⟨h1, h2⟩ := known_ok wx hk
   have s1 := Sign_cq x.lo wx.lo
   have s2 := Sign_cq x.hi wx.hi
   rw [h1.valid] at s1
   rw [h2.valid] at s2
   simp [hk]
   refine WL_call rfl rfl rfl s1 ?_
   by_cases hp : 0 < x.lo.sgn
   · simp [Iv.sgn, hk, hp]
   · simp [hp]
     refine WL_call rfl rfl rfl s2 ?_
     by_cases hn : x.hi.sgn < 0
     · simp [Iv.sgn, hk, hp, hn]
     · simp [Iv.sgn, hk, hp, hn]
theorem ISqrt_cq (x : Iv) (p : Int) (wx : x.W) : CQ prog g_interval_Sqrt [x.v, .int .i64 p] (x.sqrt p).v := by
 refine CQ_run rfl fun H => ?_
 simp
 refine WL_callH rfl rfl (H1 := H ++ [some ⟨7, [x.v], false, true⟩, some ⟨7, [.agg [.bool false, .nil, .int .i64 0, .bool false, .nil, .int .i64 0, .bool false]], false, true⟩, some ⟨7, [x.v], true, false⟩]) (vs := [ivs [x]]) (by simp [prep, frzVs, frzV]; rfl) (known_cq [x] (by simp) (by simpa using wx)) ?_
 cases hk : x.known
 · simp [hk]
   refine WL_call rfl rfl rfl iWhole_cq ?_
   simp [Iv.sqrt, hk, lim]
 · obtain ⟨h1, h2⟩ := known_ok wx hk
   have s1 := Sign_cq x.lo wx.lo
   rw [h1.valid] at s1
   simp [hk]
   refine WL_call rfl rfl rfl (permitted_cq p) ?_
   cases hp : precB p
   · simp
     refine WL_call rfl rfl rfl iWhole_cq ?_
     simp [Iv.sqrt, hp, lim]
   · simp
     refine WL_call rfl rfl rfl s1 ?_
     by_cases hs : 0 < x.lo.sgn
     · have hs' : ¬ x.lo.sgn ≤ 0 := by omega
       simp [hs']
       refine WL_call rfl rfl rfl (SqrtDown_cq x.lo p wx.lo) ?_
       simp
       refine WL_call rfl rfl rfl (SqrtUp_cq x.hi p wx.hi) ?_
       simp
       refine WL_call rfl rfl rfl (imade_cq (rSqrt x.lo p false) (rSqrt x.hi p true)) ?_
       simp [Iv.sqrt, hk, hp, hs, lim]
     · have hs' : x.lo.sgn ≤ 0 := by omega
       simp [hs']
       refine WL_call rfl rfl rfl iWhole_cq ?_
       simp [Iv.sqrt, hs, lim]
end Go.Abs.W

/- Package interval: absolute values, and the four products of ends. -/
namespace Go.Abs.W

theorem cmp_ok {a b : Dy} (ha : a.Ok) (hb : b.Ok) : a.cmp b = cmpI a.val b.val := by simp [Dy.cmp, ha.valid, hb.valid]
theorem cmpI_le {x y : Int} : cmpI x y ≤ 0 ↔ x ≤ y := by unfold cmpI; split <;> (try split) <;> omega
theorem cmpI_ge {x y : Int} : 0 ≤ cmpI x y ↔ y ≤ x := by unfold cmpI; split <;> (try split) <;> omega
theorem cmpI_lt {x y : Int} : cmpI x y < 0 ↔ x < y := by unfold cmpI; split <;> (try split) <;> omega
theorem cmpI_gt {x y : Int} : 0 < cmpI x y ↔ y < x := by unfold cmpI; split <;> (try split) <;> omega

theorem lo2_min {a b : Dy} (ha : a.Ok) (hb : b.Ok) : (a.lo2 b).val = min a.val b.val := by
 unfold Dy.lo2; rw [cmp_ok ha hb]; split
 · rename_i h; rw [cmpI_le] at h; omega
 · rename_i h; rw [cmpI_le] at h; omega
theorem hi2_max {a b : Dy} (ha : a.Ok) (hb : b.Ok) : (a.hi2 b).val = max a.val b.val := by
 unfold Dy.hi2; rw [cmp_ok ha hb]; split
 · rename_i h; rw [cmpI_ge] at h; omega
 · rename_i h; rw [cmpI_ge] at h; omega

theorem val_neg' {d : Dy} : d.neg'.val = - d.val := by
 by_cases hm : d.m = []
 · have h1 : d.absN = 0 := Dy.absN_nil hm
   have h2 : d.neg'.absN = 0 := Dy.absN_nil hm
   simp [Dy.val, h1, h2]
 · have h2 : d.neg'.absN = d.absN := rfl
   have h3 : d.neg'.neg = !d.neg := by simp [Dy.neg', hm]
   unfold Dy.val
   rw [h2, h3]
   cases d.neg <;> simp
theorem sgn_val {d : Dy} (h : d.Ok) : (0 < d.sgn ↔ 0 < d.val) ∧ (d.sgn < 0 ↔ d.val < 0) := by
 by_cases hm : d.m = []
 · have h1 : d.absN = 0 := Dy.absN_nil hm
   simp [Dy.sgn, Dy.val, hm, h1]
 · have h1 := h.absN_ne hm
   unfold Dy.sgn Dy.val
   rw [if_neg hm]
   cases d.neg <;> simp <;> omega
theorem abs_ok {d : Dy} (h : d.Ok) : d.abs.Ok := by
 unfold Dy.abs
 split
 · rename_i h2
   exact ⟨h.li, h.tr, h.len, fun hm => absurd hm h2.2, h.odd, h.bits, h.elo, h.ehi, h.top⟩
 · exact Dy.zero_ok
theorem zero_val : Dy.zero.val = 0 := by
 unfold Dy.val
 rw [Dy.absN_nil rfl]
 rfl
theorem abs_val {d : Dy} (h : d.Ok) : d.abs.val = d.val.natAbs := by
 unfold Dy.abs
 rw [h.valid]
 by_cases hm : d.m = []
 · have h1 : d.absN = 0 := Dy.absN_nil hm
   simp [hm, zero_val]
   simp [Dy.val, h1]
 · have h2 : (⟨false, d.m, d.e⟩ : Dy).absN = d.absN := rfl
   simp only [true_and, if_pos hm, ne_eq, hm, not_false_eq_true, if_true]
   unfold Dy.val
   rw [h2]
   cases d.neg <;> simp
theorem known_le {x : Iv} (w : x.W) (h : x.known = true) : x.lo.val ≤ x.hi.val := by
 obtain ⟨h1, h2⟩ := known_ok w h
 simp [Iv.known] at h
 have hv := h.2
 rw [Iv.valid, if_neg (by simp [h.1])] at hv
 simp [cmp_ok h1 h2, cmpI_le] at hv
 exact hv.2

def Iv.mag (x : Iv) : Dy := x.lo.abs.hi2 x.hi.abs
def Iv.mig (x : Iv) : Dy := if x.sgn = 0 then Dy.zero else x.lo.abs.lo2 x.hi.abs
def Iv.abs (x : Iv) : Iv := if x.known = true then ⟨x.mig, x.mag, false⟩ else Iv.whole

theorem mag_ok {x : Iv} (w : x.W) (h : x.known = true) : x.mag.Ok := hi2_ok (abs_ok (known_ok w h).1) (abs_ok (known_ok w h).2)
theorem mig_ok {x : Iv} (w : x.W) (h : x.known = true) : x.mig.Ok := by
 unfold Iv.mig; split
 · exact Dy.zero_ok
 · exact lo2_ok (abs_ok (known_ok w h).1) (abs_ok (known_ok w h).2)
theorem IMag_cq (x : Iv) (wx : x.W) : CQ prog g_interval_Mag [x.v] (.tup [(if x.known = true then x.mag else Dy.zero).v, .bool x.known]) := by
 refine CQ_run rfl fun H => ?_
 simp
 refine WL_callH rfl rfl (H1 := H ++ [some ⟨7, [x.v], false, true⟩, some ⟨3, [.agg [.bool false, .nil, .int .i64 0]], false, true⟩, some ⟨7, [x.v], true, false⟩]) (vs := [ivs [x]]) (by simp [prep, frzVs, frzV]; rfl) (known_cq [x] (by simp) (by simpa using wx)) ?_
 cases hk : x.known
 · simp [hk, Dy.zero, lim]
 · obtain ⟨h1, h2⟩ := known_ok wx hk
   simp [hk]
   refine WL_call rfl rfl rfl (DAbs_cq x.lo wx.lo) ?_
   simp
   refine WL_call rfl rfl rfl (DAbs_cq x.hi wx.hi) ?_
   simp
   refine WL_call rfl rfl rfl (imore_cq x.lo.abs x.hi.abs (abs_ok h1).w (abs_ok h2).w) ?_
   simp [Iv.mag, lim]

theorem IMig_cq (x : Iv) (wx : x.W) : CQ prog g_interval_Mig [x.v] (.tup [(if x.known = true then x.mig else Dy.zero).v, .bool x.known]) := by
 refine CQ_run rfl fun H => ?_
 simp
 refine WL_callH rfl rfl (H1 := H ++ [some ⟨7, [x.v], false, true⟩, some ⟨3, [.agg [.bool false, .nil, .int .i64 0]], false, true⟩, some ⟨7, [x.v], true, false⟩]) (vs := [ivs [x]]) (by simp [prep, frzVs, frzV]; rfl) (known_cq [x] (by simp) (by simpa using wx)) ?_
 cases hk : x.known
 · simp [hk, Dy.zero, lim]
 · obtain ⟨h1, h2⟩ := known_ok wx hk
   simp [hk]
   refine WL_call rfl rfl rfl (ISign_cq x wx) ?_
   by_cases hs : x.sgn = 0
   · simp [hs, Iv.mig, Dy.zero, lim]
   · simp [hs]
     refine WL_call rfl rfl rfl (DAbs_cq x.lo wx.lo) ?_
     simp
     refine WL_call rfl rfl rfl (DAbs_cq x.hi wx.hi) ?_
     simp
     refine WL_call rfl rfl rfl (iless_cq x.lo.abs x.hi.abs (abs_ok h1).w (abs_ok h2).w) ?_
     simp [Iv.mig, hs, lim]

theorem IAbs_cq (x : Iv) (wx : x.W) : CQ prog g_interval_Abs [x.v] x.abs.v := by
 refine CQ_run rfl fun H => ?_
 have m1 := IMig_cq x wx
 have m2 := IMag_cq x wx
 simp
 refine WL_callH rfl rfl (H1 := H ++ [some ⟨7, [x.v], false, true⟩, some ⟨7, [.agg [.bool false, .nil, .int .i64 0, .bool false, .nil, .int .i64 0, .bool false]], false, true⟩, some ⟨7, [x.v], true, false⟩]) (vs := [ivs [x]]) (by simp [prep, frzVs, frzV]; rfl) (known_cq [x] (by simp) (by simpa using wx)) ?_
 cases hk : x.known
 · simp [hk]
   refine WL_call rfl rfl rfl iWhole_cq ?_
   simp [Iv.abs, hk, lim]
 · rw [hk] at m1 m2
   simp at m1 m2
   simp [hk]
   refine WL_call rfl rfl rfl m1 ?_
   simp
   refine WL_call rfl rfl rfl m2 ?_
   simp [Iv.abs, hk, lim]
/-- The pairs of ends. -/
def pairs (x y : Iv) : List (Dy × Dy) := [(x.lo, y.lo), (x.lo, y.hi), (x.hi, y.lo), (x.hi, y.hi)]
def accLo (f : Dy → Dy → Dy × Int) : List (Dy × Dy) → Nat → Dy
 | _, 0 => Dy.zero
 | l, i + 1 => if i = 0 then (f ((l.getD i (Dy.zero, Dy.zero)).1) ((l.getD i (Dy.zero, Dy.zero)).2)).1 else (accLo f l i).lo2 (f ((l.getD i (Dy.zero, Dy.zero)).1) ((l.getD i (Dy.zero, Dy.zero)).2)).1
def accHi (f : Dy → Dy → Dy × Int) : List (Dy × Dy) → Nat → Dy
 | _, 0 => Dy.zero
 | l, i + 1 => if i = 0 then (f ((l.getD i (Dy.zero, Dy.zero)).1) ((l.getD i (Dy.zero, Dy.zero)).2)).1 else (accHi f l i).hi2 (f ((l.getD i (Dy.zero, Dy.zero)).1) ((l.getD i (Dy.zero, Dy.zero)).2)).1
/-- The least and the greatest of the results for the ends. -/
def Iv.four (f g : Dy → Dy → Dy × Int) (x y : Iv) : Iv :=
 if (pairs x y).all (fun q => decide ((f q.1 q.2).2 = 0) && decide ((g q.1 q.2).2 = 0)) = true then ⟨accLo f (pairs x y) 4, accHi g (pairs x y) 4, false⟩ else Iv.whole

theorem cmp_flip {a b : Dy} (ha : a.Ok) (hb : b.Ok) : (b.cmp a < 0 ↔ ¬ a.cmp b ≤ 0) ∧ (0 < b.cmp a ↔ ¬ 0 ≤ a.cmp b) := by
 rw [cmp_ok ha hb, cmp_ok hb ha, cmpI_lt, cmpI_gt, cmpI_le, cmpI_ge]; omega

end Go.Abs.W

/- Package interval: products and quotients. -/
namespace Go.Abs.W

def zIv : V := .agg [.bool false, .nil, .int .i64 0, .bool false, .nil, .int .i64 0, .bool false]
/-- One round of four, for a pair of ends. -/
theorem four_round {n0 : Nat} {Q : AX → Env → Heap → Prop} (H G : Heap) (E : Env) (x y : Iv) (p : Int) (gd gu : Nat) (f g : Dy → Dy → Dy × Int)
   (hd : ∀ H args, prep prog gd H args = frzVs H args) (hu : ∀ H args, prep prog gu H args = frzVs H args)
   (cd : ∀ a b : Dy, a.W → b.W → CQ prog gd [a.v, b.v, .int .i64 p] (.tup [(f a b).1.v, .int .i64 (f a b).2])) (cu : ∀ a b : Dy, a.W → b.W → CQ prog gu [a.v, b.v, .int .i64 p] (.tup [(g a b).1.v, .int .i64 (g a b).2]))
   (okf : ∀ a b, (f a b).1.Ok) (okg : ∀ a b, (g a b).1.Ok) (i : Nat) (hi : i < 4) (a b : Dy) (wa : a.W) (wb : b.W) (cs : List V) (A : Blk)
   (hl6 : 6 ≤ cs.length - i * 6) (ht6 : List.take 6 (List.drop (i * 6) cs) = [.bool a.neg, lim a.m, .int .i64 a.e, .bool b.neg, lim b.m, .int .i64 b.e])
   (lo hi2 : Dy) (olo : lo.Ok) (ohi : hi2.Ok) (w : V) (hw : (i = 0 ∧ w = zIv) ∨ (i ≠ 0 ∧ w = Iv.v ⟨lo, hi2, false⟩))
   (h2 : E 2 = .int .i64 p) (h3 : E 3 = .fn gd []) (h4 : E 4 = .fn gu []) (h10 : E 10 = .ptr (H.length + 2) 0 0) (h12 : E 12 = .ptr (H.length + 4) 0 0) (h40 : E 40 = .agg cs) (h41 : E 41 = .int .i64 i)
   (hbad : ((f a b).2 ≠ 0 ∨ (g a b).2 ≠ 0) → ∀ E1 G1, E1 10 = .ptr (H.length + 2) 0 0 → Q .ret E1 (H ++ some ⟨7, [x.v], false, true⟩ :: some ⟨7, [y.v], false, true⟩ :: some ⟨7, [Iv.whole.v], false, true⟩ :: some A :: some ⟨7, [w], false, true⟩ :: G1))
   (hgood : (f a b).2 = 0 → (g a b).2 = 0 → ∀ E1 G1, E1 2 = .int .i64 p → E1 3 = .fn gd [] → E1 4 = .fn gu [] → E1 10 = .ptr (H.length + 2) 0 0 → E1 12 = .ptr (H.length + 4) 0 0 → E1 40 = .agg cs → E1 41 = .int .i64 ((i + 1 : Nat) : Int) →
     Q .normal E1 (H ++ some ⟨7, [x.v], false, true⟩ :: some ⟨7, [y.v], false, true⟩ :: some ⟨7, [zIv], false, true⟩ :: some A :: some ⟨7, [Iv.v ⟨if i = 0 then (f a b).1 else lo.lo2 (f a b).1, if i = 0 then (g a b).1 else hi2.hi2 (g a b).1, false⟩], false, true⟩ :: G1)) (hn0 : n0 = H.length) :
   WK prog n0 c_interval_four_l0 [] E (H ++ some ⟨7, [x.v], false, true⟩ :: some ⟨7, [y.v], false, true⟩ :: some ⟨7, [zIv], false, true⟩ :: some A :: some ⟨7, [w], false, true⟩ :: G) Q := by
 subst hn0
 have e1 : IntKind.i64.wrap ((i : Int) + 1) = ((i + 1 : Nat) : Int) := by rw [wrap_i64] <;> omega
 have c1 := cd a b wa wb
 have c2 := cu a b wa wb
 have hi' : (i : Int) < 4 := by omega
 simp [c_interval_four_l0, h2, h3, h4, h10, h12, h40, h41, hi, hi', hl6, ht6]
 refine WL_call (g := gd) (caps := []) (args := [a.v, b.v, .int .i64 p]) (vs := [a.v, b.v, .int .i64 p]) rfl rfl (by rw [hd]; rfl) c1 ?_
 simp [h4, h2]
 refine WL_call (g := gu) (caps := []) (args := [a.v, b.v, .int .i64 p]) (vs := [a.v, b.v, .int .i64 p]) rfl rfl (by rw [hu]; rfl) c2 ?_
 by_cases b1 : (f a b).2 = 0
 · by_cases b2 : (g a b).2 = 0
   · rcases hw with ⟨rfl, rfl⟩ | ⟨h0, rfl⟩
     · simp [b1, b2, zIv, h41, h12]
       simp [zIv] at hgood
       exact hgood b1 b2 _ _ (by simp [h2]) (by simp [h3]) (by simp [h4]) (by simp [h10]) (by simp [h12]) (by simp [h40]) (by simpa using e1)
     · have h0' : ¬ (i : Int) = 0 := by omega
       simp [b1, b2, h0, h0', h41, h12, zIv]
       simp [zIv, h0] at hgood
       obtain ⟨f1, f2⟩ := cmp_flip olo (okf a b)
       obtain ⟨f3, f4⟩ := cmp_flip ohi (okg a b)
       refine WL_call rfl rfl rfl (DCmp_cq _ _ (okf a b).w olo.w) ?_
       by_cases q1 : (f a b).1.cmp lo < 0
       · simp [q1, h0, h0', h12, h41]
         refine WL_call rfl rfl rfl (DCmp_cq _ _ (okg a b).w ohi.w) ?_
         by_cases q2 : 0 < (g a b).1.cmp hi2
         · simp [q2, h0, h12, h41]
           have q3 := f1.1 q1
           have q4 := f4.1 q2
           simp [Dy.lo2, Dy.hi2, q3, q4] at hgood
           exact hgood b1 b2 _ _ (by simp [h2]) (by simp [h3]) (by simp [h4]) (by simp [h10]) (by simp [h12]) (by simp [h40]) (by simp [e1])
         · simp [q2, h0, h12, h41]
           have q3 := f1.1 q1
           have q4 : 0 ≤ hi2.cmp (g a b).1 := Decidable.byContradiction fun h => q2 (f4.2 h)
           simp [Dy.lo2, Dy.hi2, q3, q4] at hgood
           exact hgood b1 b2 _ _ (by simp [h2]) (by simp [h3]) (by simp [h4]) (by simp [h10]) (by simp [h12]) (by simp [h40]) (by simp [e1])
       · simp [q1, h0, h0', h12, h41]
         have q3 : lo.cmp (f a b).1 ≤ 0 := Decidable.byContradiction fun h => q1 (f1.2 h)
         refine WL_call rfl rfl rfl (DCmp_cq _ _ (okg a b).w ohi.w) ?_
         by_cases q2 : 0 < (g a b).1.cmp hi2
         · simp [q2, h0, h12, h41]
           have q4 := f4.1 q2
           simp [Dy.lo2, Dy.hi2, q3, q4] at hgood
           exact hgood b1 b2 _ _ (by simp [h2]) (by simp [h3]) (by simp [h4]) (by simp [h10]) (by simp [h12]) (by simp [h40]) (by simp [e1])
         · simp [q2, h0, h12, h41]
           have q4 : 0 ≤ hi2.cmp (g a b).1 := Decidable.byContradiction fun h => q2 (f4.2 h)
           simp [Dy.lo2, Dy.hi2, q3, q4] at hgood
           exact hgood b1 b2 _ _ (by simp [h2]) (by simp [h3]) (by simp [h4]) (by simp [h10]) (by simp [h12]) (by simp [h40]) (by simp [e1])
   · simp [b1, b2]
     refine WL_call rfl rfl rfl iWhole_cq ?_
     simp [h10]
     simp [zIv] at hbad
     exact hbad (.inr b2) _ _ (by simp [h10])
 · simp [b1]
   refine WL_call rfl rfl rfl iWhole_cq ?_
   simp [h10]
   simp [zIv] at hbad
   exact hbad (.inl b1) _ _ (by simp [h10])

def pairAt (x y : Iv) (i : Nat) : Dy × Dy := (pairs x y).getD i (Dy.zero, Dy.zero)
def cells4 (x y : Iv) : List V := [.bool x.lo.neg, lim x.lo.m, .int .i64 x.lo.e, .bool y.lo.neg, lim y.lo.m, .int .i64 y.lo.e, .bool x.lo.neg, lim x.lo.m, .int .i64 x.lo.e, .bool y.hi.neg, lim y.hi.m, .int .i64 y.hi.e,
 .bool x.hi.neg, lim x.hi.m, .int .i64 x.hi.e, .bool y.lo.neg, lim y.lo.m, .int .i64 y.lo.e, .bool x.hi.neg, lim x.hi.m, .int .i64 x.hi.e, .bool y.hi.neg, lim y.hi.m, .int .i64 y.hi.e]
theorem cells4_at {x y : Iv} {i : Nat} (hi : i < 4) : 6 ≤ (cells4 x y).length - i * 6 ∧ List.take 6 (List.drop (i * 6) (cells4 x y)) = [.bool (pairAt x y i).1.neg, lim (pairAt x y i).1.m, .int .i64 (pairAt x y i).1.e, .bool (pairAt x y i).2.neg, lim (pairAt x y i).2.m, .int .i64 (pairAt x y i).2.e] := by
 obtain rfl | rfl | rfl | rfl : i = 0 ∨ i = 1 ∨ i = 2 ∨ i = 3 := by omega
 all_goals simp [cells4, pairAt, pairs]
theorem pairAt_W {x y : Iv} (wx : x.W) (wy : y.W) {i : Nat} (hi : i < 4) : (pairAt x y i).1.W ∧ (pairAt x y i).2.W := by
 obtain rfl | rfl | rfl | rfl : i = 0 ∨ i = 1 ∨ i = 2 ∨ i = 3 := by omega
 all_goals simp [pairAt, pairs, wx.lo, wx.hi, wy.lo, wy.hi]

theorem accLo_step {f : Dy → Dy → Dy × Int} {x y : Iv} {i : Nat} : accLo f (pairs x y) (i + 1) = if i = 0 then (f (pairAt x y i).1 (pairAt x y i).2).1 else (accLo f (pairs x y) i).lo2 (f (pairAt x y i).1 (pairAt x y i).2).1 := rfl
theorem accHi_step {f : Dy → Dy → Dy × Int} {x y : Iv} {i : Nat} : accHi f (pairs x y) (i + 1) = if i = 0 then (f (pairAt x y i).1 (pairAt x y i).2).1 else (accHi f (pairs x y) i).hi2 (f (pairAt x y i).1 (pairAt x y i).2).1 := rfl
theorem accLo_ok {f : Dy → Dy → Dy × Int} (okf : ∀ a b, (f a b).1.Ok) {x y : Iv} : ∀ i, (accLo f (pairs x y) i).Ok
 | 0 => Dy.zero_ok
 | i + 1 => by
   rw [accLo_step]; split
   · exact okf _ _
   · exact lo2_ok (accLo_ok okf i) (okf _ _)
theorem accHi_ok {f : Dy → Dy → Dy × Int} (okf : ∀ a b, (f a b).1.Ok) {x y : Iv} : ∀ i, (accHi f (pairs x y) i).Ok
 | 0 => Dy.zero_ok
 | i + 1 => by
   rw [accHi_step]; split
   · exact okf _ _
   · exact hi2_ok (accHi_ok okf i) (okf _ _)
/-- All the results are there. -/
def good4 (f g : Dy → Dy → Dy × Int) (x y : Iv) (i : Nat) : Prop := ∀ j, j < i → (f (pairAt x y j).1 (pairAt x y j).2).2 = 0 ∧ (g (pairAt x y j).1 (pairAt x y j).2).2 = 0
theorem four_good {f g : Dy → Dy → Dy × Int} {x y : Iv} (h : good4 f g x y 4) : Iv.four f g x y = ⟨accLo f (pairs x y) 4, accHi g (pairs x y) 4, false⟩ := by
 have h0 := h 0 (by omega)
 have h1 := h 1 (by omega)
 have h2 := h 2 (by omega)
 have h3 := h 3 (by omega)
 simp [pairAt, pairs] at h0 h1 h2 h3
 unfold Iv.four
 rw [if_pos]
 simp [pairs, h0, h1, h2, h3]
theorem four_bad {f g : Dy → Dy → Dy × Int} {x y : Iv} {i : Nat} (hi : i < 4) (h : (f (pairAt x y i).1 (pairAt x y i).2).2 ≠ 0 ∨ (g (pairAt x y i).1 (pairAt x y i).2).2 ≠ 0) : Iv.four f g x y = Iv.whole := by
 unfold Iv.four
 rw [if_neg]
 intro hc
 simp [pairs] at hc
 obtain rfl | rfl | rfl | rfl : i = 0 ∨ i = 1 ∨ i = 2 ∨ i = 3 := by omega
 all_goals simp [pairAt, pairs] at h
 all_goals obtain ⟨a, b, c, d⟩ := hc
 all_goals rcases h with h | h
 all_goals simp_all

theorem four_cq (x y : Iv) (p : Int) (gd gu : Nat) (f g : Dy → Dy → Dy × Int) (wx : x.W) (wy : y.W)
   (hd : ∀ H args, prep prog gd H args = frzVs H args) (hu : ∀ H args, prep prog gu H args = frzVs H args)
   (cd : ∀ a b : Dy, a.W → b.W → CQ prog gd [a.v, b.v, .int .i64 p] (.tup [(f a b).1.v, .int .i64 (f a b).2])) (cu : ∀ a b : Dy, a.W → b.W → CQ prog gu [a.v, b.v, .int .i64 p] (.tup [(g a b).1.v, .int .i64 (g a b).2]))
   (okf : ∀ a b, (f a b).1.Ok) (okg : ∀ a b, (g a b).1.Ok) : CQ prog g_interval_four [x.v, y.v, .int .i64 p, .fn gd [], .fn gu []] (Iv.four f g x y).v := by
 refine CQ_run rfl fun H => ?_
 simp
 refine WK_loop (fun k E H' => ∃ i w G, k = 4 - i ∧ i ≤ 4 ∧ ((i = 0 ∧ w = zIv) ∨ (i ≠ 0 ∧ w = Iv.v ⟨accLo f (pairs x y) i, accHi g (pairs x y) i, false⟩)) ∧ good4 f g x y i ∧
   E 2 = .int .i64 p ∧ E 3 = .fn gd [] ∧ E 4 = .fn gu [] ∧ E 10 = .ptr (H.length + 2) 0 0 ∧ E 12 = .ptr (H.length + 4) 0 0 ∧ E 40 = .agg (cells4 x y) ∧ E 41 = .int .i64 i ∧
   H' = H ++ some ⟨7, [x.v], false, true⟩ :: some ⟨7, [y.v], false, true⟩ :: some ⟨7, [zIv], false, true⟩ :: some ⟨24, [.agg (cells4 x y)], false, true⟩ :: some ⟨7, [w], false, true⟩ :: G) 4 ?_ ?_
 · refine ⟨0, zIv, [], rfl, by omega, .inl ⟨rfl, rfl⟩, fun j hj => by omega, ?_, ?_, ?_, ?_, ?_, ?_, ?_, ?_⟩ <;> simp [cells4, zIv]
 · rintro k E H' ⟨i, w, G, hk, hi, hw, hg, h2, h3, h4, h10, h12, h40, h41, rfl⟩
   refine WC_round ?_
   by_cases h4' : i < 4
   · obtain ⟨hl, ht⟩ := cells4_at (x := x) (y := y) h4'
     obtain ⟨wa, wb⟩ := pairAt_W wx wy h4'
     refine four_round H G E x y p gd gu f g hd hu cd cu okf okg i h4' _ _ wa wb (cells4 x y) _ hl ht _ _ (accLo_ok okf i) (accHi_ok okg i) w hw h2 h3 h4 h10 h12 h40 h41 ?_ ?_ rfl
     · intro hb E1 G1 e10
       simp [e10, four_bad h4' hb, Iv.whole, lim]
     · intro b1 b2 E1 G1 e2 e3 e4 e10 e12 e40 e41
       refine ⟨4 - (i + 1), by omega, i + 1, _, G1, rfl, by omega, .inr ⟨by omega, ?_⟩, ?_, e2, e3, e4, e10, e12, e40, e41, rfl⟩
       · rw [accLo_step, accHi_step]
       · intro j hj
         by_cases h : j < i
         · exact hg j h
         · have : j = i := by omega
           subst this; exact ⟨b1, b2⟩
   · have : i = 4 := by omega
     subst this
     rcases hw with ⟨h, _⟩ | ⟨_, rfl⟩
     · omega
     · simp [c_interval_four_l0, h41, h10, h12, four_good hg, lim, zIv]

end Go.Abs.W

/- PRINTED BY wip/tools/gen_ivd.py: products and quotients of package interval and of its reference. -/
namespace Go.Abs.W

def Iv.mul (x y : Iv) (p : Int) : Iv := if (x.known && y.known && precB p) = true then Iv.four (fun a b => rMul a b p false) (fun a b => rMul a b p true) x y else Iv.whole
def Iv.div (x y : Iv) (p : Int) : Iv := if (x.known && y.known && precB p && decide (y.sgn ≠ 0)) = true then Iv.four (fun a b => rDiv a b p false) (fun a b => rDiv a b p true) x y else Iv.whole

theorem four_W {f g : Dy → Dy → Dy × Int} (okf : ∀ a b, (f a b).1.Ok) (okg : ∀ a b, (g a b).1.Ok) {x y : Iv} : (Iv.four f g x y).W := by
 unfold Iv.four; split
 · exact ⟨(accLo_ok okf 4).w, (accHi_ok okg 4).w⟩
 · exact Iv.whole_W
theorem mul_W {x y : Iv} {p : Int} : (x.mul y p).W := by
 unfold Iv.mul; split
 · exact four_W (fun _ _ => rMul_ok) (fun _ _ => rMul_ok)
 · exact Iv.whole_W
theorem div_W {x y : Iv} {p : Int} : (x.div y p).W := by
 unfold Iv.div; split
 · exact four_W (fun _ _ => rDiv_ok) (fun _ _ => rDiv_ok)
 · exact Iv.whole_W
theorem IMul_cq (x y : Iv) (p : Int) (wx : x.W) (wy : y.W) : CQ prog g_interval_Mul [x.v, y.v, .int .i64 p] (x.mul y p).v := by
 refine CQ_run rfl fun H => ?_
 simp
 refine WL_callH rfl rfl (H1 := H ++ [some ⟨7, [x.v], false, true⟩, some ⟨7, [y.v], false, true⟩, some ⟨7, [.agg [.bool false, .nil, .int .i64 0, .bool false, .nil, .int .i64 0, .bool false]], false, true⟩, some ⟨7, [x.v, y.v], true, false⟩]) (vs := [ivs [x, y]]) (by simp [prep, frzVs, frzV]; rfl) (known_cq [x, y] (by simp) (by simp; exact ⟨wx, wy⟩)) ?_
 cases hk : x.known && y.known
 · have : ([x, y].all Iv.known) = false := by simpa using hk
   simp only [this]
   simp
   refine WL_call rfl rfl rfl iWhole_cq ?_
   simp [Iv.mul, hk, lim]
 · have : ([x, y].all Iv.known) = true := by simpa using hk
   simp only [this]
   simp
   refine WL_call rfl rfl rfl (permitted_cq p) ?_
   cases hp : precB p
   · simp
     refine WL_call rfl rfl rfl iWhole_cq ?_
     simp [Iv.mul, hp, lim]
   · simp
     refine WL_call rfl rfl rfl (four_cq x y p g_round_MulDown g_round_MulUp (fun a b => rMul a b p false) (fun a b => rMul a b p true) wx wy (fun _ _ => rfl) (fun _ _ => rfl) (fun a b wa wb => MulDown_cq a b p wa wb) (fun a b wa wb => MulUp_cq a b p wa wb) (fun _ _ => rMul_ok) (fun _ _ => rMul_ok)) ?_
     simp [Iv.mul, hk, hp, lim]

theorem IDiv_cq (x y : Iv) (p : Int) (wx : x.W) (wy : y.W) : CQ prog g_interval_Div [x.v, y.v, .int .i64 p] (x.div y p).v := by
 refine CQ_run rfl fun H => ?_
 simp
 refine WL_callH rfl rfl (H1 := H ++ [some ⟨7, [x.v], false, true⟩, some ⟨7, [y.v], false, true⟩, some ⟨7, [.agg [.bool false, .nil, .int .i64 0, .bool false, .nil, .int .i64 0, .bool false]], false, true⟩, some ⟨7, [x.v, y.v], true, false⟩]) (vs := [ivs [x, y]]) (by simp [prep, frzVs, frzV]; rfl) (known_cq [x, y] (by simp) (by simp; exact ⟨wx, wy⟩)) ?_
 cases hk : x.known && y.known
 · have : ([x, y].all Iv.known) = false := by simpa using hk
   simp only [this]
   simp
   refine WL_call rfl rfl rfl iWhole_cq ?_
   simp [Iv.div, hk, lim]
 · have : ([x, y].all Iv.known) = true := by simpa using hk
   simp only [this]
   simp
   refine WL_call rfl rfl rfl (permitted_cq p) ?_
   cases hp : precB p
   · simp
     refine WL_call rfl rfl rfl iWhole_cq ?_
     simp [Iv.div, hp, lim]
   · simp
     refine WL_call rfl rfl rfl (ISign_cq y wy) ?_
     by_cases hs : y.sgn = 0
     · simp [hs]
       refine WL_call rfl rfl rfl iWhole_cq ?_
       simp [Iv.div, hs, lim]
     · simp [hs]
       refine WL_call rfl rfl rfl (four_cq x y p g_round_DivDown g_round_DivUp (fun a b => rDiv a b p false) (fun a b => rDiv a b p true) wx wy (fun _ _ => rfl) (fun _ _ => rfl) (fun a b wa wb => DivDown_cq a b p wa wb) (fun a b wa wb => DivUp_cq a b p wa wb) (fun _ _ => rDiv_ok) (fun _ _ => rDiv_ok)) ?_
       simp [Iv.div, hk, hp, hs, lim]


end Go.Abs.W

/- Square; the helpers of the laws of package interval. -/
namespace Go.Abs.W

def nD (k : Int) : Dy := Dy.of (decide (k < 0)) k.natAbs 0
def nI (a b : Int) : Iv := ⟨nD a, nD b, false⟩
end Go.Abs.W

/- The examples of the chapter on intervals; sums. -/
namespace Go.Abs.W

theorem nD_ok {k : Int} (h : k.natAbs ≤ 4611686018427387904) : (nD k).Ok := by
 unfold nD
 have hb : bitL k.natAbs ≤ 64 := bitL_le_of (by omega)
 exact Dy.of_ok (Dy.of_inR (by omega) (by omega) (by omega))
theorem nI_W {a b : Int} (ha : a.natAbs ≤ 4611686018427387904) (hb : b.natAbs ≤ 4611686018427387904) : (nI a b).W := ⟨(nD_ok ha).w, (nD_ok hb).w⟩
end Go.Abs.W

