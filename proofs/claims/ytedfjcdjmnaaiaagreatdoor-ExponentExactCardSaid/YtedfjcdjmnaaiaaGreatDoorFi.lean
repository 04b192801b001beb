/- Parts of the proof: FpR03, FpR03b, FpIvA, FpIvB, FpIvC, FpIvD, FpIvE, FpIvF. -/
import Derived.Test.YtedfjcdjmnaaiaaGreatDoorFh
import Derived.Test.YtedfjcdjmnaaiaaGreatDoorFg
import Derived.Test.YtedfjcdjmnaaiaaGreatDoorFg
import Derived.Test.YtedfjcdjmnaaiaaGreatDoorFe
namespace Go.Abs.W
theorem qag5 (p : Int) : CQ prog qx3 [.int .i64 p] (.bool (precB p)) := by
 refine qag rfl fun H => ?_
 simp [precB]
 grind
theorem qxd (a b : Dy) (p : Int) (wa : a.W) (wb : b.W) : CQ prog qv1 [a.v, b.v, .int .i64 p] (.int .i64 (qb4 [a, b] p)) := by
 refine qag rfl fun H => ?_
 simp
 refine qaa rfl rfl rfl (qf3 a wa) ?_
 cases ha : a.valid
 · simp [qb4, ha]
 · simp
   refine qaa rfl rfl rfl (qf3 b wb) ?_
   cases hb : b.valid
   · simp [qb4, ha, hb]
   · simp
     refine qaa rfl rfl rfl (qag5 p) ?_
     cases hp : precB p <;> simp [qb4, ha, hb, hp]
theorem qud {q b : Nat} (h : bitL q ≤ b) : (qae q).length ≤ b / 32 + 1 :=
 qfb (Nat.lt_of_lt_of_le (qbm q) (Nat.pow_le_pow_right (by omega) h)) (by omega)
theorem q5q (neg : Bool) (p : Nat) (hp : p ≤ 512) : CQ prog qrt [.bool neg, .int .i64 p] (Dy.of neg (2 ^ p - 1) (16384 - p)).v := by
 refine qag rfl fun H => ?_
 have l1 : Li [1] := by intro x hx; simp at hx; omega
 have v1 : natV [1] = 1 := rfl
 have h2p : 1 ≤ 2 ^ p := Nat.one_le_two_pow
 have hpl : (qae (2 ^ p)).length ≤ 1000 := qfb (B := p + 1) (Nat.pow_lt_pow_right (by omega) (by omega)) (by omega)
 have hp1 : 1 ≤ (qae (2 ^ p)).length := List.length_pos_iff.2 (qcp (by omega))
 have sc := q6c [1] p (by simp) l1 (by omega)
 rw [v1, Nat.one_mul] at sc
 have dc := qakx (qae (2 ^ p)) [1] (by omega) (by simpa using hp1) (qah _) l1 (by rw [qad, v1]; exact h2p)
 rw [qad, v1] at dc
 have hl2 : (qae (2 ^ p - 1)).length ≤ 1000 := qbi (Nat.sub_le _ _) hpl
 have e2 : IntKind.i64.wrap (16384 - (p : Int)) = 16384 - (p : Int) := by rw [wrap_i64] <;> omega
 have oc := Of_cq neg (qae (2 ^ p - 1)) (16384 - p) (by omega) (qah _) (by omega) (by omega)
 rw [qad] at oc
 simp
 refine qar (args := [.ref (H.length + 1) 1 0 1, .int .i64 p]) (vs := [lim [1], .int .i64 p]) (H1 := H ++ [some ⟨3, [.agg [.bool false, .nil, .int .i64 0]], false, true⟩, some ⟨1, [.int .u32 1], true, false⟩]) rfl (by simp) (by refine Eq.trans (b := frzVs _ _) rfl ?_; simp [frzVs, frzV, qbr, lim, u32]) sc ?_
 simp
 refine qar (args := [lim (qae (2 ^ p)), .ref (H.length + 2) 1 0 1]) (vs := [lim (qae (2 ^ p)), lim [1]]) (H1 := H ++ [some ⟨3, [.agg [.bool false, .nil, .int .i64 0]], false, true⟩, some ⟨1, [.int .u32 1], true, false⟩, some ⟨1, [.int .u32 1], true, false⟩]) rfl (by simp) (by refine Eq.trans (b := frzVs _ _) rfl ?_; simp [frzVs, frzV, qbr, lim, u32]) dc ?_
 simp [e2]
 refine qaa rfl rfl rfl oc ?_
 simp [lim]
def cutX (neg out : Bool) (Q : Nat) (e : Int) (k p : Nat) : Dy × Int :=
 if Q ≠ 0 ∧ (16384 : Int) < bitL Q + (e + k) then (if out then (Dy.zero, 9) else (Dy.of neg (2 ^ p - 1) (16384 - p), 0)) else (Dy.of neg Q (e + k), 0)
set_option maxHeartbeats 1000000 in
theorem qym {H : Heap} {E : Env} (G : Heap) (neg out : Bool) (Q : Nat) (e : Int) (k p : Nat) (hp : p ≤ 512) (hQ : bitL Q ≤ 600000) (hk : k ≤ 600000) (he1 : -400000 ≤ e) (he2 : e ≤ 400000)
   (h0 : E 0 = .bool neg) (h2 : E 2 = .int .i64 e) (h4 : E 4 = .int .i64 p) (h12 : E 12 = .ptr H.length 0 0) (_h13 : E 13 = .int .i64 0) (h15 : E 15 = .int .i64 k) (h16 : E 16 = lim (qae Q)) (h17 : E 17 = .bool out) :
   WC prog H.length (qa4 8 c_fpref03_Cut.body) E (H ++ some ⟨3, [.agg [.bool false, .nil, .int .i64 0]], false, true⟩ :: G) (fun x E1 H1 => (x = .normal ∨ x = .ret) ∧ ∃ v0, resV E1 H1 [.cell 12 true 3, .tmp 13] = some v0 ∧
     fin false H.length H1 v0 = some (.tup [(cutX neg out Q e k p).1.v, .int .i64 (cutX neg out Q e k p).2], H)) := by
 have hl := qud hQ
 have bc := qp2 (qae Q) (by omega) (qah Q)
 rw [qad] at bc
 have w3 : IntKind.i64.wrap (e + (k : Int)) = e + k := by rw [wrap_i64] <;> omega
 refine qod ?_
 simp [qa4, h16]
 refine qaa rfl rfl rfl bc ?_
 by_cases hq0 : Q = 0
 · subst hq0
   have oc := Of_cq neg (qae 0) (e + k) (by rw [qbo]; simp) (qah _) (by omega) (by omega)
   rw [qad] at oc
   simp [qcx, h0, h2, h15, h16, w3]
   refine qaa rfl rfl rfl oc ?_
   simp [h12, cutX, lim]
 · have hbp := (qbe hq0).2.2
   obtain ⟨B, hB⟩ : ∃ B, B = bitL Q := ⟨_, rfl⟩
   rw [← hB] at bc hQ hbp ⊢
   have w1 : IntKind.i64.wrap ((B : Int) + e) = B + e := by rw [wrap_i64] <;> omega
   have w2 : IntKind.i64.wrap ((B : Int) + e + k) = B + e + k := by rw [wrap_i64] <;> omega
   simp [hbp, h16]
   refine qaa rfl rfl rfl bc ?_
   by_cases hov : (16384 : Int) < B + e + k
   · have hov' : (16384 : Int) < B + (e + k) := by omega
     cases out
     · have gc := q5q neg p hp
       simp [h0, h2, h4, h15, h17, w1, w2, hov]
       refine qaa rfl rfl rfl gc ?_
       simp [h12, cutX, hq0, ← hB, hov', lim]
     · simp [h2, h12, h15, h17, w1, w2, hov, cutX, hq0, ← hB, hov', Dy.zero, lim]
   · have hov' : ¬ (16384 : Int) < B + (e + k) := by omega
     have oc := Of_cq neg (qae Q) (e + k) (by omega) (qah _) (by omega) (by omega)
     rw [qad] at oc
     simp [h0, h2, h15, h16, w1, w2, w3, hov]
     refine qaa rfl rfl rfl oc ?_
     simp [h12, cutX, hq0, ← hB, hov', lim]
theorem qadz {neg : Bool} {m : Nat} {e : Int} {more : Bool} {p : Nat} {up : Bool} : cutX neg (neg != up) (cutQ m e more p (neg != up)) e (cutK m e p) p = cutR neg m e more p up := rfl
set_option maxHeartbeats 2000000 in
theorem q8v (neg : Bool) (m : List Nat) (e : Int) (more : Bool) (p : Nat) (up : Bool) (hm : m.length ≤ 10000) (lm : Li m) (he1 : -100000 ≤ e) (he2 : e ≤ 100000) (hp : p ≤ 512) :
   CQ prog q1k [.bool neg, lim m, .int .i64 e, .bool more, .int .i64 p, .bool up] (.tup [(cutR neg (natV m) e more p up).1.v, .int .i64 (cutR neg (natV m) e more p up).2]) := by
 refine CQ_of rfl fun H => ?_
 have hlen := limbsOf_len.2 (qaq lm)
 have hA := qaq lm
 rw [pow32] at hA
 have hbit := qbb hA
 obtain ⟨M, hM⟩ : ∃ M, M = natV m := ⟨_, rfl⟩
 rw [← hM] at hlen hbit ⊢
 have bc := qp2 (qae M) (by omega) (qah _)
 rw [qad] at bc
 have w1 : IntKind.i64.wrap ((bitL M : Int) - p) = bitL M - p := by rw [wrap_i64] <;> omega
 have w2 : IntKind.i64.wrap (-16384 - e) = -16384 - e := by rw [wrap_i64] <;> omega
 have hmax : (if (if (bitL M : Int) - p < -16384 - e then -16384 - e else (bitL M : Int) - p) < 0 then 0 else if (bitL M : Int) - p < -16384 - e then -16384 - e else (bitL M : Int) - p) = (cutK M e p : Int) := by
   unfold cutK; split <;> split <;> omega
 have hkb : cutK M e p ≤ 500000 := by unfold cutK; omega
 have hres := qadz (neg := neg) (m := M) (e := e) (more := more) (p := p) (up := up)
 rw [← hres]
 have hQb : bitL (cutQ M e more p (neg != up)) ≤ 600 := Nat.le_trans qwy (by omega)
 have hcq : ∀ o, cutQ M e more p o = M / 2 ^ cutK M e p + (if (more || decide (M % 2 ^ cutK M e p ≠ 0)) && o then 1 else 0) := fun _ => rfl
 obtain ⟨k, hk⟩ : ∃ k, k = cutK M e p := ⟨_, rfl⟩
 rw [← hk] at hmax hkb hcq ⊢
 have sc := qaky (qae M) k (by omega) (qah _) (by omega)
 rw [qad] at sc
 have hql : (qae (M / 2 ^ k)).length ≤ 20000 := Nat.le_trans (qbi (Nat.div_le_self _ _) hlen) (by omega)
 -- from the rounded limbs on
 have tail6 : ∀ (E : Env) (lost : Bool), lost = (more || decide (M % 2 ^ k ≠ 0)) → E 0 = .bool neg → E 2 = .int .i64 e → E 3 = .bool lost → E 4 = .int .i64 p → E 5 = .bool up → E 12 = .ptr H.length 0 0 → E 13 = .int .i64 0 → E 15 = .int .i64 k → E 16 = lim (qae (M / 2 ^ k)) →
     WC prog H.length (qa4 6 c_fpref03_Cut.body) E (H ++ [some ⟨3, [.agg [.bool false, .nil, .int .i64 0]], false, true⟩]) (fun x E1 H1 => (x = .normal ∨ x = .ret) ∧ ∃ v0, resV E1 H1 [.cell 12 true 3, .tmp 13] = some v0 ∧
       fin false H.length H1 v0 = some (.tup [(cutX neg (neg != up) (cutQ M e more p (neg != up)) e k p).1.v, .int .i64 (cutX neg (neg != up) (cutQ M e more p (neg != up)) e k p).2], H)) := by
   intro E lost hlost h0 h2 h3 h4 h5 h12 h13 h15 h16
   rw [← hlost] at hcq
   refine qc0 (b := qa4 7 c_fpref03_Cut.body) ?_
   refine qas ?_
   simp [h0, h5]
   refine qc0 (b := qa4 8 c_fpref03_Cut.body) ?_
   refine qas ?_
   have hout : (!(neg == up)) = (neg != up) := by cases neg <;> cases up <;> rfl
   by_cases hb : lost = true ∧ (neg != up) = true
   · obtain ⟨rfl, ho⟩ := hb
     have l1 : Li [1] := by intro x hx; simp at hx; omega
     have v1 : natV [1] = 1 := rfl
     have ac := qak8 (qae (M / 2 ^ k)) [1] (by omega) (by simp) (qah _) l1
     have hq1 : cutQ M e more p (neg != up) = M / 2 ^ k + 1 := by rw [hcq, ho]; simp
     rw [qad, v1, ← hq1] at ac
     have ho2 : (neg == up) = false := by cases neg <;> cases up <;> simp at ho ⊢
     simp [h3, ho2, h16]
     refine qar (args := [lim (qae (M / 2 ^ k)), .ref (H.length + 1) 1 0 1]) (vs := [lim (qae (M / 2 ^ k)), lim [1]]) (H1 := H ++ some ⟨3, [.agg [.bool false, .nil, .int .i64 0]], false, true⟩ :: [some ⟨1, [.int .u32 1], true, false⟩]) rfl ?_ ?_ ac ?_
     · simp
     · refine Eq.trans (b := frzVs _ _) rfl ?_; simp [frzVs, frzV, qbr, lim, u32]
     simp
     exact qbp (qym [some ⟨1, [.int .u32 1], true, false⟩] neg (neg != up) (cutQ M e more p (neg != up)) e k p hp (by omega) (by omega) (by omega) (by omega) (by simp [h0]) (by simp [h2]) (by simp [h4]) (by simp [h12]) (by simp [h13]) (by simp [h15]) (by simp) (by rw [ho]; simp)) (fun x E1 H1 h => by simpa using h)
   · have hq0 : cutQ M e more p (neg != up) = M / 2 ^ k := by
       rw [hcq]
       cases lost <;> cases h : (neg != up) <;> simp [h] at hb ⊢
     have ct := fun (E : Env) h0 h2 h4 h12 h13 h15 h16 h17 => qym (H := H) (E := E) [] neg (neg != up) (cutQ M e more p (neg != up)) e k p hp (by omega) (by omega) (by omega) (by omega) h0 h2 h4 h12 h13 h15 h16 h17
     cases lost
     · simp [h3]
       exact qbp (ct _ (by simp [h0]) (by simp [h2]) (by simp [h4]) (by simp [h12]) (by simp [h13]) (by simp [h15]) (by simp [h16, hq0]) (by simp [hout])) (fun x E1 H1 h => by simpa using h)
     · have ho2 : (neg == up) = true := by cases neg <;> cases up <;> simp at hb ⊢
       simp [h3, ho2]
       exact qbp (ct _ (by simp [h0]) (by simp [h2]) (by simp [h4]) (by simp [h12]) (by simp [h13]) (by simp [h15]) (by simp [h16, hq0]) (by rw [← hout, ho2]; simp)) (fun x E1 H1 h => by simpa using h)
 refine qc0 (b := qa4 1 c_fpref03_Cut.body) ?_
 refine qas ?_
 simp
 refine qc0 (b := qa4 2 c_fpref03_Cut.body) ?_
 refine qas ?_
 simp
 refine qaa rfl rfl rfl (qim m (by omega)) ?_
 rw [qal lm, ← hM]
 simp
 refine qc0 (b := qa4 3 c_fpref03_Cut.body) ?_
 refine qas ?_
 simp
 refine qaa rfl rfl rfl bc ?_
 simp
 refine qc0 (b := qa4 4 c_fpref03_Cut.body) ?_
 refine qas ?_
 simp [w1, w2, hmax]
 refine qc0 (b := qa4 5 c_fpref03_Cut.body) ?_
 refine qas ?_
 simp
 refine qaa rfl rfl rfl sc ?_
 simp
 refine qc0 (b := qa4 6 c_fpref03_Cut.body) ?_
 refine qas ?_
 by_cases hk0 : k = 0
 · subst hk0
   simp
   exact qbp (tail6 _ more (by simp [Nat.mod_one]) (by simp) (by simp) (by simp) (by simp) (by simp) (by simp) (by simp) (by simp) (by simp)) (fun x E1 H1 h => by simpa using h)
 · have hkp : 0 < k := by omega
   have hle : M / 2 ^ k * 2 ^ k ≤ M := Nat.div_mul_le_self _ _
   have lc := q6c (qae (M / 2 ^ k)) k (by omega) (qah _) (by omega)
   rw [qad] at lc
   have hl2 : (qae (M / 2 ^ k * 2 ^ k)).length ≤ 20000 := Nat.le_trans (qbi hle hlen) (by omega)
   have cc := qak7 (qae (M / 2 ^ k * 2 ^ k)) (qae M) (qah _) (qah _) (by omega) (by omega)
   rw [qad, qad] at cc
   have hne : cmpN (M / 2 ^ k * 2 ^ k) M = 0 ↔ M % 2 ^ k = 0 := by
     rw [qaki]
     have := Nat.div_add_mod' M (2 ^ k)
     omega
   simp [hkp]
   refine qaa rfl rfl rfl lc ?_
   simp
   refine qaa rfl rfl rfl cc ?_
   by_cases hz : M % 2 ^ k = 0
   · simp [hne, hz]
     exact qbp (tail6 _ more (by simp [hz]) (by simp) (by simp) (by simp) (by simp) (by simp) (by simp) (by simp) (by simp) (by simp)) (fun x E1 H1 h => by simpa using h)
   · simp [hne, hz]
     exact qbp (tail6 _ true (by simp [hz]) (by simp) (by simp) (by simp) (by simp) (by simp) (by simp) (by simp) (by simp) (by simp)) (fun x E1 H1 h => by simpa using h)
end Go.Abs.W
namespace Go.Abs.W
theorem q8b (d : Dy) (p : Nat) (up : Bool) (hm : d.m.length ≤ 10000) (lm : Li d.m) (he1 : -100000 ≤ d.e) (he2 : d.e ≤ 100000) (hp : p ≤ 512) :
   CQ prog qv2 [d.v, .int .i64 p, .bool up] (.tup [(cutR d.neg (natV d.m) d.e false p up).1.v, .int .i64 (cutR d.neg (natV d.m) d.e false p up).2]) := by
 refine qag rfl fun H => ?_
 simp
 refine qaa rfl rfl rfl (q8v d.neg d.m d.e false p up hm lm he1 he2 hp) ?_
 simp [lim]
theorem q0i {neg : Bool} {N : Nat} {e : Int} {b : Nat} (hb : bitL N ≤ b) (he1 : -60000 ≤ e) (he2 : e ≤ 60000) (hbb : b ≤ 40000) :
   (Dy.of neg N e).m.length ≤ 10000 ∧ Li (Dy.of neg N e).m ∧ -100000 ≤ (Dy.of neg N e).e ∧ (Dy.of neg N e).e ≤ 100000 := by
 by_cases h : N = 0
 · subst h
   have : Dy.of neg 0 e = ⟨false, [], 0⟩ := by simp [Dy.of]
   rw [this]
   exact ⟨by simp, by intro x hx; simp at hx, by simp, by simp⟩
 · have hd : Dy.of neg N e = ⟨neg, qae (N / 2 ^ tz N), e + tz N⟩ := by simp [Dy.of, h]
   rw [hd]
   have h1 := qaeb h
   have h2 := qud (q := N / 2 ^ tz N) (b := b) (by omega)
   exact ⟨by simp only; omega, qah _, by simp only; omega, by simp only; omega⟩
theorem Dy.Ok.size {d : Dy} (h : d.Ok) : d.m.length ≤ 10000 ∧ Li d.m ∧ -100000 ≤ d.e ∧ d.e ≤ 100000 := by
 have h1 := h.elo; have h2 := h.ehi; have h3 := h.len
 exact ⟨by omega, h.li, by omega, by omega⟩
theorem q6u {a b : Dy} (oa : a.Ok) (ob : b.Ok) : (a.sum b).m.length ≤ 10000 ∧ Li (a.sum b).m ∧ -100000 ≤ (a.sum b).e ∧ (a.sum b).e ≤ 100000 := by
 unfold Dy.sum
 by_cases na : a.m = []
 · rw [if_pos na]; exact ob.size
 · by_cases nb : b.m = []
   · rw [if_neg na, if_pos nb]; exact oa.size
   · rw [if_neg na, if_neg nb]
     have e1 := oa.elo; have e2 := oa.ehi; have e3 := ob.elo; have e4 := ob.ehi
     have ba := oa.bits; have bb := ob.bits
     obtain ⟨e, he⟩ : ∃ e, e = min a.e b.e := ⟨_, rfl⟩
     simp only [← he]
     obtain ⟨B, hB⟩ : ∃ B, B = 37000 := ⟨_, rfl⟩
     have hX : bitL (sumX a e) ≤ B := by
       refine qbb ?_
       unfold sumX
       refine Nat.lt_of_lt_of_le (Nat.mul_lt_mul_of_pos_right (qbm _) (Nat.two_pow_pos _)) ?_
       rw [← Nat.pow_add]
       exact Nat.pow_le_pow_right (by omega) (by omega)
     have hY : bitL (sumX b e) ≤ B := by
       refine qbb ?_
       unfold sumX
       refine Nat.lt_of_lt_of_le (Nat.mul_lt_mul_of_pos_right (qbm _) (Nat.two_pow_pos _)) ?_
       rw [← Nat.pow_add]
       exact Nat.pow_le_pow_right (by omega) (by omega)
     have hXY : bitL (sumX a e + sumX b e) ≤ B + 1 := by
       refine qbb ?_
       have h1 : sumX a e < 2 ^ B := Nat.lt_of_lt_of_le (qbm _) (Nat.pow_le_pow_right (by omega) hX)
       have h2 : sumX b e < 2 ^ B := Nat.lt_of_lt_of_le (qbm _) (Nat.pow_le_pow_right (by omega) hY)
       rw [Nat.pow_succ]
       omega
     split
     · exact q0i hXY (by omega) (by omega) (by omega)
     · split
       · exact q0i (Nat.le_trans (qev (Nat.sub_le _ _)) hX) (by omega) (by omega) (by omega)
       · exact q0i (Nat.le_trans (qev (Nat.sub_le _ _)) hY) (by omega) (by omega) (by omega)
theorem q2g (a b : Dy) (p : Int) (up : Bool) (wa : a.W) (wb : b.W) : CQ prog q1l [a.v, b.v, .int .i64 p, .bool up] (.tup [(rAdd a b p up).1.v, .int .i64 (rAdd a b p up).2]) := by
 refine qag rfl fun H => ?_
 have fc := qxd a b p wa wb
 simp
 refine qaa rfl rfl rfl fc ?_
 by_cases hf : qb4 [a, b] p = 0
 · obtain ⟨hv, hp8, hp5⟩ := qcr hf
   have oa := Dy.Ok.of wa.li (hv a (by simp))
   have ob := Dy.Ok.of wb.li (hv b (by simp))
   obtain ⟨P, rfl⟩ : ∃ P : Nat, p = P := ⟨p.toNat, by omega⟩
   obtain ⟨s1, s2, s3, s4⟩ := q6u oa ob
   have xc := q8b (a.sum b) P up s1 s2 s3 s4 (by omega)
   simp [hf]
   refine qaa rfl rfl rfl (qaen a b oa.toM ob.toM) ?_
   simp
   refine qaa rfl rfl rfl xc ?_
   simp [rAdd, hf, lim]
 · simp [hf, rAdd, Dy.zero, lim]
theorem q8r (a b : Dy) (p : Int) (up : Bool) (wa : a.W) (wb : b.W) : CQ prog q1i [a.v, b.v, .int .i64 p, .bool up] (.tup [(rMul a b p up).1.v, .int .i64 (rMul a b p up).2]) := by
 refine qag rfl fun H => ?_
 have fc := qxd a b p wa wb
 simp
 refine qaa rfl rfl rfl fc ?_
 by_cases hf : qb4 [a, b] p = 0
 · obtain ⟨hv, hp8, hp5⟩ := qcr hf
   have oa := Dy.Ok.of wa.li (hv a (by simp))
   have ob := Dy.Ok.of wb.li (hv b (by simp))
   obtain ⟨P, rfl⟩ : ∃ P : Nat, p = P := ⟨p.toNat, by omega⟩
   have e1 := oa.elo; have e2 := oa.ehi; have e3 := ob.elo; have e4 := ob.ehi
   have ba := oa.bits; have bb := ob.bits
   have hbit : bitL (natV a.m * natV b.m) ≤ 9000 := by
     refine Nat.le_trans (qbb (b := bitL (natV a.m) + bitL (natV b.m)) ?_) (by omega)
     rw [Nat.pow_add]
     exact Nat.mul_lt_mul'' (qbm _) (qbm _)
   obtain ⟨s1, s2, s3, s4⟩ := q0i (neg := a.neg != b.neg) (e := a.e + b.e) hbit (by omega) (by omega) (by omega)
   have xc := q8b (a.prod b) P up s1 s2 s3 s4 (by omega)
   have hc : cutR (a.prod b).neg (natV (a.prod b).m) (a.prod b).e false P up = cutR (a.neg != b.neg) (natV a.m * natV b.m) (a.e + b.e) false P up := qwx
   rw [hc] at xc
   simp [hf]
   refine qaa rfl rfl rfl (q98 a b oa.toM ob.toM) ?_
   simp
   refine qaa rfl rfl rfl xc ?_
   simp [rMul, hf, lim]
 · simp [hf, rMul, Dy.zero, lim]
set_option maxHeartbeats 1000000 in
theorem q8u (a b : Dy) (p : Int) (up : Bool) (wa : a.W) (wb : b.W) : CQ prog q1j [a.v, b.v, .int .i64 p, .bool up] (.tup [(rDiv a b p up).1.v, .int .i64 (rDiv a b p up).2]) := by
 refine qag rfl fun H => ?_
 have fc := qxd a b p wa wb
 simp
 refine qaa rfl rfl rfl fc ?_
 by_cases hf : qb4 [a, b] p = 0
 · obtain ⟨hv, hp8, hp5⟩ := qcr hf
   have va := hv a (by simp)
   have vb := hv b (by simp)
   have oa := Dy.Ok.of wa.li va
   have ob := Dy.Ok.of wb.li vb
   obtain ⟨P, rfl⟩ : ∃ P : Nat, p = P := ⟨p.toNat, by omega⟩
   by_cases nb : b.m = []
   · simp [hf, lim, nb, rDiv, Dy.zero]
   · by_cases na : a.m = []
     · simp [hf, lim, na, nb, rDiv, Dy.zero]
     · have ba := oa.bits; have bb := ob.bits
       have h1 := oa.elo; have h2 := oa.ehi; have h3 := ob.elo; have h4 := ob.ehi
       have hla := oa.len; have hlb := ob.len
       have hA := qco oa.tr na
       have hB := qco ob.tr nb
       have dba := qp2 a.m (by omega) oa.li
       have dbb := qp2 b.m (by omega) ob.li
       have hka : bitL (natV a.m) + divK a b P 2 ≤ 4620 ∧ divK a b P 2 ≤ 4620 := by unfold divK; omega
       obtain ⟨k1, k3⟩ := hka
       have hmax : (if (bitL (natV a.m) : Int) < (P : Int) + 2 + bitL (natV b.m) then (P : Int) + 2 + bitL (natV b.m) - bitL (natV a.m) else 0) = (divK a b P 2 : Int) := by unfold divK; split <;> omega
       have hres : rDiv a b P up = cutR (a.neg != b.neg) (natV a.m * 2 ^ divK a b P 2 / natV b.m) (a.e - b.e - divK a b P 2) (decide (natV a.m * 2 ^ divK a b P 2 % natV b.m ≠ 0)) P up := by
         rw [rDiv, if_pos hf, if_neg nb, if_neg na, Int.toNat_natCast]
       obtain ⟨k, hk⟩ : ∃ k, k = divK a b P 2 := ⟨_, rfl⟩
       rw [← hk] at k1 k3 hmax hres
       have hsb : bitL (natV a.m * 2 ^ k) ≤ 4620 := by
         have := qf2 (m := natV a.m) (j := k) (r := 0) hA (Nat.two_pow_pos k)
         rw [Nat.add_zero] at this
         rw [this]; exact k1
       obtain ⟨La, hLa⟩ : ∃ La, La = bitL (natV a.m) := ⟨_, rfl⟩
       obtain ⟨Lb, hLb⟩ : ∃ Lb, Lb = bitL (natV b.m) := ⟨_, rfl⟩
       rw [← hLa] at ba dba k1 hmax
       rw [← hLb] at bb dbb hmax
       have w1 : IntKind.i64.wrap ((P : Int) + 2) = (P : Int) + 2 := by rw [wrap_i64] <;> omega
       have w2 : IntKind.i64.wrap ((P : Int) + 2 + Lb) = (P : Int) + 2 + Lb := by rw [wrap_i64] <;> omega
       have w3 : IntKind.i64.wrap ((P : Int) + 2 + Lb - La) = (P : Int) + 2 + Lb - La := by rw [wrap_i64] <;> omega
       have w4 : IntKind.i64.wrap (a.e - b.e) = a.e - b.e := by rw [wrap_i64] <;> omega
       have w5 : IntKind.i64.wrap (a.e - b.e - k) = a.e - b.e - k := by rw [wrap_i64] <;> omega
       have sc := q6c a.m k (by omega) oa.li (by omega)
       obtain ⟨W, hW⟩ : ∃ W, W = natV a.m * 2 ^ k := ⟨_, rfl⟩
       rw [← hW] at hsb sc hres
       have hl := qud hsb
       have dc := qaab (qae W) b.m (by omega) (by omega) (qah _) ob.li (by omega)
       rw [qad] at dc
       have hqs : bitL (W / natV b.m) ≤ 4620 := Nat.le_trans (qev (Nat.div_le_self _ _)) hsb
       have hql := qud hqs
       have hrl : (qae (W % natV b.m)).length ≤ 200 := Nat.le_trans (qbi (Nat.mod_le _ _) (Nat.le_refl _)) (by omega)
       have bc := qp2 (qae (W % natV b.m)) (by omega) (qah _)
       rw [qad] at bc
       have hmore : decide (W % natV b.m ≠ 0) = decide (0 < bitL (W % natV b.m)) := by
         rw [decide_eq_decide]
         have := q8j (n := W % natV b.m)
         omega
       have gc := q8v (a.neg != b.neg) (qae (W / natV b.m)) (a.e - b.e - k) (decide (W % natV b.m ≠ 0)) P up (by omega) (qah _) (by omega) (by omega) (by omega)
       rw [qad, ← hres, hmore] at gc
       obtain ⟨B0, hB0⟩ : ∃ B0, B0 = bitL (W % natV b.m) := ⟨_, rfl⟩
       rw [← hB0] at bc gc
       simp [hf, lim, na, nb, w1]
       refine qaa rfl rfl rfl dbb ?_
       simp [w2]
       refine qaa rfl rfl rfl dba ?_
       simp [w3, hmax]
       refine qaa rfl rfl rfl sc ?_
       simp
       refine qaa rfl rfl rfl dc ?_
       simp [w4, w5]
       refine qaa rfl rfl rfl bc ?_
       simp
       refine qaa (vs := [.bool (a.neg != b.neg), lim (qae (W / natV b.m)), .int .i64 (a.e - b.e - k), .bool (decide (0 < B0)), .int .i64 P, .bool up]) rfl rfl ?_ gc ?_
       · refine Eq.trans (b := frzVs _ _) rfl ?_
         simp [frzVs, frzV]
         cases a.neg <;> cases b.neg <;> rfl
       simp [lim]
 · simp [hf, rDiv, Dy.zero, lim]
end Go.Abs.W
namespace Go.Abs.W
def Iv.made (r s : Dy × Int) : Iv := if r.2 = 0 ∧ s.2 = 0 then ⟨r.1, s.1, false⟩ else Iv.whole
def Iv.add (x y : Iv) (p : Int) : Iv := if (x.known && y.known && precB p) = true then Iv.made (rAdd x.lo y.lo p false) (rAdd x.hi y.hi p true) else Iv.whole
def Iv.neg (x : Iv) : Iv := if x.known = true then ⟨x.hi.neg', x.lo.neg', false⟩ else Iv.whole
def Iv.rnd (x : Iv) (p : Int) : Iv := if (x.known && precB p) = true then Iv.made (qc1 x.lo p false) (qc1 x.hi p true) else Iv.whole
def Iv.scl (x : Iv) (k : Int) : Iv := if x.known = true then Iv.made (x.lo.scl k, x.lo.sclE k) (x.hi.scl k, x.hi.sclE k) else Iv.whole
def Iv.sgn (x : Iv) : Int := if x.known = true then (if 0 < x.lo.sgn then 1 else if x.hi.sgn < 0 then -1 else 0) else 0
theorem Dy.zero_W : Dy.zero.W := Dy.zero_ok.w
theorem Iv.whole_W : Iv.whole.W := ⟨Dy.zero_W, Dy.zero_W⟩
theorem rRound_ok {d : Dy} {p : Int} {up : Bool} : (qc1 d p up).1.Ok := by
 unfold qc1; split
 · rename_i h; obtain ⟨_, h1, h2⟩ := qcr h; exact qww (by omega) (by omega)
 · exact Dy.zero_ok
theorem rAdd_ok {a b : Dy} {p : Int} {up : Bool} : (rAdd a b p up).1.Ok := by
 unfold rAdd; split
 · rename_i h; obtain ⟨_, h1, h2⟩ := qcr h; exact qww (by omega) (by omega)
 · exact Dy.zero_ok
theorem rMul_ok {a b : Dy} {p : Int} {up : Bool} : (rMul a b p up).1.Ok := by
 unfold rMul; split
 · rename_i h; obtain ⟨_, h1, h2⟩ := qcr h; exact qww (by omega) (by omega)
 · exact Dy.zero_ok
theorem qej {a b : Dy} {p : Int} {up : Bool} : (rDiv a b p up).1.Ok := by
 unfold rDiv; split
 · rename_i h; obtain ⟨_, h1, h2⟩ := qcr h
   split
   · exact Dy.zero_ok
   · split
     · exact Dy.zero_ok
     · exact qww (by omega) (by omega)
 · exact Dy.zero_ok
theorem qamv {neg : Bool} {n : Nat} {e : Int} : (Dy.of neg n e).chk.Ok := by
 unfold Dy.chk; split
 · rename_i h; exact Dy.of_ok h
 · exact Dy.zero_ok
theorem qp6 {d : Dy} {k : Int} : (d.scl k).Ok := by
 unfold Dy.scl; split
 · exact qamv
 · exact Dy.zero_ok
theorem q7p {r s : Dy × Int} (hr : r.1.W) (hs : s.1.W) : (Iv.made r s).W := by
 unfold Iv.made; split
 · exact ⟨hr, hs⟩
 · exact Iv.whole_W
theorem que (r s : Dy × Int) : CQ prog qvq [r.1.v, .int .i64 r.2, s.1.v, .int .i64 s.2] (Iv.made r s).v := by
 refine qag rfl fun H => ?_
 by_cases hr : r.2 = 0
 · by_cases hs : s.2 = 0
   · simp [hr, hs, Iv.made, lim]
   · simp [hr, hs]
     refine qaa rfl rfl rfl qat ?_
     simp [Iv.made, hs, lim]
 · simp [hr]
   refine qaa rfl rfl rfl qat ?_
   simp [Iv.made, hr, lim]
theorem q8p (r s : Dy × Int) : CQ prog qxy [r.1.v, .int .i64 r.2, s.1.v, .int .i64 s.2] (Iv.made r s).v := by
 refine qag rfl fun H => ?_
 by_cases hr : r.2 = 0
 · by_cases hs : s.2 = 0
   · simp [hr, hs, Iv.made, lim]
   · simp [hr, hs]
     refine qaa rfl rfl rfl qba ?_
     simp [Iv.made, hs, lim]
 · simp [hr]
   refine qaa rfl rfl rfl qba ?_
   simp [Iv.made, hr, lim]
theorem qg5 (p : Int) : CQ prog qp4 [.int .i64 p] (.bool (precB p)) := by
 refine qag rfl fun H => ?_
 simp [precB]
 grind
theorem qpk (p : Int) : CQ prog qx1 [.int .i64 p] (.bool (precB p)) := by
 refine qag rfl fun H => ?_
 simp [precB]
 grind
theorem qmr {d : Dy} (h : d.Ok) : d.opp = d.neg' := by
 unfold Dy.opp Dy.neg'
 rw [h.valid]
 by_cases hm : d.m = []
 · obtain ⟨h1, h2⟩ := h.zero hm
   simp [hm, h2, Dy.zero]
 · simp [hm]
theorem qb8 {d : Dy} (h : d.Ok) : d.neg'.Ok := by
 refine ⟨h.li, h.tr, h.len, ?_, h.odd, h.bits, h.elo, h.ehi, h.top⟩
 intro hm
 have hm' : d.m = [] := hm
 exact ⟨by simp [Dy.neg', hm'], (h.zero hm').2⟩
theorem neg_W {x : Iv} (w : x.W) : x.neg.W := by
 unfold Iv.neg; split
 · rename_i h
   obtain ⟨h1, h2⟩ := qai w h
   exact ⟨(qb8 h2).w, (qb8 h1).w⟩
 · exact Iv.whole_W
theorem add_W {x y : Iv} {p : Int} : (x.add y p).W := by
 unfold Iv.add; split
 · exact q7p rAdd_ok.w rAdd_ok.w
 · exact Iv.whole_W
theorem qs5 (x y : Iv) (p : Int) (wx : x.W) (wy : y.W) : CQ prog qks [x.v, y.v, .int .i64 p] (x.add y p).v := by
 refine qag rfl fun H => ?_
 simp
 refine qar rfl rfl (H1 := H ++ [some ⟨7, [x.v], false, true⟩, some ⟨7, [y.v], false, true⟩, some ⟨7, [.agg [.bool false, .nil, .int .i64 0, .bool false, .nil, .int .i64 0, .bool false]], false, true⟩, some ⟨7, [x.v, y.v], true, false⟩]) (vs := [ivs [x, y]]) (by simp [prep, frzVs, frzV]; rfl) (qgw [x, y] (by simp) (by simp; exact ⟨wx, wy⟩)) ?_
 cases hk : x.known && y.known
 · have : ([x, y].all Iv.known) = false := by simpa using hk
   simp only [this]
   simp
   refine qaa rfl rfl rfl qat ?_
   simp [Iv.add, hk, lim]
 · have : ([x, y].all Iv.known) = true := by simpa using hk
   simp only [this]
   simp
   refine qaa rfl rfl rfl (qg5 p) ?_
   cases hp : precB p
   · simp
     refine qaa rfl rfl rfl qat ?_
     simp [Iv.add, hp, lim]
   · simp
     refine qaa rfl rfl rfl (qaag x.lo y.lo p wx.lo wy.lo) ?_
     simp
     refine qaa rfl rfl rfl (qahh x.hi y.hi p wx.hi wy.hi) ?_
     simp
     refine qaa rfl rfl rfl (que (rAdd x.lo y.lo p false) (rAdd x.hi y.hi p true)) ?_
     simp [Iv.add, hk, hp, lim]
theorem q8t (x y : Iv) (p : Int) (wx : x.W) (wy : y.W) : CQ prog q1g [x.v, y.v, .int .i64 p] (x.add y p).v := by
 refine qag rfl fun H => ?_
 simp
 refine qaa rfl rfl rfl (qpk p) ?_
 cases hp : precB p
 · simp
   refine qaa rfl rfl rfl qba ?_
   simp [Iv.add, hp, lim]
 · simp
   refine qaa rfl rfl rfl (qd6 x wx) ?_
   cases hx : x.known
   · simp
     refine qaa rfl rfl rfl qba ?_
     simp [Iv.add, hx, lim]
   · simp
     refine qaa rfl rfl rfl (qd6 y wy) ?_
     cases hy : y.known
     · simp
       refine qaa rfl rfl rfl qba ?_
       simp [Iv.add, hy, lim]
     · simp
       refine qaa rfl rfl rfl (q2g x.lo y.lo p false wx.lo wy.lo) ?_
       simp
       refine qaa rfl rfl rfl (q2g x.hi y.hi p true wx.hi wy.hi) ?_
       simp
       refine qaa rfl rfl rfl (q8p (rAdd x.lo y.lo p false) (rAdd x.hi y.hi p true)) ?_
       simp [Iv.add, hx, hy, hp, lim]
theorem qak2 (x : Iv) (wx : x.W) : CQ prog qxo [x.v] x.neg.v := by
 refine qag rfl fun H => ?_
 simp
 refine qar rfl rfl (H1 := H ++ [some ⟨7, [x.v], false, true⟩, some ⟨7, [.agg [.bool false, .nil, .int .i64 0, .bool false, .nil, .int .i64 0, .bool false]], false, true⟩, some ⟨7, [x.v], true, false⟩]) (vs := [ivs [x]]) (by simp [prep, frzVs, frzV]; rfl) (qgw [x] (by simp) (by simpa using wx)) ?_
 cases hk : x.known
 · simp [hk]
   refine qaa rfl rfl rfl qat ?_
   simp [Iv.neg, hk, lim]
 · obtain ⟨h1, h2⟩ := qai wx hk
   have n1 := qxh x.lo wx.lo
   have n2 := qxh x.hi wx.hi
   rw [qmr h1] at n1
   rw [qmr h2] at n2
   simp [hk]
   refine qaa rfl rfl rfl n2 ?_
   simp
   refine qaa rfl rfl rfl n1 ?_
   simp [Iv.neg, hk, lim]
theorem qag8 (x : Iv) (wx : x.W) : CQ prog q09 [x.v] x.neg.v := by
 refine qag rfl fun H => ?_
 simp
 refine qaa rfl rfl rfl (qd6 x wx) ?_
 cases hk : x.known
 · simp
   refine qaa rfl rfl rfl qba ?_
   simp [Iv.neg, hk, lim]
 · simp
   refine qaa rfl rfl rfl (qr8 x.hi) ?_
   simp
   refine qaa rfl rfl rfl (qr8 x.lo) ?_
   simp [Iv.neg, hk, lim]
theorem qaes (x y : Iv) (p : Int) (wx : x.W) (wy : y.W) : CQ prog qkr [x.v, y.v, .int .i64 p] (x.add y.neg p).v := by
 refine qag rfl fun H => ?_
 simp
 refine qaa rfl rfl rfl (qak2 y wy) ?_
 simp
 refine qaa rfl rfl rfl (qs5 x y.neg p wx (neg_W wy)) ?_
 simp [lim]
theorem qag7 (x y : Iv) (p : Int) (wx : x.W) (wy : y.W) : CQ prog q08 [x.v, y.v, .int .i64 p] (x.add y.neg p).v := by
 refine qag rfl fun H => ?_
 simp
 refine qaa rfl rfl rfl (qag8 y wy) ?_
 simp
 refine qaa rfl rfl rfl (q8t x y.neg p wx (neg_W wy)) ?_
 simp [lim]
theorem qmi (x : Iv) (p : Int) (wx : x.W) : CQ prog qto [x.v, .int .i64 p] (x.rnd p).v := by
 refine qag rfl fun H => ?_
 simp
 refine qar rfl rfl (H1 := H ++ [some ⟨7, [x.v], false, true⟩, some ⟨7, [.agg [.bool false, .nil, .int .i64 0, .bool false, .nil, .int .i64 0, .bool false]], false, true⟩, some ⟨7, [x.v], true, false⟩]) (vs := [ivs [x]]) (by simp [prep, frzVs, frzV]; rfl) (qgw [x] (by simp) (by simpa using wx)) ?_
 cases hk : x.known
 · simp [hk]
   refine qaa rfl rfl rfl qat ?_
   simp [Iv.rnd, hk, lim]
 · simp [hk]
   refine qaa rfl rfl rfl (qg5 p) ?_
   cases hp : precB p
   · simp
     refine qaa rfl rfl rfl qat ?_
     simp [Iv.rnd, hp, lim]
   · simp
     refine qaa rfl rfl rfl (qak6 x.lo p wx.lo) ?_
     simp
     refine qaa rfl rfl rfl (Up_cq x.hi p wx.hi) ?_
     simp
     refine qaa rfl rfl rfl (que (qc1 x.lo p false) (qc1 x.hi p true)) ?_
     simp [Iv.rnd, hk, hp, lim]
theorem qr9 (x : Iv) (k : Int) (wx : x.W) : CQ prog qtn [x.v, .int .i64 k] (x.scl k).v := by
 refine qag rfl fun H => ?_
 simp
 refine qar rfl rfl (H1 := H ++ [some ⟨7, [x.v], false, true⟩, some ⟨7, [.agg [.bool false, .nil, .int .i64 0, .bool false, .nil, .int .i64 0, .bool false]], false, true⟩, some ⟨7, [x.v], true, false⟩]) (vs := [ivs [x]]) (by simp [prep, frzVs, frzV]; rfl) (qgw [x] (by simp) (by simpa using wx)) ?_
 cases hk : x.known
 · simp [hk]
   refine qaa rfl rfl rfl qat ?_
   simp [Iv.scl, hk, lim]
 · simp [hk]
   refine qaa rfl rfl rfl (q4x x.lo k wx.lo) ?_
   simp
   refine qaa rfl rfl rfl (q4x x.hi k wx.hi) ?_
   simp
   refine qaa rfl rfl rfl (que (x.lo.scl k, x.lo.sclE k) (x.hi.scl k, x.hi.sclE k)) ?_
   simp [Iv.scl, hk, lim]
theorem qp0 (x : Iv) (k : Int) (wx : x.W) : CQ prog qvz [x.v, .int .i64 k] (x.scl k).v := by
 refine qag rfl fun H => ?_
 simp
 refine qaa rfl rfl rfl (qd6 x wx) ?_
 cases hx : x.known
 · simp
   refine qaa rfl rfl rfl qba ?_
   simp [Iv.scl, hx, lim]
 · by_cases hk : -32768 ≤ k ∧ k ≤ 32768
   · have h1 : ¬ k < -32768 := by omega
     have h2 : ¬ 32768 < k := by omega
     simp [h1, h2]
     refine qaa rfl rfl rfl (qmh x.lo k wx.lo) ?_
     simp
     refine qaa rfl rfl rfl (qmh x.hi k wx.hi) ?_
     simp
     refine qaa rfl rfl rfl (q8p (x.lo.scl k, x.lo.sclE k) (x.hi.scl k, x.hi.sclE k)) ?_
     simp [Iv.scl, hx, lim]
   · have hs : x.scl k = Iv.whole := by
       have : ¬ (x.lo.valid = true ∧ -32768 ≤ k ∧ k ≤ 32768) := fun h => hk h.2
       simp [Iv.scl, hx, Iv.made, Dy.sclE, this]
     rw [hs]
     by_cases h1 : k < -32768
     · simp [h1]
       refine qaa rfl rfl rfl qba ?_
       simp [lim]
     · have h2 : 32768 < k := by omega
       simp [h1, h2]
       refine qaa rfl rfl rfl qba ?_
       simp [lim]
theorem q8y (x : Iv) (wx : x.W) : CQ prog qvt [x.v] (.int .i64 x.sgn) := by
 refine qag rfl fun H => ?_
 simp
 refine qar rfl rfl (H1 := H ++ [some ⟨7, [x.v], false, true⟩, some ⟨7, [x.v], true, false⟩]) (vs := [ivs [x]]) (by simp [prep, frzVs, frzV]; rfl) (qgw [x] (by simp) (by simpa using wx)) ?_
 cases hk : x.known
 · simp [hk, Iv.sgn]
 · obtain ⟨h1, h2⟩ := qai wx hk
   have s1 := qpj x.lo wx.lo
   have s2 := qpj x.hi wx.hi
   rw [h1.valid] at s1
   rw [h2.valid] at s2
   simp [hk]
   refine qaa rfl rfl rfl s1 ?_
   by_cases hp : 0 < x.lo.sgn
   · simp [Iv.sgn, hk, hp]
   · simp [hp]
     refine qaa rfl rfl rfl s2 ?_
     by_cases hn : x.hi.sgn < 0
     · simp [Iv.sgn, hk, hp, hn]
     · simp [Iv.sgn, hk, hp, hn]
theorem qxe (x : Iv) (wx : x.W) : CQ prog qx0 [x.v] (.int .i64 x.sgn) := by
 refine qag rfl fun H => ?_
 simp
 refine qaa rfl rfl rfl (qd6 x wx) ?_
 cases hk : x.known
 · simp [hk, Iv.sgn]
 · simp
   refine qaa rfl rfl rfl (qr5 x.lo) ?_
   by_cases hp : 0 < x.lo.sgn
   · simp [Iv.sgn, hk, hp]
   · simp [hp]
     refine qaa rfl rfl rfl (qr5 x.hi) ?_
     by_cases hn : x.hi.sgn < 0
     · simp [Iv.sgn, hk, hp, hn]
     · simp [Iv.sgn, hk, hp, hn]
theorem sgn_pos {x : Iv} : 0 < x.sgn ↔ x.known = true ∧ 0 < x.lo.sgn := by
 unfold Iv.sgn
 cases x.known
 · simp
 · by_cases h : 0 < x.lo.sgn
   · simp [h]
   · simp [h]; split <;> omega
end Go.Abs.W
namespace Go.Abs.W
theorem qet {a b : Dy} (ha : a.Ok) (hb : b.Ok) : a.cmp b = cmpI a.val b.val := by simp [Dy.cmp, ha.valid, hb.valid]
theorem qek {x y : Int} : cmpI x y ≤ 0 ↔ x ≤ y := by unfold cmpI; split <;> (try split) <;> omega
theorem qsv {x y : Int} : 0 ≤ cmpI x y ↔ y ≤ x := by unfold cmpI; split <;> (try split) <;> omega
theorem qakj {x y : Int} : cmpI x y < 0 ↔ x < y := by unfold cmpI; split <;> (try split) <;> omega
theorem qad5 {x y : Int} : 0 < cmpI x y ↔ y < x := by unfold cmpI; split <;> (try split) <;> omega
theorem qkp {a b : Dy} (ha : a.Ok) (hb : b.Ok) : (a.lo2 b).val = min a.val b.val := by
 unfold Dy.lo2; rw [qet ha hb]; split
 · rename_i h; rw [qek] at h; omega
 · rename_i h; rw [qek] at h; omega
theorem qha {a b : Dy} (ha : a.Ok) (hb : b.Ok) : (a.hi2 b).val = max a.val b.val := by
 unfold Dy.hi2; rw [qet ha hb]; split
 · rename_i h; rw [qsv] at h; omega
 · rename_i h; rw [qsv] at h; omega
theorem qif {d : Dy} : d.neg'.val = - d.val := by
 by_cases hm : d.m = []
 · have h1 : d.absN = 0 := Dy.absN_nil hm
   have h2 : d.neg'.absN = 0 := Dy.absN_nil hm
   simp [Dy.val, h1, h2]
 · have h2 : d.neg'.absN = d.absN := rfl
   have h3 : d.neg'.neg = !d.neg := by simp [Dy.neg', hm]
   unfold Dy.val
   rw [h2, h3]
   cases d.neg <;> simp
theorem qdr {d : Dy} (h : d.Ok) : (0 < d.sgn ↔ 0 < d.val) ∧ (d.sgn < 0 ↔ d.val < 0) := by
 by_cases hm : d.m = []
 · have h1 : d.absN = 0 := Dy.absN_nil hm
   simp [Dy.sgn, Dy.val, hm, h1]
 · have h1 := h.absN_ne hm
   unfold Dy.sgn Dy.val
   rw [if_neg hm]
   cases d.neg <;> simp <;> omega
theorem qdg {d : Dy} (h : d.Ok) : d.abs.Ok := by
 unfold Dy.abs
 split
 · rename_i h2
   exact ⟨h.li, h.tr, h.len, fun hm => absurd hm h2.2, h.odd, h.bits, h.elo, h.ehi, h.top⟩
 · exact Dy.zero_ok
theorem qc2 : Dy.zero.val = 0 := by
 unfold Dy.val
 rw [Dy.absN_nil rfl]
 rfl
theorem qoa {d : Dy} (h : d.Ok) : d.abs.val = d.val.natAbs := by
 unfold Dy.abs
 rw [h.valid]
 by_cases hm : d.m = []
 · have h1 : d.absN = 0 := Dy.absN_nil hm
   simp [hm, qc2]
   simp [Dy.val, h1]
 · have h2 : (⟨false, d.m, d.e⟩ : Dy).absN = d.absN := rfl
   simp only [true_and, ne_eq, hm, not_false_eq_true, if_true]
   unfold Dy.val
   rw [h2]
   cases d.neg <;> simp
theorem qak {x : Iv} (w : x.W) (h : x.known = true) : x.lo.val ≤ x.hi.val := by
 obtain ⟨h1, h2⟩ := qai w h
 simp [Iv.known] at h
 have hv := h.2
 rw [Iv.valid, if_neg (by simp [h.1])] at hv
 simp [qet h1 h2, qek] at hv
 exact hv.2
def Iv.mag (x : Iv) : Dy := x.lo.abs.hi2 x.hi.abs
def Iv.mig (x : Iv) : Dy := if x.sgn = 0 then Dy.zero else x.lo.abs.lo2 x.hi.abs
def Iv.abs (x : Iv) : Iv := if x.known = true then ⟨x.mig, x.mag, false⟩ else Iv.whole
theorem qajn {x : Iv} (w : x.W) (h : x.known = true) : x.lo.neg'.hi2 x.hi = x.mag := by
 obtain ⟨h1, h2⟩ := qai w h
 have hle := qak w h
 refine qsb (qvh (qb8 h1) h2) (qvh (qdg h1) (qdg h2)) ?_
 rw [Iv.mag, qha (qb8 h1) h2, qha (qdg h1) (qdg h2), qif, qoa h1, qoa h2]
 omega
theorem qabi {x : Iv} (w : x.W) (h : x.known = true) (hs : x.sgn ≠ 0) : 0 < x.lo.val ∨ x.hi.val < 0 := by
 obtain ⟨h1, h2⟩ := qai w h
 unfold Iv.sgn at hs
 rw [if_pos h] at hs
 by_cases hp : 0 < x.lo.sgn
 · exact .inl ((qdr h1).1.1 hp)
 · rw [if_neg hp] at hs
   by_cases hn : x.hi.sgn < 0
   · exact .inr ((qdr h2).2.1 hn)
   · rw [if_neg hn] at hs; exact absurd rfl hs
theorem qajl {x : Iv} (w : x.W) (h : x.known = true) (hs : x.sgn ≠ 0) : x.lo.hi2 x.hi.neg' = x.mig := by
 obtain ⟨h1, h2⟩ := qai w h
 have hle := qak w h
 have hc := qabi w h hs
 rw [Iv.mig, if_neg hs]
 refine qsb (qvh h1 (qb8 h2)) (q3m (qdg h1) (qdg h2)) ?_
 rw [qha h1 (qb8 h2), qkp (qdg h1) (qdg h2), qif, qoa h1, qoa h2]
 omega
theorem qou {x : Iv} (w : x.W) (h : x.known = true) : x.mag.Ok := qvh (qdg (qai w h).1) (qdg (qai w h).2)
theorem qacg {x : Iv} (w : x.W) (h : x.known = true) : x.mig.Ok := by
 unfold Iv.mig; split
 · exact Dy.zero_ok
 · exact q3m (qdg (qai w h).1) (qdg (qai w h).2)
theorem abs_W {x : Iv} (w : x.W) : x.abs.W := by
 unfold Iv.abs; split
 · rename_i h; exact ⟨(qacg w h).w, (qou w h).w⟩
 · exact Iv.whole_W
theorem q6j (x : Iv) (wx : x.W) : CQ prog qxr [x.v] (.tup [(if x.known = true then x.mag else Dy.zero).v, .bool x.known]) := by
 refine qag rfl fun H => ?_
 simp
 refine qar rfl rfl (H1 := H ++ [some ⟨7, [x.v], false, true⟩, some ⟨3, [.agg [.bool false, .nil, .int .i64 0]], false, true⟩, some ⟨7, [x.v], true, false⟩]) (vs := [ivs [x]]) (by simp [prep, frzVs, frzV]; rfl) (qgw [x] (by simp) (by simpa using wx)) ?_
 cases hk : x.known
 · simp [hk, Dy.zero, lim]
 · obtain ⟨h1, h2⟩ := qai wx hk
   simp [hk]
   refine qaa rfl rfl rfl (qxi x.lo wx.lo) ?_
   simp
   refine qaa rfl rfl rfl (qxi x.hi wx.hi) ?_
   simp
   refine qaa rfl rfl rfl (q7y x.lo.abs x.hi.abs (qdg h1).w (qdg h2).w) ?_
   simp [Iv.mag, lim]
theorem qak3 (x : Iv) (wx : x.W) : CQ prog qxq [x.v] (.tup [(if x.known = true then x.mig else Dy.zero).v, .bool x.known]) := by
 refine qag rfl fun H => ?_
 simp
 refine qar rfl rfl (H1 := H ++ [some ⟨7, [x.v], false, true⟩, some ⟨3, [.agg [.bool false, .nil, .int .i64 0]], false, true⟩, some ⟨7, [x.v], true, false⟩]) (vs := [ivs [x]]) (by simp [prep, frzVs, frzV]; rfl) (qgw [x] (by simp) (by simpa using wx)) ?_
 cases hk : x.known
 · simp [hk, Dy.zero, lim]
 · obtain ⟨h1, h2⟩ := qai wx hk
   simp [hk]
   refine qaa rfl rfl rfl (q8y x wx) ?_
   by_cases hs : x.sgn = 0
   · simp [hs, Iv.mig, Dy.zero, lim]
   · simp [hs]
     refine qaa rfl rfl rfl (qxi x.lo wx.lo) ?_
     simp
     refine qaa rfl rfl rfl (qxi x.hi wx.hi) ?_
     simp
     refine qaa rfl rfl rfl (q7z x.lo.abs x.hi.abs (qdg h1).w (qdg h2).w) ?_
     simp [Iv.mig, hs, lim]
theorem qaep (x : Iv) (wx : x.W) (hk : x.known = true) : CQ prog q1d [x.v] x.mag.v := by
 obtain ⟨h1, h2⟩ := qai wx hk
 refine qag rfl fun H => ?_
 simp
 refine qaa rfl rfl rfl (qr8 x.lo) ?_
 simp
 refine qaa rfl rfl rfl (qql x.lo.neg' x.hi (qb8 h1) h2) ?_
 rw [qajn wx hk]
 simp [lim]
theorem qakz (x : Iv) (wx : x.W) (hk : x.known = true) : CQ prog q1b [x.v] x.mig.v := by
 obtain ⟨h1, h2⟩ := qai wx hk
 refine qag rfl fun H => ?_
 simp
 refine qaa rfl rfl rfl (qxe x wx) ?_
 by_cases hs : x.sgn = 0
 · simp [hs, Iv.mig, Dy.zero, lim]
 · simp [hs]
   refine qaa rfl rfl rfl (qr8 x.hi) ?_
   simp
   refine qaa rfl rfl rfl (qql x.lo x.hi.neg' h1 (qb8 h2)) ?_
   rw [qajl wx hk hs]
   simp [lim]
theorem qaet (x : Iv) (wx : x.W) : CQ prog qxu [x.v] x.abs.v := by
 refine qag rfl fun H => ?_
 have m1 := qak3 x wx
 have m2 := q6j x wx
 simp
 refine qar rfl rfl (H1 := H ++ [some ⟨7, [x.v], false, true⟩, some ⟨7, [.agg [.bool false, .nil, .int .i64 0, .bool false, .nil, .int .i64 0, .bool false]], false, true⟩, some ⟨7, [x.v], true, false⟩]) (vs := [ivs [x]]) (by simp [prep, frzVs, frzV]; rfl) (qgw [x] (by simp) (by simpa using wx)) ?_
 cases hk : x.known
 · simp [hk]
   refine qaa rfl rfl rfl qat ?_
   simp [Iv.abs, hk, lim]
 · rw [hk] at m1 m2
   simp at m1 m2
   simp [hk]
   refine qaa rfl rfl rfl m1 ?_
   simp
   refine qaa rfl rfl rfl m2 ?_
   simp [Iv.abs, hk, lim]
theorem qahc (x : Iv) (wx : x.W) : CQ prog q1h [x.v] x.abs.v := by
 refine qag rfl fun H => ?_
 simp
 refine qaa rfl rfl rfl (qd6 x wx) ?_
 cases hk : x.known
 · simp
   refine qaa rfl rfl rfl qba ?_
   simp [Iv.abs, hk, lim]
 · simp
   refine qaa rfl rfl rfl (qakz x wx hk) ?_
   simp
   refine qaa rfl rfl rfl (qaep x wx hk) ?_
   simp [Iv.abs, hk, lim]
def pairs (x y : Iv) : List (Dy × Dy) := [(x.lo, y.lo), (x.lo, y.hi), (x.hi, y.lo), (x.hi, y.hi)]
def accLo (f : Dy → Dy → Dy × Int) : List (Dy × Dy) → Nat → Dy
 | _, 0 => Dy.zero
 | l, i + 1 => if i = 0 then (f ((l.getD i (Dy.zero, Dy.zero)).1) ((l.getD i (Dy.zero, Dy.zero)).2)).1 else (accLo f l i).lo2 (f ((l.getD i (Dy.zero, Dy.zero)).1) ((l.getD i (Dy.zero, Dy.zero)).2)).1
def accHi (f : Dy → Dy → Dy × Int) : List (Dy × Dy) → Nat → Dy
 | _, 0 => Dy.zero
 | l, i + 1 => if i = 0 then (f ((l.getD i (Dy.zero, Dy.zero)).1) ((l.getD i (Dy.zero, Dy.zero)).2)).1 else (accHi f l i).hi2 (f ((l.getD i (Dy.zero, Dy.zero)).1) ((l.getD i (Dy.zero, Dy.zero)).2)).1
def Iv.four (f g : Dy → Dy → Dy × Int) (x y : Iv) : Iv :=
 if (pairs x y).all (fun q => decide ((f q.1 q.2).2 = 0) && decide ((g q.1 q.2).2 = 0)) = true then ⟨accLo f (pairs x y) 4, accHi g (pairs x y) 4, false⟩ else Iv.whole
theorem q8f {a b : Dy} (ha : a.Ok) (hb : b.Ok) : (b.cmp a < 0 ↔ ¬ a.cmp b ≤ 0) ∧ (0 < b.cmp a ↔ ¬ 0 ≤ a.cmp b) := by
 rw [qet ha hb, qet hb ha, qakj, qad5, qek, qsv]; omega
end Go.Abs.W
namespace Go.Abs.W
def zIv : V := .agg [.bool false, .nil, .int .i64 0, .bool false, .nil, .int .i64 0, .bool false]
theorem q9r {n0 : Nat} {Q : AX → Env → Heap → Prop} (H G : Heap) (E : Env) (x y : Iv) (p : Int) (gd gu : Nat) (f g : Dy → Dy → Dy × Int)
   (hd : ∀ H args, prep prog gd H args = frzVs H args) (hu : ∀ H args, prep prog gu H args = frzVs H args)
   (cd : ∀ a b : Dy, a.W → b.W → CQ prog gd [a.v, b.v, .int .i64 p] (.tup [(f a b).1.v, .int .i64 (f a b).2])) (cu : ∀ a b : Dy, a.W → b.W → CQ prog gu [a.v, b.v, .int .i64 p] (.tup [(g a b).1.v, .int .i64 (g a b).2]))
   (okf : ∀ a b, (f a b).1.Ok) (okg : ∀ a b, (g a b).1.Ok) (i : Nat) (hi : i < 4) (a b : Dy) (wa : a.W) (wb : b.W) (cs : List V) (A : Blk)
   (hl6 : 6 ≤ cs.length - i * 6) (ht6 : List.take 6 (List.drop (i * 6) cs) = [.bool a.neg, lim a.m, .int .i64 a.e, .bool b.neg, lim b.m, .int .i64 b.e])
   (lo hi2 : Dy) (olo : lo.Ok) (ohi : hi2.Ok) (w : V) (hw : (i = 0 ∧ w = zIv) ∨ (i ≠ 0 ∧ w = Iv.v ⟨lo, hi2, false⟩))
   (h2 : E 2 = .int .i64 p) (h3 : E 3 = .fn gd []) (h4 : E 4 = .fn gu []) (h10 : E 10 = .ptr (H.length + 2) 0 0) (h12 : E 12 = .ptr (H.length + 4) 0 0) (h40 : E 40 = .agg cs) (h41 : E 41 = .int .i64 i)
   (hbad : ((f a b).2 ≠ 0 ∨ (g a b).2 ≠ 0) → ∀ E1 G1, E1 10 = .ptr (H.length + 2) 0 0 → Q .ret E1 (H ++ some ⟨7, [x.v], false, true⟩ :: some ⟨7, [y.v], false, true⟩ :: some ⟨7, [Iv.whole.v], false, true⟩ :: some A :: some ⟨7, [w], false, true⟩ :: G1))
   (hgood : (f a b).2 = 0 → (g a b).2 = 0 → ∀ E1 G1, E1 2 = .int .i64 p → E1 3 = .fn gd [] → E1 4 = .fn gu [] → E1 10 = .ptr (H.length + 2) 0 0 → E1 12 = .ptr (H.length + 4) 0 0 → E1 40 = .agg cs → E1 41 = .int .i64 ((i + 1 : Nat) : Int) →
     Q .normal E1 (H ++ some ⟨7, [x.v], false, true⟩ :: some ⟨7, [y.v], false, true⟩ :: some ⟨7, [zIv], false, true⟩ :: some A :: some ⟨7, [Iv.v ⟨if i = 0 then (f a b).1 else lo.lo2 (f a b).1, if i = 0 then (g a b).1 else hi2.hi2 (g a b).1, false⟩], false, true⟩ :: G1)) (hn0 : n0 = H.length) :
   WK prog n0 qdn [] E (H ++ some ⟨7, [x.v], false, true⟩ :: some ⟨7, [y.v], false, true⟩ :: some ⟨7, [zIv], false, true⟩ :: some A :: some ⟨7, [w], false, true⟩ :: G) Q := by
 subst hn0
 have e1 : IntKind.i64.wrap ((i : Int) + 1) = ((i + 1 : Nat) : Int) := by rw [wrap_i64] <;> omega
 have c1 := cd a b wa wb
 have c2 := cu a b wa wb
 have hi' : (i : Int) < 4 := by omega
 simp [qdn, h2, h3, h40, h41, hi, hi', hl6, ht6]
 refine qaa (g := gd) (caps := []) (args := [a.v, b.v, .int .i64 p]) (vs := [a.v, b.v, .int .i64 p]) rfl rfl (by rw [hd]; rfl) c1 ?_
 simp [h4, h2]
 refine qaa (g := gu) (caps := []) (args := [a.v, b.v, .int .i64 p]) (vs := [a.v, b.v, .int .i64 p]) rfl rfl (by rw [hu]; rfl) c2 ?_
 by_cases b1 : (f a b).2 = 0
 · by_cases b2 : (g a b).2 = 0
   · rcases hw with ⟨rfl, rfl⟩ | ⟨h0, rfl⟩
     · simp [b1, b2, zIv, h41, h12]
       simp [zIv] at hgood
       exact hgood b1 b2 _ _ (by simp [h2]) (by simp [h3]) (by simp [h4]) (by simp [h10]) (by simp [h12]) (by simp [h40]) (by simpa using e1)
     · have h0' : ¬ (i : Int) = 0 := by omega
       simp [b1, b2, h0, h12, zIv]
       simp [zIv, h0] at hgood
       obtain ⟨f1, f2⟩ := q8f olo (okf a b)
       obtain ⟨f3, f4⟩ := q8f ohi (okg a b)
       refine qaa rfl rfl rfl (qf4 _ _ (okf a b).w olo.w) ?_
       by_cases q1 : (f a b).1.cmp lo < 0
       · simp [q1, h0, h12]
         refine qaa rfl rfl rfl (qf4 _ _ (okg a b).w ohi.w) ?_
         by_cases q2 : 0 < (g a b).1.cmp hi2
         · simp [q2, h12, h41]
           have q3 := f1.1 q1
           have q4 := f4.1 q2
           simp [Dy.lo2, Dy.hi2, q3, q4] at hgood
           exact hgood b1 b2 _ _ (by simp [h2]) (by simp [h3]) (by simp [h4]) (by simp [h10]) (by simp [h12]) (by simp [h40]) (by simp [e1])
         · simp [q2, h41]
           have q3 := f1.1 q1
           have q4 : 0 ≤ hi2.cmp (g a b).1 := Decidable.byContradiction fun h => q2 (f4.2 h)
           simp [Dy.lo2, Dy.hi2, q3, q4] at hgood
           exact hgood b1 b2 _ _ (by simp [h2]) (by simp [h3]) (by simp [h4]) (by simp [h10]) (by simp [h12]) (by simp [h40]) (by simp [e1])
       · simp [q1, h0, h12]
         have q3 : lo.cmp (f a b).1 ≤ 0 := Decidable.byContradiction fun h => q1 (f1.2 h)
         refine qaa rfl rfl rfl (qf4 _ _ (okg a b).w ohi.w) ?_
         by_cases q2 : 0 < (g a b).1.cmp hi2
         · simp [q2, h12, h41]
           have q4 := f4.1 q2
           simp [Dy.lo2, Dy.hi2, q3, q4] at hgood
           exact hgood b1 b2 _ _ (by simp [h2]) (by simp [h3]) (by simp [h4]) (by simp [h10]) (by simp [h12]) (by simp [h40]) (by simp [e1])
         · simp [q2, h41]
           have q4 : 0 ≤ hi2.cmp (g a b).1 := Decidable.byContradiction fun h => q2 (f4.2 h)
           simp [Dy.lo2, Dy.hi2, q3, q4] at hgood
           exact hgood b1 b2 _ _ (by simp [h2]) (by simp [h3]) (by simp [h4]) (by simp [h10]) (by simp [h12]) (by simp [h40]) (by simp [e1])
   · simp [b1, b2]
     refine qaa rfl rfl rfl qat ?_
     simp [h10]
     simp at hbad
     exact hbad (.inr b2) _ _ (by simp [h10])
 · simp [b1]
   refine qaa rfl rfl rfl qat ?_
   simp [h10]
   simp at hbad
   exact hbad (.inl b1) _ _ (by simp [h10])
def qaf (x y : Iv) (i : Nat) : Dy × Dy := (pairs x y).getD i (Dy.zero, Dy.zero)
def qw0 (x y : Iv) : List V := [.bool x.lo.neg, lim x.lo.m, .int .i64 x.lo.e, .bool y.lo.neg, lim y.lo.m, .int .i64 y.lo.e, .bool x.lo.neg, lim x.lo.m, .int .i64 x.lo.e, .bool y.hi.neg, lim y.hi.m, .int .i64 y.hi.e,
 .bool x.hi.neg, lim x.hi.m, .int .i64 x.hi.e, .bool y.lo.neg, lim y.lo.m, .int .i64 y.lo.e, .bool x.hi.neg, lim x.hi.m, .int .i64 x.hi.e, .bool y.hi.neg, lim y.hi.m, .int .i64 y.hi.e]
theorem qad7 {x y : Iv} {i : Nat} (hi : i < 4) : 6 ≤ (qw0 x y).length - i * 6 ∧ List.take 6 (List.drop (i * 6) (qw0 x y)) = [.bool (qaf x y i).1.neg, lim (qaf x y i).1.m, .int .i64 (qaf x y i).1.e, .bool (qaf x y i).2.neg, lim (qaf x y i).2.m, .int .i64 (qaf x y i).2.e] := by
 obtain rfl | rfl | rfl | rfl : i = 0 ∨ i = 1 ∨ i = 2 ∨ i = 3 := by omega
 all_goals simp [qw0, qaf, pairs]
theorem q0h {x y : Iv} (wx : x.W) (wy : y.W) {i : Nat} (hi : i < 4) : (qaf x y i).1.W ∧ (qaf x y i).2.W := by
 obtain rfl | rfl | rfl | rfl : i = 0 ∨ i = 1 ∨ i = 2 ∨ i = 3 := by omega
 all_goals simp [qaf, pairs, wx.lo, wx.hi, wy.lo, wy.hi]
theorem qcd {f : Dy → Dy → Dy × Int} {x y : Iv} {i : Nat} : accLo f (pairs x y) (i + 1) = if i = 0 then (f (qaf x y i).1 (qaf x y i).2).1 else (accLo f (pairs x y) i).lo2 (f (qaf x y i).1 (qaf x y i).2).1 := rfl
theorem qce {f : Dy → Dy → Dy × Int} {x y : Iv} {i : Nat} : accHi f (pairs x y) (i + 1) = if i = 0 then (f (qaf x y i).1 (qaf x y i).2).1 else (accHi f (pairs x y) i).hi2 (f (qaf x y i).1 (qaf x y i).2).1 := rfl
theorem qb6 {f : Dy → Dy → Dy × Int} (okf : ∀ a b, (f a b).1.Ok) {x y : Iv} : ∀ i, (accLo f (pairs x y) i).Ok
 | 0 => Dy.zero_ok
 | i + 1 => by
   rw [qcd]; split
   · exact okf _ _
   · exact q3m (qb6 okf i) (okf _ _)
theorem qb7 {f : Dy → Dy → Dy × Int} (okf : ∀ a b, (f a b).1.Ok) {x y : Iv} : ∀ i, (accHi f (pairs x y) i).Ok
 | 0 => Dy.zero_ok
 | i + 1 => by
   rw [qce]; split
   · exact okf _ _
   · exact qvh (qb7 okf i) (okf _ _)
def good4 (f g : Dy → Dy → Dy × Int) (x y : Iv) (i : Nat) : Prop := ∀ j, j < i → (f (qaf x y j).1 (qaf x y j).2).2 = 0 ∧ (g (qaf x y j).1 (qaf x y j).2).2 = 0
theorem qdx {f g : Dy → Dy → Dy × Int} {x y : Iv} (h : good4 f g x y 4) : Iv.four f g x y = ⟨accLo f (pairs x y) 4, accHi g (pairs x y) 4, false⟩ := by
 have h0 := h 0 (by omega)
 have h1 := h 1 (by omega)
 have h2 := h 2 (by omega)
 have h3 := h 3 (by omega)
 simp [qaf, pairs] at h0 h1 h2 h3
 unfold Iv.four
 rw [if_pos]
 simp [pairs, h0, h1, h2, h3]
theorem qug {f g : Dy → Dy → Dy × Int} {x y : Iv} {i : Nat} (hi : i < 4) (h : (f (qaf x y i).1 (qaf x y i).2).2 ≠ 0 ∨ (g (qaf x y i).1 (qaf x y i).2).2 ≠ 0) : Iv.four f g x y = Iv.whole := by
 unfold Iv.four
 rw [if_neg]
 intro hc
 simp [pairs] at hc
 obtain rfl | rfl | rfl | rfl : i = 0 ∨ i = 1 ∨ i = 2 ∨ i = 3 := by omega
 all_goals simp [qaf, pairs] at h
 all_goals obtain ⟨a, b, c, d⟩ := hc
 all_goals rcases h with h | h
 all_goals simp_all
theorem qac3 (x y : Iv) (p : Int) (gd gu : Nat) (f g : Dy → Dy → Dy × Int) (wx : x.W) (wy : y.W)
   (hd : ∀ H args, prep prog gd H args = frzVs H args) (hu : ∀ H args, prep prog gu H args = frzVs H args)
   (cd : ∀ a b : Dy, a.W → b.W → CQ prog gd [a.v, b.v, .int .i64 p] (.tup [(f a b).1.v, .int .i64 (f a b).2])) (cu : ∀ a b : Dy, a.W → b.W → CQ prog gu [a.v, b.v, .int .i64 p] (.tup [(g a b).1.v, .int .i64 (g a b).2]))
   (okf : ∀ a b, (f a b).1.Ok) (okg : ∀ a b, (g a b).1.Ok) : CQ prog qvs [x.v, y.v, .int .i64 p, .fn gd [], .fn gu []] (Iv.four f g x y).v := by
 refine qag rfl fun H => ?_
 simp
 refine qcz (fun k E H' => ∃ i w G, k = 4 - i ∧ i ≤ 4 ∧ ((i = 0 ∧ w = zIv) ∨ (i ≠ 0 ∧ w = Iv.v ⟨accLo f (pairs x y) i, accHi g (pairs x y) i, false⟩)) ∧ good4 f g x y i ∧
   E 2 = .int .i64 p ∧ E 3 = .fn gd [] ∧ E 4 = .fn gu [] ∧ E 10 = .ptr (H.length + 2) 0 0 ∧ E 12 = .ptr (H.length + 4) 0 0 ∧ E 40 = .agg (qw0 x y) ∧ E 41 = .int .i64 i ∧
   H' = H ++ some ⟨7, [x.v], false, true⟩ :: some ⟨7, [y.v], false, true⟩ :: some ⟨7, [zIv], false, true⟩ :: some ⟨24, [.agg (qw0 x y)], false, true⟩ :: some ⟨7, [w], false, true⟩ :: G) 4 ?_ ?_
 · refine ⟨0, zIv, [], rfl, by omega, .inl ⟨rfl, rfl⟩, fun j hj => by omega, ?_, ?_, ?_, ?_, ?_, ?_, ?_, ?_⟩ <;> simp [qw0, zIv]
 · rintro k E H' ⟨i, w, G, hk, hi, hw, hg, h2, h3, h4, h10, h12, h40, h41, rfl⟩
   refine qas ?_
   by_cases h4' : i < 4
   · obtain ⟨hl, ht⟩ := qad7 (x := x) (y := y) h4'
     obtain ⟨wa, wb⟩ := q0h wx wy h4'
     refine q9r H G E x y p gd gu f g hd hu cd cu okf okg i h4' _ _ wa wb (qw0 x y) _ hl ht _ _ (qb6 okf i) (qb7 okg i) w hw h2 h3 h4 h10 h12 h40 h41 ?_ ?_ rfl
     · intro hb E1 G1 e10
       simp [e10, qug h4' hb, Iv.whole, lim]
     · intro b1 b2 E1 G1 e2 e3 e4 e10 e12 e40 e41
       refine ⟨4 - (i + 1), by omega, i + 1, _, G1, rfl, by omega, .inr ⟨by omega, ?_⟩, ?_, e2, e3, e4, e10, e12, e40, e41, rfl⟩
       · rw [qcd, qce]
       · intro j hj
         by_cases h : j < i
         · exact hg j h
         · have : j = i := by omega
           subst this; exact ⟨b1, b2⟩
   · have : i = 4 := by omega
     subst this
     rcases hw with ⟨h, _⟩ | ⟨_, rfl⟩
     · omega
     · simp [qdn, h41, h10, h12, qdx hg, lim, zIv]
end Go.Abs.W
namespace Go.Abs.W
def Iv.mul (x y : Iv) (p : Int) : Iv := if (x.known && y.known && precB p) = true then Iv.four (fun a b => rMul a b p false) (fun a b => rMul a b p true) x y else Iv.whole
def Iv.div (x y : Iv) (p : Int) : Iv := if (x.known && y.known && precB p && decide (y.sgn ≠ 0)) = true then Iv.four (fun a b => rDiv a b p false) (fun a b => rDiv a b p true) x y else Iv.whole
theorem qaib {f g : Dy → Dy → Dy × Int} (okf : ∀ a b, (f a b).1.Ok) (okg : ∀ a b, (g a b).1.Ok) {x y : Iv} : (Iv.four f g x y).W := by
 unfold Iv.four; split
 · exact ⟨(qb6 okf 4).w, (qb7 okg 4).w⟩
 · exact Iv.whole_W
theorem mul_W {x y : Iv} {p : Int} : (x.mul y p).W := by
 unfold Iv.mul; split
 · exact qaib (fun _ _ => rMul_ok) (fun _ _ => rMul_ok)
 · exact Iv.whole_W
theorem div_W {x y : Iv} {p : Int} : (x.div y p).W := by
 unfold Iv.div; split
 · exact qaib (fun _ _ => qej) (fun _ _ => qej)
 · exact Iv.whole_W
theorem q7s {a : Dy} : a.lo2 a = a := by unfold Dy.lo2; split <;> rfl
theorem q71 {a : Dy} : a.hi2 a = a := by unfold Dy.hi2; split <;> rfl
def pair6 (q : Dy × Dy) : V := .agg [.bool q.1.neg, lim q.1.m, .int .i64 q.1.e, .bool q.2.neg, lim q.2.m, .int .i64 q.2.e]
def ps4 (x y : Iv) : List V := [pair6 (x.lo, y.lo), pair6 (x.lo, y.hi), pair6 (x.hi, y.lo), pair6 (x.hi, y.hi)]
theorem qahw {x y : Iv} {i : Nat} (hi : i < 4) : (ps4 x y)[i]? = some (pair6 (qaf x y i)) := by
 obtain rfl | rfl | rfl | rfl : i = 0 ∨ i = 1 ∨ i = 2 ∨ i = 3 := by omega
 all_goals rfl
theorem qsf {x y : Iv} : (ps4 x y).length = 4 := rfl
theorem qadl (x y : Iv) : CQ prog qxz [x.v, y.v] (.sl (ps4 x y)) := by
 refine qag rfl fun H => ?_
 simp [ps4, pair6, fin]
theorem q6i (x y : Iv) (p : Int) (wx : x.W) (wy : y.W) : CQ prog qxp [x.v, y.v, .int .i64 p] (x.mul y p).v := by
 refine qag rfl fun H => ?_
 simp
 refine qar rfl rfl (H1 := H ++ [some ⟨7, [x.v], false, true⟩, some ⟨7, [y.v], false, true⟩, some ⟨7, [.agg [.bool false, .nil, .int .i64 0, .bool false, .nil, .int .i64 0, .bool false]], false, true⟩, some ⟨7, [x.v, y.v], true, false⟩]) (vs := [ivs [x, y]]) (by simp [prep, frzVs, frzV]; rfl) (qgw [x, y] (by simp) (by simp; exact ⟨wx, wy⟩)) ?_
 cases hk : x.known && y.known
 · have : ([x, y].all Iv.known) = false := by simpa using hk
   simp only [this]
   simp
   refine qaa rfl rfl rfl qat ?_
   simp [Iv.mul, hk, lim]
 · have : ([x, y].all Iv.known) = true := by simpa using hk
   simp only [this]
   simp
   refine qaa rfl rfl rfl (qg5 p) ?_
   cases hp : precB p
   · simp
     refine qaa rfl rfl rfl qat ?_
     simp [Iv.mul, hp, lim]
   · simp
     refine qaa rfl rfl rfl (qac3 x y p qow qrm (fun a b => rMul a b p false) (fun a b => rMul a b p true) wx wy (fun _ _ => rfl) (fun _ _ => rfl) (fun a b wa wb => qzx a b p wa wb) (fun a b wa wb => q8w a b p wa wb) (fun _ _ => rMul_ok) (fun _ _ => rMul_ok)) ?_
     simp [Iv.mul, hk, hp, lim]
theorem qak5 (x y : Iv) (p : Int) (wx : x.W) (wy : y.W) : CQ prog qxt [x.v, y.v, .int .i64 p] (x.div y p).v := by
 refine qag rfl fun H => ?_
 simp
 refine qar rfl rfl (H1 := H ++ [some ⟨7, [x.v], false, true⟩, some ⟨7, [y.v], false, true⟩, some ⟨7, [.agg [.bool false, .nil, .int .i64 0, .bool false, .nil, .int .i64 0, .bool false]], false, true⟩, some ⟨7, [x.v, y.v], true, false⟩]) (vs := [ivs [x, y]]) (by simp [prep, frzVs, frzV]; rfl) (qgw [x, y] (by simp) (by simp; exact ⟨wx, wy⟩)) ?_
 cases hk : x.known && y.known
 · have : ([x, y].all Iv.known) = false := by simpa using hk
   simp only [this]
   simp
   refine qaa rfl rfl rfl qat ?_
   simp [Iv.div, hk, lim]
 · have : ([x, y].all Iv.known) = true := by simpa using hk
   simp only [this]
   simp
   refine qaa rfl rfl rfl (qg5 p) ?_
   cases hp : precB p
   · simp
     refine qaa rfl rfl rfl qat ?_
     simp [Iv.div, hp, lim]
   · simp
     refine qaa rfl rfl rfl (q8y y wy) ?_
     by_cases hs : y.sgn = 0
     · simp [hs]
       refine qaa rfl rfl rfl qat ?_
       simp [Iv.div, hs, lim]
     · simp [hs]
       refine qaa rfl rfl rfl (qac3 x y p qox qrn (fun a b => rDiv a b p false) (fun a b => rDiv a b p true) wx wy (fun _ _ => rfl) (fun _ _ => rfl) (fun a b wa wb => qaac a b p wa wb) (fun a b wa wb => qahf a b p wa wb) (fun _ _ => qej) (fun _ _ => qej)) ?_
       simp [Iv.div, hk, hp, hs, lim]
theorem q9f {Q : AX → Env → Heap → Prop} (H G : Heap) (E : Env) (x y : Iv) (p : Int) (i : Nat) (hi : i < 4) (wa : (qaf x y i).1.W) (wb : (qaf x y i).2.W)
   (lo hi2 : Dy) (olo : lo.Ok) (ohi : hi2.Ok) (w : V) (hw : (i = 0 ∧ w = zIv) ∨ (i ≠ 0 ∧ w = Iv.v ⟨lo, hi2, false⟩))
   (h2 : E 2 = .int .i64 p) (h6 : E 6 = .ptr (H.length + 2) 0 0) (h7 : E 7 = .sl (ps4 x y)) (h8 : E 8 = .ptr (H.length + 3) 0 0) (h9 : E 9 = .int .i64 i)
   (hbad : ((rMul (qaf x y i).1 (qaf x y i).2 p false).2 ≠ 0 ∨ (rMul (qaf x y i).1 (qaf x y i).2 p true).2 ≠ 0) → ∀ E1 G1, E1 6 = .ptr (H.length + 2) 0 0 → Q .ret E1 (H ++ some ⟨7, [x.v], false, true⟩ :: some ⟨7, [y.v], false, true⟩ :: some ⟨7, [Iv.whole.v], false, true⟩ :: some ⟨7, [w], false, true⟩ :: G1))
   (hgood : (rMul (qaf x y i).1 (qaf x y i).2 p false).2 = 0 → (rMul (qaf x y i).1 (qaf x y i).2 p true).2 = 0 → ∀ E1 G1, E1 2 = .int .i64 p → E1 6 = .ptr (H.length + 2) 0 0 → E1 7 = .sl (ps4 x y) → E1 8 = .ptr (H.length + 3) 0 0 → E1 9 = .int .i64 ((i + 1 : Nat) : Int) →
     Q .normal E1 (H ++ some ⟨7, [x.v], false, true⟩ :: some ⟨7, [y.v], false, true⟩ :: some ⟨7, [zIv], false, true⟩ :: some ⟨7, [Iv.v ⟨if i = 0 then (rMul (qaf x y i).1 (qaf x y i).2 p false).1 else lo.lo2 (rMul (qaf x y i).1 (qaf x y i).2 p false).1, if i = 0 then (rMul (qaf x y i).1 (qaf x y i).2 p true).1 else hi2.hi2 (rMul (qaf x y i).1 (qaf x y i).2 p true).1, false⟩], false, true⟩ :: G1)) :
   WK prog H.length qde [] E (H ++ some ⟨7, [x.v], false, true⟩ :: some ⟨7, [y.v], false, true⟩ :: some ⟨7, [zIv], false, true⟩ :: some ⟨7, [w], false, true⟩ :: G) Q := by
 have e1 : IntKind.i64.wrap ((i : Int) + 1) = ((i + 1 : Nat) : Int) := by rw [wrap_i64] <;> omega
 have hi' : (i : Int) < 4 := by omega
 have hat : (ps4 x y)[i]'(by rw [qsf]; exact hi) = pair6 (qaf x y i) := by have := qahw (x := x) (y := y) hi; rw [List.getElem?_eq_getElem (by rw [qsf]; exact hi)] at this; exact Option.some.inj this
 have hlen := qsf (x := x) (y := y)
 have c1 := q8r (qaf x y i).1 (qaf x y i).2 p false wa wb
 have c2 := q8r (qaf x y i).1 (qaf x y i).2 p true wa wb
 have ok1 := rMul_ok (a := (qaf x y i).1) (b := (qaf x y i).2) (p := p) (up := false)
 have ok2 := rMul_ok (a := (qaf x y i).1) (b := (qaf x y i).2) (p := p) (up := true)
 generalize hq : qaf x y i = q at *
 obtain ⟨a, b⟩ := q
 simp only at *
 generalize hr : rMul a b p false = r at *
 generalize hs : rMul a b p true = s at *
 simp [pair6] at hat
 simp [qde, h2, h7, h9, hi, hi', hat, hlen]
 refine qaa rfl rfl rfl c1 ?_
 simp [h7, h9, h2, hi, hat, hlen]
 refine qaa rfl rfl rfl c2 ?_
 by_cases b1 : r.2 = 0
 · by_cases b2 : s.2 = 0
   · rcases hw with ⟨rfl, rfl⟩ | ⟨h0, rfl⟩
     · simp [b1, b2, zIv, h9, h8]
       refine qaa rfl rfl rfl (qrk r.1 r.1 ok1 ok1) ?_
       simp [h8]
       refine qaa rfl rfl rfl (qql s.1 s.1 ok2 ok2) ?_
       simp [zIv] at hgood
       simp [h8, h9, q7s, q71]
       exact hgood b1 b2 _ _ (by simp [h2]) (by simp [h6]) (by simp [h7]) (by simp [h8]) (by simpa using e1)
     · have h0' : ¬ (i : Int) = 0 := by omega
       simp [zIv, h0] at hgood
       simp [b1, b2, h0, h9, h8, zIv]
       refine qaa rfl rfl rfl (qrk lo r.1 olo ok1) ?_
       simp [h8]
       refine qaa rfl rfl rfl (qql hi2 s.1 ohi ok2) ?_
       simp [h8, h9]
       exact hgood b1 b2 _ _ (by simp [h2]) (by simp [h6]) (by simp [h7]) (by simp [h8]) (by simp [e1])
   · simp [b1, b2]
     refine qaa rfl rfl rfl qba ?_
     simp [h6]
     simp at hbad
     exact hbad (.inr b2) _ _ (by simp [h6])
 · simp [b1]
   refine qaa rfl rfl rfl qba ?_
   simp [h6]
   simp at hbad
   exact hbad (.inl b1) _ _ (by simp [h6])
theorem qabn (H : Heap) (x y : Iv) (p : Int) (wx : x.W) (wy : y.W) (E : Env) {K : List Fr} {Q : AX → Env → Heap → Prop}
   (h2 : E 2 = .int .i64 p) (h6 : E 6 = .ptr (H.length + 2) 0 0) (h7 : E 7 = .sl (ps4 x y)) (h8 : E 8 = .ptr (H.length + 3) 0 0) (h9 : E 9 = .int .i64 0)
   (hbad : ∀ E1 w G1, E1 6 = .ptr (H.length + 2) 0 0 → Iv.four (fun a b => rMul a b p false) (fun a b => rMul a b p true) x y = Iv.whole → WP prog H.length Q K .ret E1 (H ++ some ⟨7, [x.v], false, true⟩ :: some ⟨7, [y.v], false, true⟩ :: some ⟨7, [Iv.whole.v], false, true⟩ :: some ⟨7, [w], false, true⟩ :: G1))
   (hgood : ∀ E1 G1, E1 6 = .ptr (H.length + 2) 0 0 → E1 8 = .ptr (H.length + 3) 0 0 → WP prog H.length Q K (.exit 0) E1 (H ++ some ⟨7, [x.v], false, true⟩ :: some ⟨7, [y.v], false, true⟩ :: some ⟨7, [zIv], false, true⟩ :: some ⟨7, [(Iv.four (fun a b => rMul a b p false) (fun a b => rMul a b p true) x y).v], false, true⟩ :: G1)) :
   WK prog H.length (.loop qde) K E (H ++ some ⟨7, [x.v], false, true⟩ :: some ⟨7, [y.v], false, true⟩ :: some ⟨7, [zIv], false, true⟩ :: some ⟨7, [zIv], false, true⟩ :: []) Q := by
 refine qcz (fun k E H' => ∃ i w G, k = 4 - i ∧ i ≤ 4 ∧ ((i = 0 ∧ w = zIv) ∨ (i ≠ 0 ∧ w = Iv.v ⟨accLo (fun a b => rMul a b p false) (pairs x y) i, accHi (fun a b => rMul a b p true) (pairs x y) i, false⟩)) ∧ good4 (fun a b => rMul a b p false) (fun a b => rMul a b p true) x y i ∧
   E 2 = .int .i64 p ∧ E 6 = .ptr (H.length + 2) 0 0 ∧ E 7 = .sl (ps4 x y) ∧ E 8 = .ptr (H.length + 3) 0 0 ∧ E 9 = .int .i64 i ∧
   H' = H ++ some ⟨7, [x.v], false, true⟩ :: some ⟨7, [y.v], false, true⟩ :: some ⟨7, [zIv], false, true⟩ :: some ⟨7, [w], false, true⟩ :: G) 4 ?_ ?_
 · exact ⟨0, zIv, [], rfl, by omega, .inl ⟨rfl, rfl⟩, fun j hj => by omega, h2, h6, h7, h8, h9, rfl⟩
 · rintro k E H' ⟨i, w, G, hk, hi, hw, hg, h2, h6, h7, h8, h9, rfl⟩
   refine qas ?_
   by_cases h4' : i < 4
   · obtain ⟨wa, wb⟩ := q0h wx wy h4'
     refine q9f H G E x y p i h4' wa wb _ _ (qb6 (f := (fun a b => rMul a b p false)) (fun _ _ => rMul_ok) i) (qb7 (f := (fun a b => rMul a b p true)) (fun _ _ => rMul_ok) i) w hw h2 h6 h7 h8 h9 ?_ ?_
     · intro hb E1 G1 e6
       exact hbad E1 w G1 e6 (qug (f := (fun a b => rMul a b p false)) (g := (fun a b => rMul a b p true)) h4' hb)
     · intro b1 b2 E1 G1 e2 e6 e7 e8 e9
       refine ⟨4 - (i + 1), by omega, i + 1, _, G1, rfl, by omega, .inr ⟨by omega, ?_⟩, ?_, e2, e6, e7, e8, e9, rfl⟩
       · rw [qcd, qce]
       · intro j hj
         by_cases h : j < i
         · exact hg j h
         · have : j = i := by omega
           subst this; exact ⟨b1, b2⟩
   · have : i = 4 := by omega
     subst this
     rcases hw with ⟨h, _⟩ | ⟨_, rfl⟩
     · omega
     · simp [qde, h9]
       rw [qdx hg] at hgood
       exact hgood _ G (by simp [h6]) (by simp [h8])
theorem q8s (x y : Iv) (p : Int) (wx : x.W) (wy : y.W) : CQ prog q1a [x.v, y.v, .int .i64 p] (x.mul y p).v := by
 refine qag rfl fun H => ?_
 simp
 refine qaa rfl rfl rfl (qpk p) ?_
 cases hp : precB p
 · simp
   refine qaa rfl rfl rfl qba ?_
   simp [Iv.mul, hp, lim]
 · simp
   refine qaa rfl rfl rfl (qd6 x wx) ?_
   cases hx : x.known
   · simp
     refine qaa rfl rfl rfl qba ?_
     simp [Iv.mul, hx, lim]
   · simp
     refine qaa rfl rfl rfl (qd6 y wy) ?_
     cases hy : y.known
     · simp
       refine qaa rfl rfl rfl qba ?_
       simp [Iv.mul, hy, lim]
     · simp
       refine qaa rfl rfl rfl (qadl x y) ?_
       simp
       refine qbp (qabn H x y p wx wy _ (by simp) (by simp) (by simp) (by simp) (by simp) ?_ ?_) (fun _ _ _ h => h)
       · intro E1 w G1 e6 h
         simp [e6, Iv.mul, hx, hy, hp, h, lim]
       · intro E1 G1 e6 e8
         simp [e6, e8, Iv.mul, hx, hy, hp, lim, zIv]
theorem q9h {Q : AX → Env → Heap → Prop} (H G : Heap) (E : Env) (x y : Iv) (p : Int) (i : Nat) (hi : i < 4) (wa : (qaf x y i).1.W) (wb : (qaf x y i).2.W)
   (lo hi2 : Dy) (olo : lo.Ok) (ohi : hi2.Ok) (w : V) (hw : (i = 0 ∧ w = zIv) ∨ (i ≠ 0 ∧ w = Iv.v ⟨lo, hi2, false⟩))
   (h2 : E 2 = .int .i64 p) (h6 : E 6 = .ptr (H.length + 2) 0 0) (h7 : E 7 = .sl (ps4 x y)) (h8 : E 8 = .ptr (H.length + 3) 0 0) (h9 : E 9 = .int .i64 i)
   (hbad : ((rDiv (qaf x y i).1 (qaf x y i).2 p false).2 ≠ 0 ∨ (rDiv (qaf x y i).1 (qaf x y i).2 p true).2 ≠ 0) → ∀ E1 G1, E1 6 = .ptr (H.length + 2) 0 0 → Q .ret E1 (H ++ some ⟨7, [x.v], false, true⟩ :: some ⟨7, [y.v], false, true⟩ :: some ⟨7, [Iv.whole.v], false, true⟩ :: some ⟨7, [w], false, true⟩ :: G1))
   (hgood : (rDiv (qaf x y i).1 (qaf x y i).2 p false).2 = 0 → (rDiv (qaf x y i).1 (qaf x y i).2 p true).2 = 0 → ∀ E1 G1, E1 2 = .int .i64 p → E1 6 = .ptr (H.length + 2) 0 0 → E1 7 = .sl (ps4 x y) → E1 8 = .ptr (H.length + 3) 0 0 → E1 9 = .int .i64 ((i + 1 : Nat) : Int) →
     Q .normal E1 (H ++ some ⟨7, [x.v], false, true⟩ :: some ⟨7, [y.v], false, true⟩ :: some ⟨7, [zIv], false, true⟩ :: some ⟨7, [Iv.v ⟨if i = 0 then (rDiv (qaf x y i).1 (qaf x y i).2 p false).1 else lo.lo2 (rDiv (qaf x y i).1 (qaf x y i).2 p false).1, if i = 0 then (rDiv (qaf x y i).1 (qaf x y i).2 p true).1 else hi2.hi2 (rDiv (qaf x y i).1 (qaf x y i).2 p true).1, false⟩], false, true⟩ :: G1)) :
   WK prog H.length qdf [] E (H ++ some ⟨7, [x.v], false, true⟩ :: some ⟨7, [y.v], false, true⟩ :: some ⟨7, [zIv], false, true⟩ :: some ⟨7, [w], false, true⟩ :: G) Q := by
 have e1 : IntKind.i64.wrap ((i : Int) + 1) = ((i + 1 : Nat) : Int) := by rw [wrap_i64] <;> omega
 have hi' : (i : Int) < 4 := by omega
 have hat : (ps4 x y)[i]'(by rw [qsf]; exact hi) = pair6 (qaf x y i) := by have := qahw (x := x) (y := y) hi; rw [List.getElem?_eq_getElem (by rw [qsf]; exact hi)] at this; exact Option.some.inj this
 have hlen := qsf (x := x) (y := y)
 have c1 := q8u (qaf x y i).1 (qaf x y i).2 p false wa wb
 have c2 := q8u (qaf x y i).1 (qaf x y i).2 p true wa wb
 have ok1 := qej (a := (qaf x y i).1) (b := (qaf x y i).2) (p := p) (up := false)
 have ok2 := qej (a := (qaf x y i).1) (b := (qaf x y i).2) (p := p) (up := true)
 generalize hq : qaf x y i = q at *
 obtain ⟨a, b⟩ := q
 simp only at *
 generalize hr : rDiv a b p false = r at *
 generalize hs : rDiv a b p true = s at *
 simp [pair6] at hat
 simp [qdf, h2, h7, h9, hi, hi', hat, hlen]
 refine qaa rfl rfl rfl c1 ?_
 simp [h7, h9, h2, hi, hat, hlen]
 refine qaa rfl rfl rfl c2 ?_
 by_cases b1 : r.2 = 0
 · by_cases b2 : s.2 = 0
   · rcases hw with ⟨rfl, rfl⟩ | ⟨h0, rfl⟩
     · simp [b1, b2, zIv, h9, h8]
       refine qaa rfl rfl rfl (qrk r.1 r.1 ok1 ok1) ?_
       simp [h8]
       refine qaa rfl rfl rfl (qql s.1 s.1 ok2 ok2) ?_
       simp [zIv] at hgood
       simp [h8, h9, q7s, q71]
       exact hgood b1 b2 _ _ (by simp [h2]) (by simp [h6]) (by simp [h7]) (by simp [h8]) (by simpa using e1)
     · have h0' : ¬ (i : Int) = 0 := by omega
       simp [zIv, h0] at hgood
       simp [b1, b2, h0, h9, h8, zIv]
       refine qaa rfl rfl rfl (qrk lo r.1 olo ok1) ?_
       simp [h8]
       refine qaa rfl rfl rfl (qql hi2 s.1 ohi ok2) ?_
       simp [h8, h9]
       exact hgood b1 b2 _ _ (by simp [h2]) (by simp [h6]) (by simp [h7]) (by simp [h8]) (by simp [e1])
   · simp [b1, b2]
     refine qaa rfl rfl rfl qba ?_
     simp [h6]
     simp at hbad
     exact hbad (.inr b2) _ _ (by simp [h6])
 · simp [b1]
   refine qaa rfl rfl rfl qba ?_
   simp [h6]
   simp at hbad
   exact hbad (.inl b1) _ _ (by simp [h6])
theorem qabp (H : Heap) (x y : Iv) (p : Int) (wx : x.W) (wy : y.W) (E : Env) {K : List Fr} {Q : AX → Env → Heap → Prop}
   (h2 : E 2 = .int .i64 p) (h6 : E 6 = .ptr (H.length + 2) 0 0) (h7 : E 7 = .sl (ps4 x y)) (h8 : E 8 = .ptr (H.length + 3) 0 0) (h9 : E 9 = .int .i64 0)
   (hbad : ∀ E1 w G1, E1 6 = .ptr (H.length + 2) 0 0 → Iv.four (fun a b => rDiv a b p false) (fun a b => rDiv a b p true) x y = Iv.whole → WP prog H.length Q K .ret E1 (H ++ some ⟨7, [x.v], false, true⟩ :: some ⟨7, [y.v], false, true⟩ :: some ⟨7, [Iv.whole.v], false, true⟩ :: some ⟨7, [w], false, true⟩ :: G1))
   (hgood : ∀ E1 G1, E1 6 = .ptr (H.length + 2) 0 0 → E1 8 = .ptr (H.length + 3) 0 0 → WP prog H.length Q K (.exit 0) E1 (H ++ some ⟨7, [x.v], false, true⟩ :: some ⟨7, [y.v], false, true⟩ :: some ⟨7, [zIv], false, true⟩ :: some ⟨7, [(Iv.four (fun a b => rDiv a b p false) (fun a b => rDiv a b p true) x y).v], false, true⟩ :: G1)) :
   WK prog H.length (.loop qdf) K E (H ++ some ⟨7, [x.v], false, true⟩ :: some ⟨7, [y.v], false, true⟩ :: some ⟨7, [zIv], false, true⟩ :: some ⟨7, [zIv], false, true⟩ :: []) Q := by
 refine qcz (fun k E H' => ∃ i w G, k = 4 - i ∧ i ≤ 4 ∧ ((i = 0 ∧ w = zIv) ∨ (i ≠ 0 ∧ w = Iv.v ⟨accLo (fun a b => rDiv a b p false) (pairs x y) i, accHi (fun a b => rDiv a b p true) (pairs x y) i, false⟩)) ∧ good4 (fun a b => rDiv a b p false) (fun a b => rDiv a b p true) x y i ∧
   E 2 = .int .i64 p ∧ E 6 = .ptr (H.length + 2) 0 0 ∧ E 7 = .sl (ps4 x y) ∧ E 8 = .ptr (H.length + 3) 0 0 ∧ E 9 = .int .i64 i ∧
   H' = H ++ some ⟨7, [x.v], false, true⟩ :: some ⟨7, [y.v], false, true⟩ :: some ⟨7, [zIv], false, true⟩ :: some ⟨7, [w], false, true⟩ :: G) 4 ?_ ?_
 · exact ⟨0, zIv, [], rfl, by omega, .inl ⟨rfl, rfl⟩, fun j hj => by omega, h2, h6, h7, h8, h9, rfl⟩
 · rintro k E H' ⟨i, w, G, hk, hi, hw, hg, h2, h6, h7, h8, h9, rfl⟩
   refine qas ?_
   by_cases h4' : i < 4
   · obtain ⟨wa, wb⟩ := q0h wx wy h4'
     refine q9h H G E x y p i h4' wa wb _ _ (qb6 (f := (fun a b => rDiv a b p false)) (fun _ _ => qej) i) (qb7 (f := (fun a b => rDiv a b p true)) (fun _ _ => qej) i) w hw h2 h6 h7 h8 h9 ?_ ?_
     · intro hb E1 G1 e6
       exact hbad E1 w G1 e6 (qug (f := (fun a b => rDiv a b p false)) (g := (fun a b => rDiv a b p true)) h4' hb)
     · intro b1 b2 E1 G1 e2 e6 e7 e8 e9
       refine ⟨4 - (i + 1), by omega, i + 1, _, G1, rfl, by omega, .inr ⟨by omega, ?_⟩, ?_, e2, e6, e7, e8, e9, rfl⟩
       · rw [qcd, qce]
       · intro j hj
         by_cases h : j < i
         · exact hg j h
         · have : j = i := by omega
           subst this; exact ⟨b1, b2⟩
   · have : i = 4 := by omega
     subst this
     rcases hw with ⟨h, _⟩ | ⟨_, rfl⟩
     · omega
     · simp [qdf, h9]
       rw [qdx hg] at hgood
       exact hgood _ G (by simp [h6]) (by simp [h8])
theorem qahb (x y : Iv) (p : Int) (wx : x.W) (wy : y.W) : CQ prog q1f [x.v, y.v, .int .i64 p] (x.div y p).v := by
 refine qag rfl fun H => ?_
 simp
 refine qaa rfl rfl rfl (qpk p) ?_
 cases hp : precB p
 · simp
   refine qaa rfl rfl rfl qba ?_
   simp [Iv.div, hp, lim]
 · simp
   refine qaa rfl rfl rfl (qd6 x wx) ?_
   cases hx : x.known
   · simp
     refine qaa rfl rfl rfl qba ?_
     simp [Iv.div, hx, lim]
   · simp
     refine qaa rfl rfl rfl (qd6 y wy) ?_
     cases hy : y.known
     · simp
       refine qaa rfl rfl rfl qba ?_
       simp [Iv.div, hy, lim]
     · simp
       refine qaa rfl rfl rfl (qxe y wy) ?_
       by_cases hs : y.sgn = 0
       · simp [hs]
         refine qaa rfl rfl rfl qba ?_
         simp [Iv.div, hs, lim]
       · simp [hs]
         refine qaa rfl rfl rfl (qadl x y) ?_
         simp
         refine qbp (qabp H x y p wx wy _ (by simp) (by simp) (by simp) (by simp) (by simp) ?_ ?_) (fun _ _ _ h => h)
         · intro E1 w G1 e6 h
           simp [e6, Iv.div, hx, hy, hp, hs, h, lim]
         · intro E1 G1 e6 e8
           simp [e6, e8, Iv.div, hx, hy, hp, hs, lim, zIv]
end Go.Abs.W
namespace Go.Abs.W
def Iv.sq (x : Iv) (p : Int) : Iv := if (!x.abs.all && precB p) = true then Iv.made (rMul x.abs.lo x.abs.lo p false) (rMul x.abs.hi x.abs.hi p true) else Iv.whole
theorem sq_W {x : Iv} {p : Int} : (x.sq p).W := by
 unfold Iv.sq; split
 · exact q7p rMul_ok.w rMul_ok.w
 · exact Iv.whole_W
theorem qp1 (x : Iv) (p : Int) (wx : x.W) : CQ prog qsk [x.v, .int .i64 p] (x.sq p).v := by
 refine qag rfl fun H => ?_
 have wy := abs_W wx
 simp
 refine qaa rfl rfl rfl (qaet x wx) ?_
 generalize hy : x.abs = y at *
 cases ha : y.all
 · simp [ha]
   refine qaa rfl rfl rfl (qg5 p) ?_
   cases hp : precB p
   · simp
     refine qaa rfl rfl rfl qat ?_
     simp [Iv.sq, hy, hp, lim]
   · simp
     refine qaa rfl rfl rfl (qzx y.lo y.lo p wy.lo wy.lo) ?_
     simp
     refine qaa rfl rfl rfl (q8w y.hi y.hi p wy.hi wy.hi) ?_
     simp
     refine qaa rfl rfl rfl (que (rMul y.lo y.lo p false) (rMul y.hi y.hi p true)) ?_
     simp [Iv.sq, hy, ha, hp, lim]
 · simp [ha]
   refine qaa rfl rfl rfl qat ?_
   simp [Iv.sq, hy, ha, lim]
theorem q6d (x : Iv) (p : Int) (wx : x.W) : CQ prog qtu [x.v, .int .i64 p] (x.abs.mul x.abs p).v := by
 refine qag rfl fun H => ?_
 have wy := abs_W wx
 simp
 refine qaa rfl rfl rfl (qahc x wx) ?_
 simp
 refine qaa rfl rfl rfl (q8s x.abs x.abs p wy wy) ?_
 simp [lim]
def nD (k : Int) : Dy := Dy.of (decide (k < 0)) k.natAbs 0
def nI (a b : Int) : Iv := ⟨nD a, nD b, false⟩
end Go.Abs.W
namespace Go.Abs.W
theorem nD_ok {k : Int} (h : k.natAbs ≤ 4611686018427387904) : (nD k).Ok := by
 unfold nD
 have hb : bitL k.natAbs ≤ 64 := qbb (by omega)
 exact Dy.of_ok (Dy.of_inR (by omega) (by omega) (by omega))
theorem nI_W {a b : Int} (ha : a.natAbs ≤ 4611686018427387904) (hb : b.natAbs ≤ 4611686018427387904) : (nI a b).W := ⟨(nD_ok ha).w, (nD_ok hb).w⟩
end Go.Abs.W
