/- Parts of the proof: FpVd, FpVe. -/
import Derived.Test.YtnkijamajifgpaaGreatDoorVb
namespace Go.Abs.W
def dE (a b : Dy) : Int := min a.e b.e
def dF (a b : Dy) : Fx := Fx.add ⟨a.neg, natV a.m * 2 ^ (a.e - dE a b).toNat⟩ ⟨b.neg, natV b.m * 2 ^ (b.e - dE a b).toNat⟩
def dAdd (a b : Dy) : Dy × Int :=
 if a.m = [] then (Dy.of b.neg (natV b.m) b.e, 0) else if b.m = [] then (Dy.of a.neg (natV a.m) a.e, 0) else
 ((Dy.of (dF a b).neg (dF a b).n (dE a b)).chk, (Dy.of (dF a b).neg (dF a b).n (dE a b)).chkE)
theorem q6g {d : Dy} (ok : d.Ok) : (Dy.of d.neg (natV d.m) d.e).Ok ∧ (Dy.of d.neg (natV d.m) d.e).rat = d.rat := by
 have h1 := ok.elo
 have h2 := ok.ehi
 have h3 := ok.bits
 have ht := ok.top
 by_cases hm : d.m = []
 · have e : Dy.of d.neg (natV d.m) d.e = Dy.zero := by rw [hm]; rfl
   rw [e, qch hm]
   exact ⟨Dy.zero_ok, q9e⟩
 · refine ⟨Dy.of_ok (Dy.of_inR h3 h1 (by omega)), ?_⟩
   unfold Dy.rat
   rw [qn2 h1]
   rfl
theorem qahp {a b : Dy} (ha : -400 ≤ a.e) (hb : -400 ≤ b.e) : ((Dy.of (dF a b).neg (dF a b).n (dE a b)).val : Rat) = a.val + b.val := by
 have he : -16384 ≤ dE a b := by unfold dE; omega
 have e1 : (Dy.of (dF a b).neg (dF a b).n (dE a b)).val = (dF a b).int * pw (dE a b + 16384).toNat := by
   rw [qn2 he]
   unfold Fx.int
   rw [← qb8]
   split
   · rw [Int.neg_mul]
   · rfl
 have part : ∀ d : Dy, -400 ≤ d.e → dE a b ≤ d.e → (Fx.mk d.neg (natV d.m * 2 ^ (d.e - dE a b).toNat)).int * pw (dE a b + 16384).toNat = d.val := by
   intro d h1 h2
   rw [q6u]
   have ep : ((2 ^ (d.e - dE a b).toNat : Nat) : Int) * pw (dE a b + 16384).toNat = pw (d.e + 16384).toNat := by
     have : ((2 ^ (d.e - dE a b).toNat : Nat) : Int) = pw (d.e - dE a b).toNat := rfl
     rw [this, ← qdr]
     exact congrArg pw (by omega)
   rw [Int.mul_assoc, ep]
   have ev : d.val = if d.neg = true then -(d.absN : Int) else (d.absN : Int) := rfl
   have ea : (d.absN : Int) = (natV d.m : Int) * pw (d.e + 16384).toNat := by
     rw [qb8]; rfl
   rw [ev, ea]
   unfold Fx.int
   split
   · rw [Int.neg_mul]
   · rfl
 have pa := part a ha (by unfold dE; omega)
 have pb := part b hb (by unfold dE; omega)
 rw [e1]
 unfold dF
 rw [qc8, Int.add_mul, pa, pb, Rat.intCast_add]
theorem qaem {a b : Dy} (oa : a.Ok) (ob : b.Ok) (ha : -400 ≤ a.e) (hb : -400 ≤ b.e) (h : (dAdd a b).2 = 0) : (dAdd a b).1.Ok ∧ (dAdd a b).1.rat = a.rat + b.rat := by
 unfold dAdd at h ⊢
 split
 · rename_i hm
   obtain ⟨o, r⟩ := q6g ob
   refine ⟨o, ?_⟩
   show (Dy.of b.neg (natV b.m) b.e).rat = _
   rw [r, qch hm]; grind
 · rename_i hm
   rw [if_neg hm] at h
   split
   · rename_i hm2
     obtain ⟨o, r⟩ := q6g oa
     refine ⟨o, ?_⟩
     show (Dy.of a.neg (natV a.m) a.e).rat = _
     rw [r, qch hm2]; grind
   · rename_i hm2
     rw [if_neg hm2] at h
     have hin : (Dy.of (dF a b).neg (dF a b).n (dE a b)).inR = true := by
       unfold Dy.chkE at h
       simp only [] at h
       split at h
       · assumption
       · cases h
     have e : (Dy.of (dF a b).neg (dF a b).n (dE a b)).chk = Dy.of (dF a b).neg (dF a b).n (dE a b) := by unfold Dy.chk; rw [if_pos hin]
     simp only []
     rw [e]
     refine ⟨Dy.of_ok hin, ?_⟩
     unfold Dy.rat
     rw [qahp ha hb]; grind
set_option maxHeartbeats 1000000 in
theorem qafn (a b : Dy) (oa : a.Ok) (ob : b.Ok) (ha : -400 ≤ a.e) (hb : -400 ≤ b.e) (ta : a.top ≤ 19) (tb : b.top ≤ 19) : CQ prog qyi [a.v, b.v] (.tup [(dAdd a b).1.v, .int .i64 (dAdd a b).2]) := by
 have key : CQ prog qyd [a.v, b.v] (.tup [(dAdd a b).1.v, .int .i64 (dAdd a b).2]) := by
   refine qag rfl fun H => ?_
   have la := oa.len
   have lb := ob.len
   have ea := oa.ehi
   have eb := ob.ehi
   by_cases hm : a.m = []
   · have c := qed b.neg b.m b.e lb ob.li (by omega) (by omega)
     have e : dAdd a b = (Dy.of b.neg (natV b.m) b.e, 0) := by unfold dAdd; rw [if_pos hm]
     rw [e]
     simp [hm, lim]
     refine qaa rfl rfl rfl c ?_
     simp [lim]
   · have la0 : 0 < a.m.length := List.length_pos_iff.2 hm
     have la1 : ¬ (a.m.length : Int) = 0 := by omega
     by_cases hm2 : b.m = []
     · have c := qed a.neg a.m a.e la oa.li (by omega) (by omega)
       have e : dAdd a b = (Dy.of a.neg (natV a.m) a.e, 0) := by unfold dAdd; rw [if_neg hm, if_pos hm2]
       rw [e]
       simp [hm, hm2, lim]
       refine qaa rfl rfl rfl c ?_
       simp [lim]
     · have tpa := oa.top_pos hm
       have tpb := ob.top_pos hm2
       have eta : a.top = a.e + bitL (natV a.m) := by unfold Dy.top; rw [if_neg hm]; omega
       have etb : b.top = b.e + bitL (natV b.m) := by unfold Dy.top; rw [if_neg hm2]; omega
       have cta := qjx a oa.w
       have ctb := qjx b ob.w
       rw [if_pos oa.valid] at cta
       rw [if_pos ob.valid] at ctb
       have e : dAdd a b = ((Dy.of (dF a b).neg (dF a b).n (dE a b)).chk, (Dy.of (dF a b).neg (dF a b).n (dE a b)).chkE) := by unfold dAdd; rw [if_neg hm, if_neg hm2]
       rw [e]
       obtain ⟨E, hE⟩ : ∃ E, E = dE a b := ⟨_, rfl⟩
       have hE1 : E ≤ a.e ∧ E ≤ b.e ∧ -400 ≤ E ∧ (E = a.e ∨ E = b.e) := by rw [hE]; unfold dE; omega
       obtain ⟨i, hi⟩ : ∃ i : Nat, i = (a.e - E).toNat := ⟨_, rfl⟩
       obtain ⟨j, hj⟩ : ∃ j : Nat, j = (b.e - E).toNat := ⟨_, rfl⟩
       have bA : bitL (natV a.m * 2 ^ i) ≤ 500 := by have := qok (n := natV a.m) (s := i); omega
       have bB : bitL (natV b.m * 2 ^ j) ≤ 500 := by have := qok (n := natV b.m) (s := j); omega
       have c1 := ql7 a.m i la oa.li (by omega)
       have c2 := ql7 b.m j lb ob.li (by omega)
       obtain ⟨A, hA⟩ : ∃ A, A = natV a.m * 2 ^ i := ⟨_, rfl⟩
       obtain ⟨B, hB⟩ : ∃ B, B = natV b.m * 2 ^ j := ⟨_, rfl⟩
       rw [← hA] at bA
       rw [← hB] at bB
       have sA : Sm A := Nat.le_trans bA (by omega)
       have sB : Sm B := Nat.le_trans bB (by omega)
       have s1 : shN a.m i = qae A := by
         unfold shN
         rw [← hA, if_neg (by have := sA.len; omega)]
       have s2 : shN b.m j = qae B := by
         unfold shN
         rw [← hB, if_neg (by have := sB.len; omega)]
       rw [s1] at c1
       rw [s2] at c2
       have sS : Sm (A + B) := Nat.le_trans (qgm bA bB) (by omega)
       have hF : dF a b = Fx.add ⟨a.neg, A⟩ ⟨b.neg, B⟩ := by unfold dF; rw [← hE, ← hi, ← hj, ← hA, ← hB]
       rw [hF, ← hE]
       have f1 : IntKind.i64.wrap (a.e - E) = (i : Int) := by rw [wrap_i64] <;> omega
       have f2 : IntKind.i64.wrap (b.e - E) = (j : Int) := by rw [wrap_i64] <;> omega
       have f3 : (if a.e < b.e then a.e else b.e) = E := by rcases hE1.2.2.2 with h | h <;> split <;> omega
       have f3' : (if b.e < a.e then b.e else a.e) = E := by rcases hE1.2.2.2 with h | h <;> split <;> omega
       have f4 : ¬ 4097 < IntKind.i64.wrap ((if a.top < b.top then b.top else a.top) - E) := by
         rw [wrap_i64] <;> split <;> omega
       have c3 := qs0 (qae A) (qae B) sA.len sB.len (qaf _) (qaf _)
       rw [qac, qac, sS.cl] at c3
       have c4 := qmx (qae A) (qae B) (by have := sA.len; omega) (by have := sB.len; omega) (qaf _) (qaf _)
       rw [qac, qac] at c4
       simp only [i64] at c4
       have cn := fun (s : Bool) (n : Nat) (hn : Sm n) => by
         have := qed s (qae n) E hn.len (qaf _) (by omega) (by omega)
         rwa [qac] at this
       have ck := fun (s : Bool) (n : Nat) (hn : Sm n) => qo4 (Dy.of s n E) (Dy.of_W (by have := hn.len; omega))
       have ech : ∀ d : Dy, (if d.inR then d else Dy.zero) = d.chk ∧ (if d.inR then (0 : Int) else 9) = d.chkE := fun d => ⟨rfl, rfl⟩
       simp only [(ech _).1, (ech _).2] at ck
       clear ech
       have e5 : Fx.add ⟨a.neg, A⟩ ⟨b.neg, B⟩ = if a.neg = b.neg then ⟨a.neg, A + B⟩ else if A < B then ⟨b.neg, B - A⟩ else ⟨a.neg, A - B⟩ := rfl
       rw [e5]
       clear e5 hF s1 s2 hA hB
       simp [hm, hm2, Dy.v, lim]
       refine qaa rfl rfl rfl cta ?_
       simp
       refine qaa rfl rfl rfl ctb ?_
       simp [f3', f4, f1]
       refine qaa rfl rfl rfl c1 ?_
       simp [f2]
       refine qaa rfl rfl rfl c2 ?_
       by_cases hn : a.neg = b.neg
       · have d1 := cn a.neg (A + B) sS
         have d2 := ck a.neg (A + B) sS
         rw [if_pos hn]
         rw [hn] at d1 d2 ⊢
         simp only []
         generalize Dy.of b.neg (A + B) E = R at *
         generalize R.chkE = RE at *
         generalize R.chk = RC at *
         simp
         refine qaa rfl rfl rfl c3 ?_
         simp
         refine qaa rfl rfl rfl d1 ?_
         simp
         refine qaa rfl rfl rfl d2 ?_
         simp [lim]
       · rw [if_neg hn]
         by_cases hlt : A < B
         · have hc : cmpN A B < 0 := by unfold cmpN; rw [if_pos hlt]; omega
           have c5 := qnp (qae B) (qae A) sB.len sA.len (qaf _) (qaf _) (by rw [qac, qac]; omega)
           rw [qac, qac] at c5
           have d1 := cn b.neg (B - A) (sB.mono (by omega))
           have d2 := ck b.neg (B - A) (sB.mono (by omega))
           rw [if_pos hlt]
           simp only []
           generalize Dy.of b.neg (B - A) E = R at *
           generalize R.chkE = RE at *
           generalize R.chk = RC at *
           simp [hn]
           refine qaa rfl rfl rfl c4 ?_
           simp [hc]
           refine qaa rfl rfl rfl c5 ?_
           simp
           refine qaa rfl rfl rfl d1 ?_
           simp
           refine qaa rfl rfl rfl d2 ?_
           simp [lim]
         · have hc : ¬ cmpN A B < 0 := by unfold cmpN; split <;> (try split) <;> omega
           have c5 := qnp (qae A) (qae B) sA.len sB.len (qaf _) (qaf _) (by rw [qac, qac]; omega)
           rw [qac, qac] at c5
           have d1 := cn a.neg (A - B) (sA.mono (by omega))
           have d2 := ck a.neg (A - B) (sA.mono (by omega))
           rw [if_neg hlt]
           simp only []
           generalize Dy.of a.neg (A - B) E = R at *
           generalize R.chkE = RE at *
           generalize R.chk = RC at *
           simp [hn]
           refine qaa rfl rfl rfl c4 ?_
           simp [hc]
           refine qaa rfl rfl rfl c5 ?_
           simp
           refine qaa rfl rfl rfl d1 ?_
           simp
           refine qaa rfl rfl rfl d2 ?_
           simp [lim]
 refine qag rfl fun H => ?_
 have va := qcn a (by have := oa.len; omega) oa.li
 have vb := qcn b (by have := ob.len; omega) ob.li
 rw [oa.valid] at va
 rw [ob.valid] at vb
 generalize dAdd a b = R at *
 simp
 refine qaa rfl rfl rfl va ?_
 simp
 refine qaa rfl rfl rfl vb ?_
 simp
 refine qaa rfl rfl rfl key ?_
 simp [lim]
end Go.Abs.W
namespace Go.Abs.W
def sumS (a b : Dy) (n : Int) : Iv := ((bothI (Iv.pt a) false n).mul (bothI (Iv.pt b) true n) n).add ((bothI (Iv.pt a) true n).mul (bothI (Iv.pt b) false n) n) n
def sumC (a b : Dy) (n : Int) : Iv := ((bothI (Iv.pt a) true n).mul (bothI (Iv.pt b) true n) n).add ((bothI (Iv.pt a) false n).mul (bothI (Iv.pt b) false n) n).neg n
theorem q3p {a b c : Dy} {n : Int} (oa : a.Ok) (ob : b.Ok) (oc : c.Ok) (h : c.rat = a.rat + b.rat) :
   meetB (bothI (Iv.pt c) false n) (sumS a b n) = true ∧ meetB (bothI (Iv.pt c) true n) (sumC a b n) = true := by
 have wa : (Iv.pt a).W := pt_W oa.w
 have wb : (Iv.pt b).W := pt_W ob.w
 have wc : (Iv.pt c).W := pt_W oc.w
 have A := fun t => qk0 (c := t) (p := n) wa (qxt a)
 have B := fun t => qk0 (c := t) (p := n) wb (qxt b)
 have C := fun t => qk0 (c := t) (p := n) wc (qxt c)
 have ba := qy8 a.rat
 have bb := qy8 b.rat
 have e : (fun i => cK a.rat i + cK b.rat i) = cK c.rat := funext fun i => by show a.rat + b.rat = c.rat; rw [h]
 have hs := qpn ba bb
 have hc := qoo ba bb
 rw [e] at hs hc
 have m := fun t u => qad4 (p := n) (qcf wa) (qcf wb) (A t) (B u) (qacx ba) (qacx bb)
 have s1 : (sumS a b n).Has (Fn false (cK c.rat)) := (q05 (p := n) mul_W mul_W (m false true) (m true false)).near hs.symm
 have s2 : (sumC a b n).Has (Fn true (cK c.rat)) := (qadd (p := n) mul_W mul_W (m true true) (m false false)).near hc.symm
 exact ⟨qfg (qcf wc) add_W (qjh wc) (qacu mul_W mul_W) (C false) s1,
   qfg (qcf wc) add_W (qjh wc) (qacu mul_W (neg_W mul_W)) (C true) s2⟩
set_option maxHeartbeats 1000000 in
theorem q5b (a b : Dy) (p : Int) (la : Li a.m) (lb : Li b.m) (hp : IntKind.u8.min ≤ p ∧ p ≤ IntKind.u8.max) : CQ prog qmm [a.v, b.v, .int .u8 p] (.bool true) := by
 refine qag rfl fun H => ?_
 have ca := qo8
 have cm := qec a 19 la
 have cn := qec b 19 lb
 cases hc : com10 a 19
 · rw [hc] at cm
   simp
   refine qaa rfl rfl rfl ca ?_
   simp
   refine qaa rfl rfl rfl cm ?_
   simp
   refine qaa rfl rfl rfl ca ?_
   simp
 · rw [hc] at cm
   cases hd : com10 b 19
   · rw [hd] at cn
     simp
     refine qaa rfl rfl rfl ca ?_
     simp
     refine qaa rfl rfl rfl cm ?_
     simp
     refine qaa rfl rfl rfl cn ?_
     simp
     refine qaa rfl rfl rfl ca ?_
     simp
   · rw [hd] at cn
     obtain ⟨oa, ea, ta⟩ := qe1 la hc
     obtain ⟨ob, eb, tb⟩ := qe1 lb hd
     have cp := qq3 p hp
     generalize hN : qnz p = n at *
     have c0 := qafn a b oa ob ea eb ta tb
     have ok := qaem oa ob ea eb
     generalize dAdd a b = R at *
     by_cases h0 : R.2 = 0
     · obtain ⟨oc, hr⟩ := ok h0
       rw [h0] at c0
       obtain ⟨f1, f2⟩ := q3p (n := n) oa ob oc hr
       have wa : (Iv.pt a).W := pt_W oa.w
       have wb : (Iv.pt b).W := pt_W ob.w
       have wc : (Iv.pt R.1).W := pt_W oc.w
       have c1 := qev a oa.w
       rw [if_pos oa.valid] at c1
       have c2 := qev b ob.w
       rw [if_pos ob.valid] at c2
       have c3 := qev R.1 oc.w
       rw [if_pos oc.valid] at c3
       have d1 := qpl (Iv.pt a) n wa
       have d2 := qs3 (Iv.pt a) n wa
       have d3 := qpl (Iv.pt b) n wb
       have d4 := qs3 (Iv.pt b) n wb
       have d5 := qpl (Iv.pt R.1) n wc
       have d6 := qs3 (Iv.pt R.1) n wc
       have m := fun t u => qafj (bothI (Iv.pt a) t n) (bothI (Iv.pt b) u n) n (qcf wa) (qcf wb)
       have m1 := m false true
       have m2 := m true false
       have m3 := m true true
       have m4 := m false false
       have q1 := q1d ((bothI (Iv.pt a) false n).mul (bothI (Iv.pt b) true n) n) ((bothI (Iv.pt a) true n).mul (bothI (Iv.pt b) false n) n) n mul_W mul_W
       have q2 := qafi ((bothI (Iv.pt a) true n).mul (bothI (Iv.pt b) true n) n) ((bothI (Iv.pt a) false n).mul (bothI (Iv.pt b) false n) n) n mul_W mul_W
       rw [show ((bothI (Iv.pt a) false n).mul (bothI (Iv.pt b) true n) n).add ((bothI (Iv.pt a) true n).mul (bothI (Iv.pt b) false n) n) n = sumS a b n from rfl] at q1
       rw [show ((bothI (Iv.pt a) true n).mul (bothI (Iv.pt b) true n) n).add ((bothI (Iv.pt a) false n).mul (bothI (Iv.pt b) false n) n).neg n = sumC a b n from rfl] at q2
       have e1 := qd8 (bothI (Iv.pt R.1) false n) (sumS a b n) (qcf wc) add_W (qgn (qjh wc))
       have e2 := qd8 (bothI (Iv.pt R.1) true n) (sumC a b n) (qcf wc) add_W (qgn (qjh wc))
       rw [f1] at e1
       rw [f2] at e2
       clear m f1 f2
       generalize sumS a b n = SS at *
       generalize sumC a b n = CC at *
       generalize (bothI (Iv.pt a) false n).mul (bothI (Iv.pt b) true n) n = M1 at *
       generalize (bothI (Iv.pt a) true n).mul (bothI (Iv.pt b) false n) n = M2 at *
       generalize (bothI (Iv.pt a) true n).mul (bothI (Iv.pt b) true n) n = M3 at *
       generalize (bothI (Iv.pt a) false n).mul (bothI (Iv.pt b) false n) n = M4 at *
       generalize bothI (Iv.pt a) false n = AS at *
       generalize bothI (Iv.pt a) true n = AC' at *
       generalize bothI (Iv.pt b) false n = BS at *
       generalize bothI (Iv.pt b) true n = BC at *
       generalize bothI (Iv.pt R.1) false n = CS at *
       generalize bothI (Iv.pt R.1) true n = CC' at *
       generalize Iv.pt a = PA at *
       generalize Iv.pt b = PB at *
       generalize Iv.pt R.1 = PC at *
       simp
       refine qaa rfl rfl rfl ca ?_
       simp
       refine qaa rfl rfl rfl cm ?_
       simp
       refine qaa rfl rfl rfl cn ?_
       simp
       refine qaa rfl rfl rfl cp ?_
       simp
       refine qaa rfl rfl rfl c0 ?_
       simp
       refine qaa rfl rfl rfl c1 ?_
       simp
       refine qaa rfl rfl rfl c2 ?_
       simp
       refine qaa rfl rfl rfl c3 ?_
       simp
       refine qaa rfl rfl rfl d1 ?_
       simp
       refine qaa rfl rfl rfl d2 ?_
       simp
       refine qaa rfl rfl rfl d3 ?_
       simp
       refine qaa rfl rfl rfl d4 ?_
       simp
       refine qaa rfl rfl rfl m1 ?_
       simp
       refine qaa rfl rfl rfl m2 ?_
       simp
       refine qaa rfl rfl rfl q1 ?_
       simp
       refine qaa rfl rfl rfl m3 ?_
       simp
       refine qaa rfl rfl rfl m4 ?_
       simp
       refine qaa rfl rfl rfl q2 ?_
       simp
       refine qaa rfl rfl rfl d5 ?_
       simp
       refine qaa rfl rfl rfl e1 ?_
       simp
       refine qaa rfl rfl rfl d6 ?_
       simp
       refine qaa rfl rfl rfl e2 ?_
       simp
     · simp
       refine qaa rfl rfl rfl ca ?_
       simp
       refine qaa rfl rfl rfl cm ?_
       simp
       refine qaa rfl rfl rfl cn ?_
       simp
       refine qaa rfl rfl rfl cp ?_
       simp
       refine qaa rfl rfl rfl c0 ?_
       simp [h0]
end Go.Abs.W
