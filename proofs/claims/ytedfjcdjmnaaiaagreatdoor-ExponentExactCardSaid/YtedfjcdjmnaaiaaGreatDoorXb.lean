/- Parts of the proof: FpQ2, FpQ3, FpXa, FpXb, FpXc, FpXd. -/
import Derived.Test.YtedfjcdjmnaaiaaGreatDoorHk
import Derived.Test.YtedfjcdjmnaaiaaGreatDoorXa
import Derived.Test.YtedfjcdjmnaaiaaGreatDoorHp
import Derived.Test.YtedfjcdjmnaaiaaGreatDoorFe
import Derived.Test.YtedfjcdjmnaaiaaGreatDoorHy
namespace Go.Abs.W
theorem q21 {x : Iv} {p : Int} {q : Rat} (wx : x.W) (hq : x.In q) : (x.rnd p).In q := by
 unfold Iv.rnd
 split
 · rename_i h
   simp only [Bool.and_eq_true] at h
   obtain ⟨k1, hp⟩ := h
   obtain ⟨a1, a2⟩ := qai wx k1
   obtain ⟨q1, q2⟩ := hq k1
   unfold Iv.made
   split
   · rename_i h0
     intro _
     have u := qbn ((qrb a1 hp).at h0.1)
     have v := qbn ((qra a2 hp).at h0.2)
     exact ⟨Rat.le_trans u q1, Rat.le_trans q2 v⟩
   · exact .whole
 · exact .whole
def rabs (q : Rat) : Rat := if 0 ≤ q then q else -q
theorem qafo (q : Rat) : rabs q * rabs q = q * q := by unfold rabs; split <;> grind
theorem q8n {x : Iv} {q : Rat} (wx : x.W) (hq : x.In q) : x.abs.In (rabs q) := by
 cases hk : x.known
 · have : x.abs = Iv.whole := by unfold Iv.abs; rw [hk]; rfl
   rw [this]; exact .whole
 · obtain ⟨v1, v2⟩ := qr2 wx hk
   obtain ⟨r1, r2⟩ := hq hk
   intro _
   have hs := qe9
   have e : rabs q * sc = rabs (q * sc) := by
     unfold rabs
     by_cases h : 0 ≤ q
     · rw [if_pos h, if_pos (qap h (Rat.le_of_lt hs))]
     · have h2 : ¬ 0 ≤ q * sc := by
         have := Rat.mul_pos (show 0 < -q by grind) hs
         grind
       rw [if_neg h, if_neg h2]; grind
   rw [e]
   have p0 : 0 ≤ rabs (q * sc) := by unfold rabs; split <;> grind
   have le0 := qak wx hk
   generalize q * sc = u at *
   refine ⟨?_, ?_⟩
   · by_cases h1 : 0 < x.lo.val
     · have c := qbn (show x.abs.lo.val ≤ x.lo.val by rw [v2, if_pos (.inl h1)]; omega)
       have c0 := qbn (Int.le_of_lt h1)
       unfold rabs
       rw [if_pos (by grind)]; grind
     · by_cases h2 : x.hi.val < 0
       · have c := qbn (show x.abs.lo.val ≤ -x.hi.val by rw [v2, if_pos (.inr h2)]; omega)
         have c0 := qkv h2
         rw [Rat.intCast_neg] at c
         unfold rabs
         rw [if_neg (by grind)]; grind
       · rw [v2, if_neg (by omega)]
         exact p0
   · unfold rabs
     split
     · have c := qbn (show x.hi.val ≤ x.abs.hi.val by rw [v1]; omega)
       grind
     · have c := qbn (show -x.lo.val ≤ x.abs.hi.val by rw [v1]; omega)
       rw [Rat.intCast_neg] at c
       grind
theorem sq_In {x : Iv} {p : Int} {q : Rat} (wx : x.W) (hq : x.In q) : (x.sq p).In (q * q) := by
 rw [qaa7 wx, ← qafo]
 exact ql7 (abs_W wx) (abs_W wx) (q8n wx hq) (q8n wx hq)
def Iv.Has (x : Iv) (s : Nat → Rat) : Prop := ∃ c : Nat → Rat, (∀ n, x.In (c n)) ∧ Near s c
theorem Iv.Has.near {x : Iv} {s t : Nat → Rat} (h : x.Has s) (k : Near t s) : x.Has t := by
 obtain ⟨c, h1, h2⟩ := h
 exact ⟨c, h1, k.trans h2⟩
theorem Iv.In.has {x : Iv} {q : Rat} (h : x.In q) : x.Has (fun _ => q) := ⟨_, fun _ => h, Near.refl _⟩
theorem Near.of_ev {s t : Nat → Rat} (N : Nat) (h : ∀ n, N ≤ n → s n = t n) : Near s t := fun ε he => ⟨N, fun n hn => by have := h n hn; constructor <;> grind⟩
theorem Iv.Has.of_ev {x : Iv} {s : Nat → Rat} (N : Nat) (h : ∀ n, N ≤ n → x.In (s n)) : x.Has s :=
 ⟨fun n => s (max n N), fun n => h _ (by omega), Near.of_ev N fun n hn => by rw [Nat.max_eq_left hn]⟩
theorem Iv.Has.whole {s : Nat → Rat} : Iv.whole.Has s := ⟨s, fun _ => .whole, Near.refl s⟩
theorem q2d {x y : Iv} {p : Int} {s t : Nat → Rat} (wx : x.W) (wy : y.W) (hs : x.Has s) (ht : y.Has t) : (x.add y p).Has (fun n => s n + t n) := by
 obtain ⟨c, h1, h2⟩ := hs
 obtain ⟨d, k1, k2⟩ := ht
 exact ⟨fun n => c n + d n, fun n => qid wx wy (h1 n) (k1 n), h2.add k2⟩
theorem qajh {x : Iv} {s : Nat → Rat} (wx : x.W) (hs : x.Has s) : x.neg.Has (fun n => -s n) := by
 obtain ⟨c, h1, h2⟩ := hs
 exact ⟨fun n => -c n, fun n => qal3 wx (h1 n), h2.neg⟩
theorem qace {x y : Iv} {p : Int} {s t : Nat → Rat} (wx : x.W) (wy : y.W) (hs : x.Has s) (ht : y.Has t) (bs : Bnd s) (bt : Bnd t) : (x.mul y p).Has (fun n => s n * t n) := by
 obtain ⟨c, h1, h2⟩ := hs
 obtain ⟨d, k1, k2⟩ := ht
 exact ⟨fun n => c n * d n, fun n => ql7 wx wy (h1 n) (k1 n), h2.mul k2 bs bt⟩
theorem qaa8 {x : Iv} {p : Int} {s : Nat → Rat} (wx : x.W) (hs : x.Has s) (bs : Bnd s) : (x.sq p).Has (fun n => s n * s n) := by
 obtain ⟨c, h1, h2⟩ := hs
 exact ⟨fun n => c n * c n, fun n => sq_In wx (h1 n), h2.mul h2 bs bs⟩
theorem q5b {x : Iv} {p : Int} {s : Nat → Rat} (wx : x.W) (hs : x.Has s) : (x.rnd p).Has s := by
 obtain ⟨c, h1, h2⟩ := hs
 exact ⟨c, fun n => q21 wx (h1 n), h2⟩
theorem qahd {x y : Iv} {s : Nat → Rat} (kx : x.known = true) (ky : y.known = true) (hx : x.Has s) (hy : y.Has s) : x.lo.val ≤ y.hi.val ∧ y.lo.val ≤ x.hi.val := by
 obtain ⟨c, h1, h2⟩ := hx
 obtain ⟨d, k1, k2⟩ := hy
 have hs := qe9
 have nr := h2.symm.trans k2
 have key : ∀ {u v : Nat → Rat} {a b : Int}, Near u v → (∀ n, (a : Rat) ≤ u n * sc) → (∀ n, v n * sc ≤ (b : Rat)) → a ≤ b := by
   intro u v a b hn ha hb
   refine Rat.intCast_le_intCast.1 (Near.le (s := fun n => u n * sc) (t := fun n => v n * sc) ?_ ha hb)
   exact Null.congr (Null.mul hn (Bnd.const sc)) fun n => by grind
 exact ⟨key nr (fun n => (h1 n kx).1) (fun n => (k1 n ky).2), key nr.symm (fun n => (k1 n ky).1) (fun n => (h1 n kx).2)⟩
theorem qanh {x : Iv} {s : Nat → Rat} (h : x.known = true → SLe (fun _ => (x.lo.val : Rat)) (fun n => s n * sc) ∧ SLe (fun n => s n * sc) (fun _ => (x.hi.val : Rat))) (wx : x.W) : x.Has s := by
 cases hk : x.known
 · exact ⟨s, (fun n (h : x.known = true) => absurd h (by rw [hk]; decide)), Near.refl s⟩
 obtain ⟨h1, h2⟩ := h hk
 have hs := qe9
 have hi := Rat.inv_pos.2 hs
 have e : ∀ a : Rat, a * sc⁻¹ * sc = a := fun a => by
   rw [Rat.mul_assoc, Rat.inv_mul_cancel sc (by grind), Rat.mul_one]
 have le0 := qbn (qak wx hk)
 unfold Iv.Has Iv.In
 generalize ((x.lo.val : Int) : Rat) = a at *
 generalize ((x.hi.val : Int) : Rat) = b at *
 have ea := e a
 have eb := e b
 have ab : a * sc⁻¹ ≤ b * sc⁻¹ := Rat.mul_le_mul_of_nonneg_right le0 (Rat.le_of_lt hi)
 generalize a * sc⁻¹ = u at *
 generalize b * sc⁻¹ = v at *
 subst ea eb
 have canc : ∀ {p q : Rat}, p * sc ≤ q * sc → p ≤ q := fun h => Rat.le_of_mul_le_mul_right h hs
 refine ⟨fun n => if s n < u then u else if v < s n then v else s n, fun n _ => ?_, ?_⟩
 · have m : ∀ {p q : Rat}, p ≤ q → p * sc ≤ q * sc := fun h => Rat.mul_le_mul_of_nonneg_right h (Rat.le_of_lt hs)
   refine ⟨m ?_, m ?_⟩
   · show u ≤ if s n < u then u else if v < s n then v else s n
     split
     · exact Rat.le_refl
     · split <;> grind
   · show (if s n < u then u else if v < s n then v else s n) ≤ v
     split
     · exact ab
     · split <;> grind
 · intro ε he
   obtain ⟨N, hN⟩ := h1 (ε * sc) (Rat.mul_pos he hs)
   obtain ⟨M, hM⟩ := h2 (ε * sc) (Rat.mul_pos he hs)
   refine ⟨max N M, fun n hn => ?_⟩
   have g1 : u ≤ s n + ε := canc (by have := hN n (by omega); rw [Rat.add_mul]; exact this)
   have g2 : s n ≤ v + ε := canc (by have := hM n (by omega); rw [Rat.add_mul]; exact this)
   show Bd (s n - if s n < u then u else if v < s n then v else s n) ε
   split
   · constructor <;> grind
   · split <;> (constructor <;> grind)
end Go.Abs.W
namespace Go.Abs.W
theorem qqg {d : Dy} {k : Int} {a b : Nat} (ok : d.Ok) (hk : k = (a : Int) - b) (h : d.sclE k = 0) : (d.scl k).val * pw b = d.val * pw a := by
 unfold Dy.sclE at h
 unfold Dy.scl
 split at h
 · rename_i hc
   rw [if_pos hc]
   unfold Dy.chkE at h
   split at h
   · rename_i hin
     unfold Dy.chk
     rw [if_pos hin]
     by_cases hm : d.m = []
     · have e1 : (Dy.of d.neg (natV d.m) (d.e + k)).val = 0 := by
         have : Dy.of d.neg (natV d.m) (d.e + k) = Dy.zero := by rw [hm]; rfl
         rw [this, qc2]
       have e2 : d.val = 0 := by
         have := Dy.absN_nil hm
         unfold Dy.val; rw [this]; simp
       rw [e1, e2, Int.zero_mul, Int.zero_mul]
     · have hn := qco ok.tr hm
       have ho := ok.odd hm
       have ht : tz (natV d.m) = 0 := qaal ho
       have he : -16384 ≤ d.e + k := by
         have hb := (qbe hn).2.2
         unfold Dy.of at hin
         rw [if_neg hn, ht] at hin
         unfold Dy.inR at hin
         simp only [qad, Nat.pow_zero, Nat.div_one] at hin
         simp only [Bool.or_eq_true, Bool.and_eq_true, decide_eq_true_eq, beq_iff_eq] at hin
         have h0 : bitL (natV d.m) ≠ 0 := by unfold bitL; rw [if_neg hn]; omega
         omega
       rw [qyz he]
       have elo := ok.elo
       have e3 : (2 : Nat) ^ (d.e + k + 16384).toNat * 2 ^ b = 2 ^ (d.e + 16384).toNat * 2 ^ a := by
         rw [← Nat.pow_add, ← Nat.pow_add]; congr 1; omega
       have e4 : natV d.m * 2 ^ (d.e + k + 16384).toNat * 2 ^ b = natV d.m * 2 ^ (d.e + 16384).toNat * 2 ^ a := by
         rw [Nat.mul_assoc, e3, Nat.mul_assoc]
       unfold Dy.val Dy.absN pw
       split
       · rw [Int.neg_mul, Int.neg_mul, ← Int.natCast_mul, ← Int.natCast_mul, e4]
       · rw [← Int.natCast_mul, ← Int.natCast_mul, e4]
   · cases h
 · cases h
theorem qko (a : Nat) : (0 : Rat) < (pw a : Rat) := by
 have := qkv (qax a)
 simpa using this
theorem q2y {x : Iv} {k : Int} {a b : Nat} {q r : Rat} (wx : x.W) (hk : k = (a : Int) - b) (hr : r * (pw b : Rat) = q * (pw a : Rat)) (hq : x.In q) : (x.scl k).In r := by
 unfold Iv.scl
 split
 · rename_i kn
   obtain ⟨o1, o2⟩ := qai wx kn
   obtain ⟨q1, q2⟩ := hq kn
   unfold Iv.made
   split
   · rename_i h0
     intro _
     have v1 := qqg o1 hk h0.1
     have v2 := qqg o2 hk h0.2
     have c1 : (((x.lo.scl k).val : Int) : Rat) * (pw b : Rat) = (x.lo.val : Rat) * (pw a : Rat) := by rw [← Rat.intCast_mul, ← Rat.intCast_mul, v1]
     have c2 : (((x.hi.scl k).val : Int) : Rat) * (pw b : Rat) = (x.hi.val : Rat) * (pw a : Rat) := by rw [← Rat.intCast_mul, ← Rat.intCast_mul, v2]
     have pa := qko a
     have pb := qko b
     refine ⟨Rat.le_of_mul_le_mul_right (c := (pw b : Rat)) ?_ pb, Rat.le_of_mul_le_mul_right (c := (pw b : Rat)) ?_ pb⟩
     · show (((x.lo.scl k).val : Int) : Rat) * _ ≤ _
       rw [c1]
       have := Rat.mul_le_mul_of_nonneg_right q1 (Rat.le_of_lt pa)
       have e : r * sc * (pw b : Rat) = q * sc * (pw a : Rat) := by grind
       rw [e]; exact this
     · show _ ≤ (((x.hi.scl k).val : Int) : Rat) * _
       rw [c2]
       have := Rat.mul_le_mul_of_nonneg_right q2 (Rat.le_of_lt pa)
       have e : r * sc * (pw b : Rat) = q * sc * (pw a : Rat) := by grind
       rw [e]; exact this
   · exact .whole
 · exact .whole
theorem qub {d : Dy} (ok : d.Ok) : d.opp.val = -d.val := by
 unfold Dy.opp
 by_cases hm : d.m = []
 · rw [if_neg (fun h => h.2 hm), qc2]
   have := Dy.absN_nil hm
   unfold Dy.val; rw [this]; simp
 · rw [if_pos ⟨ok.valid, hm⟩]
   unfold Dy.val
   have : Dy.absN ⟨!d.neg, d.m, d.e⟩ = d.absN := rfl
   rw [this]
   cases d.neg <;> simp
theorem qah0 {x : Iv} {q δ : Rat} (wx : x.W) (hk : x.known = true) (hq : x.In q) (hd : Bd δ (rabs q)) : -(x.mag.val : Rat) ≤ δ * sc ∧ δ * sc ≤ (x.mag.val : Rat) := by
 have h := (q8n wx hq) (by
   have := (qmg wx hk).1
   exact this)
 have e : x.abs.hi = x.mag := by unfold Iv.abs; rw [if_pos hk]
 rw [e] at h
 have hs := qe9
 obtain ⟨d1, d2⟩ := hd
 have a := Rat.mul_le_mul_of_nonneg_right d1 (Rat.le_of_lt hs)
 have b := Rat.mul_le_mul_of_nonneg_right d2 (Rat.le_of_lt hs)
 have c := h.2
 constructor <;> grind
end Go.Abs.W
namespace Go.Abs.W
def qcm (P : Int) (x : Iv) : Bool := !x.known || decide (x.mag.sgn = 0) || decide (x.mag.top ≤ -P)
def qcy (x : Iv) : Iv := if x.known = true then ⟨x.mag.opp, x.mag, false⟩ else Iv.whole
def expG (P : Int) (y : Iv) : Nat → Nat → Iv → Iv → Iv × Iv
 | 0, _, t, s => (t, s)
 | f + 1, n, t, s =>
   let t' := (t.mul y P).div (nI n n) P
   let s' := s.add t' P
   if qcm P t' = true then (t', s') else expG P y f (n + 1) t' s'
def expI (P : Int) (y : Iv) : Iv :=
 let r := expG P y 1000 1 (nI 1 1) (nI 1 1)
 r.2.add (qcy r.1) P
def qfn (P : Int) : Nat → Iv → Iv
 | 0, y => expI P y
 | n + 1, y => (qfn P n (y.scl (-1))).sq P
def gP (p more : Int) : Int := min (p + more) 512
def qa8 (d : Dy) (p : Int) : Iv :=
 if d.sgn = 0 then nI 1 1 else
 let n := (d.top + 1).toNat
 let P := gP p (n + 24)
 (qfn P n ((Iv.pt d).rnd P)).rnd p
def endsI (a b : Iv) : Iv := if (a.all || b.all) = true then Iv.whole else ⟨a.lo, b.hi, false⟩
def modB (d : Dy) : Bool := decide (d.abs.cmp (nD 1000) ≤ 0)
def Iv.exp (x : Iv) (p : Int) : Iv := if (x.known && precB p && modB x.lo && modB x.hi) = true then endsI (qa8 x.lo p) (qa8 x.hi p) else Iv.whole
def logG (P : Int) (sq : Iv) : Nat → Nat → Iv → Iv → Iv × Iv
 | 0, _, w, s => (w, s)
 | f + 1, n, w, s => if qcm P w = true then (w, s) else
   let w' := w.mul sq P
   logG P sq f (n + 2) w' (s.add (w'.div (nI n n) P) P)
def logI (P : Int) (z : Iv) : Iv :=
 let r := logG P (z.sq P) 1000 3 z z
 (r.2.add (qcy r.1) P).scl 1
def log2I (p : Int) : Iv := if precB p = true then (logI (gP p 16) ((nI 1 1).div (nI 3 3) (gP p 16))).rnd p else Iv.whole
def lgI (d : Dy) (p : Int) : Iv :=
 if d.cmp (nD 1) = 0 then ⟨Dy.zero, Dy.zero, false⟩ else
 let P := gP p 40
 let t := d.top
 let m := ((Iv.pt d).rnd P).scl (-t)
 let z := (m.add (nI (-1) (-1)) P).div (m.add (nI 1 1) P) P
 ((logI P z).add ((nI t t).mul (log2I P) P) P).rnd p
def Iv.log (x : Iv) (p : Int) : Iv := if (x.known && precB p && decide (0 < x.lo.sgn)) = true then endsI (lgI x.lo p) (lgI x.hi p) else Iv.whole
def hypI (d : Dy) (p : Int) (plus : Bool) : Iv :=
 let P := gP p 16
 let a := qa8 d P
 let b := qa8 d.opp P
 ((if plus = true then a.add b P else a.add b.neg P).scl (-1)).rnd p
def qfj (x : Iv) : Iv := if x.all = true then x else ⟨x.mag.neg', x.mag, false⟩
def rExpG (y : Iv) : Nat → Nat → Iv → Iv → Iv × Iv
 | 0, _, t, s => (t, s)
 | f + 1, i, t, s =>
   let t' := (t.mul y 320).div (nI i i) 320
   rExpG y f (i + 1) t' (s.add t' 320)
def sqN : Nat → Iv → Iv
 | 0, s => s
 | n + 1, s => sqN n (s.mul s 320)
def rExp (d : Dy) : Iv :=
 if d.m = [] then nI 1 1 else
 let k := (d.top + 16).toNat
 let y := (Iv.pt d).scl (-k)
 let r := rExpG y 20 1 (nI 1 1) (nI 1 1)
 sqN k (r.2.add (qfj (((r.1.mul y 320).div (nI 21 21) 320).mul (nI 2 2) 320)) 320)
def rArtG (sq : Iv) : Nat → Nat → Iv → Iv → Iv × Iv
 | 0, _, w, s => (w, s)
 | f + 1, k, w, s => rArtG sq f (k + 1) (w.mul sq 320) (s.add (w.div (nI (2 * k + 1) (2 * k + 1)) 320) 320)
def rArt (z : Iv) : Iv :=
 let r := rArtG (z.sq 320) 101 0 z (nI 0 0)
 (nI 2 2).mul (r.2.add (qfj ((r.1.mul (nI 9 9) 320).div (nI 1624 1624) 320)) 320) 320
def rLog2 : Iv := rArt ((nI 1 1).div (nI 3 3) 320)
def rLog (d : Dy) : Iv :=
 let e := d.top
 let m := (Iv.pt d).scl (-e)
 let z := (m.add (nI (-1) (-1)) 320).div (m.add (nI 1 1) 320) 320
 (rArt z).add ((nI e e).mul rLog2 320) 320
end Go.Abs.W
namespace Go.Abs.W
theorem q4p {x : Iv} {q δ : Rat} (wx : x.W) (hq : x.In q) (hd : Bd δ (rabs q)) : (qcy x).In δ := by
 unfold qcy
 split
 · rename_i hk
   intro _
   obtain ⟨a, b⟩ := qah0 wx hk hq hd
   refine ⟨?_, b⟩
   show ((x.mag.opp.val : Int) : Rat) ≤ _
   rw [qub (qou wx hk), Rat.intCast_neg]; exact a
 · exact .whole
theorem qajd {d : Dy} (ok : d.Ok) : d.opp.W := by
 unfold Dy.opp
 split
 · exact ⟨ok.li, ok.w.len⟩
 · exact Dy.zero_W
theorem qn9 {x : Iv} (wx : x.W) : (qcy x).W := by
 unfold qcy
 split
 · rename_i hk
   exact ⟨qajd (qou wx hk), (qou wx hk).w⟩
 · exact Iv.whole_W
theorem q3g (k : Int) : (nI k k).In (k : Rat) := by
 intro _
 show (((nD k).val : Int) : Rat) ≤ _ ∧ _ ≤ (((nD k).val : Int) : Rat)
 rw [qf6, Rat.intCast_mul]
 exact ⟨Rat.le_refl, Rat.le_refl⟩
theorem nI_In {n : Nat} (_h : n ≤ 4611686018427387904) : (nI n n).In (n : Rat) := by
 have := q3g (n : Int)
 rwa [Rat.intCast_natCast] at this
theorem q0a (q : Rat) : Bd q (rabs q) := by unfold rabs; split <;> (constructor <;> grind)
theorem qadc {P : Int} {y : Iv} {x : Rat} (wy : y.W) (hy : y.In x) : ∀ (f n : Nat) (t s : Iv), n + 1 + f ≤ 1000000 → t.W → s.W → t.In (tm x n) → s.In (es x n) →
   ∃ m, n ≤ m ∧ (0 < f → n < m) ∧ (expG P y f (n + 1) t s).1.W ∧ (expG P y f (n + 1) t s).2.W ∧ (expG P y f (n + 1) t s).1.In (tm x m) ∧ (expG P y f (n + 1) t s).2.In (es x m)
 | 0, n, t, s, _, wt, ws, ht, hs => ⟨n, Nat.le_refl _, fun h => absurd h (by decide), wt, ws, ht, hs⟩
 | f + 1, n, t, s, hf, wt, ws, ht, hs => by
   have w1 : (t.mul y P).W := mul_W
   have wn : (nI ((n + 1 : Nat) : Int) ((n + 1 : Nat) : Int)).W := nI_W (by omega) (by omega)
   have w2 : ((t.mul y P).div (nI ((n + 1 : Nat) : Int) ((n + 1 : Nat) : Int)) P).W := div_W
   have h1 := qr0 (p := P) w1 wn (ql7 (p := P) wt wy ht hy) (nI_In (n := n + 1) (by omega))
   have h2 : ((t.mul y P).div (nI ((n + 1 : Nat) : Int) ((n + 1 : Nat) : Int)) P).In (tm x (n + 1)) := h1
   have h3 := qid (p := P) ws w2 hs h2
   have h4 : (s.add ((t.mul y P).div (nI ((n + 1 : Nat) : Int) ((n + 1 : Nat) : Int)) P) P).In (es x (n + 1)) := h3
   unfold expG
   simp only
   split
   · exact ⟨n + 1, by omega, fun _ => by omega, w2, add_W, h2, h4⟩
   · obtain ⟨m, hm, _, r⟩ := qadc wy hy f (n + 1) _ _ (by omega) w2 add_W h2 h4
     exact ⟨m, by omega, fun _ => by omega, r⟩
theorem qrd : (nI 1 1).In (1 : Rat) := nI_In (n := 1) (by decide)
theorem qagh {P : Int} {y : Iv} {x : Rat} (wy : y.W) (hy : y.In x) (h1 : -1 ≤ 2 * x) (h2 : 2 * x ≤ 1) : (expI P y).Has (es x) := by
 unfold expI
 have w1 : (nI 1 1).W := nI_W (by omega) (by omega)
 obtain ⟨m, hm, hm1, wt, ws, ht, hs⟩ := qadc (P := P) wy hy 1000 0 (nI 1 1) (nI 1 1) (by omega) w1 w1 qrd qrd
 refine Iv.Has.of_ev m fun k hk => ?_
 obtain ⟨j, rfl⟩ := Nat.exists_eq_add_of_le hk
 have r := qadf h1 h2 (n := m) (hm1 (by decide)) (q0a (tm x m)) j
 have := qid (p := P) ws (qn9 wt) hs (q4p wt ht r)
 rwa [show es x m + (es x (m + j) - es x m) = es x (m + j) by grind] at this
theorem qfe {x : Iv} {k : Int} : (x.scl k).W := by
 unfold Iv.scl
 split
 · exact q7p scl_W scl_W
 · exact Iv.whole_W
theorem qadb {P : Int} {y : Iv} : (expI P y).W := by unfold expI; exact add_W
theorem qze {P : Int} : ∀ (n : Nat) (y : Iv) (x : Rat), y.W → y.In x → -(pw n : Rat) ≤ 2 * x → 2 * x ≤ (pw n : Rat) → (qfn P n y).W ∧ (qfn P n y).Has (es x)
 | 0, y, x, wy, hy, h1, h2 => by
   have e : (pw 0 : Rat) = 1 := rfl
   rw [e] at h1 h2
   show (expI P y).W ∧ (expI P y).Has (es x)
   exact ⟨qadb, qagh wy hy h1 h2⟩
 | n + 1, y, x, wy, hy, h1, h2 => by
   have e : (pw (n + 1) : Rat) = (pw n : Rat) * 2 := by rw [qa5, Rat.intCast_mul]; rfl
   rw [e] at h1 h2
   have p1 : (pw 1 : Rat) = 2 := rfl
   have p0 : (pw 0 : Rat) = 1 := rfl
   have hs : (y.scl (-1)).In (x / 2) := q2y (a := 0) (b := 1) wy (by omega) (by rw [p1, p0]; grind) hy
   obtain ⟨w, h⟩ := qze n (y.scl (-1)) (x / 2) qfe hs (by grind) (by grind)
   refine ⟨sq_W, ?_⟩
   have := qaa8 (p := P) w h (qog _)
   exact this.near (qon x).symm
end Go.Abs.W
namespace Go.Abs.W
def Dy.rat (d : Dy) : Rat := (d.val : Rat) * sc⁻¹
theorem qic (d : Dy) : d.rat * sc = (d.val : Rat) := by
 unfold Dy.rat
 have hs := qe9
 rw [Rat.mul_assoc, Rat.inv_mul_cancel sc (by grind), Rat.mul_one]
theorem pt_In (d : Dy) : (Iv.pt d).In d.rat := by
 intro _
 rw [qic]
 exact ⟨Rat.le_refl, Rat.le_refl⟩
theorem qkn {d : Dy} (h : d.m = []) : d.rat = 0 := by
 have := Dy.absN_nil h
 unfold Dy.rat Dy.val
 rw [this]
 have e : ((if d.neg = true then -((0 : Nat) : Int) else ((0 : Nat) : Int) : Int) : Rat) = 0 := by split <;> rfl
 rw [e, Rat.zero_mul]
theorem q25 {d : Dy} (ok : d.Ok) (hm : d.m ≠ []) {n : Nat} (hn : d.top + 1 ≤ n) : -(pw n : Rat) ≤ 2 * d.rat ∧ 2 * d.rat ≤ (pw n : Rat) := by
 obtain ⟨b1, b2⟩ := ok.absN_bounds hm
 have ht := ok.top_pos hm
 have h1 : 2 * d.absN ≤ 2 ^ (n + 16384) := by
   have e : 2 ^ (d.top + 16384).toNat * 2 = 2 ^ ((d.top + 16384).toNat + 1) := (Nat.pow_succ ..).symm
   have : 2 ^ ((d.top + 16384).toNat + 1) ≤ 2 ^ (n + 16384) := Nat.pow_le_pow_right (by omega) (by omega)
   omega
 have h2 : ((2 * d.absN : Nat) : Int) ≤ pw n * pw 16384 := by
   rw [← qa5]; unfold pw; exact Int.ofNat_le.2 h1
 have h3 : 2 * d.val ≤ pw n * pw 16384 ∧ -(pw n * pw 16384) ≤ 2 * d.val := by
   unfold Dy.val
   split <;> omega
 have c1 := qbn h3.1
 have c2 := qbn h3.2
 rw [Rat.intCast_neg] at c2
 rw [Rat.intCast_mul, Rat.intCast_mul, show ((pw 16384 : Int) : Rat) = sc from rfl, ← qic d] at c1 c2
 clear h1 h2 h3 b1 b2 ht
 have two : ((2 : Int) : Rat) = 2 := rfl
 rw [two] at c1 c2
 have hs := qe9
 refine ⟨Rat.le_of_mul_le_mul_right (c := sc) ?_ hs, Rat.le_of_mul_le_mul_right (c := sc) ?_ hs⟩ <;> grind
theorem qib {x : Iv} {p : Int} : (x.rnd p).W := by
 unfold Iv.rnd
 split
 · exact q7p rRound_ok.w rRound_ok.w
 · exact Iv.whole_W
theorem ql2 {d : Dy} (p : Int) (ok : d.Ok) : (qa8 d p).W ∧ (qa8 d p).Has (es d.rat) := by
 unfold qa8
 by_cases hm : d.m = []
 · have hs : d.sgn = 0 := by unfold Dy.sgn; rw [if_pos hm]
   rw [if_pos hs, qkn hm, show es 0 = fun _ => 1 from funext qqr]
   exact ⟨nI_W (by omega) (by omega), Iv.In.has qrd⟩
 · have hs : ¬ d.sgn = 0 := by unfold Dy.sgn; rw [if_neg hm]; split <;> omega
   rw [if_neg hs]
   simp only
   obtain ⟨b1, b2⟩ := q25 ok hm (n := (d.top + 1).toNat) (by omega)
   have wp : (Iv.pt d).W := ⟨ok.w, ok.w⟩
   obtain ⟨w, h⟩ := qze (P := gP p ((d.top + 1).toNat + 24)) (d.top + 1).toNat ((Iv.pt d).rnd (gP p ((d.top + 1).toNat + 24))) d.rat qib (q21 wp (pt_In d)) b1 b2
   exact ⟨qib, q5b w h⟩
end Go.Abs.W
namespace Go.Abs.W
def Iv.HasLog (x : Iv) (d : Rat) : Prop := x.known = true → ELo x.lo.rat d ∧ EHi d x.hi.rat
theorem HasLog.meet {x y : Iv} {d : Rat} (kx : x.known = true) (ky : y.known = true) (hx : x.HasLog d) (hy : y.HasLog d) : x.lo.val ≤ y.hi.val ∧ y.lo.val ≤ x.hi.val := by
 obtain ⟨a, b⟩ := hx kx
 obtain ⟨c, e⟩ := hy ky
 have key : ∀ {u v : Dy}, u.rat ≤ v.rat → u.val ≤ v.val := by
   intro u v h
   have := Rat.mul_le_mul_of_nonneg_right h (Rat.le_of_lt qe9)
   rw [qic, qic] at this
   exact Rat.intCast_le_intCast.1 this
 exact ⟨key (a.le e), key (c.le b)⟩
theorem qie {x : Iv} {q : Rat} (h : x.In q) (k : x.known = true) : x.lo.rat ≤ q ∧ q ≤ x.hi.rat := by
 obtain ⟨a, b⟩ := h k
 rw [← qic] at a b
 exact ⟨Rat.le_of_mul_le_mul_right a qe9, Rat.le_of_mul_le_mul_right b qe9⟩
theorem qacm {P : Int} {sq : Iv} {ζ : Rat} (wq : sq.W) (hq : sq.In (ζ * ζ)) : ∀ (f i : Nat) (w s : Iv), i + f ≤ 1000000 → w.W → s.W → w.In (od ζ i) → s.In (ps (lt ζ) i) →
   ∃ m, (logG P sq f (2 * i + 3) w s).1.W ∧ (logG P sq f (2 * i + 3) w s).2.W ∧ (logG P sq f (2 * i + 3) w s).1.In (od ζ m) ∧ (logG P sq f (2 * i + 3) w s).2.In (ps (lt ζ) m)
 | 0, i, w, s, _, ww, ws, hw, hs => ⟨i, ww, ws, hw, hs⟩
 | f + 1, i, w, s, hf, ww, ws, hw, hs => by
   have w1 : (w.mul sq P).W := mul_W
   have h1 : (w.mul sq P).In (od ζ (i + 1)) := ql7 ww wq hw hq
   have wn : (nI ((2 * i + 3 : Nat) : Int) ((2 * i + 3 : Nat) : Int)).W := nI_W (by omega) (by omega)
   have h2 := qr0 (p := P) w1 wn h1 (nI_In (n := 2 * i + 3) (by omega))
   have h3 := qid (p := P) ws div_W hs h2
   have e : ps (lt ζ) i + od ζ (i + 1) / ((2 * i + 3 : Nat) : Rat) = ps (lt ζ) (i + 1) := rfl
   rw [e] at h3
   unfold logG
   split
   · exact ⟨i, ww, ws, hw, hs⟩
   · simp only
     exact qacm wq hq f (i + 1) _ _ (by omega) w1 add_W h1 h3
theorem q7r {P : Int} {z : Iv} {ζ : Rat} (wz : z.W) (hz : z.In ζ) (h0 : -1 < ζ) (h1 : ζ < 1) (h2 : 2 * (ζ * ζ) ≤ 1) : (logI P z).W ∧ (logI P z).HasLog (gg ζ) := by
 unfold logI
 refine ⟨qfe, fun hk => ?_⟩
 have l0 : lt ζ 0 = ζ := by
   unfold lt
   have : ((2 * 0 + 1 : Nat) : Rat) = 1 := rfl
   rw [this]; simp only [od]; grind
 obtain ⟨m, ww, ws, hw, hs⟩ := qacm (P := P) (sq := z.sq P) sq_W (sq_In wz hz) 1000 0 z z (by omega) wz wz hz (by show z.In (lt ζ 0); rw [l0]; exact hz)
 refine qy8 h0 h1 m fun k hkm => ?_
 obtain ⟨j, rfl⟩ := Nat.exists_eq_add_of_le hkm
 have r := qajs h2 m (q0a (od ζ m)) j
 have r2 : Bd (ps (lt ζ) (m + j) - ps (lt ζ) m) (rabs (od ζ m)) := by
   obtain ⟨u, v⟩ := r
   unfold ll at u v
   constructor <;> grind
 have a := qid (p := P) ws (qn9 ww) hs (q4p ww hw r2)
 have p1 : (pw 1 : Rat) = 2 := rfl
 have p0 : (pw 0 : Rat) = 1 := rfl
 have b := q2y (k := 1) (a := 1) (b := 0) (r := ll ζ (m + j)) add_W (by omega) (by rw [p1, p0]; unfold ll; grind) a
 exact qie b hk
end Go.Abs.W
