/- Parts of the proof: FpXs. -/
import Derived.Test.YtedfjcdjmnaaiaaGreatDoorXh
namespace Go.Abs.W
structure EndsOk (y a b : Iv) : Prop where
 wy : y.W
 wa : a.W
 wb : b.W
 lo : y.lo = a.lo
 hi : y.hi = b.hi
 ny : y.all = false
 na : a.all = false
 nb : b.all = false
theorem q14 {H : Heap} {bx bp : Nat} {x : Iv} {p : Int} (hx : H[bx]? = some (some ⟨7, [x.v], false, true⟩)) (hb : H[bp]? = some (some ⟨1, [.int .i64 p], false, true⟩)) (g : Nat) (y a b : Iv)
   (hg : ∀ H args, prep prog g H args = frzVs H args) (c1 : CQ prog g [x.v, .int .i64 p] y.v) (c2 : CQ prog g [(Iv.pt x.lo).v, .int .i64 p] a.v) (c3 : CQ prog g [(Iv.pt x.hi).v, .int .i64 p] b.v) (e : EndsOk y a b) :
   Ev prog (.call qbq [.fn g [], .ptr bx 0 0, .ptr bp 0 0] H) (.ret (.bool true) H) := by
 refine qxg rfl ?_
 have hxl : bx < H.length := (List.getElem?_eq_some_iff.1 hx).1
 have hxe : H[bx]'hxl = some ⟨7, [x.v], false, true⟩ := (List.getElem?_eq_some_iff.1 hx).2
 have hbl : bp < H.length := (List.getElem?_eq_some_iff.1 hb).1
 have hbe : H[bp]'hbl = some ⟨1, [.int .i64 p], false, true⟩ := (List.getElem?_eq_some_iff.1 hb).2
 have q1 := qr7 y.lo a.lo e.wy.lo e.wa.lo
 have q2 := qr7 y.hi b.hi e.wy.hi e.wb.hi
 rw [decide_eq_true e.lo] at q1
 rw [decide_eq_true e.hi] at q2
 have ny := e.ny
 have na := e.na
 have nb := e.nb
 simp [hxe, hxl, hbe, hbl]
 refine qaa (g := g) (caps := []) (args := [x.v, .int .i64 p]) (vs := [x.v, .int .i64 p]) rfl rfl (by rw [hg]; rfl) c1 ?_
 simp [hxe, hxl]
 refine qaa rfl rfl rfl (q28 x.lo) ?_
 simp [hbe, hbl]
 refine qaa (g := g) (caps := []) (args := [(Iv.pt x.lo).v, .int .i64 p]) (vs := [(Iv.pt x.lo).v, .int .i64 p]) rfl rfl (by rw [hg]; rfl) c2 ?_
 simp [hxe, hxl]
 refine qaa rfl rfl rfl (q28 x.hi) ?_
 simp [hbe, hbl]
 refine qaa (g := g) (caps := []) (args := [(Iv.pt x.hi).v, .int .i64 p]) (vs := [(Iv.pt x.hi).v, .int .i64 p]) rfl rfl (by rw [hg]; rfl) c3 ?_
 simp
 refine qaa rfl rfl rfl q1 ?_
 simp
 refine qaa rfl rfl rfl q2 ?_
 simp [ny, na, nb]
theorem q50 {A B : Iv} (wA : A.W) (wB : B.W) (kA : A.known = true) (kB : B.known = true) : EndsOk (endsI A B) (endsI A A) (endsI B B) := by
 have nA := (qav kA).2
 have nB := (qav kB).2
 have e1 : endsI A B = ⟨A.lo, B.hi, false⟩ := by unfold endsI; rw [nA, nB]; rfl
 have e2 : endsI A A = ⟨A.lo, A.hi, false⟩ := by unfold endsI; rw [nA]; rfl
 have e3 : endsI B B = ⟨B.lo, B.hi, false⟩ := by unfold endsI; rw [nB]; rfl
 rw [e1, e2, e3]
 exact ⟨⟨wA.lo, wB.hi⟩, ⟨wA.lo, wA.hi⟩, ⟨wB.lo, wB.hi⟩, rfl, rfl, rfl, rfl, rfl⟩
theorem qagk (x : Iv) (p : Int) (l : x.Lm) : CQ prog qok [x.v, .int .i64 p] (.bool true) := by
 refine qag rfl fun H => ?_
 simp
 refine qaa rfl rfl rfl qg8 ?_
 simp
 refine qaa rfl rfl rfl (qlw x p l) ?_
 cases hs : qg2 x p
 · simp
 obtain ⟨w, k, hp, m1, m2, _, _⟩ := qe8 l hs
 obtain ⟨o1, o2⟩ := qai w k
 have le0 := rat_le.2 (qak w k)
 have w1 : (Iv.pt x.lo).W := ⟨o1.w, o1.w⟩
 have w2 : (Iv.pt x.hi).W := ⟨o2.w, o2.w⟩
 have ee : EndsOk (x.exp p) ((Iv.pt x.lo).exp p) ((Iv.pt x.hi).exp p) := by
   have e : x.exp p = endsI (qa8 x.lo p) (qa8 x.hi p) := by unfold Iv.exp; rw [k, hp, m1, m2]; rfl
   rw [e, qac9 o1 hp m1, qac9 o2 hp m2]
   exact q50 (qgs o1) (qgs o2) (qg3 o1 hp m1).1.k (qg3 o2 hp m2).1.k
 have es : EndsOk (x.sinh p) ((Iv.pt x.lo).sinh p) ((Iv.pt x.hi).sinh p) := by
   have e : x.sinh p = endsI (sinh1 x.lo p) (sinh1 x.hi p) := by unfold Iv.sinh; rw [k, hp, m1, m2]; rfl
   rw [e, q47 o1 hp m1, q47 o2 hp m2]
   exact q50 qz6 qz6 (qt8 o1 hp m1).2.1 (qt8 o2 hp m2).2.1
 have hc := (qr1 w k hp m1 m2 Rat.le_refl le0)
 have okc := (qai qzq hc.1).1
 have on : (nD 1).Ok := nD_ok (k := 1) (by omega)
 have cc := qxj x p w
 have ci := qpl 1 (by omega) (by omega)
 rw [← show nD 1 = Dy.of (decide ((1 : Int) < 0)) (1 : Int).natAbs 0 from rfl] at ci
 have cm := qh9 (x.cosh p).lo (nD 1) okc on
 have h1 := hc.2.2
 have h1' : ¬ (x.cosh p).lo.cmp (nD 1) < 0 := by omega
 have rp := qly x (-64) 64 w
 simp [V.isCell]
 refine WL_ev (g := qbq) (caps := [.ptr H.length 0 0, .ptr (H.length + 1) 0 0]) (args := [.fn qgy [], .ptr H.length 0 0, .ptr (H.length + 1) 0 0]) (vs := [.fn qgy [], .ptr H.length 0 0, .ptr (H.length + 1) 0 0]) (v := .bool true) ?_ ?_ ?_ ?_ ?_
 · rfl
 · rfl
 · rfl
 · exact q14 (by simp) (by simp) qgy _ _ _ (fun _ _ => rfl) (qmj x p w) (qmj (Iv.pt x.lo) p w1) (qmj (Iv.pt x.hi) p w2) ee
 simp
 refine WL_ev (g := qbq) (caps := [.ptr H.length 0 0, .ptr (H.length + 1) 0 0]) (args := [.fn qfo [], .ptr H.length 0 0, .ptr (H.length + 1) 0 0]) (vs := [.fn qfo [], .ptr H.length 0 0, .ptr (H.length + 1) 0 0]) (v := .bool true) ?_ ?_ ?_ ?_ ?_
 · rfl
 · rfl
 · rfl
 · exact q14 (by simp) (by simp) qfo _ _ _ (fun _ _ => rfl) (qq2 x p w) (qq2 (Iv.pt x.lo) p w1) (qq2 (Iv.pt x.hi) p w2) es
 generalize x.cosh p = C at *
 simp
 refine qaa rfl rfl rfl cc ?_
 simp
 refine qaa rfl rfl rfl ci ?_
 simp
 refine qaa rfl rfl rfl cm ?_
 simp [h1']
 refine qaa rfl rfl rfl rp ?_
 cases hb : powB x (-64) 64
 · simp
 obtain ⟨_, s1, t1, t2, _, _⟩ := qop w hb (by omega) (by omega) (by omega) (by omega)
 have s2 : 0 < x.hi.sgn := (qdr o2).1.2 (by have := (qdr o1).1.1 s1; have := qak w k; omega)
 have el : EndsOk (x.log p) ((Iv.pt x.lo).log p) ((Iv.pt x.hi).log p) := by
   have e : x.log p = endsI (lgI x.lo p) (lgI x.hi p) := by unfold Iv.log; rw [k, hp, decide_eq_true s1]; rfl
   rw [e, qacj o1 hp s1, qacj o2 hp s2]
   exact q50 lgI_W lgI_W (q7t o1 s1 hp t1).k (q7t o2 s2 hp t2).k
 simp
 refine WL_ev (g := qbq) (caps := [.ptr H.length 0 0, .ptr (H.length + 1) 0 0]) (args := [.fn qgx [], .ptr H.length 0 0, .ptr (H.length + 1) 0 0]) (vs := [.fn qgx [], .ptr H.length 0 0, .ptr (H.length + 1) 0 0]) (v := .bool true) ?_ ?_ ?_ ?_ ?_
 · rfl
 · rfl
 · rfl
 · exact q14 (by simp) (by simp) qgx _ _ _ (fun _ _ => rfl) (qoh x p w) (qoh (Iv.pt x.lo) p w1) (qoh (Iv.pt x.hi) p w2) el
 simp
end Go.Abs.W
