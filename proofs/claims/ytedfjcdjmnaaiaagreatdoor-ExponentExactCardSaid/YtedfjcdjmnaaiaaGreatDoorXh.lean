/- Parts of the proof: FpXq, FpXw. -/
import Derived.Test.YtedfjcdjmnaaiaaGreatDoorXf
namespace Go.Abs.W
theorem q6x {H : Heap} {b : Nat} {p : Int} (hb : H[b]? = some (some ⟨1, [.int .i64 p], false, true⟩)) (d : Dy) (ok : d.Ok) (hp : precB p = true) (hd : modB d = true) :
   Ev prog (.call qf9 [d.v, .ptr b 0 0] H) (.ret (sinh1 d p).v H) := by
 refine qxg rfl ?_
 have hbl : b < H.length := (List.getElem?_eq_some_iff.1 hb).1
 have hbe : H[b]'hbl = some ⟨1, [.int .i64 p], false, true⟩ := (List.getElem?_eq_some_iff.1 hb).2
 have s := qpj d ok.w
 rw [ok.valid, if_pos rfl] at s
 have c := qacv d p false ok hp hd
 simp at c
 simp
 refine qaa rfl rfl rfl s ?_
 by_cases h0 : d.sgn = 0
 · simp [h0, sinh1, Dy.zero, lim]
 · simp [h0, hbe, hbl, List.getElem?_append_left]
   refine qaa rfl rfl rfl c ?_
   simp [sinh1, h0, lim]
theorem qq2 (x : Iv) (p : Int) (w : x.W) : CQ prog qfo [x.v, .int .i64 p] (x.sinh p).v := by
 refine qag rfl fun H => ?_
 have f := q12 x p w
 simp
 refine qaa rfl rfl rfl f ?_
 cases hk : x.known
 · simp
   refine qaa rfl rfl rfl qat ?_
   simp [Iv.sinh, hk, lim]
 · obtain ⟨o1, o2⟩ := qai w hk
   cases hp : precB p
   · simp
     refine qaa rfl rfl rfl qat ?_
     simp [Iv.sinh, hp, lim]
   · simp
     refine qaa rfl rfl rfl (qf8 x.lo o1.w) ?_
     cases h1 : modB x.lo
     · simp
       refine qaa rfl rfl rfl qat ?_
       simp [Iv.sinh, h1, lim]
     · simp
       refine qaa rfl rfl rfl (qf8 x.hi o2.w) ?_
       cases h2 : modB x.hi
       · simp
         refine qaa rfl rfl rfl qat ?_
         simp [Iv.sinh, h2, lim]
       · simp [V.isCell]
         refine WL_ev (g := qf9) (caps := [.ptr (H.length + 1) 0 0]) (args := [x.lo.v, .ptr (H.length + 1) 0 0]) (vs := [x.lo.v, .ptr (H.length + 1) 0 0]) (v := (sinh1 x.lo p).v) ?_ ?_ ?_ ?_ ?_
         · rfl
         · rfl
         · rfl
         · exact q6x (by simp) x.lo o1 hp h1
         simp
         refine WL_ev (g := qf9) (caps := [.ptr (H.length + 1) 0 0]) (args := [x.hi.v, .ptr (H.length + 1) 0 0]) (vs := [x.hi.v, .ptr (H.length + 1) 0 0]) (v := (sinh1 x.hi p).v) ?_ ?_ ?_ ?_ ?_
         · rfl
         · rfl
         · rfl
         · exact q6x (by simp) x.hi o2 hp h2
         simp
         refine qaa rfl rfl rfl (quj (sinh1 x.lo p) (sinh1 x.hi p)) ?_
         simp [Iv.sinh, hk, hp, h1, h2, lim]
end Go.Abs.W
namespace Go.Abs.W
theorem qac9 {d : Dy} {p : Int} (ok : d.Ok) (hp : precB p = true) (h : modB d = true) : (Iv.pt d).exp p = endsI (qa8 d p) (qa8 d p) := by
 unfold Iv.exp
 rw [qps ok, hp]
 show (if (true && true && modB d && modB d) = true then _ else _) = _
 rw [h]; rfl
theorem q47 {d : Dy} {p : Int} (ok : d.Ok) (hp : precB p = true) (h : modB d = true) : (Iv.pt d).sinh p = endsI (sinh1 d p) (sinh1 d p) := by
 unfold Iv.sinh
 rw [qps ok, hp]
 show (if (true && true && modB d && modB d) = true then _ else _) = _
 rw [h]; rfl
theorem qacj {d : Dy} {p : Int} (ok : d.Ok) (hp : precB p = true) (h : 0 < d.sgn) : (Iv.pt d).log p = endsI (lgI d p) (lgI d p) := by
 unfold Iv.log
 rw [qps ok, hp]
 show (if (true && true && decide (0 < d.sgn)) = true then _ else _) = _
 rw [decide_eq_true h]; rfl
end Go.Abs.W
