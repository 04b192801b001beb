/- 'flowpipelaw37.PipeMeets' returns true for every input: each of its calls returns, and its arguments read as they did. -/
import Derived.Test.YtnlmgfdifcflgaaGreatG0
import Derived.Test.YtnlmgfdifcflgaaGreatFq
namespace Go.Proofs.YtnlmgfdifcflgaaGreat
open Go.ChangeShapes Go.WideShapes Go.ChangeAt Go.RowKit

set_option maxRecDepth 100000 in
theorem pipeMeets_lifted (os : Os) (started : os.Started) (H : Type) (enc : TypeId × Value → H) :
   ReturnsInHanded {} Tryz.checked os 3 .any (Rows.pipeMeetsSpec.pre6 enc Tryz.prog Tryz.f3 Rows.pipeMeetsRow.domain false) (Rows.pipeMeetsSpec.post enc Tryz.prog Tryz.f3 false true false false) := by
 refine returnsInHanded_of_change (C := Tryz.checked) Tryz.own started (by kernel_rfl) Tryz.func3
   (ChangeSpec.witness6 (enc := enc) (C := Tryz.checked) false ⟨#[], #[zPp, zPp], []⟩ 8 (by kernel_rfl) (by kernel_rfl) (by kernel_rfl) (by kernel_rfl)) ?_
 intro W base args ds gs before hval0 hW hcnd _
 have hval : ∀ (j : Nat) t v, Tryz.f3.params[j]? = some t → args[j]? = some v → Value.okWide Tryz.prog W .any base t v := hval0
 have hW' : DataW.Whole enc Tryz.prog Tryz.f3.params.toList Rows.pipeMeetsSpec.vars false W args.toList ds gs before := hW
 obtain ⟨p, q, hA0, hV, rfl, hfz, hnd⟩ := hW
 have hA : DataW.TrodAll enc Tryz.prog W 0 (fun _ => true) true Tryz.f3.params.toList args.toList ds p := hA0
 rw [Tryz.params3] at hA hval
 obtain ⟨v0, v1, d0, d1, p0, p1, rfl, rfl, rfl, h0, h1⟩ := trodAll_two hA
 obtain ⟨rfl, rfl⟩ := trodVars_none hV
 obtain ⟨_, ⟨a0, rfl, t0⟩, r0⟩ := Go.Abs.Rd.struct (μ := fun _ => none) r_pp Tryz.underlying25 (by rintro _ ⟨x, rfl, _⟩; exact ⟨_, rfl⟩) h0 (hval 0 25 v0 rfl rfl)
 obtain ⟨_, ⟨a1, rfl, t1⟩, r1⟩ := Go.Abs.Rd.struct (μ := fun _ => none) r_pp Tryz.underlying25 (by rintro _ ⟨x, rfl, _⟩; exact ⟨_, rfl⟩) h1 (hval 1 25 v1 rfl rfl)
 refine (Go.Abs.law_calls seat (g := 584) (fid := 3) (by kernel_rfl) (Go.Abs.W.PipeMeets_cq a0 a1 t0 t1 []) (vs := [v0, v1]) (W := W) ?_ (fun _ _ h => by cases h)).mono fun e W' he => ?_
 · exact Go.Abs.Rs.cons r0 (Go.Abs.Rs.cons r1 ⟨rfl, by simp⟩)
 · obtain ⟨rfl, hb⟩ := he
   refine ⟨_, rfl, Go.Abs.post_true (tb := 4) Tryz.laidOut rfl ?_ (by kernel_rfl) Tryz.underlying4 ⟨rfl, rfl, rfl⟩ hW' hb⟩
   rw [Tryz.params3]
   intro t ht
   simp at ht
   subst ht <;> exact ⟨by kernel_rfl, of_decide_eq_true (by kernel_rfl)⟩

theorem pipeMeets_holds : Rows.PipeMeetsSaid :=
 OpenClaim.holds_of_wide 3 Tryz.f3 rfl rfl rfl rfl rfl rfl rfl ⟨rfl, rfl, rfl, rfl, rfl⟩ rfl rfl rfl rfl rfl (by kernel_rfl) Tryz.func3 (by kernel_rfl)
   (of_decide_eq_true (by kernel_rfl)) (by unfold Func.isWrapper; first | (rw [if_pos (by decide +kernel)]; kernel_rfl) | (rw [if_neg (by decide +kernel)]; exact ⟨rfl, rfl⟩))
   (fun os started H enc _ => pipeMeets_lifted os started H enc)

end Go.Proofs.YtnlmgfdifcflgaaGreat
