/- 'flowpipelaw37.PipeAt' returns true for every input: each of its calls returns, and its arguments read as they did. -/
import Derived.Test.YteghcekbgfhieaaG0
import Derived.Test.YteghcekbgfhieaaFe
namespace Go.Proofs.Yteghcekbgfhieaa
open Go.ChangeShapes Go.WideShapes Go.ChangeAt Go.RowKit

set_option maxRecDepth 100000 in
theorem pipeAt_lifted (os : Os) (started : os.Started) (H : Type) (enc : TypeId × Value → H) :
    ReturnsInHanded {} Try.checked os 7 .any (Rows.pipeAtSpec.pre6 enc Try.prog Try.f7 Rows.pipeAtRow.domain false) (Rows.pipeAtSpec.post enc Try.prog Try.f7 false true false false) := by
  refine returnsInHanded_of_change (C := Try.checked) Try.own started (by kernel_rfl) Try.func7
    (ChangeSpec.witness6 (enc := enc) (C := Try.checked) false ⟨#[], #[zPp, zDy, zDy], []⟩ 8 (by kernel_rfl) (by kernel_rfl) (by kernel_rfl) (by kernel_rfl)) ?_
  intro W base args ds gs before hval0 hW hcnd _
  have hval : ∀ (j : Nat) t v, Try.f7.params[j]? = some t → args[j]? = some v → Value.okWide Try.prog W .any base t v := hval0
  have hW' : DataW.Whole enc Try.prog Try.f7.params.toList Rows.pipeAtSpec.vars false W args.toList ds gs before := hW
  obtain ⟨p, q, hA0, hV, rfl, hfz, hnd⟩ := hW
  have hA : DataW.TrodAll enc Try.prog W 0 (fun _ => true) true Try.f7.params.toList args.toList ds p := hA0
  rw [Try.params7] at hA hval
  obtain ⟨v0, v1, v2, d0, d1, d2, p0, p1, p2, rfl, rfl, rfl, h0, h1, h2⟩ := trodAll_three hA
  obtain ⟨rfl, rfl⟩ := trodVars_none hV
  obtain ⟨_, ⟨a0, rfl, t0⟩, r0⟩ := Go.Abs.Rd.struct (μ := fun _ => none) r_pp Try.underlying25 (by rintro _ ⟨x, rfl, _⟩; exact ⟨_, rfl⟩) h0 (hval 0 25 v0 rfl rfl)
  obtain ⟨_, ⟨a1, rfl, t1⟩, r1⟩ := Go.Abs.Rd.struct (μ := fun _ => none) r_dy Try.underlying28 (by rintro _ ⟨x, rfl, _⟩; exact ⟨_, rfl⟩) h1 (hval 1 28 v1 rfl rfl)
  obtain ⟨_, ⟨a2, rfl, t2⟩, r2⟩ := Go.Abs.Rd.struct (μ := fun _ => none) r_dy Try.underlying28 (by rintro _ ⟨x, rfl, _⟩; exact ⟨_, rfl⟩) h2 (hval 2 28 v2 rfl rfl)
  refine (Go.Abs.law_calls seat (g := 5) (fid := 7) (by kernel_rfl) (Go.Abs.W.PipeAt_cq a0 a1 a2 t0 t1 t2 []) (vs := [v0, v1, v2]) (W := W) ?_).mono fun e W' he => ?_
  · exact Go.Abs.Rs.cons r0 (Go.Abs.Rs.cons r1 (Go.Abs.Rs.cons r2 ⟨rfl, by simp⟩))
  · obtain ⟨rfl, hb⟩ := he
    refine ⟨_, rfl, Go.Abs.post_true (tb := 4) Try.laidOut rfl ?_ (by kernel_rfl) Try.underlying4 ⟨rfl, rfl, rfl⟩ hW' hb⟩
    rw [Try.params7]
    intro t ht
    simp at ht
    rcases ht with rfl | rfl <;> exact ⟨by kernel_rfl, of_decide_eq_true (by kernel_rfl)⟩

theorem pipeAt_holds : Rows.PipeAtSaid :=
  OpenClaim.holds_of_wide 7 Try.f7 rfl rfl rfl rfl rfl rfl rfl ⟨rfl, rfl, rfl, rfl, rfl⟩ rfl rfl rfl rfl rfl (by kernel_rfl) Try.func7 (by kernel_rfl)
    (of_decide_eq_true (by kernel_rfl)) (by unfold Func.isWrapper; first | (rw [if_pos (by decide +kernel)]; kernel_rfl) | (rw [if_neg (by decide +kernel)]; exact ⟨rfl, rfl⟩))
    (fun os started H enc _ => pipeAt_lifted os started H enc)

end Go.Proofs.Yteghcekbgfhieaa
