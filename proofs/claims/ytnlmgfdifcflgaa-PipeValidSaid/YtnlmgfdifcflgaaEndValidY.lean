/- 'flowpipelaw37.PipeValid' returns true for every input: each of its calls returns, and its arguments read as they did. -/
import Derived.Test.YtnlmgfdifcflgaaG0
import Derived.Test.YtnlmgfdifcflgaaFf
namespace Go.Proofs.Ytnlmgfdifcflgaa
open Go.ChangeShapes Go.WideShapes Go.ChangeAt Go.RowKit

set_option maxRecDepth 100000 in
theorem pipeValid_lifted (os : Os) (started : os.Started) (H : Type) (enc : TypeId × Value → H) :
   ReturnsInHanded {} Try.checked os 3 .any (Rows.pipeValidSpec.pre6 enc Try.prog Try.f3 Rows.pipeValidRow.domain false) (Rows.pipeValidSpec.post enc Try.prog Try.f3 false true false false) := by
 refine returnsInHanded_of_change (C := Try.checked) Try.own started (by kernel_rfl) Try.func3
   (ChangeSpec.witness6 (enc := enc) (C := Try.checked) false ⟨#[], #[zPp, .int .u8 0], []⟩ 8 (by kernel_rfl) (by kernel_rfl) (by kernel_rfl) (by kernel_rfl)) ?_
 intro W base args ds gs before hval0 hW hcnd _
 have hval : ∀ (j : Nat) t v, Try.f3.params[j]? = some t → args[j]? = some v → Value.okWide Try.prog W .any base t v := hval0
 have hW' : DataW.Whole enc Try.prog Try.f3.params.toList Rows.pipeValidSpec.vars false W args.toList ds gs before := hW
 obtain ⟨p, q, hA0, hV, rfl, hfz, hnd⟩ := hW
 have hA : DataW.TrodAll enc Try.prog W 0 (fun _ => true) true Try.f3.params.toList args.toList ds p := hA0
 rw [Try.params3] at hA hval
 obtain ⟨v0, v1, d0, d1, p0, p1, rfl, rfl, rfl, h0, h1⟩ := trodAll_two hA
 obtain ⟨rfl, rfl⟩ := trodVars_none hV
 obtain ⟨_, ⟨a0, rfl, t0⟩, r0⟩ := Go.Abs.Rd.struct (μ := fun _ => none) r_pp Try.underlying25 (by rintro _ ⟨x, rfl, _⟩; exact ⟨_, rfl⟩) h0 (hval 0 25 v0 rfl rfl)
 obtain ⟨_, ⟨a1, rfl, t1⟩, r1⟩ := Go.Abs.Rd.cell (μ := fun _ => none) r_u8 (by rintro _ ⟨x, rfl, _⟩; rfl) h1 (Go.Abs.one_int Try.underlying5 (hval 1 5 v1 rfl rfl))
 obtain ⟨t1a, t1b⟩ := t1
 simp only [IntKind.min, IntKind.max, IntKind.signed, IntKind.bits] at t1a t1b
 obtain ⟨n1, rfl⟩ : ∃ n1 : Nat, a1 = (n1 : Int) := ⟨a1.toNat, by simp at t1a; omega⟩
 refine (Go.Abs.law_calls seat (g := 2) (fid := 3) (by kernel_rfl) (Go.Abs.W.PipeValid_cq a0 n1 t0 (by simp at t1b; omega) []) (vs := [v0, v1]) (W := W) ?_ (fun _ _ h => by cases h)).mono fun e W' he => ?_
 · exact Go.Abs.Rs.cons r0 (Go.Abs.Rs.cons r1 ⟨rfl, by simp⟩)
 · obtain ⟨rfl, hb⟩ := he
   refine ⟨_, rfl, Go.Abs.post_true (tb := 4) Try.laidOut rfl ?_ (by kernel_rfl) Try.underlying4 ⟨rfl, rfl, rfl⟩ hW' hb⟩
   rw [Try.params3]
   intro t ht
   simp at ht
   rcases ht with rfl | rfl <;> exact ⟨by kernel_rfl, of_decide_eq_true (by kernel_rfl)⟩

theorem pipeValid_holds : Rows.PipeValidSaid :=
 OpenClaim.holds_of_wide 3 Try.f3 rfl rfl rfl rfl rfl rfl rfl ⟨rfl, rfl, rfl, rfl, rfl⟩ rfl rfl rfl rfl rfl (by kernel_rfl) Try.func3 (by kernel_rfl)
   (of_decide_eq_true (by kernel_rfl)) (by unfold Func.isWrapper; first | (rw [if_pos (by decide +kernel)]; kernel_rfl) | (rw [if_neg (by decide +kernel)]; exact ⟨rfl, rfl⟩))
   (fun os started H enc _ => pipeValid_lifted os started H enc)

end Go.Proofs.Ytnlmgfdifcflgaa
