/- 'flowpipelaw37.PipeCuts' returns true for every input: each of its calls returns, and its arguments read as they did. -/
import Derived.Test.YteghcekbgfhieaaRows
import Derived.Test.YteghcekbgfhieaaFd
namespace Go.Proofs.Yteghcekbgfhieaa
open Go.ChangeShapes Go.WideShapes Go.ChangeAt Go.RowKit

theorem Try.own : ownKnob Try.prog.godebug = none := by kernel_rfl
theorem Try.laidOut : laidOutB Try.prog = true := by kernel_rfl

theorem seat : Go.Abs.Seat Go.Abs.tab Go.Abs.prog := ⟨Go.Abs.tab_mixed, Go.Abs.tab_fns, fun _ _ _ _ _ _ h => by cases h⟩

section
variable {H : Type} {enc : TypeId × Value → H} {w : World}
theorem r_u32s : Go.Abs.Rd enc Try.prog w Go.Abs.tab.gid 26 (fun v => ∃ l : List Nat, v = Go.Abs.lim l ∧ Go.Abs.Li l ∧ l.length ≤ maxLen) := Go.Abs.W.rd_u32s Try.underlying26 Try.underlying79 (by kernel_rfl)
theorem r_dy : Go.Abs.Rd enc Try.prog w Go.Abs.tab.gid 28 (fun v => ∃ d : Go.Abs.W.Dy, v = d.v ∧ d.T) := Go.Abs.W.rd_dy Try.underlying28 (by kernel_rfl) Try.underlying4 r_u32s Try.underlying3 (by kernel_rfl)
theorem r_iv : Go.Abs.Rd enc Try.prog w Go.Abs.tab.gid 77 (fun v => ∃ x : Go.Abs.W.Iv, v = x.v ∧ x.T) := Go.Abs.W.rd_iv Try.underlying77 (by kernel_rfl) r_dy r_dy Try.underlying4 (by kernel_rfl)
theorem r_ivs : Go.Abs.Rd enc Try.prog w Go.Abs.tab.gid 22 (fun v => ∃ l : List Go.Abs.W.Iv, v = Go.Abs.W.ivs l ∧ Go.Abs.W.BxT l) := Go.Abs.W.rd_ivs Try.underlying22 (by kernel_rfl) r_iv
theorem r_sg : Go.Abs.Rd enc Try.prog w Go.Abs.tab.gid 50 (fun v => ∃ s : Go.Abs.W.Sg, v = s.v ∧ s.T) := Go.Abs.W.rd_sg Try.underlying50 (by kernel_rfl) r_dy r_dy r_ivs r_ivs (by kernel_rfl)
theorem r_sgs : Go.Abs.Rd enc Try.prog w Go.Abs.tab.gid 23 (fun v => ∃ l : List Go.Abs.W.Sg, v = Go.Abs.W.sgs l ∧ (∀ s ∈ l, s.T) ∧ l.length ≤ maxLen) := Go.Abs.W.rd_sgs Try.underlying23 (by kernel_rfl) r_sg
theorem r_pp : Go.Abs.Rd enc Try.prog w Go.Abs.tab.gid 25 (fun v => ∃ p : Go.Abs.W.Pp, v = p.v ∧ p.T) := Go.Abs.W.rd_pp Try.underlying25 (by kernel_rfl) r_ivs r_sgs (by kernel_rfl)
end

def zDy : Value := .agg #[.bool false, .slice none 0 0, .int .i64 0]
def zPp : Value := .agg #[.slice none 0 0, .slice none 0 0]

set_option maxRecDepth 100000 in
theorem pipeCuts_lifted (os : Os) (started : os.Started) (H : Type) (enc : TypeId × Value → H) :
    ReturnsInHanded {} Try.checked os 3 .any (Rows.pipeCutsSpec.pre6 enc Try.prog Try.f3 Rows.pipeCutsRow.domain false) (Rows.pipeCutsSpec.post enc Try.prog Try.f3 false true false false) := by
  refine returnsInHanded_of_change (C := Try.checked) Try.own started (by kernel_rfl) Try.func3
    (ChangeSpec.witness6 (enc := enc) (C := Try.checked) false ⟨#[], #[zPp, zDy, zDy], []⟩ 8 (by kernel_rfl) (by kernel_rfl) (by kernel_rfl) (by kernel_rfl)) ?_
  intro W base args ds gs before hval0 hW hcnd _
  have hval : ∀ (j : Nat) t v, Try.f3.params[j]? = some t → args[j]? = some v → Value.okWide Try.prog W .any base t v := hval0
  have hW' : DataW.Whole enc Try.prog Try.f3.params.toList Rows.pipeCutsSpec.vars false W args.toList ds gs before := hW
  obtain ⟨p, q, hA0, hV, rfl, hfz, hnd⟩ := hW
  have hA : DataW.TrodAll enc Try.prog W 0 (fun _ => true) true Try.f3.params.toList args.toList ds p := hA0
  rw [Try.params3] at hA hval
  obtain ⟨v0, v1, v2, d0, d1, d2, p0, p1, p2, rfl, rfl, rfl, h0, h1, h2⟩ := trodAll_three hA
  obtain ⟨rfl, rfl⟩ := trodVars_none hV
  obtain ⟨_, ⟨a, rfl, ta⟩, ra⟩ := Go.Abs.Rd.struct (μ := fun _ => none) r_pp Try.underlying25 (by rintro _ ⟨x, rfl, _⟩; exact ⟨_, rfl⟩) h0 (hval 0 25 v0 rfl rfl)
  obtain ⟨_, ⟨b, rfl, tb⟩, rb⟩ := Go.Abs.Rd.struct (μ := fun _ => none) r_dy Try.underlying28 (by rintro _ ⟨x, rfl, _⟩; exact ⟨_, rfl⟩) h1 (hval 1 28 v1 rfl rfl)
  obtain ⟨_, ⟨c, rfl, tc⟩, rc⟩ := Go.Abs.Rd.struct (μ := fun _ => none) r_dy Try.underlying28 (by rintro _ ⟨x, rfl, _⟩; exact ⟨_, rfl⟩) h2 (hval 2 28 v2 rfl rfl)
  refine (Go.Abs.law_calls seat (g := 1) (fid := 3) (by kernel_rfl) (Go.Abs.W.PipeCuts_cq a b c ta tb tc []) (vs := [v0, v1, v2]) (W := W) ?_).mono fun e W' he => ?_
  · exact Go.Abs.Rs.cons ra (Go.Abs.Rs.cons rb (Go.Abs.Rs.cons rc ⟨rfl, by simp⟩))
  · obtain ⟨rfl, hb⟩ := he
    refine ⟨_, rfl, Go.Abs.post_true (tb := 4) Try.laidOut rfl ?_ (by kernel_rfl) Try.underlying4 ⟨rfl, rfl, rfl⟩ hW' hb⟩
    rw [Try.params3]
    intro t ht
    simp at ht
    rcases ht with rfl | rfl <;> exact ⟨by kernel_rfl, of_decide_eq_true (by kernel_rfl)⟩

theorem pipeCuts_holds : Rows.PipeCutsSaid :=
  OpenClaim.holds_of_wide 3 Try.f3 rfl rfl rfl rfl rfl rfl rfl ⟨rfl, rfl, rfl, rfl, rfl⟩ rfl rfl rfl rfl rfl (by kernel_rfl) Try.func3 (by kernel_rfl)
    (of_decide_eq_true (by kernel_rfl)) (by unfold Func.isWrapper; first | (rw [if_pos (by decide +kernel)]; kernel_rfl) | (rw [if_neg (by decide +kernel)]; exact ⟨rfl, rfl⟩))
    (fun os started H enc _ => pipeCuts_lifted os started H enc)

end Go.Proofs.Yteghcekbgfhieaa
