/- 'flowpipelaw10.CircleRanges' returns true for every input: each of its calls returns, and its arguments read as they did. -/
import Derived.Test.YtnkijamajifgpaaGreatDoorG0
import Derived.Test.YtnkijamajifgpaaGreatDoorWs
namespace Go.Proofs.YtnkijamajifgpaaGreatDoor
open Go.ChangeShapes Go.WideShapes Go.ChangeAt Go.RowKit

theorem r_u8 {H : Type} {enc : TypeId × Value → H} {w : World} : Go.Abs.Rd enc Tryz.prog w Go.Abs.tab.gid 5 (fun v => ∃ n, v = .int .u8 n ∧ IntKind.u8.min ≤ n ∧ n ≤ IntKind.u8.max) := Go.Abs.qadu Tryz.underlying5
set_option maxRecDepth 100000 in
theorem circleRanges_contract (H : Type) (enc : TypeId × Value → H) (W : World) (base : Nat) (args : Array Value) (ds gs : List (DataW H)) (before : List MemPlace)
    (hval : ∀ (j : Nat) t v, Tryz.f6.params[j]? = some t → args[j]? = some v → Value.okWide Tryz.prog W .any base t v)
    (hW : DataW.Whole enc Tryz.prog Tryz.f6.params.toList Rows.circleRangesSpec.vars false W args.toList ds gs before) (hL : laidMetH Tryz.prog Rows.circleRangesRow.laid W) :
    Calls Tryz.prog 6 args W fun e W' => ∃ v, e = .returned v ∧ Rows.circleRangesSpec.post enc Tryz.prog Tryz.f6 false true false false W args v W' := by
  have hW' := hW
  obtain ⟨p, q, hA0, hV, rfl, hfz, hnd⟩ := hW
  have hA : DataW.TrodAll enc Tryz.prog W 0 (fun _ => true) true Tryz.f6.params.toList args.toList ds p := hA0
  rw [Tryz.params6] at hA hval
  obtain ⟨v0, v1, d0, d1, p0, p1, rfl, rfl, rfl, h0, h1⟩ := trodAll_two hA
  obtain ⟨rfl, rfl⟩ := trodVars_none hV
  obtain ⟨_, ⟨a0, rfl, t0⟩, r0⟩ := Go.Abs.Rd.struct (μ := fun _ => none) r_iv Tryz.underlying27 (by rintro _ ⟨x, rfl, _⟩; exact ⟨_, rfl⟩) h0 (hval 0 27 v0 rfl rfl)
  obtain ⟨_, ⟨a1, rfl, t1⟩, r1⟩ := Go.Abs.Rd.cell (μ := fun _ => none) r_u8 (by rintro _ ⟨x, rfl, _⟩; rfl) h1 (Go.Abs.qand Tryz.underlying5 (hval 1 5 v1 rfl rfl))
  refine (Go.Abs.qaey seat (g := 455) (fid := 6) (by kernel_rfl) (Go.Abs.W.q6c a0 a1 ⟨t0.lo.li, t0.hi.li⟩ t1 []) (vs := [v0, v1]) (W := W) ?_ (tabs hL)).mono fun e W' he => ?_
  · exact Go.Abs.Rs.cons r0 (Go.Abs.Rs.cons r1 ⟨rfl, by simp⟩)
  · obtain ⟨rfl, hb⟩ := he
    refine ⟨_, rfl, Go.Abs.qad7 (tb := 4) laidOut rfl ?_ (by kernel_rfl) Tryz.underlying4 ⟨rfl, rfl, rfl⟩ hW' hb⟩
    rw [Tryz.params6]
    intro t ht
    simp at ht
    rcases ht with rfl | rfl <;> exact ⟨by kernel_rfl, of_decide_eq_true (by kernel_rfl)⟩

theorem circleRanges_met (os : Os) : laidMet Tryz.prog Rows.circleRangesRow.laid ((laidWorld os).forCall (fun _ _ => 0) ⟨#[], #[zIvV, .int .u8 0], []⟩).memory :=
  laidMet_of_run' 8 (by kernel_rfl) (by kernel_rfl)
theorem circleRanges_reads (os : Os) {H : Type} (enc : TypeId × Value → H) :
    ∃ places, DataW.whole enc Tryz.prog ((laidWorld os).forCall (fun _ _ => 0) ⟨#[], #[zIvV, .int .u8 0], []⟩).memory Tryz.f6.params.toList Rows.circleRangesSpec.vars false #[zIvV, .int .u8 0].toList 8 = some ([dIv, .lit (.int .u8 0)], [], places) :=
  ⟨[], by kernel_rfl⟩

set_option maxRecDepth 100000 in
theorem circleRanges_lifted (os : Os) (started : os.Started) (H : Type) (enc : TypeId × Value → H) (F : Stop.Interp) :
    ReturnsInHanded {} Tryz.checked os 6 .any ((OpenSpec.ofChange Rows.circleRangesSpec).preRow enc Tryz.prog Tryz.f6 Rows.circleRangesRow.domain false Rows.circleRangesRow.laid) (((OpenSpec.ofChange Rows.circleRangesSpec).at F).post enc Tryz.prog Tryz.f6 false true false false) := by
  obtain ⟨places, hx⟩ := circleRanges_reads os enc
  refine returnsInHanded_of_row (C := Tryz.checked) (s := OpenSpec.ofChange Rows.circleRangesSpec) own started (by kernel_rfl) Tryz.func6
    (witness_row_at (enc := enc) (C := Tryz.checked) false (laidWorld os) #[zIvV, .int .u8 0] rfl (by kernel_rfl) (by kernel_rfl) (by kernel_rfl)
      (OpenSpec.preRow_of_cond 8 hx (by kernel_rfl) (fun k hk => by cases hk) (by kernel_rfl) (circleRanges_met os))) ?_
  intro W base args ds gs before hval hW _ _ _ hL _ _
  exact circleRanges_contract H enc W base args ds gs before hval hW hL

theorem circleRanges_said : Rows.CircleRangesSaid :=
  OpenClaim.holds_of_cond 6 Tryz.f6 rfl rfl rfl rfl rfl rfl rfl ⟨rfl, rfl, rfl, rfl, rfl⟩ rfl rfl rfl rfl rfl (by kernel_rfl) Tryz.func6 (by kernel_rfl)
    (of_decide_eq_true (by kernel_rfl)) (by unfold Func.isWrapper; first | (rw [if_pos (by decide +kernel)]; kernel_rfl) | (rw [if_neg (by decide +kernel)]; exact ⟨rfl, rfl⟩))
    (fun os started H enc _ F => by rw [OpenClaim.pre_eq_preRow]; exact circleRanges_lifted os started H enc F)

set_option maxRecDepth 100000 in
theorem circleRanges_plain (f : FuncId) (fn : Func) (hf : Tryz.pinned.checked.prog.funcNamed "flowpipe/flowpipelaw10.CircleRanges" = some f) (hfn : Tryz.pinned.checked.prog.funcs[f]? = some fn) :
    false = Tryz.pinned.checked.prog.looks [] ∧ ∀ (j : Nat) t, fn.params[j]? = some t → Tryz.pinned.checked.prog.wantsStandIn t = false := by
  obtain rfl : f = 6 := Option.some.inj ((show Tryz.prog.funcNamed "flowpipe/flowpipelaw10.CircleRanges" = some 6 by kernel_rfl).symm.trans hf) |>.symm
  obtain rfl : fn = Tryz.f6 := (Option.some.inj (Tryz.func6.symm.trans hfn)).symm
  refine ⟨by kernel_rfl, fun j t ht => ?_⟩
  rw [Tryz.params6] at ht
  have := Array.mem_of_getElem? ht
  simp at this
  rcases this with rfl | rfl
  all_goals first | exact (show Tryz.prog.wantsStandIn 5 = false by kernel_rfl) | exact (show Tryz.prog.wantsStandIn 27 = false by kernel_rfl)

theorem circleRanges_holds : Rows.CircleRangesCardSaid :=
  Claim7.holds_tied_plain_at .later [] _ _ _ _ circleRanges_said (fun _ h => by cases h) (by kernel_rfl) (fun _ h => by cases h) circleRanges_row_tie rfl ⟨rfl, rfl⟩ (by kernel_rfl) rfl circleRanges_plain (by kernel_rfl)

end Go.Proofs.YtnkijamajifgpaaGreatDoor
