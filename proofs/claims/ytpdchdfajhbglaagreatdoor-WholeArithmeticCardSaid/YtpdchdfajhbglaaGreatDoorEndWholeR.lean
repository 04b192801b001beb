/- 'flowpipetop.WholeArithmetic' returns true for every input: each of its calls returns, and its arguments read as they did. -/
import Derived.Test.YtpdchdfajhbglaaGreatDoorG0
import Derived.Test.YtpdchdfajhbglaaGreatDoorTp
namespace Go.Proofs.YtpdchdfajhbglaaGreatDoor
open Go.ChangeShapes Go.WideShapes Go.ChangeAt Go.RowKit

set_option maxRecDepth 100000 in
theorem wholeArithmetic_contract (H : Type) (enc : TypeId × Value → H) (W : World) (base : Nat) (args : Array Value) (ds gs : List (DataW H)) (before : List MemPlace)
    (hval : ∀ (j : Nat) t v, Tryz.f6.params[j]? = some t → args[j]? = some v → Value.okWide Tryz.prog W .any base t v)
    (hW : DataW.Whole enc Tryz.prog Tryz.f6.params.toList Rows.wholeArithmeticSpec.vars false W args.toList ds gs before) (hL : laidMetH Tryz.prog Rows.wholeArithmeticRow.laid W) :
    Calls Tryz.prog 6 args W fun e W' => ∃ v, e = .returned v ∧ Rows.wholeArithmeticSpec.post enc Tryz.prog Tryz.f6 false true false false W args v W' := by
  have hW' := hW
  obtain ⟨p, q, hA0, hV, rfl, hfz, hnd⟩ := hW
  have hA : DataW.TrodAll enc Tryz.prog W 0 (fun _ => true) true Tryz.f6.params.toList args.toList ds p := hA0
  rw [Tryz.params6] at hA hval
  obtain ⟨v0, v1, v2, d0, d1, d2, p0, p1, p2, rfl, rfl, rfl, h0, h1, h2⟩ := trodAll_three hA
  obtain ⟨rfl, rfl⟩ := trodVars_none hV
  obtain ⟨_, ⟨a0, rfl, t0⟩, r0⟩ := Go.Abs.Rd.struct (μ := fun _ => none) r_iv Tryz.underlying34 (by rintro _ ⟨x, rfl, _⟩; exact ⟨_, rfl⟩) h0 (hval 0 34 v0 rfl rfl)
  obtain ⟨_, ⟨a1, rfl, t1⟩, r1⟩ := Go.Abs.Rd.struct (μ := fun _ => none) r_iv Tryz.underlying34 (by rintro _ ⟨x, rfl, _⟩; exact ⟨_, rfl⟩) h1 (hval 1 34 v1 rfl rfl)
  obtain ⟨_, ⟨a2, rfl, t2⟩, r2⟩ := Go.Abs.Rd.cell (μ := fun _ => none) r_int (by rintro _ ⟨x, rfl, _⟩; rfl) h2 (Go.Abs.qahd Tryz.underlying3 (hval 2 3 v2 rfl rfl))
  refine (Go.Abs.q92 seat (g := 517) (fid := 6) (by kernel_rfl) (Go.Abs.W.qyg a0 a1 a2 ⟨t0.lo.li, t0.hi.li⟩ ⟨t1.lo.li, t1.hi.li⟩ []) (vs := [v0, v1, v2]) (W := W) ?_ (tabs hL)).mono fun e W' he => ?_
  · exact Go.Abs.Rs.cons r0 (Go.Abs.Rs.cons r1 (Go.Abs.Rs.cons r2 ⟨rfl, by simp⟩))
  · obtain ⟨rfl, hb⟩ := he
    refine ⟨_, rfl, Go.Abs.q80 (tb := 4) laidOut rfl ?_ (by kernel_rfl) Tryz.underlying4 ⟨rfl, rfl, rfl⟩ hW' hb⟩
    rw [Tryz.params6]
    intro t ht
    simp at ht
    rcases ht with rfl | rfl <;> exact ⟨by kernel_rfl, of_decide_eq_true (by kernel_rfl)⟩

theorem wholeArithmetic_met (os : Os) : laidMet Tryz.prog Rows.wholeArithmeticRow.laid ((laidWorld os).forCall (fun _ _ => 0) ⟨#[], #[zIvV, zIvV, .int .i64 0], []⟩).memory :=
  laidMet_of_run' 8 (by kernel_rfl) (by kernel_rfl)
theorem wholeArithmetic_reads (os : Os) {H : Type} (enc : TypeId × Value → H) :
    ∃ places, DataW.whole enc Tryz.prog ((laidWorld os).forCall (fun _ _ => 0) ⟨#[], #[zIvV, zIvV, .int .i64 0], []⟩).memory Tryz.f6.params.toList Rows.wholeArithmeticSpec.vars false #[zIvV, zIvV, .int .i64 0].toList 8 = some ([dIv, dIv, .lit (.int .i64 0)], [], places) :=
  ⟨[], by kernel_rfl⟩

set_option maxRecDepth 100000 in
theorem wholeArithmetic_lifted (os : Os) (started : os.Started) (H : Type) (enc : TypeId × Value → H) (F : Stop.Interp) :
    ReturnsInHanded {} Tryz.checked os 6 .any ((OpenSpec.ofChange Rows.wholeArithmeticSpec).preRow enc Tryz.prog Tryz.f6 Rows.wholeArithmeticRow.domain false Rows.wholeArithmeticRow.laid) (((OpenSpec.ofChange Rows.wholeArithmeticSpec).at F).post enc Tryz.prog Tryz.f6 false true false false) := by
  obtain ⟨places, hx⟩ := wholeArithmetic_reads os enc
  refine returnsInHanded_of_row (C := Tryz.checked) (s := OpenSpec.ofChange Rows.wholeArithmeticSpec) own started (by kernel_rfl) Tryz.func6
    (witness_row_at (enc := enc) (C := Tryz.checked) false (laidWorld os) #[zIvV, zIvV, .int .i64 0] rfl (by kernel_rfl) (by kernel_rfl) (by kernel_rfl)
      (OpenSpec.preRow_of_cond 8 hx (by kernel_rfl) (fun k hk => by cases hk) (by kernel_rfl) (wholeArithmetic_met os))) ?_
  intro W base args ds gs before hval hW _ _ _ hL _ _
  exact wholeArithmetic_contract H enc W base args ds gs before hval hW hL

theorem wholeArithmetic_said : Rows.WholeArithmeticSaid :=
  OpenClaim.holds_of_cond 6 Tryz.f6 rfl rfl rfl rfl rfl rfl rfl ⟨rfl, rfl, rfl, rfl, rfl⟩ rfl rfl rfl rfl rfl (by kernel_rfl) Tryz.func6 (by kernel_rfl)
    (of_decide_eq_true (by kernel_rfl)) (by unfold Func.isWrapper; first | (rw [if_pos (by decide +kernel)]; kernel_rfl) | (rw [if_neg (by decide +kernel)]; exact ⟨rfl, rfl⟩))
    (fun os started H enc _ F => by rw [OpenClaim.pre_eq_preRow]; exact wholeArithmetic_lifted os started H enc F)

set_option maxRecDepth 100000 in
theorem wholeArithmetic_plain (f : FuncId) (fn : Func) (hf : Tryz.pinned.checked.prog.funcNamed "flowpipe/flowpipetop.WholeArithmetic" = some f) (hfn : Tryz.pinned.checked.prog.funcs[f]? = some fn) :
    false = Tryz.pinned.checked.prog.looks [] ∧ ∀ (j : Nat) t, fn.params[j]? = some t → Tryz.pinned.checked.prog.wantsStandIn t = false := by
  obtain rfl : f = 6 := Option.some.inj ((show Tryz.prog.funcNamed "flowpipe/flowpipetop.WholeArithmetic" = some 6 by kernel_rfl).symm.trans hf) |>.symm
  obtain rfl : fn = Tryz.f6 := (Option.some.inj (Tryz.func6.symm.trans hfn)).symm
  refine ⟨by kernel_rfl, fun j t ht => ?_⟩
  rw [Tryz.params6] at ht
  have := Array.mem_of_getElem? ht
  simp at this
  rcases this with rfl | rfl
  all_goals first | exact (show Tryz.prog.wantsStandIn 3 = false by kernel_rfl) | exact (show Tryz.prog.wantsStandIn 34 = false by kernel_rfl)

theorem wholeArithmetic_holds : Rows.WholeArithmeticCardSaid :=
  Claim7.holds_tied_plain_at .later [] _ _ _ _ wholeArithmetic_said (fun _ h => by cases h) (by kernel_rfl) (fun _ h => by cases h) wholeArithmetic_row_tie rfl ⟨rfl, rfl⟩ (by kernel_rfl) rfl wholeArithmetic_plain (by kernel_rfl)

end Go.Proofs.YtpdchdfajhbglaaGreatDoor
