/- 'flowpipelaw05.IntervalSets' returns true for every input: each of its calls returns, and its arguments read as they did. -/
import Derived.Test.YtmhloagengcelaaGreatDoorG0
import Derived.Test.YtmhloagengcelaaGreatDoorHt
namespace Go.Proofs.YtmhloagengcelaaGreatDoor
open Go.ChangeShapes Go.WideShapes Go.ChangeAt Go.RowKit

set_option maxRecDepth 100000 in
theorem intervalSets_contract (H : Type) (enc : TypeId × Value → H) (W : World) (base : Nat) (args : Array Value) (ds gs : List (DataW H)) (before : List MemPlace)
    (hval : ∀ (j : Nat) t v, Tryz.f8.params[j]? = some t → args[j]? = some v → Value.okWide Tryz.prog W .any base t v)
    (hW : DataW.Whole enc Tryz.prog Tryz.f8.params.toList Rows.intervalSetsSpec.vars false W args.toList ds gs before) (hL : laidMetH Tryz.prog Rows.intervalSetsRow.laid W) :
    Calls Tryz.prog 8 args W fun e W' => ∃ v, e = .returned v ∧ Rows.intervalSetsSpec.post enc Tryz.prog Tryz.f8 false true false false W args v W' := by
  have hW' := hW
  obtain ⟨p, q, hA0, hV, rfl, hfz, hnd⟩ := hW
  have hA : DataW.TrodAll enc Tryz.prog W 0 (fun _ => true) true Tryz.f8.params.toList args.toList ds p := hA0
  rw [Tryz.params8] at hA hval
  obtain ⟨v0, v1, v2, d0, d1, d2, p0, p1, p2, rfl, rfl, rfl, h0, h1, h2⟩ := trodAll_three hA
  obtain ⟨rfl, rfl⟩ := trodVars_none hV
  obtain ⟨_, ⟨a0, rfl, t0⟩, r0⟩ := Go.Abs.Rd.struct (μ := fun _ => none) r_iv Tryz.underlying26 (by rintro _ ⟨x, rfl, _⟩; exact ⟨_, rfl⟩) h0 (hval 0 26 v0 rfl rfl)
  obtain ⟨_, ⟨a1, rfl, t1⟩, r1⟩ := Go.Abs.Rd.struct (μ := fun _ => none) r_iv Tryz.underlying26 (by rintro _ ⟨x, rfl, _⟩; exact ⟨_, rfl⟩) h1 (hval 1 26 v1 rfl rfl)
  obtain ⟨_, ⟨a2, rfl, t2⟩, r2⟩ := Go.Abs.Rd.struct (μ := fun _ => none) r_dy Tryz.underlying24 (by rintro _ ⟨x, rfl, _⟩; exact ⟨_, rfl⟩) h2 (hval 2 24 v2 rfl rfl)
  refine (Go.Abs.law_calls seat (g := 126) (fid := 8) (by kernel_rfl) (Go.Abs.W.sets_cq a0 a1 a2 ⟨t0.lo.li, t0.hi.li⟩ ⟨t1.lo.li, t1.hi.li⟩ t2.li []) (vs := [v0, v1, v2]) (W := W) ?_ (tabs hL)).mono fun e W' he => ?_
  · exact Go.Abs.Rs.cons r0 (Go.Abs.Rs.cons r1 (Go.Abs.Rs.cons r2 ⟨rfl, by simp⟩))
  · obtain ⟨rfl, hb⟩ := he
    refine ⟨_, rfl, Go.Abs.post_true (tb := 4) laidOut rfl ?_ (by kernel_rfl) Tryz.underlying4 ⟨rfl, rfl, rfl⟩ hW' hb⟩
    rw [Tryz.params8]
    intro t ht
    simp at ht
    rcases ht with rfl | rfl <;> exact ⟨by kernel_rfl, of_decide_eq_true (by kernel_rfl)⟩

theorem intervalSets_met (os : Os) : laidMet Tryz.prog Rows.intervalSetsRow.laid ((laidWorld os).forCall (fun _ _ => 0) ⟨#[], #[zIvV, zIvV, zDy], []⟩).memory :=
  laidMet_of_run' 8 (by kernel_rfl) (by kernel_rfl)
theorem intervalSets_reads (os : Os) {H : Type} (enc : TypeId × Value → H) :
    ∃ places, DataW.whole enc Tryz.prog ((laidWorld os).forCall (fun _ _ => 0) ⟨#[], #[zIvV, zIvV, zDy], []⟩).memory Tryz.f8.params.toList Rows.intervalSetsSpec.vars false #[zIvV, zIvV, zDy].toList 8 = some ([dIv, dIv, dDy], [], places) :=
  ⟨[], by kernel_rfl⟩

set_option maxRecDepth 100000 in
theorem intervalSets_lifted (os : Os) (started : os.Started) (H : Type) (enc : TypeId × Value → H) (F : Stop.Interp) :
    ReturnsInHanded {} Tryz.checked os 8 .any ((OpenSpec.ofChange Rows.intervalSetsSpec).preRow enc Tryz.prog Tryz.f8 Rows.intervalSetsRow.domain false Rows.intervalSetsRow.laid) (((OpenSpec.ofChange Rows.intervalSetsSpec).at F).post enc Tryz.prog Tryz.f8 false true false false) := by
  obtain ⟨places, hx⟩ := intervalSets_reads os enc
  refine returnsInHanded_of_row (C := Tryz.checked) (s := OpenSpec.ofChange Rows.intervalSetsSpec) own started (by kernel_rfl) Tryz.func8
    (witness_row_at (enc := enc) (C := Tryz.checked) false (laidWorld os) #[zIvV, zIvV, zDy] rfl (by kernel_rfl) (by kernel_rfl) (by kernel_rfl)
      (OpenSpec.preRow_of_cond 8 hx (by kernel_rfl) (fun k hk => by cases hk) (by kernel_rfl) (intervalSets_met os))) ?_
  intro W base args ds gs before hval hW _ _ _ hL _ _
  exact intervalSets_contract H enc W base args ds gs before hval hW hL

theorem intervalSets_said : Rows.IntervalSetsSaid :=
  OpenClaim.holds_of_cond 8 Tryz.f8 rfl rfl rfl rfl rfl rfl rfl ⟨rfl, rfl, rfl, rfl, rfl⟩ rfl rfl rfl rfl rfl (by kernel_rfl) Tryz.func8 (by kernel_rfl)
    (of_decide_eq_true (by kernel_rfl)) (by unfold Func.isWrapper; first | (rw [if_pos (by decide +kernel)]; kernel_rfl) | (rw [if_neg (by decide +kernel)]; exact ⟨rfl, rfl⟩))
    (fun os started H enc _ F => by rw [OpenClaim.pre_eq_preRow]; exact intervalSets_lifted os started H enc F)

set_option maxRecDepth 100000 in
theorem intervalSets_plain (f : FuncId) (fn : Func) (hf : Tryz.pinned.checked.prog.funcNamed "flowpipe/flowpipelaw05.IntervalSets" = some f) (hfn : Tryz.pinned.checked.prog.funcs[f]? = some fn) :
    false = Tryz.pinned.checked.prog.looks [] ∧ ∀ (j : Nat) t, fn.params[j]? = some t → Tryz.pinned.checked.prog.wantsStandIn t = false := by
  obtain rfl : f = 8 := Option.some.inj ((show Tryz.prog.funcNamed "flowpipe/flowpipelaw05.IntervalSets" = some 8 by kernel_rfl).symm.trans hf) |>.symm
  obtain rfl : fn = Tryz.f8 := (Option.some.inj (Tryz.func8.symm.trans hfn)).symm
  refine ⟨by kernel_rfl, fun j t ht => ?_⟩
  rw [Tryz.params8] at ht
  have := Array.mem_of_getElem? ht
  simp at this
  rcases this with rfl | rfl
  all_goals first | exact (show Tryz.prog.wantsStandIn 24 = false by kernel_rfl) | exact (show Tryz.prog.wantsStandIn 26 = false by kernel_rfl)

theorem intervalSets_holds : Rows.IntervalSetsCardSaid :=
  Claim7.holds_tied_plain_at .later [] _ _ _ _ intervalSets_said (fun _ h => by cases h) (by kernel_rfl) (fun _ h => by cases h) intervalSets_row_tie rfl ⟨rfl, rfl⟩ (by kernel_rfl) rfl intervalSets_plain (by kernel_rfl)

end Go.Proofs.YtmhloagengcelaaGreatDoor
