/- 'flowpipelaw05.IntervalMakes' returns true for every input: each of its calls returns, and its arguments read as they did. -/
import Derived.Test.YtmhloagengcelaaGreatDoorG0
import Derived.Test.YtmhloagengcelaaGreatDoorHm
namespace Go.Proofs.YtmhloagengcelaaGreatDoor
open Go.ChangeShapes Go.WideShapes Go.ChangeAt Go.RowKit

set_option maxRecDepth 100000 in
theorem intervalMakes_contract (H : Type) (enc : TypeId × Value → H) (W : World) (base : Nat) (args : Array Value) (ds gs : List (DataW H)) (before : List MemPlace)
    (hval : ∀ (j : Nat) t v, Tryz.f5.params[j]? = some t → args[j]? = some v → Value.okWide Tryz.prog W .any base t v)
    (hW : DataW.Whole enc Tryz.prog Tryz.f5.params.toList Rows.intervalMakesSpec.vars false W args.toList ds gs before) (hL : laidMetH Tryz.prog Rows.intervalMakesRow.laid W) :
    Calls Tryz.prog 5 args W fun e W' => ∃ v, e = .returned v ∧ Rows.intervalMakesSpec.post enc Tryz.prog Tryz.f5 false true false false W args v W' := by
  have hW' := hW
  obtain ⟨p, q, hA0, hV, rfl, hfz, hnd⟩ := hW
  have hA : DataW.TrodAll enc Tryz.prog W 0 (fun _ => true) true Tryz.f5.params.toList args.toList ds p := hA0
  rw [Tryz.params5] at hA hval
  obtain ⟨v0, vs0, d0, ds0, p0, q0, ha0, hd0, hp0, h0, t0'⟩ := trodAll_cons hA
  obtain ⟨he1, he2, he3⟩ := trodAll_nil t0'
  obtain rfl : args = #[v0] := by cases args; simp_all
  clear hA0
  subst he1 he2 he3
  subst hd0 hp0
  obtain ⟨rfl, rfl⟩ := trodVars_none hV
  obtain ⟨_, ⟨a0, rfl, t0⟩, r0⟩ := Go.Abs.Rd.struct (μ := fun _ => none) r_iv Tryz.underlying26 (by rintro _ ⟨x, rfl, _⟩; exact ⟨_, rfl⟩) h0 (hval 0 26 v0 rfl rfl)
  refine (Go.Abs.law_calls seat (g := 123) (fid := 5) (by kernel_rfl) (Go.Abs.W.makes_cq a0 ⟨t0.lo.li, t0.hi.li⟩ []) (vs := [v0]) (W := W) ?_ (tabs hL)).mono fun e W' he => ?_
  · exact Go.Abs.Rs.cons r0 ⟨rfl, by simp⟩
  · obtain ⟨rfl, hb⟩ := he
    refine ⟨_, rfl, Go.Abs.post_true (tb := 4) laidOut rfl ?_ (by kernel_rfl) Tryz.underlying4 ⟨rfl, rfl, rfl⟩ hW' hb⟩
    rw [Tryz.params5]
    intro t ht
    simp at ht
    subst ht <;> exact ⟨by kernel_rfl, of_decide_eq_true (by kernel_rfl)⟩

theorem intervalMakes_met (os : Os) : laidMet Tryz.prog Rows.intervalMakesRow.laid ((laidWorld os).forCall (fun _ _ => 0) ⟨#[], #[zIvV], []⟩).memory :=
  laidMet_of_run' 8 (by kernel_rfl) (by kernel_rfl)
theorem intervalMakes_reads (os : Os) {H : Type} (enc : TypeId × Value → H) :
    ∃ places, DataW.whole enc Tryz.prog ((laidWorld os).forCall (fun _ _ => 0) ⟨#[], #[zIvV], []⟩).memory Tryz.f5.params.toList Rows.intervalMakesSpec.vars false #[zIvV].toList 8 = some ([dIv], [], places) :=
  ⟨[], by kernel_rfl⟩

set_option maxRecDepth 100000 in
theorem intervalMakes_lifted (os : Os) (started : os.Started) (H : Type) (enc : TypeId × Value → H) (F : Stop.Interp) :
    ReturnsInHanded {} Tryz.checked os 5 .any ((OpenSpec.ofChange Rows.intervalMakesSpec).preRow enc Tryz.prog Tryz.f5 Rows.intervalMakesRow.domain false Rows.intervalMakesRow.laid) (((OpenSpec.ofChange Rows.intervalMakesSpec).at F).post enc Tryz.prog Tryz.f5 false true false false) := by
  obtain ⟨places, hx⟩ := intervalMakes_reads os enc
  refine returnsInHanded_of_row (C := Tryz.checked) (s := OpenSpec.ofChange Rows.intervalMakesSpec) own started (by kernel_rfl) Tryz.func5
    (witness_row_at (enc := enc) (C := Tryz.checked) false (laidWorld os) #[zIvV] rfl (by kernel_rfl) (by kernel_rfl) (by kernel_rfl)
      (OpenSpec.preRow_of_cond 8 hx (by kernel_rfl) (fun k hk => by cases hk) (by kernel_rfl) (intervalMakes_met os))) ?_
  intro W base args ds gs before hval hW _ _ _ hL _ _
  exact intervalMakes_contract H enc W base args ds gs before hval hW hL

theorem intervalMakes_said : Rows.IntervalMakesSaid :=
  OpenClaim.holds_of_cond 5 Tryz.f5 rfl rfl rfl rfl rfl rfl rfl ⟨rfl, rfl, rfl, rfl, rfl⟩ rfl rfl rfl rfl rfl (by kernel_rfl) Tryz.func5 (by kernel_rfl)
    (of_decide_eq_true (by kernel_rfl)) (by unfold Func.isWrapper; first | (rw [if_pos (by decide +kernel)]; kernel_rfl) | (rw [if_neg (by decide +kernel)]; exact ⟨rfl, rfl⟩))
    (fun os started H enc _ F => by rw [OpenClaim.pre_eq_preRow]; exact intervalMakes_lifted os started H enc F)

set_option maxRecDepth 100000 in
theorem intervalMakes_plain (f : FuncId) (fn : Func) (hf : Tryz.pinned.checked.prog.funcNamed "flowpipe/flowpipelaw05.IntervalMakes" = some f) (hfn : Tryz.pinned.checked.prog.funcs[f]? = some fn) :
    false = Tryz.pinned.checked.prog.looks [] ∧ ∀ (j : Nat) t, fn.params[j]? = some t → Tryz.pinned.checked.prog.wantsStandIn t = false := by
  obtain rfl : f = 5 := Option.some.inj ((show Tryz.prog.funcNamed "flowpipe/flowpipelaw05.IntervalMakes" = some 5 by kernel_rfl).symm.trans hf) |>.symm
  obtain rfl : fn = Tryz.f5 := (Option.some.inj (Tryz.func5.symm.trans hfn)).symm
  refine ⟨by kernel_rfl, fun j t ht => ?_⟩
  rw [Tryz.params5] at ht
  have := Array.mem_of_getElem? ht
  simp at this
  subst this
  all_goals first | exact (show Tryz.prog.wantsStandIn 26 = false by kernel_rfl)

theorem intervalMakes_holds : Rows.IntervalMakesCardSaid :=
  Claim7.holds_tied_plain_at .later [] _ _ _ _ intervalMakes_said (fun _ h => by cases h) (by kernel_rfl) (fun _ h => by cases h) intervalMakes_row_tie rfl ⟨rfl, rfl⟩ (by kernel_rfl) rfl intervalMakes_plain (by kernel_rfl)

end Go.Proofs.YtmhloagengcelaaGreatDoor
