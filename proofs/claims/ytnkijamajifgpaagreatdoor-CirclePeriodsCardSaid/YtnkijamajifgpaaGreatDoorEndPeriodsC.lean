/- 'flowpipelaw10.CirclePeriods' returns true for every input: each of its calls returns, and its arguments read as they did. -/
import Derived.Test.YtnkijamajifgpaaGreatDoorG0
import Derived.Test.YtnkijamajifgpaaGreatDoorVc
namespace Go.Proofs.YtnkijamajifgpaaGreatDoor
open Go.ChangeShapes Go.WideShapes Go.ChangeAt Go.RowKit

theorem r_i8 {H : Type} {enc : TypeId × Value → H} {w : World} : Go.Abs.Rd enc Tryz.prog w Go.Abs.tab.gid 54 (fun v => ∃ n, v = .int .i8 n ∧ IntKind.i8.min ≤ n ∧ n ≤ IntKind.i8.max) := Go.Abs.qv8 Tryz.underlying54
theorem r_u8 {H : Type} {enc : TypeId × Value → H} {w : World} : Go.Abs.Rd enc Tryz.prog w Go.Abs.tab.gid 5 (fun v => ∃ n, v = .int .u8 n ∧ IntKind.u8.min ≤ n ∧ n ≤ IntKind.u8.max) := Go.Abs.qv8 Tryz.underlying5
set_option maxRecDepth 100000 in
theorem circlePeriods_contract (H : Type) (enc : TypeId × Value → H) (W : World) (base : Nat) (args : Array Value) (ds gs : List (DataW H)) (before : List MemPlace)
   (hval : ∀ (j : Nat) t v, Tryz.f10.params[j]? = some t → args[j]? = some v → Value.okWide Tryz.prog W .any base t v)
   (hW : DataW.Whole enc Tryz.prog Tryz.f10.params.toList Rows.circlePeriodsSpec.vars false W args.toList ds gs before) (hL : laidMetH Tryz.prog Rows.circlePeriodsRow.laid W) :
   Calls Tryz.prog 10 args W fun e W' => ∃ v, e = .returned v ∧ Rows.circlePeriodsSpec.post enc Tryz.prog Tryz.f10 false true false false W args v W' := by
 have hW' := hW
 obtain ⟨p, q, hA0, hV, rfl, hfz, hnd⟩ := hW
 have hA : DataW.TrodAll enc Tryz.prog W 0 (fun _ => true) true Tryz.f10.params.toList args.toList ds p := hA0
 rw [Tryz.params10] at hA hval
 obtain ⟨v0, v1, v2, d0, d1, d2, p0, p1, p2, rfl, rfl, rfl, h0, h1, h2⟩ := trodAll_three hA
 obtain ⟨rfl, rfl⟩ := trodVars_none hV
 obtain ⟨_, ⟨a0, rfl, t0⟩, r0⟩ := Go.Abs.Rd.struct (μ := fun _ => none) r_dy Tryz.underlying25 (by rintro _ ⟨x, rfl, _⟩; exact ⟨_, rfl⟩) h0 (hval 0 25 v0 rfl rfl)
 obtain ⟨_, ⟨a1, rfl, t1⟩, r1⟩ := Go.Abs.Rd.cell (μ := fun _ => none) r_i8 (by rintro _ ⟨x, rfl, _⟩; rfl) h1 (Go.Abs.qys Tryz.underlying54 (hval 1 54 v1 rfl rfl))
 obtain ⟨_, ⟨a2, rfl, t2⟩, r2⟩ := Go.Abs.Rd.cell (μ := fun _ => none) r_u8 (by rintro _ ⟨x, rfl, _⟩; rfl) h2 (Go.Abs.qys Tryz.underlying5 (hval 2 5 v2 rfl rfl))
 refine (Go.Abs.qwt seat (g := 459) (fid := 10) (by kernel_rfl) (Go.Abs.W.qwh a0 a1 a2 t0.li t1 t2 []) (vs := [v0, v1, v2]) (W := W) ?_ (tabs hL)).mono fun e W' he => ?_
 · exact Go.Abs.Rs.cons r0 (Go.Abs.Rs.cons r1 (Go.Abs.Rs.cons r2 ⟨rfl, by simp⟩))
 · obtain ⟨rfl, hb⟩ := he
   refine ⟨_, rfl, Go.Abs.qwf (tb := 4) laidOut rfl ?_ (by kernel_rfl) Tryz.underlying4 ⟨rfl, rfl, rfl⟩ hW' hb⟩
   rw [Tryz.params10]
   intro t ht
   simp at ht
   rcases ht with rfl | rfl | rfl <;> exact ⟨by kernel_rfl, of_decide_eq_true (by kernel_rfl)⟩

theorem circlePeriods_met (os : Os) : laidMet Tryz.prog Rows.circlePeriodsRow.laid ((laidWorld os).forCall (fun _ _ => 0) ⟨#[], #[zDy, .int .i8 0, .int .u8 0], []⟩).memory :=
 laidMet_of_run' 8 (by kernel_rfl) (by kernel_rfl)
theorem circlePeriods_reads (os : Os) {H : Type} (enc : TypeId × Value → H) :
   ∃ places, DataW.whole enc Tryz.prog ((laidWorld os).forCall (fun _ _ => 0) ⟨#[], #[zDy, .int .i8 0, .int .u8 0], []⟩).memory Tryz.f10.params.toList Rows.circlePeriodsSpec.vars false #[zDy, .int .i8 0, .int .u8 0].toList 8 = some ([dDy, .lit (.int .i8 0), .lit (.int .u8 0)], [], places) :=
 ⟨[], by kernel_rfl⟩

set_option maxRecDepth 100000 in
theorem circlePeriods_lifted (os : Os) (started : os.Started) (H : Type) (enc : TypeId × Value → H) (F : Stop.Interp) :
   ReturnsInHanded {} Tryz.checked os 10 .any ((OpenSpec.ofChange Rows.circlePeriodsSpec).preRow enc Tryz.prog Tryz.f10 Rows.circlePeriodsRow.domain false Rows.circlePeriodsRow.laid) (((OpenSpec.ofChange Rows.circlePeriodsSpec).at F).post enc Tryz.prog Tryz.f10 false true false false) := by
 obtain ⟨places, hx⟩ := circlePeriods_reads os enc
 refine returnsInHanded_of_row (C := Tryz.checked) (s := OpenSpec.ofChange Rows.circlePeriodsSpec) own started (by kernel_rfl) Tryz.func10
   (witness_row_at (enc := enc) (C := Tryz.checked) false (laidWorld os) #[zDy, .int .i8 0, .int .u8 0] rfl (by kernel_rfl) (by kernel_rfl) (by kernel_rfl)
     (OpenSpec.preRow_of_cond 8 hx (by kernel_rfl) (fun k hk => by cases hk) (by kernel_rfl) (circlePeriods_met os))) ?_
 intro W base args ds gs before hval hW _ _ _ hL _ _
 exact circlePeriods_contract H enc W base args ds gs before hval hW hL

theorem circlePeriods_said : Rows.CirclePeriodsSaid :=
 OpenClaim.holds_of_cond 10 Tryz.f10 rfl rfl rfl rfl rfl rfl rfl ⟨rfl, rfl, rfl, rfl, rfl⟩ rfl rfl rfl rfl rfl (by kernel_rfl) Tryz.func10 (by kernel_rfl)
   (of_decide_eq_true (by kernel_rfl)) (by unfold Func.isWrapper; first | (rw [if_pos (by decide +kernel)]; kernel_rfl) | (rw [if_neg (by decide +kernel)]; exact ⟨rfl, rfl⟩))
   (fun os started H enc _ F => by rw [OpenClaim.pre_eq_preRow]; exact circlePeriods_lifted os started H enc F)

set_option maxRecDepth 100000 in
theorem circlePeriods_plain (f : FuncId) (fn : Func) (hf : Tryz.pinned.checked.prog.funcNamed "flowpipe/flowpipelaw10.CirclePeriods" = some f) (hfn : Tryz.pinned.checked.prog.funcs[f]? = some fn) :
   false = Tryz.pinned.checked.prog.looks [] ∧ ∀ (j : Nat) t, fn.params[j]? = some t → Tryz.pinned.checked.prog.wantsStandIn t = false := by
 obtain rfl : f = 10 := Option.some.inj ((show Tryz.prog.funcNamed "flowpipe/flowpipelaw10.CirclePeriods" = some 10 by kernel_rfl).symm.trans hf) |>.symm
 obtain rfl : fn = Tryz.f10 := (Option.some.inj (Tryz.func10.symm.trans hfn)).symm
 refine ⟨by kernel_rfl, fun j t ht => ?_⟩
 rw [Tryz.params10] at ht
 have := Array.mem_of_getElem? ht
 simp at this
 rcases this with rfl | rfl | rfl
 all_goals first | exact (show Tryz.prog.wantsStandIn 5 = false by kernel_rfl) | exact (show Tryz.prog.wantsStandIn 25 = false by kernel_rfl) | exact (show Tryz.prog.wantsStandIn 54 = false by kernel_rfl)

theorem circlePeriods_holds : Rows.CirclePeriodsCardSaid :=
 Claim7.holds_tied_plain_at .later [] _ _ _ _ circlePeriods_said (fun _ h => by cases h) (by kernel_rfl) (fun _ h => by cases h) circlePeriods_row_tie rfl ⟨rfl, rfl⟩ (by kernel_rfl) rfl circlePeriods_plain (by kernel_rfl)

end Go.Proofs.YtnkijamajifgpaaGreatDoor
