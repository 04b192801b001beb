/- 'flowpipelaw10.CirclePoints' returns true for every input: each of its calls returns, and its arguments read as they did. -/
import Derived.Test.YtnkijamajifgpaaGreatDoorG0
import Derived.Test.YtnkijamajifgpaaGreatDoorWm
namespace Go.Proofs.YtnkijamajifgpaaGreatDoor
open Go.ChangeShapes Go.WideShapes Go.ChangeAt Go.RowKit

theorem r_u8 {H : Type} {enc : TypeId × Value → H} {w : World} : Go.Abs.Rd enc Tryz.prog w Go.Abs.tab.gid 5 (fun v => ∃ n, v = .int .u8 n ∧ IntKind.u8.min ≤ n ∧ n ≤ IntKind.u8.max) := Go.Abs.q91 Tryz.underlying5
set_option maxRecDepth 100000 in
theorem circlePoints_contract (H : Type) (enc : TypeId × Value → H) (W : World) (base : Nat) (args : Array Value) (ds gs : List (DataW H)) (before : List MemPlace)
   (hval : ∀ (j : Nat) t v, Tryz.f4.params[j]? = some t → args[j]? = some v → Value.okWide Tryz.prog W .any base t v)
   (hW : DataW.Whole enc Tryz.prog Tryz.f4.params.toList Rows.circlePointsSpec.vars false W args.toList ds gs before) (hL : laidMetH Tryz.prog Rows.circlePointsRow.laid W) :
   Calls Tryz.prog 4 args W fun e W' => ∃ v, e = .returned v ∧ Rows.circlePointsSpec.post enc Tryz.prog Tryz.f4 false true false false W args v W' := by
 have hW' := hW
 obtain ⟨p, q, hA0, hV, rfl, hfz, hnd⟩ := hW
 have hA : DataW.TrodAll enc Tryz.prog W 0 (fun _ => true) true Tryz.f4.params.toList args.toList ds p := hA0
 rw [Tryz.params4] at hA hval
 obtain ⟨v0, v1, d0, d1, p0, p1, rfl, rfl, rfl, h0, h1⟩ := trodAll_two hA
 obtain ⟨rfl, rfl⟩ := trodVars_none hV
 obtain ⟨_, ⟨a0, rfl, t0⟩, r0⟩ := Go.Abs.Rd.struct (μ := fun _ => none) r_dy Tryz.underlying25 (by rintro _ ⟨x, rfl, _⟩; exact ⟨_, rfl⟩) h0 (hval 0 25 v0 rfl rfl)
 obtain ⟨_, ⟨a1, rfl, t1⟩, r1⟩ := Go.Abs.Rd.cell (μ := fun _ => none) r_u8 (by rintro _ ⟨x, rfl, _⟩; rfl) h1 (Go.Abs.qait Tryz.underlying5 (hval 1 5 v1 rfl rfl))
 refine (Go.Abs.qaa7 seat (g := 453) (fid := 4) (by kernel_rfl) (Go.Abs.W.q3g a0 a1 t0.li t1 []) (vs := [v0, v1]) (W := W) ?_ (tabs hL)).mono fun e W' he => ?_
 · exact Go.Abs.Rs.cons r0 (Go.Abs.Rs.cons r1 ⟨rfl, by simp⟩)
 · obtain ⟨rfl, hb⟩ := he
   refine ⟨_, rfl, Go.Abs.qaah (tb := 4) laidOut rfl ?_ (by kernel_rfl) Tryz.underlying4 ⟨rfl, rfl, rfl⟩ hW' hb⟩
   rw [Tryz.params4]
   intro t ht
   simp at ht
   rcases ht with rfl | rfl <;> exact ⟨by kernel_rfl, of_decide_eq_true (by kernel_rfl)⟩

theorem circlePoints_met (os : Os) : laidMet Tryz.prog Rows.circlePointsRow.laid ((laidWorld os).forCall (fun _ _ => 0) ⟨#[], #[zDy, .int .u8 0], []⟩).memory :=
 laidMet_of_run' 8 (by kernel_rfl) (by kernel_rfl)
theorem circlePoints_reads (os : Os) {H : Type} (enc : TypeId × Value → H) :
   ∃ places, DataW.whole enc Tryz.prog ((laidWorld os).forCall (fun _ _ => 0) ⟨#[], #[zDy, .int .u8 0], []⟩).memory Tryz.f4.params.toList Rows.circlePointsSpec.vars false #[zDy, .int .u8 0].toList 8 = some ([dDy, .lit (.int .u8 0)], [], places) :=
 ⟨[], by kernel_rfl⟩

set_option maxRecDepth 100000 in
theorem circlePoints_lifted (os : Os) (started : os.Started) (H : Type) (enc : TypeId × Value → H) (F : Stop.Interp) :
   ReturnsInHanded {} Tryz.checked os 4 .any ((OpenSpec.ofChange Rows.circlePointsSpec).preRow enc Tryz.prog Tryz.f4 Rows.circlePointsRow.domain false Rows.circlePointsRow.laid) (((OpenSpec.ofChange Rows.circlePointsSpec).at F).post enc Tryz.prog Tryz.f4 false true false false) := by
 obtain ⟨places, hx⟩ := circlePoints_reads os enc
 refine returnsInHanded_of_row (C := Tryz.checked) (s := OpenSpec.ofChange Rows.circlePointsSpec) own started (by kernel_rfl) Tryz.func4
   (witness_row_at (enc := enc) (C := Tryz.checked) false (laidWorld os) #[zDy, .int .u8 0] rfl (by kernel_rfl) (by kernel_rfl) (by kernel_rfl)
     (OpenSpec.preRow_of_cond 8 hx (by kernel_rfl) (fun k hk => by cases hk) (by kernel_rfl) (circlePoints_met os))) ?_
 intro W base args ds gs before hval hW _ _ _ hL _ _
 exact circlePoints_contract H enc W base args ds gs before hval hW hL

theorem circlePoints_said : Rows.CirclePointsSaid :=
 OpenClaim.holds_of_cond 4 Tryz.f4 rfl rfl rfl rfl rfl rfl rfl ⟨rfl, rfl, rfl, rfl, rfl⟩ rfl rfl rfl rfl rfl (by kernel_rfl) Tryz.func4 (by kernel_rfl)
   (of_decide_eq_true (by kernel_rfl)) (by unfold Func.isWrapper; first | (rw [if_pos (by decide +kernel)]; kernel_rfl) | (rw [if_neg (by decide +kernel)]; exact ⟨rfl, rfl⟩))
   (fun os started H enc _ F => by rw [OpenClaim.pre_eq_preRow]; exact circlePoints_lifted os started H enc F)

set_option maxRecDepth 100000 in
theorem circlePoints_plain (f : FuncId) (fn : Func) (hf : Tryz.pinned.checked.prog.funcNamed "flowpipe/flowpipelaw10.CirclePoints" = some f) (hfn : Tryz.pinned.checked.prog.funcs[f]? = some fn) :
   false = Tryz.pinned.checked.prog.looks [] ∧ ∀ (j : Nat) t, fn.params[j]? = some t → Tryz.pinned.checked.prog.wantsStandIn t = false := by
 obtain rfl : f = 4 := Option.some.inj ((show Tryz.prog.funcNamed "flowpipe/flowpipelaw10.CirclePoints" = some 4 by kernel_rfl).symm.trans hf) |>.symm
 obtain rfl : fn = Tryz.f4 := (Option.some.inj (Tryz.func4.symm.trans hfn)).symm
 refine ⟨by kernel_rfl, fun j t ht => ?_⟩
 rw [Tryz.params4] at ht
 have := Array.mem_of_getElem? ht
 simp at this
 rcases this with rfl | rfl
 all_goals first | exact (show Tryz.prog.wantsStandIn 5 = false by kernel_rfl) | exact (show Tryz.prog.wantsStandIn 25 = false by kernel_rfl)

theorem circlePoints_holds : Rows.CirclePointsCardSaid :=
 Claim7.holds_tied_plain_at .later [] _ _ _ _ circlePoints_said (fun _ h => by cases h) (by kernel_rfl) (fun _ h => by cases h) circlePoints_row_tie rfl ⟨rfl, rfl⟩ (by kernel_rfl) rfl circlePoints_plain (by kernel_rfl)

end Go.Proofs.YtnkijamajifgpaaGreatDoor
