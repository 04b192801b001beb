/- 'flowpipelaw10.CirclePi' returns true for every input: each of its calls returns, and its arguments read as they did. -/
import Derived.Test.YtnkijamajifgpaaGreatDoorG0
import Derived.Test.YtnkijamajifgpaaGreatDoorWc
namespace Go.Proofs.YtnkijamajifgpaaGreatDoor
open Go.ChangeShapes Go.WideShapes Go.ChangeAt Go.RowKit

set_option maxRecDepth 100000 in
theorem circlePi_contract (H : Type) (enc : TypeId × Value → H) (W : World) (base : Nat) (args : Array Value) (ds gs : List (DataW H)) (before : List MemPlace)
   (hval : ∀ (j : Nat) t v, Tryz.f3.params[j]? = some t → args[j]? = some v → Value.okWide Tryz.prog W .any base t v)
   (hW : DataW.Whole enc Tryz.prog Tryz.f3.params.toList Rows.circlePiSpec.vars false W args.toList ds gs before) (hL : laidMetH Tryz.prog Rows.circlePiRow.laid W) :
   Calls Tryz.prog 3 args W fun e W' => ∃ v, e = .returned v ∧ Rows.circlePiSpec.post enc Tryz.prog Tryz.f3 false true false false W args v W' := by
 have hW' := hW
 obtain ⟨p, q, hA0, hV, rfl, hfz, hnd⟩ := hW
 have hA : DataW.TrodAll enc Tryz.prog W 0 (fun _ => true) true Tryz.f3.params.toList args.toList ds p := hA0
 rw [Tryz.params3] at hA hval
 obtain ⟨v0, vs0, d0, ds0, p0, q0, ha0, hd0, hp0, h0, t0'⟩ := trodAll_cons hA
 obtain ⟨he1, he2, he3⟩ := trodAll_nil t0'
 obtain rfl : args = #[v0] := by cases args; simp_all
 clear hA0
 subst he1 he2 he3
 subst hd0 hp0
 obtain ⟨rfl, rfl⟩ := trodVars_none hV
 obtain ⟨_, ⟨a0, rfl, t0⟩, r0⟩ := Go.Abs.Rd.cell (μ := fun _ => none) r_int (by rintro _ ⟨x, rfl, _⟩; rfl) h0 (Go.Abs.qadq Tryz.underlying3 (hval 0 3 v0 rfl rfl))
 refine (Go.Abs.q62 seat (g := 452) (fid := 3) (by kernel_rfl) (Go.Abs.W.qadn a0  []) (vs := [v0]) (W := W) ?_ (tabs hL)).mono fun e W' he => ?_
 · exact Go.Abs.Rs.cons r0 ⟨rfl, by simp⟩
 · obtain ⟨rfl, hb⟩ := he
   refine ⟨_, rfl, Go.Abs.q6d (tb := 4) laidOut rfl ?_ (by kernel_rfl) Tryz.underlying4 ⟨rfl, rfl, rfl⟩ hW' hb⟩
   rw [Tryz.params3]
   intro t ht
   simp at ht
   subst ht <;> exact ⟨by kernel_rfl, of_decide_eq_true (by kernel_rfl)⟩

theorem circlePi_met (os : Os) : laidMet Tryz.prog Rows.circlePiRow.laid ((laidWorld os).forCall (fun _ _ => 0) ⟨#[], #[.int .i64 0], []⟩).memory :=
 laidMet_of_run' 8 (by kernel_rfl) (by kernel_rfl)
theorem circlePi_reads (os : Os) {H : Type} (enc : TypeId × Value → H) :
   ∃ places, DataW.whole enc Tryz.prog ((laidWorld os).forCall (fun _ _ => 0) ⟨#[], #[.int .i64 0], []⟩).memory Tryz.f3.params.toList Rows.circlePiSpec.vars false #[.int .i64 0].toList 8 = some ([.lit (.int .i64 0)], [], places) :=
 ⟨[], by kernel_rfl⟩

set_option maxRecDepth 100000 in
theorem circlePi_lifted (os : Os) (started : os.Started) (H : Type) (enc : TypeId × Value → H) (F : Stop.Interp) :
   ReturnsInHanded {} Tryz.checked os 3 .any ((OpenSpec.ofChange Rows.circlePiSpec).preRow enc Tryz.prog Tryz.f3 Rows.circlePiRow.domain false Rows.circlePiRow.laid) (((OpenSpec.ofChange Rows.circlePiSpec).at F).post enc Tryz.prog Tryz.f3 false true false false) := by
 obtain ⟨places, hx⟩ := circlePi_reads os enc
 refine returnsInHanded_of_row (C := Tryz.checked) (s := OpenSpec.ofChange Rows.circlePiSpec) own started (by kernel_rfl) Tryz.func3
   (witness_row_at (enc := enc) (C := Tryz.checked) false (laidWorld os) #[.int .i64 0] rfl (by kernel_rfl) (by kernel_rfl) (by kernel_rfl)
     (OpenSpec.preRow_of_cond 8 hx (by kernel_rfl) (fun k hk => by cases hk) (by kernel_rfl) (circlePi_met os))) ?_
 intro W base args ds gs before hval hW _ _ _ hL _ _
 exact circlePi_contract H enc W base args ds gs before hval hW hL

theorem circlePi_said : Rows.CirclePiSaid :=
 OpenClaim.holds_of_cond 3 Tryz.f3 rfl rfl rfl rfl rfl rfl rfl ⟨rfl, rfl, rfl, rfl, rfl⟩ rfl rfl rfl rfl rfl (by kernel_rfl) Tryz.func3 (by kernel_rfl)
   (of_decide_eq_true (by kernel_rfl)) (by unfold Func.isWrapper; first | (rw [if_pos (by decide +kernel)]; kernel_rfl) | (rw [if_neg (by decide +kernel)]; exact ⟨rfl, rfl⟩))
   (fun os started H enc _ F => by rw [OpenClaim.pre_eq_preRow]; exact circlePi_lifted os started H enc F)

set_option maxRecDepth 100000 in
theorem circlePi_plain (f : FuncId) (fn : Func) (hf : Tryz.pinned.checked.prog.funcNamed "flowpipe/flowpipelaw10.CirclePi" = some f) (hfn : Tryz.pinned.checked.prog.funcs[f]? = some fn) :
   false = Tryz.pinned.checked.prog.looks [] ∧ ∀ (j : Nat) t, fn.params[j]? = some t → Tryz.pinned.checked.prog.wantsStandIn t = false := by
 obtain rfl : f = 3 := Option.some.inj ((show Tryz.prog.funcNamed "flowpipe/flowpipelaw10.CirclePi" = some 3 by kernel_rfl).symm.trans hf) |>.symm
 obtain rfl : fn = Tryz.f3 := (Option.some.inj (Tryz.func3.symm.trans hfn)).symm
 refine ⟨by kernel_rfl, fun j t ht => ?_⟩
 rw [Tryz.params3] at ht
 have := Array.mem_of_getElem? ht
 simp at this
 subst this
 all_goals first | exact (show Tryz.prog.wantsStandIn 3 = false by kernel_rfl)

theorem circlePi_holds : Rows.CirclePiCardSaid :=
 Claim7.holds_tied_plain_at .later [] _ _ _ _ circlePi_said (fun _ h => by cases h) (by kernel_rfl) (fun _ h => by cases h) circlePi_row_tie rfl ⟨rfl, rfl⟩ (by kernel_rfl) rfl circlePi_plain (by kernel_rfl)

end Go.Proofs.YtnkijamajifgpaaGreatDoor
