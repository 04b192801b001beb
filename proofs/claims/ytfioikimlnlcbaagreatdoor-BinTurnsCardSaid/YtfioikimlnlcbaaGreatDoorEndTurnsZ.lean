/- 'flowpipelaw48.BinTurns' returns true for every input: each of its calls returns, and its arguments read as they did. -/
import Derived.Test.YtfioikimlnlcbaaGreatDoorG0
import Derived.Test.YtfioikimlnlcbaaGreatDoorYh
namespace Go.Proofs.YtfioikimlnlcbaaGreatDoor
open Go.ChangeShapes Go.WideShapes Go.ChangeAt Go.RowKit

theorem r_i8 {H : Type} {enc : TypeId × Value → H} {w : World} : Go.Abs.Rd enc Tryz.prog w Go.Abs.tab.gid 27 (fun v => ∃ n, v = .int .i8 n ∧ IntKind.i8.min ≤ n ∧ n ≤ IntKind.i8.max) := Go.Abs.q3f Tryz.underlying27
set_option maxRecDepth 100000 in
theorem binTurns_contract (H : Type) (enc : TypeId × Value → H) (W : World) (base : Nat) (args : Array Value) (ds gs : List (DataW H)) (before : List MemPlace)
    (hval : ∀ (j : Nat) t v, Tryz.f3.params[j]? = some t → args[j]? = some v → Value.okWide Tryz.prog W .any base t v)
    (hW : DataW.Whole enc Tryz.prog Tryz.f3.params.toList Rows.binTurnsSpec.vars false W args.toList ds gs before) (hL : laidMetH Tryz.prog Rows.binTurnsRow.laid W) :
    Calls Tryz.prog 3 args W fun e W' => ∃ v, e = .returned v ∧ Rows.binTurnsSpec.post enc Tryz.prog Tryz.f3 false true false false W args v W' := by
  have hW' := hW
  obtain ⟨p, q, hA0, hV, rfl, hfz, hnd⟩ := hW
  have hA : DataW.TrodAll enc Tryz.prog W 0 (fun _ => true) true Tryz.f3.params.toList args.toList ds p := hA0
  rw [Tryz.params3] at hA hval
  obtain ⟨v0, v1, v2, d0, d1, d2, p0, p1, p2, rfl, rfl, rfl, h0, h1, h2⟩ := trodAll_three hA
  obtain ⟨rfl, rfl⟩ := trodVars_none hV
  obtain ⟨_, ⟨a0, rfl, t0⟩, r0⟩ := Go.Abs.Rd.struct (μ := fun _ => none) r_iv Tryz.underlying26 (by rintro _ ⟨x, rfl, _⟩; exact ⟨_, rfl⟩) h0 (hval 0 26 v0 rfl rfl)
  obtain ⟨_, ⟨a1, rfl, t1⟩, r1⟩ := Go.Abs.Rd.cell (μ := fun _ => none) r_i8 (by rintro _ ⟨x, rfl, _⟩; rfl) h1 (Go.Abs.q8p Tryz.underlying27 (hval 1 27 v1 rfl rfl))
  obtain ⟨_, ⟨a2, rfl, t2⟩, r2⟩ := Go.Abs.Rd.cell (μ := fun _ => none) r_int (by rintro _ ⟨x, rfl, _⟩; rfl) h2 (Go.Abs.q8p Tryz.underlying3 (hval 2 3 v2 rfl rfl))
  refine (Go.Abs.q84 seat (g := 668) (fid := 3) (by kernel_rfl) (Go.Abs.W.q2i a0 a1 a2 ⟨t0.lo.li, t0.hi.li⟩ t1 []) (vs := [v0, v1, v2]) (W := W) ?_ (tabs hL)).mono fun e W' he => ?_
  · exact Go.Abs.Rs.cons r0 (Go.Abs.Rs.cons r1 (Go.Abs.Rs.cons r2 ⟨rfl, by simp⟩))
  · obtain ⟨rfl, hb⟩ := he
    refine ⟨_, rfl, Go.Abs.q8j (tb := 4) laidOut rfl ?_ (by kernel_rfl) Tryz.underlying4 ⟨rfl, rfl, rfl⟩ hW' hb⟩
    rw [Tryz.params3]
    intro t ht
    simp at ht
    rcases ht with rfl | rfl | rfl <;> exact ⟨by kernel_rfl, of_decide_eq_true (by kernel_rfl)⟩

theorem binTurns_met (os : Os) : laidMet Tryz.prog Rows.binTurnsRow.laid ((laidWorld os).forCall (fun _ _ => 0) ⟨#[], #[zIvV, .int .i8 0, .int .i64 0], []⟩).memory :=
  laidMet_of_run' 8 (by kernel_rfl) (by kernel_rfl)
theorem binTurns_reads (os : Os) {H : Type} (enc : TypeId × Value → H) :
    ∃ places, DataW.whole enc Tryz.prog ((laidWorld os).forCall (fun _ _ => 0) ⟨#[], #[zIvV, .int .i8 0, .int .i64 0], []⟩).memory Tryz.f3.params.toList Rows.binTurnsSpec.vars false #[zIvV, .int .i8 0, .int .i64 0].toList 8 = some ([dIv, .lit (.int .i8 0), .lit (.int .i64 0)], [], places) :=
  ⟨[], by kernel_rfl⟩

set_option maxRecDepth 100000 in
theorem binTurns_lifted (os : Os) (started : os.Started) (H : Type) (enc : TypeId × Value → H) (F : Stop.Interp) :
    ReturnsInHanded {} Tryz.checked os 3 .any ((OpenSpec.ofChange Rows.binTurnsSpec).preRow enc Tryz.prog Tryz.f3 Rows.binTurnsRow.domain false Rows.binTurnsRow.laid) (((OpenSpec.ofChange Rows.binTurnsSpec).at F).post enc Tryz.prog Tryz.f3 false true false false) := by
  obtain ⟨places, hx⟩ := binTurns_reads os enc
  refine returnsInHanded_of_row (C := Tryz.checked) (s := OpenSpec.ofChange Rows.binTurnsSpec) own started (by kernel_rfl) Tryz.func3
    (witness_row_at (enc := enc) (C := Tryz.checked) false (laidWorld os) #[zIvV, .int .i8 0, .int .i64 0] rfl (by kernel_rfl) (by kernel_rfl) (by kernel_rfl)
      (OpenSpec.preRow_of_cond 8 hx (by kernel_rfl) (fun k hk => by cases hk) (by kernel_rfl) (binTurns_met os))) ?_
  intro W base args ds gs before hval hW _ _ _ hL _ _
  exact binTurns_contract H enc W base args ds gs before hval hW hL

theorem binTurns_said : Rows.BinTurnsSaid :=
  OpenClaim.holds_of_cond 3 Tryz.f3 rfl rfl rfl rfl rfl rfl rfl ⟨rfl, rfl, rfl, rfl, rfl⟩ rfl rfl rfl rfl rfl (by kernel_rfl) Tryz.func3 (by kernel_rfl)
    (of_decide_eq_true (by kernel_rfl)) (by unfold Func.isWrapper; first | (rw [if_pos (by decide +kernel)]; kernel_rfl) | (rw [if_neg (by decide +kernel)]; exact ⟨rfl, rfl⟩))
    (fun os started H enc _ F => by rw [OpenClaim.pre_eq_preRow]; exact binTurns_lifted os started H enc F)

set_option maxRecDepth 100000 in
theorem binTurns_plain (f : FuncId) (fn : Func) (hf : Tryz.pinned.checked.prog.funcNamed "flowpipe/flowpipelaw48.BinTurns" = some f) (hfn : Tryz.pinned.checked.prog.funcs[f]? = some fn) :
    false = Tryz.pinned.checked.prog.looks [] ∧ ∀ (j : Nat) t, fn.params[j]? = some t → Tryz.pinned.checked.prog.wantsStandIn t = false := by
  obtain rfl : f = 3 := Option.some.inj ((show Tryz.prog.funcNamed "flowpipe/flowpipelaw48.BinTurns" = some 3 by kernel_rfl).symm.trans hf) |>.symm
  obtain rfl : fn = Tryz.f3 := (Option.some.inj (Tryz.func3.symm.trans hfn)).symm
  refine ⟨by kernel_rfl, fun j t ht => ?_⟩
  rw [Tryz.params3] at ht
  have := Array.mem_of_getElem? ht
  simp at this
  rcases this with rfl | rfl | rfl
  all_goals first | exact (show Tryz.prog.wantsStandIn 3 = false by kernel_rfl) | exact (show Tryz.prog.wantsStandIn 26 = false by kernel_rfl) | exact (show Tryz.prog.wantsStandIn 27 = false by kernel_rfl)

theorem binTurns_holds : Rows.BinTurnsCardSaid :=
  Claim7.holds_tied_plain_at .later [] _ _ _ _ binTurns_said (fun _ h => by cases h) (by kernel_rfl) (fun _ h => by cases h) binTurns_row_tie rfl ⟨rfl, rfl⟩ (by kernel_rfl) rfl binTurns_plain (by kernel_rfl)

end Go.Proofs.YtfioikimlnlcbaaGreatDoor
