/- 'flowpipelaw21.SeriesApplies' returns true for every input: each of its calls returns, and its arguments read as they did. -/
import Derived.Test.YtpdchdfajhbglaaGreatDoorG0
import Derived.Test.YtpdchdfajhbglaaGreatDoorSh
namespace Go.Proofs.YtpdchdfajhbglaaGreatDoor
open Go.ChangeShapes Go.WideShapes Go.ChangeAt Go.RowKit

set_option maxRecDepth 100000 in
theorem seriesApplies_contract (H : Type) (enc : TypeId × Value → H) (W : World) (base : Nat) (args : Array Value) (ds gs : List (DataW H)) (before : List MemPlace)
    (hval : ∀ (j : Nat) t v, Tryz.f4.params[j]? = some t → args[j]? = some v → Value.okWide Tryz.prog W .any base t v)
    (hW : DataW.Whole enc Tryz.prog Tryz.f4.params.toList Rows.seriesAppliesSpec.vars false W args.toList ds gs before) (hL : laidMetH Tryz.prog Rows.seriesAppliesRow.laid W) :
    Calls Tryz.prog 4 args W fun e W' => ∃ v, e = .returned v ∧ Rows.seriesAppliesSpec.post enc Tryz.prog Tryz.f4 false true false false W args v W' := by
  have hW' := hW
  obtain ⟨p, q, hA0, hV, rfl, hfz, hnd⟩ := hW
  have hA : DataW.TrodAll enc Tryz.prog W 0 (fun _ => true) true Tryz.f4.params.toList args.toList ds p := hA0
  rw [Tryz.params4] at hA hval
  obtain ⟨v0, v1, v2, v3, d0, d1, d2, d3, p0, p1, p2, p3, rfl, rfl, rfl, h0, h1, h2, h3⟩ := trodAll_four hA
  obtain ⟨rfl, rfl⟩ := trodVars_none hV
  obtain ⟨_, ⟨a0, rfl, t0⟩, r0⟩ := Go.Abs.Rd.cell (μ := fun _ => none) r_ivs (by rintro _ ⟨x, rfl, _⟩; rfl) h0 (Go.Abs.qwv Tryz.underlying22 (hval 0 22 v0 rfl rfl))
  obtain ⟨_, ⟨a1, rfl, t1⟩, r1⟩ := Go.Abs.Rd.cell (μ := fun _ => none) r_ivs (by rintro _ ⟨x, rfl, _⟩; rfl) h1 (Go.Abs.qwv Tryz.underlying22 (hval 1 22 v1 rfl rfl))
  obtain ⟨_, ⟨a2, rfl, t2⟩, r2⟩ := Go.Abs.Rd.cell (μ := fun _ => none) r_int (by rintro _ ⟨x, rfl, _⟩; rfl) h2 (Go.Abs.q7u Tryz.underlying3 (hval 2 3 v2 rfl rfl))
  obtain ⟨_, ⟨a3, rfl, t3⟩, r3⟩ := Go.Abs.Rd.cell (μ := fun _ => none) r_int (by rintro _ ⟨x, rfl, _⟩; rfl) h3 (Go.Abs.q7u Tryz.underlying3 (hval 3 3 v3 rfl rfl))
  refine (Go.Abs.q5i seat (g := 521) (fid := 4) (by kernel_rfl) (Go.Abs.W.qab8 a0 a1 a2 a3 ⟨t0.len, fun x hx => ⟨(t0.all x hx).lo.li, (t0.all x hx).hi.li⟩⟩ ⟨t1.len, fun x hx => ⟨(t1.all x hx).lo.li, (t1.all x hx).hi.li⟩⟩ []) (vs := [v0, v1, v2, v3]) (W := W) ?_ (tabs hL)).mono fun e W' he => ?_
  · exact Go.Abs.Rs.cons r0 (Go.Abs.Rs.cons r1 (Go.Abs.Rs.cons r2 (Go.Abs.Rs.cons r3 ⟨rfl, by simp⟩)))
  · obtain ⟨rfl, hb⟩ := he
    refine ⟨_, rfl, Go.Abs.q43 (tb := 4) laidOut rfl ?_ (by kernel_rfl) Tryz.underlying4 ⟨rfl, rfl, rfl⟩ hW' hb⟩
    rw [Tryz.params4]
    intro t ht
    simp at ht
    rcases ht with rfl | rfl <;> exact ⟨by kernel_rfl, of_decide_eq_true (by kernel_rfl)⟩

theorem seriesApplies_met (os : Os) : laidMet Tryz.prog Rows.seriesAppliesRow.laid ((laidWorld os).forCall (fun _ _ => 0) ⟨#[], #[.slice none 0 0, .slice none 0 0, .int .i64 0, .int .i64 0], []⟩).memory :=
  laidMet_of_run' 8 (by kernel_rfl) (by kernel_rfl)
theorem seriesApplies_reads (os : Os) {H : Type} (enc : TypeId × Value → H) :
    ∃ places, DataW.whole enc Tryz.prog ((laidWorld os).forCall (fun _ _ => 0) ⟨#[], #[.slice none 0 0, .slice none 0 0, .int .i64 0, .int .i64 0], []⟩).memory Tryz.f4.params.toList Rows.seriesAppliesSpec.vars false #[.slice none 0 0, .slice none 0 0, .int .i64 0, .int .i64 0].toList 8 = some ([.nil, .nil, .lit (.int .i64 0), .lit (.int .i64 0)], [], places) :=
  ⟨[], by kernel_rfl⟩

set_option maxRecDepth 100000 in
theorem seriesApplies_lifted (os : Os) (started : os.Started) (H : Type) (enc : TypeId × Value → H) (F : Stop.Interp) :
    ReturnsInHanded {} Tryz.checked os 4 .any ((OpenSpec.ofChange Rows.seriesAppliesSpec).preRow enc Tryz.prog Tryz.f4 Rows.seriesAppliesRow.domain false Rows.seriesAppliesRow.laid) (((OpenSpec.ofChange Rows.seriesAppliesSpec).at F).post enc Tryz.prog Tryz.f4 false true false false) := by
  obtain ⟨places, hx⟩ := seriesApplies_reads os enc
  refine returnsInHanded_of_row (C := Tryz.checked) (s := OpenSpec.ofChange Rows.seriesAppliesSpec) own started (by kernel_rfl) Tryz.func4
    (witness_row_at (enc := enc) (C := Tryz.checked) false (laidWorld os) #[.slice none 0 0, .slice none 0 0, .int .i64 0, .int .i64 0] rfl (by kernel_rfl) (by kernel_rfl) (by kernel_rfl)
      (OpenSpec.preRow_of_cond 8 hx (by kernel_rfl) (fun k hk => by cases hk) (by kernel_rfl) (seriesApplies_met os))) ?_
  intro W base args ds gs before hval hW _ _ _ hL _ _
  exact seriesApplies_contract H enc W base args ds gs before hval hW hL

theorem seriesApplies_said : Rows.SeriesAppliesSaid :=
  OpenClaim.holds_of_cond 4 Tryz.f4 rfl rfl rfl rfl rfl rfl rfl ⟨rfl, rfl, rfl, rfl, rfl⟩ rfl rfl rfl rfl rfl (by kernel_rfl) Tryz.func4 (by kernel_rfl)
    (of_decide_eq_true (by kernel_rfl)) (by unfold Func.isWrapper; first | (rw [if_pos (by decide +kernel)]; kernel_rfl) | (rw [if_neg (by decide +kernel)]; exact ⟨rfl, rfl⟩))
    (fun os started H enc _ F => by rw [OpenClaim.pre_eq_preRow]; exact seriesApplies_lifted os started H enc F)

set_option maxRecDepth 100000 in
theorem seriesApplies_plain (f : FuncId) (fn : Func) (hf : Tryz.pinned.checked.prog.funcNamed "flowpipe/flowpipelaw21.SeriesApplies" = some f) (hfn : Tryz.pinned.checked.prog.funcs[f]? = some fn) :
    false = Tryz.pinned.checked.prog.looks [] ∧ ∀ (j : Nat) t, fn.params[j]? = some t → Tryz.pinned.checked.prog.wantsStandIn t = false := by
  obtain rfl : f = 4 := Option.some.inj ((show Tryz.prog.funcNamed "flowpipe/flowpipelaw21.SeriesApplies" = some 4 by kernel_rfl).symm.trans hf) |>.symm
  obtain rfl : fn = Tryz.f4 := (Option.some.inj (Tryz.func4.symm.trans hfn)).symm
  refine ⟨by kernel_rfl, fun j t ht => ?_⟩
  rw [Tryz.params4] at ht
  have := Array.mem_of_getElem? ht
  simp at this
  rcases this with rfl | rfl
  all_goals first | exact (show Tryz.prog.wantsStandIn 3 = false by kernel_rfl) | exact (show Tryz.prog.wantsStandIn 22 = false by kernel_rfl)

theorem seriesApplies_holds : Rows.SeriesAppliesCardSaid :=
  Claim7.holds_tied_plain_at .later [] _ _ _ _ seriesApplies_said (fun _ h => by cases h) (by kernel_rfl) (fun _ h => by cases h) seriesApplies_row_tie rfl ⟨rfl, rfl⟩ (by kernel_rfl) rfl seriesApplies_plain (by kernel_rfl)

end Go.Proofs.YtpdchdfajhbglaaGreatDoor
