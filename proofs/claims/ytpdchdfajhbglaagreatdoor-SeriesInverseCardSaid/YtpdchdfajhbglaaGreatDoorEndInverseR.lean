/- 'flowpipelaw21.SeriesInverse' returns true for every input: each of its calls returns, and its arguments read as they did. -/
import Derived.Test.YtpdchdfajhbglaaGreatDoorG0
import Derived.Test.YtpdchdfajhbglaaGreatDoorSj
namespace Go.Proofs.YtpdchdfajhbglaaGreatDoor
open Go.ChangeShapes Go.WideShapes Go.ChangeAt Go.RowKit

set_option maxRecDepth 100000 in
theorem seriesInverse_contract (H : Type) (enc : TypeId × Value → H) (W : World) (base : Nat) (args : Array Value) (ds gs : List (DataW H)) (before : List MemPlace)
    (hval : ∀ (j : Nat) t v, Tryz.f5.params[j]? = some t → args[j]? = some v → Value.okWide Tryz.prog W .any base t v)
    (hW : DataW.Whole enc Tryz.prog Tryz.f5.params.toList Rows.seriesInverseSpec.vars false W args.toList ds gs before) (hL : laidMetH Tryz.prog Rows.seriesInverseRow.laid W) :
    Calls Tryz.prog 5 args W fun e W' => ∃ v, e = .returned v ∧ Rows.seriesInverseSpec.post enc Tryz.prog Tryz.f5 false true false false W args v W' := by
  have hW' := hW
  obtain ⟨p, q, hA0, hV, rfl, hfz, hnd⟩ := hW
  have hA : DataW.TrodAll enc Tryz.prog W 0 (fun _ => true) true Tryz.f5.params.toList args.toList ds p := hA0
  rw [Tryz.params5] at hA hval
  obtain ⟨v0, v1, v2, d0, d1, d2, p0, p1, p2, rfl, rfl, rfl, h0, h1, h2⟩ := trodAll_three hA
  obtain ⟨rfl, rfl⟩ := trodVars_none hV
  obtain ⟨_, ⟨a0, rfl, t0⟩, r0⟩ := Go.Abs.Rd.cell (μ := fun _ => none) r_ivs (by rintro _ ⟨x, rfl, _⟩; rfl) h0 (Go.Abs.q2k Tryz.underlying22 (hval 0 22 v0 rfl rfl))
  obtain ⟨_, ⟨a1, rfl, t1⟩, r1⟩ := Go.Abs.Rd.cell (μ := fun _ => none) r_ivs (by rintro _ ⟨x, rfl, _⟩; rfl) h1 (Go.Abs.q2k Tryz.underlying22 (hval 1 22 v1 rfl rfl))
  obtain ⟨_, ⟨a2, rfl, t2⟩, r2⟩ := Go.Abs.Rd.cell (μ := fun _ => none) r_int (by rintro _ ⟨x, rfl, _⟩; rfl) h2 (Go.Abs.qalg Tryz.underlying3 (hval 2 3 v2 rfl rfl))
  refine (Go.Abs.qadl seat (g := 520) (fid := 5) (by kernel_rfl) (Go.Abs.W.q4z a0 a1 a2 ⟨t0.len, fun x hx => ⟨(t0.all x hx).lo.li, (t0.all x hx).hi.li⟩⟩ ⟨t1.len, fun x hx => ⟨(t1.all x hx).lo.li, (t1.all x hx).hi.li⟩⟩ []) (vs := [v0, v1, v2]) (W := W) ?_ (tabs hL)).mono fun e W' he => ?_
  · exact Go.Abs.Rs.cons r0 (Go.Abs.Rs.cons r1 (Go.Abs.Rs.cons r2 ⟨rfl, by simp⟩))
  · obtain ⟨rfl, hb⟩ := he
    refine ⟨_, rfl, Go.Abs.qaco (tb := 4) laidOut rfl ?_ (by kernel_rfl) Tryz.underlying4 ⟨rfl, rfl, rfl⟩ hW' hb⟩
    rw [Tryz.params5]
    intro t ht
    simp at ht
    rcases ht with rfl | rfl <;> exact ⟨by kernel_rfl, of_decide_eq_true (by kernel_rfl)⟩

theorem seriesInverse_met (os : Os) : laidMet Tryz.prog Rows.seriesInverseRow.laid ((laidWorld os).forCall (fun _ _ => 0) ⟨#[], #[.slice none 0 0, .slice none 0 0, .int .i64 0], []⟩).memory :=
  laidMet_of_run' 8 (by kernel_rfl) (by kernel_rfl)
theorem seriesInverse_reads (os : Os) {H : Type} (enc : TypeId × Value → H) :
    ∃ places, DataW.whole enc Tryz.prog ((laidWorld os).forCall (fun _ _ => 0) ⟨#[], #[.slice none 0 0, .slice none 0 0, .int .i64 0], []⟩).memory Tryz.f5.params.toList Rows.seriesInverseSpec.vars false #[.slice none 0 0, .slice none 0 0, .int .i64 0].toList 8 = some ([.nil, .nil, .lit (.int .i64 0)], [], places) :=
  ⟨[], by kernel_rfl⟩

set_option maxRecDepth 100000 in
theorem seriesInverse_lifted (os : Os) (started : os.Started) (H : Type) (enc : TypeId × Value → H) (F : Stop.Interp) :
    ReturnsInHanded {} Tryz.checked os 5 .any ((OpenSpec.ofChange Rows.seriesInverseSpec).preRow enc Tryz.prog Tryz.f5 Rows.seriesInverseRow.domain false Rows.seriesInverseRow.laid) (((OpenSpec.ofChange Rows.seriesInverseSpec).at F).post enc Tryz.prog Tryz.f5 false true false false) := by
  obtain ⟨places, hx⟩ := seriesInverse_reads os enc
  refine returnsInHanded_of_row (C := Tryz.checked) (s := OpenSpec.ofChange Rows.seriesInverseSpec) own started (by kernel_rfl) Tryz.func5
    (witness_row_at (enc := enc) (C := Tryz.checked) false (laidWorld os) #[.slice none 0 0, .slice none 0 0, .int .i64 0] rfl (by kernel_rfl) (by kernel_rfl) (by kernel_rfl)
      (OpenSpec.preRow_of_cond 8 hx (by kernel_rfl) (fun k hk => by cases hk) (by kernel_rfl) (seriesInverse_met os))) ?_
  intro W base args ds gs before hval hW _ _ _ hL _ _
  exact seriesInverse_contract H enc W base args ds gs before hval hW hL

theorem seriesInverse_said : Rows.SeriesInverseSaid :=
  OpenClaim.holds_of_cond 5 Tryz.f5 rfl rfl rfl rfl rfl rfl rfl ⟨rfl, rfl, rfl, rfl, rfl⟩ rfl rfl rfl rfl rfl (by kernel_rfl) Tryz.func5 (by kernel_rfl)
    (of_decide_eq_true (by kernel_rfl)) (by unfold Func.isWrapper; first | (rw [if_pos (by decide +kernel)]; kernel_rfl) | (rw [if_neg (by decide +kernel)]; exact ⟨rfl, rfl⟩))
    (fun os started H enc _ F => by rw [OpenClaim.pre_eq_preRow]; exact seriesInverse_lifted os started H enc F)

set_option maxRecDepth 100000 in
theorem seriesInverse_plain (f : FuncId) (fn : Func) (hf : Tryz.pinned.checked.prog.funcNamed "flowpipe/flowpipelaw21.SeriesInverse" = some f) (hfn : Tryz.pinned.checked.prog.funcs[f]? = some fn) :
    false = Tryz.pinned.checked.prog.looks [] ∧ ∀ (j : Nat) t, fn.params[j]? = some t → Tryz.pinned.checked.prog.wantsStandIn t = false := by
  obtain rfl : f = 5 := Option.some.inj ((show Tryz.prog.funcNamed "flowpipe/flowpipelaw21.SeriesInverse" = some 5 by kernel_rfl).symm.trans hf) |>.symm
  obtain rfl : fn = Tryz.f5 := (Option.some.inj (Tryz.func5.symm.trans hfn)).symm
  refine ⟨by kernel_rfl, fun j t ht => ?_⟩
  rw [Tryz.params5] at ht
  have := Array.mem_of_getElem? ht
  simp at this
  rcases this with rfl | rfl
  all_goals first | exact (show Tryz.prog.wantsStandIn 3 = false by kernel_rfl) | exact (show Tryz.prog.wantsStandIn 22 = false by kernel_rfl)

theorem seriesInverse_holds : Rows.SeriesInverseCardSaid :=
  Claim7.holds_tied_plain_at .later [] _ _ _ _ seriesInverse_said (fun _ h => by cases h) (by kernel_rfl) (fun _ h => by cases h) seriesInverse_row_tie rfl ⟨rfl, rfl⟩ (by kernel_rfl) rfl seriesInverse_plain (by kernel_rfl)

end Go.Proofs.YtpdchdfajhbglaaGreatDoor
