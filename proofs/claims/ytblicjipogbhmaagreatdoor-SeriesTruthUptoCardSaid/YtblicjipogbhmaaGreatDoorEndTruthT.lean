/- 'flowpipelaw21.SeriesTruth' returns true for every input whose reading is of bulk at most 1048576: each of its calls returns, and its arguments read as they did. -/
import Derived.Test.YtblicjipogbhmaaGreatDoorG0
import Derived.Test.YtblicjipogbhmaaGreatDoorTu
namespace Go.Proofs.YtblicjipogbhmaaGreatDoor
open Go.ChangeShapes Go.WideShapes Go.ChangeAt Go.RowKit

set_option maxRecDepth 100000 in
theorem seriesTruth_contract (H : Type) (enc : TypeId × Value → H) (W : World) (base : Nat) (args : Array Value) (ds gs : List (DataW H)) (before : List MemPlace)
    (hval : ∀ (j : Nat) t v, Tryz.f3.params[j]? = some t → args[j]? = some v → Value.okWide Tryz.prog W .any base t v)
    (hW : DataW.Whole enc Tryz.prog Tryz.f3.params.toList Rows.seriesTruthSpec.vars false W args.toList ds gs before) (hL : laidMetH Tryz.prog Rows.seriesTruthUptoRow.laid W) (hk : Rows.uptoSmall H (ds ++ gs) = true) :
    Calls Tryz.prog 3 args W fun e W' => ∃ v, e = .returned v ∧ Rows.seriesTruthSpec.post enc Tryz.prog Tryz.f3 false true false false W args v W' := by
  have hW' := hW
  obtain ⟨p, q, hA0, hV, rfl, hfz, hnd⟩ := hW
  have hA : DataW.TrodAll enc Tryz.prog W 0 (fun _ => true) true Tryz.f3.params.toList args.toList ds p := hA0
  rw [Tryz.params3] at hA hval
  obtain ⟨v0, v1, d0, d1, p0, p1, rfl, rfl, rfl, h0, h1⟩ := trodAll_two hA
  obtain ⟨rfl, rfl⟩ := trodVars_none hV
  obtain ⟨_, ⟨a0, rfl, t0⟩, r0⟩ := Go.Abs.Rd.cell (μ := fun _ => none) r_dys (by rintro _ ⟨x, rfl, _⟩; rfl) h0 (Go.Abs.Bf Tryz.underlying22 (hval 0 22 v0 rfl rfl))
  obtain ⟨_, ⟨a1, rfl, t1⟩, r1⟩ := Go.Abs.Rd.cell (μ := fun _ => none) r_int (by rintro _ ⟨x, rfl, _⟩; rfl) h1 (Go.Abs.Lj Tryz.underlying3 (hval 1 3 v1 rfl rfl))
  have hlen : a0.length ≤ 1048576 := by
    have hb : Rows.uptoBulkAll ([d0, d1] ++ []) ≤ 1048576 := of_decide_eq_true hk
    simp only [List.append_nil, Rows.uptoBulkAll] at hb
    obtain ⟨ad, len, cap, hv0, hl0, _⟩ := r0.inv_sl
    rw [List.length_map] at hl0
    rcases Go.Abs.slice_data Tryz.underlying22 (Go.Abs.Bf Tryz.underlying22 (hval 0 22 v0 rfl rfl)) h0 ad len cap hv0 with h | ⟨elems, spare, rfl, h⟩
    · omega
    · have := length_le elems
      simp only [Rows.uptoBulk] at hb
      omega
  refine (Go.Abs.Ph seat (g := 519) (fid := 3) (by kernel_rfl) (Go.Abs.W.Oi a0 a1 hlen (fun d hd => (t0 d hd).li) []) (vs := [v0, v1]) (W := W) ?_ (tabs hL)).mono fun e W' he => ?_
  · exact Go.Abs.Rs.cons r0 (Go.Abs.Rs.cons r1 ⟨rfl, by simp⟩)
  · obtain ⟨rfl, hb⟩ := he
    refine ⟨_, rfl, Go.Abs.Px (tb := 4) laidOut rfl ?_ (by kernel_rfl) Tryz.underlying4 ⟨rfl, rfl, rfl⟩ hW' hb⟩
    rw [Tryz.params3]
    intro t ht
    simp at ht
    rcases ht with rfl | rfl <;> exact ⟨by kernel_rfl, of_decide_eq_true (by kernel_rfl)⟩

theorem seriesTruth_met (os : Os) : laidMet Tryz.prog Rows.seriesTruthUptoRow.laid ((laidWorld os).forCall (fun _ _ => 0) ⟨#[], #[.slice none 0 0, .int .i64 0], []⟩).memory :=
  laidMet_of_run' 8 (by kernel_rfl) (by kernel_rfl)
theorem seriesTruth_reads (os : Os) {H : Type} (enc : TypeId × Value → H) :
    ∃ places, DataW.whole enc Tryz.prog ((laidWorld os).forCall (fun _ _ => 0) ⟨#[], #[.slice none 0 0, .int .i64 0], []⟩).memory Tryz.f3.params.toList Rows.seriesTruthSpec.vars false #[.slice none 0 0, .int .i64 0].toList 8 = some ([.nil, .lit (.int .i64 0)], [], places) :=
  ⟨[], by kernel_rfl⟩

set_option maxRecDepth 100000 in
theorem seriesTruth_lifted (os : Os) (started : os.Started) (H : Type) (enc : TypeId × Value → H) (F : Stop.Interp) :
    ReturnsInHanded {} Tryz.checked os 3 .any ((Rows.OpenSpec.upto Rows.seriesTruthSpec).preRow enc Tryz.prog Tryz.f3 Rows.seriesTruthUptoRow.domain false Rows.seriesTruthUptoRow.laid) (((Rows.OpenSpec.upto Rows.seriesTruthSpec).at F).post enc Tryz.prog Tryz.f3 false true false false) := by
  obtain ⟨places, hx⟩ := seriesTruth_reads os enc
  refine returnsInHanded_of_row (C := Tryz.checked) (s := Rows.OpenSpec.upto Rows.seriesTruthSpec) own started (by kernel_rfl) Tryz.func3
    (witness_row_at (enc := enc) (C := Tryz.checked) false (laidWorld os) #[.slice none 0 0, .int .i64 0] rfl (by kernel_rfl) (by kernel_rfl) (by kernel_rfl)
      (OpenSpec.preRow_of_cond 8 hx (by kernel_rfl) (fun k hk => by cases hk; kernel_rfl) (by kernel_rfl) (seriesTruth_met os))) ?_
  intro W base args ds gs before hval hW _ hcond _ hL _ _
  exact seriesTruth_contract H enc W base args ds gs before hval hW hL (hcond _ rfl)

theorem seriesTruth_said : Rows.SeriesTruthUptoSaid :=
  OpenClaim.holds_of_cond 3 Tryz.f3 rfl rfl rfl rfl rfl rfl rfl ⟨rfl, rfl, rfl, rfl, rfl⟩ rfl rfl rfl rfl rfl (by kernel_rfl) Tryz.func3 (by kernel_rfl)
    (of_decide_eq_true (by kernel_rfl)) (by unfold Func.isWrapper; first | (rw [if_pos (by decide +kernel)]; kernel_rfl) | (rw [if_neg (by decide +kernel)]; exact ⟨rfl, rfl⟩))
    (fun os started H enc _ F => by rw [OpenClaim.pre_eq_preRow]; exact seriesTruth_lifted os started H enc F)

set_option maxRecDepth 100000 in
theorem seriesTruth_plain (f : FuncId) (fn : Func) (hf : Tryz.pinned.checked.prog.funcNamed "flowpipe/flowpipelaw21.SeriesTruth" = some f) (hfn : Tryz.pinned.checked.prog.funcs[f]? = some fn) :
    false = Tryz.pinned.checked.prog.looks [] ∧ ∀ (j : Nat) t, fn.params[j]? = some t → Tryz.pinned.checked.prog.wantsStandIn t = false := by
  obtain rfl : f = 3 := Option.some.inj ((show Tryz.prog.funcNamed "flowpipe/flowpipelaw21.SeriesTruth" = some 3 by kernel_rfl).symm.trans hf) |>.symm
  obtain rfl : fn = Tryz.f3 := (Option.some.inj (Tryz.func3.symm.trans hfn)).symm
  refine ⟨by kernel_rfl, fun j t ht => ?_⟩
  rw [Tryz.params3] at ht
  have := Array.mem_of_getElem? ht
  simp at this
  rcases this with rfl | rfl
  all_goals first | exact (show Tryz.prog.wantsStandIn 3 = false by kernel_rfl) | exact (show Tryz.prog.wantsStandIn 22 = false by kernel_rfl)

theorem seriesTruth_holds : Rows.SeriesTruthUptoCardSaid :=
  Claim7.holds_tied_plain_at .later [] _ _ _ _ seriesTruth_said (fun _ h => by cases h) (by kernel_rfl) (fun _ h => by cases h) seriesTruthUpto_row_tie rfl ⟨rfl, rfl⟩ (by kernel_rfl) rfl seriesTruth_plain (by kernel_rfl)

end Go.Proofs.YtblicjipogbhmaaGreatDoor
