/- 'flowpipelaw21.SeriesSums' returns true for every input: each of its calls returns, and its arguments read as they did. -/
import Derived.Test.YteajloobgibenaaGreatDoorG1
import Derived.Test.YteajloobgibenaaGreatDoorSf
namespace Go.Proofs.YteajloobgibenaaGreatDoor
open Go.ChangeShapes Go.WideShapes Go.ChangeAt Go.RowKit

set_option maxRecDepth 100000 in
theorem seriesSums_contract (H : Type) (enc : TypeId × Value → H) (W : World) (base : Nat) (args : Array Value) (ds gs : List (DataW H)) (before : List MemPlace)
   (hval : ∀ (j : Nat) t v, Tryz.f4.params[j]? = some t → args[j]? = some v → Value.okWide Tryz.prog W .any base t v)
   (hW : DataW.Whole enc Tryz.prog Tryz.f4.params.toList Rows.seriesSumsSpec.vars false W args.toList ds gs before) (hL : laidMetH Tryz.prog Rows.seriesSumsRow.laid W) :
   Calls Tryz.prog 4 args W fun e W' => ∃ v, e = .returned v ∧ Rows.seriesSumsSpec.post enc Tryz.prog Tryz.f4 false true false false W args v W' := by
 have hW' := hW
 obtain ⟨p, q, hA0, hV, rfl, hfz, hnd⟩ := hW
 have hA : DataW.TrodAll enc Tryz.prog W 0 (fun _ => true) true Tryz.f4.params.toList args.toList ds p := hA0
 rw [Tryz.params4] at hA hval
 obtain ⟨v0, vs0, d0, ds0, p0, q0, ha0, hd0, hp0, h0, t0'⟩ := trodAll_cons hA
 obtain ⟨v1, vs1, d1, ds1, p1, q1, ha1, hd1, hp1, h1, t1'⟩ := trodAll_cons t0'
 obtain ⟨v2, vs2, d2, ds2, p2, q2, ha2, hd2, hp2, h2, t2'⟩ := trodAll_cons t1'
 obtain ⟨v3, vs3, d3, ds3, p3, q3, ha3, hd3, hp3, h3, t3'⟩ := trodAll_cons t2'
 obtain ⟨v4, vs4, d4, ds4, p4, q4, ha4, hd4, hp4, h4, t4'⟩ := trodAll_cons t3'
 obtain ⟨he1, he2, he3⟩ := trodAll_nil t4'
 obtain rfl : args = #[v0, v1, v2, v3, v4] := by cases args; simp_all
 clear hA0
 subst he1 he2 he3
 subst hd4 hp4
 subst hd3 hp3
 subst hd2 hp2
 subst hd1 hp1
 subst hd0 hp0
 obtain ⟨rfl, rfl⟩ := trodVars_none hV
 obtain ⟨_, ⟨a0, rfl, t0⟩, r0⟩ := Go.Abs.Rd.cell (μ := fun _ => none) r_ivs (by rintro _ ⟨x, rfl, _⟩; rfl) h0 (Go.Abs.one_slice Tryz.underlying22 (hval 0 22 v0 rfl rfl))
 obtain ⟨_, ⟨a1, rfl, t1⟩, r1⟩ := Go.Abs.Rd.cell (μ := fun _ => none) r_ivs (by rintro _ ⟨x, rfl, _⟩; rfl) h1 (Go.Abs.one_slice Tryz.underlying22 (hval 1 22 v1 rfl rfl))
 obtain ⟨_, ⟨a2, rfl, t2⟩, r2⟩ := Go.Abs.Rd.struct (μ := fun _ => none) r_iv Tryz.underlying27 (by rintro _ ⟨x, rfl, _⟩; exact ⟨_, rfl⟩) h2 (hval 2 27 v2 rfl rfl)
 obtain ⟨_, ⟨a3, rfl, t3⟩, r3⟩ := Go.Abs.Rd.cell (μ := fun _ => none) r_int (by rintro _ ⟨x, rfl, _⟩; rfl) h3 (Go.Abs.one_int Tryz.underlying3 (hval 3 3 v3 rfl rfl))
 obtain ⟨_, ⟨a4, rfl, t4⟩, r4⟩ := Go.Abs.Rd.cell (μ := fun _ => none) r_int (by rintro _ ⟨x, rfl, _⟩; rfl) h4 (Go.Abs.one_int Tryz.underlying3 (hval 4 3 v4 rfl rfl))
 refine (Go.Abs.law_calls seat (g := 334) (fid := 4) (by kernel_rfl) (Go.Abs.W.sumsR_cq a0 a1 a2 a3 a4 ⟨t0.len, fun x hx => ⟨(t0.all x hx).lo.li, (t0.all x hx).hi.li⟩⟩ ⟨t1.len, fun x hx => ⟨(t1.all x hx).lo.li, (t1.all x hx).hi.li⟩⟩ ⟨t2.lo.li, t2.hi.li⟩ []) (vs := [v0, v1, v2, v3, v4]) (W := W) ?_ (tabs hL)).mono fun e W' he => ?_
 · exact Go.Abs.Rs.cons r0 (Go.Abs.Rs.cons r1 (Go.Abs.Rs.cons r2 (Go.Abs.Rs.cons r3 (Go.Abs.Rs.cons r4 ⟨rfl, by simp⟩))))
 · obtain ⟨rfl, hb⟩ := he
   refine ⟨_, rfl, Go.Abs.post_true (tb := 4) laidOut rfl ?_ (by kernel_rfl) Tryz.underlying4 ⟨rfl, rfl, rfl⟩ hW' hb⟩
   rw [Tryz.params4]
   intro t ht
   simp at ht
   rcases ht with rfl | rfl | rfl <;> exact ⟨by kernel_rfl, of_decide_eq_true (by kernel_rfl)⟩

theorem seriesSums_met (os : Os) : laidMet Tryz.prog Rows.seriesSumsRow.laid ((laidWorld os).forCall (fun _ _ => 0) ⟨#[], #[.slice none 0 0, .slice none 0 0, zIvV, .int .i64 0, .int .i64 0], []⟩).memory :=
 laidMet_of_run' 8 (by kernel_rfl) (by kernel_rfl)
theorem seriesSums_reads (os : Os) {H : Type} (enc : TypeId × Value → H) :
   ∃ places, DataW.whole enc Tryz.prog ((laidWorld os).forCall (fun _ _ => 0) ⟨#[], #[.slice none 0 0, .slice none 0 0, zIvV, .int .i64 0, .int .i64 0], []⟩).memory Tryz.f4.params.toList Rows.seriesSumsSpec.vars false #[.slice none 0 0, .slice none 0 0, zIvV, .int .i64 0, .int .i64 0].toList 8 = some ([.nil, .nil, dIv, .lit (.int .i64 0), .lit (.int .i64 0)], [], places) :=
 ⟨[], by kernel_rfl⟩

set_option maxRecDepth 100000 in
theorem seriesSums_lifted (os : Os) (started : os.Started) (H : Type) (enc : TypeId × Value → H) (F : Stop.Interp) :
   ReturnsInHanded {} Tryz.checked os 4 .any ((OpenSpec.ofChange Rows.seriesSumsSpec).preRow enc Tryz.prog Tryz.f4 Rows.seriesSumsRow.domain false Rows.seriesSumsRow.laid) (((OpenSpec.ofChange Rows.seriesSumsSpec).at F).post enc Tryz.prog Tryz.f4 false true false false) := by
 obtain ⟨places, hx⟩ := seriesSums_reads os enc
 refine returnsInHanded_of_row (C := Tryz.checked) (s := OpenSpec.ofChange Rows.seriesSumsSpec) own started (by kernel_rfl) Tryz.func4
   (witness_row_at (enc := enc) (C := Tryz.checked) false (laidWorld os) #[.slice none 0 0, .slice none 0 0, zIvV, .int .i64 0, .int .i64 0] rfl (by kernel_rfl) (by kernel_rfl) (by kernel_rfl)
     (OpenSpec.preRow_of_cond 8 hx (by kernel_rfl) (fun k hk => by cases hk) (by kernel_rfl) (seriesSums_met os))) ?_
 intro W base args ds gs before hval hW _ _ _ hL _ _
 exact seriesSums_contract H enc W base args ds gs before hval hW hL

theorem seriesSums_said : Rows.SeriesSumsSaid :=
 OpenClaim.holds_of_cond 4 Tryz.f4 rfl rfl rfl rfl rfl rfl rfl ⟨rfl, rfl, rfl, rfl, rfl⟩ rfl rfl rfl rfl rfl (by kernel_rfl) Tryz.func4 (by kernel_rfl)
   (of_decide_eq_true (by kernel_rfl)) (by unfold Func.isWrapper; first | (rw [if_pos (by decide +kernel)]; kernel_rfl) | (rw [if_neg (by decide +kernel)]; exact ⟨rfl, rfl⟩))
   (fun os started H enc _ F => by rw [OpenClaim.pre_eq_preRow]; exact seriesSums_lifted os started H enc F)

set_option maxRecDepth 100000 in
theorem seriesSums_plain (f : FuncId) (fn : Func) (hf : Tryz.pinned.checked.prog.funcNamed "flowpipe/flowpipelaw21.SeriesSums" = some f) (hfn : Tryz.pinned.checked.prog.funcs[f]? = some fn) :
   false = Tryz.pinned.checked.prog.looks [] ∧ ∀ (j : Nat) t, fn.params[j]? = some t → Tryz.pinned.checked.prog.wantsStandIn t = false := by
 obtain rfl : f = 4 := Option.some.inj ((show Tryz.prog.funcNamed "flowpipe/flowpipelaw21.SeriesSums" = some 4 by kernel_rfl).symm.trans hf) |>.symm
 obtain rfl : fn = Tryz.f4 := (Option.some.inj (Tryz.func4.symm.trans hfn)).symm
 refine ⟨by kernel_rfl, fun j t ht => ?_⟩
 rw [Tryz.params4] at ht
 have := Array.mem_of_getElem? ht
 simp at this
 rcases this with rfl | rfl | rfl
 all_goals first | exact (show Tryz.prog.wantsStandIn 3 = false by kernel_rfl) | exact (show Tryz.prog.wantsStandIn 22 = false by kernel_rfl) | exact (show Tryz.prog.wantsStandIn 27 = false by kernel_rfl)

theorem seriesSums_holds : Rows.SeriesSumsCardSaid :=
 Claim7.holds_tied_plain_at .later [] _ _ _ _ seriesSums_said (fun _ h => by cases h) (by kernel_rfl) (fun _ h => by cases h) seriesSums_row_tie rfl ⟨rfl, rfl⟩ (by kernel_rfl) rfl seriesSums_plain (by kernel_rfl)

end Go.Proofs.YteajloobgibenaaGreatDoor
