/- 'flowpipelaw48.BinRatios' returns true for every input: each of its calls returns, and its arguments read as they did. -/
import Derived.Test.YtfioikimlnlcbaaDoorRows
import Derived.WalkKit
import Derived.ProofKit
import Derived.OpenShut
import Derived.Test.YtfioikimlnlcbaaDoorG0
import Derived.Test.YtfioikimlnlcbaaDoorGr
import Derived.Test.YtfioikimlnlcbaaDoorBf
namespace Go.Abs.W
open Go.ChangeShapes Go.RowKit
abbrev isI (v : V) : Prop := ∃ n, v = .int .i64 n ∧ IntKind.i64.min ≤ n ∧ n ≤ IntKind.i64.max
theorem rd_rt {H : Type} {enc : TypeId × Value → H} {P : Program} {w : World} {gid : Gid} {t : TypeId} {f0 f1 : Field} (ht : P.underlying t = some (.struct #[f0, f1])) (hz : P.cellsOf t = 2) (h0 : P.underlying f0.type = some (.int .i64)) (h1 : P.underlying f1.type = some (.int .i64))
    (hoff : [f0, f1].foldl (fun (o : Option Nat) f => o.bind fun o => if f.offset = o then some (o + P.cellsOf f.type) else none) (some 0) = some 2) :
    Rd enc P w gid t (fun v => ∃ n d : Int, v = .agg [.int .i64 n, .int .i64 d]) :=
  (qjs [isI, isI] ht hz rfl (by
    intro i f Q hf hQ
    match i with
    | 0 => cases hf; cases hQ; exact qnp h0
    | 1 => cases hf; cases hQ; exact qnp h1
    | i + 2 => simp at hf) hoff).mono fun v => by
    rintro ⟨vs, rfl, hl, hq⟩
    obtain ⟨a, b, rfl, ⟨x, rfl, _⟩, ⟨y, rfl, _⟩⟩ := Qs2 hl hq
    exact ⟨x, y, rfl⟩
end Go.Abs.W
namespace Go.Proofs.YtfioikimlnlcbaaDoor
open Go.ChangeShapes Go.WideShapes Go.ChangeAt Go.RowKit

theorem own : ownKnob Tryd.prog.godebug = none := by kernel_rfl
theorem laidOut : laidOutB Tryd.prog = true := by kernel_rfl
theorem seat : Go.Abs.Seat Go.Abs.tab Go.Abs.prog := ⟨Go.Abs.qsr, Go.Abs.qwr, fun _ _ _ _ _ _ h => by cases h⟩
theorem tabs {W : World} : Go.Abs.Tabs Go.Abs.tab.gid W fun _ => False := by
  intro g cs hg
  cases hg

section
variable {H : Type} {enc : TypeId × Value → H} {w : World}
theorem r_u32s : Go.Abs.Rd enc Tryd.prog w Go.Abs.tab.gid 24 (fun v => ∃ l : List Nat, v = Go.Abs.lim l ∧ Go.Abs.Li l ∧ l.length ≤ maxLen) := Go.Abs.W.qw1 Tryd.underlying24 Tryd.underlying37 (by kernel_rfl)
theorem r_dy : Go.Abs.Rd enc Tryd.prog w Go.Abs.tab.gid 26 (fun v => ∃ d : Go.Abs.W.Dy, v = d.v ∧ d.T) := Go.Abs.W.rd_dy Tryd.underlying26 (by kernel_rfl) Tryd.underlying4 r_u32s Tryd.underlying3 (by kernel_rfl)
theorem r_iv : Go.Abs.Rd enc Tryd.prog w Go.Abs.tab.gid 28 (fun v => ∃ x : Go.Abs.W.Iv, v = x.v ∧ x.T) := Go.Abs.W.rd_iv Tryd.underlying28 (by kernel_rfl) r_dy r_dy Tryd.underlying4 (by kernel_rfl)
theorem r_rt : Go.Abs.Rd enc Tryd.prog w Go.Abs.tab.gid 23 (fun v => ∃ n d : Int, v = .agg [.int .i64 n, .int .i64 d]) := Go.Abs.W.rd_rt Tryd.underlying23 (by kernel_rfl) Tryd.underlying3 Tryd.underlying3 (by kernel_rfl)
theorem r_int : Go.Abs.Rd enc Tryd.prog w Go.Abs.tab.gid 3 (fun v => ∃ n, v = .int .i64 n ∧ IntKind.i64.min ≤ n ∧ n ≤ IntKind.i64.max) := Go.Abs.qnp Tryd.underlying3
end

def zRt : Value := .agg #[.int .i64 0, .int .i64 0]
def zIvV : Value := .agg #[.bool false, .slice none 0 0, .int .i64 0, .bool false, .slice none 0 0, .int .i64 0, .bool false]

set_option maxRecDepth 100000 in
theorem binRatios_lifted (os : Os) (started : os.Started) (H : Type) (enc : TypeId × Value → H) :
    ReturnsInHanded {} Tryd.checked os 3 .any (Rows.binRatiosSpec.pre6 enc Tryd.prog Tryd.f3 Rows.binRatiosRow.domain false) (Rows.binRatiosSpec.post enc Tryd.prog Tryd.f3 false true false false) := by
  refine returnsInHanded_of_change (C := Tryd.checked) own started (by kernel_rfl) Tryd.func3
    (ChangeSpec.witness6 (enc := enc) (C := Tryd.checked) false ⟨#[], #[zRt, zIvV, zIvV, .int .i64 0], []⟩ 8 (by kernel_rfl) (by kernel_rfl) (by kernel_rfl) (by kernel_rfl)) ?_
  intro W base args ds gs before hval0 hW hcnd _
  have hval : ∀ (j : Nat) t v, Tryd.f3.params[j]? = some t → args[j]? = some v → Value.okWide Tryd.prog W .any base t v := hval0
  have hW' : DataW.Whole enc Tryd.prog Tryd.f3.params.toList Rows.binRatiosSpec.vars false W args.toList ds gs before := hW
  obtain ⟨p, q, hA0, hV, rfl, hfz, hnd⟩ := hW
  have hA : DataW.TrodAll enc Tryd.prog W 0 (fun _ => true) true Tryd.f3.params.toList args.toList ds p := hA0
  rw [Tryd.params3] at hA hval
  obtain ⟨v0, v1, v2, v3, d0, d1, d2, d3, p0, p1, p2, p3, rfl, rfl, rfl, h0, h1, h2, h3⟩ := trodAll_four hA
  obtain ⟨rfl, rfl⟩ := trodVars_none hV
  obtain ⟨_, ⟨n, m, rfl⟩, r0⟩ := Go.Abs.Rd.struct (μ := fun _ => none) r_rt Tryd.underlying23 (by rintro _ ⟨x, y, rfl⟩; exact ⟨_, rfl⟩) h0 (hval 0 23 v0 rfl rfl)
  obtain ⟨_, ⟨x, rfl, t1⟩, r1⟩ := Go.Abs.Rd.struct (μ := fun _ => none) r_iv Tryd.underlying28 (by rintro _ ⟨x, rfl, _⟩; exact ⟨_, rfl⟩) h1 (hval 1 28 v1 rfl rfl)
  obtain ⟨_, ⟨y, rfl, t2⟩, r2⟩ := Go.Abs.Rd.struct (μ := fun _ => none) r_iv Tryd.underlying28 (by rintro _ ⟨x, rfl, _⟩; exact ⟨_, rfl⟩) h2 (hval 2 28 v2 rfl rfl)
  obtain ⟨_, ⟨k, rfl, t3⟩, r3⟩ := Go.Abs.Rd.cell (μ := fun _ => none) r_int (by rintro _ ⟨x, rfl, _⟩; rfl) h3 (Go.Abs.qw5 Tryd.underlying3 (hval 3 3 v3 rfl rfl))
  refine (Go.Abs.qtq seat (g := 620) (fid := 3) (by kernel_rfl) (Go.Abs.W.qoz n m x y k ⟨t1.lo.li, t1.hi.li⟩ ⟨t2.lo.li, t2.hi.li⟩ []) (vs := [v0, v1, v2, v3]) (W := W) ?_ tabs).mono fun e W' he => ?_
  · exact Go.Abs.Rs.cons r0 (Go.Abs.Rs.cons r1 (Go.Abs.Rs.cons r2 (Go.Abs.Rs.cons r3 ⟨rfl, by simp⟩)))
  · obtain ⟨rfl, hb⟩ := he
    refine ⟨_, rfl, Go.Abs.qtg (tb := 4) laidOut rfl ?_ (by kernel_rfl) Tryd.underlying4 ⟨rfl, rfl, rfl⟩ hW' hb⟩
    rw [Tryd.params3]
    intro t ht
    simp at ht
    rcases ht with rfl | rfl | rfl <;> exact ⟨by kernel_rfl, of_decide_eq_true (by kernel_rfl)⟩

theorem binRatios_holds : Rows.BinRatiosSaid :=
  OpenClaim.holds_of_wide 3 Tryd.f3 rfl rfl rfl rfl rfl rfl rfl ⟨rfl, rfl, rfl, rfl, rfl⟩ rfl rfl rfl rfl rfl (by kernel_rfl) Tryd.func3 (by kernel_rfl)
    (of_decide_eq_true (by kernel_rfl)) (by unfold Func.isWrapper; first | (rw [if_pos (by decide +kernel)]; kernel_rfl) | (rw [if_neg (by decide +kernel)]; exact ⟨rfl, rfl⟩))
    (fun os started H enc _ => binRatios_lifted os started H enc)

end Go.Proofs.YtfioikimlnlcbaaDoor
