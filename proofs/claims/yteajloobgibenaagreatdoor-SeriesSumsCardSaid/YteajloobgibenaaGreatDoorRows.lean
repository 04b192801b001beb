/-
  NARROWER THAN 'FOR EVERY INPUT', by the rows' own cells (each row's printed sentence says how): SeriesCalculus: laid · SeriesSums: laid · SeriesRules: laid · SeriesProducts: laid · SeriesIsotone: laid.
  DERIVED. THE GIVEN ROWS OF THIS SEAT. 5 by the template 'for every input the law returns true; each argument reads behind the call as it read before'; 0 by the template 'total and deterministic' (their statements: YteajloobgibenaaGreatDoorTotals.lean).
  GIVEN WITH THE SEED: the statements are not yours to turn. If you find one false, say at which input.
  Laid BY PROGRAM, IN A SANDBOX (cutbox-rows.mjs): the forced cells as the released guide's own fill.sh prints them over the translation 254ccdd7018d8a8e… (all of the seat's roots in one cut). By AI agents, Wed Nov 11 2026. No macro, syntax, notation, axiom, sorry.
-/
import Derived.Test.YteajloobgibenaaGreatDoorChecked
import GoSem.Claim
import GoSem.ClaimJoined
import GoSem.ClaimMapViews
import Derived.JoinedTies
import Derived.KernelRfl
namespace Go.Proofs.YteajloobgibenaaGreatDoor
/- THE CELL 'sum', in the pinned program and in every row, IS THE sha256 OF THE DUMP (.gsa) THAT YteajloobgibenaaGreatDoorProg.lean LOADS. Nothing in Lean hashes anything: it is a label: what it is worth is what the hold of that sum in a sandbox is worth. -/
noncomputable def Tryz.pinned : Pinned := { name := "yteajloobgibenaagreatdoor", sum := "254ccdd7018d8a8ebd0a360786daeacbb7f7191389045da3ce9fe09d12c34f9e", checked := Tryz.checked }
namespace Rows
def none {H : Type} : Left H := { results := [], args := [] }

/- WHAT THE LISTED PACKAGE-LEVEL VARIABLES READ AS WHEN THE CALL BEGINS. Each datum BY PROGRAM (the guide's laid-datum.mjs) off the statement by which the dump's own 'gosem.cut.vars' lays the variable. In a bare row this is a premise. The card (YteajloobgibenaaGreatDoorCards.lean) ties it to the program's text. -/
def laid_math_bits_deBruijn32tab {H : Type} : DataW H := .agg [.lit (.int .u8 0), .lit (.int .u8 1), .lit (.int .u8 28), .lit (.int .u8 2), .lit (.int .u8 29), .lit (.int .u8 14), .lit (.int .u8 24), .lit (.int .u8 3), .lit (.int .u8 30), .lit (.int .u8 22), .lit (.int .u8 20), .lit (.int .u8 15), .lit (.int .u8 25), .lit (.int .u8 17), .lit (.int .u8 4), .lit (.int .u8 8), .lit (.int .u8 31), .lit (.int .u8 27), .lit (.int .u8 13), .lit (.int .u8 23), .lit (.int .u8 21), .lit (.int .u8 19), .lit (.int .u8 16), .lit (.int .u8 7), .lit (.int .u8 26), .lit (.int .u8 12), .lit (.int .u8 18), .lit (.int .u8 6), .lit (.int .u8 11), .lit (.int .u8 5), .lit (.int .u8 10), .lit (.int .u8 9)]

/-- 'flowpipelaw21.SeriesCalculus': WHATEVER THE INPUT: true; the input reads as it did. -/
def seriesCalculusSpec : ChangeSpec := { name := "seriesCalculus", fn := fun _ => fun
  | [d1, d2, d3] => { results := [.lit (.bool true)], args := [d1, d2, d3] }
  | _ => none }
def seriesCalculusRow : OpenClaim := { program := "yteajloobgibenaagreatdoor", sum := "254ccdd7018d8a8ebd0a360786daeacbb7f7191389045da3ce9fe09d12c34f9e", func := "flowpipe/flowpipelaw21.SeriesCalculus", spec := "seriesCalculus", unfollowed := true, recurses := true, named := ["math/bits.deBruijn32tab", "math/bits.overflowError"], apart := false, laid := [("math/bits.deBruijn32tab", laid_math_bits_deBruijn32tab)] }
def SeriesCalculusSaid : Prop := seriesCalculusRow.holds Tryz.pinned (OpenSpec.ofChange seriesCalculusSpec)

/-- ITS FALSE NEIGHBOUR: 'it returns false'. Refute it at one input. -/
def seriesCalculusWrong : ChangeSpec := { name := "seriesCalculus", fn := fun _ => fun
  | [d1, d2, d3] => { results := [.lit (.bool false)], args := [d1, d2, d3] }
  | _ => none }
def SeriesCalculusWrongFalsely : Prop := seriesCalculusRow.holds Tryz.pinned (OpenSpec.ofChange seriesCalculusWrong)

/-- 'flowpipelaw21.SeriesSums': WHATEVER THE INPUT: true; the input reads as it did. -/
def seriesSumsSpec : ChangeSpec := { name := "seriesSums", fn := fun _ => fun
  | [d1, d2, d3, d4, d5] => { results := [.lit (.bool true)], args := [d1, d2, d3, d4, d5] }
  | _ => none }
def seriesSumsRow : OpenClaim := { program := "yteajloobgibenaagreatdoor", sum := "254ccdd7018d8a8ebd0a360786daeacbb7f7191389045da3ce9fe09d12c34f9e", func := "flowpipe/flowpipelaw21.SeriesSums", spec := "seriesSums", unfollowed := true, recurses := true, named := ["math/bits.deBruijn32tab", "math/bits.overflowError"], apart := false, laid := [("math/bits.deBruijn32tab", laid_math_bits_deBruijn32tab)] }
def SeriesSumsSaid : Prop := seriesSumsRow.holds Tryz.pinned (OpenSpec.ofChange seriesSumsSpec)

/-- ITS FALSE NEIGHBOUR: 'it returns false'. Refute it at one input. -/
def seriesSumsWrong : ChangeSpec := { name := "seriesSums", fn := fun _ => fun
  | [d1, d2, d3, d4, d5] => { results := [.lit (.bool false)], args := [d1, d2, d3, d4, d5] }
  | _ => none }
def SeriesSumsWrongFalsely : Prop := seriesSumsRow.holds Tryz.pinned (OpenSpec.ofChange seriesSumsWrong)

/-- 'flowpipelaw21.SeriesRules': WHATEVER THE INPUT: true; the input reads as it did. -/
def seriesRulesSpec : ChangeSpec := { name := "seriesRules", fn := fun _ => fun
  | [d1, d2, d3] => { results := [.lit (.bool true)], args := [d1, d2, d3] }
  | _ => none }
def seriesRulesRow : OpenClaim := { program := "yteajloobgibenaagreatdoor", sum := "254ccdd7018d8a8ebd0a360786daeacbb7f7191389045da3ce9fe09d12c34f9e", func := "flowpipe/flowpipelaw21.SeriesRules", spec := "seriesRules", unfollowed := true, recurses := true, named := ["math/bits.deBruijn32tab", "math/bits.overflowError"], apart := false, laid := [("math/bits.deBruijn32tab", laid_math_bits_deBruijn32tab)] }
def SeriesRulesSaid : Prop := seriesRulesRow.holds Tryz.pinned (OpenSpec.ofChange seriesRulesSpec)

/-- ITS FALSE NEIGHBOUR: 'it returns false'. Refute it at one input. -/
def seriesRulesWrong : ChangeSpec := { name := "seriesRules", fn := fun _ => fun
  | [d1, d2, d3] => { results := [.lit (.bool false)], args := [d1, d2, d3] }
  | _ => none }
def SeriesRulesWrongFalsely : Prop := seriesRulesRow.holds Tryz.pinned (OpenSpec.ofChange seriesRulesWrong)

/-- 'flowpipelaw21.SeriesProducts': WHATEVER THE INPUT: true; the input reads as it did. -/
def seriesProductsSpec : ChangeSpec := { name := "seriesProducts", fn := fun _ => fun
  | [d1, d2, d3, d4] => { results := [.lit (.bool true)], args := [d1, d2, d3, d4] }
  | _ => none }
def seriesProductsRow : OpenClaim := { program := "yteajloobgibenaagreatdoor", sum := "254ccdd7018d8a8ebd0a360786daeacbb7f7191389045da3ce9fe09d12c34f9e", func := "flowpipe/flowpipelaw21.SeriesProducts", spec := "seriesProducts", unfollowed := true, recurses := true, named := ["math/bits.deBruijn32tab", "math/bits.overflowError"], apart := false, laid := [("math/bits.deBruijn32tab", laid_math_bits_deBruijn32tab)] }
def SeriesProductsSaid : Prop := seriesProductsRow.holds Tryz.pinned (OpenSpec.ofChange seriesProductsSpec)

/-- ITS FALSE NEIGHBOUR: 'it returns false'. Refute it at one input. -/
def seriesProductsWrong : ChangeSpec := { name := "seriesProducts", fn := fun _ => fun
  | [d1, d2, d3, d4] => { results := [.lit (.bool false)], args := [d1, d2, d3, d4] }
  | _ => none }
def SeriesProductsWrongFalsely : Prop := seriesProductsRow.holds Tryz.pinned (OpenSpec.ofChange seriesProductsWrong)

/-- 'flowpipelaw21.SeriesIsotone': WHATEVER THE INPUT: true; the input reads as it did. -/
def seriesIsotoneSpec : ChangeSpec := { name := "seriesIsotone", fn := fun _ => fun
  | [d1, d2, d3, d4, d5, d6] => { results := [.lit (.bool true)], args := [d1, d2, d3, d4, d5, d6] }
  | _ => none }
def seriesIsotoneRow : OpenClaim := { program := "yteajloobgibenaagreatdoor", sum := "254ccdd7018d8a8ebd0a360786daeacbb7f7191389045da3ce9fe09d12c34f9e", func := "flowpipe/flowpipelaw21.SeriesIsotone", spec := "seriesIsotone", unfollowed := true, recurses := true, named := ["math/bits.deBruijn32tab", "math/bits.overflowError"], apart := false, laid := [("math/bits.deBruijn32tab", laid_math_bits_deBruijn32tab)] }
def SeriesIsotoneSaid : Prop := seriesIsotoneRow.holds Tryz.pinned (OpenSpec.ofChange seriesIsotoneSpec)

/-- ITS FALSE NEIGHBOUR: 'it returns false'. Refute it at one input. -/
def seriesIsotoneWrong : ChangeSpec := { name := "seriesIsotone", fn := fun _ => fun
  | [d1, d2, d3, d4, d5, d6] => { results := [.lit (.bool false)], args := [d1, d2, d3, d4, d5, d6] }
  | _ => none }
def SeriesIsotoneWrongFalsely : Prop := seriesIsotoneRow.holds Tryz.pinned (OpenSpec.ofChange seriesIsotoneWrong)

/- THE SECOND FORM. 'bulk': how many values and letters a reading holds, each counted each time it is reached (what is shared counts as often as it is met; a slice's spare places count too). A statement '..UptoSaid' is the law's where the arguments, and the package variables that the reading takes, are together of bulk at most 1048576: NARROWER than '..Said'. Prove '..Said' where nothing that the law and all that it calls make is longer than what came in: it says more and counts as full. Else prove '..UptoSaid'. A law counts once. -/
mutual
def uptoBulk {H : Type} : DataW H → Nat
  | .lit (.string bytes) => bytes.length + 1
  | .lit _ => 1
  | .nil => 1
  | .ptr d => uptoBulk d + 1
  | .slice elems spare => uptoBulkAll elems + uptoBulkAll spare + 1
  | .agg parts => uptoBulkAll parts + 1
  | .iface _ d => uptoBulk d + 1
  | .map entries => uptoBulkEntries entries + 1
  | .held _ => 1
def uptoBulkAll {H : Type} : List (DataW H) → Nat
  | [] => 0
  | d :: r => uptoBulk d + uptoBulkAll r
def uptoBulkEntries {H : Type} : List (Lit × DataW H) → Nat
  | [] => 0
  | x :: r => uptoBulkEntry x + uptoBulkEntries r
def uptoBulkEntry {H : Type} : Lit × DataW H → Nat
  | (.string bytes, d) => bytes.length + uptoBulk d + 1
  | (_, d) => uptoBulk d + 1
 end
def uptoSmall : (H : Type) → List (DataW H) → Bool := fun _ ds => decide (uptoBulkAll ds ≤ 1048576)
def OpenSpec.upto (s : _root_.Go.ChangeSpec) : _root_.Go.OpenSpec := { _root_.Go.OpenSpec.ofChange s with cond := some uptoSmall }

/-- 'flowpipelaw21.SeriesCalculus', WHERE WHAT IT READS IS OF BULK AT MOST 1048576: true; the input reads as it did. -/
def seriesCalculusUptoRow : OpenClaim := { program := "yteajloobgibenaagreatdoor", sum := "254ccdd7018d8a8ebd0a360786daeacbb7f7191389045da3ce9fe09d12c34f9e", func := "flowpipe/flowpipelaw21.SeriesCalculus", spec := "seriesCalculus", unfollowed := true, recurses := true, named := ["math/bits.deBruijn32tab", "math/bits.overflowError"], apart := false, laid := [("math/bits.deBruijn32tab", laid_math_bits_deBruijn32tab)], narrowed := true }
def SeriesCalculusUptoSaid : Prop := seriesCalculusUptoRow.holds Tryz.pinned (OpenSpec.upto seriesCalculusSpec)

/-- 'flowpipelaw21.SeriesSums', WHERE WHAT IT READS IS OF BULK AT MOST 1048576: true; the input reads as it did. -/
def seriesSumsUptoRow : OpenClaim := { program := "yteajloobgibenaagreatdoor", sum := "254ccdd7018d8a8ebd0a360786daeacbb7f7191389045da3ce9fe09d12c34f9e", func := "flowpipe/flowpipelaw21.SeriesSums", spec := "seriesSums", unfollowed := true, recurses := true, named := ["math/bits.deBruijn32tab", "math/bits.overflowError"], apart := false, laid := [("math/bits.deBruijn32tab", laid_math_bits_deBruijn32tab)], narrowed := true }
def SeriesSumsUptoSaid : Prop := seriesSumsUptoRow.holds Tryz.pinned (OpenSpec.upto seriesSumsSpec)

/-- 'flowpipelaw21.SeriesRules', WHERE WHAT IT READS IS OF BULK AT MOST 1048576: true; the input reads as it did. -/
def seriesRulesUptoRow : OpenClaim := { program := "yteajloobgibenaagreatdoor", sum := "254ccdd7018d8a8ebd0a360786daeacbb7f7191389045da3ce9fe09d12c34f9e", func := "flowpipe/flowpipelaw21.SeriesRules", spec := "seriesRules", unfollowed := true, recurses := true, named := ["math/bits.deBruijn32tab", "math/bits.overflowError"], apart := false, laid := [("math/bits.deBruijn32tab", laid_math_bits_deBruijn32tab)], narrowed := true }
def SeriesRulesUptoSaid : Prop := seriesRulesUptoRow.holds Tryz.pinned (OpenSpec.upto seriesRulesSpec)

/-- 'flowpipelaw21.SeriesProducts', WHERE WHAT IT READS IS OF BULK AT MOST 1048576: true; the input reads as it did. -/
def seriesProductsUptoRow : OpenClaim := { program := "yteajloobgibenaagreatdoor", sum := "254ccdd7018d8a8ebd0a360786daeacbb7f7191389045da3ce9fe09d12c34f9e", func := "flowpipe/flowpipelaw21.SeriesProducts", spec := "seriesProducts", unfollowed := true, recurses := true, named := ["math/bits.deBruijn32tab", "math/bits.overflowError"], apart := false, laid := [("math/bits.deBruijn32tab", laid_math_bits_deBruijn32tab)], narrowed := true }
def SeriesProductsUptoSaid : Prop := seriesProductsUptoRow.holds Tryz.pinned (OpenSpec.upto seriesProductsSpec)

/-- 'flowpipelaw21.SeriesIsotone', WHERE WHAT IT READS IS OF BULK AT MOST 1048576: true; the input reads as it did. -/
def seriesIsotoneUptoRow : OpenClaim := { program := "yteajloobgibenaagreatdoor", sum := "254ccdd7018d8a8ebd0a360786daeacbb7f7191389045da3ce9fe09d12c34f9e", func := "flowpipe/flowpipelaw21.SeriesIsotone", spec := "seriesIsotone", unfollowed := true, recurses := true, named := ["math/bits.deBruijn32tab", "math/bits.overflowError"], apart := false, laid := [("math/bits.deBruijn32tab", laid_math_bits_deBruijn32tab)], narrowed := true }
def SeriesIsotoneUptoSaid : Prop := seriesIsotoneUptoRow.holds Tryz.pinned (OpenSpec.upto seriesIsotoneSpec)

end Rows
end Go.Proofs.YteajloobgibenaaGreatDoor
