/-
  NARROWER THAN 'FOR EVERY INPUT', by the rows' own cells (each row's printed sentence says how): IntervalContains: laid · IntervalSums: laid · IntervalMakes: laid · IntervalProducts: laid · IntervalMeasures: laid · IntervalSets: laid · IntervalQuotients: laid · IntervalPowers: laid · IntervalExact: laid · IntervalIsotone: laid · IntervalPoison: laid.
  DERIVED. THE GIVEN ROWS OF THIS SEAT. 11 by the template 'for every input the law returns true; each argument reads behind the call as it read before'; 0 by the template 'total and deterministic' (their statements: YtmhloagengcelaaGreatDoorTotals.lean).
  GIVEN WITH THE SEED: the statements are not yours to turn. If you find one false, say at which input.
  Laid BY PROGRAM, IN A SANDBOX (cutbox-rows.mjs): the forced cells as the released guide's own fill.sh prints them over the translation 0cd73c3e83480a4e… (all of the seat's roots in one cut). By AI agents, Wed Nov 11 2026. No macro, syntax, notation, axiom, sorry.
-/
import Derived.Test.YtmhloagengcelaaGreatDoorChecked
import GoSem.Claim
import GoSem.ClaimJoined
import GoSem.ClaimMapViews
import Derived.JoinedTies
import Derived.KernelRfl
namespace Go.Proofs.YtmhloagengcelaaGreatDoor
/- THE CELL 'sum', in the pinned program and in every row, IS THE sha256 OF THE DUMP (.gsa) THAT YtmhloagengcelaaGreatDoorProg.lean LOADS. Nothing in Lean hashes anything: it is a label: what it is worth is what the hold of that sum in a sandbox is worth. -/
noncomputable def Tryz.pinned : Pinned := { name := "ytmhloagengcelaagreatdoor", sum := "0cd73c3e83480a4e2b2953c165dc667515a089170381fbf91c131b952643bc59", checked := Tryz.checked }
namespace Rows
def none {H : Type} : Left H := { results := [], args := [] }

/- WHAT THE LISTED PACKAGE-LEVEL VARIABLES READ AS WHEN THE CALL BEGINS. Each datum BY PROGRAM (the guide's laid-datum.mjs) off the statement by which the dump's own 'gosem.cut.vars' lays the variable. In a bare row this is a premise. The card (YtmhloagengcelaaGreatDoorCards.lean) ties it to the program's text. -/
def laid_math_bits_deBruijn32tab {H : Type} : DataW H := .agg [.lit (.int .u8 0), .lit (.int .u8 1), .lit (.int .u8 28), .lit (.int .u8 2), .lit (.int .u8 29), .lit (.int .u8 14), .lit (.int .u8 24), .lit (.int .u8 3), .lit (.int .u8 30), .lit (.int .u8 22), .lit (.int .u8 20), .lit (.int .u8 15), .lit (.int .u8 25), .lit (.int .u8 17), .lit (.int .u8 4), .lit (.int .u8 8), .lit (.int .u8 31), .lit (.int .u8 27), .lit (.int .u8 13), .lit (.int .u8 23), .lit (.int .u8 21), .lit (.int .u8 19), .lit (.int .u8 16), .lit (.int .u8 7), .lit (.int .u8 26), .lit (.int .u8 12), .lit (.int .u8 18), .lit (.int .u8 6), .lit (.int .u8 11), .lit (.int .u8 5), .lit (.int .u8 10), .lit (.int .u8 9)]

/-- 'flowpipelaw05.IntervalContains': WHATEVER THE INPUT: true; the input reads as it did. -/
def intervalContainsSpec : ChangeSpec := { name := "intervalContains", fn := fun _ => fun
  | [d1, d2, d3, d4, d5] => { results := [.lit (.bool true)], args := [d1, d2, d3, d4, d5] }
  | _ => none }
def intervalContainsRow : OpenClaim := { program := "ytmhloagengcelaagreatdoor", sum := "0cd73c3e83480a4e2b2953c165dc667515a089170381fbf91c131b952643bc59", func := "flowpipe/flowpipelaw05.IntervalContains", spec := "intervalContains", unfollowed := true, recurses := true, named := ["math/bits.overflowError", "math/bits.deBruijn32tab"], apart := false, laid := [("math/bits.deBruijn32tab", laid_math_bits_deBruijn32tab)] }
def IntervalContainsSaid : Prop := intervalContainsRow.holds Tryz.pinned (OpenSpec.ofChange intervalContainsSpec)

/-- ITS FALSE NEIGHBOUR: 'it returns false'. Refute it at one input. -/
def intervalContainsWrong : ChangeSpec := { name := "intervalContains", fn := fun _ => fun
  | [d1, d2, d3, d4, d5] => { results := [.lit (.bool false)], args := [d1, d2, d3, d4, d5] }
  | _ => none }
def IntervalContainsWrongFalsely : Prop := intervalContainsRow.holds Tryz.pinned (OpenSpec.ofChange intervalContainsWrong)

/-- 'flowpipelaw05.IntervalSums': WHATEVER THE INPUT: true; the input reads as it did. -/
def intervalSumsSpec : ChangeSpec := { name := "intervalSums", fn := fun _ => fun
  | [d1, d2, d3] => { results := [.lit (.bool true)], args := [d1, d2, d3] }
  | _ => none }
def intervalSumsRow : OpenClaim := { program := "ytmhloagengcelaagreatdoor", sum := "0cd73c3e83480a4e2b2953c165dc667515a089170381fbf91c131b952643bc59", func := "flowpipe/flowpipelaw05.IntervalSums", spec := "intervalSums", unfollowed := true, recurses := true, named := ["math/bits.overflowError", "math/bits.deBruijn32tab"], apart := false, laid := [("math/bits.deBruijn32tab", laid_math_bits_deBruijn32tab)] }
def IntervalSumsSaid : Prop := intervalSumsRow.holds Tryz.pinned (OpenSpec.ofChange intervalSumsSpec)

/-- ITS FALSE NEIGHBOUR: 'it returns false'. Refute it at one input. -/
def intervalSumsWrong : ChangeSpec := { name := "intervalSums", fn := fun _ => fun
  | [d1, d2, d3] => { results := [.lit (.bool false)], args := [d1, d2, d3] }
  | _ => none }
def IntervalSumsWrongFalsely : Prop := intervalSumsRow.holds Tryz.pinned (OpenSpec.ofChange intervalSumsWrong)

/-- 'flowpipelaw05.IntervalMakes': WHATEVER THE INPUT: true; the input reads as it did. -/
def intervalMakesSpec : ChangeSpec := { name := "intervalMakes", fn := fun _ => fun
  | [d] => { results := [.lit (.bool true)], args := [d] }
  | _ => none }
def intervalMakesRow : OpenClaim := { program := "ytmhloagengcelaagreatdoor", sum := "0cd73c3e83480a4e2b2953c165dc667515a089170381fbf91c131b952643bc59", func := "flowpipe/flowpipelaw05.IntervalMakes", spec := "intervalMakes", unfollowed := true, recurses := true, named := ["math/bits.overflowError", "math/bits.deBruijn32tab"], apart := false, laid := [("math/bits.deBruijn32tab", laid_math_bits_deBruijn32tab)] }
def IntervalMakesSaid : Prop := intervalMakesRow.holds Tryz.pinned (OpenSpec.ofChange intervalMakesSpec)

/-- ITS FALSE NEIGHBOUR: 'it returns false'. Refute it at one input. -/
def intervalMakesWrong : ChangeSpec := { name := "intervalMakes", fn := fun _ => fun
  | [d] => { results := [.lit (.bool false)], args := [d] }
  | _ => none }
def IntervalMakesWrongFalsely : Prop := intervalMakesRow.holds Tryz.pinned (OpenSpec.ofChange intervalMakesWrong)

/-- 'flowpipelaw05.IntervalProducts': WHATEVER THE INPUT: true; the input reads as it did. -/
def intervalProductsSpec : ChangeSpec := { name := "intervalProducts", fn := fun _ => fun
  | [d1, d2, d3, d4] => { results := [.lit (.bool true)], args := [d1, d2, d3, d4] }
  | _ => none }
def intervalProductsRow : OpenClaim := { program := "ytmhloagengcelaagreatdoor", sum := "0cd73c3e83480a4e2b2953c165dc667515a089170381fbf91c131b952643bc59", func := "flowpipe/flowpipelaw05.IntervalProducts", spec := "intervalProducts", unfollowed := true, recurses := true, named := ["math/bits.overflowError", "math/bits.deBruijn32tab"], apart := false, laid := [("math/bits.deBruijn32tab", laid_math_bits_deBruijn32tab)] }
def IntervalProductsSaid : Prop := intervalProductsRow.holds Tryz.pinned (OpenSpec.ofChange intervalProductsSpec)

/-- ITS FALSE NEIGHBOUR: 'it returns false'. Refute it at one input. -/
def intervalProductsWrong : ChangeSpec := { name := "intervalProducts", fn := fun _ => fun
  | [d1, d2, d3, d4] => { results := [.lit (.bool false)], args := [d1, d2, d3, d4] }
  | _ => none }
def IntervalProductsWrongFalsely : Prop := intervalProductsRow.holds Tryz.pinned (OpenSpec.ofChange intervalProductsWrong)

/-- 'flowpipelaw05.IntervalMeasures': WHATEVER THE INPUT: true; the input reads as it did. -/
def intervalMeasuresSpec : ChangeSpec := { name := "intervalMeasures", fn := fun _ => fun
  | [d1, d2] => { results := [.lit (.bool true)], args := [d1, d2] }
  | _ => none }
def intervalMeasuresRow : OpenClaim := { program := "ytmhloagengcelaagreatdoor", sum := "0cd73c3e83480a4e2b2953c165dc667515a089170381fbf91c131b952643bc59", func := "flowpipe/flowpipelaw05.IntervalMeasures", spec := "intervalMeasures", unfollowed := true, recurses := true, named := ["math/bits.overflowError", "math/bits.deBruijn32tab"], apart := false, laid := [("math/bits.deBruijn32tab", laid_math_bits_deBruijn32tab)] }
def IntervalMeasuresSaid : Prop := intervalMeasuresRow.holds Tryz.pinned (OpenSpec.ofChange intervalMeasuresSpec)

/-- ITS FALSE NEIGHBOUR: 'it returns false'. Refute it at one input. -/
def intervalMeasuresWrong : ChangeSpec := { name := "intervalMeasures", fn := fun _ => fun
  | [d1, d2] => { results := [.lit (.bool false)], args := [d1, d2] }
  | _ => none }
def IntervalMeasuresWrongFalsely : Prop := intervalMeasuresRow.holds Tryz.pinned (OpenSpec.ofChange intervalMeasuresWrong)

/-- 'flowpipelaw05.IntervalSets': WHATEVER THE INPUT: true; the input reads as it did. -/
def intervalSetsSpec : ChangeSpec := { name := "intervalSets", fn := fun _ => fun
  | [d1, d2, d3] => { results := [.lit (.bool true)], args := [d1, d2, d3] }
  | _ => none }
def intervalSetsRow : OpenClaim := { program := "ytmhloagengcelaagreatdoor", sum := "0cd73c3e83480a4e2b2953c165dc667515a089170381fbf91c131b952643bc59", func := "flowpipe/flowpipelaw05.IntervalSets", spec := "intervalSets", unfollowed := true, recurses := true, named := ["math/bits.overflowError", "math/bits.deBruijn32tab"], apart := false, laid := [("math/bits.deBruijn32tab", laid_math_bits_deBruijn32tab)] }
def IntervalSetsSaid : Prop := intervalSetsRow.holds Tryz.pinned (OpenSpec.ofChange intervalSetsSpec)

/-- ITS FALSE NEIGHBOUR: 'it returns false'. Refute it at one input. -/
def intervalSetsWrong : ChangeSpec := { name := "intervalSets", fn := fun _ => fun
  | [d1, d2, d3] => { results := [.lit (.bool false)], args := [d1, d2, d3] }
  | _ => none }
def IntervalSetsWrongFalsely : Prop := intervalSetsRow.holds Tryz.pinned (OpenSpec.ofChange intervalSetsWrong)

/-- 'flowpipelaw05.IntervalQuotients': WHATEVER THE INPUT: true; the input reads as it did. -/
def intervalQuotientsSpec : ChangeSpec := { name := "intervalQuotients", fn := fun _ => fun
  | [d1, d2, d3] => { results := [.lit (.bool true)], args := [d1, d2, d3] }
  | _ => none }
def intervalQuotientsRow : OpenClaim := { program := "ytmhloagengcelaagreatdoor", sum := "0cd73c3e83480a4e2b2953c165dc667515a089170381fbf91c131b952643bc59", func := "flowpipe/flowpipelaw05.IntervalQuotients", spec := "intervalQuotients", unfollowed := true, recurses := true, named := ["math/bits.overflowError", "math/bits.deBruijn32tab"], apart := false, laid := [("math/bits.deBruijn32tab", laid_math_bits_deBruijn32tab)] }
def IntervalQuotientsSaid : Prop := intervalQuotientsRow.holds Tryz.pinned (OpenSpec.ofChange intervalQuotientsSpec)

/-- ITS FALSE NEIGHBOUR: 'it returns false'. Refute it at one input. -/
def intervalQuotientsWrong : ChangeSpec := { name := "intervalQuotients", fn := fun _ => fun
  | [d1, d2, d3] => { results := [.lit (.bool false)], args := [d1, d2, d3] }
  | _ => none }
def IntervalQuotientsWrongFalsely : Prop := intervalQuotientsRow.holds Tryz.pinned (OpenSpec.ofChange intervalQuotientsWrong)

/-- 'flowpipelaw05.IntervalPowers': WHATEVER THE INPUT: true; the input reads as it did. -/
def intervalPowersSpec : ChangeSpec := { name := "intervalPowers", fn := fun _ => fun
  | [d1, d2, d3] => { results := [.lit (.bool true)], args := [d1, d2, d3] }
  | _ => none }
def intervalPowersRow : OpenClaim := { program := "ytmhloagengcelaagreatdoor", sum := "0cd73c3e83480a4e2b2953c165dc667515a089170381fbf91c131b952643bc59", func := "flowpipe/flowpipelaw05.IntervalPowers", spec := "intervalPowers", unfollowed := true, recurses := true, named := ["math/bits.overflowError", "math/bits.deBruijn32tab"], apart := false, laid := [("math/bits.deBruijn32tab", laid_math_bits_deBruijn32tab)] }
def IntervalPowersSaid : Prop := intervalPowersRow.holds Tryz.pinned (OpenSpec.ofChange intervalPowersSpec)

/-- ITS FALSE NEIGHBOUR: 'it returns false'. Refute it at one input. -/
def intervalPowersWrong : ChangeSpec := { name := "intervalPowers", fn := fun _ => fun
  | [d1, d2, d3] => { results := [.lit (.bool false)], args := [d1, d2, d3] }
  | _ => none }
def IntervalPowersWrongFalsely : Prop := intervalPowersRow.holds Tryz.pinned (OpenSpec.ofChange intervalPowersWrong)

/-- 'flowpipelaw05.IntervalExact': WHATEVER THE INPUT: true; the input reads as it did. -/
def intervalExactSpec : ChangeSpec := { name := "intervalExact", fn := fun _ => fun
  | [d1, d2, d3] => { results := [.lit (.bool true)], args := [d1, d2, d3] }
  | _ => none }
def intervalExactRow : OpenClaim := { program := "ytmhloagengcelaagreatdoor", sum := "0cd73c3e83480a4e2b2953c165dc667515a089170381fbf91c131b952643bc59", func := "flowpipe/flowpipelaw05.IntervalExact", spec := "intervalExact", unfollowed := true, recurses := true, named := ["math/bits.overflowError", "math/bits.deBruijn32tab"], apart := false, laid := [("math/bits.deBruijn32tab", laid_math_bits_deBruijn32tab)] }
def IntervalExactSaid : Prop := intervalExactRow.holds Tryz.pinned (OpenSpec.ofChange intervalExactSpec)

/-- ITS FALSE NEIGHBOUR: 'it returns false'. Refute it at one input. -/
def intervalExactWrong : ChangeSpec := { name := "intervalExact", fn := fun _ => fun
  | [d1, d2, d3] => { results := [.lit (.bool false)], args := [d1, d2, d3] }
  | _ => none }
def IntervalExactWrongFalsely : Prop := intervalExactRow.holds Tryz.pinned (OpenSpec.ofChange intervalExactWrong)

/-- 'flowpipelaw05.IntervalIsotone': WHATEVER THE INPUT: true; the input reads as it did. -/
def intervalIsotoneSpec : ChangeSpec := { name := "intervalIsotone", fn := fun _ => fun
  | [d1, d2, d3, d4, d5, d6] => { results := [.lit (.bool true)], args := [d1, d2, d3, d4, d5, d6] }
  | _ => none }
def intervalIsotoneRow : OpenClaim := { program := "ytmhloagengcelaagreatdoor", sum := "0cd73c3e83480a4e2b2953c165dc667515a089170381fbf91c131b952643bc59", func := "flowpipe/flowpipelaw05.IntervalIsotone", spec := "intervalIsotone", unfollowed := true, recurses := true, named := ["math/bits.overflowError", "math/bits.deBruijn32tab"], apart := false, laid := [("math/bits.deBruijn32tab", laid_math_bits_deBruijn32tab)] }
def IntervalIsotoneSaid : Prop := intervalIsotoneRow.holds Tryz.pinned (OpenSpec.ofChange intervalIsotoneSpec)

/-- ITS FALSE NEIGHBOUR: 'it returns false'. Refute it at one input. -/
def intervalIsotoneWrong : ChangeSpec := { name := "intervalIsotone", fn := fun _ => fun
  | [d1, d2, d3, d4, d5, d6] => { results := [.lit (.bool false)], args := [d1, d2, d3, d4, d5, d6] }
  | _ => none }
def IntervalIsotoneWrongFalsely : Prop := intervalIsotoneRow.holds Tryz.pinned (OpenSpec.ofChange intervalIsotoneWrong)

/-- 'flowpipelaw05.IntervalPoison': WHATEVER THE INPUT: true; the input reads as it did. -/
def intervalPoisonSpec : ChangeSpec := { name := "intervalPoison", fn := fun _ => fun
  | [d1, d2, d3] => { results := [.lit (.bool true)], args := [d1, d2, d3] }
  | _ => none }
def intervalPoisonRow : OpenClaim := { program := "ytmhloagengcelaagreatdoor", sum := "0cd73c3e83480a4e2b2953c165dc667515a089170381fbf91c131b952643bc59", func := "flowpipe/flowpipelaw05.IntervalPoison", spec := "intervalPoison", unfollowed := true, recurses := true, named := ["math/bits.overflowError", "math/bits.deBruijn32tab"], apart := false, laid := [("math/bits.deBruijn32tab", laid_math_bits_deBruijn32tab)] }
def IntervalPoisonSaid : Prop := intervalPoisonRow.holds Tryz.pinned (OpenSpec.ofChange intervalPoisonSpec)

/-- ITS FALSE NEIGHBOUR: 'it returns false'. Refute it at one input. -/
def intervalPoisonWrong : ChangeSpec := { name := "intervalPoison", fn := fun _ => fun
  | [d1, d2, d3] => { results := [.lit (.bool false)], args := [d1, d2, d3] }
  | _ => none }
def IntervalPoisonWrongFalsely : Prop := intervalPoisonRow.holds Tryz.pinned (OpenSpec.ofChange intervalPoisonWrong)

/- THE SECOND FORM. 'bulk': how many values and letters a reading holds, each counted each time it is reached (what is shared counts as often as it is met; a slice's spare places count too). A statement '..UptoSaid' is the law's where the arguments, and the package variables that the reading takes, are together of bulk at most 1048576: NARROWER than '..Said'. Prove '..Said' where nothing that the law and all that it calls make is longer than what came in: it says more and counts as full. Else prove '..UptoSaid'. A law counts once. -/
mutual
def uptoBulk {H : Type} : DataW H → Nat
  | .lit (.string bytes) => bytes.length + 1
  | .lit _ => 1
  | .nil => 1
  | .ptr d => uptoBulk d + 1
  | .slice elems spare => uptoBulkAll elems + uptoBulkAll spare + 1
  | .agg parts => uptoBulkAll parts + 1
  | .iface _ d => uptoBulk d + 1
  | .map entries => uptoBulkEntries entries + 1
  | .held _ => 1
def uptoBulkAll {H : Type} : List (DataW H) → Nat
  | [] => 0
  | d :: r => uptoBulk d + uptoBulkAll r
def uptoBulkEntries {H : Type} : List (Lit × DataW H) → Nat
  | [] => 0
  | x :: r => uptoBulkEntry x + uptoBulkEntries r
def uptoBulkEntry {H : Type} : Lit × DataW H → Nat
  | (.string bytes, d) => bytes.length + uptoBulk d + 1
  | (_, d) => uptoBulk d + 1
 end
def uptoSmall : (H : Type) → List (DataW H) → Bool := fun _ ds => decide (uptoBulkAll ds ≤ 1048576)
def OpenSpec.upto (s : _root_.Go.ChangeSpec) : _root_.Go.OpenSpec := { _root_.Go.OpenSpec.ofChange s with cond := some uptoSmall }

/-- 'flowpipelaw05.IntervalContains', WHERE WHAT IT READS IS OF BULK AT MOST 1048576: true; the input reads as it did. -/
def intervalContainsUptoRow : OpenClaim := { program := "ytmhloagengcelaagreatdoor", sum := "0cd73c3e83480a4e2b2953c165dc667515a089170381fbf91c131b952643bc59", func := "flowpipe/flowpipelaw05.IntervalContains", spec := "intervalContains", unfollowed := true, recurses := true, named := ["math/bits.overflowError", "math/bits.deBruijn32tab"], apart := false, laid := [("math/bits.deBruijn32tab", laid_math_bits_deBruijn32tab)], narrowed := true }
def IntervalContainsUptoSaid : Prop := intervalContainsUptoRow.holds Tryz.pinned (OpenSpec.upto intervalContainsSpec)

/-- 'flowpipelaw05.IntervalSums', WHERE WHAT IT READS IS OF BULK AT MOST 1048576: true; the input reads as it did. -/
def intervalSumsUptoRow : OpenClaim := { program := "ytmhloagengcelaagreatdoor", sum := "0cd73c3e83480a4e2b2953c165dc667515a089170381fbf91c131b952643bc59", func := "flowpipe/flowpipelaw05.IntervalSums", spec := "intervalSums", unfollowed := true, recurses := true, named := ["math/bits.overflowError", "math/bits.deBruijn32tab"], apart := false, laid := [("math/bits.deBruijn32tab", laid_math_bits_deBruijn32tab)], narrowed := true }
def IntervalSumsUptoSaid : Prop := intervalSumsUptoRow.holds Tryz.pinned (OpenSpec.upto intervalSumsSpec)

/-- 'flowpipelaw05.IntervalMakes', WHERE WHAT IT READS IS OF BULK AT MOST 1048576: true; the input reads as it did. -/
def intervalMakesUptoRow : OpenClaim := { program := "ytmhloagengcelaagreatdoor", sum := "0cd73c3e83480a4e2b2953c165dc667515a089170381fbf91c131b952643bc59", func := "flowpipe/flowpipelaw05.IntervalMakes", spec := "intervalMakes", unfollowed := true, recurses := true, named := ["math/bits.overflowError", "math/bits.deBruijn32tab"], apart := false, laid := [("math/bits.deBruijn32tab", laid_math_bits_deBruijn32tab)], narrowed := true }
def IntervalMakesUptoSaid : Prop := intervalMakesUptoRow.holds Tryz.pinned (OpenSpec.upto intervalMakesSpec)

/-- 'flowpipelaw05.IntervalProducts', WHERE WHAT IT READS IS OF BULK AT MOST 1048576: true; the input reads as it did. -/
def intervalProductsUptoRow : OpenClaim := { program := "ytmhloagengcelaagreatdoor", sum := "0cd73c3e83480a4e2b2953c165dc667515a089170381fbf91c131b952643bc59", func := "flowpipe/flowpipelaw05.IntervalProducts", spec := "intervalProducts", unfollowed := true, recurses := true, named := ["math/bits.overflowError", "math/bits.deBruijn32tab"], apart := false, laid := [("math/bits.deBruijn32tab", laid_math_bits_deBruijn32tab)], narrowed := true }
def IntervalProductsUptoSaid : Prop := intervalProductsUptoRow.holds Tryz.pinned (OpenSpec.upto intervalProductsSpec)

/-- 'flowpipelaw05.IntervalMeasures', WHERE WHAT IT READS IS OF BULK AT MOST 1048576: true; the input reads as it did. -/
def intervalMeasuresUptoRow : OpenClaim := { program := "ytmhloagengcelaagreatdoor", sum := "0cd73c3e83480a4e2b2953c165dc667515a089170381fbf91c131b952643bc59", func := "flowpipe/flowpipelaw05.IntervalMeasures", spec := "intervalMeasures", unfollowed := true, recurses := true, named := ["math/bits.overflowError", "math/bits.deBruijn32tab"], apart := false, laid := [("math/bits.deBruijn32tab", laid_math_bits_deBruijn32tab)], narrowed := true }
def IntervalMeasuresUptoSaid : Prop := intervalMeasuresUptoRow.holds Tryz.pinned (OpenSpec.upto intervalMeasuresSpec)

/-- 'flowpipelaw05.IntervalSets', WHERE WHAT IT READS IS OF BULK AT MOST 1048576: true; the input reads as it did. -/
def intervalSetsUptoRow : OpenClaim := { program := "ytmhloagengcelaagreatdoor", sum := "0cd73c3e83480a4e2b2953c165dc667515a089170381fbf91c131b952643bc59", func := "flowpipe/flowpipelaw05.IntervalSets", spec := "intervalSets", unfollowed := true, recurses := true, named := ["math/bits.overflowError", "math/bits.deBruijn32tab"], apart := false, laid := [("math/bits.deBruijn32tab", laid_math_bits_deBruijn32tab)], narrowed := true }
def IntervalSetsUptoSaid : Prop := intervalSetsUptoRow.holds Tryz.pinned (OpenSpec.upto intervalSetsSpec)

/-- 'flowpipelaw05.IntervalQuotients', WHERE WHAT IT READS IS OF BULK AT MOST 1048576: true; the input reads as it did. -/
def intervalQuotientsUptoRow : OpenClaim := { program := "ytmhloagengcelaagreatdoor", sum := "0cd73c3e83480a4e2b2953c165dc667515a089170381fbf91c131b952643bc59", func := "flowpipe/flowpipelaw05.IntervalQuotients", spec := "intervalQuotients", unfollowed := true, recurses := true, named := ["math/bits.overflowError", "math/bits.deBruijn32tab"], apart := false, laid := [("math/bits.deBruijn32tab", laid_math_bits_deBruijn32tab)], narrowed := true }
def IntervalQuotientsUptoSaid : Prop := intervalQuotientsUptoRow.holds Tryz.pinned (OpenSpec.upto intervalQuotientsSpec)

/-- 'flowpipelaw05.IntervalPowers', WHERE WHAT IT READS IS OF BULK AT MOST 1048576: true; the input reads as it did. -/
def intervalPowersUptoRow : OpenClaim := { program := "ytmhloagengcelaagreatdoor", sum := "0cd73c3e83480a4e2b2953c165dc667515a089170381fbf91c131b952643bc59", func := "flowpipe/flowpipelaw05.IntervalPowers", spec := "intervalPowers", unfollowed := true, recurses := true, named := ["math/bits.overflowError", "math/bits.deBruijn32tab"], apart := false, laid := [("math/bits.deBruijn32tab", laid_math_bits_deBruijn32tab)], narrowed := true }
def IntervalPowersUptoSaid : Prop := intervalPowersUptoRow.holds Tryz.pinned (OpenSpec.upto intervalPowersSpec)

/-- 'flowpipelaw05.IntervalExact', WHERE WHAT IT READS IS OF BULK AT MOST 1048576: true; the input reads as it did. -/
def intervalExactUptoRow : OpenClaim := { program := "ytmhloagengcelaagreatdoor", sum := "0cd73c3e83480a4e2b2953c165dc667515a089170381fbf91c131b952643bc59", func := "flowpipe/flowpipelaw05.IntervalExact", spec := "intervalExact", unfollowed := true, recurses := true, named := ["math/bits.overflowError", "math/bits.deBruijn32tab"], apart := false, laid := [("math/bits.deBruijn32tab", laid_math_bits_deBruijn32tab)], narrowed := true }
def IntervalExactUptoSaid : Prop := intervalExactUptoRow.holds Tryz.pinned (OpenSpec.upto intervalExactSpec)

/-- 'flowpipelaw05.IntervalIsotone', WHERE WHAT IT READS IS OF BULK AT MOST 1048576: true; the input reads as it did. -/
def intervalIsotoneUptoRow : OpenClaim := { program := "ytmhloagengcelaagreatdoor", sum := "0cd73c3e83480a4e2b2953c165dc667515a089170381fbf91c131b952643bc59", func := "flowpipe/flowpipelaw05.IntervalIsotone", spec := "intervalIsotone", unfollowed := true, recurses := true, named := ["math/bits.overflowError", "math/bits.deBruijn32tab"], apart := false, laid := [("math/bits.deBruijn32tab", laid_math_bits_deBruijn32tab)], narrowed := true }
def IntervalIsotoneUptoSaid : Prop := intervalIsotoneUptoRow.holds Tryz.pinned (OpenSpec.upto intervalIsotoneSpec)

/-- 'flowpipelaw05.IntervalPoison', WHERE WHAT IT READS IS OF BULK AT MOST 1048576: true; the input reads as it did. -/
def intervalPoisonUptoRow : OpenClaim := { program := "ytmhloagengcelaagreatdoor", sum := "0cd73c3e83480a4e2b2953c165dc667515a089170381fbf91c131b952643bc59", func := "flowpipe/flowpipelaw05.IntervalPoison", spec := "intervalPoison", unfollowed := true, recurses := true, named := ["math/bits.overflowError", "math/bits.deBruijn32tab"], apart := false, laid := [("math/bits.deBruijn32tab", laid_math_bits_deBruijn32tab)], narrowed := true }
def IntervalPoisonUptoSaid : Prop := intervalPoisonUptoRow.holds Tryz.pinned (OpenSpec.upto intervalPoisonSpec)

end Rows
end Go.Proofs.YtmhloagengcelaaGreatDoor
