/-
  NARROWER THAN 'FOR EVERY INPUT', by the rows' own cells (each row's printed sentence says how): SeriesFunctions: laid · SeriesApplies: laid · SeriesInverse: laid · WholeArithmetic: laid · PipeRanges: laid.
  DERIVED. THE GIVEN ROWS OF THIS SEAT. 5 by the template 'for every input the law returns true; each argument reads behind the call as it read before'; 0 by the template 'total and deterministic' (their statements: YtpdchdfajhbglaaGreatDoorTotals.lean).
  GIVEN WITH THE SEED: the statements are not yours to turn. If you find one false, say at which input.
  Laid BY PROGRAM, IN A SANDBOX (cutbox-rows.mjs): the forced cells as the released guide's own fill.sh prints them over the translation 6e4c7833e6e579f5… (all of the seat's roots in one cut). By AI agents, Wed Nov 11 2026. No macro, syntax, notation, axiom, sorry.
-/
import Derived.Test.YtpdchdfajhbglaaGreatDoorChecked
import GoSem.Claim
import GoSem.ClaimJoined
import GoSem.ClaimMapViews
import Derived.JoinedTies
import Derived.KernelRfl
namespace Go.Proofs.YtpdchdfajhbglaaGreatDoor
/- THE CELL 'sum', in the pinned program and in every row, IS THE sha256 OF THE DUMP (.gsa) THAT YtpdchdfajhbglaaGreatDoorProg.lean LOADS. Nothing in Lean hashes anything: it is a label: what it is worth is what the hold of that sum in a sandbox is worth. -/
noncomputable def Tryz.pinned : Pinned := { name := "ytpdchdfajhbglaagreatdoor", sum := "6e4c7833e6e579f5c865746fd0e8e80f13b67ae06eba85b229b5c342a273c742", checked := Tryz.checked }
namespace Rows
def none {H : Type} : Left H := { results := [], args := [] }

/- WHAT THE LISTED PACKAGE-LEVEL VARIABLES READ AS WHEN THE CALL BEGINS. Each datum BY PROGRAM (the guide's laid-datum.mjs) off the statement by which the dump's own 'gosem.cut.vars' lays the variable. In a bare row this is a premise. The card (YtpdchdfajhbglaaGreatDoorCards.lean) ties it to the program's text. -/
def laid_math_bits_deBruijn32tab {H : Type} : DataW H := .agg [.lit (.int .u8 0), .lit (.int .u8 1), .lit (.int .u8 28), .lit (.int .u8 2), .lit (.int .u8 29), .lit (.int .u8 14), .lit (.int .u8 24), .lit (.int .u8 3), .lit (.int .u8 30), .lit (.int .u8 22), .lit (.int .u8 20), .lit (.int .u8 15), .lit (.int .u8 25), .lit (.int .u8 17), .lit (.int .u8 4), .lit (.int .u8 8), .lit (.int .u8 31), .lit (.int .u8 27), .lit (.int .u8 13), .lit (.int .u8 23), .lit (.int .u8 21), .lit (.int .u8 19), .lit (.int .u8 16), .lit (.int .u8 7), .lit (.int .u8 26), .lit (.int .u8 12), .lit (.int .u8 18), .lit (.int .u8 6), .lit (.int .u8 11), .lit (.int .u8 5), .lit (.int .u8 10), .lit (.int .u8 9)]

/-- 'flowpipelaw21.SeriesFunctions': WHATEVER THE INPUT: true; the input reads as it did. -/
def seriesFunctionsSpec : ChangeSpec := { name := "seriesFunctions", fn := fun _ => fun
  | [d1, d2] => { results := [.lit (.bool true)], args := [d1, d2] }
  | _ => none }
def seriesFunctionsRow : OpenClaim := { program := "ytpdchdfajhbglaagreatdoor", sum := "6e4c7833e6e579f5c865746fd0e8e80f13b67ae06eba85b229b5c342a273c742", func := "flowpipe/flowpipelaw21.SeriesFunctions", spec := "seriesFunctions", unfollowed := true, recurses := true, named := ["math/bits.deBruijn32tab", "math/bits.overflowError"], apart := false, laid := [("math/bits.deBruijn32tab", laid_math_bits_deBruijn32tab)] }
def SeriesFunctionsSaid : Prop := seriesFunctionsRow.holds Tryz.pinned (OpenSpec.ofChange seriesFunctionsSpec)

/-- ITS FALSE NEIGHBOUR: 'it returns false'. Refute it at one input. -/
def seriesFunctionsWrong : ChangeSpec := { name := "seriesFunctions", fn := fun _ => fun
  | [d1, d2] => { results := [.lit (.bool false)], args := [d1, d2] }
  | _ => none }
def SeriesFunctionsWrongFalsely : Prop := seriesFunctionsRow.holds Tryz.pinned (OpenSpec.ofChange seriesFunctionsWrong)

/-- 'flowpipelaw21.SeriesApplies': WHATEVER THE INPUT: true; the input reads as it did. -/
def seriesAppliesSpec : ChangeSpec := { name := "seriesApplies", fn := fun _ => fun
  | [d1, d2, d3, d4] => { results := [.lit (.bool true)], args := [d1, d2, d3, d4] }
  | _ => none }
def seriesAppliesRow : OpenClaim := { program := "ytpdchdfajhbglaagreatdoor", sum := "6e4c7833e6e579f5c865746fd0e8e80f13b67ae06eba85b229b5c342a273c742", func := "flowpipe/flowpipelaw21.SeriesApplies", spec := "seriesApplies", unfollowed := true, recurses := true, named := ["math/bits.deBruijn32tab", "math/bits.overflowError"], apart := false, laid := [("math/bits.deBruijn32tab", laid_math_bits_deBruijn32tab)] }
def SeriesAppliesSaid : Prop := seriesAppliesRow.holds Tryz.pinned (OpenSpec.ofChange seriesAppliesSpec)

/-- ITS FALSE NEIGHBOUR: 'it returns false'. Refute it at one input. -/
def seriesAppliesWrong : ChangeSpec := { name := "seriesApplies", fn := fun _ => fun
  | [d1, d2, d3, d4] => { results := [.lit (.bool false)], args := [d1, d2, d3, d4] }
  | _ => none }
def SeriesAppliesWrongFalsely : Prop := seriesAppliesRow.holds Tryz.pinned (OpenSpec.ofChange seriesAppliesWrong)

/-- 'flowpipelaw21.SeriesInverse': WHATEVER THE INPUT: true; the input reads as it did. -/
def seriesInverseSpec : ChangeSpec := { name := "seriesInverse", fn := fun _ => fun
  | [d1, d2, d3] => { results := [.lit (.bool true)], args := [d1, d2, d3] }
  | _ => none }
def seriesInverseRow : OpenClaim := { program := "ytpdchdfajhbglaagreatdoor", sum := "6e4c7833e6e579f5c865746fd0e8e80f13b67ae06eba85b229b5c342a273c742", func := "flowpipe/flowpipelaw21.SeriesInverse", spec := "seriesInverse", unfollowed := true, recurses := true, named := ["math/bits.deBruijn32tab", "math/bits.overflowError"], apart := false, laid := [("math/bits.deBruijn32tab", laid_math_bits_deBruijn32tab)] }
def SeriesInverseSaid : Prop := seriesInverseRow.holds Tryz.pinned (OpenSpec.ofChange seriesInverseSpec)

/-- ITS FALSE NEIGHBOUR: 'it returns false'. Refute it at one input. -/
def seriesInverseWrong : ChangeSpec := { name := "seriesInverse", fn := fun _ => fun
  | [d1, d2, d3] => { results := [.lit (.bool false)], args := [d1, d2, d3] }
  | _ => none }
def SeriesInverseWrongFalsely : Prop := seriesInverseRow.holds Tryz.pinned (OpenSpec.ofChange seriesInverseWrong)

/-- 'flowpipetop.WholeArithmetic': WHATEVER THE INPUT: true; the input reads as it did. -/
def wholeArithmeticSpec : ChangeSpec := { name := "wholeArithmetic", fn := fun _ => fun
  | [d1, d2, d3] => { results := [.lit (.bool true)], args := [d1, d2, d3] }
  | _ => none }
def wholeArithmeticRow : OpenClaim := { program := "ytpdchdfajhbglaagreatdoor", sum := "6e4c7833e6e579f5c865746fd0e8e80f13b67ae06eba85b229b5c342a273c742", func := "flowpipe/flowpipetop.WholeArithmetic", spec := "wholeArithmetic", unfollowed := true, recurses := true, named := ["math/bits.deBruijn32tab", "math/bits.overflowError"], apart := false, laid := [("math/bits.deBruijn32tab", laid_math_bits_deBruijn32tab)] }
def WholeArithmeticSaid : Prop := wholeArithmeticRow.holds Tryz.pinned (OpenSpec.ofChange wholeArithmeticSpec)

/-- ITS FALSE NEIGHBOUR: 'it returns false'. Refute it at one input. -/
def wholeArithmeticWrong : ChangeSpec := { name := "wholeArithmetic", fn := fun _ => fun
  | [d1, d2, d3] => { results := [.lit (.bool false)], args := [d1, d2, d3] }
  | _ => none }
def WholeArithmeticWrongFalsely : Prop := wholeArithmeticRow.holds Tryz.pinned (OpenSpec.ofChange wholeArithmeticWrong)

/-- 'flowpipelaw37.PipeRanges': WHATEVER THE INPUT: true; the input reads as it did. -/
def pipeRangesSpec : ChangeSpec := { name := "pipeRanges", fn := fun _ => fun
  | [d1, d2, d3] => { results := [.lit (.bool true)], args := [d1, d2, d3] }
  | _ => none }
def pipeRangesRow : OpenClaim := { program := "ytpdchdfajhbglaagreatdoor", sum := "6e4c7833e6e579f5c865746fd0e8e80f13b67ae06eba85b229b5c342a273c742", func := "flowpipe/flowpipelaw37.PipeRanges", spec := "pipeRanges", unfollowed := true, recurses := true, named := ["math/bits.deBruijn32tab", "math/bits.overflowError"], apart := false, laid := [("math/bits.deBruijn32tab", laid_math_bits_deBruijn32tab)] }
def PipeRangesSaid : Prop := pipeRangesRow.holds Tryz.pinned (OpenSpec.ofChange pipeRangesSpec)

/-- ITS FALSE NEIGHBOUR: 'it returns false'. Refute it at one input. -/
def pipeRangesWrong : ChangeSpec := { name := "pipeRanges", fn := fun _ => fun
  | [d1, d2, d3] => { results := [.lit (.bool false)], args := [d1, d2, d3] }
  | _ => none }
def PipeRangesWrongFalsely : Prop := pipeRangesRow.holds Tryz.pinned (OpenSpec.ofChange pipeRangesWrong)

/- THE SECOND FORM. 'bulk': how many values and letters a reading holds, each counted each time it is reached (what is shared counts as often as it is met; a slice's spare places count too). A statement '..UptoSaid' is the law's where the arguments, and the package variables that the reading takes, are together of bulk at most 1048576: NARROWER than '..Said'. Prove '..Said' where nothing that the law and all that it calls make is longer than what came in: it says more and counts as full. Else prove '..UptoSaid'. A law counts once. -/
mutual
def uptoBulk {H : Type} : DataW H → Nat
  | .lit (.string bytes) => bytes.length + 1
  | .lit _ => 1
  | .nil => 1
  | .ptr d => uptoBulk d + 1
  | .slice elems spare => uptoBulkAll elems + uptoBulkAll spare + 1
  | .agg parts => uptoBulkAll parts + 1
  | .iface _ d => uptoBulk d + 1
  | .map entries => uptoBulkEntries entries + 1
  | .held _ => 1
def uptoBulkAll {H : Type} : List (DataW H) → Nat
  | [] => 0
  | d :: r => uptoBulk d + uptoBulkAll r
def uptoBulkEntries {H : Type} : List (Lit × DataW H) → Nat
  | [] => 0
  | x :: r => uptoBulkEntry x + uptoBulkEntries r
def uptoBulkEntry {H : Type} : Lit × DataW H → Nat
  | (.string bytes, d) => bytes.length + uptoBulk d + 1
  | (_, d) => uptoBulk d + 1
 end
def uptoSmall : (H : Type) → List (DataW H) → Bool := fun _ ds => decide (uptoBulkAll ds ≤ 1048576)
def OpenSpec.upto (s : _root_.Go.ChangeSpec) : _root_.Go.OpenSpec := { _root_.Go.OpenSpec.ofChange s with cond := some uptoSmall }

/-- 'flowpipelaw21.SeriesFunctions', WHERE WHAT IT READS IS OF BULK AT MOST 1048576: true; the input reads as it did. -/
def seriesFunctionsUptoRow : OpenClaim := { program := "ytpdchdfajhbglaagreatdoor", sum := "6e4c7833e6e579f5c865746fd0e8e80f13b67ae06eba85b229b5c342a273c742", func := "flowpipe/flowpipelaw21.SeriesFunctions", spec := "seriesFunctions", unfollowed := true, recurses := true, named := ["math/bits.deBruijn32tab", "math/bits.overflowError"], apart := false, laid := [("math/bits.deBruijn32tab", laid_math_bits_deBruijn32tab)], narrowed := true }
def SeriesFunctionsUptoSaid : Prop := seriesFunctionsUptoRow.holds Tryz.pinned (OpenSpec.upto seriesFunctionsSpec)

/-- 'flowpipelaw21.SeriesApplies', WHERE WHAT IT READS IS OF BULK AT MOST 1048576: true; the input reads as it did. -/
def seriesAppliesUptoRow : OpenClaim := { program := "ytpdchdfajhbglaagreatdoor", sum := "6e4c7833e6e579f5c865746fd0e8e80f13b67ae06eba85b229b5c342a273c742", func := "flowpipe/flowpipelaw21.SeriesApplies", spec := "seriesApplies", unfollowed := true, recurses := true, named := ["math/bits.deBruijn32tab", "math/bits.overflowError"], apart := false, laid := [("math/bits.deBruijn32tab", laid_math_bits_deBruijn32tab)], narrowed := true }
def SeriesAppliesUptoSaid : Prop := seriesAppliesUptoRow.holds Tryz.pinned (OpenSpec.upto seriesAppliesSpec)

/-- 'flowpipelaw21.SeriesInverse', WHERE WHAT IT READS IS OF BULK AT MOST 1048576: true; the input reads as it did. -/
def seriesInverseUptoRow : OpenClaim := { program := "ytpdchdfajhbglaagreatdoor", sum := "6e4c7833e6e579f5c865746fd0e8e80f13b67ae06eba85b229b5c342a273c742", func := "flowpipe/flowpipelaw21.SeriesInverse", spec := "seriesInverse", unfollowed := true, recurses := true, named := ["math/bits.deBruijn32tab", "math/bits.overflowError"], apart := false, laid := [("math/bits.deBruijn32tab", laid_math_bits_deBruijn32tab)], narrowed := true }
def SeriesInverseUptoSaid : Prop := seriesInverseUptoRow.holds Tryz.pinned (OpenSpec.upto seriesInverseSpec)

/-- 'flowpipetop.WholeArithmetic', WHERE WHAT IT READS IS OF BULK AT MOST 1048576: true; the input reads as it did. -/
def wholeArithmeticUptoRow : OpenClaim := { program := "ytpdchdfajhbglaagreatdoor", sum := "6e4c7833e6e579f5c865746fd0e8e80f13b67ae06eba85b229b5c342a273c742", func := "flowpipe/flowpipetop.WholeArithmetic", spec := "wholeArithmetic", unfollowed := true, recurses := true, named := ["math/bits.deBruijn32tab", "math/bits.overflowError"], apart := false, laid := [("math/bits.deBruijn32tab", laid_math_bits_deBruijn32tab)], narrowed := true }
def WholeArithmeticUptoSaid : Prop := wholeArithmeticUptoRow.holds Tryz.pinned (OpenSpec.upto wholeArithmeticSpec)

/-- 'flowpipelaw37.PipeRanges', WHERE WHAT IT READS IS OF BULK AT MOST 1048576: true; the input reads as it did. -/
def pipeRangesUptoRow : OpenClaim := { program := "ytpdchdfajhbglaagreatdoor", sum := "6e4c7833e6e579f5c865746fd0e8e80f13b67ae06eba85b229b5c342a273c742", func := "flowpipe/flowpipelaw37.PipeRanges", spec := "pipeRanges", unfollowed := true, recurses := true, named := ["math/bits.deBruijn32tab", "math/bits.overflowError"], apart := false, laid := [("math/bits.deBruijn32tab", laid_math_bits_deBruijn32tab)], narrowed := true }
def PipeRangesUptoSaid : Prop := pipeRangesUptoRow.holds Tryz.pinned (OpenSpec.upto pipeRangesSpec)

end Rows
end Go.Proofs.YtpdchdfajhbglaaGreatDoor
