/-
  NARROWER THAN 'FOR EVERY INPUT', by the rows' own cells (each row's printed sentence says how): CirclePi: laid · CirclePoints: laid · CircleAtans: laid · CircleRanges: laid · CirclePoisons: laid · CircleParts: laid · CircleSquares: laid · CirclePeriods: laid · CircleTangents: laid · CircleSums: laid.
  DERIVED. THE GIVEN ROWS OF THIS SEAT. 10 by the template 'for every input the law returns true; each argument reads behind the call as it read before'; 0 by the template 'total and deterministic' (their statements: YtnkijamajifgpaaGreatDoorTotals.lean).
  GIVEN WITH THE SEED: the statements are not yours to turn. If you find one false, say at which input.
  Laid BY PROGRAM, IN A SANDBOX (cutbox-rows.mjs): the forced cells as the released guide's own fill.sh prints them over the translation dbeea00b755b7c0a… (all of the seat's roots in one cut). By AI agents, Wed Nov 11 2026. No macro, syntax, notation, axiom, sorry.
-/
import Derived.Test.YtnkijamajifgpaaGreatDoorChecked
import GoSem.Claim
import GoSem.ClaimJoined
import GoSem.ClaimMapViews
import Derived.JoinedTies
import Derived.KernelRfl
namespace Go.Proofs.YtnkijamajifgpaaGreatDoor
/- THE CELL 'sum', in the pinned program and in every row, IS THE sha256 OF THE DUMP (.gsa) THAT YtnkijamajifgpaaGreatDoorProg.lean LOADS. Nothing in Lean hashes anything: it is a label: what it is worth is what the hold of that sum in a sandbox is worth. -/
noncomputable def Tryz.pinned : Pinned := { name := "ytnkijamajifgpaagreatdoor", sum := "dbeea00b755b7c0a5ac1ba70302713966a826637f2e39c17d0571c10bc8f522b", checked := Tryz.checked }
namespace Rows
def none {H : Type} : Left H := { results := [], args := [] }

/- WHAT THE LISTED PACKAGE-LEVEL VARIABLES READ AS WHEN THE CALL BEGINS. Each datum BY PROGRAM (the guide's laid-datum.mjs) off the statement by which the dump's own 'gosem.cut.vars' lays the variable. In a bare row this is a premise. The card (YtnkijamajifgpaaGreatDoorCards.lean) ties it to the program's text. -/
def laid_math_bits_deBruijn32tab {H : Type} : DataW H := .agg [.lit (.int .u8 0), .lit (.int .u8 1), .lit (.int .u8 28), .lit (.int .u8 2), .lit (.int .u8 29), .lit (.int .u8 14), .lit (.int .u8 24), .lit (.int .u8 3), .lit (.int .u8 30), .lit (.int .u8 22), .lit (.int .u8 20), .lit (.int .u8 15), .lit (.int .u8 25), .lit (.int .u8 17), .lit (.int .u8 4), .lit (.int .u8 8), .lit (.int .u8 31), .lit (.int .u8 27), .lit (.int .u8 13), .lit (.int .u8 23), .lit (.int .u8 21), .lit (.int .u8 19), .lit (.int .u8 16), .lit (.int .u8 7), .lit (.int .u8 26), .lit (.int .u8 12), .lit (.int .u8 18), .lit (.int .u8 6), .lit (.int .u8 11), .lit (.int .u8 5), .lit (.int .u8 10), .lit (.int .u8 9)]

/-- 'flowpipelaw10.CirclePi': WHATEVER THE INPUT: true; the input reads as it did. -/
def circlePiSpec : ChangeSpec := { name := "circlePi", fn := fun _ => fun
  | [d] => { results := [.lit (.bool true)], args := [d] }
  | _ => none }
def circlePiRow : OpenClaim := { program := "ytnkijamajifgpaagreatdoor", sum := "dbeea00b755b7c0a5ac1ba70302713966a826637f2e39c17d0571c10bc8f522b", func := "flowpipe/flowpipelaw10.CirclePi", spec := "circlePi", unfollowed := true, recurses := true, named := ["math/bits.deBruijn32tab", "math/bits.overflowError"], apart := false, laid := [("math/bits.deBruijn32tab", laid_math_bits_deBruijn32tab)] }
def CirclePiSaid : Prop := circlePiRow.holds Tryz.pinned (OpenSpec.ofChange circlePiSpec)

/-- ITS FALSE NEIGHBOUR: 'it returns false'. Refute it at one input. -/
def circlePiWrong : ChangeSpec := { name := "circlePi", fn := fun _ => fun
  | [d] => { results := [.lit (.bool false)], args := [d] }
  | _ => none }
def CirclePiWrongFalsely : Prop := circlePiRow.holds Tryz.pinned (OpenSpec.ofChange circlePiWrong)

/-- 'flowpipelaw10.CirclePoints': WHATEVER THE INPUT: true; the input reads as it did. -/
def circlePointsSpec : ChangeSpec := { name := "circlePoints", fn := fun _ => fun
  | [d1, d2] => { results := [.lit (.bool true)], args := [d1, d2] }
  | _ => none }
def circlePointsRow : OpenClaim := { program := "ytnkijamajifgpaagreatdoor", sum := "dbeea00b755b7c0a5ac1ba70302713966a826637f2e39c17d0571c10bc8f522b", func := "flowpipe/flowpipelaw10.CirclePoints", spec := "circlePoints", unfollowed := true, recurses := true, named := ["math/bits.deBruijn32tab", "math/bits.overflowError"], apart := false, laid := [("math/bits.deBruijn32tab", laid_math_bits_deBruijn32tab)] }
def CirclePointsSaid : Prop := circlePointsRow.holds Tryz.pinned (OpenSpec.ofChange circlePointsSpec)

/-- ITS FALSE NEIGHBOUR: 'it returns false'. Refute it at one input. -/
def circlePointsWrong : ChangeSpec := { name := "circlePoints", fn := fun _ => fun
  | [d1, d2] => { results := [.lit (.bool false)], args := [d1, d2] }
  | _ => none }
def CirclePointsWrongFalsely : Prop := circlePointsRow.holds Tryz.pinned (OpenSpec.ofChange circlePointsWrong)

/-- 'flowpipelaw10.CircleAtans': WHATEVER THE INPUT: true; the input reads as it did. -/
def circleAtansSpec : ChangeSpec := { name := "circleAtans", fn := fun _ => fun
  | [d1, d2] => { results := [.lit (.bool true)], args := [d1, d2] }
  | _ => none }
def circleAtansRow : OpenClaim := { program := "ytnkijamajifgpaagreatdoor", sum := "dbeea00b755b7c0a5ac1ba70302713966a826637f2e39c17d0571c10bc8f522b", func := "flowpipe/flowpipelaw10.CircleAtans", spec := "circleAtans", unfollowed := true, recurses := true, named := ["math/bits.deBruijn32tab", "math/bits.overflowError"], apart := false, laid := [("math/bits.deBruijn32tab", laid_math_bits_deBruijn32tab)] }
def CircleAtansSaid : Prop := circleAtansRow.holds Tryz.pinned (OpenSpec.ofChange circleAtansSpec)

/-- ITS FALSE NEIGHBOUR: 'it returns false'. Refute it at one input. -/
def circleAtansWrong : ChangeSpec := { name := "circleAtans", fn := fun _ => fun
  | [d1, d2] => { results := [.lit (.bool false)], args := [d1, d2] }
  | _ => none }
def CircleAtansWrongFalsely : Prop := circleAtansRow.holds Tryz.pinned (OpenSpec.ofChange circleAtansWrong)

/-- 'flowpipelaw10.CircleRanges': WHATEVER THE INPUT: true; the input reads as it did. -/
def circleRangesSpec : ChangeSpec := { name := "circleRanges", fn := fun _ => fun
  | [d1, d2] => { results := [.lit (.bool true)], args := [d1, d2] }
  | _ => none }
def circleRangesRow : OpenClaim := { program := "ytnkijamajifgpaagreatdoor", sum := "dbeea00b755b7c0a5ac1ba70302713966a826637f2e39c17d0571c10bc8f522b", func := "flowpipe/flowpipelaw10.CircleRanges", spec := "circleRanges", unfollowed := true, recurses := true, named := ["math/bits.deBruijn32tab", "math/bits.overflowError"], apart := false, laid := [("math/bits.deBruijn32tab", laid_math_bits_deBruijn32tab)] }
def CircleRangesSaid : Prop := circleRangesRow.holds Tryz.pinned (OpenSpec.ofChange circleRangesSpec)

/-- ITS FALSE NEIGHBOUR: 'it returns false'. Refute it at one input. -/
def circleRangesWrong : ChangeSpec := { name := "circleRanges", fn := fun _ => fun
  | [d1, d2] => { results := [.lit (.bool false)], args := [d1, d2] }
  | _ => none }
def CircleRangesWrongFalsely : Prop := circleRangesRow.holds Tryz.pinned (OpenSpec.ofChange circleRangesWrong)

/-- 'flowpipelaw10.CirclePoisons': WHATEVER THE INPUT: true; the input reads as it did. -/
def circlePoisonsSpec : ChangeSpec := { name := "circlePoisons", fn := fun _ => fun
  | [d1, d2] => { results := [.lit (.bool true)], args := [d1, d2] }
  | _ => none }
def circlePoisonsRow : OpenClaim := { program := "ytnkijamajifgpaagreatdoor", sum := "dbeea00b755b7c0a5ac1ba70302713966a826637f2e39c17d0571c10bc8f522b", func := "flowpipe/flowpipelaw10.CirclePoisons", spec := "circlePoisons", unfollowed := true, recurses := true, named := ["math/bits.deBruijn32tab", "math/bits.overflowError"], apart := false, laid := [("math/bits.deBruijn32tab", laid_math_bits_deBruijn32tab)] }
def CirclePoisonsSaid : Prop := circlePoisonsRow.holds Tryz.pinned (OpenSpec.ofChange circlePoisonsSpec)

/-- ITS FALSE NEIGHBOUR: 'it returns false'. Refute it at one input. -/
def circlePoisonsWrong : ChangeSpec := { name := "circlePoisons", fn := fun _ => fun
  | [d1, d2] => { results := [.lit (.bool false)], args := [d1, d2] }
  | _ => none }
def CirclePoisonsWrongFalsely : Prop := circlePoisonsRow.holds Tryz.pinned (OpenSpec.ofChange circlePoisonsWrong)

/-- 'flowpipelaw10.CircleParts': WHATEVER THE INPUT: true; the input reads as it did. -/
def circlePartsSpec : ChangeSpec := { name := "circleParts", fn := fun _ => fun
  | [d1, d2, d3] => { results := [.lit (.bool true)], args := [d1, d2, d3] }
  | _ => none }
def circlePartsRow : OpenClaim := { program := "ytnkijamajifgpaagreatdoor", sum := "dbeea00b755b7c0a5ac1ba70302713966a826637f2e39c17d0571c10bc8f522b", func := "flowpipe/flowpipelaw10.CircleParts", spec := "circleParts", unfollowed := true, recurses := true, named := ["math/bits.deBruijn32tab", "math/bits.overflowError"], apart := false, laid := [("math/bits.deBruijn32tab", laid_math_bits_deBruijn32tab)] }
def CirclePartsSaid : Prop := circlePartsRow.holds Tryz.pinned (OpenSpec.ofChange circlePartsSpec)

/-- ITS FALSE NEIGHBOUR: 'it returns false'. Refute it at one input. -/
def circlePartsWrong : ChangeSpec := { name := "circleParts", fn := fun _ => fun
  | [d1, d2, d3] => { results := [.lit (.bool false)], args := [d1, d2, d3] }
  | _ => none }
def CirclePartsWrongFalsely : Prop := circlePartsRow.holds Tryz.pinned (OpenSpec.ofChange circlePartsWrong)

/-- 'flowpipelaw10.CircleSquares': WHATEVER THE INPUT: true; the input reads as it did. -/
def circleSquaresSpec : ChangeSpec := { name := "circleSquares", fn := fun _ => fun
  | [d1, d2] => { results := [.lit (.bool true)], args := [d1, d2] }
  | _ => none }
def circleSquaresRow : OpenClaim := { program := "ytnkijamajifgpaagreatdoor", sum := "dbeea00b755b7c0a5ac1ba70302713966a826637f2e39c17d0571c10bc8f522b", func := "flowpipe/flowpipelaw10.CircleSquares", spec := "circleSquares", unfollowed := true, recurses := true, named := ["math/bits.deBruijn32tab", "math/bits.overflowError"], apart := false, laid := [("math/bits.deBruijn32tab", laid_math_bits_deBruijn32tab)] }
def CircleSquaresSaid : Prop := circleSquaresRow.holds Tryz.pinned (OpenSpec.ofChange circleSquaresSpec)

/-- ITS FALSE NEIGHBOUR: 'it returns false'. Refute it at one input. -/
def circleSquaresWrong : ChangeSpec := { name := "circleSquares", fn := fun _ => fun
  | [d1, d2] => { results := [.lit (.bool false)], args := [d1, d2] }
  | _ => none }
def CircleSquaresWrongFalsely : Prop := circleSquaresRow.holds Tryz.pinned (OpenSpec.ofChange circleSquaresWrong)

/-- 'flowpipelaw10.CirclePeriods': WHATEVER THE INPUT: true; the input reads as it did. -/
def circlePeriodsSpec : ChangeSpec := { name := "circlePeriods", fn := fun _ => fun
  | [d1, d2, d3] => { results := [.lit (.bool true)], args := [d1, d2, d3] }
  | _ => none }
def circlePeriodsRow : OpenClaim := { program := "ytnkijamajifgpaagreatdoor", sum := "dbeea00b755b7c0a5ac1ba70302713966a826637f2e39c17d0571c10bc8f522b", func := "flowpipe/flowpipelaw10.CirclePeriods", spec := "circlePeriods", unfollowed := true, recurses := true, named := ["math/bits.deBruijn32tab", "math/bits.overflowError"], apart := false, laid := [("math/bits.deBruijn32tab", laid_math_bits_deBruijn32tab)] }
def CirclePeriodsSaid : Prop := circlePeriodsRow.holds Tryz.pinned (OpenSpec.ofChange circlePeriodsSpec)

/-- ITS FALSE NEIGHBOUR: 'it returns false'. Refute it at one input. -/
def circlePeriodsWrong : ChangeSpec := { name := "circlePeriods", fn := fun _ => fun
  | [d1, d2, d3] => { results := [.lit (.bool false)], args := [d1, d2, d3] }
  | _ => none }
def CirclePeriodsWrongFalsely : Prop := circlePeriodsRow.holds Tryz.pinned (OpenSpec.ofChange circlePeriodsWrong)

/-- 'flowpipelaw10.CircleTangents': WHATEVER THE INPUT: true; the input reads as it did. -/
def circleTangentsSpec : ChangeSpec := { name := "circleTangents", fn := fun _ => fun
  | [d1, d2] => { results := [.lit (.bool true)], args := [d1, d2] }
  | _ => none }
def circleTangentsRow : OpenClaim := { program := "ytnkijamajifgpaagreatdoor", sum := "dbeea00b755b7c0a5ac1ba70302713966a826637f2e39c17d0571c10bc8f522b", func := "flowpipe/flowpipelaw10.CircleTangents", spec := "circleTangents", unfollowed := true, recurses := true, named := ["math/bits.deBruijn32tab", "math/bits.overflowError"], apart := false, laid := [("math/bits.deBruijn32tab", laid_math_bits_deBruijn32tab)] }
def CircleTangentsSaid : Prop := circleTangentsRow.holds Tryz.pinned (OpenSpec.ofChange circleTangentsSpec)

/-- ITS FALSE NEIGHBOUR: 'it returns false'. Refute it at one input. -/
def circleTangentsWrong : ChangeSpec := { name := "circleTangents", fn := fun _ => fun
  | [d1, d2] => { results := [.lit (.bool false)], args := [d1, d2] }
  | _ => none }
def CircleTangentsWrongFalsely : Prop := circleTangentsRow.holds Tryz.pinned (OpenSpec.ofChange circleTangentsWrong)

/-- 'flowpipelaw10.CircleSums': WHATEVER THE INPUT: true; the input reads as it did. -/
def circleSumsSpec : ChangeSpec := { name := "circleSums", fn := fun _ => fun
  | [d1, d2, d3] => { results := [.lit (.bool true)], args := [d1, d2, d3] }
  | _ => none }
def circleSumsRow : OpenClaim := { program := "ytnkijamajifgpaagreatdoor", sum := "dbeea00b755b7c0a5ac1ba70302713966a826637f2e39c17d0571c10bc8f522b", func := "flowpipe/flowpipelaw10.CircleSums", spec := "circleSums", unfollowed := true, recurses := true, named := ["math/bits.deBruijn32tab", "math/bits.overflowError"], apart := false, laid := [("math/bits.deBruijn32tab", laid_math_bits_deBruijn32tab)] }
def CircleSumsSaid : Prop := circleSumsRow.holds Tryz.pinned (OpenSpec.ofChange circleSumsSpec)

/-- ITS FALSE NEIGHBOUR: 'it returns false'. Refute it at one input. -/
def circleSumsWrong : ChangeSpec := { name := "circleSums", fn := fun _ => fun
  | [d1, d2, d3] => { results := [.lit (.bool false)], args := [d1, d2, d3] }
  | _ => none }
def CircleSumsWrongFalsely : Prop := circleSumsRow.holds Tryz.pinned (OpenSpec.ofChange circleSumsWrong)

/- THE SECOND FORM. 'bulk': how many values and letters a reading holds, each counted each time it is reached (what is shared counts as often as it is met; a slice's spare places count too). A statement '..UptoSaid' is the law's where the arguments, and the package variables that the reading takes, are together of bulk at most 1048576: NARROWER than '..Said'. Prove '..Said' where nothing that the law and all that it calls make is longer than what came in: it says more and counts as full. Else prove '..UptoSaid'. A law counts once. -/
mutual
def uptoBulk {H : Type} : DataW H → Nat
  | .lit (.string bytes) => bytes.length + 1
  | .lit _ => 1
  | .nil => 1
  | .ptr d => uptoBulk d + 1
  | .slice elems spare => uptoBulkAll elems + uptoBulkAll spare + 1
  | .agg parts => uptoBulkAll parts + 1
  | .iface _ d => uptoBulk d + 1
  | .map entries => uptoBulkEntries entries + 1
  | .held _ => 1
def uptoBulkAll {H : Type} : List (DataW H) → Nat
  | [] => 0
  | d :: r => uptoBulk d + uptoBulkAll r
def uptoBulkEntries {H : Type} : List (Lit × DataW H) → Nat
  | [] => 0
  | x :: r => uptoBulkEntry x + uptoBulkEntries r
def uptoBulkEntry {H : Type} : Lit × DataW H → Nat
  | (.string bytes, d) => bytes.length + uptoBulk d + 1
  | (_, d) => uptoBulk d + 1
 end
def uptoSmall : (H : Type) → List (DataW H) → Bool := fun _ ds => decide (uptoBulkAll ds ≤ 1048576)
def OpenSpec.upto (s : _root_.Go.ChangeSpec) : _root_.Go.OpenSpec := { _root_.Go.OpenSpec.ofChange s with cond := some uptoSmall }

/-- 'flowpipelaw10.CirclePi', WHERE WHAT IT READS IS OF BULK AT MOST 1048576: true; the input reads as it did. -/
def circlePiUptoRow : OpenClaim := { program := "ytnkijamajifgpaagreatdoor", sum := "dbeea00b755b7c0a5ac1ba70302713966a826637f2e39c17d0571c10bc8f522b", func := "flowpipe/flowpipelaw10.CirclePi", spec := "circlePi", unfollowed := true, recurses := true, named := ["math/bits.deBruijn32tab", "math/bits.overflowError"], apart := false, laid := [("math/bits.deBruijn32tab", laid_math_bits_deBruijn32tab)], narrowed := true }
def CirclePiUptoSaid : Prop := circlePiUptoRow.holds Tryz.pinned (OpenSpec.upto circlePiSpec)

/-- 'flowpipelaw10.CirclePoints', WHERE WHAT IT READS IS OF BULK AT MOST 1048576: true; the input reads as it did. -/
def circlePointsUptoRow : OpenClaim := { program := "ytnkijamajifgpaagreatdoor", sum := "dbeea00b755b7c0a5ac1ba70302713966a826637f2e39c17d0571c10bc8f522b", func := "flowpipe/flowpipelaw10.CirclePoints", spec := "circlePoints", unfollowed := true, recurses := true, named := ["math/bits.deBruijn32tab", "math/bits.overflowError"], apart := false, laid := [("math/bits.deBruijn32tab", laid_math_bits_deBruijn32tab)], narrowed := true }
def CirclePointsUptoSaid : Prop := circlePointsUptoRow.holds Tryz.pinned (OpenSpec.upto circlePointsSpec)

/-- 'flowpipelaw10.CircleAtans', WHERE WHAT IT READS IS OF BULK AT MOST 1048576: true; the input reads as it did. -/
def circleAtansUptoRow : OpenClaim := { program := "ytnkijamajifgpaagreatdoor", sum := "dbeea00b755b7c0a5ac1ba70302713966a826637f2e39c17d0571c10bc8f522b", func := "flowpipe/flowpipelaw10.CircleAtans", spec := "circleAtans", unfollowed := true, recurses := true, named := ["math/bits.deBruijn32tab", "math/bits.overflowError"], apart := false, laid := [("math/bits.deBruijn32tab", laid_math_bits_deBruijn32tab)], narrowed := true }
def CircleAtansUptoSaid : Prop := circleAtansUptoRow.holds Tryz.pinned (OpenSpec.upto circleAtansSpec)

/-- 'flowpipelaw10.CircleRanges', WHERE WHAT IT READS IS OF BULK AT MOST 1048576: true; the input reads as it did. -/
def circleRangesUptoRow : OpenClaim := { program := "ytnkijamajifgpaagreatdoor", sum := "dbeea00b755b7c0a5ac1ba70302713966a826637f2e39c17d0571c10bc8f522b", func := "flowpipe/flowpipelaw10.CircleRanges", spec := "circleRanges", unfollowed := true, recurses := true, named := ["math/bits.deBruijn32tab", "math/bits.overflowError"], apart := false, laid := [("math/bits.deBruijn32tab", laid_math_bits_deBruijn32tab)], narrowed := true }
def CircleRangesUptoSaid : Prop := circleRangesUptoRow.holds Tryz.pinned (OpenSpec.upto circleRangesSpec)

/-- 'flowpipelaw10.CirclePoisons', WHERE WHAT IT READS IS OF BULK AT MOST 1048576: true; the input reads as it did. -/
def circlePoisonsUptoRow : OpenClaim := { program := "ytnkijamajifgpaagreatdoor", sum := "dbeea00b755b7c0a5ac1ba70302713966a826637f2e39c17d0571c10bc8f522b", func := "flowpipe/flowpipelaw10.CirclePoisons", spec := "circlePoisons", unfollowed := true, recurses := true, named := ["math/bits.deBruijn32tab", "math/bits.overflowError"], apart := false, laid := [("math/bits.deBruijn32tab", laid_math_bits_deBruijn32tab)], narrowed := true }
def CirclePoisonsUptoSaid : Prop := circlePoisonsUptoRow.holds Tryz.pinned (OpenSpec.upto circlePoisonsSpec)

/-- 'flowpipelaw10.CircleParts', WHERE WHAT IT READS IS OF BULK AT MOST 1048576: true; the input reads as it did. -/
def circlePartsUptoRow : OpenClaim := { program := "ytnkijamajifgpaagreatdoor", sum := "dbeea00b755b7c0a5ac1ba70302713966a826637f2e39c17d0571c10bc8f522b", func := "flowpipe/flowpipelaw10.CircleParts", spec := "circleParts", unfollowed := true, recurses := true, named := ["math/bits.deBruijn32tab", "math/bits.overflowError"], apart := false, laid := [("math/bits.deBruijn32tab", laid_math_bits_deBruijn32tab)], narrowed := true }
def CirclePartsUptoSaid : Prop := circlePartsUptoRow.holds Tryz.pinned (OpenSpec.upto circlePartsSpec)

/-- 'flowpipelaw10.CircleSquares', WHERE WHAT IT READS IS OF BULK AT MOST 1048576: true; the input reads as it did. -/
def circleSquaresUptoRow : OpenClaim := { program := "ytnkijamajifgpaagreatdoor", sum := "dbeea00b755b7c0a5ac1ba70302713966a826637f2e39c17d0571c10bc8f522b", func := "flowpipe/flowpipelaw10.CircleSquares", spec := "circleSquares", unfollowed := true, recurses := true, named := ["math/bits.deBruijn32tab", "math/bits.overflowError"], apart := false, laid := [("math/bits.deBruijn32tab", laid_math_bits_deBruijn32tab)], narrowed := true }
def CircleSquaresUptoSaid : Prop := circleSquaresUptoRow.holds Tryz.pinned (OpenSpec.upto circleSquaresSpec)

/-- 'flowpipelaw10.CirclePeriods', WHERE WHAT IT READS IS OF BULK AT MOST 1048576: true; the input reads as it did. -/
def circlePeriodsUptoRow : OpenClaim := { program := "ytnkijamajifgpaagreatdoor", sum := "dbeea00b755b7c0a5ac1ba70302713966a826637f2e39c17d0571c10bc8f522b", func := "flowpipe/flowpipelaw10.CirclePeriods", spec := "circlePeriods", unfollowed := true, recurses := true, named := ["math/bits.deBruijn32tab", "math/bits.overflowError"], apart := false, laid := [("math/bits.deBruijn32tab", laid_math_bits_deBruijn32tab)], narrowed := true }
def CirclePeriodsUptoSaid : Prop := circlePeriodsUptoRow.holds Tryz.pinned (OpenSpec.upto circlePeriodsSpec)

/-- 'flowpipelaw10.CircleTangents', WHERE WHAT IT READS IS OF BULK AT MOST 1048576: true; the input reads as it did. -/
def circleTangentsUptoRow : OpenClaim := { program := "ytnkijamajifgpaagreatdoor", sum := "dbeea00b755b7c0a5ac1ba70302713966a826637f2e39c17d0571c10bc8f522b", func := "flowpipe/flowpipelaw10.CircleTangents", spec := "circleTangents", unfollowed := true, recurses := true, named := ["math/bits.deBruijn32tab", "math/bits.overflowError"], apart := false, laid := [("math/bits.deBruijn32tab", laid_math_bits_deBruijn32tab)], narrowed := true }
def CircleTangentsUptoSaid : Prop := circleTangentsUptoRow.holds Tryz.pinned (OpenSpec.upto circleTangentsSpec)

/-- 'flowpipelaw10.CircleSums', WHERE WHAT IT READS IS OF BULK AT MOST 1048576: true; the input reads as it did. -/
def circleSumsUptoRow : OpenClaim := { program := "ytnkijamajifgpaagreatdoor", sum := "dbeea00b755b7c0a5ac1ba70302713966a826637f2e39c17d0571c10bc8f522b", func := "flowpipe/flowpipelaw10.CircleSums", spec := "circleSums", unfollowed := true, recurses := true, named := ["math/bits.deBruijn32tab", "math/bits.overflowError"], apart := false, laid := [("math/bits.deBruijn32tab", laid_math_bits_deBruijn32tab)], narrowed := true }
def CircleSumsUptoSaid : Prop := circleSumsUptoRow.holds Tryz.pinned (OpenSpec.upto circleSumsSpec)

end Rows
end Go.Proofs.YtnkijamajifgpaaGreatDoor
