/-
  NARROWER THAN 'FOR EVERY INPUT', by the rows' own cells (each row's printed sentence says how): ExponentLogs: laid · ExponentInverse: laid · ExponentSums: laid · ExponentContains: laid · ExponentPoison: laid · ExponentEnds: laid · ExponentExact: laid · ExponentHyperbolic: laid.
  DERIVED. THE GIVEN ROWS OF THIS SEAT. 8 by the template 'for every input the law returns true; each argument reads behind the call as it read before'; 0 by the template 'total and deterministic' (their statements: YtedfjcdjmnaaiaaGreatDoorTotals.lean).
  GIVEN WITH THE SEED: the statements are not yours to turn. If you find one false, say at which input.
  Laid BY PROGRAM, IN A SANDBOX (cutbox-rows.mjs): the forced cells as the released guide's own fill.sh prints them over the translation 3b3bf648d7f717cc… (all of the seat's roots in one cut). By AI agents, Wed Nov 11 2026. No macro, syntax, notation, axiom, sorry.
-/
import Derived.Test.YtedfjcdjmnaaiaaGreatDoorChecked
import GoSem.Claim
import GoSem.ClaimJoined
import GoSem.ClaimMapViews
import Derived.JoinedTies
import Derived.KernelRfl
namespace Go.Proofs.YtedfjcdjmnaaiaaGreatDoor
/- THE CELL 'sum', in the pinned program and in every row, IS THE sha256 OF THE DUMP (.gsa) THAT YtedfjcdjmnaaiaaGreatDoorProg.lean LOADS. Nothing in Lean hashes anything: it is a label: what it is worth is what the hold of that sum in a sandbox is worth. -/
noncomputable def Tryz.pinned : Pinned := { name := "ytedfjcdjmnaaiaagreatdoor", sum := "3b3bf648d7f717cc25cfa87672fae03491ca7ea3853a509cdc251bcfb9e113ef", checked := Tryz.checked }
namespace Rows
def none {H : Type} : Left H := { results := [], args := [] }

/- WHAT THE LISTED PACKAGE-LEVEL VARIABLES READ AS WHEN THE CALL BEGINS. Each datum BY PROGRAM (the guide's laid-datum.mjs) off the statement by which the dump's own 'gosem.cut.vars' lays the variable. In a bare row this is a premise. The card (YtedfjcdjmnaaiaaGreatDoorCards.lean) ties it to the program's text. -/
def laid_math_bits_deBruijn32tab {H : Type} : DataW H := .agg [.lit (.int .u8 0), .lit (.int .u8 1), .lit (.int .u8 28), .lit (.int .u8 2), .lit (.int .u8 29), .lit (.int .u8 14), .lit (.int .u8 24), .lit (.int .u8 3), .lit (.int .u8 30), .lit (.int .u8 22), .lit (.int .u8 20), .lit (.int .u8 15), .lit (.int .u8 25), .lit (.int .u8 17), .lit (.int .u8 4), .lit (.int .u8 8), .lit (.int .u8 31), .lit (.int .u8 27), .lit (.int .u8 13), .lit (.int .u8 23), .lit (.int .u8 21), .lit (.int .u8 19), .lit (.int .u8 16), .lit (.int .u8 7), .lit (.int .u8 26), .lit (.int .u8 12), .lit (.int .u8 18), .lit (.int .u8 6), .lit (.int .u8 11), .lit (.int .u8 5), .lit (.int .u8 10), .lit (.int .u8 9)]

/-- 'flowpipelaw09.ExponentLogs': WHATEVER THE INPUT: true; the input reads as it did. -/
def exponentLogsSpec : ChangeSpec := { name := "exponentLogs", fn := fun _ => fun
  | [d1, d2] => { results := [.lit (.bool true)], args := [d1, d2] }
  | _ => none }
def exponentLogsRow : OpenClaim := { program := "ytedfjcdjmnaaiaagreatdoor", sum := "3b3bf648d7f717cc25cfa87672fae03491ca7ea3853a509cdc251bcfb9e113ef", func := "flowpipe/flowpipelaw09.ExponentLogs", spec := "exponentLogs", unfollowed := true, recurses := true, named := ["math/bits.deBruijn32tab", "math/bits.overflowError"], apart := false, laid := [("math/bits.deBruijn32tab", laid_math_bits_deBruijn32tab)] }
def ExponentLogsSaid : Prop := exponentLogsRow.holds Tryz.pinned (OpenSpec.ofChange exponentLogsSpec)

/-- ITS FALSE NEIGHBOUR: 'it returns false'. Refute it at one input. -/
def exponentLogsWrong : ChangeSpec := { name := "exponentLogs", fn := fun _ => fun
  | [d1, d2] => { results := [.lit (.bool false)], args := [d1, d2] }
  | _ => none }
def ExponentLogsWrongFalsely : Prop := exponentLogsRow.holds Tryz.pinned (OpenSpec.ofChange exponentLogsWrong)

/-- 'flowpipelaw09.ExponentInverse': WHATEVER THE INPUT: true; the input reads as it did. -/
def exponentInverseSpec : ChangeSpec := { name := "exponentInverse", fn := fun _ => fun
  | [d1, d2] => { results := [.lit (.bool true)], args := [d1, d2] }
  | _ => none }
def exponentInverseRow : OpenClaim := { program := "ytedfjcdjmnaaiaagreatdoor", sum := "3b3bf648d7f717cc25cfa87672fae03491ca7ea3853a509cdc251bcfb9e113ef", func := "flowpipe/flowpipelaw09.ExponentInverse", spec := "exponentInverse", unfollowed := true, recurses := true, named := ["math/bits.deBruijn32tab", "math/bits.overflowError"], apart := false, laid := [("math/bits.deBruijn32tab", laid_math_bits_deBruijn32tab)] }
def ExponentInverseSaid : Prop := exponentInverseRow.holds Tryz.pinned (OpenSpec.ofChange exponentInverseSpec)

/-- ITS FALSE NEIGHBOUR: 'it returns false'. Refute it at one input. -/
def exponentInverseWrong : ChangeSpec := { name := "exponentInverse", fn := fun _ => fun
  | [d1, d2] => { results := [.lit (.bool false)], args := [d1, d2] }
  | _ => none }
def ExponentInverseWrongFalsely : Prop := exponentInverseRow.holds Tryz.pinned (OpenSpec.ofChange exponentInverseWrong)

/-- 'flowpipelaw09.ExponentSums': WHATEVER THE INPUT: true; the input reads as it did. -/
def exponentSumsSpec : ChangeSpec := { name := "exponentSums", fn := fun _ => fun
  | [d1, d2, d3] => { results := [.lit (.bool true)], args := [d1, d2, d3] }
  | _ => none }
def exponentSumsRow : OpenClaim := { program := "ytedfjcdjmnaaiaagreatdoor", sum := "3b3bf648d7f717cc25cfa87672fae03491ca7ea3853a509cdc251bcfb9e113ef", func := "flowpipe/flowpipelaw09.ExponentSums", spec := "exponentSums", unfollowed := true, recurses := true, named := ["math/bits.deBruijn32tab", "math/bits.overflowError"], apart := false, laid := [("math/bits.deBruijn32tab", laid_math_bits_deBruijn32tab)] }
def ExponentSumsSaid : Prop := exponentSumsRow.holds Tryz.pinned (OpenSpec.ofChange exponentSumsSpec)

/-- ITS FALSE NEIGHBOUR: 'it returns false'. Refute it at one input. -/
def exponentSumsWrong : ChangeSpec := { name := "exponentSums", fn := fun _ => fun
  | [d1, d2, d3] => { results := [.lit (.bool false)], args := [d1, d2, d3] }
  | _ => none }
def ExponentSumsWrongFalsely : Prop := exponentSumsRow.holds Tryz.pinned (OpenSpec.ofChange exponentSumsWrong)

/-- 'flowpipelaw09.ExponentContains': WHATEVER THE INPUT: true; the input reads as it did. -/
def exponentContainsSpec : ChangeSpec := { name := "exponentContains", fn := fun _ => fun
  | [d1, d2] => { results := [.lit (.bool true)], args := [d1, d2] }
  | _ => none }
def exponentContainsRow : OpenClaim := { program := "ytedfjcdjmnaaiaagreatdoor", sum := "3b3bf648d7f717cc25cfa87672fae03491ca7ea3853a509cdc251bcfb9e113ef", func := "flowpipe/flowpipelaw09.ExponentContains", spec := "exponentContains", unfollowed := true, recurses := true, named := ["math/bits.deBruijn32tab", "math/bits.overflowError"], apart := false, laid := [("math/bits.deBruijn32tab", laid_math_bits_deBruijn32tab)] }
def ExponentContainsSaid : Prop := exponentContainsRow.holds Tryz.pinned (OpenSpec.ofChange exponentContainsSpec)

/-- ITS FALSE NEIGHBOUR: 'it returns false'. Refute it at one input. -/
def exponentContainsWrong : ChangeSpec := { name := "exponentContains", fn := fun _ => fun
  | [d1, d2] => { results := [.lit (.bool false)], args := [d1, d2] }
  | _ => none }
def ExponentContainsWrongFalsely : Prop := exponentContainsRow.holds Tryz.pinned (OpenSpec.ofChange exponentContainsWrong)

/-- 'flowpipelaw09.ExponentPoison': WHATEVER THE INPUT: true; the input reads as it did. -/
def exponentPoisonSpec : ChangeSpec := { name := "exponentPoison", fn := fun _ => fun
  | [d1, d2] => { results := [.lit (.bool true)], args := [d1, d2] }
  | _ => none }
def exponentPoisonRow : OpenClaim := { program := "ytedfjcdjmnaaiaagreatdoor", sum := "3b3bf648d7f717cc25cfa87672fae03491ca7ea3853a509cdc251bcfb9e113ef", func := "flowpipe/flowpipelaw09.ExponentPoison", spec := "exponentPoison", unfollowed := true, recurses := true, named := ["math/bits.deBruijn32tab", "math/bits.overflowError"], apart := false, laid := [("math/bits.deBruijn32tab", laid_math_bits_deBruijn32tab)] }
def ExponentPoisonSaid : Prop := exponentPoisonRow.holds Tryz.pinned (OpenSpec.ofChange exponentPoisonSpec)

/-- ITS FALSE NEIGHBOUR: 'it returns false'. Refute it at one input. -/
def exponentPoisonWrong : ChangeSpec := { name := "exponentPoison", fn := fun _ => fun
  | [d1, d2] => { results := [.lit (.bool false)], args := [d1, d2] }
  | _ => none }
def ExponentPoisonWrongFalsely : Prop := exponentPoisonRow.holds Tryz.pinned (OpenSpec.ofChange exponentPoisonWrong)

/-- 'flowpipelaw09.ExponentEnds': WHATEVER THE INPUT: true; the input reads as it did. -/
def exponentEndsSpec : ChangeSpec := { name := "exponentEnds", fn := fun _ => fun
  | [d1, d2] => { results := [.lit (.bool true)], args := [d1, d2] }
  | _ => none }
def exponentEndsRow : OpenClaim := { program := "ytedfjcdjmnaaiaagreatdoor", sum := "3b3bf648d7f717cc25cfa87672fae03491ca7ea3853a509cdc251bcfb9e113ef", func := "flowpipe/flowpipelaw09.ExponentEnds", spec := "exponentEnds", unfollowed := true, recurses := true, named := ["math/bits.deBruijn32tab", "math/bits.overflowError"], apart := false, laid := [("math/bits.deBruijn32tab", laid_math_bits_deBruijn32tab)] }
def ExponentEndsSaid : Prop := exponentEndsRow.holds Tryz.pinned (OpenSpec.ofChange exponentEndsSpec)

/-- ITS FALSE NEIGHBOUR: 'it returns false'. Refute it at one input. -/
def exponentEndsWrong : ChangeSpec := { name := "exponentEnds", fn := fun _ => fun
  | [d1, d2] => { results := [.lit (.bool false)], args := [d1, d2] }
  | _ => none }
def ExponentEndsWrongFalsely : Prop := exponentEndsRow.holds Tryz.pinned (OpenSpec.ofChange exponentEndsWrong)

/-- 'flowpipelaw09.ExponentExact': WHATEVER THE INPUT: true; the input reads as it did. -/
def exponentExactSpec : ChangeSpec := { name := "exponentExact", fn := fun _ => fun
  | [d] => { results := [.lit (.bool true)], args := [d] }
  | _ => none }
def exponentExactRow : OpenClaim := { program := "ytedfjcdjmnaaiaagreatdoor", sum := "3b3bf648d7f717cc25cfa87672fae03491ca7ea3853a509cdc251bcfb9e113ef", func := "flowpipe/flowpipelaw09.ExponentExact", spec := "exponentExact", unfollowed := true, recurses := true, named := ["math/bits.deBruijn32tab", "math/bits.overflowError"], apart := false, laid := [("math/bits.deBruijn32tab", laid_math_bits_deBruijn32tab)] }
def ExponentExactSaid : Prop := exponentExactRow.holds Tryz.pinned (OpenSpec.ofChange exponentExactSpec)

/-- ITS FALSE NEIGHBOUR: 'it returns false'. Refute it at one input. -/
def exponentExactWrong : ChangeSpec := { name := "exponentExact", fn := fun _ => fun
  | [d] => { results := [.lit (.bool false)], args := [d] }
  | _ => none }
def ExponentExactWrongFalsely : Prop := exponentExactRow.holds Tryz.pinned (OpenSpec.ofChange exponentExactWrong)

/-- 'flowpipelaw09.ExponentHyperbolic': WHATEVER THE INPUT: true; the input reads as it did. -/
def exponentHyperbolicSpec : ChangeSpec := { name := "exponentHyperbolic", fn := fun _ => fun
  | [d1, d2] => { results := [.lit (.bool true)], args := [d1, d2] }
  | _ => none }
def exponentHyperbolicRow : OpenClaim := { program := "ytedfjcdjmnaaiaagreatdoor", sum := "3b3bf648d7f717cc25cfa87672fae03491ca7ea3853a509cdc251bcfb9e113ef", func := "flowpipe/flowpipelaw09.ExponentHyperbolic", spec := "exponentHyperbolic", unfollowed := true, recurses := true, named := ["math/bits.deBruijn32tab", "math/bits.overflowError"], apart := false, laid := [("math/bits.deBruijn32tab", laid_math_bits_deBruijn32tab)] }
def ExponentHyperbolicSaid : Prop := exponentHyperbolicRow.holds Tryz.pinned (OpenSpec.ofChange exponentHyperbolicSpec)

/-- ITS FALSE NEIGHBOUR: 'it returns false'. Refute it at one input. -/
def exponentHyperbolicWrong : ChangeSpec := { name := "exponentHyperbolic", fn := fun _ => fun
  | [d1, d2] => { results := [.lit (.bool false)], args := [d1, d2] }
  | _ => none }
def ExponentHyperbolicWrongFalsely : Prop := exponentHyperbolicRow.holds Tryz.pinned (OpenSpec.ofChange exponentHyperbolicWrong)

/- THE SECOND FORM. 'bulk': how many values and letters a reading holds, each counted each time it is reached (what is shared counts as often as it is met; a slice's spare places count too). A statement '..UptoSaid' is the law's where the arguments, and the package variables that the reading takes, are together of bulk at most 1048576: NARROWER than '..Said'. Prove '..Said' where nothing that the law and all that it calls make is longer than what came in: it says more and counts as full. Else prove '..UptoSaid'. A law counts once. -/
mutual
def uptoBulk {H : Type} : DataW H → Nat
  | .lit (.string bytes) => bytes.length + 1
  | .lit _ => 1
  | .nil => 1
  | .ptr d => uptoBulk d + 1
  | .slice elems spare => uptoBulkAll elems + uptoBulkAll spare + 1
  | .agg parts => uptoBulkAll parts + 1
  | .iface _ d => uptoBulk d + 1
  | .map entries => uptoBulkEntries entries + 1
  | .held _ => 1
def uptoBulkAll {H : Type} : List (DataW H) → Nat
  | [] => 0
  | d :: r => uptoBulk d + uptoBulkAll r
def uptoBulkEntries {H : Type} : List (Lit × DataW H) → Nat
  | [] => 0
  | x :: r => uptoBulkEntry x + uptoBulkEntries r
def uptoBulkEntry {H : Type} : Lit × DataW H → Nat
  | (.string bytes, d) => bytes.length + uptoBulk d + 1
  | (_, d) => uptoBulk d + 1
 end
def uptoSmall : (H : Type) → List (DataW H) → Bool := fun _ ds => decide (uptoBulkAll ds ≤ 1048576)
def OpenSpec.upto (s : _root_.Go.ChangeSpec) : _root_.Go.OpenSpec := { _root_.Go.OpenSpec.ofChange s with cond := some uptoSmall }

/-- 'flowpipelaw09.ExponentLogs', WHERE WHAT IT READS IS OF BULK AT MOST 1048576: true; the input reads as it did. -/
def exponentLogsUptoRow : OpenClaim := { program := "ytedfjcdjmnaaiaagreatdoor", sum := "3b3bf648d7f717cc25cfa87672fae03491ca7ea3853a509cdc251bcfb9e113ef", func := "flowpipe/flowpipelaw09.ExponentLogs", spec := "exponentLogs", unfollowed := true, recurses := true, named := ["math/bits.deBruijn32tab", "math/bits.overflowError"], apart := false, laid := [("math/bits.deBruijn32tab", laid_math_bits_deBruijn32tab)], narrowed := true }
def ExponentLogsUptoSaid : Prop := exponentLogsUptoRow.holds Tryz.pinned (OpenSpec.upto exponentLogsSpec)

/-- 'flowpipelaw09.ExponentInverse', WHERE WHAT IT READS IS OF BULK AT MOST 1048576: true; the input reads as it did. -/
def exponentInverseUptoRow : OpenClaim := { program := "ytedfjcdjmnaaiaagreatdoor", sum := "3b3bf648d7f717cc25cfa87672fae03491ca7ea3853a509cdc251bcfb9e113ef", func := "flowpipe/flowpipelaw09.ExponentInverse", spec := "exponentInverse", unfollowed := true, recurses := true, named := ["math/bits.deBruijn32tab", "math/bits.overflowError"], apart := false, laid := [("math/bits.deBruijn32tab", laid_math_bits_deBruijn32tab)], narrowed := true }
def ExponentInverseUptoSaid : Prop := exponentInverseUptoRow.holds Tryz.pinned (OpenSpec.upto exponentInverseSpec)

/-- 'flowpipelaw09.ExponentSums', WHERE WHAT IT READS IS OF BULK AT MOST 1048576: true; the input reads as it did. -/
def exponentSumsUptoRow : OpenClaim := { program := "ytedfjcdjmnaaiaagreatdoor", sum := "3b3bf648d7f717cc25cfa87672fae03491ca7ea3853a509cdc251bcfb9e113ef", func := "flowpipe/flowpipelaw09.ExponentSums", spec := "exponentSums", unfollowed := true, recurses := true, named := ["math/bits.deBruijn32tab", "math/bits.overflowError"], apart := false, laid := [("math/bits.deBruijn32tab", laid_math_bits_deBruijn32tab)], narrowed := true }
def ExponentSumsUptoSaid : Prop := exponentSumsUptoRow.holds Tryz.pinned (OpenSpec.upto exponentSumsSpec)

/-- 'flowpipelaw09.ExponentContains', WHERE WHAT IT READS IS OF BULK AT MOST 1048576: true; the input reads as it did. -/
def exponentContainsUptoRow : OpenClaim := { program := "ytedfjcdjmnaaiaagreatdoor", sum := "3b3bf648d7f717cc25cfa87672fae03491ca7ea3853a509cdc251bcfb9e113ef", func := "flowpipe/flowpipelaw09.ExponentContains", spec := "exponentContains", unfollowed := true, recurses := true, named := ["math/bits.deBruijn32tab", "math/bits.overflowError"], apart := false, laid := [("math/bits.deBruijn32tab", laid_math_bits_deBruijn32tab)], narrowed := true }
def ExponentContainsUptoSaid : Prop := exponentContainsUptoRow.holds Tryz.pinned (OpenSpec.upto exponentContainsSpec)

/-- 'flowpipelaw09.ExponentPoison', WHERE WHAT IT READS IS OF BULK AT MOST 1048576: true; the input reads as it did. -/
def exponentPoisonUptoRow : OpenClaim := { program := "ytedfjcdjmnaaiaagreatdoor", sum := "3b3bf648d7f717cc25cfa87672fae03491ca7ea3853a509cdc251bcfb9e113ef", func := "flowpipe/flowpipelaw09.ExponentPoison", spec := "exponentPoison", unfollowed := true, recurses := true, named := ["math/bits.deBruijn32tab", "math/bits.overflowError"], apart := false, laid := [("math/bits.deBruijn32tab", laid_math_bits_deBruijn32tab)], narrowed := true }
def ExponentPoisonUptoSaid : Prop := exponentPoisonUptoRow.holds Tryz.pinned (OpenSpec.upto exponentPoisonSpec)

/-- 'flowpipelaw09.ExponentEnds', WHERE WHAT IT READS IS OF BULK AT MOST 1048576: true; the input reads as it did. -/
def exponentEndsUptoRow : OpenClaim := { program := "ytedfjcdjmnaaiaagreatdoor", sum := "3b3bf648d7f717cc25cfa87672fae03491ca7ea3853a509cdc251bcfb9e113ef", func := "flowpipe/flowpipelaw09.ExponentEnds", spec := "exponentEnds", unfollowed := true, recurses := true, named := ["math/bits.deBruijn32tab", "math/bits.overflowError"], apart := false, laid := [("math/bits.deBruijn32tab", laid_math_bits_deBruijn32tab)], narrowed := true }
def ExponentEndsUptoSaid : Prop := exponentEndsUptoRow.holds Tryz.pinned (OpenSpec.upto exponentEndsSpec)

/-- 'flowpipelaw09.ExponentExact', WHERE WHAT IT READS IS OF BULK AT MOST 1048576: true; the input reads as it did. -/
def exponentExactUptoRow : OpenClaim := { program := "ytedfjcdjmnaaiaagreatdoor", sum := "3b3bf648d7f717cc25cfa87672fae03491ca7ea3853a509cdc251bcfb9e113ef", func := "flowpipe/flowpipelaw09.ExponentExact", spec := "exponentExact", unfollowed := true, recurses := true, named := ["math/bits.deBruijn32tab", "math/bits.overflowError"], apart := false, laid := [("math/bits.deBruijn32tab", laid_math_bits_deBruijn32tab)], narrowed := true }
def ExponentExactUptoSaid : Prop := exponentExactUptoRow.holds Tryz.pinned (OpenSpec.upto exponentExactSpec)

/-- 'flowpipelaw09.ExponentHyperbolic', WHERE WHAT IT READS IS OF BULK AT MOST 1048576: true; the input reads as it did. -/
def exponentHyperbolicUptoRow : OpenClaim := { program := "ytedfjcdjmnaaiaagreatdoor", sum := "3b3bf648d7f717cc25cfa87672fae03491ca7ea3853a509cdc251bcfb9e113ef", func := "flowpipe/flowpipelaw09.ExponentHyperbolic", spec := "exponentHyperbolic", unfollowed := true, recurses := true, named := ["math/bits.deBruijn32tab", "math/bits.overflowError"], apart := false, laid := [("math/bits.deBruijn32tab", laid_math_bits_deBruijn32tab)], narrowed := true }
def ExponentHyperbolicUptoSaid : Prop := exponentHyperbolicUptoRow.holds Tryz.pinned (OpenSpec.upto exponentHyperbolicSpec)

end Rows
end Go.Proofs.YtedfjcdjmnaaiaaGreatDoor
