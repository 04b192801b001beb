/-
  No cell of these rows narrows 'for every input' (looked for: loops, veiled, ifaces, maps, wideKeys, modest, calm, conditions, laid).
  DERIVED. THE GIVEN ROWS OF THIS SEAT. 6 by the template 'for every input the law returns true; each argument reads behind the call as it read before'; 0 by the template 'total and deterministic' (their statements: YteghcekbgfhieaaTotals.lean).
  GIVEN WITH THE SEED: the statements are not yours to turn. If you find one false, say at which input.
  Laid BY PROGRAM, IN A SANDBOX (cutbox-rows.mjs): the forced cells as the released guide's own fill.sh prints them over the translation 095c75cbcd39f78d… (all of the seat's roots in one cut). By AI agents, Wed Nov 11 2026. No macro, syntax, notation, axiom, sorry.
-/
import Derived.Test.YteghcekbgfhieaaChecked
import GoSem.Claim
import GoSem.ClaimJoined
import GoSem.ClaimMapViews
import Derived.JoinedTies
import Derived.KernelRfl
namespace Go.Proofs.Yteghcekbgfhieaa
/- THE CELL 'sum', in the pinned program and in every row, IS THE sha256 OF THE DUMP (.gsa) THAT YteghcekbgfhieaaProg.lean LOADS. Nothing in Lean hashes anything: it is a label: what it is worth is what the hold of that sum in a sandbox is worth. -/
noncomputable def Try.pinned : Pinned := { name := "yteghcekbgfhieaa", sum := "095c75cbcd39f78d527fd1e426adc5bbb9a313178742a3fc204c0a8ecf34c661", checked := Try.checked }
namespace Rows
def none {H : Type} : Left H := { results := [], args := [] }

/-- 'flowpipelaw37.PipeCuts': WHATEVER THE INPUT: true; the input reads as it did. -/
def pipeCutsSpec : ChangeSpec := { name := "pipeCuts", fn := fun _ => fun
  | [d1, d2, d3] => { results := [.lit (.bool true)], args := [d1, d2, d3] }
  | _ => none }
def pipeCutsRow : OpenClaim := { program := "yteghcekbgfhieaa", sum := "095c75cbcd39f78d527fd1e426adc5bbb9a313178742a3fc204c0a8ecf34c661", func := "flowpipe/flowpipelaw37.PipeCuts", spec := "pipeCuts", unfollowed := true, recurses := true, apart := false }
def PipeCutsSaid : Prop := pipeCutsRow.holds Try.pinned (OpenSpec.ofChange pipeCutsSpec)

/-- ITS FALSE NEIGHBOUR: 'it returns false'. Refute it at one input. -/
def pipeCutsWrong : ChangeSpec := { name := "pipeCuts", fn := fun _ => fun
  | [d1, d2, d3] => { results := [.lit (.bool false)], args := [d1, d2, d3] }
  | _ => none }
def PipeCutsWrongFalsely : Prop := pipeCutsRow.holds Try.pinned (OpenSpec.ofChange pipeCutsWrong)

/-- 'flowpipelaw37.PipeValid': WHATEVER THE INPUT: true; the input reads as it did. -/
def pipeValidSpec : ChangeSpec := { name := "pipeValid", fn := fun _ => fun
  | [d1, d2] => { results := [.lit (.bool true)], args := [d1, d2] }
  | _ => none }
def pipeValidRow : OpenClaim := { program := "yteghcekbgfhieaa", sum := "095c75cbcd39f78d527fd1e426adc5bbb9a313178742a3fc204c0a8ecf34c661", func := "flowpipe/flowpipelaw37.PipeValid", spec := "pipeValid", unfollowed := true, recurses := true, apart := false }
def PipeValidSaid : Prop := pipeValidRow.holds Try.pinned (OpenSpec.ofChange pipeValidSpec)

/-- ITS FALSE NEIGHBOUR: 'it returns false'. Refute it at one input. -/
def pipeValidWrong : ChangeSpec := { name := "pipeValid", fn := fun _ => fun
  | [d1, d2] => { results := [.lit (.bool false)], args := [d1, d2] }
  | _ => none }
def PipeValidWrongFalsely : Prop := pipeValidRow.holds Try.pinned (OpenSpec.ofChange pipeValidWrong)

/-- 'flowpipelaw37.PipeJoins': WHATEVER THE INPUT: true; the input reads as it did. -/
def pipeJoinsSpec : ChangeSpec := { name := "pipeJoins", fn := fun _ => fun
  | [d1, d2] => { results := [.lit (.bool true)], args := [d1, d2] }
  | _ => none }
def pipeJoinsRow : OpenClaim := { program := "yteghcekbgfhieaa", sum := "095c75cbcd39f78d527fd1e426adc5bbb9a313178742a3fc204c0a8ecf34c661", func := "flowpipe/flowpipelaw37.PipeJoins", spec := "pipeJoins", unfollowed := true, recurses := true, apart := false }
def PipeJoinsSaid : Prop := pipeJoinsRow.holds Try.pinned (OpenSpec.ofChange pipeJoinsSpec)

/-- ITS FALSE NEIGHBOUR: 'it returns false'. Refute it at one input. -/
def pipeJoinsWrong : ChangeSpec := { name := "pipeJoins", fn := fun _ => fun
  | [d1, d2] => { results := [.lit (.bool false)], args := [d1, d2] }
  | _ => none }
def PipeJoinsWrongFalsely : Prop := pipeJoinsRow.holds Try.pinned (OpenSpec.ofChange pipeJoinsWrong)

/-- 'flowpipelaw37.PipeFirst': WHATEVER THE INPUT: true; the input reads as it did. -/
def pipeFirstSpec : ChangeSpec := { name := "pipeFirst", fn := fun _ => fun
  | [d1, d2] => { results := [.lit (.bool true)], args := [d1, d2] }
  | _ => none }
def pipeFirstRow : OpenClaim := { program := "yteghcekbgfhieaa", sum := "095c75cbcd39f78d527fd1e426adc5bbb9a313178742a3fc204c0a8ecf34c661", func := "flowpipe/flowpipelaw37.PipeFirst", spec := "pipeFirst", unfollowed := true, recurses := true, apart := false }
def PipeFirstSaid : Prop := pipeFirstRow.holds Try.pinned (OpenSpec.ofChange pipeFirstSpec)

/-- ITS FALSE NEIGHBOUR: 'it returns false'. Refute it at one input. -/
def pipeFirstWrong : ChangeSpec := { name := "pipeFirst", fn := fun _ => fun
  | [d1, d2] => { results := [.lit (.bool false)], args := [d1, d2] }
  | _ => none }
def PipeFirstWrongFalsely : Prop := pipeFirstRow.holds Try.pinned (OpenSpec.ofChange pipeFirstWrong)

/-- 'flowpipelaw37.PipeAt': WHATEVER THE INPUT: true; the input reads as it did. -/
def pipeAtSpec : ChangeSpec := { name := "pipeAt", fn := fun _ => fun
  | [d1, d2, d3] => { results := [.lit (.bool true)], args := [d1, d2, d3] }
  | _ => none }
def pipeAtRow : OpenClaim := { program := "yteghcekbgfhieaa", sum := "095c75cbcd39f78d527fd1e426adc5bbb9a313178742a3fc204c0a8ecf34c661", func := "flowpipe/flowpipelaw37.PipeAt", spec := "pipeAt", unfollowed := true, recurses := true, apart := false }
def PipeAtSaid : Prop := pipeAtRow.holds Try.pinned (OpenSpec.ofChange pipeAtSpec)

/-- ITS FALSE NEIGHBOUR: 'it returns false'. Refute it at one input. -/
def pipeAtWrong : ChangeSpec := { name := "pipeAt", fn := fun _ => fun
  | [d1, d2, d3] => { results := [.lit (.bool false)], args := [d1, d2, d3] }
  | _ => none }
def PipeAtWrongFalsely : Prop := pipeAtRow.holds Try.pinned (OpenSpec.ofChange pipeAtWrong)

/-- 'flowpipelaw37.PipeOver': WHATEVER THE INPUT: true; the input reads as it did. -/
def pipeOverSpec : ChangeSpec := { name := "pipeOver", fn := fun _ => fun
  | [d1, d2, d3, d4] => { results := [.lit (.bool true)], args := [d1, d2, d3, d4] }
  | _ => none }
def pipeOverRow : OpenClaim := { program := "yteghcekbgfhieaa", sum := "095c75cbcd39f78d527fd1e426adc5bbb9a313178742a3fc204c0a8ecf34c661", func := "flowpipe/flowpipelaw37.PipeOver", spec := "pipeOver", unfollowed := true, recurses := true, apart := false }
def PipeOverSaid : Prop := pipeOverRow.holds Try.pinned (OpenSpec.ofChange pipeOverSpec)

/-- ITS FALSE NEIGHBOUR: 'it returns false'. Refute it at one input. -/
def pipeOverWrong : ChangeSpec := { name := "pipeOver", fn := fun _ => fun
  | [d1, d2, d3, d4] => { results := [.lit (.bool false)], args := [d1, d2, d3, d4] }
  | _ => none }
def PipeOverWrongFalsely : Prop := pipeOverRow.holds Try.pinned (OpenSpec.ofChange pipeOverWrong)

/- THE SECOND FORM. 'bulk': how many values and letters a reading holds, each counted each time it is reached (what is shared counts as often as it is met; a slice's spare places count too). A statement '..UptoSaid' is the law's where the arguments, and the package variables that the reading takes, are together of bulk at most 1048576: NARROWER than '..Said'. Prove '..Said' where nothing that the law and all that it calls make is longer than what came in: it says more and counts as full. Else prove '..UptoSaid'. A law counts once. -/
mutual
def uptoBulk {H : Type} : DataW H → Nat
  | .lit (.string bytes) => bytes.length + 1
  | .lit _ => 1
  | .nil => 1
  | .ptr d => uptoBulk d + 1
  | .slice elems spare => uptoBulkAll elems + uptoBulkAll spare + 1
  | .agg parts => uptoBulkAll parts + 1
  | .iface _ d => uptoBulk d + 1
  | .map entries => uptoBulkEntries entries + 1
  | .held _ => 1
def uptoBulkAll {H : Type} : List (DataW H) → Nat
  | [] => 0
  | d :: r => uptoBulk d + uptoBulkAll r
def uptoBulkEntries {H : Type} : List (Lit × DataW H) → Nat
  | [] => 0
  | x :: r => uptoBulkEntry x + uptoBulkEntries r
def uptoBulkEntry {H : Type} : Lit × DataW H → Nat
  | (.string bytes, d) => bytes.length + uptoBulk d + 1
  | (_, d) => uptoBulk d + 1
 end
def uptoSmall : (H : Type) → List (DataW H) → Bool := fun _ ds => decide (uptoBulkAll ds ≤ 1048576)
def OpenSpec.upto (s : _root_.Go.ChangeSpec) : _root_.Go.OpenSpec := { _root_.Go.OpenSpec.ofChange s with cond := some uptoSmall }

/-- 'flowpipelaw37.PipeCuts', WHERE WHAT IT READS IS OF BULK AT MOST 1048576: true; the input reads as it did. -/
def pipeCutsUptoRow : OpenClaim := { program := "yteghcekbgfhieaa", sum := "095c75cbcd39f78d527fd1e426adc5bbb9a313178742a3fc204c0a8ecf34c661", func := "flowpipe/flowpipelaw37.PipeCuts", spec := "pipeCuts", unfollowed := true, recurses := true, apart := false, narrowed := true }
def PipeCutsUptoSaid : Prop := pipeCutsUptoRow.holds Try.pinned (OpenSpec.upto pipeCutsSpec)

/-- 'flowpipelaw37.PipeValid', WHERE WHAT IT READS IS OF BULK AT MOST 1048576: true; the input reads as it did. -/
def pipeValidUptoRow : OpenClaim := { program := "yteghcekbgfhieaa", sum := "095c75cbcd39f78d527fd1e426adc5bbb9a313178742a3fc204c0a8ecf34c661", func := "flowpipe/flowpipelaw37.PipeValid", spec := "pipeValid", unfollowed := true, recurses := true, apart := false, narrowed := true }
def PipeValidUptoSaid : Prop := pipeValidUptoRow.holds Try.pinned (OpenSpec.upto pipeValidSpec)

/-- 'flowpipelaw37.PipeJoins', WHERE WHAT IT READS IS OF BULK AT MOST 1048576: true; the input reads as it did. -/
def pipeJoinsUptoRow : OpenClaim := { program := "yteghcekbgfhieaa", sum := "095c75cbcd39f78d527fd1e426adc5bbb9a313178742a3fc204c0a8ecf34c661", func := "flowpipe/flowpipelaw37.PipeJoins", spec := "pipeJoins", unfollowed := true, recurses := true, apart := false, narrowed := true }
def PipeJoinsUptoSaid : Prop := pipeJoinsUptoRow.holds Try.pinned (OpenSpec.upto pipeJoinsSpec)

/-- 'flowpipelaw37.PipeFirst', WHERE WHAT IT READS IS OF BULK AT MOST 1048576: true; the input reads as it did. -/
def pipeFirstUptoRow : OpenClaim := { program := "yteghcekbgfhieaa", sum := "095c75cbcd39f78d527fd1e426adc5bbb9a313178742a3fc204c0a8ecf34c661", func := "flowpipe/flowpipelaw37.PipeFirst", spec := "pipeFirst", unfollowed := true, recurses := true, apart := false, narrowed := true }
def PipeFirstUptoSaid : Prop := pipeFirstUptoRow.holds Try.pinned (OpenSpec.upto pipeFirstSpec)

/-- 'flowpipelaw37.PipeAt', WHERE WHAT IT READS IS OF BULK AT MOST 1048576: true; the input reads as it did. -/
def pipeAtUptoRow : OpenClaim := { program := "yteghcekbgfhieaa", sum := "095c75cbcd39f78d527fd1e426adc5bbb9a313178742a3fc204c0a8ecf34c661", func := "flowpipe/flowpipelaw37.PipeAt", spec := "pipeAt", unfollowed := true, recurses := true, apart := false, narrowed := true }
def PipeAtUptoSaid : Prop := pipeAtUptoRow.holds Try.pinned (OpenSpec.upto pipeAtSpec)

/-- 'flowpipelaw37.PipeOver', WHERE WHAT IT READS IS OF BULK AT MOST 1048576: true; the input reads as it did. -/
def pipeOverUptoRow : OpenClaim := { program := "yteghcekbgfhieaa", sum := "095c75cbcd39f78d527fd1e426adc5bbb9a313178742a3fc204c0a8ecf34c661", func := "flowpipe/flowpipelaw37.PipeOver", spec := "pipeOver", unfollowed := true, recurses := true, apart := false, narrowed := true }
def PipeOverUptoSaid : Prop := pipeOverUptoRow.holds Try.pinned (OpenSpec.upto pipeOverSpec)

end Rows
end Go.Proofs.Yteghcekbgfhieaa
