/-
  DERIVED. GIVEN WITH THE SEED: THE CARDS: each row of YtpdchdfajhbglaaGreatDoorRows.lean that lists a variable, with what it lists TIED to the program's text (the seventh form; the later family's looks); each row that meets fmt, with fmt's text TOLD by the authors' own Lean function (tested against real Go, not proved from fmt's source: count such statements apart). THE CARD IS WHAT COUNTS. Prove the row's statement (the work); the ties are given (YtpdchdfajhbglaaGreatDoorTie.lean); close each card by the builder's one call (the guide's Derived/Test/ToyasCard.lean, 'card_holds'). Laid BY PROGRAM, IN A SANDBOX (cutbox-door.mjs). By AI agents, Wed Nov 11 2026. No macro, syntax, notation, axiom, sorry.
-/
import Derived.Test.YtpdchdfajhbglaaGreatDoorRows
import GoSem.ClaimSeven
namespace Go.Proofs.YtpdchdfajhbglaaGreatDoor
namespace Rows

/-- THE TIED CARD OF 'flowpipelaw21.SeriesFunctions'. -/
def seriesFunctionsCard : Claim7 := { stood := { row := seriesFunctionsRow, standIns := [], harness := (true, "47c25207c29a85ae2b73baa7e9d5b3041efd870a558e670b49faf09e783c6ed2"), looks := false }, kinds := [], alts := [], laidByText := true, laidKinds := [.data], laidTests := true, laidLooks := .later }
def SeriesFunctionsCardSaid : Prop := Claim7.holds Tryz.pinned (.plain (OpenSpec.ofChange seriesFunctionsSpec)) seriesFunctionsCard

/-- THE TIED CARD OF 'flowpipelaw21.SeriesApplies'. -/
def seriesAppliesCard : Claim7 := { stood := { row := seriesAppliesRow, standIns := [], harness := (true, "47c25207c29a85ae2b73baa7e9d5b3041efd870a558e670b49faf09e783c6ed2"), looks := false }, kinds := [], alts := [], laidByText := true, laidKinds := [.data], laidTests := true, laidLooks := .later }
def SeriesAppliesCardSaid : Prop := Claim7.holds Tryz.pinned (.plain (OpenSpec.ofChange seriesAppliesSpec)) seriesAppliesCard

/-- THE TIED CARD OF 'flowpipelaw21.SeriesInverse'. -/
def seriesInverseCard : Claim7 := { stood := { row := seriesInverseRow, standIns := [], harness := (true, "47c25207c29a85ae2b73baa7e9d5b3041efd870a558e670b49faf09e783c6ed2"), looks := false }, kinds := [], alts := [], laidByText := true, laidKinds := [.data], laidTests := true, laidLooks := .later }
def SeriesInverseCardSaid : Prop := Claim7.holds Tryz.pinned (.plain (OpenSpec.ofChange seriesInverseSpec)) seriesInverseCard

/-- THE TIED CARD OF 'flowpipetop.WholeArithmetic'. -/
def wholeArithmeticCard : Claim7 := { stood := { row := wholeArithmeticRow, standIns := [], harness := (true, "47c25207c29a85ae2b73baa7e9d5b3041efd870a558e670b49faf09e783c6ed2"), looks := false }, kinds := [], alts := [], laidByText := true, laidKinds := [.data], laidTests := true, laidLooks := .later }
def WholeArithmeticCardSaid : Prop := Claim7.holds Tryz.pinned (.plain (OpenSpec.ofChange wholeArithmeticSpec)) wholeArithmeticCard

/-- THE TIED CARD OF 'flowpipelaw37.PipeRanges'. -/
def pipeRangesCard : Claim7 := { stood := { row := pipeRangesRow, standIns := [], harness := (true, "47c25207c29a85ae2b73baa7e9d5b3041efd870a558e670b49faf09e783c6ed2"), looks := false }, kinds := [], alts := [], laidByText := true, laidKinds := [.data], laidTests := true, laidLooks := .later }
def PipeRangesCardSaid : Prop := Claim7.holds Tryz.pinned (.plain (OpenSpec.ofChange pipeRangesSpec)) pipeRangesCard

/-- THE SECOND FORM's CARD OF 'flowpipelaw21.SeriesFunctions'. -/
def seriesFunctionsUptoCard : Claim7 := { stood := { row := seriesFunctionsUptoRow, standIns := [], harness := (true, "47c25207c29a85ae2b73baa7e9d5b3041efd870a558e670b49faf09e783c6ed2"), looks := false }, kinds := [], alts := [], laidByText := true, laidKinds := [.data], laidTests := true, laidLooks := .later }
def SeriesFunctionsUptoCardSaid : Prop := Claim7.holds Tryz.pinned (.plain (OpenSpec.upto seriesFunctionsSpec)) seriesFunctionsUptoCard

/-- THE SECOND FORM's CARD OF 'flowpipelaw21.SeriesApplies'. -/
def seriesAppliesUptoCard : Claim7 := { stood := { row := seriesAppliesUptoRow, standIns := [], harness := (true, "47c25207c29a85ae2b73baa7e9d5b3041efd870a558e670b49faf09e783c6ed2"), looks := false }, kinds := [], alts := [], laidByText := true, laidKinds := [.data], laidTests := true, laidLooks := .later }
def SeriesAppliesUptoCardSaid : Prop := Claim7.holds Tryz.pinned (.plain (OpenSpec.upto seriesAppliesSpec)) seriesAppliesUptoCard

/-- THE SECOND FORM's CARD OF 'flowpipelaw21.SeriesInverse'. -/
def seriesInverseUptoCard : Claim7 := { stood := { row := seriesInverseUptoRow, standIns := [], harness := (true, "47c25207c29a85ae2b73baa7e9d5b3041efd870a558e670b49faf09e783c6ed2"), looks := false }, kinds := [], alts := [], laidByText := true, laidKinds := [.data], laidTests := true, laidLooks := .later }
def SeriesInverseUptoCardSaid : Prop := Claim7.holds Tryz.pinned (.plain (OpenSpec.upto seriesInverseSpec)) seriesInverseUptoCard

/-- THE SECOND FORM's CARD OF 'flowpipetop.WholeArithmetic'. -/
def wholeArithmeticUptoCard : Claim7 := { stood := { row := wholeArithmeticUptoRow, standIns := [], harness := (true, "47c25207c29a85ae2b73baa7e9d5b3041efd870a558e670b49faf09e783c6ed2"), looks := false }, kinds := [], alts := [], laidByText := true, laidKinds := [.data], laidTests := true, laidLooks := .later }
def WholeArithmeticUptoCardSaid : Prop := Claim7.holds Tryz.pinned (.plain (OpenSpec.upto wholeArithmeticSpec)) wholeArithmeticUptoCard

/-- THE SECOND FORM's CARD OF 'flowpipelaw37.PipeRanges'. -/
def pipeRangesUptoCard : Claim7 := { stood := { row := pipeRangesUptoRow, standIns := [], harness := (true, "47c25207c29a85ae2b73baa7e9d5b3041efd870a558e670b49faf09e783c6ed2"), looks := false }, kinds := [], alts := [], laidByText := true, laidKinds := [.data], laidTests := true, laidLooks := .later }
def PipeRangesUptoCardSaid : Prop := Claim7.holds Tryz.pinned (.plain (OpenSpec.upto pipeRangesSpec)) pipeRangesUptoCard
end Rows
end Go.Proofs.YtpdchdfajhbglaaGreatDoor
