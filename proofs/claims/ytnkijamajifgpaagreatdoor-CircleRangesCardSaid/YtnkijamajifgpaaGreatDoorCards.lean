/-
  DERIVED. GIVEN WITH THE SEED: THE CARDS: each row of YtnkijamajifgpaaGreatDoorRows.lean that lists a variable, with what it lists TIED to the program's text (the seventh form; the later family's looks); each row that meets fmt, with fmt's text TOLD by the authors' own Lean function (tested against real Go, not proved from fmt's source: count such statements apart). THE CARD IS WHAT COUNTS. Prove the row's statement (the work); the ties are given (YtnkijamajifgpaaGreatDoorTie.lean); close each card by the builder's one call (the guide's Derived/Test/ToyasCard.lean, 'card_holds'). Laid BY PROGRAM, IN A SANDBOX (cutbox-door.mjs). By AI agents, Wed Nov 11 2026. No macro, syntax, notation, axiom, sorry.
-/
import Derived.Test.YtnkijamajifgpaaGreatDoorRows
import GoSem.ClaimSeven
namespace Go.Proofs.YtnkijamajifgpaaGreatDoor
namespace Rows

/-- THE TIED CARD OF 'flowpipelaw10.CirclePi'. -/
def circlePiCard : Claim7 := { stood := { row := circlePiRow, standIns := [], harness := (true, "f795dea529418b82d56ebc761e13d571f6a6bc81d20a6797bcb9f30b5842cd2f"), looks := false }, kinds := [], alts := [], laidByText := true, laidKinds := [.data], laidTests := true, laidLooks := .later }
def CirclePiCardSaid : Prop := Claim7.holds Tryz.pinned (.plain (OpenSpec.ofChange circlePiSpec)) circlePiCard

/-- THE TIED CARD OF 'flowpipelaw10.CirclePoints'. -/
def circlePointsCard : Claim7 := { stood := { row := circlePointsRow, standIns := [], harness := (true, "f795dea529418b82d56ebc761e13d571f6a6bc81d20a6797bcb9f30b5842cd2f"), looks := false }, kinds := [], alts := [], laidByText := true, laidKinds := [.data], laidTests := true, laidLooks := .later }
def CirclePointsCardSaid : Prop := Claim7.holds Tryz.pinned (.plain (OpenSpec.ofChange circlePointsSpec)) circlePointsCard

/-- THE TIED CARD OF 'flowpipelaw10.CircleAtans'. -/
def circleAtansCard : Claim7 := { stood := { row := circleAtansRow, standIns := [], harness := (true, "f795dea529418b82d56ebc761e13d571f6a6bc81d20a6797bcb9f30b5842cd2f"), looks := false }, kinds := [], alts := [], laidByText := true, laidKinds := [.data], laidTests := true, laidLooks := .later }
def CircleAtansCardSaid : Prop := Claim7.holds Tryz.pinned (.plain (OpenSpec.ofChange circleAtansSpec)) circleAtansCard

/-- THE TIED CARD OF 'flowpipelaw10.CircleRanges'. -/
def circleRangesCard : Claim7 := { stood := { row := circleRangesRow, standIns := [], harness := (true, "f795dea529418b82d56ebc761e13d571f6a6bc81d20a6797bcb9f30b5842cd2f"), looks := false }, kinds := [], alts := [], laidByText := true, laidKinds := [.data], laidTests := true, laidLooks := .later }
def CircleRangesCardSaid : Prop := Claim7.holds Tryz.pinned (.plain (OpenSpec.ofChange circleRangesSpec)) circleRangesCard

/-- THE TIED CARD OF 'flowpipelaw10.CirclePoisons'. -/
def circlePoisonsCard : Claim7 := { stood := { row := circlePoisonsRow, standIns := [], harness := (true, "f795dea529418b82d56ebc761e13d571f6a6bc81d20a6797bcb9f30b5842cd2f"), looks := false }, kinds := [], alts := [], laidByText := true, laidKinds := [.data], laidTests := true, laidLooks := .later }
def CirclePoisonsCardSaid : Prop := Claim7.holds Tryz.pinned (.plain (OpenSpec.ofChange circlePoisonsSpec)) circlePoisonsCard

/-- THE TIED CARD OF 'flowpipelaw10.CircleParts'. -/
def circlePartsCard : Claim7 := { stood := { row := circlePartsRow, standIns := [], harness := (true, "f795dea529418b82d56ebc761e13d571f6a6bc81d20a6797bcb9f30b5842cd2f"), looks := false }, kinds := [], alts := [], laidByText := true, laidKinds := [.data], laidTests := true, laidLooks := .later }
def CirclePartsCardSaid : Prop := Claim7.holds Tryz.pinned (.plain (OpenSpec.ofChange circlePartsSpec)) circlePartsCard

/-- THE TIED CARD OF 'flowpipelaw10.CircleSquares'. -/
def circleSquaresCard : Claim7 := { stood := { row := circleSquaresRow, standIns := [], harness := (true, "f795dea529418b82d56ebc761e13d571f6a6bc81d20a6797bcb9f30b5842cd2f"), looks := false }, kinds := [], alts := [], laidByText := true, laidKinds := [.data], laidTests := true, laidLooks := .later }
def CircleSquaresCardSaid : Prop := Claim7.holds Tryz.pinned (.plain (OpenSpec.ofChange circleSquaresSpec)) circleSquaresCard

/-- THE TIED CARD OF 'flowpipelaw10.CirclePeriods'. -/
def circlePeriodsCard : Claim7 := { stood := { row := circlePeriodsRow, standIns := [], harness := (true, "f795dea529418b82d56ebc761e13d571f6a6bc81d20a6797bcb9f30b5842cd2f"), looks := false }, kinds := [], alts := [], laidByText := true, laidKinds := [.data], laidTests := true, laidLooks := .later }
def CirclePeriodsCardSaid : Prop := Claim7.holds Tryz.pinned (.plain (OpenSpec.ofChange circlePeriodsSpec)) circlePeriodsCard

/-- THE TIED CARD OF 'flowpipelaw10.CircleTangents'. -/
def circleTangentsCard : Claim7 := { stood := { row := circleTangentsRow, standIns := [], harness := (true, "f795dea529418b82d56ebc761e13d571f6a6bc81d20a6797bcb9f30b5842cd2f"), looks := false }, kinds := [], alts := [], laidByText := true, laidKinds := [.data], laidTests := true, laidLooks := .later }
def CircleTangentsCardSaid : Prop := Claim7.holds Tryz.pinned (.plain (OpenSpec.ofChange circleTangentsSpec)) circleTangentsCard

/-- THE TIED CARD OF 'flowpipelaw10.CircleSums'. -/
def circleSumsCard : Claim7 := { stood := { row := circleSumsRow, standIns := [], harness := (true, "f795dea529418b82d56ebc761e13d571f6a6bc81d20a6797bcb9f30b5842cd2f"), looks := false }, kinds := [], alts := [], laidByText := true, laidKinds := [.data], laidTests := true, laidLooks := .later }
def CircleSumsCardSaid : Prop := Claim7.holds Tryz.pinned (.plain (OpenSpec.ofChange circleSumsSpec)) circleSumsCard

/-- THE SECOND FORM's CARD OF 'flowpipelaw10.CirclePi'. -/
def circlePiUptoCard : Claim7 := { stood := { row := circlePiUptoRow, standIns := [], harness := (true, "f795dea529418b82d56ebc761e13d571f6a6bc81d20a6797bcb9f30b5842cd2f"), looks := false }, kinds := [], alts := [], laidByText := true, laidKinds := [.data], laidTests := true, laidLooks := .later }
def CirclePiUptoCardSaid : Prop := Claim7.holds Tryz.pinned (.plain (OpenSpec.upto circlePiSpec)) circlePiUptoCard

/-- THE SECOND FORM's CARD OF 'flowpipelaw10.CirclePoints'. -/
def circlePointsUptoCard : Claim7 := { stood := { row := circlePointsUptoRow, standIns := [], harness := (true, "f795dea529418b82d56ebc761e13d571f6a6bc81d20a6797bcb9f30b5842cd2f"), looks := false }, kinds := [], alts := [], laidByText := true, laidKinds := [.data], laidTests := true, laidLooks := .later }
def CirclePointsUptoCardSaid : Prop := Claim7.holds Tryz.pinned (.plain (OpenSpec.upto circlePointsSpec)) circlePointsUptoCard

/-- THE SECOND FORM's CARD OF 'flowpipelaw10.CircleAtans'. -/
def circleAtansUptoCard : Claim7 := { stood := { row := circleAtansUptoRow, standIns := [], harness := (true, "f795dea529418b82d56ebc761e13d571f6a6bc81d20a6797bcb9f30b5842cd2f"), looks := false }, kinds := [], alts := [], laidByText := true, laidKinds := [.data], laidTests := true, laidLooks := .later }
def CircleAtansUptoCardSaid : Prop := Claim7.holds Tryz.pinned (.plain (OpenSpec.upto circleAtansSpec)) circleAtansUptoCard

/-- THE SECOND FORM's CARD OF 'flowpipelaw10.CircleRanges'. -/
def circleRangesUptoCard : Claim7 := { stood := { row := circleRangesUptoRow, standIns := [], harness := (true, "f795dea529418b82d56ebc761e13d571f6a6bc81d20a6797bcb9f30b5842cd2f"), looks := false }, kinds := [], alts := [], laidByText := true, laidKinds := [.data], laidTests := true, laidLooks := .later }
def CircleRangesUptoCardSaid : Prop := Claim7.holds Tryz.pinned (.plain (OpenSpec.upto circleRangesSpec)) circleRangesUptoCard

/-- THE SECOND FORM's CARD OF 'flowpipelaw10.CirclePoisons'. -/
def circlePoisonsUptoCard : Claim7 := { stood := { row := circlePoisonsUptoRow, standIns := [], harness := (true, "f795dea529418b82d56ebc761e13d571f6a6bc81d20a6797bcb9f30b5842cd2f"), looks := false }, kinds := [], alts := [], laidByText := true, laidKinds := [.data], laidTests := true, laidLooks := .later }
def CirclePoisonsUptoCardSaid : Prop := Claim7.holds Tryz.pinned (.plain (OpenSpec.upto circlePoisonsSpec)) circlePoisonsUptoCard

/-- THE SECOND FORM's CARD OF 'flowpipelaw10.CircleParts'. -/
def circlePartsUptoCard : Claim7 := { stood := { row := circlePartsUptoRow, standIns := [], harness := (true, "f795dea529418b82d56ebc761e13d571f6a6bc81d20a6797bcb9f30b5842cd2f"), looks := false }, kinds := [], alts := [], laidByText := true, laidKinds := [.data], laidTests := true, laidLooks := .later }
def CirclePartsUptoCardSaid : Prop := Claim7.holds Tryz.pinned (.plain (OpenSpec.upto circlePartsSpec)) circlePartsUptoCard

/-- THE SECOND FORM's CARD OF 'flowpipelaw10.CircleSquares'. -/
def circleSquaresUptoCard : Claim7 := { stood := { row := circleSquaresUptoRow, standIns := [], harness := (true, "f795dea529418b82d56ebc761e13d571f6a6bc81d20a6797bcb9f30b5842cd2f"), looks := false }, kinds := [], alts := [], laidByText := true, laidKinds := [.data], laidTests := true, laidLooks := .later }
def CircleSquaresUptoCardSaid : Prop := Claim7.holds Tryz.pinned (.plain (OpenSpec.upto circleSquaresSpec)) circleSquaresUptoCard

/-- THE SECOND FORM's CARD OF 'flowpipelaw10.CirclePeriods'. -/
def circlePeriodsUptoCard : Claim7 := { stood := { row := circlePeriodsUptoRow, standIns := [], harness := (true, "f795dea529418b82d56ebc761e13d571f6a6bc81d20a6797bcb9f30b5842cd2f"), looks := false }, kinds := [], alts := [], laidByText := true, laidKinds := [.data], laidTests := true, laidLooks := .later }
def CirclePeriodsUptoCardSaid : Prop := Claim7.holds Tryz.pinned (.plain (OpenSpec.upto circlePeriodsSpec)) circlePeriodsUptoCard

/-- THE SECOND FORM's CARD OF 'flowpipelaw10.CircleTangents'. -/
def circleTangentsUptoCard : Claim7 := { stood := { row := circleTangentsUptoRow, standIns := [], harness := (true, "f795dea529418b82d56ebc761e13d571f6a6bc81d20a6797bcb9f30b5842cd2f"), looks := false }, kinds := [], alts := [], laidByText := true, laidKinds := [.data], laidTests := true, laidLooks := .later }
def CircleTangentsUptoCardSaid : Prop := Claim7.holds Tryz.pinned (.plain (OpenSpec.upto circleTangentsSpec)) circleTangentsUptoCard

/-- THE SECOND FORM's CARD OF 'flowpipelaw10.CircleSums'. -/
def circleSumsUptoCard : Claim7 := { stood := { row := circleSumsUptoRow, standIns := [], harness := (true, "f795dea529418b82d56ebc761e13d571f6a6bc81d20a6797bcb9f30b5842cd2f"), looks := false }, kinds := [], alts := [], laidByText := true, laidKinds := [.data], laidTests := true, laidLooks := .later }
def CircleSumsUptoCardSaid : Prop := Claim7.holds Tryz.pinned (.plain (OpenSpec.upto circleSumsSpec)) circleSumsUptoCard
end Rows
end Go.Proofs.YtnkijamajifgpaaGreatDoor
