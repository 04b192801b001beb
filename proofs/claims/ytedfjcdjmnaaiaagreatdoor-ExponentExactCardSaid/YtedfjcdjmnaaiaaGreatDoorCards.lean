/-
  DERIVED. GIVEN WITH THE SEED: THE CARDS: each row of YtedfjcdjmnaaiaaGreatDoorRows.lean that lists a variable, with what it lists TIED to the program's text (the seventh form; the later family's looks); each row that meets fmt, with fmt's text TOLD by the authors' own Lean function (tested against real Go, not proved from fmt's source: count such statements apart). THE CARD IS WHAT COUNTS. Prove the row's statement (the work); the ties are given (YtedfjcdjmnaaiaaGreatDoorTie.lean); close each card by the builder's one call (the guide's Derived/Test/ToyasCard.lean, 'card_holds'). Laid BY PROGRAM, IN A SANDBOX (cutbox-door.mjs). By AI agents, Wed Nov 11 2026. No macro, syntax, notation, axiom, sorry.
-/
import Derived.Test.YtedfjcdjmnaaiaaGreatDoorRows
import GoSem.ClaimSeven
namespace Go.Proofs.YtedfjcdjmnaaiaaGreatDoor
namespace Rows

/-- THE TIED CARD OF 'flowpipelaw09.ExponentLogs'. -/
def exponentLogsCard : Claim7 := { stood := { row := exponentLogsRow, standIns := [], harness := (true, "c969744d89ca10e057454b59670858bb80a273129109b86d4a12e72db677155d"), looks := false }, kinds := [], alts := [], laidByText := true, laidKinds := [.data], laidTests := true, laidLooks := .later }
def ExponentLogsCardSaid : Prop := Claim7.holds Tryz.pinned (.plain (OpenSpec.ofChange exponentLogsSpec)) exponentLogsCard

/-- THE TIED CARD OF 'flowpipelaw09.ExponentInverse'. -/
def exponentInverseCard : Claim7 := { stood := { row := exponentInverseRow, standIns := [], harness := (true, "c969744d89ca10e057454b59670858bb80a273129109b86d4a12e72db677155d"), looks := false }, kinds := [], alts := [], laidByText := true, laidKinds := [.data], laidTests := true, laidLooks := .later }
def ExponentInverseCardSaid : Prop := Claim7.holds Tryz.pinned (.plain (OpenSpec.ofChange exponentInverseSpec)) exponentInverseCard

/-- THE TIED CARD OF 'flowpipelaw09.ExponentSums'. -/
def exponentSumsCard : Claim7 := { stood := { row := exponentSumsRow, standIns := [], harness := (true, "c969744d89ca10e057454b59670858bb80a273129109b86d4a12e72db677155d"), looks := false }, kinds := [], alts := [], laidByText := true, laidKinds := [.data], laidTests := true, laidLooks := .later }
def ExponentSumsCardSaid : Prop := Claim7.holds Tryz.pinned (.plain (OpenSpec.ofChange exponentSumsSpec)) exponentSumsCard

/-- THE TIED CARD OF 'flowpipelaw09.ExponentContains'. -/
def exponentContainsCard : Claim7 := { stood := { row := exponentContainsRow, standIns := [], harness := (true, "c969744d89ca10e057454b59670858bb80a273129109b86d4a12e72db677155d"), looks := false }, kinds := [], alts := [], laidByText := true, laidKinds := [.data], laidTests := true, laidLooks := .later }
def ExponentContainsCardSaid : Prop := Claim7.holds Tryz.pinned (.plain (OpenSpec.ofChange exponentContainsSpec)) exponentContainsCard

/-- THE TIED CARD OF 'flowpipelaw09.ExponentPoison'. -/
def exponentPoisonCard : Claim7 := { stood := { row := exponentPoisonRow, standIns := [], harness := (true, "c969744d89ca10e057454b59670858bb80a273129109b86d4a12e72db677155d"), looks := false }, kinds := [], alts := [], laidByText := true, laidKinds := [.data], laidTests := true, laidLooks := .later }
def ExponentPoisonCardSaid : Prop := Claim7.holds Tryz.pinned (.plain (OpenSpec.ofChange exponentPoisonSpec)) exponentPoisonCard

/-- THE TIED CARD OF 'flowpipelaw09.ExponentEnds'. -/
def exponentEndsCard : Claim7 := { stood := { row := exponentEndsRow, standIns := [], harness := (true, "c969744d89ca10e057454b59670858bb80a273129109b86d4a12e72db677155d"), looks := false }, kinds := [], alts := [], laidByText := true, laidKinds := [.data], laidTests := true, laidLooks := .later }
def ExponentEndsCardSaid : Prop := Claim7.holds Tryz.pinned (.plain (OpenSpec.ofChange exponentEndsSpec)) exponentEndsCard

/-- THE TIED CARD OF 'flowpipelaw09.ExponentExact'. -/
def exponentExactCard : Claim7 := { stood := { row := exponentExactRow, standIns := [], harness := (true, "c969744d89ca10e057454b59670858bb80a273129109b86d4a12e72db677155d"), looks := false }, kinds := [], alts := [], laidByText := true, laidKinds := [.data], laidTests := true, laidLooks := .later }
def ExponentExactCardSaid : Prop := Claim7.holds Tryz.pinned (.plain (OpenSpec.ofChange exponentExactSpec)) exponentExactCard

/-- THE TIED CARD OF 'flowpipelaw09.ExponentHyperbolic'. -/
def exponentHyperbolicCard : Claim7 := { stood := { row := exponentHyperbolicRow, standIns := [], harness := (true, "c969744d89ca10e057454b59670858bb80a273129109b86d4a12e72db677155d"), looks := false }, kinds := [], alts := [], laidByText := true, laidKinds := [.data], laidTests := true, laidLooks := .later }
def ExponentHyperbolicCardSaid : Prop := Claim7.holds Tryz.pinned (.plain (OpenSpec.ofChange exponentHyperbolicSpec)) exponentHyperbolicCard

/-- THE SECOND FORM's CARD OF 'flowpipelaw09.ExponentLogs'. -/
def exponentLogsUptoCard : Claim7 := { stood := { row := exponentLogsUptoRow, standIns := [], harness := (true, "c969744d89ca10e057454b59670858bb80a273129109b86d4a12e72db677155d"), looks := false }, kinds := [], alts := [], laidByText := true, laidKinds := [.data], laidTests := true, laidLooks := .later }
def ExponentLogsUptoCardSaid : Prop := Claim7.holds Tryz.pinned (.plain (OpenSpec.upto exponentLogsSpec)) exponentLogsUptoCard

/-- THE SECOND FORM's CARD OF 'flowpipelaw09.ExponentInverse'. -/
def exponentInverseUptoCard : Claim7 := { stood := { row := exponentInverseUptoRow, standIns := [], harness := (true, "c969744d89ca10e057454b59670858bb80a273129109b86d4a12e72db677155d"), looks := false }, kinds := [], alts := [], laidByText := true, laidKinds := [.data], laidTests := true, laidLooks := .later }
def ExponentInverseUptoCardSaid : Prop := Claim7.holds Tryz.pinned (.plain (OpenSpec.upto exponentInverseSpec)) exponentInverseUptoCard

/-- THE SECOND FORM's CARD OF 'flowpipelaw09.ExponentSums'. -/
def exponentSumsUptoCard : Claim7 := { stood := { row := exponentSumsUptoRow, standIns := [], harness := (true, "c969744d89ca10e057454b59670858bb80a273129109b86d4a12e72db677155d"), looks := false }, kinds := [], alts := [], laidByText := true, laidKinds := [.data], laidTests := true, laidLooks := .later }
def ExponentSumsUptoCardSaid : Prop := Claim7.holds Tryz.pinned (.plain (OpenSpec.upto exponentSumsSpec)) exponentSumsUptoCard

/-- THE SECOND FORM's CARD OF 'flowpipelaw09.ExponentContains'. -/
def exponentContainsUptoCard : Claim7 := { stood := { row := exponentContainsUptoRow, standIns := [], harness := (true, "c969744d89ca10e057454b59670858bb80a273129109b86d4a12e72db677155d"), looks := false }, kinds := [], alts := [], laidByText := true, laidKinds := [.data], laidTests := true, laidLooks := .later }
def ExponentContainsUptoCardSaid : Prop := Claim7.holds Tryz.pinned (.plain (OpenSpec.upto exponentContainsSpec)) exponentContainsUptoCard

/-- THE SECOND FORM's CARD OF 'flowpipelaw09.ExponentPoison'. -/
def exponentPoisonUptoCard : Claim7 := { stood := { row := exponentPoisonUptoRow, standIns := [], harness := (true, "c969744d89ca10e057454b59670858bb80a273129109b86d4a12e72db677155d"), looks := false }, kinds := [], alts := [], laidByText := true, laidKinds := [.data], laidTests := true, laidLooks := .later }
def ExponentPoisonUptoCardSaid : Prop := Claim7.holds Tryz.pinned (.plain (OpenSpec.upto exponentPoisonSpec)) exponentPoisonUptoCard

/-- THE SECOND FORM's CARD OF 'flowpipelaw09.ExponentEnds'. -/
def exponentEndsUptoCard : Claim7 := { stood := { row := exponentEndsUptoRow, standIns := [], harness := (true, "c969744d89ca10e057454b59670858bb80a273129109b86d4a12e72db677155d"), looks := false }, kinds := [], alts := [], laidByText := true, laidKinds := [.data], laidTests := true, laidLooks := .later }
def ExponentEndsUptoCardSaid : Prop := Claim7.holds Tryz.pinned (.plain (OpenSpec.upto exponentEndsSpec)) exponentEndsUptoCard

/-- THE SECOND FORM's CARD OF 'flowpipelaw09.ExponentExact'. -/
def exponentExactUptoCard : Claim7 := { stood := { row := exponentExactUptoRow, standIns := [], harness := (true, "c969744d89ca10e057454b59670858bb80a273129109b86d4a12e72db677155d"), looks := false }, kinds := [], alts := [], laidByText := true, laidKinds := [.data], laidTests := true, laidLooks := .later }
def ExponentExactUptoCardSaid : Prop := Claim7.holds Tryz.pinned (.plain (OpenSpec.upto exponentExactSpec)) exponentExactUptoCard

/-- THE SECOND FORM's CARD OF 'flowpipelaw09.ExponentHyperbolic'. -/
def exponentHyperbolicUptoCard : Claim7 := { stood := { row := exponentHyperbolicUptoRow, standIns := [], harness := (true, "c969744d89ca10e057454b59670858bb80a273129109b86d4a12e72db677155d"), looks := false }, kinds := [], alts := [], laidByText := true, laidKinds := [.data], laidTests := true, laidLooks := .later }
def ExponentHyperbolicUptoCardSaid : Prop := Claim7.holds Tryz.pinned (.plain (OpenSpec.upto exponentHyperbolicSpec)) exponentHyperbolicUptoCard
end Rows
end Go.Proofs.YtedfjcdjmnaaiaaGreatDoor
