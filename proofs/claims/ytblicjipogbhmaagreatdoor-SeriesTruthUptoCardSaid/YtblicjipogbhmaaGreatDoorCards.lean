/-
  DERIVED. GIVEN WITH THE SEED: THE CARDS: each row of YtblicjipogbhmaaGreatDoorRows.lean that lists a variable, with what it lists TIED to the program's text (the seventh form; the later family's looks); each row that meets fmt, with fmt's text TOLD by the authors' own Lean function (tested against real Go, not proved from fmt's source: count such statements apart). THE CARD IS WHAT COUNTS. Prove the row's statement (the work); the ties are given (YtblicjipogbhmaaGreatDoorTie.lean); close each card by the builder's one call (the guide's Derived/Test/ToyasCard.lean, 'card_holds'). Laid BY PROGRAM, IN A SANDBOX (cutbox-door.mjs). By AI agents, Wed Nov 11 2026. No macro, syntax, notation, axiom, sorry.
-/
import Derived.Test.YtblicjipogbhmaaGreatDoorRows
import GoSem.ClaimSeven
namespace Go.Proofs.YtblicjipogbhmaaGreatDoor
namespace Rows

/-- THE TIED CARD OF 'flowpipelaw21.SeriesTruth'. -/
def seriesTruthCard : Claim7 := { stood := { row := seriesTruthRow, standIns := [], harness := (true, "a99b355855e211fd80745d761633e57de92a6f6746d5d58bf6d4baca61005ecf"), looks := false }, kinds := [], alts := [], laidByText := true, laidKinds := [.data], laidTests := true, laidLooks := .later }
def SeriesTruthCardSaid : Prop := Claim7.holds Tryz.pinned (.plain (OpenSpec.ofChange seriesTruthSpec)) seriesTruthCard

/-- THE SECOND FORM's CARD OF 'flowpipelaw21.SeriesTruth'. -/
def seriesTruthUptoCard : Claim7 := { stood := { row := seriesTruthUptoRow, standIns := [], harness := (true, "a99b355855e211fd80745d761633e57de92a6f6746d5d58bf6d4baca61005ecf"), looks := false }, kinds := [], alts := [], laidByText := true, laidKinds := [.data], laidTests := true, laidLooks := .later }
def SeriesTruthUptoCardSaid : Prop := Claim7.holds Tryz.pinned (.plain (OpenSpec.upto seriesTruthSpec)) seriesTruthUptoCard
end Rows
end Go.Proofs.YtblicjipogbhmaaGreatDoor
