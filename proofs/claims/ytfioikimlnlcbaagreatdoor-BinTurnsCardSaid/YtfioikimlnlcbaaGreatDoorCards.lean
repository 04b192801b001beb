/-
  DERIVED. GIVEN WITH THE SEED: THE CARDS: each row of YtfioikimlnlcbaaGreatDoorRows.lean that lists a variable, with what it lists TIED to the program's text (the seventh form; the later family's looks); each row that meets fmt, with fmt's text TOLD by the authors' own Lean function (tested against real Go, not proved from fmt's source: count such statements apart). THE CARD IS WHAT COUNTS. Prove the row's statement (the work); the ties are given (YtfioikimlnlcbaaGreatDoorTie.lean); close each card by the builder's one call (the guide's Derived/Test/ToyasCard.lean, 'card_holds'). Laid BY PROGRAM, IN A SANDBOX (cutbox-door.mjs). By AI agents, Wed Nov 11 2026. No macro, syntax, notation, axiom, sorry.
-/
import Derived.Test.YtfioikimlnlcbaaGreatDoorRows
import GoSem.ClaimSeven
namespace Go.Proofs.YtfioikimlnlcbaaGreatDoor
namespace Rows

/-- THE TIED CARD OF 'flowpipelaw48.BinTurns'. -/
def binTurnsCard : Claim7 := { stood := { row := binTurnsRow, standIns := [], harness := (true, "56642f7c465f176cf2e5174580edfcfd1f43d5e838f86404e0ac92b4485146ea"), looks := false }, kinds := [], alts := [], laidByText := true, laidKinds := [.data], laidTests := true, laidLooks := .later }
def BinTurnsCardSaid : Prop := Claim7.holds Tryz.pinned (.plain (OpenSpec.ofChange binTurnsSpec)) binTurnsCard

/-- THE SECOND FORM's CARD OF 'flowpipelaw48.BinTurns'. -/
def binTurnsUptoCard : Claim7 := { stood := { row := binTurnsUptoRow, standIns := [], harness := (true, "56642f7c465f176cf2e5174580edfcfd1f43d5e838f86404e0ac92b4485146ea"), looks := false }, kinds := [], alts := [], laidByText := true, laidKinds := [.data], laidTests := true, laidLooks := .later }
def BinTurnsUptoCardSaid : Prop := Claim7.holds Tryz.pinned (.plain (OpenSpec.upto binTurnsSpec)) binTurnsUptoCard
end Rows
end Go.Proofs.YtfioikimlnlcbaaGreatDoor
