/-
  DERIVED. GIVEN WITH THE SEED: THE CARDS: each row of YteajloobgibenaaGreatDoorRows.lean that lists a variable, with what it lists TIED to the program's text (the seventh form; the later family's looks); each row that meets fmt, with fmt's text TOLD by the authors' own Lean function (tested against real Go, not proved from fmt's source: count such statements apart). THE CARD IS WHAT COUNTS. Prove the row's statement (the work); the ties are given (YteajloobgibenaaGreatDoorTie.lean); close each card by the builder's one call (the guide's Derived/Test/ToyasCard.lean, 'card_holds'). Laid BY PROGRAM, IN A SANDBOX (cutbox-door.mjs). By AI agents, Wed Nov 11 2026. No macro, syntax, notation, axiom, sorry.
-/
import Derived.Test.YteajloobgibenaaGreatDoorRows
import GoSem.ClaimSeven
namespace Go.Proofs.YteajloobgibenaaGreatDoor
namespace Rows

/-- THE TIED CARD OF 'flowpipelaw21.SeriesCalculus'. -/
def seriesCalculusCard : Claim7 := { stood := { row := seriesCalculusRow, standIns := [], harness := (true, "1e4ba642c095b86b801ae102681785a04bfe5b85de37b28b261c55787d127ead"), looks := false }, kinds := [], alts := [], laidByText := true, laidKinds := [.data], laidTests := true, laidLooks := .later }
def SeriesCalculusCardSaid : Prop := Claim7.holds Tryz.pinned (.plain (OpenSpec.ofChange seriesCalculusSpec)) seriesCalculusCard

/-- THE TIED CARD OF 'flowpipelaw21.SeriesSums'. -/
def seriesSumsCard : Claim7 := { stood := { row := seriesSumsRow, standIns := [], harness := (true, "1e4ba642c095b86b801ae102681785a04bfe5b85de37b28b261c55787d127ead"), looks := false }, kinds := [], alts := [], laidByText := true, laidKinds := [.data], laidTests := true, laidLooks := .later }
def SeriesSumsCardSaid : Prop := Claim7.holds Tryz.pinned (.plain (OpenSpec.ofChange seriesSumsSpec)) seriesSumsCard

/-- THE TIED CARD OF 'flowpipelaw21.SeriesRules'. -/
def seriesRulesCard : Claim7 := { stood := { row := seriesRulesRow, standIns := [], harness := (true, "1e4ba642c095b86b801ae102681785a04bfe5b85de37b28b261c55787d127ead"), looks := false }, kinds := [], alts := [], laidByText := true, laidKinds := [.data], laidTests := true, laidLooks := .later }
def SeriesRulesCardSaid : Prop := Claim7.holds Tryz.pinned (.plain (OpenSpec.ofChange seriesRulesSpec)) seriesRulesCard

/-- THE TIED CARD OF 'flowpipelaw21.SeriesProducts'. -/
def seriesProductsCard : Claim7 := { stood := { row := seriesProductsRow, standIns := [], harness := (true, "1e4ba642c095b86b801ae102681785a04bfe5b85de37b28b261c55787d127ead"), looks := false }, kinds := [], alts := [], laidByText := true, laidKinds := [.data], laidTests := true, laidLooks := .later }
def SeriesProductsCardSaid : Prop := Claim7.holds Tryz.pinned (.plain (OpenSpec.ofChange seriesProductsSpec)) seriesProductsCard

/-- THE TIED CARD OF 'flowpipelaw21.SeriesIsotone'. -/
def seriesIsotoneCard : Claim7 := { stood := { row := seriesIsotoneRow, standIns := [], harness := (true, "1e4ba642c095b86b801ae102681785a04bfe5b85de37b28b261c55787d127ead"), looks := false }, kinds := [], alts := [], laidByText := true, laidKinds := [.data], laidTests := true, laidLooks := .later }
def SeriesIsotoneCardSaid : Prop := Claim7.holds Tryz.pinned (.plain (OpenSpec.ofChange seriesIsotoneSpec)) seriesIsotoneCard

/-- THE SECOND FORM's CARD OF 'flowpipelaw21.SeriesCalculus'. -/
def seriesCalculusUptoCard : Claim7 := { stood := { row := seriesCalculusUptoRow, standIns := [], harness := (true, "1e4ba642c095b86b801ae102681785a04bfe5b85de37b28b261c55787d127ead"), looks := false }, kinds := [], alts := [], laidByText := true, laidKinds := [.data], laidTests := true, laidLooks := .later }
def SeriesCalculusUptoCardSaid : Prop := Claim7.holds Tryz.pinned (.plain (OpenSpec.upto seriesCalculusSpec)) seriesCalculusUptoCard

/-- THE SECOND FORM's CARD OF 'flowpipelaw21.SeriesSums'. -/
def seriesSumsUptoCard : Claim7 := { stood := { row := seriesSumsUptoRow, standIns := [], harness := (true, "1e4ba642c095b86b801ae102681785a04bfe5b85de37b28b261c55787d127ead"), looks := false }, kinds := [], alts := [], laidByText := true, laidKinds := [.data], laidTests := true, laidLooks := .later }
def SeriesSumsUptoCardSaid : Prop := Claim7.holds Tryz.pinned (.plain (OpenSpec.upto seriesSumsSpec)) seriesSumsUptoCard

/-- THE SECOND FORM's CARD OF 'flowpipelaw21.SeriesRules'. -/
def seriesRulesUptoCard : Claim7 := { stood := { row := seriesRulesUptoRow, standIns := [], harness := (true, "1e4ba642c095b86b801ae102681785a04bfe5b85de37b28b261c55787d127ead"), looks := false }, kinds := [], alts := [], laidByText := true, laidKinds := [.data], laidTests := true, laidLooks := .later }
def SeriesRulesUptoCardSaid : Prop := Claim7.holds Tryz.pinned (.plain (OpenSpec.upto seriesRulesSpec)) seriesRulesUptoCard

/-- THE SECOND FORM's CARD OF 'flowpipelaw21.SeriesProducts'. -/
def seriesProductsUptoCard : Claim7 := { stood := { row := seriesProductsUptoRow, standIns := [], harness := (true, "1e4ba642c095b86b801ae102681785a04bfe5b85de37b28b261c55787d127ead"), looks := false }, kinds := [], alts := [], laidByText := true, laidKinds := [.data], laidTests := true, laidLooks := .later }
def SeriesProductsUptoCardSaid : Prop := Claim7.holds Tryz.pinned (.plain (OpenSpec.upto seriesProductsSpec)) seriesProductsUptoCard

/-- THE SECOND FORM's CARD OF 'flowpipelaw21.SeriesIsotone'. -/
def seriesIsotoneUptoCard : Claim7 := { stood := { row := seriesIsotoneUptoRow, standIns := [], harness := (true, "1e4ba642c095b86b801ae102681785a04bfe5b85de37b28b261c55787d127ead"), looks := false }, kinds := [], alts := [], laidByText := true, laidKinds := [.data], laidTests := true, laidLooks := .later }
def SeriesIsotoneUptoCardSaid : Prop := Claim7.holds Tryz.pinned (.plain (OpenSpec.upto seriesIsotoneSpec)) seriesIsotoneUptoCard
end Rows
end Go.Proofs.YteajloobgibenaaGreatDoor
