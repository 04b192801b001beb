/-
  DERIVED. GIVEN WITH THE SEED: THE CARDS: each row of YtmhloagengcelaaGreatDoorRows.lean that lists a variable, with what it lists TIED to the program's text (the seventh form; the later family's looks); each row that meets fmt, with fmt's text TOLD by the authors' own Lean function (tested against real Go, not proved from fmt's source: count such statements apart). THE CARD IS WHAT COUNTS. Prove the row's statement (the work); the ties are given (YtmhloagengcelaaGreatDoorTie.lean); close each card by the builder's one call (the guide's Derived/Test/ToyasCard.lean, 'card_holds'). Laid BY PROGRAM, IN A SANDBOX (cutbox-door.mjs). By AI agents, Wed Nov 11 2026. No macro, syntax, notation, axiom, sorry.
-/
import Derived.Test.YtmhloagengcelaaGreatDoorRows
import GoSem.ClaimSeven
namespace Go.Proofs.YtmhloagengcelaaGreatDoor
namespace Rows

/-- THE TIED CARD OF 'flowpipelaw05.IntervalContains'. -/
def intervalContainsCard : Claim7 := { stood := { row := intervalContainsRow, standIns := [], harness := (true, "251a62a395f14af439540c1f2f3ce06c91dda49cb36b838bc18ada07ac805b9c"), looks := false }, kinds := [], alts := [], laidByText := true, laidKinds := [.data], laidTests := true, laidLooks := .later }
def IntervalContainsCardSaid : Prop := Claim7.holds Tryz.pinned (.plain (OpenSpec.ofChange intervalContainsSpec)) intervalContainsCard

/-- THE TIED CARD OF 'flowpipelaw05.IntervalSums'. -/
def intervalSumsCard : Claim7 := { stood := { row := intervalSumsRow, standIns := [], harness := (true, "251a62a395f14af439540c1f2f3ce06c91dda49cb36b838bc18ada07ac805b9c"), looks := false }, kinds := [], alts := [], laidByText := true, laidKinds := [.data], laidTests := true, laidLooks := .later }
def IntervalSumsCardSaid : Prop := Claim7.holds Tryz.pinned (.plain (OpenSpec.ofChange intervalSumsSpec)) intervalSumsCard

/-- THE TIED CARD OF 'flowpipelaw05.IntervalMakes'. -/
def intervalMakesCard : Claim7 := { stood := { row := intervalMakesRow, standIns := [], harness := (true, "251a62a395f14af439540c1f2f3ce06c91dda49cb36b838bc18ada07ac805b9c"), looks := false }, kinds := [], alts := [], laidByText := true, laidKinds := [.data], laidTests := true, laidLooks := .later }
def IntervalMakesCardSaid : Prop := Claim7.holds Tryz.pinned (.plain (OpenSpec.ofChange intervalMakesSpec)) intervalMakesCard

/-- THE TIED CARD OF 'flowpipelaw05.IntervalProducts'. -/
def intervalProductsCard : Claim7 := { stood := { row := intervalProductsRow, standIns := [], harness := (true, "251a62a395f14af439540c1f2f3ce06c91dda49cb36b838bc18ada07ac805b9c"), looks := false }, kinds := [], alts := [], laidByText := true, laidKinds := [.data], laidTests := true, laidLooks := .later }
def IntervalProductsCardSaid : Prop := Claim7.holds Tryz.pinned (.plain (OpenSpec.ofChange intervalProductsSpec)) intervalProductsCard

/-- THE TIED CARD OF 'flowpipelaw05.IntervalMeasures'. -/
def intervalMeasuresCard : Claim7 := { stood := { row := intervalMeasuresRow, standIns := [], harness := (true, "251a62a395f14af439540c1f2f3ce06c91dda49cb36b838bc18ada07ac805b9c"), looks := false }, kinds := [], alts := [], laidByText := true, laidKinds := [.data], laidTests := true, laidLooks := .later }
def IntervalMeasuresCardSaid : Prop := Claim7.holds Tryz.pinned (.plain (OpenSpec.ofChange intervalMeasuresSpec)) intervalMeasuresCard

/-- THE TIED CARD OF 'flowpipelaw05.IntervalSets'. -/
def intervalSetsCard : Claim7 := { stood := { row := intervalSetsRow, standIns := [], harness := (true, "251a62a395f14af439540c1f2f3ce06c91dda49cb36b838bc18ada07ac805b9c"), looks := false }, kinds := [], alts := [], laidByText := true, laidKinds := [.data], laidTests := true, laidLooks := .later }
def IntervalSetsCardSaid : Prop := Claim7.holds Tryz.pinned (.plain (OpenSpec.ofChange intervalSetsSpec)) intervalSetsCard

/-- THE TIED CARD OF 'flowpipelaw05.IntervalQuotients'. -/
def intervalQuotientsCard : Claim7 := { stood := { row := intervalQuotientsRow, standIns := [], harness := (true, "251a62a395f14af439540c1f2f3ce06c91dda49cb36b838bc18ada07ac805b9c"), looks := false }, kinds := [], alts := [], laidByText := true, laidKinds := [.data], laidTests := true, laidLooks := .later }
def IntervalQuotientsCardSaid : Prop := Claim7.holds Tryz.pinned (.plain (OpenSpec.ofChange intervalQuotientsSpec)) intervalQuotientsCard

/-- THE TIED CARD OF 'flowpipelaw05.IntervalPowers'. -/
def intervalPowersCard : Claim7 := { stood := { row := intervalPowersRow, standIns := [], harness := (true, "251a62a395f14af439540c1f2f3ce06c91dda49cb36b838bc18ada07ac805b9c"), looks := false }, kinds := [], alts := [], laidByText := true, laidKinds := [.data], laidTests := true, laidLooks := .later }
def IntervalPowersCardSaid : Prop := Claim7.holds Tryz.pinned (.plain (OpenSpec.ofChange intervalPowersSpec)) intervalPowersCard

/-- THE TIED CARD OF 'flowpipelaw05.IntervalExact'. -/
def intervalExactCard : Claim7 := { stood := { row := intervalExactRow, standIns := [], harness := (true, "251a62a395f14af439540c1f2f3ce06c91dda49cb36b838bc18ada07ac805b9c"), looks := false }, kinds := [], alts := [], laidByText := true, laidKinds := [.data], laidTests := true, laidLooks := .later }
def IntervalExactCardSaid : Prop := Claim7.holds Tryz.pinned (.plain (OpenSpec.ofChange intervalExactSpec)) intervalExactCard

/-- THE TIED CARD OF 'flowpipelaw05.IntervalIsotone'. -/
def intervalIsotoneCard : Claim7 := { stood := { row := intervalIsotoneRow, standIns := [], harness := (true, "251a62a395f14af439540c1f2f3ce06c91dda49cb36b838bc18ada07ac805b9c"), looks := false }, kinds := [], alts := [], laidByText := true, laidKinds := [.data], laidTests := true, laidLooks := .later }
def IntervalIsotoneCardSaid : Prop := Claim7.holds Tryz.pinned (.plain (OpenSpec.ofChange intervalIsotoneSpec)) intervalIsotoneCard

/-- THE TIED CARD OF 'flowpipelaw05.IntervalPoison'. -/
def intervalPoisonCard : Claim7 := { stood := { row := intervalPoisonRow, standIns := [], harness := (true, "251a62a395f14af439540c1f2f3ce06c91dda49cb36b838bc18ada07ac805b9c"), looks := false }, kinds := [], alts := [], laidByText := true, laidKinds := [.data], laidTests := true, laidLooks := .later }
def IntervalPoisonCardSaid : Prop := Claim7.holds Tryz.pinned (.plain (OpenSpec.ofChange intervalPoisonSpec)) intervalPoisonCard

/-- THE SECOND FORM's CARD OF 'flowpipelaw05.IntervalContains'. -/
def intervalContainsUptoCard : Claim7 := { stood := { row := intervalContainsUptoRow, standIns := [], harness := (true, "251a62a395f14af439540c1f2f3ce06c91dda49cb36b838bc18ada07ac805b9c"), looks := false }, kinds := [], alts := [], laidByText := true, laidKinds := [.data], laidTests := true, laidLooks := .later }
def IntervalContainsUptoCardSaid : Prop := Claim7.holds Tryz.pinned (.plain (OpenSpec.upto intervalContainsSpec)) intervalContainsUptoCard

/-- THE SECOND FORM's CARD OF 'flowpipelaw05.IntervalSums'. -/
def intervalSumsUptoCard : Claim7 := { stood := { row := intervalSumsUptoRow, standIns := [], harness := (true, "251a62a395f14af439540c1f2f3ce06c91dda49cb36b838bc18ada07ac805b9c"), looks := false }, kinds := [], alts := [], laidByText := true, laidKinds := [.data], laidTests := true, laidLooks := .later }
def IntervalSumsUptoCardSaid : Prop := Claim7.holds Tryz.pinned (.plain (OpenSpec.upto intervalSumsSpec)) intervalSumsUptoCard

/-- THE SECOND FORM's CARD OF 'flowpipelaw05.IntervalMakes'. -/
def intervalMakesUptoCard : Claim7 := { stood := { row := intervalMakesUptoRow, standIns := [], harness := (true, "251a62a395f14af439540c1f2f3ce06c91dda49cb36b838bc18ada07ac805b9c"), looks := false }, kinds := [], alts := [], laidByText := true, laidKinds := [.data], laidTests := true, laidLooks := .later }
def IntervalMakesUptoCardSaid : Prop := Claim7.holds Tryz.pinned (.plain (OpenSpec.upto intervalMakesSpec)) intervalMakesUptoCard

/-- THE SECOND FORM's CARD OF 'flowpipelaw05.IntervalProducts'. -/
def intervalProductsUptoCard : Claim7 := { stood := { row := intervalProductsUptoRow, standIns := [], harness := (true, "251a62a395f14af439540c1f2f3ce06c91dda49cb36b838bc18ada07ac805b9c"), looks := false }, kinds := [], alts := [], laidByText := true, laidKinds := [.data], laidTests := true, laidLooks := .later }
def IntervalProductsUptoCardSaid : Prop := Claim7.holds Tryz.pinned (.plain (OpenSpec.upto intervalProductsSpec)) intervalProductsUptoCard

/-- THE SECOND FORM's CARD OF 'flowpipelaw05.IntervalMeasures'. -/
def intervalMeasuresUptoCard : Claim7 := { stood := { row := intervalMeasuresUptoRow, standIns := [], harness := (true, "251a62a395f14af439540c1f2f3ce06c91dda49cb36b838bc18ada07ac805b9c"), looks := false }, kinds := [], alts := [], laidByText := true, laidKinds := [.data], laidTests := true, laidLooks := .later }
def IntervalMeasuresUptoCardSaid : Prop := Claim7.holds Tryz.pinned (.plain (OpenSpec.upto intervalMeasuresSpec)) intervalMeasuresUptoCard

/-- THE SECOND FORM's CARD OF 'flowpipelaw05.IntervalSets'. -/
def intervalSetsUptoCard : Claim7 := { stood := { row := intervalSetsUptoRow, standIns := [], harness := (true, "251a62a395f14af439540c1f2f3ce06c91dda49cb36b838bc18ada07ac805b9c"), looks := false }, kinds := [], alts := [], laidByText := true, laidKinds := [.data], laidTests := true, laidLooks := .later }
def IntervalSetsUptoCardSaid : Prop := Claim7.holds Tryz.pinned (.plain (OpenSpec.upto intervalSetsSpec)) intervalSetsUptoCard

/-- THE SECOND FORM's CARD OF 'flowpipelaw05.IntervalQuotients'. -/
def intervalQuotientsUptoCard : Claim7 := { stood := { row := intervalQuotientsUptoRow, standIns := [], harness := (true, "251a62a395f14af439540c1f2f3ce06c91dda49cb36b838bc18ada07ac805b9c"), looks := false }, kinds := [], alts := [], laidByText := true, laidKinds := [.data], laidTests := true, laidLooks := .later }
def IntervalQuotientsUptoCardSaid : Prop := Claim7.holds Tryz.pinned (.plain (OpenSpec.upto intervalQuotientsSpec)) intervalQuotientsUptoCard

/-- THE SECOND FORM's CARD OF 'flowpipelaw05.IntervalPowers'. -/
def intervalPowersUptoCard : Claim7 := { stood := { row := intervalPowersUptoRow, standIns := [], harness := (true, "251a62a395f14af439540c1f2f3ce06c91dda49cb36b838bc18ada07ac805b9c"), looks := false }, kinds := [], alts := [], laidByText := true, laidKinds := [.data], laidTests := true, laidLooks := .later }
def IntervalPowersUptoCardSaid : Prop := Claim7.holds Tryz.pinned (.plain (OpenSpec.upto intervalPowersSpec)) intervalPowersUptoCard

/-- THE SECOND FORM's CARD OF 'flowpipelaw05.IntervalExact'. -/
def intervalExactUptoCard : Claim7 := { stood := { row := intervalExactUptoRow, standIns := [], harness := (true, "251a62a395f14af439540c1f2f3ce06c91dda49cb36b838bc18ada07ac805b9c"), looks := false }, kinds := [], alts := [], laidByText := true, laidKinds := [.data], laidTests := true, laidLooks := .later }
def IntervalExactUptoCardSaid : Prop := Claim7.holds Tryz.pinned (.plain (OpenSpec.upto intervalExactSpec)) intervalExactUptoCard

/-- THE SECOND FORM's CARD OF 'flowpipelaw05.IntervalIsotone'. -/
def intervalIsotoneUptoCard : Claim7 := { stood := { row := intervalIsotoneUptoRow, standIns := [], harness := (true, "251a62a395f14af439540c1f2f3ce06c91dda49cb36b838bc18ada07ac805b9c"), looks := false }, kinds := [], alts := [], laidByText := true, laidKinds := [.data], laidTests := true, laidLooks := .later }
def IntervalIsotoneUptoCardSaid : Prop := Claim7.holds Tryz.pinned (.plain (OpenSpec.upto intervalIsotoneSpec)) intervalIsotoneUptoCard

/-- THE SECOND FORM's CARD OF 'flowpipelaw05.IntervalPoison'. -/
def intervalPoisonUptoCard : Claim7 := { stood := { row := intervalPoisonUptoRow, standIns := [], harness := (true, "251a62a395f14af439540c1f2f3ce06c91dda49cb36b838bc18ada07ac805b9c"), looks := false }, kinds := [], alts := [], laidByText := true, laidKinds := [.data], laidTests := true, laidLooks := .later }
def IntervalPoisonUptoCardSaid : Prop := Claim7.holds Tryz.pinned (.plain (OpenSpec.upto intervalPoisonSpec)) intervalPoisonUptoCard
end Rows
end Go.Proofs.YtmhloagengcelaaGreatDoor
