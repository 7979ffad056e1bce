/-
  DERIVED. GIVEN WITH THE SEED: THE CARDS: each row of YtejegogbhpmgfaaGreatDoorRows.lean that lists a variable, with what it lists TIED to the program's text (the seventh form; the later family's looks); each row that meets fmt, with fmt's text TOLD by the authors' own Lean function (tested against real Go, not proved from fmt's source: count such statements apart). THE CARD IS WHAT COUNTS. Prove the row's statement (the work); the ties are given (YtejegogbhpmgfaaGreatDoorTie.lean); close each card by the builder's one call (the guide's Derived/Test/ToyasCard.lean, 'card_holds'). Laid BY PROGRAM, IN A SANDBOX (cutbox-door.mjs). By AI agents, Wed Nov 11 2026. No macro, syntax, notation, axiom, sorry.
-/
import Derived.Test.YtejegogbhpmgfaaGreatDoorRows
import GoSem.ClaimSeven
namespace Go.Proofs.YtejegogbhpmgfaaGreatDoor
namespace Rows

/-- THE TIED CARD OF 'viatorlaw12.MovingboolValues'. -/
def movingboolValuesCard : Claim7 := { stood := { row := movingboolValuesRow, standIns := [], harness := (true, "ad5bab1f60e3f77badbf27c3cf7e87b8f4851bf31e9e9eaaa6b21a970249a5fe"), looks := false }, kinds := [], alts := [], laidByText := true, laidKinds := [.data, .pinned], laidTests := true, laidLooks := .later }
def MovingboolValuesCardSaid : Prop := Claim7.holds Tryz.pinned (.plain (OpenSpec.ofChange movingboolValuesSpec)) movingboolValuesCard

/-- THE TIED CARD OF 'viatorlaw12.MovingboolFirsts'. -/
def movingboolFirstsCard : Claim7 := { stood := { row := movingboolFirstsRow, standIns := [], harness := (true, "ad5bab1f60e3f77badbf27c3cf7e87b8f4851bf31e9e9eaaa6b21a970249a5fe"), looks := false }, kinds := [], alts := [], laidByText := true, laidKinds := [.data, .pinned], laidTests := true, laidLooks := .later }
def MovingboolFirstsCardSaid : Prop := Claim7.holds Tryz.pinned (.plain (OpenSpec.ofChange movingboolFirstsSpec)) movingboolFirstsCard

/-- THE TIED CARD OF 'viatorlaw12.MovingboolEither'. -/
def movingboolEitherCard : Claim7 := { stood := { row := movingboolEitherRow, standIns := [], harness := (true, "ad5bab1f60e3f77badbf27c3cf7e87b8f4851bf31e9e9eaaa6b21a970249a5fe"), looks := false }, kinds := [], alts := [], laidByText := true, laidKinds := [.data, .pinned], laidTests := true, laidLooks := .later }
def MovingboolEitherCardSaid : Prop := Claim7.holds Tryz.pinned (.plain (OpenSpec.ofChange movingboolEitherSpec)) movingboolEitherCard

/-- THE TIED CARD OF 'viatorlaw12.MovingboolLifts'. -/
def movingboolLiftsCard : Claim7 := { stood := { row := movingboolLiftsRow, standIns := [], harness := (true, "ad5bab1f60e3f77badbf27c3cf7e87b8f4851bf31e9e9eaaa6b21a970249a5fe"), looks := false }, kinds := [], alts := [], laidByText := true, laidKinds := [.data, .pinned], laidTests := true, laidLooks := .later }
def MovingboolLiftsCardSaid : Prop := Claim7.holds Tryz.pinned (.plain (OpenSpec.ofChange movingboolLiftsSpec)) movingboolLiftsCard

/-- THE TIED CARD OF 'viatorlaw12.MovingboolChanges'. -/
def movingboolChangesCard : Claim7 := { stood := { row := movingboolChangesRow, standIns := [], harness := (true, "ad5bab1f60e3f77badbf27c3cf7e87b8f4851bf31e9e9eaaa6b21a970249a5fe"), looks := false }, kinds := [], alts := [], laidByText := true, laidKinds := [.data, .pinned], laidTests := true, laidLooks := .later }
def MovingboolChangesCardSaid : Prop := Claim7.holds Tryz.pinned (.plain (OpenSpec.ofChange movingboolChangesSpec)) movingboolChangesCard

/-- THE TIED CARD OF 'viatorlaw12.MovingboolLasts'. -/
def movingboolLastsCard : Claim7 := { stood := { row := movingboolLastsRow, standIns := [], harness := (true, "ad5bab1f60e3f77badbf27c3cf7e87b8f4851bf31e9e9eaaa6b21a970249a5fe"), looks := false }, kinds := [], alts := [], laidByText := true, laidKinds := [.data, .pinned], laidTests := true, laidLooks := .later }
def MovingboolLastsCardSaid : Prop := Claim7.holds Tryz.pinned (.plain (OpenSpec.ofChange movingboolLastsSpec)) movingboolLastsCard

/-- THE TIED CARD OF 'viatorlaw12.MovingboolLaws'. -/
def movingboolLawsCard : Claim7 := { stood := { row := movingboolLawsRow, standIns := [], harness := (true, "ad5bab1f60e3f77badbf27c3cf7e87b8f4851bf31e9e9eaaa6b21a970249a5fe"), looks := false }, kinds := [], alts := [], laidByText := true, laidKinds := [.data, .pinned], laidTests := true, laidLooks := .later }
def MovingboolLawsCardSaid : Prop := Claim7.holds Tryz.pinned (.plain (OpenSpec.ofChange movingboolLawsSpec)) movingboolLawsCard

/-- THE TIED CARD OF 'viatorlaw12.MovingboolJoins'. -/
def movingboolJoinsCard : Claim7 := { stood := { row := movingboolJoinsRow, standIns := [], harness := (true, "ad5bab1f60e3f77badbf27c3cf7e87b8f4851bf31e9e9eaaa6b21a970249a5fe"), looks := false }, kinds := [], alts := [], laidByText := true, laidKinds := [.data, .pinned], laidTests := true, laidLooks := .later }
def MovingboolJoinsCardSaid : Prop := Claim7.holds Tryz.pinned (.plain (OpenSpec.ofChange movingboolJoinsSpec)) movingboolJoinsCard

/-- THE TIED CARD OF 'viatorlaw12.MovingboolRestricts'. -/
def movingboolRestrictsCard : Claim7 := { stood := { row := movingboolRestrictsRow, standIns := [], harness := (true, "ad5bab1f60e3f77badbf27c3cf7e87b8f4851bf31e9e9eaaa6b21a970249a5fe"), looks := false }, kinds := [], alts := [], laidByText := true, laidKinds := [.data, .pinned], laidTests := true, laidLooks := .later }
def MovingboolRestrictsCardSaid : Prop := Claim7.holds Tryz.pinned (.plain (OpenSpec.ofChange movingboolRestrictsSpec)) movingboolRestrictsCard

/-- THE TIED CARD OF 'viatorlaw12.MovingboolChecks'. -/
def movingboolChecksCard : Claim7 := { stood := { row := movingboolChecksRow, standIns := [], harness := (true, "ad5bab1f60e3f77badbf27c3cf7e87b8f4851bf31e9e9eaaa6b21a970249a5fe"), looks := false }, kinds := [], alts := [], laidByText := true, laidKinds := [.data, .pinned], laidTests := true, laidLooks := .later }
def MovingboolChecksCardSaid : Prop := Claim7.holds Tryz.pinned (.plain (OpenSpec.ofChange movingboolChecksSpec)) movingboolChecksCard

/-- THE TIED CARD OF 'viatorlaw12.MovingboolMakes'. -/
def movingboolMakesCard : Claim7 := { stood := { row := movingboolMakesRow, standIns := [], harness := (true, "ad5bab1f60e3f77badbf27c3cf7e87b8f4851bf31e9e9eaaa6b21a970249a5fe"), looks := false }, kinds := [], alts := [], laidByText := true, laidKinds := [.data, .pinned], laidTests := true, laidLooks := .later }
def MovingboolMakesCardSaid : Prop := Claim7.holds Tryz.pinned (.plain (OpenSpec.ofChange movingboolMakesSpec)) movingboolMakesCard

/-- THE TIED CARD OF 'viatorlaw12.MovingboolShifts'. -/
def movingboolShiftsCard : Claim7 := { stood := { row := movingboolShiftsRow, standIns := [], harness := (true, "ad5bab1f60e3f77badbf27c3cf7e87b8f4851bf31e9e9eaaa6b21a970249a5fe"), looks := false }, kinds := [], alts := [], laidByText := true, laidKinds := [.data, .pinned], laidTests := true, laidLooks := .later }
def MovingboolShiftsCardSaid : Prop := Claim7.holds Tryz.pinned (.plain (OpenSpec.ofChange movingboolShiftsSpec)) movingboolShiftsCard

/-- THE SECOND FORM's CARD OF 'viatorlaw12.MovingboolValues'. -/
def movingboolValuesUptoCard : Claim7 := { stood := { row := movingboolValuesUptoRow, standIns := [], harness := (true, "ad5bab1f60e3f77badbf27c3cf7e87b8f4851bf31e9e9eaaa6b21a970249a5fe"), looks := false }, kinds := [], alts := [], laidByText := true, laidKinds := [.data, .pinned], laidTests := true, laidLooks := .later }
def MovingboolValuesUptoCardSaid : Prop := Claim7.holds Tryz.pinned (.plain (OpenSpec.upto movingboolValuesSpec)) movingboolValuesUptoCard

/-- THE SECOND FORM's CARD OF 'viatorlaw12.MovingboolFirsts'. -/
def movingboolFirstsUptoCard : Claim7 := { stood := { row := movingboolFirstsUptoRow, standIns := [], harness := (true, "ad5bab1f60e3f77badbf27c3cf7e87b8f4851bf31e9e9eaaa6b21a970249a5fe"), looks := false }, kinds := [], alts := [], laidByText := true, laidKinds := [.data, .pinned], laidTests := true, laidLooks := .later }
def MovingboolFirstsUptoCardSaid : Prop := Claim7.holds Tryz.pinned (.plain (OpenSpec.upto movingboolFirstsSpec)) movingboolFirstsUptoCard

/-- THE SECOND FORM's CARD OF 'viatorlaw12.MovingboolEither'. -/
def movingboolEitherUptoCard : Claim7 := { stood := { row := movingboolEitherUptoRow, standIns := [], harness := (true, "ad5bab1f60e3f77badbf27c3cf7e87b8f4851bf31e9e9eaaa6b21a970249a5fe"), looks := false }, kinds := [], alts := [], laidByText := true, laidKinds := [.data, .pinned], laidTests := true, laidLooks := .later }
def MovingboolEitherUptoCardSaid : Prop := Claim7.holds Tryz.pinned (.plain (OpenSpec.upto movingboolEitherSpec)) movingboolEitherUptoCard

/-- THE SECOND FORM's CARD OF 'viatorlaw12.MovingboolLifts'. -/
def movingboolLiftsUptoCard : Claim7 := { stood := { row := movingboolLiftsUptoRow, standIns := [], harness := (true, "ad5bab1f60e3f77badbf27c3cf7e87b8f4851bf31e9e9eaaa6b21a970249a5fe"), looks := false }, kinds := [], alts := [], laidByText := true, laidKinds := [.data, .pinned], laidTests := true, laidLooks := .later }
def MovingboolLiftsUptoCardSaid : Prop := Claim7.holds Tryz.pinned (.plain (OpenSpec.upto movingboolLiftsSpec)) movingboolLiftsUptoCard

/-- THE SECOND FORM's CARD OF 'viatorlaw12.MovingboolChanges'. -/
def movingboolChangesUptoCard : Claim7 := { stood := { row := movingboolChangesUptoRow, standIns := [], harness := (true, "ad5bab1f60e3f77badbf27c3cf7e87b8f4851bf31e9e9eaaa6b21a970249a5fe"), looks := false }, kinds := [], alts := [], laidByText := true, laidKinds := [.data, .pinned], laidTests := true, laidLooks := .later }
def MovingboolChangesUptoCardSaid : Prop := Claim7.holds Tryz.pinned (.plain (OpenSpec.upto movingboolChangesSpec)) movingboolChangesUptoCard

/-- THE SECOND FORM's CARD OF 'viatorlaw12.MovingboolLasts'. -/
def movingboolLastsUptoCard : Claim7 := { stood := { row := movingboolLastsUptoRow, standIns := [], harness := (true, "ad5bab1f60e3f77badbf27c3cf7e87b8f4851bf31e9e9eaaa6b21a970249a5fe"), looks := false }, kinds := [], alts := [], laidByText := true, laidKinds := [.data, .pinned], laidTests := true, laidLooks := .later }
def MovingboolLastsUptoCardSaid : Prop := Claim7.holds Tryz.pinned (.plain (OpenSpec.upto movingboolLastsSpec)) movingboolLastsUptoCard

/-- THE SECOND FORM's CARD OF 'viatorlaw12.MovingboolLaws'. -/
def movingboolLawsUptoCard : Claim7 := { stood := { row := movingboolLawsUptoRow, standIns := [], harness := (true, "ad5bab1f60e3f77badbf27c3cf7e87b8f4851bf31e9e9eaaa6b21a970249a5fe"), looks := false }, kinds := [], alts := [], laidByText := true, laidKinds := [.data, .pinned], laidTests := true, laidLooks := .later }
def MovingboolLawsUptoCardSaid : Prop := Claim7.holds Tryz.pinned (.plain (OpenSpec.upto movingboolLawsSpec)) movingboolLawsUptoCard

/-- THE SECOND FORM's CARD OF 'viatorlaw12.MovingboolJoins'. -/
def movingboolJoinsUptoCard : Claim7 := { stood := { row := movingboolJoinsUptoRow, standIns := [], harness := (true, "ad5bab1f60e3f77badbf27c3cf7e87b8f4851bf31e9e9eaaa6b21a970249a5fe"), looks := false }, kinds := [], alts := [], laidByText := true, laidKinds := [.data, .pinned], laidTests := true, laidLooks := .later }
def MovingboolJoinsUptoCardSaid : Prop := Claim7.holds Tryz.pinned (.plain (OpenSpec.upto movingboolJoinsSpec)) movingboolJoinsUptoCard

/-- THE SECOND FORM's CARD OF 'viatorlaw12.MovingboolRestricts'. -/
def movingboolRestrictsUptoCard : Claim7 := { stood := { row := movingboolRestrictsUptoRow, standIns := [], harness := (true, "ad5bab1f60e3f77badbf27c3cf7e87b8f4851bf31e9e9eaaa6b21a970249a5fe"), looks := false }, kinds := [], alts := [], laidByText := true, laidKinds := [.data, .pinned], laidTests := true, laidLooks := .later }
def MovingboolRestrictsUptoCardSaid : Prop := Claim7.holds Tryz.pinned (.plain (OpenSpec.upto movingboolRestrictsSpec)) movingboolRestrictsUptoCard

/-- THE SECOND FORM's CARD OF 'viatorlaw12.MovingboolChecks'. -/
def movingboolChecksUptoCard : Claim7 := { stood := { row := movingboolChecksUptoRow, standIns := [], harness := (true, "ad5bab1f60e3f77badbf27c3cf7e87b8f4851bf31e9e9eaaa6b21a970249a5fe"), looks := false }, kinds := [], alts := [], laidByText := true, laidKinds := [.data, .pinned], laidTests := true, laidLooks := .later }
def MovingboolChecksUptoCardSaid : Prop := Claim7.holds Tryz.pinned (.plain (OpenSpec.upto movingboolChecksSpec)) movingboolChecksUptoCard

/-- THE SECOND FORM's CARD OF 'viatorlaw12.MovingboolMakes'. -/
def movingboolMakesUptoCard : Claim7 := { stood := { row := movingboolMakesUptoRow, standIns := [], harness := (true, "ad5bab1f60e3f77badbf27c3cf7e87b8f4851bf31e9e9eaaa6b21a970249a5fe"), looks := false }, kinds := [], alts := [], laidByText := true, laidKinds := [.data, .pinned], laidTests := true, laidLooks := .later }
def MovingboolMakesUptoCardSaid : Prop := Claim7.holds Tryz.pinned (.plain (OpenSpec.upto movingboolMakesSpec)) movingboolMakesUptoCard

/-- THE SECOND FORM's CARD OF 'viatorlaw12.MovingboolShifts'. -/
def movingboolShiftsUptoCard : Claim7 := { stood := { row := movingboolShiftsUptoRow, standIns := [], harness := (true, "ad5bab1f60e3f77badbf27c3cf7e87b8f4851bf31e9e9eaaa6b21a970249a5fe"), looks := false }, kinds := [], alts := [], laidByText := true, laidKinds := [.data, .pinned], laidTests := true, laidLooks := .later }
def MovingboolShiftsUptoCardSaid : Prop := Claim7.holds Tryz.pinned (.plain (OpenSpec.upto movingboolShiftsSpec)) movingboolShiftsUptoCard
end Rows
end Go.Proofs.YtejegogbhpmgfaaGreatDoor
