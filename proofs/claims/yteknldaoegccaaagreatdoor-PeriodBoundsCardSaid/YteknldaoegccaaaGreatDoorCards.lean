/-
  DERIVED. GIVEN WITH THE SEED: THE CARDS: each row of YteknldaoegccaaaGreatDoorRows.lean that lists a variable, with what it lists TIED to the program's text (the seventh form; the later family's looks); each row that meets fmt, with fmt's text TOLD by the authors' own Lean function (tested against real Go, not proved from fmt's source: count such statements apart). THE CARD IS WHAT COUNTS. Prove the row's statement (the work); the ties are given (YteknldaoegccaaaGreatDoorTie.lean); close each card by the builder's one call (the guide's Derived/Test/ToyasCard.lean, 'card_holds'). Laid BY PROGRAM, IN A SANDBOX (cutbox-door.mjs). By AI agents, Wed Nov 11 2026. No macro, syntax, notation, axiom, sorry.
-/
import Derived.Test.YteknldaoegccaaaGreatDoorRows
import GoSem.ClaimSeven
namespace Go.Proofs.YteknldaoegccaaaGreatDoor
namespace Rows

/-- THE TIED CARD OF 'viatorlaw06.PeriodNormal'. -/
def periodNormalCard : Claim7 := { stood := { row := periodNormalRow, standIns := [], harness := (true, "6821d1b00727ed0385c53058d86de39e00a7d068c47d43c0afbcd0815a9fdb81"), looks := false }, kinds := [], alts := [], laidByText := true, laidKinds := [.data, .pinned], laidTests := true, laidLooks := .later }
def PeriodNormalCardSaid : Prop := Claim7.holds Tryz.pinned (.plain (OpenSpec.ofChange periodNormalSpec)) periodNormalCard

/-- THE TIED CARD OF 'viatorlaw06.PeriodCombines'. -/
def periodCombinesCard : Claim7 := { stood := { row := periodCombinesRow, standIns := [], harness := (true, "6821d1b00727ed0385c53058d86de39e00a7d068c47d43c0afbcd0815a9fdb81"), looks := false }, kinds := [], alts := [], laidByText := true, laidKinds := [.data, .pinned], laidTests := true, laidLooks := .later }
def PeriodCombinesCardSaid : Prop := Claim7.holds Tryz.pinned (.plain (OpenSpec.ofChange periodCombinesSpec)) periodCombinesCard

/-- THE TIED CARD OF 'viatorlaw06.PeriodAlgebra'. -/
def periodAlgebraCard : Claim7 := { stood := { row := periodAlgebraRow, standIns := [], harness := (true, "6821d1b00727ed0385c53058d86de39e00a7d068c47d43c0afbcd0815a9fdb81"), looks := false }, kinds := [], alts := [], laidByText := true, laidKinds := [.data, .pinned], laidTests := true, laidLooks := .later }
def PeriodAlgebraCardSaid : Prop := Claim7.holds Tryz.pinned (.plain (OpenSpec.ofChange periodAlgebraSpec)) periodAlgebraCard

/-- THE TIED CARD OF 'viatorlaw06.PeriodCovers'. -/
def periodCoversCard : Claim7 := { stood := { row := periodCoversRow, standIns := [], harness := (true, "6821d1b00727ed0385c53058d86de39e00a7d068c47d43c0afbcd0815a9fdb81"), looks := false }, kinds := [], alts := [], laidByText := true, laidKinds := [.data, .pinned], laidTests := true, laidLooks := .later }
def PeriodCoversCardSaid : Prop := Claim7.holds Tryz.pinned (.plain (OpenSpec.ofChange periodCoversSpec)) periodCoversCard

/-- THE TIED CARD OF 'viatorlaw06.PeriodLonger'. -/
def periodLongerCard : Claim7 := { stood := { row := periodLongerRow, standIns := [], harness := (true, "6821d1b00727ed0385c53058d86de39e00a7d068c47d43c0afbcd0815a9fdb81"), looks := false }, kinds := [], alts := [], laidByText := true, laidKinds := [.data, .pinned], laidTests := true, laidLooks := .later }
def PeriodLongerCardSaid : Prop := Claim7.holds Tryz.pinned (.plain (OpenSpec.ofChange periodLongerSpec)) periodLongerCard

/-- THE TIED CARD OF 'viatorlaw06.PeriodContains'. -/
def periodContainsCard : Claim7 := { stood := { row := periodContainsRow, standIns := [], harness := (true, "6821d1b00727ed0385c53058d86de39e00a7d068c47d43c0afbcd0815a9fdb81"), looks := false }, kinds := [], alts := [], laidByText := true, laidKinds := [.data, .pinned], laidTests := true, laidLooks := .later }
def PeriodContainsCardSaid : Prop := Claim7.holds Tryz.pinned (.plain (OpenSpec.ofChange periodContainsSpec)) periodContainsCard

/-- THE TIED CARD OF 'viatorlaw06.PeriodShifts'. -/
def periodShiftsCard : Claim7 := { stood := { row := periodShiftsRow, standIns := [], harness := (true, "6821d1b00727ed0385c53058d86de39e00a7d068c47d43c0afbcd0815a9fdb81"), looks := false }, kinds := [], alts := [], laidByText := true, laidKinds := [.data, .pinned], laidTests := true, laidLooks := .later }
def PeriodShiftsCardSaid : Prop := Claim7.holds Tryz.pinned (.plain (OpenSpec.ofChange periodShiftsSpec)) periodShiftsCard

/-- THE TIED CARD OF 'viatorlaw06.PeriodBounds'. -/
def periodBoundsCard : Claim7 := { stood := { row := periodBoundsRow, standIns := [], harness := (true, "6821d1b00727ed0385c53058d86de39e00a7d068c47d43c0afbcd0815a9fdb81"), looks := false }, kinds := [], alts := [], laidByText := true, laidKinds := [.data, .pinned], laidTests := true, laidLooks := .later }
def PeriodBoundsCardSaid : Prop := Claim7.holds Tryz.pinned (.plain (OpenSpec.ofChange periodBoundsSpec)) periodBoundsCard

/-- THE TIED CARD OF 'viatorlaw06.PeriodChecks'. -/
def periodChecksCard : Claim7 := { stood := { row := periodChecksRow, standIns := [], harness := (true, "6821d1b00727ed0385c53058d86de39e00a7d068c47d43c0afbcd0815a9fdb81"), looks := false }, kinds := [], alts := [], laidByText := true, laidKinds := [.data, .pinned], laidTests := true, laidLooks := .later }
def PeriodChecksCardSaid : Prop := Claim7.holds Tryz.pinned (.plain (OpenSpec.ofChange periodChecksSpec)) periodChecksCard

/-- THE TIED CARD OF 'viatorlaw06.PeriodPicks'. -/
def periodPicksCard : Claim7 := { stood := { row := periodPicksRow, standIns := [], harness := (true, "6821d1b00727ed0385c53058d86de39e00a7d068c47d43c0afbcd0815a9fdb81"), looks := false }, kinds := [], alts := [], laidByText := true, laidKinds := [.data, .pinned], laidTests := true, laidLooks := .later }
def PeriodPicksCardSaid : Prop := Claim7.holds Tryz.pinned (.plain (OpenSpec.ofChange periodPicksSpec)) periodPicksCard

/-- THE TIED CARD OF 'viatorlaw06.PeriodCells'. -/
def periodCellsCard : Claim7 := { stood := { row := periodCellsRow, standIns := [], harness := (true, "6821d1b00727ed0385c53058d86de39e00a7d068c47d43c0afbcd0815a9fdb81"), looks := false }, kinds := [], alts := [], laidByText := true, laidKinds := [.data, .pinned], laidTests := true, laidLooks := .later }
def PeriodCellsCardSaid : Prop := Claim7.holds Tryz.pinned (.plain (OpenSpec.ofChange periodCellsSpec)) periodCellsCard

/-- THE SECOND FORM's CARD OF 'viatorlaw06.PeriodNormal'. -/
def periodNormalUptoCard : Claim7 := { stood := { row := periodNormalUptoRow, standIns := [], harness := (true, "6821d1b00727ed0385c53058d86de39e00a7d068c47d43c0afbcd0815a9fdb81"), looks := false }, kinds := [], alts := [], laidByText := true, laidKinds := [.data, .pinned], laidTests := true, laidLooks := .later }
def PeriodNormalUptoCardSaid : Prop := Claim7.holds Tryz.pinned (.plain (OpenSpec.upto periodNormalSpec)) periodNormalUptoCard

/-- THE SECOND FORM's CARD OF 'viatorlaw06.PeriodCombines'. -/
def periodCombinesUptoCard : Claim7 := { stood := { row := periodCombinesUptoRow, standIns := [], harness := (true, "6821d1b00727ed0385c53058d86de39e00a7d068c47d43c0afbcd0815a9fdb81"), looks := false }, kinds := [], alts := [], laidByText := true, laidKinds := [.data, .pinned], laidTests := true, laidLooks := .later }
def PeriodCombinesUptoCardSaid : Prop := Claim7.holds Tryz.pinned (.plain (OpenSpec.upto periodCombinesSpec)) periodCombinesUptoCard

/-- THE SECOND FORM's CARD OF 'viatorlaw06.PeriodAlgebra'. -/
def periodAlgebraUptoCard : Claim7 := { stood := { row := periodAlgebraUptoRow, standIns := [], harness := (true, "6821d1b00727ed0385c53058d86de39e00a7d068c47d43c0afbcd0815a9fdb81"), looks := false }, kinds := [], alts := [], laidByText := true, laidKinds := [.data, .pinned], laidTests := true, laidLooks := .later }
def PeriodAlgebraUptoCardSaid : Prop := Claim7.holds Tryz.pinned (.plain (OpenSpec.upto periodAlgebraSpec)) periodAlgebraUptoCard

/-- THE SECOND FORM's CARD OF 'viatorlaw06.PeriodCovers'. -/
def periodCoversUptoCard : Claim7 := { stood := { row := periodCoversUptoRow, standIns := [], harness := (true, "6821d1b00727ed0385c53058d86de39e00a7d068c47d43c0afbcd0815a9fdb81"), looks := false }, kinds := [], alts := [], laidByText := true, laidKinds := [.data, .pinned], laidTests := true, laidLooks := .later }
def PeriodCoversUptoCardSaid : Prop := Claim7.holds Tryz.pinned (.plain (OpenSpec.upto periodCoversSpec)) periodCoversUptoCard

/-- THE SECOND FORM's CARD OF 'viatorlaw06.PeriodLonger'. -/
def periodLongerUptoCard : Claim7 := { stood := { row := periodLongerUptoRow, standIns := [], harness := (true, "6821d1b00727ed0385c53058d86de39e00a7d068c47d43c0afbcd0815a9fdb81"), looks := false }, kinds := [], alts := [], laidByText := true, laidKinds := [.data, .pinned], laidTests := true, laidLooks := .later }
def PeriodLongerUptoCardSaid : Prop := Claim7.holds Tryz.pinned (.plain (OpenSpec.upto periodLongerSpec)) periodLongerUptoCard

/-- THE SECOND FORM's CARD OF 'viatorlaw06.PeriodContains'. -/
def periodContainsUptoCard : Claim7 := { stood := { row := periodContainsUptoRow, standIns := [], harness := (true, "6821d1b00727ed0385c53058d86de39e00a7d068c47d43c0afbcd0815a9fdb81"), looks := false }, kinds := [], alts := [], laidByText := true, laidKinds := [.data, .pinned], laidTests := true, laidLooks := .later }
def PeriodContainsUptoCardSaid : Prop := Claim7.holds Tryz.pinned (.plain (OpenSpec.upto periodContainsSpec)) periodContainsUptoCard

/-- THE SECOND FORM's CARD OF 'viatorlaw06.PeriodShifts'. -/
def periodShiftsUptoCard : Claim7 := { stood := { row := periodShiftsUptoRow, standIns := [], harness := (true, "6821d1b00727ed0385c53058d86de39e00a7d068c47d43c0afbcd0815a9fdb81"), looks := false }, kinds := [], alts := [], laidByText := true, laidKinds := [.data, .pinned], laidTests := true, laidLooks := .later }
def PeriodShiftsUptoCardSaid : Prop := Claim7.holds Tryz.pinned (.plain (OpenSpec.upto periodShiftsSpec)) periodShiftsUptoCard

/-- THE SECOND FORM's CARD OF 'viatorlaw06.PeriodBounds'. -/
def periodBoundsUptoCard : Claim7 := { stood := { row := periodBoundsUptoRow, standIns := [], harness := (true, "6821d1b00727ed0385c53058d86de39e00a7d068c47d43c0afbcd0815a9fdb81"), looks := false }, kinds := [], alts := [], laidByText := true, laidKinds := [.data, .pinned], laidTests := true, laidLooks := .later }
def PeriodBoundsUptoCardSaid : Prop := Claim7.holds Tryz.pinned (.plain (OpenSpec.upto periodBoundsSpec)) periodBoundsUptoCard

/-- THE SECOND FORM's CARD OF 'viatorlaw06.PeriodChecks'. -/
def periodChecksUptoCard : Claim7 := { stood := { row := periodChecksUptoRow, standIns := [], harness := (true, "6821d1b00727ed0385c53058d86de39e00a7d068c47d43c0afbcd0815a9fdb81"), looks := false }, kinds := [], alts := [], laidByText := true, laidKinds := [.data, .pinned], laidTests := true, laidLooks := .later }
def PeriodChecksUptoCardSaid : Prop := Claim7.holds Tryz.pinned (.plain (OpenSpec.upto periodChecksSpec)) periodChecksUptoCard

/-- THE SECOND FORM's CARD OF 'viatorlaw06.PeriodPicks'. -/
def periodPicksUptoCard : Claim7 := { stood := { row := periodPicksUptoRow, standIns := [], harness := (true, "6821d1b00727ed0385c53058d86de39e00a7d068c47d43c0afbcd0815a9fdb81"), looks := false }, kinds := [], alts := [], laidByText := true, laidKinds := [.data, .pinned], laidTests := true, laidLooks := .later }
def PeriodPicksUptoCardSaid : Prop := Claim7.holds Tryz.pinned (.plain (OpenSpec.upto periodPicksSpec)) periodPicksUptoCard

/-- THE SECOND FORM's CARD OF 'viatorlaw06.PeriodCells'. -/
def periodCellsUptoCard : Claim7 := { stood := { row := periodCellsUptoRow, standIns := [], harness := (true, "6821d1b00727ed0385c53058d86de39e00a7d068c47d43c0afbcd0815a9fdb81"), looks := false }, kinds := [], alts := [], laidByText := true, laidKinds := [.data, .pinned], laidTests := true, laidLooks := .later }
def PeriodCellsUptoCardSaid : Prop := Claim7.holds Tryz.pinned (.plain (OpenSpec.upto periodCellsSpec)) periodCellsUptoCard
end Rows
end Go.Proofs.YteknldaoegccaaaGreatDoor
