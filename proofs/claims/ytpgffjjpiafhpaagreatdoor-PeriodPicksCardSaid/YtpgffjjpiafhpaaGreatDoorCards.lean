/-
  DERIVED. GIVEN WITH THE SEED: THE CARDS: each row of YtpgffjjpiafhpaaGreatDoorRows.lean that lists a variable, with what it lists TIED to the program's text (the seventh form; the later family's looks); each row that meets fmt, with fmt's text TOLD by the authors' own Lean function (tested against real Go, not proved from fmt's source: count such statements apart). THE CARD IS WHAT COUNTS. Prove the row's statement (the work); the ties are given (YtpgffjjpiafhpaaGreatDoorTie.lean); close each card by the builder's one call (the guide's Derived/Test/ToyasCard.lean, 'card_holds'). Laid BY PROGRAM, IN A SANDBOX (cutbox-door.mjs). By AI agents, Wed Nov 11 2026. No macro, syntax, notation, axiom, sorry.
-/
import Derived.Test.YtpgffjjpiafhpaaGreatDoorRows
import GoSem.ClaimSeven
namespace Go.Proofs.YtpgffjjpiafhpaaGreatDoor
namespace Rows

/-- THE TIED CARD OF 'viatorlaw06.PeriodChecks'. -/
def periodChecksCard : Claim7 := { stood := { row := periodChecksRow, standIns := [], harness := (true, "5b098e5b4d464258e7a1ea7413018f5157a42e6c9258b2248be9e02d537e9b09"), looks := false }, kinds := [], alts := [], laidByText := true, laidKinds := [.data, .pinned], laidTests := true, laidLooks := .later }
def PeriodChecksCardSaid : Prop := Claim7.holds Tryz.pinned (.plain (OpenSpec.ofChange periodChecksSpec)) periodChecksCard

/-- THE TIED CARD OF 'viatorlaw06.PeriodPicks'. -/
def periodPicksCard : Claim7 := { stood := { row := periodPicksRow, standIns := [], harness := (true, "5b098e5b4d464258e7a1ea7413018f5157a42e6c9258b2248be9e02d537e9b09"), looks := false }, kinds := [], alts := [], laidByText := true, laidKinds := [.data, .pinned], laidTests := true, laidLooks := .later }
def PeriodPicksCardSaid : Prop := Claim7.holds Tryz.pinned (.plain (OpenSpec.ofChange periodPicksSpec)) periodPicksCard

/-- THE TIED CARD OF 'viatorlaw06.PeriodCells'. -/
def periodCellsCard : Claim7 := { stood := { row := periodCellsRow, standIns := [], harness := (true, "5b098e5b4d464258e7a1ea7413018f5157a42e6c9258b2248be9e02d537e9b09"), looks := false }, kinds := [], alts := [], laidByText := true, laidKinds := [.data, .pinned], laidTests := true, laidLooks := .later }
def PeriodCellsCardSaid : Prop := Claim7.holds Tryz.pinned (.plain (OpenSpec.ofChange periodCellsSpec)) periodCellsCard

/-- THE TIED CARD OF 'viatorlaw51.PatternShifts'. -/
def patternShiftsCard : Claim7 := { stood := { row := patternShiftsRow, standIns := [], harness := (true, "5b098e5b4d464258e7a1ea7413018f5157a42e6c9258b2248be9e02d537e9b09"), looks := false }, kinds := [], alts := [], laidByText := true, laidKinds := [.data, .pinned], laidTests := true, laidLooks := .later }
def PatternShiftsCardSaid : Prop := Claim7.holds Tryz.pinned (.plain (OpenSpec.ofChange patternShiftsSpec)) patternShiftsCard

/-- THE TIED CARD OF 'viatorlaw51.PatternReaches'. -/
def patternReachesCard : Claim7 := { stood := { row := patternReachesRow, standIns := [], harness := (true, "5b098e5b4d464258e7a1ea7413018f5157a42e6c9258b2248be9e02d537e9b09"), looks := false }, kinds := [], alts := [], laidByText := true, laidKinds := [.data, .pinned], laidTests := true, laidLooks := .later }
def PatternReachesCardSaid : Prop := Claim7.holds Tryz.pinned (.plain (OpenSpec.ofChange patternReachesSpec)) patternReachesCard

/-- THE TIED CARD OF 'viatorlaw51.PatternBetween'. -/
def patternBetweenCard : Claim7 := { stood := { row := patternBetweenRow, standIns := [], harness := (true, "5b098e5b4d464258e7a1ea7413018f5157a42e6c9258b2248be9e02d537e9b09"), looks := false }, kinds := [], alts := [], laidByText := true, laidKinds := [.data, .pinned], laidTests := true, laidLooks := .later }
def PatternBetweenCardSaid : Prop := Claim7.holds Tryz.pinned (.plain (OpenSpec.ofChange patternBetweenSpec)) patternBetweenCard

/-- THE TIED CARD OF 'viatorlaw51.PatternErodes'. -/
def patternErodesCard : Claim7 := { stood := { row := patternErodesRow, standIns := [], harness := (true, "5b098e5b4d464258e7a1ea7413018f5157a42e6c9258b2248be9e02d537e9b09"), looks := false }, kinds := [], alts := [], laidByText := true, laidKinds := [.data, .pinned], laidTests := true, laidLooks := .later }
def PatternErodesCardSaid : Prop := Claim7.holds Tryz.pinned (.plain (OpenSpec.ofChange patternErodesSpec)) patternErodesCard

/-- THE TIED CARD OF 'viatorlaw51.PatternSweeps'. -/
def patternSweepsCard : Claim7 := { stood := { row := patternSweepsRow, standIns := [], harness := (true, "5b098e5b4d464258e7a1ea7413018f5157a42e6c9258b2248be9e02d537e9b09"), looks := false }, kinds := [], alts := [], laidByText := true, laidKinds := [.data, .pinned], laidTests := true, laidLooks := .later }
def PatternSweepsCardSaid : Prop := Claim7.holds Tryz.pinned (.plain (OpenSpec.ofChange patternSweepsSpec)) patternSweepsCard

/-- THE TIED CARD OF 'viatorlaw51.PatternHolds'. -/
def patternHoldsCard : Claim7 := { stood := { row := patternHoldsRow, standIns := [], harness := (true, "5b098e5b4d464258e7a1ea7413018f5157a42e6c9258b2248be9e02d537e9b09"), looks := false }, kinds := [], alts := [], laidByText := true, laidKinds := [.data, .pinned], laidTests := true, laidLooks := .later }
def PatternHoldsCardSaid : Prop := Claim7.holds Tryz.pinned (.plain (OpenSpec.ofChange patternHoldsSpec)) patternHoldsCard

/-- THE TIED CARD OF 'viatorlaw51.PatternLives'. -/
def patternLivesCard : Claim7 := { stood := { row := patternLivesRow, standIns := [], harness := (true, "5b098e5b4d464258e7a1ea7413018f5157a42e6c9258b2248be9e02d537e9b09"), looks := false }, kinds := [], alts := [], laidByText := true, laidKinds := [.data, .pinned], laidTests := true, laidLooks := .later }
def PatternLivesCardSaid : Prop := Claim7.holds Tryz.pinned (.plain (OpenSpec.ofChange patternLivesSpec)) patternLivesCard

/-- THE TIED CARD OF 'viatorlaw51.PatternWitnesses'. -/
def patternWitnessesCard : Claim7 := { stood := { row := patternWitnessesRow, standIns := [], harness := (true, "5b098e5b4d464258e7a1ea7413018f5157a42e6c9258b2248be9e02d537e9b09"), looks := false }, kinds := [], alts := [], laidByText := true, laidKinds := [.data, .pinned], laidTests := true, laidLooks := .later }
def PatternWitnessesCardSaid : Prop := Claim7.holds Tryz.pinned (.plain (OpenSpec.ofChange patternWitnessesSpec)) patternWitnessesCard

/-- THE TIED CARD OF 'viatorlaw51.PatternChecks'. -/
def patternChecksCard : Claim7 := { stood := { row := patternChecksRow, standIns := [], harness := (true, "5b098e5b4d464258e7a1ea7413018f5157a42e6c9258b2248be9e02d537e9b09"), looks := false }, kinds := [], alts := [], laidByText := true, laidKinds := [.data, .pinned], laidTests := true, laidLooks := .later }
def PatternChecksCardSaid : Prop := Claim7.holds Tryz.pinned (.plain (OpenSpec.ofChange patternChecksSpec)) patternChecksCard

/-- THE SECOND FORM's CARD OF 'viatorlaw06.PeriodChecks'. -/
def periodChecksUptoCard : Claim7 := { stood := { row := periodChecksUptoRow, standIns := [], harness := (true, "5b098e5b4d464258e7a1ea7413018f5157a42e6c9258b2248be9e02d537e9b09"), looks := false }, kinds := [], alts := [], laidByText := true, laidKinds := [.data, .pinned], laidTests := true, laidLooks := .later }
def PeriodChecksUptoCardSaid : Prop := Claim7.holds Tryz.pinned (.plain (OpenSpec.upto periodChecksSpec)) periodChecksUptoCard

/-- THE SECOND FORM's CARD OF 'viatorlaw06.PeriodPicks'. -/
def periodPicksUptoCard : Claim7 := { stood := { row := periodPicksUptoRow, standIns := [], harness := (true, "5b098e5b4d464258e7a1ea7413018f5157a42e6c9258b2248be9e02d537e9b09"), looks := false }, kinds := [], alts := [], laidByText := true, laidKinds := [.data, .pinned], laidTests := true, laidLooks := .later }
def PeriodPicksUptoCardSaid : Prop := Claim7.holds Tryz.pinned (.plain (OpenSpec.upto periodPicksSpec)) periodPicksUptoCard

/-- THE SECOND FORM's CARD OF 'viatorlaw06.PeriodCells'. -/
def periodCellsUptoCard : Claim7 := { stood := { row := periodCellsUptoRow, standIns := [], harness := (true, "5b098e5b4d464258e7a1ea7413018f5157a42e6c9258b2248be9e02d537e9b09"), looks := false }, kinds := [], alts := [], laidByText := true, laidKinds := [.data, .pinned], laidTests := true, laidLooks := .later }
def PeriodCellsUptoCardSaid : Prop := Claim7.holds Tryz.pinned (.plain (OpenSpec.upto periodCellsSpec)) periodCellsUptoCard

/-- THE SECOND FORM's CARD OF 'viatorlaw51.PatternShifts'. -/
def patternShiftsUptoCard : Claim7 := { stood := { row := patternShiftsUptoRow, standIns := [], harness := (true, "5b098e5b4d464258e7a1ea7413018f5157a42e6c9258b2248be9e02d537e9b09"), looks := false }, kinds := [], alts := [], laidByText := true, laidKinds := [.data, .pinned], laidTests := true, laidLooks := .later }
def PatternShiftsUptoCardSaid : Prop := Claim7.holds Tryz.pinned (.plain (OpenSpec.upto patternShiftsSpec)) patternShiftsUptoCard

/-- THE SECOND FORM's CARD OF 'viatorlaw51.PatternReaches'. -/
def patternReachesUptoCard : Claim7 := { stood := { row := patternReachesUptoRow, standIns := [], harness := (true, "5b098e5b4d464258e7a1ea7413018f5157a42e6c9258b2248be9e02d537e9b09"), looks := false }, kinds := [], alts := [], laidByText := true, laidKinds := [.data, .pinned], laidTests := true, laidLooks := .later }
def PatternReachesUptoCardSaid : Prop := Claim7.holds Tryz.pinned (.plain (OpenSpec.upto patternReachesSpec)) patternReachesUptoCard

/-- THE SECOND FORM's CARD OF 'viatorlaw51.PatternBetween'. -/
def patternBetweenUptoCard : Claim7 := { stood := { row := patternBetweenUptoRow, standIns := [], harness := (true, "5b098e5b4d464258e7a1ea7413018f5157a42e6c9258b2248be9e02d537e9b09"), looks := false }, kinds := [], alts := [], laidByText := true, laidKinds := [.data, .pinned], laidTests := true, laidLooks := .later }
def PatternBetweenUptoCardSaid : Prop := Claim7.holds Tryz.pinned (.plain (OpenSpec.upto patternBetweenSpec)) patternBetweenUptoCard

/-- THE SECOND FORM's CARD OF 'viatorlaw51.PatternErodes'. -/
def patternErodesUptoCard : Claim7 := { stood := { row := patternErodesUptoRow, standIns := [], harness := (true, "5b098e5b4d464258e7a1ea7413018f5157a42e6c9258b2248be9e02d537e9b09"), looks := false }, kinds := [], alts := [], laidByText := true, laidKinds := [.data, .pinned], laidTests := true, laidLooks := .later }
def PatternErodesUptoCardSaid : Prop := Claim7.holds Tryz.pinned (.plain (OpenSpec.upto patternErodesSpec)) patternErodesUptoCard

/-- THE SECOND FORM's CARD OF 'viatorlaw51.PatternSweeps'. -/
def patternSweepsUptoCard : Claim7 := { stood := { row := patternSweepsUptoRow, standIns := [], harness := (true, "5b098e5b4d464258e7a1ea7413018f5157a42e6c9258b2248be9e02d537e9b09"), looks := false }, kinds := [], alts := [], laidByText := true, laidKinds := [.data, .pinned], laidTests := true, laidLooks := .later }
def PatternSweepsUptoCardSaid : Prop := Claim7.holds Tryz.pinned (.plain (OpenSpec.upto patternSweepsSpec)) patternSweepsUptoCard

/-- THE SECOND FORM's CARD OF 'viatorlaw51.PatternHolds'. -/
def patternHoldsUptoCard : Claim7 := { stood := { row := patternHoldsUptoRow, standIns := [], harness := (true, "5b098e5b4d464258e7a1ea7413018f5157a42e6c9258b2248be9e02d537e9b09"), looks := false }, kinds := [], alts := [], laidByText := true, laidKinds := [.data, .pinned], laidTests := true, laidLooks := .later }
def PatternHoldsUptoCardSaid : Prop := Claim7.holds Tryz.pinned (.plain (OpenSpec.upto patternHoldsSpec)) patternHoldsUptoCard

/-- THE SECOND FORM's CARD OF 'viatorlaw51.PatternLives'. -/
def patternLivesUptoCard : Claim7 := { stood := { row := patternLivesUptoRow, standIns := [], harness := (true, "5b098e5b4d464258e7a1ea7413018f5157a42e6c9258b2248be9e02d537e9b09"), looks := false }, kinds := [], alts := [], laidByText := true, laidKinds := [.data, .pinned], laidTests := true, laidLooks := .later }
def PatternLivesUptoCardSaid : Prop := Claim7.holds Tryz.pinned (.plain (OpenSpec.upto patternLivesSpec)) patternLivesUptoCard

/-- THE SECOND FORM's CARD OF 'viatorlaw51.PatternWitnesses'. -/
def patternWitnessesUptoCard : Claim7 := { stood := { row := patternWitnessesUptoRow, standIns := [], harness := (true, "5b098e5b4d464258e7a1ea7413018f5157a42e6c9258b2248be9e02d537e9b09"), looks := false }, kinds := [], alts := [], laidByText := true, laidKinds := [.data, .pinned], laidTests := true, laidLooks := .later }
def PatternWitnessesUptoCardSaid : Prop := Claim7.holds Tryz.pinned (.plain (OpenSpec.upto patternWitnessesSpec)) patternWitnessesUptoCard

/-- THE SECOND FORM's CARD OF 'viatorlaw51.PatternChecks'. -/
def patternChecksUptoCard : Claim7 := { stood := { row := patternChecksUptoRow, standIns := [], harness := (true, "5b098e5b4d464258e7a1ea7413018f5157a42e6c9258b2248be9e02d537e9b09"), looks := false }, kinds := [], alts := [], laidByText := true, laidKinds := [.data, .pinned], laidTests := true, laidLooks := .later }
def PatternChecksUptoCardSaid : Prop := Claim7.holds Tryz.pinned (.plain (OpenSpec.upto patternChecksSpec)) patternChecksUptoCard
end Rows
end Go.Proofs.YtpgffjjpiafhpaaGreatDoor
