/-
  NARROWER THAN 'FOR EVERY INPUT', by the rows' own cells (each row's printed sentence says how): PeriodChecks: laid · PeriodPicks: laid · PeriodCells: laid · PatternShifts: laid · PatternReaches: laid · PatternBetween: laid · PatternErodes: laid · PatternSweeps: laid · PatternHolds: laid · PatternLives: laid · PatternWitnesses: laid · PatternChecks: laid.
  DERIVED. THE GIVEN ROWS OF THIS SEAT. 12 by the template 'for every input the law returns true; each argument reads behind the call as it read before'; 0 by the template 'total and deterministic' (their statements: YtpgffjjpiafhpaaGreatDoorTotals.lean).
  GIVEN WITH THE SEED: the statements are not yours to turn. If you find one false, say at which input.
  Laid BY PROGRAM, IN A SANDBOX (cutbox-rows.mjs): the forced cells as the released guide's own fill.sh prints them over the translation 757a561282773e09… (all of the seat's roots in one cut). By AI agents, Wed Nov 11 2026. No macro, syntax, notation, axiom, sorry.
-/
import Derived.Test.YtpgffjjpiafhpaaGreatDoorChecked
import GoSem.PinnedTables
import GoSem.Claim
import GoSem.ClaimJoined
import GoSem.ClaimMapViews
import Derived.JoinedTies
import Derived.KernelRfl
namespace Go.Proofs.YtpgffjjpiafhpaaGreatDoor
/- THE CELL 'sum', in the pinned program and in every row, IS THE sha256 OF THE DUMP (.gsa) THAT YtpgffjjpiafhpaaGreatDoorProg.lean LOADS. Nothing in Lean hashes anything: it is a label: what it is worth is what the hold of that sum in a sandbox is worth. -/
noncomputable def Tryz.pinned : Pinned := { name := "ytpgffjjpiafhpaagreatdoor", sum := "757a561282773e09247f37c62a8d5666f8c47ec7094810dba8ddd4110d7e409e", checked := Tryz.checked }
namespace Rows
def none {H : Type} : Left H := { results := [], args := [] }

/- WHAT THE LISTED PACKAGE-LEVEL VARIABLES READ AS WHEN THE CALL BEGINS. Each datum BY PROGRAM (the guide's laid-datum.mjs) off the statement by which the dump's own 'gosem.cut.vars' lays the variable. In a bare row this is a premise. The card (YtpgffjjpiafhpaaGreatDoorCards.lean) ties it to the program's text. -/
def laid_unicode_utf8_acceptRanges {H : Type} : DataW H := .agg [.agg [.lit (.int .u8 128), .lit (.int .u8 191)], .agg [.lit (.int .u8 160), .lit (.int .u8 191)], .agg [.lit (.int .u8 128), .lit (.int .u8 159)], .agg [.lit (.int .u8 144), .lit (.int .u8 191)], .agg [.lit (.int .u8 128), .lit (.int .u8 143)], .agg [.lit (.int .u8 0), .lit (.int .u8 0)], .agg [.lit (.int .u8 0), .lit (.int .u8 0)], .agg [.lit (.int .u8 0), .lit (.int .u8 0)], .agg [.lit (.int .u8 0), .lit (.int .u8 0)], .agg [.lit (.int .u8 0), .lit (.int .u8 0)], .agg [.lit (.int .u8 0), .lit (.int .u8 0)], .agg [.lit (.int .u8 0), .lit (.int .u8 0)], .agg [.lit (.int .u8 0), .lit (.int .u8 0)], .agg [.lit (.int .u8 0), .lit (.int .u8 0)], .agg [.lit (.int .u8 0), .lit (.int .u8 0)], .agg [.lit (.int .u8 0), .lit (.int .u8 0)]]
/-- One of Go's own tables, pinned by name: the form's constant. -/
def laid_unicode_utf8_first : DataW Unit := Go.Pinned.utf8First

/-- 'viatorlaw06.PeriodChecks': WHATEVER THE INPUT: true; the input reads as it did. -/
def periodChecksSpec : ChangeSpec := { name := "periodChecks", fn := fun _ => fun
  | [d1, d2] => { results := [.lit (.bool true)], args := [d1, d2] }
  | _ => none }
def periodChecksRow : OpenClaim := { program := "ytpgffjjpiafhpaagreatdoor", sum := "757a561282773e09247f37c62a8d5666f8c47ec7094810dba8ddd4110d7e409e", func := "viator/viatorlaw06.PeriodChecks", spec := "periodChecks", inPlace := ["internal/bytealg.IndexByteString", "internal/bytealg.IndexString", "math/bits.Add64", "internal/bytealg.abigen_runtime_cmpstring", "internal/abi.NoEscape", "internal/bytealg.MakeNoZero"], unfollowed := true, recurses := true, named := ["unicode/utf8.first", "unicode/utf8.acceptRanges", "internal/bytealg.MaxLen"], apart := false, laid := [("unicode/utf8.acceptRanges", laid_unicode_utf8_acceptRanges), ("unicode/utf8.first", laid_unicode_utf8_first)] }
def PeriodChecksSaid : Prop := periodChecksRow.holds Tryz.pinned (OpenSpec.ofChange periodChecksSpec)

/-- ITS FALSE NEIGHBOUR: 'it returns false'. Refute it at one input. -/
def periodChecksWrong : ChangeSpec := { name := "periodChecks", fn := fun _ => fun
  | [d1, d2] => { results := [.lit (.bool false)], args := [d1, d2] }
  | _ => none }
def PeriodChecksWrongFalsely : Prop := periodChecksRow.holds Tryz.pinned (OpenSpec.ofChange periodChecksWrong)

/-- 'viatorlaw06.PeriodPicks': WHATEVER THE INPUT: true; the input reads as it did. -/
def periodPicksSpec : ChangeSpec := { name := "periodPicks", fn := fun _ => fun
  | [d1, d2, d3] => { results := [.lit (.bool true)], args := [d1, d2, d3] }
  | _ => none }
def periodPicksRow : OpenClaim := { program := "ytpgffjjpiafhpaagreatdoor", sum := "757a561282773e09247f37c62a8d5666f8c47ec7094810dba8ddd4110d7e409e", func := "viator/viatorlaw06.PeriodPicks", spec := "periodPicks", inPlace := ["internal/bytealg.IndexByteString", "internal/bytealg.IndexString", "math/bits.Add64", "internal/bytealg.abigen_runtime_cmpstring", "internal/abi.NoEscape", "internal/bytealg.MakeNoZero"], unfollowed := true, recurses := true, named := ["unicode/utf8.first", "unicode/utf8.acceptRanges", "internal/bytealg.MaxLen"], apart := false, laid := [("unicode/utf8.acceptRanges", laid_unicode_utf8_acceptRanges), ("unicode/utf8.first", laid_unicode_utf8_first)] }
def PeriodPicksSaid : Prop := periodPicksRow.holds Tryz.pinned (OpenSpec.ofChange periodPicksSpec)

/-- ITS FALSE NEIGHBOUR: 'it returns false'. Refute it at one input. -/
def periodPicksWrong : ChangeSpec := { name := "periodPicks", fn := fun _ => fun
  | [d1, d2, d3] => { results := [.lit (.bool false)], args := [d1, d2, d3] }
  | _ => none }
def PeriodPicksWrongFalsely : Prop := periodPicksRow.holds Tryz.pinned (OpenSpec.ofChange periodPicksWrong)

/-- 'viatorlaw06.PeriodCells': WHATEVER THE INPUT: true; the input reads as it did. -/
def periodCellsSpec : ChangeSpec := { name := "periodCells", fn := fun _ => fun
  | [d1, d2] => { results := [.lit (.bool true)], args := [d1, d2] }
  | _ => none }
def periodCellsRow : OpenClaim := { program := "ytpgffjjpiafhpaagreatdoor", sum := "757a561282773e09247f37c62a8d5666f8c47ec7094810dba8ddd4110d7e409e", func := "viator/viatorlaw06.PeriodCells", spec := "periodCells", inPlace := ["internal/bytealg.IndexByteString", "internal/bytealg.IndexString", "math/bits.Add64", "internal/bytealg.abigen_runtime_cmpstring", "internal/abi.NoEscape", "internal/bytealg.MakeNoZero"], unfollowed := true, recurses := true, named := ["unicode/utf8.first", "unicode/utf8.acceptRanges", "internal/bytealg.MaxLen"], apart := false, laid := [("unicode/utf8.acceptRanges", laid_unicode_utf8_acceptRanges), ("unicode/utf8.first", laid_unicode_utf8_first)] }
def PeriodCellsSaid : Prop := periodCellsRow.holds Tryz.pinned (OpenSpec.ofChange periodCellsSpec)

/-- ITS FALSE NEIGHBOUR: 'it returns false'. Refute it at one input. -/
def periodCellsWrong : ChangeSpec := { name := "periodCells", fn := fun _ => fun
  | [d1, d2] => { results := [.lit (.bool false)], args := [d1, d2] }
  | _ => none }
def PeriodCellsWrongFalsely : Prop := periodCellsRow.holds Tryz.pinned (OpenSpec.ofChange periodCellsWrong)

/-- 'viatorlaw51.PatternShifts': WHATEVER THE INPUT: true; the input reads as it did. -/
def patternShiftsSpec : ChangeSpec := { name := "patternShifts", fn := fun _ => fun
  | [d1, d2] => { results := [.lit (.bool true)], args := [d1, d2] }
  | _ => none }
def patternShiftsRow : OpenClaim := { program := "ytpgffjjpiafhpaagreatdoor", sum := "757a561282773e09247f37c62a8d5666f8c47ec7094810dba8ddd4110d7e409e", func := "viator/viatorlaw51.PatternShifts", spec := "patternShifts", inPlace := ["internal/bytealg.IndexByteString", "internal/bytealg.IndexString", "math/bits.Add64", "internal/bytealg.abigen_runtime_cmpstring", "internal/abi.NoEscape", "internal/bytealg.MakeNoZero"], unfollowed := true, recurses := true, named := ["unicode/utf8.first", "unicode/utf8.acceptRanges", "internal/bytealg.MaxLen"], apart := false, laid := [("unicode/utf8.acceptRanges", laid_unicode_utf8_acceptRanges), ("unicode/utf8.first", laid_unicode_utf8_first)] }
def PatternShiftsSaid : Prop := patternShiftsRow.holds Tryz.pinned (OpenSpec.ofChange patternShiftsSpec)

/-- ITS FALSE NEIGHBOUR: 'it returns false'. Refute it at one input. -/
def patternShiftsWrong : ChangeSpec := { name := "patternShifts", fn := fun _ => fun
  | [d1, d2] => { results := [.lit (.bool false)], args := [d1, d2] }
  | _ => none }
def PatternShiftsWrongFalsely : Prop := patternShiftsRow.holds Tryz.pinned (OpenSpec.ofChange patternShiftsWrong)

/-- 'viatorlaw51.PatternReaches': WHATEVER THE INPUT: true; the input reads as it did. -/
def patternReachesSpec : ChangeSpec := { name := "patternReaches", fn := fun _ => fun
  | [d] => { results := [.lit (.bool true)], args := [d] }
  | _ => none }
def patternReachesRow : OpenClaim := { program := "ytpgffjjpiafhpaagreatdoor", sum := "757a561282773e09247f37c62a8d5666f8c47ec7094810dba8ddd4110d7e409e", func := "viator/viatorlaw51.PatternReaches", spec := "patternReaches", inPlace := ["internal/bytealg.IndexByteString", "internal/bytealg.IndexString", "math/bits.Add64", "internal/bytealg.abigen_runtime_cmpstring", "internal/abi.NoEscape", "internal/bytealg.MakeNoZero"], unfollowed := true, recurses := true, named := ["unicode/utf8.first", "unicode/utf8.acceptRanges", "internal/bytealg.MaxLen"], apart := false, laid := [("unicode/utf8.acceptRanges", laid_unicode_utf8_acceptRanges), ("unicode/utf8.first", laid_unicode_utf8_first)] }
def PatternReachesSaid : Prop := patternReachesRow.holds Tryz.pinned (OpenSpec.ofChange patternReachesSpec)

/-- ITS FALSE NEIGHBOUR: 'it returns false'. Refute it at one input. -/
def patternReachesWrong : ChangeSpec := { name := "patternReaches", fn := fun _ => fun
  | [d] => { results := [.lit (.bool false)], args := [d] }
  | _ => none }
def PatternReachesWrongFalsely : Prop := patternReachesRow.holds Tryz.pinned (OpenSpec.ofChange patternReachesWrong)

/-- 'viatorlaw51.PatternBetween': WHATEVER THE INPUT: true; the input reads as it did. -/
def patternBetweenSpec : ChangeSpec := { name := "patternBetween", fn := fun _ => fun
  | [d1, d2] => { results := [.lit (.bool true)], args := [d1, d2] }
  | _ => none }
def patternBetweenRow : OpenClaim := { program := "ytpgffjjpiafhpaagreatdoor", sum := "757a561282773e09247f37c62a8d5666f8c47ec7094810dba8ddd4110d7e409e", func := "viator/viatorlaw51.PatternBetween", spec := "patternBetween", inPlace := ["internal/bytealg.IndexByteString", "internal/bytealg.IndexString", "math/bits.Add64", "internal/bytealg.abigen_runtime_cmpstring", "internal/abi.NoEscape", "internal/bytealg.MakeNoZero"], unfollowed := true, recurses := true, named := ["unicode/utf8.first", "unicode/utf8.acceptRanges", "internal/bytealg.MaxLen"], apart := false, laid := [("unicode/utf8.acceptRanges", laid_unicode_utf8_acceptRanges), ("unicode/utf8.first", laid_unicode_utf8_first)] }
def PatternBetweenSaid : Prop := patternBetweenRow.holds Tryz.pinned (OpenSpec.ofChange patternBetweenSpec)

/-- ITS FALSE NEIGHBOUR: 'it returns false'. Refute it at one input. -/
def patternBetweenWrong : ChangeSpec := { name := "patternBetween", fn := fun _ => fun
  | [d1, d2] => { results := [.lit (.bool false)], args := [d1, d2] }
  | _ => none }
def PatternBetweenWrongFalsely : Prop := patternBetweenRow.holds Tryz.pinned (OpenSpec.ofChange patternBetweenWrong)

/-- 'viatorlaw51.PatternErodes': WHATEVER THE INPUT: true; the input reads as it did. -/
def patternErodesSpec : ChangeSpec := { name := "patternErodes", fn := fun _ => fun
  | [d1, d2, d3] => { results := [.lit (.bool true)], args := [d1, d2, d3] }
  | _ => none }
def patternErodesRow : OpenClaim := { program := "ytpgffjjpiafhpaagreatdoor", sum := "757a561282773e09247f37c62a8d5666f8c47ec7094810dba8ddd4110d7e409e", func := "viator/viatorlaw51.PatternErodes", spec := "patternErodes", inPlace := ["internal/bytealg.IndexByteString", "internal/bytealg.IndexString", "math/bits.Add64", "internal/bytealg.abigen_runtime_cmpstring", "internal/abi.NoEscape", "internal/bytealg.MakeNoZero"], unfollowed := true, recurses := true, named := ["unicode/utf8.first", "unicode/utf8.acceptRanges", "internal/bytealg.MaxLen"], apart := false, laid := [("unicode/utf8.acceptRanges", laid_unicode_utf8_acceptRanges), ("unicode/utf8.first", laid_unicode_utf8_first)] }
def PatternErodesSaid : Prop := patternErodesRow.holds Tryz.pinned (OpenSpec.ofChange patternErodesSpec)

/-- ITS FALSE NEIGHBOUR: 'it returns false'. Refute it at one input. -/
def patternErodesWrong : ChangeSpec := { name := "patternErodes", fn := fun _ => fun
  | [d1, d2, d3] => { results := [.lit (.bool false)], args := [d1, d2, d3] }
  | _ => none }
def PatternErodesWrongFalsely : Prop := patternErodesRow.holds Tryz.pinned (OpenSpec.ofChange patternErodesWrong)

/-- 'viatorlaw51.PatternSweeps': WHATEVER THE INPUT: true; the input reads as it did. -/
def patternSweepsSpec : ChangeSpec := { name := "patternSweeps", fn := fun _ => fun
  | [d1, d2, d3] => { results := [.lit (.bool true)], args := [d1, d2, d3] }
  | _ => none }
def patternSweepsRow : OpenClaim := { program := "ytpgffjjpiafhpaagreatdoor", sum := "757a561282773e09247f37c62a8d5666f8c47ec7094810dba8ddd4110d7e409e", func := "viator/viatorlaw51.PatternSweeps", spec := "patternSweeps", inPlace := ["internal/bytealg.IndexByteString", "internal/bytealg.IndexString", "math/bits.Add64", "internal/bytealg.abigen_runtime_cmpstring", "internal/abi.NoEscape", "internal/bytealg.MakeNoZero"], unfollowed := true, recurses := true, named := ["unicode/utf8.first", "unicode/utf8.acceptRanges", "internal/bytealg.MaxLen"], apart := false, laid := [("unicode/utf8.acceptRanges", laid_unicode_utf8_acceptRanges), ("unicode/utf8.first", laid_unicode_utf8_first)] }
def PatternSweepsSaid : Prop := patternSweepsRow.holds Tryz.pinned (OpenSpec.ofChange patternSweepsSpec)

/-- ITS FALSE NEIGHBOUR: 'it returns false'. Refute it at one input. -/
def patternSweepsWrong : ChangeSpec := { name := "patternSweeps", fn := fun _ => fun
  | [d1, d2, d3] => { results := [.lit (.bool false)], args := [d1, d2, d3] }
  | _ => none }
def PatternSweepsWrongFalsely : Prop := patternSweepsRow.holds Tryz.pinned (OpenSpec.ofChange patternSweepsWrong)

/-- 'viatorlaw51.PatternHolds': WHATEVER THE INPUT: true; the input reads as it did. -/
def patternHoldsSpec : ChangeSpec := { name := "patternHolds", fn := fun _ => fun
  | [d1, d2] => { results := [.lit (.bool true)], args := [d1, d2] }
  | _ => none }
def patternHoldsRow : OpenClaim := { program := "ytpgffjjpiafhpaagreatdoor", sum := "757a561282773e09247f37c62a8d5666f8c47ec7094810dba8ddd4110d7e409e", func := "viator/viatorlaw51.PatternHolds", spec := "patternHolds", inPlace := ["internal/bytealg.IndexByteString", "internal/bytealg.IndexString", "math/bits.Add64", "internal/bytealg.abigen_runtime_cmpstring", "internal/abi.NoEscape", "internal/bytealg.MakeNoZero"], unfollowed := true, recurses := true, named := ["unicode/utf8.first", "unicode/utf8.acceptRanges", "internal/bytealg.MaxLen"], apart := false, laid := [("unicode/utf8.acceptRanges", laid_unicode_utf8_acceptRanges), ("unicode/utf8.first", laid_unicode_utf8_first)] }
def PatternHoldsSaid : Prop := patternHoldsRow.holds Tryz.pinned (OpenSpec.ofChange patternHoldsSpec)

/-- ITS FALSE NEIGHBOUR: 'it returns false'. Refute it at one input. -/
def patternHoldsWrong : ChangeSpec := { name := "patternHolds", fn := fun _ => fun
  | [d1, d2] => { results := [.lit (.bool false)], args := [d1, d2] }
  | _ => none }
def PatternHoldsWrongFalsely : Prop := patternHoldsRow.holds Tryz.pinned (OpenSpec.ofChange patternHoldsWrong)

/-- 'viatorlaw51.PatternLives': WHATEVER THE INPUT: true; the input reads as it did. -/
def patternLivesSpec : ChangeSpec := { name := "patternLives", fn := fun _ => fun
  | [d1, d2, d3] => { results := [.lit (.bool true)], args := [d1, d2, d3] }
  | _ => none }
def patternLivesRow : OpenClaim := { program := "ytpgffjjpiafhpaagreatdoor", sum := "757a561282773e09247f37c62a8d5666f8c47ec7094810dba8ddd4110d7e409e", func := "viator/viatorlaw51.PatternLives", spec := "patternLives", inPlace := ["internal/bytealg.IndexByteString", "internal/bytealg.IndexString", "math/bits.Add64", "internal/bytealg.abigen_runtime_cmpstring", "internal/abi.NoEscape", "internal/bytealg.MakeNoZero"], unfollowed := true, recurses := true, named := ["unicode/utf8.first", "unicode/utf8.acceptRanges", "internal/bytealg.MaxLen"], apart := false, laid := [("unicode/utf8.acceptRanges", laid_unicode_utf8_acceptRanges), ("unicode/utf8.first", laid_unicode_utf8_first)] }
def PatternLivesSaid : Prop := patternLivesRow.holds Tryz.pinned (OpenSpec.ofChange patternLivesSpec)

/-- ITS FALSE NEIGHBOUR: 'it returns false'. Refute it at one input. -/
def patternLivesWrong : ChangeSpec := { name := "patternLives", fn := fun _ => fun
  | [d1, d2, d3] => { results := [.lit (.bool false)], args := [d1, d2, d3] }
  | _ => none }
def PatternLivesWrongFalsely : Prop := patternLivesRow.holds Tryz.pinned (OpenSpec.ofChange patternLivesWrong)

/-- 'viatorlaw51.PatternWitnesses': WHATEVER THE INPUT: true; the input reads as it did. -/
def patternWitnessesSpec : ChangeSpec := { name := "patternWitnesses", fn := fun _ => fun
  | [d] => { results := [.lit (.bool true)], args := [d] }
  | _ => none }
def patternWitnessesRow : OpenClaim := { program := "ytpgffjjpiafhpaagreatdoor", sum := "757a561282773e09247f37c62a8d5666f8c47ec7094810dba8ddd4110d7e409e", func := "viator/viatorlaw51.PatternWitnesses", spec := "patternWitnesses", inPlace := ["internal/bytealg.IndexByteString", "internal/bytealg.IndexString", "math/bits.Add64", "internal/bytealg.abigen_runtime_cmpstring", "internal/abi.NoEscape", "internal/bytealg.MakeNoZero"], unfollowed := true, recurses := true, named := ["unicode/utf8.first", "unicode/utf8.acceptRanges", "internal/bytealg.MaxLen"], apart := false, laid := [("unicode/utf8.acceptRanges", laid_unicode_utf8_acceptRanges), ("unicode/utf8.first", laid_unicode_utf8_first)] }
def PatternWitnessesSaid : Prop := patternWitnessesRow.holds Tryz.pinned (OpenSpec.ofChange patternWitnessesSpec)

/-- ITS FALSE NEIGHBOUR: 'it returns false'. Refute it at one input. -/
def patternWitnessesWrong : ChangeSpec := { name := "patternWitnesses", fn := fun _ => fun
  | [d] => { results := [.lit (.bool false)], args := [d] }
  | _ => none }
def PatternWitnessesWrongFalsely : Prop := patternWitnessesRow.holds Tryz.pinned (OpenSpec.ofChange patternWitnessesWrong)

/-- 'viatorlaw51.PatternChecks': WHATEVER THE INPUT: true; the input reads as it did. -/
def patternChecksSpec : ChangeSpec := { name := "patternChecks", fn := fun _ => fun
  | [d1, d2] => { results := [.lit (.bool true)], args := [d1, d2] }
  | _ => none }
def patternChecksRow : OpenClaim := { program := "ytpgffjjpiafhpaagreatdoor", sum := "757a561282773e09247f37c62a8d5666f8c47ec7094810dba8ddd4110d7e409e", func := "viator/viatorlaw51.PatternChecks", spec := "patternChecks", inPlace := ["internal/bytealg.IndexByteString", "internal/bytealg.IndexString", "math/bits.Add64", "internal/bytealg.abigen_runtime_cmpstring", "internal/abi.NoEscape", "internal/bytealg.MakeNoZero"], unfollowed := true, recurses := true, named := ["unicode/utf8.first", "unicode/utf8.acceptRanges", "internal/bytealg.MaxLen"], apart := false, laid := [("unicode/utf8.acceptRanges", laid_unicode_utf8_acceptRanges), ("unicode/utf8.first", laid_unicode_utf8_first)] }
def PatternChecksSaid : Prop := patternChecksRow.holds Tryz.pinned (OpenSpec.ofChange patternChecksSpec)

/-- ITS FALSE NEIGHBOUR: 'it returns false'. Refute it at one input. -/
def patternChecksWrong : ChangeSpec := { name := "patternChecks", fn := fun _ => fun
  | [d1, d2] => { results := [.lit (.bool false)], args := [d1, d2] }
  | _ => none }
def PatternChecksWrongFalsely : Prop := patternChecksRow.holds Tryz.pinned (OpenSpec.ofChange patternChecksWrong)

/- THE SECOND FORM. 'bulk': how many values and letters a reading holds, each counted each time it is reached (what is shared counts as often as it is met; a slice's spare places count too). A statement '..UptoSaid' is the law's where the arguments, and the package variables that the reading takes, are together of bulk at most 1048576: NARROWER than '..Said'. Prove '..Said' where nothing that the law and all that it calls make is longer than what came in: it says more and counts as full. Else prove '..UptoSaid'. A law counts once. -/
mutual
def uptoBulk {H : Type} : DataW H → Nat
  | .lit (.string bytes) => bytes.length + 1
  | .lit _ => 1
  | .nil => 1
  | .ptr d => uptoBulk d + 1
  | .slice elems spare => uptoBulkAll elems + uptoBulkAll spare + 1
  | .agg parts => uptoBulkAll parts + 1
  | .iface _ d => uptoBulk d + 1
  | .map entries => uptoBulkEntries entries + 1
  | .held _ => 1
def uptoBulkAll {H : Type} : List (DataW H) → Nat
  | [] => 0
  | d :: r => uptoBulk d + uptoBulkAll r
def uptoBulkEntries {H : Type} : List (Lit × DataW H) → Nat
  | [] => 0
  | x :: r => uptoBulkEntry x + uptoBulkEntries r
def uptoBulkEntry {H : Type} : Lit × DataW H → Nat
  | (.string bytes, d) => bytes.length + uptoBulk d + 1
  | (_, d) => uptoBulk d + 1
 end
def uptoSmall : (H : Type) → List (DataW H) → Bool := fun _ ds => decide (uptoBulkAll ds ≤ 1048576)
def OpenSpec.upto (s : _root_.Go.ChangeSpec) : _root_.Go.OpenSpec := { _root_.Go.OpenSpec.ofChange s with cond := some uptoSmall }

/-- 'viatorlaw06.PeriodChecks', WHERE WHAT IT READS IS OF BULK AT MOST 1048576: true; the input reads as it did. -/
def periodChecksUptoRow : OpenClaim := { program := "ytpgffjjpiafhpaagreatdoor", sum := "757a561282773e09247f37c62a8d5666f8c47ec7094810dba8ddd4110d7e409e", func := "viator/viatorlaw06.PeriodChecks", spec := "periodChecks", inPlace := ["internal/bytealg.IndexByteString", "internal/bytealg.IndexString", "math/bits.Add64", "internal/bytealg.abigen_runtime_cmpstring", "internal/abi.NoEscape", "internal/bytealg.MakeNoZero"], unfollowed := true, recurses := true, named := ["unicode/utf8.first", "unicode/utf8.acceptRanges", "internal/bytealg.MaxLen"], apart := false, laid := [("unicode/utf8.acceptRanges", laid_unicode_utf8_acceptRanges), ("unicode/utf8.first", laid_unicode_utf8_first)], narrowed := true }
def PeriodChecksUptoSaid : Prop := periodChecksUptoRow.holds Tryz.pinned (OpenSpec.upto periodChecksSpec)

/-- 'viatorlaw06.PeriodPicks', WHERE WHAT IT READS IS OF BULK AT MOST 1048576: true; the input reads as it did. -/
def periodPicksUptoRow : OpenClaim := { program := "ytpgffjjpiafhpaagreatdoor", sum := "757a561282773e09247f37c62a8d5666f8c47ec7094810dba8ddd4110d7e409e", func := "viator/viatorlaw06.PeriodPicks", spec := "periodPicks", inPlace := ["internal/bytealg.IndexByteString", "internal/bytealg.IndexString", "math/bits.Add64", "internal/bytealg.abigen_runtime_cmpstring", "internal/abi.NoEscape", "internal/bytealg.MakeNoZero"], unfollowed := true, recurses := true, named := ["unicode/utf8.first", "unicode/utf8.acceptRanges", "internal/bytealg.MaxLen"], apart := false, laid := [("unicode/utf8.acceptRanges", laid_unicode_utf8_acceptRanges), ("unicode/utf8.first", laid_unicode_utf8_first)], narrowed := true }
def PeriodPicksUptoSaid : Prop := periodPicksUptoRow.holds Tryz.pinned (OpenSpec.upto periodPicksSpec)

/-- 'viatorlaw06.PeriodCells', WHERE WHAT IT READS IS OF BULK AT MOST 1048576: true; the input reads as it did. -/
def periodCellsUptoRow : OpenClaim := { program := "ytpgffjjpiafhpaagreatdoor", sum := "757a561282773e09247f37c62a8d5666f8c47ec7094810dba8ddd4110d7e409e", func := "viator/viatorlaw06.PeriodCells", spec := "periodCells", inPlace := ["internal/bytealg.IndexByteString", "internal/bytealg.IndexString", "math/bits.Add64", "internal/bytealg.abigen_runtime_cmpstring", "internal/abi.NoEscape", "internal/bytealg.MakeNoZero"], unfollowed := true, recurses := true, named := ["unicode/utf8.first", "unicode/utf8.acceptRanges", "internal/bytealg.MaxLen"], apart := false, laid := [("unicode/utf8.acceptRanges", laid_unicode_utf8_acceptRanges), ("unicode/utf8.first", laid_unicode_utf8_first)], narrowed := true }
def PeriodCellsUptoSaid : Prop := periodCellsUptoRow.holds Tryz.pinned (OpenSpec.upto periodCellsSpec)

/-- 'viatorlaw51.PatternShifts', WHERE WHAT IT READS IS OF BULK AT MOST 1048576: true; the input reads as it did. -/
def patternShiftsUptoRow : OpenClaim := { program := "ytpgffjjpiafhpaagreatdoor", sum := "757a561282773e09247f37c62a8d5666f8c47ec7094810dba8ddd4110d7e409e", func := "viator/viatorlaw51.PatternShifts", spec := "patternShifts", inPlace := ["internal/bytealg.IndexByteString", "internal/bytealg.IndexString", "math/bits.Add64", "internal/bytealg.abigen_runtime_cmpstring", "internal/abi.NoEscape", "internal/bytealg.MakeNoZero"], unfollowed := true, recurses := true, named := ["unicode/utf8.first", "unicode/utf8.acceptRanges", "internal/bytealg.MaxLen"], apart := false, laid := [("unicode/utf8.acceptRanges", laid_unicode_utf8_acceptRanges), ("unicode/utf8.first", laid_unicode_utf8_first)], narrowed := true }
def PatternShiftsUptoSaid : Prop := patternShiftsUptoRow.holds Tryz.pinned (OpenSpec.upto patternShiftsSpec)

/-- 'viatorlaw51.PatternReaches', WHERE WHAT IT READS IS OF BULK AT MOST 1048576: true; the input reads as it did. -/
def patternReachesUptoRow : OpenClaim := { program := "ytpgffjjpiafhpaagreatdoor", sum := "757a561282773e09247f37c62a8d5666f8c47ec7094810dba8ddd4110d7e409e", func := "viator/viatorlaw51.PatternReaches", spec := "patternReaches", inPlace := ["internal/bytealg.IndexByteString", "internal/bytealg.IndexString", "math/bits.Add64", "internal/bytealg.abigen_runtime_cmpstring", "internal/abi.NoEscape", "internal/bytealg.MakeNoZero"], unfollowed := true, recurses := true, named := ["unicode/utf8.first", "unicode/utf8.acceptRanges", "internal/bytealg.MaxLen"], apart := false, laid := [("unicode/utf8.acceptRanges", laid_unicode_utf8_acceptRanges), ("unicode/utf8.first", laid_unicode_utf8_first)], narrowed := true }
def PatternReachesUptoSaid : Prop := patternReachesUptoRow.holds Tryz.pinned (OpenSpec.upto patternReachesSpec)

/-- 'viatorlaw51.PatternBetween', WHERE WHAT IT READS IS OF BULK AT MOST 1048576: true; the input reads as it did. -/
def patternBetweenUptoRow : OpenClaim := { program := "ytpgffjjpiafhpaagreatdoor", sum := "757a561282773e09247f37c62a8d5666f8c47ec7094810dba8ddd4110d7e409e", func := "viator/viatorlaw51.PatternBetween", spec := "patternBetween", inPlace := ["internal/bytealg.IndexByteString", "internal/bytealg.IndexString", "math/bits.Add64", "internal/bytealg.abigen_runtime_cmpstring", "internal/abi.NoEscape", "internal/bytealg.MakeNoZero"], unfollowed := true, recurses := true, named := ["unicode/utf8.first", "unicode/utf8.acceptRanges", "internal/bytealg.MaxLen"], apart := false, laid := [("unicode/utf8.acceptRanges", laid_unicode_utf8_acceptRanges), ("unicode/utf8.first", laid_unicode_utf8_first)], narrowed := true }
def PatternBetweenUptoSaid : Prop := patternBetweenUptoRow.holds Tryz.pinned (OpenSpec.upto patternBetweenSpec)

/-- 'viatorlaw51.PatternErodes', WHERE WHAT IT READS IS OF BULK AT MOST 1048576: true; the input reads as it did. -/
def patternErodesUptoRow : OpenClaim := { program := "ytpgffjjpiafhpaagreatdoor", sum := "757a561282773e09247f37c62a8d5666f8c47ec7094810dba8ddd4110d7e409e", func := "viator/viatorlaw51.PatternErodes", spec := "patternErodes", inPlace := ["internal/bytealg.IndexByteString", "internal/bytealg.IndexString", "math/bits.Add64", "internal/bytealg.abigen_runtime_cmpstring", "internal/abi.NoEscape", "internal/bytealg.MakeNoZero"], unfollowed := true, recurses := true, named := ["unicode/utf8.first", "unicode/utf8.acceptRanges", "internal/bytealg.MaxLen"], apart := false, laid := [("unicode/utf8.acceptRanges", laid_unicode_utf8_acceptRanges), ("unicode/utf8.first", laid_unicode_utf8_first)], narrowed := true }
def PatternErodesUptoSaid : Prop := patternErodesUptoRow.holds Tryz.pinned (OpenSpec.upto patternErodesSpec)

/-- 'viatorlaw51.PatternSweeps', WHERE WHAT IT READS IS OF BULK AT MOST 1048576: true; the input reads as it did. -/
def patternSweepsUptoRow : OpenClaim := { program := "ytpgffjjpiafhpaagreatdoor", sum := "757a561282773e09247f37c62a8d5666f8c47ec7094810dba8ddd4110d7e409e", func := "viator/viatorlaw51.PatternSweeps", spec := "patternSweeps", inPlace := ["internal/bytealg.IndexByteString", "internal/bytealg.IndexString", "math/bits.Add64", "internal/bytealg.abigen_runtime_cmpstring", "internal/abi.NoEscape", "internal/bytealg.MakeNoZero"], unfollowed := true, recurses := true, named := ["unicode/utf8.first", "unicode/utf8.acceptRanges", "internal/bytealg.MaxLen"], apart := false, laid := [("unicode/utf8.acceptRanges", laid_unicode_utf8_acceptRanges), ("unicode/utf8.first", laid_unicode_utf8_first)], narrowed := true }
def PatternSweepsUptoSaid : Prop := patternSweepsUptoRow.holds Tryz.pinned (OpenSpec.upto patternSweepsSpec)

/-- 'viatorlaw51.PatternHolds', WHERE WHAT IT READS IS OF BULK AT MOST 1048576: true; the input reads as it did. -/
def patternHoldsUptoRow : OpenClaim := { program := "ytpgffjjpiafhpaagreatdoor", sum := "757a561282773e09247f37c62a8d5666f8c47ec7094810dba8ddd4110d7e409e", func := "viator/viatorlaw51.PatternHolds", spec := "patternHolds", inPlace := ["internal/bytealg.IndexByteString", "internal/bytealg.IndexString", "math/bits.Add64", "internal/bytealg.abigen_runtime_cmpstring", "internal/abi.NoEscape", "internal/bytealg.MakeNoZero"], unfollowed := true, recurses := true, named := ["unicode/utf8.first", "unicode/utf8.acceptRanges", "internal/bytealg.MaxLen"], apart := false, laid := [("unicode/utf8.acceptRanges", laid_unicode_utf8_acceptRanges), ("unicode/utf8.first", laid_unicode_utf8_first)], narrowed := true }
def PatternHoldsUptoSaid : Prop := patternHoldsUptoRow.holds Tryz.pinned (OpenSpec.upto patternHoldsSpec)

/-- 'viatorlaw51.PatternLives', WHERE WHAT IT READS IS OF BULK AT MOST 1048576: true; the input reads as it did. -/
def patternLivesUptoRow : OpenClaim := { program := "ytpgffjjpiafhpaagreatdoor", sum := "757a561282773e09247f37c62a8d5666f8c47ec7094810dba8ddd4110d7e409e", func := "viator/viatorlaw51.PatternLives", spec := "patternLives", inPlace := ["internal/bytealg.IndexByteString", "internal/bytealg.IndexString", "math/bits.Add64", "internal/bytealg.abigen_runtime_cmpstring", "internal/abi.NoEscape", "internal/bytealg.MakeNoZero"], unfollowed := true, recurses := true, named := ["unicode/utf8.first", "unicode/utf8.acceptRanges", "internal/bytealg.MaxLen"], apart := false, laid := [("unicode/utf8.acceptRanges", laid_unicode_utf8_acceptRanges), ("unicode/utf8.first", laid_unicode_utf8_first)], narrowed := true }
def PatternLivesUptoSaid : Prop := patternLivesUptoRow.holds Tryz.pinned (OpenSpec.upto patternLivesSpec)

/-- 'viatorlaw51.PatternWitnesses', WHERE WHAT IT READS IS OF BULK AT MOST 1048576: true; the input reads as it did. -/
def patternWitnessesUptoRow : OpenClaim := { program := "ytpgffjjpiafhpaagreatdoor", sum := "757a561282773e09247f37c62a8d5666f8c47ec7094810dba8ddd4110d7e409e", func := "viator/viatorlaw51.PatternWitnesses", spec := "patternWitnesses", inPlace := ["internal/bytealg.IndexByteString", "internal/bytealg.IndexString", "math/bits.Add64", "internal/bytealg.abigen_runtime_cmpstring", "internal/abi.NoEscape", "internal/bytealg.MakeNoZero"], unfollowed := true, recurses := true, named := ["unicode/utf8.first", "unicode/utf8.acceptRanges", "internal/bytealg.MaxLen"], apart := false, laid := [("unicode/utf8.acceptRanges", laid_unicode_utf8_acceptRanges), ("unicode/utf8.first", laid_unicode_utf8_first)], narrowed := true }
def PatternWitnessesUptoSaid : Prop := patternWitnessesUptoRow.holds Tryz.pinned (OpenSpec.upto patternWitnessesSpec)

/-- 'viatorlaw51.PatternChecks', WHERE WHAT IT READS IS OF BULK AT MOST 1048576: true; the input reads as it did. -/
def patternChecksUptoRow : OpenClaim := { program := "ytpgffjjpiafhpaagreatdoor", sum := "757a561282773e09247f37c62a8d5666f8c47ec7094810dba8ddd4110d7e409e", func := "viator/viatorlaw51.PatternChecks", spec := "patternChecks", inPlace := ["internal/bytealg.IndexByteString", "internal/bytealg.IndexString", "math/bits.Add64", "internal/bytealg.abigen_runtime_cmpstring", "internal/abi.NoEscape", "internal/bytealg.MakeNoZero"], unfollowed := true, recurses := true, named := ["unicode/utf8.first", "unicode/utf8.acceptRanges", "internal/bytealg.MaxLen"], apart := false, laid := [("unicode/utf8.acceptRanges", laid_unicode_utf8_acceptRanges), ("unicode/utf8.first", laid_unicode_utf8_first)], narrowed := true }
def PatternChecksUptoSaid : Prop := patternChecksUptoRow.holds Tryz.pinned (OpenSpec.upto patternChecksSpec)

end Rows
end Go.Proofs.YtpgffjjpiafhpaaGreatDoor
