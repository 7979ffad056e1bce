/-
  NARROWER THAN 'FOR EVERY INPUT', by the rows' own cells (each row's printed sentence says how): PeriodNormal: laid · PeriodCombines: laid · PeriodAlgebra: laid · PeriodCovers: laid · PeriodLonger: laid · PeriodContains: laid · PeriodShifts: laid · PeriodBounds: laid · PeriodChecks: laid · PeriodPicks: laid · PeriodCells: laid.
  DERIVED. THE GIVEN ROWS OF THIS SEAT. 11 by the template 'for every input the law returns true; each argument reads behind the call as it read before'; 0 by the template 'total and deterministic' (their statements: YteknldaoegccaaaGreatDoorTotals.lean).
  GIVEN WITH THE SEED: the statements are not yours to turn. If you find one false, say at which input.
  Laid BY PROGRAM, IN A SANDBOX (cutbox-rows.mjs): the forced cells as the released guide's own fill.sh prints them over the translation d02b9d6ae85a9876… (all of the seat's roots in one cut). By AI agents, Wed Nov 11 2026. No macro, syntax, notation, axiom, sorry.
-/
import Derived.Test.YteknldaoegccaaaGreatDoorChecked
import GoSem.PinnedTables
import GoSem.Claim
import GoSem.ClaimJoined
import GoSem.ClaimMapViews
import Derived.JoinedTies
import Derived.KernelRfl
namespace Go.Proofs.YteknldaoegccaaaGreatDoor
/- THE CELL 'sum', in the pinned program and in every row, IS THE sha256 OF THE DUMP (.gsa) THAT YteknldaoegccaaaGreatDoorProg.lean LOADS. Nothing in Lean hashes anything: it is a label: what it is worth is what the hold of that sum in a sandbox is worth. -/
noncomputable def Tryz.pinned : Pinned := { name := "yteknldaoegccaaagreatdoor", sum := "d02b9d6ae85a9876c76630442cecd5a2b18c23b9438e9a76db7c1b25f3851f3b", checked := Tryz.checked }
namespace Rows
def none {H : Type} : Left H := { results := [], args := [] }

/- WHAT THE LISTED PACKAGE-LEVEL VARIABLES READ AS WHEN THE CALL BEGINS. Each datum BY PROGRAM (the guide's laid-datum.mjs) off the statement by which the dump's own 'gosem.cut.vars' lays the variable. In a bare row this is a premise. The card (YteknldaoegccaaaGreatDoorCards.lean) ties it to the program's text. -/
def laid_unicode_utf8_acceptRanges {H : Type} : DataW H := .agg [.agg [.lit (.int .u8 128), .lit (.int .u8 191)], .agg [.lit (.int .u8 160), .lit (.int .u8 191)], .agg [.lit (.int .u8 128), .lit (.int .u8 159)], .agg [.lit (.int .u8 144), .lit (.int .u8 191)], .agg [.lit (.int .u8 128), .lit (.int .u8 143)], .agg [.lit (.int .u8 0), .lit (.int .u8 0)], .agg [.lit (.int .u8 0), .lit (.int .u8 0)], .agg [.lit (.int .u8 0), .lit (.int .u8 0)], .agg [.lit (.int .u8 0), .lit (.int .u8 0)], .agg [.lit (.int .u8 0), .lit (.int .u8 0)], .agg [.lit (.int .u8 0), .lit (.int .u8 0)], .agg [.lit (.int .u8 0), .lit (.int .u8 0)], .agg [.lit (.int .u8 0), .lit (.int .u8 0)], .agg [.lit (.int .u8 0), .lit (.int .u8 0)], .agg [.lit (.int .u8 0), .lit (.int .u8 0)], .agg [.lit (.int .u8 0), .lit (.int .u8 0)]]
/-- One of Go's own tables, pinned by name: the form's constant. -/
def laid_unicode_utf8_first : DataW Unit := Go.Pinned.utf8First

/-- 'viatorlaw06.PeriodNormal': WHATEVER THE INPUT: true; the input reads as it did. -/
def periodNormalSpec : ChangeSpec := { name := "periodNormal", fn := fun _ => fun
  | [d] => { results := [.lit (.bool true)], args := [d] }
  | _ => none }
def periodNormalRow : OpenClaim := { program := "yteknldaoegccaaagreatdoor", sum := "d02b9d6ae85a9876c76630442cecd5a2b18c23b9438e9a76db7c1b25f3851f3b", func := "viator/viatorlaw06.PeriodNormal", spec := "periodNormal", inPlace := ["internal/bytealg.IndexByteString", "internal/bytealg.IndexString", "math/bits.Add64", "internal/bytealg.abigen_runtime_cmpstring"], unfollowed := true, recurses := true, named := ["unicode/utf8.first", "unicode/utf8.acceptRanges", "internal/bytealg.MaxLen"], apart := false, laid := [("unicode/utf8.acceptRanges", laid_unicode_utf8_acceptRanges), ("unicode/utf8.first", laid_unicode_utf8_first)] }
def PeriodNormalSaid : Prop := periodNormalRow.holds Tryz.pinned (OpenSpec.ofChange periodNormalSpec)

/-- ITS FALSE NEIGHBOUR: 'it returns false'. Refute it at one input. -/
def periodNormalWrong : ChangeSpec := { name := "periodNormal", fn := fun _ => fun
  | [d] => { results := [.lit (.bool false)], args := [d] }
  | _ => none }
def PeriodNormalWrongFalsely : Prop := periodNormalRow.holds Tryz.pinned (OpenSpec.ofChange periodNormalWrong)

/-- 'viatorlaw06.PeriodCombines': WHATEVER THE INPUT: true; the input reads as it did. -/
def periodCombinesSpec : ChangeSpec := { name := "periodCombines", fn := fun _ => fun
  | [d1, d2] => { results := [.lit (.bool true)], args := [d1, d2] }
  | _ => none }
def periodCombinesRow : OpenClaim := { program := "yteknldaoegccaaagreatdoor", sum := "d02b9d6ae85a9876c76630442cecd5a2b18c23b9438e9a76db7c1b25f3851f3b", func := "viator/viatorlaw06.PeriodCombines", spec := "periodCombines", inPlace := ["internal/bytealg.IndexByteString", "internal/bytealg.IndexString", "math/bits.Add64", "internal/bytealg.abigen_runtime_cmpstring"], unfollowed := true, recurses := true, named := ["unicode/utf8.first", "unicode/utf8.acceptRanges", "internal/bytealg.MaxLen"], apart := false, laid := [("unicode/utf8.acceptRanges", laid_unicode_utf8_acceptRanges), ("unicode/utf8.first", laid_unicode_utf8_first)] }
def PeriodCombinesSaid : Prop := periodCombinesRow.holds Tryz.pinned (OpenSpec.ofChange periodCombinesSpec)

/-- ITS FALSE NEIGHBOUR: 'it returns false'. Refute it at one input. -/
def periodCombinesWrong : ChangeSpec := { name := "periodCombines", fn := fun _ => fun
  | [d1, d2] => { results := [.lit (.bool false)], args := [d1, d2] }
  | _ => none }
def PeriodCombinesWrongFalsely : Prop := periodCombinesRow.holds Tryz.pinned (OpenSpec.ofChange periodCombinesWrong)

/-- 'viatorlaw06.PeriodAlgebra': WHATEVER THE INPUT: true; the input reads as it did. -/
def periodAlgebraSpec : ChangeSpec := { name := "periodAlgebra", fn := fun _ => fun
  | [d1, d2, d3] => { results := [.lit (.bool true)], args := [d1, d2, d3] }
  | _ => none }
def periodAlgebraRow : OpenClaim := { program := "yteknldaoegccaaagreatdoor", sum := "d02b9d6ae85a9876c76630442cecd5a2b18c23b9438e9a76db7c1b25f3851f3b", func := "viator/viatorlaw06.PeriodAlgebra", spec := "periodAlgebra", inPlace := ["internal/bytealg.IndexByteString", "internal/bytealg.IndexString", "math/bits.Add64", "internal/bytealg.abigen_runtime_cmpstring"], unfollowed := true, recurses := true, named := ["unicode/utf8.first", "unicode/utf8.acceptRanges", "internal/bytealg.MaxLen"], apart := false, laid := [("unicode/utf8.acceptRanges", laid_unicode_utf8_acceptRanges), ("unicode/utf8.first", laid_unicode_utf8_first)] }
def PeriodAlgebraSaid : Prop := periodAlgebraRow.holds Tryz.pinned (OpenSpec.ofChange periodAlgebraSpec)

/-- ITS FALSE NEIGHBOUR: 'it returns false'. Refute it at one input. -/
def periodAlgebraWrong : ChangeSpec := { name := "periodAlgebra", fn := fun _ => fun
  | [d1, d2, d3] => { results := [.lit (.bool false)], args := [d1, d2, d3] }
  | _ => none }
def PeriodAlgebraWrongFalsely : Prop := periodAlgebraRow.holds Tryz.pinned (OpenSpec.ofChange periodAlgebraWrong)

/-- 'viatorlaw06.PeriodCovers': WHATEVER THE INPUT: true; the input reads as it did. -/
def periodCoversSpec : ChangeSpec := { name := "periodCovers", fn := fun _ => fun
  | [d1, d2] => { results := [.lit (.bool true)], args := [d1, d2] }
  | _ => none }
def periodCoversRow : OpenClaim := { program := "yteknldaoegccaaagreatdoor", sum := "d02b9d6ae85a9876c76630442cecd5a2b18c23b9438e9a76db7c1b25f3851f3b", func := "viator/viatorlaw06.PeriodCovers", spec := "periodCovers", inPlace := ["internal/bytealg.IndexByteString", "internal/bytealg.IndexString", "math/bits.Add64", "internal/bytealg.abigen_runtime_cmpstring"], unfollowed := true, recurses := true, named := ["unicode/utf8.first", "unicode/utf8.acceptRanges", "internal/bytealg.MaxLen"], apart := false, laid := [("unicode/utf8.acceptRanges", laid_unicode_utf8_acceptRanges), ("unicode/utf8.first", laid_unicode_utf8_first)] }
def PeriodCoversSaid : Prop := periodCoversRow.holds Tryz.pinned (OpenSpec.ofChange periodCoversSpec)

/-- ITS FALSE NEIGHBOUR: 'it returns false'. Refute it at one input. -/
def periodCoversWrong : ChangeSpec := { name := "periodCovers", fn := fun _ => fun
  | [d1, d2] => { results := [.lit (.bool false)], args := [d1, d2] }
  | _ => none }
def PeriodCoversWrongFalsely : Prop := periodCoversRow.holds Tryz.pinned (OpenSpec.ofChange periodCoversWrong)

/-- 'viatorlaw06.PeriodLonger': WHATEVER THE INPUT: true; the input reads as it did. -/
def periodLongerSpec : ChangeSpec := { name := "periodLonger", fn := fun _ => fun
  | [d1, d2] => { results := [.lit (.bool true)], args := [d1, d2] }
  | _ => none }
def periodLongerRow : OpenClaim := { program := "yteknldaoegccaaagreatdoor", sum := "d02b9d6ae85a9876c76630442cecd5a2b18c23b9438e9a76db7c1b25f3851f3b", func := "viator/viatorlaw06.PeriodLonger", spec := "periodLonger", inPlace := ["internal/bytealg.IndexByteString", "internal/bytealg.IndexString", "math/bits.Add64", "internal/bytealg.abigen_runtime_cmpstring"], unfollowed := true, recurses := true, named := ["unicode/utf8.first", "unicode/utf8.acceptRanges", "internal/bytealg.MaxLen"], apart := false, laid := [("unicode/utf8.acceptRanges", laid_unicode_utf8_acceptRanges), ("unicode/utf8.first", laid_unicode_utf8_first)] }
def PeriodLongerSaid : Prop := periodLongerRow.holds Tryz.pinned (OpenSpec.ofChange periodLongerSpec)

/-- ITS FALSE NEIGHBOUR: 'it returns false'. Refute it at one input. -/
def periodLongerWrong : ChangeSpec := { name := "periodLonger", fn := fun _ => fun
  | [d1, d2] => { results := [.lit (.bool false)], args := [d1, d2] }
  | _ => none }
def PeriodLongerWrongFalsely : Prop := periodLongerRow.holds Tryz.pinned (OpenSpec.ofChange periodLongerWrong)

/-- 'viatorlaw06.PeriodContains': WHATEVER THE INPUT: true; the input reads as it did. -/
def periodContainsSpec : ChangeSpec := { name := "periodContains", fn := fun _ => fun
  | [d1, d2] => { results := [.lit (.bool true)], args := [d1, d2] }
  | _ => none }
def periodContainsRow : OpenClaim := { program := "yteknldaoegccaaagreatdoor", sum := "d02b9d6ae85a9876c76630442cecd5a2b18c23b9438e9a76db7c1b25f3851f3b", func := "viator/viatorlaw06.PeriodContains", spec := "periodContains", inPlace := ["internal/bytealg.IndexByteString", "internal/bytealg.IndexString", "math/bits.Add64", "internal/bytealg.abigen_runtime_cmpstring"], unfollowed := true, recurses := true, named := ["unicode/utf8.first", "unicode/utf8.acceptRanges", "internal/bytealg.MaxLen"], apart := false, laid := [("unicode/utf8.acceptRanges", laid_unicode_utf8_acceptRanges), ("unicode/utf8.first", laid_unicode_utf8_first)] }
def PeriodContainsSaid : Prop := periodContainsRow.holds Tryz.pinned (OpenSpec.ofChange periodContainsSpec)

/-- ITS FALSE NEIGHBOUR: 'it returns false'. Refute it at one input. -/
def periodContainsWrong : ChangeSpec := { name := "periodContains", fn := fun _ => fun
  | [d1, d2] => { results := [.lit (.bool false)], args := [d1, d2] }
  | _ => none }
def PeriodContainsWrongFalsely : Prop := periodContainsRow.holds Tryz.pinned (OpenSpec.ofChange periodContainsWrong)

/-- 'viatorlaw06.PeriodShifts': WHATEVER THE INPUT: true; the input reads as it did. -/
def periodShiftsSpec : ChangeSpec := { name := "periodShifts", fn := fun _ => fun
  | [d1, d2] => { results := [.lit (.bool true)], args := [d1, d2] }
  | _ => none }
def periodShiftsRow : OpenClaim := { program := "yteknldaoegccaaagreatdoor", sum := "d02b9d6ae85a9876c76630442cecd5a2b18c23b9438e9a76db7c1b25f3851f3b", func := "viator/viatorlaw06.PeriodShifts", spec := "periodShifts", inPlace := ["internal/bytealg.IndexByteString", "internal/bytealg.IndexString", "math/bits.Add64", "internal/bytealg.abigen_runtime_cmpstring"], unfollowed := true, recurses := true, named := ["unicode/utf8.first", "unicode/utf8.acceptRanges", "internal/bytealg.MaxLen"], apart := false, laid := [("unicode/utf8.acceptRanges", laid_unicode_utf8_acceptRanges), ("unicode/utf8.first", laid_unicode_utf8_first)] }
def PeriodShiftsSaid : Prop := periodShiftsRow.holds Tryz.pinned (OpenSpec.ofChange periodShiftsSpec)

/-- ITS FALSE NEIGHBOUR: 'it returns false'. Refute it at one input. -/
def periodShiftsWrong : ChangeSpec := { name := "periodShifts", fn := fun _ => fun
  | [d1, d2] => { results := [.lit (.bool false)], args := [d1, d2] }
  | _ => none }
def PeriodShiftsWrongFalsely : Prop := periodShiftsRow.holds Tryz.pinned (OpenSpec.ofChange periodShiftsWrong)

/-- 'viatorlaw06.PeriodBounds': WHATEVER THE INPUT: true; the input reads as it did. -/
def periodBoundsSpec : ChangeSpec := { name := "periodBounds", fn := fun _ => fun
  | [d] => { results := [.lit (.bool true)], args := [d] }
  | _ => none }
def periodBoundsRow : OpenClaim := { program := "yteknldaoegccaaagreatdoor", sum := "d02b9d6ae85a9876c76630442cecd5a2b18c23b9438e9a76db7c1b25f3851f3b", func := "viator/viatorlaw06.PeriodBounds", spec := "periodBounds", inPlace := ["internal/bytealg.IndexByteString", "internal/bytealg.IndexString", "math/bits.Add64", "internal/bytealg.abigen_runtime_cmpstring"], unfollowed := true, recurses := true, named := ["unicode/utf8.first", "unicode/utf8.acceptRanges", "internal/bytealg.MaxLen"], apart := false, laid := [("unicode/utf8.acceptRanges", laid_unicode_utf8_acceptRanges), ("unicode/utf8.first", laid_unicode_utf8_first)] }
def PeriodBoundsSaid : Prop := periodBoundsRow.holds Tryz.pinned (OpenSpec.ofChange periodBoundsSpec)

/-- ITS FALSE NEIGHBOUR: 'it returns false'. Refute it at one input. -/
def periodBoundsWrong : ChangeSpec := { name := "periodBounds", fn := fun _ => fun
  | [d] => { results := [.lit (.bool false)], args := [d] }
  | _ => none }
def PeriodBoundsWrongFalsely : Prop := periodBoundsRow.holds Tryz.pinned (OpenSpec.ofChange periodBoundsWrong)

/-- 'viatorlaw06.PeriodChecks': WHATEVER THE INPUT: true; the input reads as it did. -/
def periodChecksSpec : ChangeSpec := { name := "periodChecks", fn := fun _ => fun
  | [d1, d2] => { results := [.lit (.bool true)], args := [d1, d2] }
  | _ => none }
def periodChecksRow : OpenClaim := { program := "yteknldaoegccaaagreatdoor", sum := "d02b9d6ae85a9876c76630442cecd5a2b18c23b9438e9a76db7c1b25f3851f3b", func := "viator/viatorlaw06.PeriodChecks", spec := "periodChecks", inPlace := ["internal/bytealg.IndexByteString", "internal/bytealg.IndexString", "math/bits.Add64", "internal/bytealg.abigen_runtime_cmpstring", "internal/abi.NoEscape", "internal/bytealg.MakeNoZero"], unfollowed := true, recurses := true, named := ["unicode/utf8.first", "unicode/utf8.acceptRanges", "internal/bytealg.MaxLen"], apart := false, laid := [("unicode/utf8.acceptRanges", laid_unicode_utf8_acceptRanges), ("unicode/utf8.first", laid_unicode_utf8_first)] }
def PeriodChecksSaid : Prop := periodChecksRow.holds Tryz.pinned (OpenSpec.ofChange periodChecksSpec)

/-- ITS FALSE NEIGHBOUR: 'it returns false'. Refute it at one input. -/
def periodChecksWrong : ChangeSpec := { name := "periodChecks", fn := fun _ => fun
  | [d1, d2] => { results := [.lit (.bool false)], args := [d1, d2] }
  | _ => none }
def PeriodChecksWrongFalsely : Prop := periodChecksRow.holds Tryz.pinned (OpenSpec.ofChange periodChecksWrong)

/-- 'viatorlaw06.PeriodPicks': WHATEVER THE INPUT: true; the input reads as it did. -/
def periodPicksSpec : ChangeSpec := { name := "periodPicks", fn := fun _ => fun
  | [d1, d2, d3] => { results := [.lit (.bool true)], args := [d1, d2, d3] }
  | _ => none }
def periodPicksRow : OpenClaim := { program := "yteknldaoegccaaagreatdoor", sum := "d02b9d6ae85a9876c76630442cecd5a2b18c23b9438e9a76db7c1b25f3851f3b", func := "viator/viatorlaw06.PeriodPicks", spec := "periodPicks", inPlace := ["internal/bytealg.IndexByteString", "internal/bytealg.IndexString", "math/bits.Add64", "internal/bytealg.abigen_runtime_cmpstring", "internal/abi.NoEscape", "internal/bytealg.MakeNoZero"], unfollowed := true, recurses := true, named := ["unicode/utf8.first", "unicode/utf8.acceptRanges", "internal/bytealg.MaxLen"], apart := false, laid := [("unicode/utf8.acceptRanges", laid_unicode_utf8_acceptRanges), ("unicode/utf8.first", laid_unicode_utf8_first)] }
def PeriodPicksSaid : Prop := periodPicksRow.holds Tryz.pinned (OpenSpec.ofChange periodPicksSpec)

/-- ITS FALSE NEIGHBOUR: 'it returns false'. Refute it at one input. -/
def periodPicksWrong : ChangeSpec := { name := "periodPicks", fn := fun _ => fun
  | [d1, d2, d3] => { results := [.lit (.bool false)], args := [d1, d2, d3] }
  | _ => none }
def PeriodPicksWrongFalsely : Prop := periodPicksRow.holds Tryz.pinned (OpenSpec.ofChange periodPicksWrong)

/-- 'viatorlaw06.PeriodCells': WHATEVER THE INPUT: true; the input reads as it did. -/
def periodCellsSpec : ChangeSpec := { name := "periodCells", fn := fun _ => fun
  | [d1, d2] => { results := [.lit (.bool true)], args := [d1, d2] }
  | _ => none }
def periodCellsRow : OpenClaim := { program := "yteknldaoegccaaagreatdoor", sum := "d02b9d6ae85a9876c76630442cecd5a2b18c23b9438e9a76db7c1b25f3851f3b", func := "viator/viatorlaw06.PeriodCells", spec := "periodCells", inPlace := ["internal/bytealg.IndexByteString", "internal/bytealg.IndexString", "math/bits.Add64", "internal/bytealg.abigen_runtime_cmpstring", "internal/abi.NoEscape", "internal/bytealg.MakeNoZero"], unfollowed := true, recurses := true, named := ["unicode/utf8.first", "unicode/utf8.acceptRanges", "internal/bytealg.MaxLen"], apart := false, laid := [("unicode/utf8.acceptRanges", laid_unicode_utf8_acceptRanges), ("unicode/utf8.first", laid_unicode_utf8_first)] }
def PeriodCellsSaid : Prop := periodCellsRow.holds Tryz.pinned (OpenSpec.ofChange periodCellsSpec)

/-- ITS FALSE NEIGHBOUR: 'it returns false'. Refute it at one input. -/
def periodCellsWrong : ChangeSpec := { name := "periodCells", fn := fun _ => fun
  | [d1, d2] => { results := [.lit (.bool false)], args := [d1, d2] }
  | _ => none }
def PeriodCellsWrongFalsely : Prop := periodCellsRow.holds Tryz.pinned (OpenSpec.ofChange periodCellsWrong)

/- THE SECOND FORM. 'bulk': how many values and letters a reading holds, each counted each time it is reached (what is shared counts as often as it is met; a slice's spare places count too). A statement '..UptoSaid' is the law's where the arguments, and the package variables that the reading takes, are together of bulk at most 1048576: NARROWER than '..Said'. Prove '..Said' where nothing that the law and all that it calls make is longer than what came in: it says more and counts as full. Else prove '..UptoSaid'. A law counts once. -/
mutual
def uptoBulk {H : Type} : DataW H → Nat
  | .lit (.string bytes) => bytes.length + 1
  | .lit _ => 1
  | .nil => 1
  | .ptr d => uptoBulk d + 1
  | .slice elems spare => uptoBulkAll elems + uptoBulkAll spare + 1
  | .agg parts => uptoBulkAll parts + 1
  | .iface _ d => uptoBulk d + 1
  | .map entries => uptoBulkEntries entries + 1
  | .held _ => 1
def uptoBulkAll {H : Type} : List (DataW H) → Nat
  | [] => 0
  | d :: r => uptoBulk d + uptoBulkAll r
def uptoBulkEntries {H : Type} : List (Lit × DataW H) → Nat
  | [] => 0
  | x :: r => uptoBulkEntry x + uptoBulkEntries r
def uptoBulkEntry {H : Type} : Lit × DataW H → Nat
  | (.string bytes, d) => bytes.length + uptoBulk d + 1
  | (_, d) => uptoBulk d + 1
 end
def uptoSmall : (H : Type) → List (DataW H) → Bool := fun _ ds => decide (uptoBulkAll ds ≤ 1048576)
def OpenSpec.upto (s : _root_.Go.ChangeSpec) : _root_.Go.OpenSpec := { _root_.Go.OpenSpec.ofChange s with cond := some uptoSmall }

/-- 'viatorlaw06.PeriodNormal', WHERE WHAT IT READS IS OF BULK AT MOST 1048576: true; the input reads as it did. -/
def periodNormalUptoRow : OpenClaim := { program := "yteknldaoegccaaagreatdoor", sum := "d02b9d6ae85a9876c76630442cecd5a2b18c23b9438e9a76db7c1b25f3851f3b", func := "viator/viatorlaw06.PeriodNormal", spec := "periodNormal", inPlace := ["internal/bytealg.IndexByteString", "internal/bytealg.IndexString", "math/bits.Add64", "internal/bytealg.abigen_runtime_cmpstring"], unfollowed := true, recurses := true, named := ["unicode/utf8.first", "unicode/utf8.acceptRanges", "internal/bytealg.MaxLen"], apart := false, laid := [("unicode/utf8.acceptRanges", laid_unicode_utf8_acceptRanges), ("unicode/utf8.first", laid_unicode_utf8_first)], narrowed := true }
def PeriodNormalUptoSaid : Prop := periodNormalUptoRow.holds Tryz.pinned (OpenSpec.upto periodNormalSpec)

/-- 'viatorlaw06.PeriodCombines', WHERE WHAT IT READS IS OF BULK AT MOST 1048576: true; the input reads as it did. -/
def periodCombinesUptoRow : OpenClaim := { program := "yteknldaoegccaaagreatdoor", sum := "d02b9d6ae85a9876c76630442cecd5a2b18c23b9438e9a76db7c1b25f3851f3b", func := "viator/viatorlaw06.PeriodCombines", spec := "periodCombines", inPlace := ["internal/bytealg.IndexByteString", "internal/bytealg.IndexString", "math/bits.Add64", "internal/bytealg.abigen_runtime_cmpstring"], unfollowed := true, recurses := true, named := ["unicode/utf8.first", "unicode/utf8.acceptRanges", "internal/bytealg.MaxLen"], apart := false, laid := [("unicode/utf8.acceptRanges", laid_unicode_utf8_acceptRanges), ("unicode/utf8.first", laid_unicode_utf8_first)], narrowed := true }
def PeriodCombinesUptoSaid : Prop := periodCombinesUptoRow.holds Tryz.pinned (OpenSpec.upto periodCombinesSpec)

/-- 'viatorlaw06.PeriodAlgebra', WHERE WHAT IT READS IS OF BULK AT MOST 1048576: true; the input reads as it did. -/
def periodAlgebraUptoRow : OpenClaim := { program := "yteknldaoegccaaagreatdoor", sum := "d02b9d6ae85a9876c76630442cecd5a2b18c23b9438e9a76db7c1b25f3851f3b", func := "viator/viatorlaw06.PeriodAlgebra", spec := "periodAlgebra", inPlace := ["internal/bytealg.IndexByteString", "internal/bytealg.IndexString", "math/bits.Add64", "internal/bytealg.abigen_runtime_cmpstring"], unfollowed := true, recurses := true, named := ["unicode/utf8.first", "unicode/utf8.acceptRanges", "internal/bytealg.MaxLen"], apart := false, laid := [("unicode/utf8.acceptRanges", laid_unicode_utf8_acceptRanges), ("unicode/utf8.first", laid_unicode_utf8_first)], narrowed := true }
def PeriodAlgebraUptoSaid : Prop := periodAlgebraUptoRow.holds Tryz.pinned (OpenSpec.upto periodAlgebraSpec)

/-- 'viatorlaw06.PeriodCovers', WHERE WHAT IT READS IS OF BULK AT MOST 1048576: true; the input reads as it did. -/
def periodCoversUptoRow : OpenClaim := { program := "yteknldaoegccaaagreatdoor", sum := "d02b9d6ae85a9876c76630442cecd5a2b18c23b9438e9a76db7c1b25f3851f3b", func := "viator/viatorlaw06.PeriodCovers", spec := "periodCovers", inPlace := ["internal/bytealg.IndexByteString", "internal/bytealg.IndexString", "math/bits.Add64", "internal/bytealg.abigen_runtime_cmpstring"], unfollowed := true, recurses := true, named := ["unicode/utf8.first", "unicode/utf8.acceptRanges", "internal/bytealg.MaxLen"], apart := false, laid := [("unicode/utf8.acceptRanges", laid_unicode_utf8_acceptRanges), ("unicode/utf8.first", laid_unicode_utf8_first)], narrowed := true }
def PeriodCoversUptoSaid : Prop := periodCoversUptoRow.holds Tryz.pinned (OpenSpec.upto periodCoversSpec)

/-- 'viatorlaw06.PeriodLonger', WHERE WHAT IT READS IS OF BULK AT MOST 1048576: true; the input reads as it did. -/
def periodLongerUptoRow : OpenClaim := { program := "yteknldaoegccaaagreatdoor", sum := "d02b9d6ae85a9876c76630442cecd5a2b18c23b9438e9a76db7c1b25f3851f3b", func := "viator/viatorlaw06.PeriodLonger", spec := "periodLonger", inPlace := ["internal/bytealg.IndexByteString", "internal/bytealg.IndexString", "math/bits.Add64", "internal/bytealg.abigen_runtime_cmpstring"], unfollowed := true, recurses := true, named := ["unicode/utf8.first", "unicode/utf8.acceptRanges", "internal/bytealg.MaxLen"], apart := false, laid := [("unicode/utf8.acceptRanges", laid_unicode_utf8_acceptRanges), ("unicode/utf8.first", laid_unicode_utf8_first)], narrowed := true }
def PeriodLongerUptoSaid : Prop := periodLongerUptoRow.holds Tryz.pinned (OpenSpec.upto periodLongerSpec)

/-- 'viatorlaw06.PeriodContains', WHERE WHAT IT READS IS OF BULK AT MOST 1048576: true; the input reads as it did. -/
def periodContainsUptoRow : OpenClaim := { program := "yteknldaoegccaaagreatdoor", sum := "d02b9d6ae85a9876c76630442cecd5a2b18c23b9438e9a76db7c1b25f3851f3b", func := "viator/viatorlaw06.PeriodContains", spec := "periodContains", inPlace := ["internal/bytealg.IndexByteString", "internal/bytealg.IndexString", "math/bits.Add64", "internal/bytealg.abigen_runtime_cmpstring"], unfollowed := true, recurses := true, named := ["unicode/utf8.first", "unicode/utf8.acceptRanges", "internal/bytealg.MaxLen"], apart := false, laid := [("unicode/utf8.acceptRanges", laid_unicode_utf8_acceptRanges), ("unicode/utf8.first", laid_unicode_utf8_first)], narrowed := true }
def PeriodContainsUptoSaid : Prop := periodContainsUptoRow.holds Tryz.pinned (OpenSpec.upto periodContainsSpec)

/-- 'viatorlaw06.PeriodShifts', WHERE WHAT IT READS IS OF BULK AT MOST 1048576: true; the input reads as it did. -/
def periodShiftsUptoRow : OpenClaim := { program := "yteknldaoegccaaagreatdoor", sum := "d02b9d6ae85a9876c76630442cecd5a2b18c23b9438e9a76db7c1b25f3851f3b", func := "viator/viatorlaw06.PeriodShifts", spec := "periodShifts", inPlace := ["internal/bytealg.IndexByteString", "internal/bytealg.IndexString", "math/bits.Add64", "internal/bytealg.abigen_runtime_cmpstring"], unfollowed := true, recurses := true, named := ["unicode/utf8.first", "unicode/utf8.acceptRanges", "internal/bytealg.MaxLen"], apart := false, laid := [("unicode/utf8.acceptRanges", laid_unicode_utf8_acceptRanges), ("unicode/utf8.first", laid_unicode_utf8_first)], narrowed := true }
def PeriodShiftsUptoSaid : Prop := periodShiftsUptoRow.holds Tryz.pinned (OpenSpec.upto periodShiftsSpec)

/-- 'viatorlaw06.PeriodBounds', WHERE WHAT IT READS IS OF BULK AT MOST 1048576: true; the input reads as it did. -/
def periodBoundsUptoRow : OpenClaim := { program := "yteknldaoegccaaagreatdoor", sum := "d02b9d6ae85a9876c76630442cecd5a2b18c23b9438e9a76db7c1b25f3851f3b", func := "viator/viatorlaw06.PeriodBounds", spec := "periodBounds", inPlace := ["internal/bytealg.IndexByteString", "internal/bytealg.IndexString", "math/bits.Add64", "internal/bytealg.abigen_runtime_cmpstring"], unfollowed := true, recurses := true, named := ["unicode/utf8.first", "unicode/utf8.acceptRanges", "internal/bytealg.MaxLen"], apart := false, laid := [("unicode/utf8.acceptRanges", laid_unicode_utf8_acceptRanges), ("unicode/utf8.first", laid_unicode_utf8_first)], narrowed := true }
def PeriodBoundsUptoSaid : Prop := periodBoundsUptoRow.holds Tryz.pinned (OpenSpec.upto periodBoundsSpec)

/-- 'viatorlaw06.PeriodChecks', WHERE WHAT IT READS IS OF BULK AT MOST 1048576: true; the input reads as it did. -/
def periodChecksUptoRow : OpenClaim := { program := "yteknldaoegccaaagreatdoor", sum := "d02b9d6ae85a9876c76630442cecd5a2b18c23b9438e9a76db7c1b25f3851f3b", func := "viator/viatorlaw06.PeriodChecks", spec := "periodChecks", inPlace := ["internal/bytealg.IndexByteString", "internal/bytealg.IndexString", "math/bits.Add64", "internal/bytealg.abigen_runtime_cmpstring", "internal/abi.NoEscape", "internal/bytealg.MakeNoZero"], unfollowed := true, recurses := true, named := ["unicode/utf8.first", "unicode/utf8.acceptRanges", "internal/bytealg.MaxLen"], apart := false, laid := [("unicode/utf8.acceptRanges", laid_unicode_utf8_acceptRanges), ("unicode/utf8.first", laid_unicode_utf8_first)], narrowed := true }
def PeriodChecksUptoSaid : Prop := periodChecksUptoRow.holds Tryz.pinned (OpenSpec.upto periodChecksSpec)

/-- 'viatorlaw06.PeriodPicks', WHERE WHAT IT READS IS OF BULK AT MOST 1048576: true; the input reads as it did. -/
def periodPicksUptoRow : OpenClaim := { program := "yteknldaoegccaaagreatdoor", sum := "d02b9d6ae85a9876c76630442cecd5a2b18c23b9438e9a76db7c1b25f3851f3b", func := "viator/viatorlaw06.PeriodPicks", spec := "periodPicks", inPlace := ["internal/bytealg.IndexByteString", "internal/bytealg.IndexString", "math/bits.Add64", "internal/bytealg.abigen_runtime_cmpstring", "internal/abi.NoEscape", "internal/bytealg.MakeNoZero"], unfollowed := true, recurses := true, named := ["unicode/utf8.first", "unicode/utf8.acceptRanges", "internal/bytealg.MaxLen"], apart := false, laid := [("unicode/utf8.acceptRanges", laid_unicode_utf8_acceptRanges), ("unicode/utf8.first", laid_unicode_utf8_first)], narrowed := true }
def PeriodPicksUptoSaid : Prop := periodPicksUptoRow.holds Tryz.pinned (OpenSpec.upto periodPicksSpec)

/-- 'viatorlaw06.PeriodCells', WHERE WHAT IT READS IS OF BULK AT MOST 1048576: true; the input reads as it did. -/
def periodCellsUptoRow : OpenClaim := { program := "yteknldaoegccaaagreatdoor", sum := "d02b9d6ae85a9876c76630442cecd5a2b18c23b9438e9a76db7c1b25f3851f3b", func := "viator/viatorlaw06.PeriodCells", spec := "periodCells", inPlace := ["internal/bytealg.IndexByteString", "internal/bytealg.IndexString", "math/bits.Add64", "internal/bytealg.abigen_runtime_cmpstring", "internal/abi.NoEscape", "internal/bytealg.MakeNoZero"], unfollowed := true, recurses := true, named := ["unicode/utf8.first", "unicode/utf8.acceptRanges", "internal/bytealg.MaxLen"], apart := false, laid := [("unicode/utf8.acceptRanges", laid_unicode_utf8_acceptRanges), ("unicode/utf8.first", laid_unicode_utf8_first)], narrowed := true }
def PeriodCellsUptoSaid : Prop := periodCellsUptoRow.holds Tryz.pinned (OpenSpec.upto periodCellsSpec)

end Rows
end Go.Proofs.YteknldaoegccaaaGreatDoor
