/-
  NARROWER THAN 'FOR EVERY INPUT', by the rows' own cells (each row's printed sentence says how): MovingboolValues: laid · MovingboolFirsts: laid · MovingboolEither: laid · MovingboolLifts: laid · MovingboolChanges: laid · MovingboolLasts: laid · MovingboolLaws: laid · MovingboolJoins: laid · MovingboolRestricts: laid · MovingboolChecks: laid · MovingboolMakes: laid · MovingboolShifts: laid.
  DERIVED. THE GIVEN ROWS OF THIS SEAT. 12 by the template 'for every input the law returns true; each argument reads behind the call as it read before'; 0 by the template 'total and deterministic' (their statements: YtejegogbhpmgfaaGreatDoorTotals.lean).
  GIVEN WITH THE SEED: the statements are not yours to turn. If you find one false, say at which input.
  Laid BY PROGRAM, IN A SANDBOX (cutbox-rows.mjs): the forced cells as the released guide's own fill.sh prints them over the translation b46edd271a5824d8… (all of the seat's roots in one cut). By AI agents, Wed Nov 11 2026. No macro, syntax, notation, axiom, sorry.
-/
import Derived.Test.YtejegogbhpmgfaaGreatDoorChecked
import GoSem.PinnedTables
import GoSem.Claim
import GoSem.ClaimJoined
import GoSem.ClaimMapViews
import Derived.JoinedTies
import Derived.KernelRfl
namespace Go.Proofs.YtejegogbhpmgfaaGreatDoor
/- THE CELL 'sum', in the pinned program and in every row, IS THE sha256 OF THE DUMP (.gsa) THAT YtejegogbhpmgfaaGreatDoorProg.lean LOADS. Nothing in Lean hashes anything: it is a label: what it is worth is what the hold of that sum in a sandbox is worth. -/
noncomputable def Tryz.pinned : Pinned := { name := "ytejegogbhpmgfaagreatdoor", sum := "b46edd271a5824d85eb5b1b7cfb83d372d9f0a5dfc52d75da11c987dfffc1c95", checked := Tryz.checked }
namespace Rows
def none {H : Type} : Left H := { results := [], args := [] }

/- WHAT THE LISTED PACKAGE-LEVEL VARIABLES READ AS WHEN THE CALL BEGINS. Each datum BY PROGRAM (the guide's laid-datum.mjs) off the statement by which the dump's own 'gosem.cut.vars' lays the variable. In a bare row this is a premise. The card (YtejegogbhpmgfaaGreatDoorCards.lean) ties it to the program's text. -/
def laid_unicode_utf8_acceptRanges {H : Type} : DataW H := .agg [.agg [.lit (.int .u8 128), .lit (.int .u8 191)], .agg [.lit (.int .u8 160), .lit (.int .u8 191)], .agg [.lit (.int .u8 128), .lit (.int .u8 159)], .agg [.lit (.int .u8 144), .lit (.int .u8 191)], .agg [.lit (.int .u8 128), .lit (.int .u8 143)], .agg [.lit (.int .u8 0), .lit (.int .u8 0)], .agg [.lit (.int .u8 0), .lit (.int .u8 0)], .agg [.lit (.int .u8 0), .lit (.int .u8 0)], .agg [.lit (.int .u8 0), .lit (.int .u8 0)], .agg [.lit (.int .u8 0), .lit (.int .u8 0)], .agg [.lit (.int .u8 0), .lit (.int .u8 0)], .agg [.lit (.int .u8 0), .lit (.int .u8 0)], .agg [.lit (.int .u8 0), .lit (.int .u8 0)], .agg [.lit (.int .u8 0), .lit (.int .u8 0)], .agg [.lit (.int .u8 0), .lit (.int .u8 0)], .agg [.lit (.int .u8 0), .lit (.int .u8 0)]]
/-- One of Go's own tables, pinned by name: the form's constant. -/
def laid_unicode_utf8_first : DataW Unit := Go.Pinned.utf8First

/-- 'viatorlaw12.MovingboolValues': WHATEVER THE INPUT: true; the input reads as it did. -/
def movingboolValuesSpec : ChangeSpec := { name := "movingboolValues", fn := fun _ => fun
  | [d1, d2] => { results := [.lit (.bool true)], args := [d1, d2] }
  | _ => none }
def movingboolValuesRow : OpenClaim := { program := "ytejegogbhpmgfaagreatdoor", sum := "b46edd271a5824d85eb5b1b7cfb83d372d9f0a5dfc52d75da11c987dfffc1c95", func := "viator/viatorlaw12.MovingboolValues", spec := "movingboolValues", inPlace := ["internal/bytealg.IndexByteString", "internal/bytealg.IndexString", "math/bits.Add64", "internal/bytealg.abigen_runtime_cmpstring"], unfollowed := true, recurses := true, named := ["unicode/utf8.first", "unicode/utf8.acceptRanges", "internal/bytealg.MaxLen"], apart := false, laid := [("unicode/utf8.acceptRanges", laid_unicode_utf8_acceptRanges), ("unicode/utf8.first", laid_unicode_utf8_first)] }
def MovingboolValuesSaid : Prop := movingboolValuesRow.holds Tryz.pinned (OpenSpec.ofChange movingboolValuesSpec)

/-- ITS FALSE NEIGHBOUR: 'it returns false'. Refute it at one input. -/
def movingboolValuesWrong : ChangeSpec := { name := "movingboolValues", fn := fun _ => fun
  | [d1, d2] => { results := [.lit (.bool false)], args := [d1, d2] }
  | _ => none }
def MovingboolValuesWrongFalsely : Prop := movingboolValuesRow.holds Tryz.pinned (OpenSpec.ofChange movingboolValuesWrong)

/-- 'viatorlaw12.MovingboolFirsts': WHATEVER THE INPUT: true; the input reads as it did. -/
def movingboolFirstsSpec : ChangeSpec := { name := "movingboolFirsts", fn := fun _ => fun
  | [d] => { results := [.lit (.bool true)], args := [d] }
  | _ => none }
def movingboolFirstsRow : OpenClaim := { program := "ytejegogbhpmgfaagreatdoor", sum := "b46edd271a5824d85eb5b1b7cfb83d372d9f0a5dfc52d75da11c987dfffc1c95", func := "viator/viatorlaw12.MovingboolFirsts", spec := "movingboolFirsts", inPlace := ["internal/bytealg.IndexByteString", "internal/bytealg.IndexString", "math/bits.Add64", "internal/bytealg.abigen_runtime_cmpstring"], unfollowed := true, recurses := true, named := ["unicode/utf8.first", "unicode/utf8.acceptRanges", "internal/bytealg.MaxLen"], apart := false, laid := [("unicode/utf8.acceptRanges", laid_unicode_utf8_acceptRanges), ("unicode/utf8.first", laid_unicode_utf8_first)] }
def MovingboolFirstsSaid : Prop := movingboolFirstsRow.holds Tryz.pinned (OpenSpec.ofChange movingboolFirstsSpec)

/-- ITS FALSE NEIGHBOUR: 'it returns false'. Refute it at one input. -/
def movingboolFirstsWrong : ChangeSpec := { name := "movingboolFirsts", fn := fun _ => fun
  | [d] => { results := [.lit (.bool false)], args := [d] }
  | _ => none }
def MovingboolFirstsWrongFalsely : Prop := movingboolFirstsRow.holds Tryz.pinned (OpenSpec.ofChange movingboolFirstsWrong)

/-- 'viatorlaw12.MovingboolEither': WHATEVER THE INPUT: true; the input reads as it did. -/
def movingboolEitherSpec : ChangeSpec := { name := "movingboolEither", fn := fun _ => fun
  | [d1, d2, d3] => { results := [.lit (.bool true)], args := [d1, d2, d3] }
  | _ => none }
def movingboolEitherRow : OpenClaim := { program := "ytejegogbhpmgfaagreatdoor", sum := "b46edd271a5824d85eb5b1b7cfb83d372d9f0a5dfc52d75da11c987dfffc1c95", func := "viator/viatorlaw12.MovingboolEither", spec := "movingboolEither", inPlace := ["internal/bytealg.IndexByteString", "internal/bytealg.IndexString", "math/bits.Add64", "internal/bytealg.abigen_runtime_cmpstring"], unfollowed := true, recurses := true, named := ["unicode/utf8.first", "unicode/utf8.acceptRanges", "internal/bytealg.MaxLen"], apart := false, laid := [("unicode/utf8.acceptRanges", laid_unicode_utf8_acceptRanges), ("unicode/utf8.first", laid_unicode_utf8_first)] }
def MovingboolEitherSaid : Prop := movingboolEitherRow.holds Tryz.pinned (OpenSpec.ofChange movingboolEitherSpec)

/-- ITS FALSE NEIGHBOUR: 'it returns false'. Refute it at one input. -/
def movingboolEitherWrong : ChangeSpec := { name := "movingboolEither", fn := fun _ => fun
  | [d1, d2, d3] => { results := [.lit (.bool false)], args := [d1, d2, d3] }
  | _ => none }
def MovingboolEitherWrongFalsely : Prop := movingboolEitherRow.holds Tryz.pinned (OpenSpec.ofChange movingboolEitherWrong)

/-- 'viatorlaw12.MovingboolLifts': WHATEVER THE INPUT: true; the input reads as it did. -/
def movingboolLiftsSpec : ChangeSpec := { name := "movingboolLifts", fn := fun _ => fun
  | [d1, d2, d3] => { results := [.lit (.bool true)], args := [d1, d2, d3] }
  | _ => none }
def movingboolLiftsRow : OpenClaim := { program := "ytejegogbhpmgfaagreatdoor", sum := "b46edd271a5824d85eb5b1b7cfb83d372d9f0a5dfc52d75da11c987dfffc1c95", func := "viator/viatorlaw12.MovingboolLifts", spec := "movingboolLifts", inPlace := ["internal/bytealg.IndexByteString", "internal/bytealg.IndexString", "math/bits.Add64", "internal/bytealg.abigen_runtime_cmpstring"], unfollowed := true, recurses := true, named := ["unicode/utf8.first", "unicode/utf8.acceptRanges", "internal/bytealg.MaxLen"], apart := false, laid := [("unicode/utf8.acceptRanges", laid_unicode_utf8_acceptRanges), ("unicode/utf8.first", laid_unicode_utf8_first)] }
def MovingboolLiftsSaid : Prop := movingboolLiftsRow.holds Tryz.pinned (OpenSpec.ofChange movingboolLiftsSpec)

/-- ITS FALSE NEIGHBOUR: 'it returns false'. Refute it at one input. -/
def movingboolLiftsWrong : ChangeSpec := { name := "movingboolLifts", fn := fun _ => fun
  | [d1, d2, d3] => { results := [.lit (.bool false)], args := [d1, d2, d3] }
  | _ => none }
def MovingboolLiftsWrongFalsely : Prop := movingboolLiftsRow.holds Tryz.pinned (OpenSpec.ofChange movingboolLiftsWrong)

/-- 'viatorlaw12.MovingboolChanges': WHATEVER THE INPUT: true; the input reads as it did. -/
def movingboolChangesSpec : ChangeSpec := { name := "movingboolChanges", fn := fun _ => fun
  | [d1, d2, d3] => { results := [.lit (.bool true)], args := [d1, d2, d3] }
  | _ => none }
def movingboolChangesRow : OpenClaim := { program := "ytejegogbhpmgfaagreatdoor", sum := "b46edd271a5824d85eb5b1b7cfb83d372d9f0a5dfc52d75da11c987dfffc1c95", func := "viator/viatorlaw12.MovingboolChanges", spec := "movingboolChanges", inPlace := ["internal/bytealg.IndexByteString", "internal/bytealg.IndexString", "math/bits.Add64", "internal/bytealg.abigen_runtime_cmpstring"], unfollowed := true, recurses := true, named := ["unicode/utf8.first", "unicode/utf8.acceptRanges", "internal/bytealg.MaxLen"], apart := false, laid := [("unicode/utf8.acceptRanges", laid_unicode_utf8_acceptRanges), ("unicode/utf8.first", laid_unicode_utf8_first)] }
def MovingboolChangesSaid : Prop := movingboolChangesRow.holds Tryz.pinned (OpenSpec.ofChange movingboolChangesSpec)

/-- ITS FALSE NEIGHBOUR: 'it returns false'. Refute it at one input. -/
def movingboolChangesWrong : ChangeSpec := { name := "movingboolChanges", fn := fun _ => fun
  | [d1, d2, d3] => { results := [.lit (.bool false)], args := [d1, d2, d3] }
  | _ => none }
def MovingboolChangesWrongFalsely : Prop := movingboolChangesRow.holds Tryz.pinned (OpenSpec.ofChange movingboolChangesWrong)

/-- 'viatorlaw12.MovingboolLasts': WHATEVER THE INPUT: true; the input reads as it did. -/
def movingboolLastsSpec : ChangeSpec := { name := "movingboolLasts", fn := fun _ => fun
  | [d1, d2] => { results := [.lit (.bool true)], args := [d1, d2] }
  | _ => none }
def movingboolLastsRow : OpenClaim := { program := "ytejegogbhpmgfaagreatdoor", sum := "b46edd271a5824d85eb5b1b7cfb83d372d9f0a5dfc52d75da11c987dfffc1c95", func := "viator/viatorlaw12.MovingboolLasts", spec := "movingboolLasts", inPlace := ["internal/bytealg.IndexByteString", "internal/bytealg.IndexString", "math/bits.Add64", "internal/bytealg.abigen_runtime_cmpstring"], unfollowed := true, recurses := true, named := ["unicode/utf8.first", "unicode/utf8.acceptRanges", "internal/bytealg.MaxLen"], apart := false, laid := [("unicode/utf8.acceptRanges", laid_unicode_utf8_acceptRanges), ("unicode/utf8.first", laid_unicode_utf8_first)] }
def MovingboolLastsSaid : Prop := movingboolLastsRow.holds Tryz.pinned (OpenSpec.ofChange movingboolLastsSpec)

/-- ITS FALSE NEIGHBOUR: 'it returns false'. Refute it at one input. -/
def movingboolLastsWrong : ChangeSpec := { name := "movingboolLasts", fn := fun _ => fun
  | [d1, d2] => { results := [.lit (.bool false)], args := [d1, d2] }
  | _ => none }
def MovingboolLastsWrongFalsely : Prop := movingboolLastsRow.holds Tryz.pinned (OpenSpec.ofChange movingboolLastsWrong)

/-- 'viatorlaw12.MovingboolLaws': WHATEVER THE INPUT: true; the input reads as it did. -/
def movingboolLawsSpec : ChangeSpec := { name := "movingboolLaws", fn := fun _ => fun
  | [d1, d2, d3] => { results := [.lit (.bool true)], args := [d1, d2, d3] }
  | _ => none }
def movingboolLawsRow : OpenClaim := { program := "ytejegogbhpmgfaagreatdoor", sum := "b46edd271a5824d85eb5b1b7cfb83d372d9f0a5dfc52d75da11c987dfffc1c95", func := "viator/viatorlaw12.MovingboolLaws", spec := "movingboolLaws", inPlace := ["internal/bytealg.IndexByteString", "internal/bytealg.IndexString", "math/bits.Add64", "internal/bytealg.abigen_runtime_cmpstring"], unfollowed := true, recurses := true, named := ["unicode/utf8.first", "unicode/utf8.acceptRanges", "internal/bytealg.MaxLen"], apart := false, laid := [("unicode/utf8.acceptRanges", laid_unicode_utf8_acceptRanges), ("unicode/utf8.first", laid_unicode_utf8_first)] }
def MovingboolLawsSaid : Prop := movingboolLawsRow.holds Tryz.pinned (OpenSpec.ofChange movingboolLawsSpec)

/-- ITS FALSE NEIGHBOUR: 'it returns false'. Refute it at one input. -/
def movingboolLawsWrong : ChangeSpec := { name := "movingboolLaws", fn := fun _ => fun
  | [d1, d2, d3] => { results := [.lit (.bool false)], args := [d1, d2, d3] }
  | _ => none }
def MovingboolLawsWrongFalsely : Prop := movingboolLawsRow.holds Tryz.pinned (OpenSpec.ofChange movingboolLawsWrong)

/-- 'viatorlaw12.MovingboolJoins': WHATEVER THE INPUT: true; the input reads as it did. -/
def movingboolJoinsSpec : ChangeSpec := { name := "movingboolJoins", fn := fun _ => fun
  | [d1, d2, d3] => { results := [.lit (.bool true)], args := [d1, d2, d3] }
  | _ => none }
def movingboolJoinsRow : OpenClaim := { program := "ytejegogbhpmgfaagreatdoor", sum := "b46edd271a5824d85eb5b1b7cfb83d372d9f0a5dfc52d75da11c987dfffc1c95", func := "viator/viatorlaw12.MovingboolJoins", spec := "movingboolJoins", inPlace := ["internal/bytealg.IndexByteString", "internal/bytealg.IndexString", "math/bits.Add64", "internal/bytealg.abigen_runtime_cmpstring"], unfollowed := true, recurses := true, named := ["unicode/utf8.first", "unicode/utf8.acceptRanges", "internal/bytealg.MaxLen"], apart := false, laid := [("unicode/utf8.acceptRanges", laid_unicode_utf8_acceptRanges), ("unicode/utf8.first", laid_unicode_utf8_first)] }
def MovingboolJoinsSaid : Prop := movingboolJoinsRow.holds Tryz.pinned (OpenSpec.ofChange movingboolJoinsSpec)

/-- ITS FALSE NEIGHBOUR: 'it returns false'. Refute it at one input. -/
def movingboolJoinsWrong : ChangeSpec := { name := "movingboolJoins", fn := fun _ => fun
  | [d1, d2, d3] => { results := [.lit (.bool false)], args := [d1, d2, d3] }
  | _ => none }
def MovingboolJoinsWrongFalsely : Prop := movingboolJoinsRow.holds Tryz.pinned (OpenSpec.ofChange movingboolJoinsWrong)

/-- 'viatorlaw12.MovingboolRestricts': WHATEVER THE INPUT: true; the input reads as it did. -/
def movingboolRestrictsSpec : ChangeSpec := { name := "movingboolRestricts", fn := fun _ => fun
  | [d1, d2, d3] => { results := [.lit (.bool true)], args := [d1, d2, d3] }
  | _ => none }
def movingboolRestrictsRow : OpenClaim := { program := "ytejegogbhpmgfaagreatdoor", sum := "b46edd271a5824d85eb5b1b7cfb83d372d9f0a5dfc52d75da11c987dfffc1c95", func := "viator/viatorlaw12.MovingboolRestricts", spec := "movingboolRestricts", inPlace := ["internal/bytealg.IndexByteString", "internal/bytealg.IndexString", "math/bits.Add64", "internal/bytealg.abigen_runtime_cmpstring"], unfollowed := true, recurses := true, named := ["unicode/utf8.first", "unicode/utf8.acceptRanges", "internal/bytealg.MaxLen"], apart := false, laid := [("unicode/utf8.acceptRanges", laid_unicode_utf8_acceptRanges), ("unicode/utf8.first", laid_unicode_utf8_first)] }
def MovingboolRestrictsSaid : Prop := movingboolRestrictsRow.holds Tryz.pinned (OpenSpec.ofChange movingboolRestrictsSpec)

/-- ITS FALSE NEIGHBOUR: 'it returns false'. Refute it at one input. -/
def movingboolRestrictsWrong : ChangeSpec := { name := "movingboolRestricts", fn := fun _ => fun
  | [d1, d2, d3] => { results := [.lit (.bool false)], args := [d1, d2, d3] }
  | _ => none }
def MovingboolRestrictsWrongFalsely : Prop := movingboolRestrictsRow.holds Tryz.pinned (OpenSpec.ofChange movingboolRestrictsWrong)

/-- 'viatorlaw12.MovingboolChecks': WHATEVER THE INPUT: true; the input reads as it did. -/
def movingboolChecksSpec : ChangeSpec := { name := "movingboolChecks", fn := fun _ => fun
  | [d] => { results := [.lit (.bool true)], args := [d] }
  | _ => none }
def movingboolChecksRow : OpenClaim := { program := "ytejegogbhpmgfaagreatdoor", sum := "b46edd271a5824d85eb5b1b7cfb83d372d9f0a5dfc52d75da11c987dfffc1c95", func := "viator/viatorlaw12.MovingboolChecks", spec := "movingboolChecks", inPlace := ["internal/bytealg.IndexByteString", "internal/bytealg.IndexString", "math/bits.Add64", "internal/bytealg.abigen_runtime_cmpstring", "internal/abi.NoEscape", "internal/bytealg.MakeNoZero"], unfollowed := true, recurses := true, named := ["unicode/utf8.first", "unicode/utf8.acceptRanges", "internal/bytealg.MaxLen"], apart := false, laid := [("unicode/utf8.acceptRanges", laid_unicode_utf8_acceptRanges), ("unicode/utf8.first", laid_unicode_utf8_first)] }
def MovingboolChecksSaid : Prop := movingboolChecksRow.holds Tryz.pinned (OpenSpec.ofChange movingboolChecksSpec)

/-- ITS FALSE NEIGHBOUR: 'it returns false'. Refute it at one input. -/
def movingboolChecksWrong : ChangeSpec := { name := "movingboolChecks", fn := fun _ => fun
  | [d] => { results := [.lit (.bool false)], args := [d] }
  | _ => none }
def MovingboolChecksWrongFalsely : Prop := movingboolChecksRow.holds Tryz.pinned (OpenSpec.ofChange movingboolChecksWrong)

/-- 'viatorlaw12.MovingboolMakes': WHATEVER THE INPUT: true; the input reads as it did. -/
def movingboolMakesSpec : ChangeSpec := { name := "movingboolMakes", fn := fun _ => fun
  | [d1, d2, d3] => { results := [.lit (.bool true)], args := [d1, d2, d3] }
  | _ => none }
def movingboolMakesRow : OpenClaim := { program := "ytejegogbhpmgfaagreatdoor", sum := "b46edd271a5824d85eb5b1b7cfb83d372d9f0a5dfc52d75da11c987dfffc1c95", func := "viator/viatorlaw12.MovingboolMakes", spec := "movingboolMakes", inPlace := ["internal/bytealg.IndexByteString", "internal/bytealg.IndexString", "math/bits.Add64", "internal/bytealg.abigen_runtime_cmpstring", "internal/abi.NoEscape", "internal/bytealg.MakeNoZero"], unfollowed := true, recurses := true, named := ["unicode/utf8.first", "unicode/utf8.acceptRanges", "internal/bytealg.MaxLen"], apart := false, laid := [("unicode/utf8.acceptRanges", laid_unicode_utf8_acceptRanges), ("unicode/utf8.first", laid_unicode_utf8_first)] }
def MovingboolMakesSaid : Prop := movingboolMakesRow.holds Tryz.pinned (OpenSpec.ofChange movingboolMakesSpec)

/-- ITS FALSE NEIGHBOUR: 'it returns false'. Refute it at one input. -/
def movingboolMakesWrong : ChangeSpec := { name := "movingboolMakes", fn := fun _ => fun
  | [d1, d2, d3] => { results := [.lit (.bool false)], args := [d1, d2, d3] }
  | _ => none }
def MovingboolMakesWrongFalsely : Prop := movingboolMakesRow.holds Tryz.pinned (OpenSpec.ofChange movingboolMakesWrong)

/-- 'viatorlaw12.MovingboolShifts': WHATEVER THE INPUT: true; the input reads as it did. -/
def movingboolShiftsSpec : ChangeSpec := { name := "movingboolShifts", fn := fun _ => fun
  | [d1, d2, d3] => { results := [.lit (.bool true)], args := [d1, d2, d3] }
  | _ => none }
def movingboolShiftsRow : OpenClaim := { program := "ytejegogbhpmgfaagreatdoor", sum := "b46edd271a5824d85eb5b1b7cfb83d372d9f0a5dfc52d75da11c987dfffc1c95", func := "viator/viatorlaw12.MovingboolShifts", spec := "movingboolShifts", inPlace := ["internal/bytealg.IndexByteString", "internal/bytealg.IndexString", "math/bits.Add64", "internal/bytealg.abigen_runtime_cmpstring", "internal/abi.NoEscape", "internal/bytealg.MakeNoZero"], unfollowed := true, recurses := true, named := ["unicode/utf8.first", "unicode/utf8.acceptRanges", "internal/bytealg.MaxLen"], apart := false, laid := [("unicode/utf8.acceptRanges", laid_unicode_utf8_acceptRanges), ("unicode/utf8.first", laid_unicode_utf8_first)] }
def MovingboolShiftsSaid : Prop := movingboolShiftsRow.holds Tryz.pinned (OpenSpec.ofChange movingboolShiftsSpec)

/-- ITS FALSE NEIGHBOUR: 'it returns false'. Refute it at one input. -/
def movingboolShiftsWrong : ChangeSpec := { name := "movingboolShifts", fn := fun _ => fun
  | [d1, d2, d3] => { results := [.lit (.bool false)], args := [d1, d2, d3] }
  | _ => none }
def MovingboolShiftsWrongFalsely : Prop := movingboolShiftsRow.holds Tryz.pinned (OpenSpec.ofChange movingboolShiftsWrong)

/- THE SECOND FORM. 'bulk': how many values and letters a reading holds, each counted each time it is reached (what is shared counts as often as it is met; a slice's spare places count too). A statement '..UptoSaid' is the law's where the arguments, and the package variables that the reading takes, are together of bulk at most 1048576: NARROWER than '..Said'. Prove '..Said' where nothing that the law and all that it calls make is longer than what came in: it says more and counts as full. Else prove '..UptoSaid'. A law counts once. -/
mutual
def uptoBulk {H : Type} : DataW H → Nat
  | .lit (.string bytes) => bytes.length + 1
  | .lit _ => 1
  | .nil => 1
  | .ptr d => uptoBulk d + 1
  | .slice elems spare => uptoBulkAll elems + uptoBulkAll spare + 1
  | .agg parts => uptoBulkAll parts + 1
  | .iface _ d => uptoBulk d + 1
  | .map entries => uptoBulkEntries entries + 1
  | .held _ => 1
def uptoBulkAll {H : Type} : List (DataW H) → Nat
  | [] => 0
  | d :: r => uptoBulk d + uptoBulkAll r
def uptoBulkEntries {H : Type} : List (Lit × DataW H) → Nat
  | [] => 0
  | x :: r => uptoBulkEntry x + uptoBulkEntries r
def uptoBulkEntry {H : Type} : Lit × DataW H → Nat
  | (.string bytes, d) => bytes.length + uptoBulk d + 1
  | (_, d) => uptoBulk d + 1
 end
def uptoSmall : (H : Type) → List (DataW H) → Bool := fun _ ds => decide (uptoBulkAll ds ≤ 1048576)
def OpenSpec.upto (s : _root_.Go.ChangeSpec) : _root_.Go.OpenSpec := { _root_.Go.OpenSpec.ofChange s with cond := some uptoSmall }

/-- 'viatorlaw12.MovingboolValues', WHERE WHAT IT READS IS OF BULK AT MOST 1048576: true; the input reads as it did. -/
def movingboolValuesUptoRow : OpenClaim := { program := "ytejegogbhpmgfaagreatdoor", sum := "b46edd271a5824d85eb5b1b7cfb83d372d9f0a5dfc52d75da11c987dfffc1c95", func := "viator/viatorlaw12.MovingboolValues", spec := "movingboolValues", inPlace := ["internal/bytealg.IndexByteString", "internal/bytealg.IndexString", "math/bits.Add64", "internal/bytealg.abigen_runtime_cmpstring"], unfollowed := true, recurses := true, named := ["unicode/utf8.first", "unicode/utf8.acceptRanges", "internal/bytealg.MaxLen"], apart := false, laid := [("unicode/utf8.acceptRanges", laid_unicode_utf8_acceptRanges), ("unicode/utf8.first", laid_unicode_utf8_first)], narrowed := true }
def MovingboolValuesUptoSaid : Prop := movingboolValuesUptoRow.holds Tryz.pinned (OpenSpec.upto movingboolValuesSpec)

/-- 'viatorlaw12.MovingboolFirsts', WHERE WHAT IT READS IS OF BULK AT MOST 1048576: true; the input reads as it did. -/
def movingboolFirstsUptoRow : OpenClaim := { program := "ytejegogbhpmgfaagreatdoor", sum := "b46edd271a5824d85eb5b1b7cfb83d372d9f0a5dfc52d75da11c987dfffc1c95", func := "viator/viatorlaw12.MovingboolFirsts", spec := "movingboolFirsts", inPlace := ["internal/bytealg.IndexByteString", "internal/bytealg.IndexString", "math/bits.Add64", "internal/bytealg.abigen_runtime_cmpstring"], unfollowed := true, recurses := true, named := ["unicode/utf8.first", "unicode/utf8.acceptRanges", "internal/bytealg.MaxLen"], apart := false, laid := [("unicode/utf8.acceptRanges", laid_unicode_utf8_acceptRanges), ("unicode/utf8.first", laid_unicode_utf8_first)], narrowed := true }
def MovingboolFirstsUptoSaid : Prop := movingboolFirstsUptoRow.holds Tryz.pinned (OpenSpec.upto movingboolFirstsSpec)

/-- 'viatorlaw12.MovingboolEither', WHERE WHAT IT READS IS OF BULK AT MOST 1048576: true; the input reads as it did. -/
def movingboolEitherUptoRow : OpenClaim := { program := "ytejegogbhpmgfaagreatdoor", sum := "b46edd271a5824d85eb5b1b7cfb83d372d9f0a5dfc52d75da11c987dfffc1c95", func := "viator/viatorlaw12.MovingboolEither", spec := "movingboolEither", inPlace := ["internal/bytealg.IndexByteString", "internal/bytealg.IndexString", "math/bits.Add64", "internal/bytealg.abigen_runtime_cmpstring"], unfollowed := true, recurses := true, named := ["unicode/utf8.first", "unicode/utf8.acceptRanges", "internal/bytealg.MaxLen"], apart := false, laid := [("unicode/utf8.acceptRanges", laid_unicode_utf8_acceptRanges), ("unicode/utf8.first", laid_unicode_utf8_first)], narrowed := true }
def MovingboolEitherUptoSaid : Prop := movingboolEitherUptoRow.holds Tryz.pinned (OpenSpec.upto movingboolEitherSpec)

/-- 'viatorlaw12.MovingboolLifts', WHERE WHAT IT READS IS OF BULK AT MOST 1048576: true; the input reads as it did. -/
def movingboolLiftsUptoRow : OpenClaim := { program := "ytejegogbhpmgfaagreatdoor", sum := "b46edd271a5824d85eb5b1b7cfb83d372d9f0a5dfc52d75da11c987dfffc1c95", func := "viator/viatorlaw12.MovingboolLifts", spec := "movingboolLifts", inPlace := ["internal/bytealg.IndexByteString", "internal/bytealg.IndexString", "math/bits.Add64", "internal/bytealg.abigen_runtime_cmpstring"], unfollowed := true, recurses := true, named := ["unicode/utf8.first", "unicode/utf8.acceptRanges", "internal/bytealg.MaxLen"], apart := false, laid := [("unicode/utf8.acceptRanges", laid_unicode_utf8_acceptRanges), ("unicode/utf8.first", laid_unicode_utf8_first)], narrowed := true }
def MovingboolLiftsUptoSaid : Prop := movingboolLiftsUptoRow.holds Tryz.pinned (OpenSpec.upto movingboolLiftsSpec)

/-- 'viatorlaw12.MovingboolChanges', WHERE WHAT IT READS IS OF BULK AT MOST 1048576: true; the input reads as it did. -/
def movingboolChangesUptoRow : OpenClaim := { program := "ytejegogbhpmgfaagreatdoor", sum := "b46edd271a5824d85eb5b1b7cfb83d372d9f0a5dfc52d75da11c987dfffc1c95", func := "viator/viatorlaw12.MovingboolChanges", spec := "movingboolChanges", inPlace := ["internal/bytealg.IndexByteString", "internal/bytealg.IndexString", "math/bits.Add64", "internal/bytealg.abigen_runtime_cmpstring"], unfollowed := true, recurses := true, named := ["unicode/utf8.first", "unicode/utf8.acceptRanges", "internal/bytealg.MaxLen"], apart := false, laid := [("unicode/utf8.acceptRanges", laid_unicode_utf8_acceptRanges), ("unicode/utf8.first", laid_unicode_utf8_first)], narrowed := true }
def MovingboolChangesUptoSaid : Prop := movingboolChangesUptoRow.holds Tryz.pinned (OpenSpec.upto movingboolChangesSpec)

/-- 'viatorlaw12.MovingboolLasts', WHERE WHAT IT READS IS OF BULK AT MOST 1048576: true; the input reads as it did. -/
def movingboolLastsUptoRow : OpenClaim := { program := "ytejegogbhpmgfaagreatdoor", sum := "b46edd271a5824d85eb5b1b7cfb83d372d9f0a5dfc52d75da11c987dfffc1c95", func := "viator/viatorlaw12.MovingboolLasts", spec := "movingboolLasts", inPlace := ["internal/bytealg.IndexByteString", "internal/bytealg.IndexString", "math/bits.Add64", "internal/bytealg.abigen_runtime_cmpstring"], unfollowed := true, recurses := true, named := ["unicode/utf8.first", "unicode/utf8.acceptRanges", "internal/bytealg.MaxLen"], apart := false, laid := [("unicode/utf8.acceptRanges", laid_unicode_utf8_acceptRanges), ("unicode/utf8.first", laid_unicode_utf8_first)], narrowed := true }
def MovingboolLastsUptoSaid : Prop := movingboolLastsUptoRow.holds Tryz.pinned (OpenSpec.upto movingboolLastsSpec)

/-- 'viatorlaw12.MovingboolLaws', WHERE WHAT IT READS IS OF BULK AT MOST 1048576: true; the input reads as it did. -/
def movingboolLawsUptoRow : OpenClaim := { program := "ytejegogbhpmgfaagreatdoor", sum := "b46edd271a5824d85eb5b1b7cfb83d372d9f0a5dfc52d75da11c987dfffc1c95", func := "viator/viatorlaw12.MovingboolLaws", spec := "movingboolLaws", inPlace := ["internal/bytealg.IndexByteString", "internal/bytealg.IndexString", "math/bits.Add64", "internal/bytealg.abigen_runtime_cmpstring"], unfollowed := true, recurses := true, named := ["unicode/utf8.first", "unicode/utf8.acceptRanges", "internal/bytealg.MaxLen"], apart := false, laid := [("unicode/utf8.acceptRanges", laid_unicode_utf8_acceptRanges), ("unicode/utf8.first", laid_unicode_utf8_first)], narrowed := true }
def MovingboolLawsUptoSaid : Prop := movingboolLawsUptoRow.holds Tryz.pinned (OpenSpec.upto movingboolLawsSpec)

/-- 'viatorlaw12.MovingboolJoins', WHERE WHAT IT READS IS OF BULK AT MOST 1048576: true; the input reads as it did. -/
def movingboolJoinsUptoRow : OpenClaim := { program := "ytejegogbhpmgfaagreatdoor", sum := "b46edd271a5824d85eb5b1b7cfb83d372d9f0a5dfc52d75da11c987dfffc1c95", func := "viator/viatorlaw12.MovingboolJoins", spec := "movingboolJoins", inPlace := ["internal/bytealg.IndexByteString", "internal/bytealg.IndexString", "math/bits.Add64", "internal/bytealg.abigen_runtime_cmpstring"], unfollowed := true, recurses := true, named := ["unicode/utf8.first", "unicode/utf8.acceptRanges", "internal/bytealg.MaxLen"], apart := false, laid := [("unicode/utf8.acceptRanges", laid_unicode_utf8_acceptRanges), ("unicode/utf8.first", laid_unicode_utf8_first)], narrowed := true }
def MovingboolJoinsUptoSaid : Prop := movingboolJoinsUptoRow.holds Tryz.pinned (OpenSpec.upto movingboolJoinsSpec)

/-- 'viatorlaw12.MovingboolRestricts', WHERE WHAT IT READS IS OF BULK AT MOST 1048576: true; the input reads as it did. -/
def movingboolRestrictsUptoRow : OpenClaim := { program := "ytejegogbhpmgfaagreatdoor", sum := "b46edd271a5824d85eb5b1b7cfb83d372d9f0a5dfc52d75da11c987dfffc1c95", func := "viator/viatorlaw12.MovingboolRestricts", spec := "movingboolRestricts", inPlace := ["internal/bytealg.IndexByteString", "internal/bytealg.IndexString", "math/bits.Add64", "internal/bytealg.abigen_runtime_cmpstring"], unfollowed := true, recurses := true, named := ["unicode/utf8.first", "unicode/utf8.acceptRanges", "internal/bytealg.MaxLen"], apart := false, laid := [("unicode/utf8.acceptRanges", laid_unicode_utf8_acceptRanges), ("unicode/utf8.first", laid_unicode_utf8_first)], narrowed := true }
def MovingboolRestrictsUptoSaid : Prop := movingboolRestrictsUptoRow.holds Tryz.pinned (OpenSpec.upto movingboolRestrictsSpec)

/-- 'viatorlaw12.MovingboolChecks', WHERE WHAT IT READS IS OF BULK AT MOST 1048576: true; the input reads as it did. -/
def movingboolChecksUptoRow : OpenClaim := { program := "ytejegogbhpmgfaagreatdoor", sum := "b46edd271a5824d85eb5b1b7cfb83d372d9f0a5dfc52d75da11c987dfffc1c95", func := "viator/viatorlaw12.MovingboolChecks", spec := "movingboolChecks", inPlace := ["internal/bytealg.IndexByteString", "internal/bytealg.IndexString", "math/bits.Add64", "internal/bytealg.abigen_runtime_cmpstring", "internal/abi.NoEscape", "internal/bytealg.MakeNoZero"], unfollowed := true, recurses := true, named := ["unicode/utf8.first", "unicode/utf8.acceptRanges", "internal/bytealg.MaxLen"], apart := false, laid := [("unicode/utf8.acceptRanges", laid_unicode_utf8_acceptRanges), ("unicode/utf8.first", laid_unicode_utf8_first)], narrowed := true }
def MovingboolChecksUptoSaid : Prop := movingboolChecksUptoRow.holds Tryz.pinned (OpenSpec.upto movingboolChecksSpec)

/-- 'viatorlaw12.MovingboolMakes', WHERE WHAT IT READS IS OF BULK AT MOST 1048576: true; the input reads as it did. -/
def movingboolMakesUptoRow : OpenClaim := { program := "ytejegogbhpmgfaagreatdoor", sum := "b46edd271a5824d85eb5b1b7cfb83d372d9f0a5dfc52d75da11c987dfffc1c95", func := "viator/viatorlaw12.MovingboolMakes", spec := "movingboolMakes", inPlace := ["internal/bytealg.IndexByteString", "internal/bytealg.IndexString", "math/bits.Add64", "internal/bytealg.abigen_runtime_cmpstring", "internal/abi.NoEscape", "internal/bytealg.MakeNoZero"], unfollowed := true, recurses := true, named := ["unicode/utf8.first", "unicode/utf8.acceptRanges", "internal/bytealg.MaxLen"], apart := false, laid := [("unicode/utf8.acceptRanges", laid_unicode_utf8_acceptRanges), ("unicode/utf8.first", laid_unicode_utf8_first)], narrowed := true }
def MovingboolMakesUptoSaid : Prop := movingboolMakesUptoRow.holds Tryz.pinned (OpenSpec.upto movingboolMakesSpec)

/-- 'viatorlaw12.MovingboolShifts', WHERE WHAT IT READS IS OF BULK AT MOST 1048576: true; the input reads as it did. -/
def movingboolShiftsUptoRow : OpenClaim := { program := "ytejegogbhpmgfaagreatdoor", sum := "b46edd271a5824d85eb5b1b7cfb83d372d9f0a5dfc52d75da11c987dfffc1c95", func := "viator/viatorlaw12.MovingboolShifts", spec := "movingboolShifts", inPlace := ["internal/bytealg.IndexByteString", "internal/bytealg.IndexString", "math/bits.Add64", "internal/bytealg.abigen_runtime_cmpstring", "internal/abi.NoEscape", "internal/bytealg.MakeNoZero"], unfollowed := true, recurses := true, named := ["unicode/utf8.first", "unicode/utf8.acceptRanges", "internal/bytealg.MaxLen"], apart := false, laid := [("unicode/utf8.acceptRanges", laid_unicode_utf8_acceptRanges), ("unicode/utf8.first", laid_unicode_utf8_first)], narrowed := true }
def MovingboolShiftsUptoSaid : Prop := movingboolShiftsUptoRow.holds Tryz.pinned (OpenSpec.upto movingboolShiftsSpec)

end Rows
end Go.Proofs.YtejegogbhpmgfaaGreatDoor
