/-
  No cell of these rows narrows 'for every input' (looked for: loops, veiled, ifaces, maps, wideKeys, modest, calm, conditions, laid).
  DERIVED. THE GIVEN ROWS OF THIS SEAT. 8 by the template 'for every input the law returns true; each argument reads behind the call as it read before'; 0 by the template 'total and deterministic' (their statements: YtgmggmpkbfljfaaTotals.lean).
  GIVEN WITH THE SEED: the statements are not yours to turn. If you find one false, say at which input.
  Laid BY PROGRAM, IN A SANDBOX (cutbox-rows.mjs): the forced cells as the released guide's own fill.sh prints them over the translation 7f7b137158a80a92… (all of the seat's roots in one cut). By AI agents, Wed Nov 11 2026. No macro, syntax, notation, axiom, sorry.
-/
import Derived.Test.YtgmggmpkbfljfaaChecked
import GoSem.Claim
import GoSem.ClaimJoined
import GoSem.ClaimMapViews
import Derived.JoinedTies
import Derived.KernelRfl
namespace Go.Proofs.Ytgmggmpkbfljfaa
/- THE CELL 'sum', in the pinned program and in every row, IS THE sha256 OF THE DUMP (.gsa) THAT YtgmggmpkbfljfaaProg.lean LOADS. Nothing in Lean hashes anything: it is a label: what it is worth is what the hold of that sum in a sandbox is worth. -/
noncomputable def Try.pinned : Pinned := { name := "ytgmggmpkbfljfaa", sum := "7f7b137158a80a920e6f0e8ca82a35222ae49d1c34816936ae967a56d6e1268f", checked := Try.checked }
namespace Rows
def none {H : Type} : Left H := { results := [], args := [] }

/-- 'viatorlaw36.JournalLimits': WHATEVER THE INPUT: true; the input reads as it did. -/
def journalLimitsSpec : ChangeSpec := { name := "journalLimits", fn := fun _ => fun
  | [d1, d2] => { results := [.lit (.bool true)], args := [d1, d2] }
  | _ => none }
def journalLimitsRow : OpenClaim := { program := "ytgmggmpkbfljfaa", sum := "7f7b137158a80a920e6f0e8ca82a35222ae49d1c34816936ae967a56d6e1268f", func := "viator/viatorlaw36.JournalLimits", spec := "journalLimits", inPlace := ["internal/abi.NoEscape", "internal/bytealg.MakeNoZero"], unfollowed := true, recurses := true, apart := false }
def JournalLimitsSaid : Prop := journalLimitsRow.holds Try.pinned (OpenSpec.ofChange journalLimitsSpec)

/-- ITS FALSE NEIGHBOUR: 'it returns false'. Refute it at one input. -/
def journalLimitsWrong : ChangeSpec := { name := "journalLimits", fn := fun _ => fun
  | [d1, d2] => { results := [.lit (.bool false)], args := [d1, d2] }
  | _ => none }
def JournalLimitsWrongFalsely : Prop := journalLimitsRow.holds Try.pinned (OpenSpec.ofChange journalLimitsWrong)

/-- 'viatorlaw36.JournalFills': WHATEVER THE INPUT: true; the input reads as it did. -/
def journalFillsSpec : ChangeSpec := { name := "journalFills", fn := fun _ => fun
  | [d1, d2] => { results := [.lit (.bool true)], args := [d1, d2] }
  | _ => none }
def journalFillsRow : OpenClaim := { program := "ytgmggmpkbfljfaa", sum := "7f7b137158a80a920e6f0e8ca82a35222ae49d1c34816936ae967a56d6e1268f", func := "viator/viatorlaw36.JournalFills", spec := "journalFills", inPlace := ["internal/abi.NoEscape", "internal/bytealg.MakeNoZero"], unfollowed := true, recurses := true, apart := false }
def JournalFillsSaid : Prop := journalFillsRow.holds Try.pinned (OpenSpec.ofChange journalFillsSpec)

/-- ITS FALSE NEIGHBOUR: 'it returns false'. Refute it at one input. -/
def journalFillsWrong : ChangeSpec := { name := "journalFills", fn := fun _ => fun
  | [d1, d2] => { results := [.lit (.bool false)], args := [d1, d2] }
  | _ => none }
def JournalFillsWrongFalsely : Prop := journalFillsRow.holds Try.pinned (OpenSpec.ofChange journalFillsWrong)

/-- 'viatorlaw36.JournalFormats': WHATEVER THE INPUT: true; the input reads as it did. -/
def journalFormatsSpec : ChangeSpec := { name := "journalFormats", fn := fun _ => fun
  | [d1, d2] => { results := [.lit (.bool true)], args := [d1, d2] }
  | _ => none }
def journalFormatsRow : OpenClaim := { program := "ytgmggmpkbfljfaa", sum := "7f7b137158a80a920e6f0e8ca82a35222ae49d1c34816936ae967a56d6e1268f", func := "viator/viatorlaw36.JournalFormats", spec := "journalFormats", inPlace := ["internal/abi.NoEscape", "internal/bytealg.MakeNoZero"], unfollowed := true, recurses := true, apart := false }
def JournalFormatsSaid : Prop := journalFormatsRow.holds Try.pinned (OpenSpec.ofChange journalFormatsSpec)

/-- ITS FALSE NEIGHBOUR: 'it returns false'. Refute it at one input. -/
def journalFormatsWrong : ChangeSpec := { name := "journalFormats", fn := fun _ => fun
  | [d1, d2] => { results := [.lit (.bool false)], args := [d1, d2] }
  | _ => none }
def JournalFormatsWrongFalsely : Prop := journalFormatsRow.holds Try.pinned (OpenSpec.ofChange journalFormatsWrong)

/-- 'viatorlaw36.JournalEmpty': WHATEVER THE INPUT: true; the input reads as it did. -/
def journalEmptySpec : ChangeSpec := { name := "journalEmpty", fn := fun _ => fun
  | [d] => { results := [.lit (.bool true)], args := [d] }
  | _ => none }
def journalEmptyRow : OpenClaim := { program := "ytgmggmpkbfljfaa", sum := "7f7b137158a80a920e6f0e8ca82a35222ae49d1c34816936ae967a56d6e1268f", func := "viator/viatorlaw36.JournalEmpty", spec := "journalEmpty", inPlace := ["internal/abi.NoEscape", "internal/bytealg.MakeNoZero"], unfollowed := true, recurses := true, apart := false }
def JournalEmptySaid : Prop := journalEmptyRow.holds Try.pinned (OpenSpec.ofChange journalEmptySpec)

/-- ITS FALSE NEIGHBOUR: 'it returns false'. Refute it at one input. -/
def journalEmptyWrong : ChangeSpec := { name := "journalEmpty", fn := fun _ => fun
  | [d] => { results := [.lit (.bool false)], args := [d] }
  | _ => none }
def JournalEmptyWrongFalsely : Prop := journalEmptyRow.holds Try.pinned (OpenSpec.ofChange journalEmptyWrong)

/-- 'viatorlaw36.JournalRuns': WHATEVER THE INPUT: true; the input reads as it did. -/
def journalRunsSpec : ChangeSpec := { name := "journalRuns", fn := fun _ => fun
  | [d1, d2] => { results := [.lit (.bool true)], args := [d1, d2] }
  | _ => none }
def journalRunsRow : OpenClaim := { program := "ytgmggmpkbfljfaa", sum := "7f7b137158a80a920e6f0e8ca82a35222ae49d1c34816936ae967a56d6e1268f", func := "viator/viatorlaw36.JournalRuns", spec := "journalRuns", inPlace := ["internal/abi.NoEscape", "internal/bytealg.MakeNoZero"], unfollowed := true, recurses := true, apart := false }
def JournalRunsSaid : Prop := journalRunsRow.holds Try.pinned (OpenSpec.ofChange journalRunsSpec)

/-- ITS FALSE NEIGHBOUR: 'it returns false'. Refute it at one input. -/
def journalRunsWrong : ChangeSpec := { name := "journalRuns", fn := fun _ => fun
  | [d1, d2] => { results := [.lit (.bool false)], args := [d1, d2] }
  | _ => none }
def JournalRunsWrongFalsely : Prop := journalRunsRow.holds Try.pinned (OpenSpec.ofChange journalRunsWrong)

/-- 'viatorlaw36.JournalReopens': WHATEVER THE INPUT: true; the input reads as it did. -/
def journalReopensSpec : ChangeSpec := { name := "journalReopens", fn := fun _ => fun
  | [d1, d2] => { results := [.lit (.bool true)], args := [d1, d2] }
  | _ => none }
def journalReopensRow : OpenClaim := { program := "ytgmggmpkbfljfaa", sum := "7f7b137158a80a920e6f0e8ca82a35222ae49d1c34816936ae967a56d6e1268f", func := "viator/viatorlaw36.JournalReopens", spec := "journalReopens", inPlace := ["internal/abi.NoEscape", "internal/bytealg.MakeNoZero"], unfollowed := true, recurses := true, apart := false }
def JournalReopensSaid : Prop := journalReopensRow.holds Try.pinned (OpenSpec.ofChange journalReopensSpec)

/-- ITS FALSE NEIGHBOUR: 'it returns false'. Refute it at one input. -/
def journalReopensWrong : ChangeSpec := { name := "journalReopens", fn := fun _ => fun
  | [d1, d2] => { results := [.lit (.bool false)], args := [d1, d2] }
  | _ => none }
def JournalReopensWrongFalsely : Prop := journalReopensRow.holds Try.pinned (OpenSpec.ofChange journalReopensWrong)

/-- 'viatorlaw36.JournalNil': WHATEVER THE INPUT: true; the input reads as it did. -/
def journalNilSpec : ChangeSpec := { name := "journalNil", fn := fun _ => fun
  | [d1, d2] => { results := [.lit (.bool true)], args := [d1, d2] }
  | _ => none }
def journalNilRow : OpenClaim := { program := "ytgmggmpkbfljfaa", sum := "7f7b137158a80a920e6f0e8ca82a35222ae49d1c34816936ae967a56d6e1268f", func := "viator/viatorlaw36.JournalNil", spec := "journalNil", inPlace := ["internal/abi.NoEscape", "internal/bytealg.MakeNoZero"], unfollowed := true, recurses := true, apart := false }
def JournalNilSaid : Prop := journalNilRow.holds Try.pinned (OpenSpec.ofChange journalNilSpec)

/-- ITS FALSE NEIGHBOUR: 'it returns false'. Refute it at one input. -/
def journalNilWrong : ChangeSpec := { name := "journalNil", fn := fun _ => fun
  | [d1, d2] => { results := [.lit (.bool false)], args := [d1, d2] }
  | _ => none }
def JournalNilWrongFalsely : Prop := journalNilRow.holds Try.pinned (OpenSpec.ofChange journalNilWrong)

/-- 'viatorlaw36.JournalSurvives': WHATEVER THE INPUT: true; the input reads as it did. -/
def journalSurvivesSpec : ChangeSpec := { name := "journalSurvives", fn := fun _ => fun
  | [d1, d2, d3] => { results := [.lit (.bool true)], args := [d1, d2, d3] }
  | _ => none }
def journalSurvivesRow : OpenClaim := { program := "ytgmggmpkbfljfaa", sum := "7f7b137158a80a920e6f0e8ca82a35222ae49d1c34816936ae967a56d6e1268f", func := "viator/viatorlaw36.JournalSurvives", spec := "journalSurvives", inPlace := ["internal/abi.NoEscape", "internal/bytealg.MakeNoZero"], unfollowed := true, recurses := true, apart := false }
def JournalSurvivesSaid : Prop := journalSurvivesRow.holds Try.pinned (OpenSpec.ofChange journalSurvivesSpec)

/-- ITS FALSE NEIGHBOUR: 'it returns false'. Refute it at one input. -/
def journalSurvivesWrong : ChangeSpec := { name := "journalSurvives", fn := fun _ => fun
  | [d1, d2, d3] => { results := [.lit (.bool false)], args := [d1, d2, d3] }
  | _ => none }
def JournalSurvivesWrongFalsely : Prop := journalSurvivesRow.holds Try.pinned (OpenSpec.ofChange journalSurvivesWrong)

/- THE SECOND FORM. 'bulk': how many values and letters a reading holds, each counted each time it is reached (what is shared counts as often as it is met; a slice's spare places count too). A statement '..UptoSaid' is the law's where the arguments, and the package variables that the reading takes, are together of bulk at most 1048576: NARROWER than '..Said'. Prove '..Said' where nothing that the law and all that it calls make is longer than what came in: it says more and counts as full. Else prove '..UptoSaid'. A law counts once. -/
mutual
def uptoBulk {H : Type} : DataW H → Nat
  | .lit (.string bytes) => bytes.length + 1
  | .lit _ => 1
  | .nil => 1
  | .ptr d => uptoBulk d + 1
  | .slice elems spare => uptoBulkAll elems + uptoBulkAll spare + 1
  | .agg parts => uptoBulkAll parts + 1
  | .iface _ d => uptoBulk d + 1
  | .map entries => uptoBulkEntries entries + 1
  | .held _ => 1
def uptoBulkAll {H : Type} : List (DataW H) → Nat
  | [] => 0
  | d :: r => uptoBulk d + uptoBulkAll r
def uptoBulkEntries {H : Type} : List (Lit × DataW H) → Nat
  | [] => 0
  | x :: r => uptoBulkEntry x + uptoBulkEntries r
def uptoBulkEntry {H : Type} : Lit × DataW H → Nat
  | (.string bytes, d) => bytes.length + uptoBulk d + 1
  | (_, d) => uptoBulk d + 1
 end
def uptoSmall : (H : Type) → List (DataW H) → Bool := fun _ ds => decide (uptoBulkAll ds ≤ 1048576)
def OpenSpec.upto (s : _root_.Go.ChangeSpec) : _root_.Go.OpenSpec := { _root_.Go.OpenSpec.ofChange s with cond := some uptoSmall }

/-- 'viatorlaw36.JournalLimits', WHERE WHAT IT READS IS OF BULK AT MOST 1048576: true; the input reads as it did. -/
def journalLimitsUptoRow : OpenClaim := { program := "ytgmggmpkbfljfaa", sum := "7f7b137158a80a920e6f0e8ca82a35222ae49d1c34816936ae967a56d6e1268f", func := "viator/viatorlaw36.JournalLimits", spec := "journalLimits", inPlace := ["internal/abi.NoEscape", "internal/bytealg.MakeNoZero"], unfollowed := true, recurses := true, apart := false, narrowed := true }
def JournalLimitsUptoSaid : Prop := journalLimitsUptoRow.holds Try.pinned (OpenSpec.upto journalLimitsSpec)

/-- 'viatorlaw36.JournalFills', WHERE WHAT IT READS IS OF BULK AT MOST 1048576: true; the input reads as it did. -/
def journalFillsUptoRow : OpenClaim := { program := "ytgmggmpkbfljfaa", sum := "7f7b137158a80a920e6f0e8ca82a35222ae49d1c34816936ae967a56d6e1268f", func := "viator/viatorlaw36.JournalFills", spec := "journalFills", inPlace := ["internal/abi.NoEscape", "internal/bytealg.MakeNoZero"], unfollowed := true, recurses := true, apart := false, narrowed := true }
def JournalFillsUptoSaid : Prop := journalFillsUptoRow.holds Try.pinned (OpenSpec.upto journalFillsSpec)

/-- 'viatorlaw36.JournalFormats', WHERE WHAT IT READS IS OF BULK AT MOST 1048576: true; the input reads as it did. -/
def journalFormatsUptoRow : OpenClaim := { program := "ytgmggmpkbfljfaa", sum := "7f7b137158a80a920e6f0e8ca82a35222ae49d1c34816936ae967a56d6e1268f", func := "viator/viatorlaw36.JournalFormats", spec := "journalFormats", inPlace := ["internal/abi.NoEscape", "internal/bytealg.MakeNoZero"], unfollowed := true, recurses := true, apart := false, narrowed := true }
def JournalFormatsUptoSaid : Prop := journalFormatsUptoRow.holds Try.pinned (OpenSpec.upto journalFormatsSpec)

/-- 'viatorlaw36.JournalEmpty', WHERE WHAT IT READS IS OF BULK AT MOST 1048576: true; the input reads as it did. -/
def journalEmptyUptoRow : OpenClaim := { program := "ytgmggmpkbfljfaa", sum := "7f7b137158a80a920e6f0e8ca82a35222ae49d1c34816936ae967a56d6e1268f", func := "viator/viatorlaw36.JournalEmpty", spec := "journalEmpty", inPlace := ["internal/abi.NoEscape", "internal/bytealg.MakeNoZero"], unfollowed := true, recurses := true, apart := false, narrowed := true }
def JournalEmptyUptoSaid : Prop := journalEmptyUptoRow.holds Try.pinned (OpenSpec.upto journalEmptySpec)

/-- 'viatorlaw36.JournalRuns', WHERE WHAT IT READS IS OF BULK AT MOST 1048576: true; the input reads as it did. -/
def journalRunsUptoRow : OpenClaim := { program := "ytgmggmpkbfljfaa", sum := "7f7b137158a80a920e6f0e8ca82a35222ae49d1c34816936ae967a56d6e1268f", func := "viator/viatorlaw36.JournalRuns", spec := "journalRuns", inPlace := ["internal/abi.NoEscape", "internal/bytealg.MakeNoZero"], unfollowed := true, recurses := true, apart := false, narrowed := true }
def JournalRunsUptoSaid : Prop := journalRunsUptoRow.holds Try.pinned (OpenSpec.upto journalRunsSpec)

/-- 'viatorlaw36.JournalReopens', WHERE WHAT IT READS IS OF BULK AT MOST 1048576: true; the input reads as it did. -/
def journalReopensUptoRow : OpenClaim := { program := "ytgmggmpkbfljfaa", sum := "7f7b137158a80a920e6f0e8ca82a35222ae49d1c34816936ae967a56d6e1268f", func := "viator/viatorlaw36.JournalReopens", spec := "journalReopens", inPlace := ["internal/abi.NoEscape", "internal/bytealg.MakeNoZero"], unfollowed := true, recurses := true, apart := false, narrowed := true }
def JournalReopensUptoSaid : Prop := journalReopensUptoRow.holds Try.pinned (OpenSpec.upto journalReopensSpec)

/-- 'viatorlaw36.JournalNil', WHERE WHAT IT READS IS OF BULK AT MOST 1048576: true; the input reads as it did. -/
def journalNilUptoRow : OpenClaim := { program := "ytgmggmpkbfljfaa", sum := "7f7b137158a80a920e6f0e8ca82a35222ae49d1c34816936ae967a56d6e1268f", func := "viator/viatorlaw36.JournalNil", spec := "journalNil", inPlace := ["internal/abi.NoEscape", "internal/bytealg.MakeNoZero"], unfollowed := true, recurses := true, apart := false, narrowed := true }
def JournalNilUptoSaid : Prop := journalNilUptoRow.holds Try.pinned (OpenSpec.upto journalNilSpec)

/-- 'viatorlaw36.JournalSurvives', WHERE WHAT IT READS IS OF BULK AT MOST 1048576: true; the input reads as it did. -/
def journalSurvivesUptoRow : OpenClaim := { program := "ytgmggmpkbfljfaa", sum := "7f7b137158a80a920e6f0e8ca82a35222ae49d1c34816936ae967a56d6e1268f", func := "viator/viatorlaw36.JournalSurvives", spec := "journalSurvives", inPlace := ["internal/abi.NoEscape", "internal/bytealg.MakeNoZero"], unfollowed := true, recurses := true, apart := false, narrowed := true }
def JournalSurvivesUptoSaid : Prop := journalSurvivesUptoRow.holds Try.pinned (OpenSpec.upto journalSurvivesSpec)

end Rows
end Go.Proofs.Ytgmggmpkbfljfaa
