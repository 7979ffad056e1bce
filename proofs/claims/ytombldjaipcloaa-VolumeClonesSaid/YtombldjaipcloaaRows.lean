/-
  No cell of these rows narrows 'for every input' (looked for: loops, veiled, ifaces, maps, wideKeys, modest, calm, conditions, laid).
  DERIVED. THE GIVEN ROWS OF THIS SEAT. 10 by the template 'for every input the law returns true; each argument reads behind the call as it read before'; 0 by the template 'total and deterministic' (their statements: YtombldjaipcloaaTotals.lean).
  GIVEN WITH THE SEED: the statements are not yours to turn. If you find one false, say at which input.
  Laid BY PROGRAM, IN A SANDBOX (cutbox-rows.mjs): the forced cells as the released guide's own fill.sh prints them over the translation 761519ff64489674… (all of the seat's roots in one cut). By AI agents, Wed Nov 11 2026. No macro, syntax, notation, axiom, sorry.
-/
import Derived.Test.YtombldjaipcloaaChecked
import GoSem.Claim
import GoSem.ClaimJoined
import GoSem.ClaimMapViews
import Derived.JoinedTies
import Derived.KernelRfl
namespace Go.Proofs.Ytombldjaipcloaa
/- THE CELL 'sum', in the pinned program and in every row, IS THE sha256 OF THE DUMP (.gsa) THAT YtombldjaipcloaaProg.lean LOADS. Nothing in Lean hashes anything: it is a label: what it is worth is what the hold of that sum in a sandbox is worth. -/
noncomputable def Try.pinned : Pinned := { name := "ytombldjaipcloaa", sum := "761519ff644896742640173d950dc3d517f797d143478334a0c30bcea8b594ad", checked := Try.checked }
namespace Rows
def none {H : Type} : Left H := { results := [], args := [] }

/-- 'viatorlaw35.VolumeSurvives': WHATEVER THE INPUT: true; the input reads as it did. -/
def volumeSurvivesSpec : ChangeSpec := { name := "volumeSurvives", fn := fun _ => fun
  | [d1, d2, d3] => { results := [.lit (.bool true)], args := [d1, d2, d3] }
  | _ => none }
def volumeSurvivesRow : OpenClaim := { program := "ytombldjaipcloaa", sum := "761519ff644896742640173d950dc3d517f797d143478334a0c30bcea8b594ad", func := "viator/viatorlaw35.VolumeSurvives", spec := "volumeSurvives", inPlace := ["internal/abi.NoEscape"], unfollowed := true, recurses := true, apart := false }
def VolumeSurvivesSaid : Prop := volumeSurvivesRow.holds Try.pinned (OpenSpec.ofChange volumeSurvivesSpec)

/-- ITS FALSE NEIGHBOUR: 'it returns false'. Refute it at one input. -/
def volumeSurvivesWrong : ChangeSpec := { name := "volumeSurvives", fn := fun _ => fun
  | [d1, d2, d3] => { results := [.lit (.bool false)], args := [d1, d2, d3] }
  | _ => none }
def VolumeSurvivesWrongFalsely : Prop := volumeSurvivesRow.holds Try.pinned (OpenSpec.ofChange volumeSurvivesWrong)

/-- 'viatorlaw35.VolumeScripts': WHATEVER THE INPUT: true; the input reads as it did. -/
def volumeScriptsSpec : ChangeSpec := { name := "volumeScripts", fn := fun _ => fun
  | [d1, d2, d3] => { results := [.lit (.bool true)], args := [d1, d2, d3] }
  | _ => none }
def volumeScriptsRow : OpenClaim := { program := "ytombldjaipcloaa", sum := "761519ff644896742640173d950dc3d517f797d143478334a0c30bcea8b594ad", func := "viator/viatorlaw35.VolumeScripts", spec := "volumeScripts", inPlace := ["internal/abi.NoEscape"], unfollowed := true, recurses := true, apart := false }
def VolumeScriptsSaid : Prop := volumeScriptsRow.holds Try.pinned (OpenSpec.ofChange volumeScriptsSpec)

/-- ITS FALSE NEIGHBOUR: 'it returns false'. Refute it at one input. -/
def volumeScriptsWrong : ChangeSpec := { name := "volumeScripts", fn := fun _ => fun
  | [d1, d2, d3] => { results := [.lit (.bool false)], args := [d1, d2, d3] }
  | _ => none }
def VolumeScriptsWrongFalsely : Prop := volumeScriptsRow.holds Try.pinned (OpenSpec.ofChange volumeScriptsWrong)

/-- 'viatorlaw35.VolumeLimits': WHATEVER THE INPUT: true; the input reads as it did. -/
def volumeLimitsSpec : ChangeSpec := { name := "volumeLimits", fn := fun _ => fun
  | [d1, d2, d3] => { results := [.lit (.bool true)], args := [d1, d2, d3] }
  | _ => none }
def volumeLimitsRow : OpenClaim := { program := "ytombldjaipcloaa", sum := "761519ff644896742640173d950dc3d517f797d143478334a0c30bcea8b594ad", func := "viator/viatorlaw35.VolumeLimits", spec := "volumeLimits", inPlace := ["internal/abi.NoEscape"], unfollowed := true, recurses := true, apart := false }
def VolumeLimitsSaid : Prop := volumeLimitsRow.holds Try.pinned (OpenSpec.ofChange volumeLimitsSpec)

/-- ITS FALSE NEIGHBOUR: 'it returns false'. Refute it at one input. -/
def volumeLimitsWrong : ChangeSpec := { name := "volumeLimits", fn := fun _ => fun
  | [d1, d2, d3] => { results := [.lit (.bool false)], args := [d1, d2, d3] }
  | _ => none }
def VolumeLimitsWrongFalsely : Prop := volumeLimitsRow.holds Try.pinned (OpenSpec.ofChange volumeLimitsWrong)

/-- 'viatorlaw35.VolumeFills': WHATEVER THE INPUT: true; the input reads as it did. -/
def volumeFillsSpec : ChangeSpec := { name := "volumeFills", fn := fun _ => fun
  | [d1, d2, d3] => { results := [.lit (.bool true)], args := [d1, d2, d3] }
  | _ => none }
def volumeFillsRow : OpenClaim := { program := "ytombldjaipcloaa", sum := "761519ff644896742640173d950dc3d517f797d143478334a0c30bcea8b594ad", func := "viator/viatorlaw35.VolumeFills", spec := "volumeFills", inPlace := ["internal/abi.NoEscape"], unfollowed := true, recurses := true, apart := false }
def VolumeFillsSaid : Prop := volumeFillsRow.holds Try.pinned (OpenSpec.ofChange volumeFillsSpec)

/-- ITS FALSE NEIGHBOUR: 'it returns false'. Refute it at one input. -/
def volumeFillsWrong : ChangeSpec := { name := "volumeFills", fn := fun _ => fun
  | [d1, d2, d3] => { results := [.lit (.bool false)], args := [d1, d2, d3] }
  | _ => none }
def VolumeFillsWrongFalsely : Prop := volumeFillsRow.holds Try.pinned (OpenSpec.ofChange volumeFillsWrong)

/-- 'viatorlaw35.VolumeBarriers': WHATEVER THE INPUT: true; the input reads as it did. -/
def volumeBarriersSpec : ChangeSpec := { name := "volumeBarriers", fn := fun _ => fun
  | [d1, d2, d3] => { results := [.lit (.bool true)], args := [d1, d2, d3] }
  | _ => none }
def volumeBarriersRow : OpenClaim := { program := "ytombldjaipcloaa", sum := "761519ff644896742640173d950dc3d517f797d143478334a0c30bcea8b594ad", func := "viator/viatorlaw35.VolumeBarriers", spec := "volumeBarriers", inPlace := ["internal/abi.NoEscape"], unfollowed := true, recurses := true, apart := false }
def VolumeBarriersSaid : Prop := volumeBarriersRow.holds Try.pinned (OpenSpec.ofChange volumeBarriersSpec)

/-- ITS FALSE NEIGHBOUR: 'it returns false'. Refute it at one input. -/
def volumeBarriersWrong : ChangeSpec := { name := "volumeBarriers", fn := fun _ => fun
  | [d1, d2, d3] => { results := [.lit (.bool false)], args := [d1, d2, d3] }
  | _ => none }
def VolumeBarriersWrongFalsely : Prop := volumeBarriersRow.holds Try.pinned (OpenSpec.ofChange volumeBarriersWrong)

/-- 'viatorlaw35.VolumeBlocks': WHATEVER THE INPUT: true; the input reads as it did. -/
def volumeBlocksSpec : ChangeSpec := { name := "volumeBlocks", fn := fun _ => fun
  | [d1, d2, d3] => { results := [.lit (.bool true)], args := [d1, d2, d3] }
  | _ => none }
def volumeBlocksRow : OpenClaim := { program := "ytombldjaipcloaa", sum := "761519ff644896742640173d950dc3d517f797d143478334a0c30bcea8b594ad", func := "viator/viatorlaw35.VolumeBlocks", spec := "volumeBlocks", inPlace := ["internal/abi.NoEscape"], unfollowed := true, recurses := true, apart := false }
def VolumeBlocksSaid : Prop := volumeBlocksRow.holds Try.pinned (OpenSpec.ofChange volumeBlocksSpec)

/-- ITS FALSE NEIGHBOUR: 'it returns false'. Refute it at one input. -/
def volumeBlocksWrong : ChangeSpec := { name := "volumeBlocks", fn := fun _ => fun
  | [d1, d2, d3] => { results := [.lit (.bool false)], args := [d1, d2, d3] }
  | _ => none }
def VolumeBlocksWrongFalsely : Prop := volumeBlocksRow.holds Try.pinned (OpenSpec.ofChange volumeBlocksWrong)

/-- 'viatorlaw35.VolumeMakes': WHATEVER THE INPUT: true; the input reads as it did. -/
def volumeMakesSpec : ChangeSpec := { name := "volumeMakes", fn := fun _ => fun
  | [d] => { results := [.lit (.bool true)], args := [d] }
  | _ => none }
def volumeMakesRow : OpenClaim := { program := "ytombldjaipcloaa", sum := "761519ff644896742640173d950dc3d517f797d143478334a0c30bcea8b594ad", func := "viator/viatorlaw35.VolumeMakes", spec := "volumeMakes", inPlace := ["internal/abi.NoEscape"], unfollowed := true, recurses := true, apart := false }
def VolumeMakesSaid : Prop := volumeMakesRow.holds Try.pinned (OpenSpec.ofChange volumeMakesSpec)

/-- ITS FALSE NEIGHBOUR: 'it returns false'. Refute it at one input. -/
def volumeMakesWrong : ChangeSpec := { name := "volumeMakes", fn := fun _ => fun
  | [d] => { results := [.lit (.bool false)], args := [d] }
  | _ => none }
def VolumeMakesWrongFalsely : Prop := volumeMakesRow.holds Try.pinned (OpenSpec.ofChange volumeMakesWrong)

/-- 'viatorlaw35.VolumeRuns': WHATEVER THE INPUT: true; the input reads as it did. -/
def volumeRunsSpec : ChangeSpec := { name := "volumeRuns", fn := fun _ => fun
  | [d1, d2] => { results := [.lit (.bool true)], args := [d1, d2] }
  | _ => none }
def volumeRunsRow : OpenClaim := { program := "ytombldjaipcloaa", sum := "761519ff644896742640173d950dc3d517f797d143478334a0c30bcea8b594ad", func := "viator/viatorlaw35.VolumeRuns", spec := "volumeRuns", inPlace := ["internal/abi.NoEscape"], unfollowed := true, recurses := true, apart := false }
def VolumeRunsSaid : Prop := volumeRunsRow.holds Try.pinned (OpenSpec.ofChange volumeRunsSpec)

/-- ITS FALSE NEIGHBOUR: 'it returns false'. Refute it at one input. -/
def volumeRunsWrong : ChangeSpec := { name := "volumeRuns", fn := fun _ => fun
  | [d1, d2] => { results := [.lit (.bool false)], args := [d1, d2] }
  | _ => none }
def VolumeRunsWrongFalsely : Prop := volumeRunsRow.holds Try.pinned (OpenSpec.ofChange volumeRunsWrong)

/-- 'viatorlaw35.VolumeClones': WHATEVER THE INPUT: true; the input reads as it did. -/
def volumeClonesSpec : ChangeSpec := { name := "volumeClones", fn := fun _ => fun
  | [d1, d2, d3] => { results := [.lit (.bool true)], args := [d1, d2, d3] }
  | _ => none }
def volumeClonesRow : OpenClaim := { program := "ytombldjaipcloaa", sum := "761519ff644896742640173d950dc3d517f797d143478334a0c30bcea8b594ad", func := "viator/viatorlaw35.VolumeClones", spec := "volumeClones", inPlace := ["internal/abi.NoEscape", "maps.clone"], unfollowed := true, recurses := true, apart := false }
def VolumeClonesSaid : Prop := volumeClonesRow.holds Try.pinned (OpenSpec.ofChange volumeClonesSpec)

/-- ITS FALSE NEIGHBOUR: 'it returns false'. Refute it at one input. -/
def volumeClonesWrong : ChangeSpec := { name := "volumeClones", fn := fun _ => fun
  | [d1, d2, d3] => { results := [.lit (.bool false)], args := [d1, d2, d3] }
  | _ => none }
def VolumeClonesWrongFalsely : Prop := volumeClonesRow.holds Try.pinned (OpenSpec.ofChange volumeClonesWrong)

/-- 'viatorlaw35.VolumeNil': WHATEVER THE INPUT: true; the input reads as it did. -/
def volumeNilSpec : ChangeSpec := { name := "volumeNil", fn := fun _ => fun
  | [d1, d2, d3] => { results := [.lit (.bool true)], args := [d1, d2, d3] }
  | _ => none }
def volumeNilRow : OpenClaim := { program := "ytombldjaipcloaa", sum := "761519ff644896742640173d950dc3d517f797d143478334a0c30bcea8b594ad", func := "viator/viatorlaw35.VolumeNil", spec := "volumeNil", inPlace := ["internal/abi.NoEscape", "maps.clone"], unfollowed := true, recurses := true, apart := false }
def VolumeNilSaid : Prop := volumeNilRow.holds Try.pinned (OpenSpec.ofChange volumeNilSpec)

/-- ITS FALSE NEIGHBOUR: 'it returns false'. Refute it at one input. -/
def volumeNilWrong : ChangeSpec := { name := "volumeNil", fn := fun _ => fun
  | [d1, d2, d3] => { results := [.lit (.bool false)], args := [d1, d2, d3] }
  | _ => none }
def VolumeNilWrongFalsely : Prop := volumeNilRow.holds Try.pinned (OpenSpec.ofChange volumeNilWrong)

/- THE SECOND FORM. 'bulk': how many values and letters a reading holds, each counted each time it is reached (what is shared counts as often as it is met; a slice's spare places count too). A statement '..UptoSaid' is the law's where the arguments, and the package variables that the reading takes, are together of bulk at most 1048576: NARROWER than '..Said'. Prove '..Said' where nothing that the law and all that it calls make is longer than what came in: it says more and counts as full. Else prove '..UptoSaid'. A law counts once. -/
mutual
def uptoBulk {H : Type} : DataW H → Nat
  | .lit (.string bytes) => bytes.length + 1
  | .lit _ => 1
  | .nil => 1
  | .ptr d => uptoBulk d + 1
  | .slice elems spare => uptoBulkAll elems + uptoBulkAll spare + 1
  | .agg parts => uptoBulkAll parts + 1
  | .iface _ d => uptoBulk d + 1
  | .map entries => uptoBulkEntries entries + 1
  | .held _ => 1
def uptoBulkAll {H : Type} : List (DataW H) → Nat
  | [] => 0
  | d :: r => uptoBulk d + uptoBulkAll r
def uptoBulkEntries {H : Type} : List (Lit × DataW H) → Nat
  | [] => 0
  | x :: r => uptoBulkEntry x + uptoBulkEntries r
def uptoBulkEntry {H : Type} : Lit × DataW H → Nat
  | (.string bytes, d) => bytes.length + uptoBulk d + 1
  | (_, d) => uptoBulk d + 1
 end
def uptoSmall : (H : Type) → List (DataW H) → Bool := fun _ ds => decide (uptoBulkAll ds ≤ 1048576)
def OpenSpec.upto (s : _root_.Go.ChangeSpec) : _root_.Go.OpenSpec := { _root_.Go.OpenSpec.ofChange s with cond := some uptoSmall }

/-- 'viatorlaw35.VolumeSurvives', WHERE WHAT IT READS IS OF BULK AT MOST 1048576: true; the input reads as it did. -/
def volumeSurvivesUptoRow : OpenClaim := { program := "ytombldjaipcloaa", sum := "761519ff644896742640173d950dc3d517f797d143478334a0c30bcea8b594ad", func := "viator/viatorlaw35.VolumeSurvives", spec := "volumeSurvives", inPlace := ["internal/abi.NoEscape"], unfollowed := true, recurses := true, apart := false, narrowed := true }
def VolumeSurvivesUptoSaid : Prop := volumeSurvivesUptoRow.holds Try.pinned (OpenSpec.upto volumeSurvivesSpec)

/-- 'viatorlaw35.VolumeScripts', WHERE WHAT IT READS IS OF BULK AT MOST 1048576: true; the input reads as it did. -/
def volumeScriptsUptoRow : OpenClaim := { program := "ytombldjaipcloaa", sum := "761519ff644896742640173d950dc3d517f797d143478334a0c30bcea8b594ad", func := "viator/viatorlaw35.VolumeScripts", spec := "volumeScripts", inPlace := ["internal/abi.NoEscape"], unfollowed := true, recurses := true, apart := false, narrowed := true }
def VolumeScriptsUptoSaid : Prop := volumeScriptsUptoRow.holds Try.pinned (OpenSpec.upto volumeScriptsSpec)

/-- 'viatorlaw35.VolumeLimits', WHERE WHAT IT READS IS OF BULK AT MOST 1048576: true; the input reads as it did. -/
def volumeLimitsUptoRow : OpenClaim := { program := "ytombldjaipcloaa", sum := "761519ff644896742640173d950dc3d517f797d143478334a0c30bcea8b594ad", func := "viator/viatorlaw35.VolumeLimits", spec := "volumeLimits", inPlace := ["internal/abi.NoEscape"], unfollowed := true, recurses := true, apart := false, narrowed := true }
def VolumeLimitsUptoSaid : Prop := volumeLimitsUptoRow.holds Try.pinned (OpenSpec.upto volumeLimitsSpec)

/-- 'viatorlaw35.VolumeFills', WHERE WHAT IT READS IS OF BULK AT MOST 1048576: true; the input reads as it did. -/
def volumeFillsUptoRow : OpenClaim := { program := "ytombldjaipcloaa", sum := "761519ff644896742640173d950dc3d517f797d143478334a0c30bcea8b594ad", func := "viator/viatorlaw35.VolumeFills", spec := "volumeFills", inPlace := ["internal/abi.NoEscape"], unfollowed := true, recurses := true, apart := false, narrowed := true }
def VolumeFillsUptoSaid : Prop := volumeFillsUptoRow.holds Try.pinned (OpenSpec.upto volumeFillsSpec)

/-- 'viatorlaw35.VolumeBarriers', WHERE WHAT IT READS IS OF BULK AT MOST 1048576: true; the input reads as it did. -/
def volumeBarriersUptoRow : OpenClaim := { program := "ytombldjaipcloaa", sum := "761519ff644896742640173d950dc3d517f797d143478334a0c30bcea8b594ad", func := "viator/viatorlaw35.VolumeBarriers", spec := "volumeBarriers", inPlace := ["internal/abi.NoEscape"], unfollowed := true, recurses := true, apart := false, narrowed := true }
def VolumeBarriersUptoSaid : Prop := volumeBarriersUptoRow.holds Try.pinned (OpenSpec.upto volumeBarriersSpec)

/-- 'viatorlaw35.VolumeBlocks', WHERE WHAT IT READS IS OF BULK AT MOST 1048576: true; the input reads as it did. -/
def volumeBlocksUptoRow : OpenClaim := { program := "ytombldjaipcloaa", sum := "761519ff644896742640173d950dc3d517f797d143478334a0c30bcea8b594ad", func := "viator/viatorlaw35.VolumeBlocks", spec := "volumeBlocks", inPlace := ["internal/abi.NoEscape"], unfollowed := true, recurses := true, apart := false, narrowed := true }
def VolumeBlocksUptoSaid : Prop := volumeBlocksUptoRow.holds Try.pinned (OpenSpec.upto volumeBlocksSpec)

/-- 'viatorlaw35.VolumeMakes', WHERE WHAT IT READS IS OF BULK AT MOST 1048576: true; the input reads as it did. -/
def volumeMakesUptoRow : OpenClaim := { program := "ytombldjaipcloaa", sum := "761519ff644896742640173d950dc3d517f797d143478334a0c30bcea8b594ad", func := "viator/viatorlaw35.VolumeMakes", spec := "volumeMakes", inPlace := ["internal/abi.NoEscape"], unfollowed := true, recurses := true, apart := false, narrowed := true }
def VolumeMakesUptoSaid : Prop := volumeMakesUptoRow.holds Try.pinned (OpenSpec.upto volumeMakesSpec)

/-- 'viatorlaw35.VolumeRuns', WHERE WHAT IT READS IS OF BULK AT MOST 1048576: true; the input reads as it did. -/
def volumeRunsUptoRow : OpenClaim := { program := "ytombldjaipcloaa", sum := "761519ff644896742640173d950dc3d517f797d143478334a0c30bcea8b594ad", func := "viator/viatorlaw35.VolumeRuns", spec := "volumeRuns", inPlace := ["internal/abi.NoEscape"], unfollowed := true, recurses := true, apart := false, narrowed := true }
def VolumeRunsUptoSaid : Prop := volumeRunsUptoRow.holds Try.pinned (OpenSpec.upto volumeRunsSpec)

/-- 'viatorlaw35.VolumeClones', WHERE WHAT IT READS IS OF BULK AT MOST 1048576: true; the input reads as it did. -/
def volumeClonesUptoRow : OpenClaim := { program := "ytombldjaipcloaa", sum := "761519ff644896742640173d950dc3d517f797d143478334a0c30bcea8b594ad", func := "viator/viatorlaw35.VolumeClones", spec := "volumeClones", inPlace := ["internal/abi.NoEscape", "maps.clone"], unfollowed := true, recurses := true, apart := false, narrowed := true }
def VolumeClonesUptoSaid : Prop := volumeClonesUptoRow.holds Try.pinned (OpenSpec.upto volumeClonesSpec)

/-- 'viatorlaw35.VolumeNil', WHERE WHAT IT READS IS OF BULK AT MOST 1048576: true; the input reads as it did. -/
def volumeNilUptoRow : OpenClaim := { program := "ytombldjaipcloaa", sum := "761519ff644896742640173d950dc3d517f797d143478334a0c30bcea8b594ad", func := "viator/viatorlaw35.VolumeNil", spec := "volumeNil", inPlace := ["internal/abi.NoEscape", "maps.clone"], unfollowed := true, recurses := true, apart := false, narrowed := true }
def VolumeNilUptoSaid : Prop := volumeNilUptoRow.holds Try.pinned (OpenSpec.upto volumeNilSpec)

end Rows
end Go.Proofs.Ytombldjaipcloaa
