/- Start at a device that is up, and Pending. -/
import Derived.Test.YtgmggmpkbfljfaaX
set_option linter.unusedVariables false
set_option linter.unusedSimpArgs false
set_option maxRecDepth 100000
namespace Go.Proofs.Ytgmggmpkbfljfaa
open Go.RowKit

theorem start_up (w : World) (b mb : Nat) (pv sv : Value) (v : Vol) (h : VolAt w b mb pv v) (hd : v.down = false) :
    Calls Try.prog 38 #[.pointer (some ⟨b, 0, none⟩), sv] w fun e w' => e = .returned (.tuple #[]) ∧ w = w' := by
  have hc := cell_of h.blk
  simp only [vcells, hd] at hc
  clear h hd
  go_enter Try.func38, Try.ntmps38
  go_wp2
  go_returns
  exact ⟨rfl, rfl⟩
theorem start_n (w : World) (sv : Value) : Calls Try.prog 38 #[.pointer none, sv] w fun e w' => e = .returned (.tuple #[]) ∧ w = w' := by
  go_enter Try.func38, Try.ntmps38
  go_wp2
  go_returns
  exact ⟨rfl, rfl⟩
theorem start_c (w : World) (b mb : Nat) (pv : Value) (v : Vol) (sv : Value) (zs : List Nat) (h : VolAt w b mb pv v) (hr : ∀ p ∈ v.pend, 0 ≤ p.1 ∧ p.1 < v.sectors) (hz : ByteRow w sv zs) (hzl : zs.length ≤ 140737488355328) (hlen : v.pend.length ≤ 4096) :
    Calls Try.prog 38 #[.pointer (some ⟨b, 0, none⟩), sv] w fun e w' => e = .returned (.tuple #[]) ∧ VolTo w b mb pv (vStart v zs) w' := by
  cases hd : v.down
  · refine (start_up w b mb pv sv v h hd).mono ?_
    rintro e w' ⟨rfl, rfl⟩
    exact ⟨rfl, by unfold vStart; rw [hd]; exact h.here⟩
  · exact start_ok w b mb pv v sv zs h hd hr hz hzl hlen

end Go.Proofs.Ytgmggmpkbfljfaa
