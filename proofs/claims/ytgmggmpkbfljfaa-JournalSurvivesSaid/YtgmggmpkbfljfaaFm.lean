/- Format. -/
import Derived.Test.YtgmggmpkbfljfaaCm
import Derived.Test.YtgmggmpkbfljfaaTa
set_option linter.unusedVariables false
set_option linter.unusedSimpArgs false
set_option maxRecDepth 100000
namespace Go.Proofs.Ytgmggmpkbfljfaa
open Go.RowKit
def jFormat (v : Vol) : Int × Vol := if jCheck v ≠ 0 then (jCheck v, v) else jW v ⟨((pgTo v 2).getD pg0).g + 1, 1, 0, 0⟩
/-- What can be read of the first sectors. -/
def ReadFit (v : Vol) : Prop := ∀ k : Nat, k < 2 → (vRead v k).1.size ≤ 1000 ∧ (isPg (vRead v k).1 = true → pgFit (pgAt (vRead v k).1))
set_option maxHeartbeats 2000000 in
theorem format_m (b mb : Nat) (v : Vol) (hf : ReadFit v) (hl : v.pend.length ≤ 2000) (hg : ((pgTo v 2).getD pg0).g ≤ 1000000) :
    Met Try.prog 27 #[.pointer (some ⟨b, 0, none⟩)] (.int .i64 (jFormat v).1) (VolH b mb v) (VolH b mb (jFormat v).2) := by
  rintro w F hF
  have hF0 := hF
  obtain ⟨pv, hv, hFe⟩ := hF
  have HC := Lib.hid (jcheck_c w b mb pv v hv)
  have HF := Lib.hid hF0
  by_cases hck : jCheck v = 0
  · have hd : v.down = false ∧ 2 < v.sectors := by
      unfold jCheck at hck
      cases hdn : v.down
      · rw [hdn] at hck
        refine ⟨rfl, ?_⟩
        by_cases h2 : v.sectors ≤ 2
        · rw [if_neg (by decide), if_pos h2] at hck; cases hck
        · omega
      · rw [hdn, if_pos rfl] at hck; cases hck
    have HN := Lib.hid (newest_c w b mb pv v hv (by omega) hd.1 (by omega) hf)
    have hst : jFormat v = jW v ⟨((pgTo v 2).getD pg0).g + 1, 1, 0, 0⟩ := by unfold jFormat; rw [if_neg (by simp [hck])]
    rw [hst]
    rw [hck] at HC
    clear hst hck hd hv hFe hF0 hf
    generalize (pgTo v 2).getD pg0 = q at *
    generalize (pgTo v 2).isSome = ok at *
    obtain ⟨qg, qf, qp, qk⟩ := q
    dsimp only at hg
    unfold pgA at HN
    dsimp only at HN ⊢
    go_enter Try.func27, Try.ntmps27
    go_wp2_with fail
    refine HC.out.mono ?_
    rintro e w' ⟨rfl, rfl⟩
    go_wp2_with fail
    refine HN.out.mono ?_
    rintro e w1 ⟨rfl, hk1⟩
    have Hk1 := Lib.hid hk1
    clear hk1
    go_wp2_with fail
    have hq1 : ((qg : Int) + 1) = ((qg + 1 : Nat) : Int) := by omega
    rw [hq1]
    have Hk2 := Lib.hid (Hk1.out.trans0 (Keep.alloc [] w1 (.cells #[.int .i64 qg, .int .i64 qf, .int .i64 qp, .int .i64 qk] 73)))
    have HW := Lib.hid (jwrite_m b mb v ⟨qg + 1, 1, 0, 0⟩ ⟨by dsimp only; omega, by dsimp only; omega, by dsimp only; omega, by dsimp only; omega⟩ (by omega) _ F ((volH_stab b mb v).keep HF.out Hk2.out (by simp)))
    generalize hjw : jW v ⟨qg + 1, 1, 0, 0⟩ = r at *
    have Hjw := Lib.hid hjw
    clear hjw
    obtain ⟨e1, v1⟩ := r
    dsimp only at HW
    refine HW.out.mono ?_
    rintro e w3 ⟨rfl, ht3⟩
    dsimp only
    have Ht3 := Lib.hid ht3
    clear ht3
    go_wp2_with fail
    go_ret
    rw [Hjw.out]
    exact ⟨rfl, Ht3.out.from (Hk2.out.mono (by simp))⟩
  · have hst : jFormat v = (jCheck v, v) := by unfold jFormat; rw [if_pos hck]
    rw [hst]
    have hne : (jCheck v != 0) = true := by rw [bne_iff_ne]; exact hck
    clear hst hck hv hFe hF0 hf
    generalize jCheck v = ck at *
    go_enter Try.func27, Try.ntmps27
    go_wp2_with fail
    refine HC.out.mono ?_
    rintro e w' ⟨rfl, rfl⟩
    go_wp2_with fail
    go_ret
    exact ⟨rfl, To.refl HF.out⟩
theorem format_n (w : World) : Calls Try.prog 27 #[.pointer none] w fun e w' => e = .returned (.int .i64 1) ∧ w' = w := by
  go_enter Try.func27, Try.ntmps27
  go_wp2_with fail
  refine (jcheck_n _).mono ?_
  rintro e w' ⟨rfl, rfl⟩
  go_wp2_with fail
  go_ret
  exact ⟨rfl, rfl⟩
theorem open_n (w : World) : Calls Try.prog 26 #[.pointer none] w fun e w' => e = .returned (.tuple #[.pointer none, .int .i64 1]) ∧ w' = w := by
  go_enter Try.func26, Try.ntmps26
  go_wp2_with fail
  refine (jcheck_n _).mono ?_
  rintro e w' ⟨rfl, rfl⟩
  go_wp2_with fail
  go_ret2
  exact ⟨rfl, rfl⟩
end Go.Proofs.Ytgmggmpkbfljfaa
