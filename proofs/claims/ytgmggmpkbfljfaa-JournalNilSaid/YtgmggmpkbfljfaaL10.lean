/- For any numbers the statement JournalNil returns true. -/
import Derived.Test.YtgmggmpkbfljfaaRd
set_option linter.unusedVariables false
set_option linter.unusedSimpArgs false
set_option maxRecDepth 100000
namespace Go.Proofs.Ytgmggmpkbfljfaa
open Go.RowKit
set_option maxHeartbeats 8000000 in
theorem jnil (n : Int) (r : Nat) (hr : r ≤ 65535) (w : World) :
    Calls Try.prog 9 #[.int .i64 n, .int .u16 r] w fun e w' => e = .returned (.bool true) ∧ Below w.heap.size w w' := by
  go_enter Try.func9, Try.ntmps9
  go_wp2_with fail
  refine (open_n _).mono ?_
  rintro e w1 ⟨rfl, rfl⟩
  dsimp only
  go_wp2_with fail
  refine (commit_n _).mono ?_
  rintro e w2 ⟨rfl, rfl⟩
  dsimp only
  go_wp2_with fail
  refine (group_n n _).mono ?_
  rintro e w3 ⟨rfl, rfl⟩
  dsimp only
  go_wp2_with fail
  refine (known_c w3).mono ?_
  rintro e w4 ⟨rfl, hk4⟩
  dsimp only
  have Hk4 := Lib.hid hk4
  clear hk4
  go_wp2_with fail
  refine (format_n _).mono ?_
  rintro e w5 ⟨rfl, rfl⟩
  dsimp only
  go_wp2_with fail
  refine (record_c r hr w5).mono ?_
  rintro e w6 ⟨rfl, hb6⟩
  dsimp only
  have Hb6 := Lib.hid (Hk4.out.belowPast hb6)
  clear hb6
  generalize recN r = rs at *
  go_wp2_with fail
  refine (append_n rs w6).mono ?_
  rintro e w7 ⟨rfl, rfl⟩
  dsimp only
  go_wp2_with fail
  refine (discard_n _).mono ?_
  rintro e w8 ⟨rfl, rfl⟩
  dsimp only
  go_wp2_with fail
  refine (drop_n n _).mono ?_
  rintro e w9 ⟨rfl, rfl⟩
  dsimp only
  go_wp2_with fail
  refine (pending_n _).mono ?_
  rintro e w10 ⟨rfl, rfl⟩
  dsimp only
  go_wp2_with fail
  refine (first_n _).mono ?_
  rintro e w11 ⟨rfl, rfl⟩
  dsimp only
  go_wp2_with fail
  refine (last_n _).mono ?_
  rintro e w12 ⟨rfl, rfl⟩
  dsimp only
  go_wp2_with fail
  refine (free_n _).mono ?_
  rintro e w13 ⟨rfl, rfl⟩
  dsimp only
  go_wp2_with fail
  go_ret
  exact ⟨rfl, Hb6.out.below0⟩
/-! ### frame -/
open Go.ChangeShapes Go.WideShapes Go.ChangeAt
open Go.ChangeMaps (open_string shut_string)
theorem journalNil_walk (a0 : Int) (w0 : (Lit.int .i64 a0).wf = true) (a1 : Int) (w1 : (Lit.int .u16 a1).wf = true) (w : World) :
    Calls Try.prog 9 #[.int .i64 a0, .int .u16 a1] w fun e w' => e = .returned (.bool true) ∧ Below w.heap.size w w' := by
  have hb := Go.bounds_u16 w1
  obtain ⟨c, rfl⟩ := Int.eq_ofNat_of_zero_le hb.1
  exact jnil a0 c (by omega) w
theorem journalNil_own : ownKnob Try.prog.godebug = none := by kernel_rfl
theorem journalNil_laidOut : laidOutB Try.prog = true := by kernel_rfl
set_option maxRecDepth 100000 in
theorem journalNil_lifted (os : Os) (started : os.Started) (H : Type) (enc : TypeId × Value → H) :
    ReturnsInHanded {} Try.checked os 9 .any (Rows.journalNilSpec.pre6 enc Try.prog Try.f9 Rows.journalNilRow.domain false) (Rows.journalNilSpec.post enc Try.prog Try.f9 false true false false) := by
  refine returnsInHanded_of_change (C := Try.checked) journalNil_own started (by kernel_rfl) Try.func9
    (ChangeSpec.witness6 (enc := enc) (C := Try.checked) false ⟨#[], #[.int .i64 0, .int .u16 0], []⟩ 8 (by kernel_rfl) (by kernel_rfl) (by kernel_rfl) (by kernel_rfl)) ?_
  intro W base args ds gs before hval0 hW hcnd _
  have hval : ∀ (j : Nat) t v, Try.f9.params[j]? = some t → args[j]? = some v → Value.okWide Try.prog W .any base t v := hval0
  have hW' := hW
  obtain ⟨p, q, hA0, hV, rfl, hfz, hnd⟩ := hW
  have hA : DataW.TrodAll enc Try.prog W 0 (fun _ => true) true Try.f9.params.toList args.toList ds p := hA0
  rw [Try.params9] at hA hval
  obtain ⟨v0, vs0, d0, ds0, p0, q0, hargs, rfl, rfl, h0, r0⟩ := trodAll_cons hA
  obtain ⟨v1, vs1, d1, ds1, p1, q1, rfl, rfl, rfl, h1, r1⟩ := trodAll_cons r0
  obtain ⟨rfl, rfl, rfl⟩ := trodAll_nil r1
  obtain rfl : args = #[v0, v1] := by cases args; simp_all
  obtain ⟨rfl, rfl⟩ := trodVars_none hV
  have k0 := h0
  have lt0 : ∀ x ∈ p0, x.block < W.heap.size := by obtain ⟨m, hm⟩ := k0; exact DataW.trod_lt m _ _ _ hm
  have k1 := h1
  have lt1 : ∀ x ∈ p1, x.block < W.heap.size := by obtain ⟨m, hm⟩ := k1; exact DataW.trod_lt m _ _ _ hm
  obtain ⟨a0, rfl, rfl, rfl, w0⟩ := open_int Try.underlying3 (hval 0 3 v0 rfl rfl) h0
  obtain ⟨a1, rfl, rfl, rfl, w1⟩ := open_int Try.underlying38 (hval 1 38 v1 rfl rfl) h1
  clear hA0 hval0
  refine (journalNil_walk a0 w0 a1 w1 W).mono fun e W' ⟨he, bel⟩ => ?_
  subst he
  exact ⟨_, rfl, _, _, _, [], _, [], hW', trodAll_mk1 (shut_bool Try.underlying4 _), (trodAll_cons_mk (Below.trod journalNil_laidOut (by kernel_rfl) (of_decide_eq_true (by kernel_rfl)) k0 bel lt0) (trodAll_cons_mk (Below.trod journalNil_laidOut (by kernel_rfl) (of_decide_eq_true (by kernel_rfl)) k1 bel lt1) trodAll_mk0)), rfl, bel.frame _, fun h => by cases h⟩
theorem journalNil_over : Rows.journalNilRow.holds Try.pinned (OpenSpec.ofChange Rows.journalNilSpec) :=
  OpenClaim.holds_of_wide 9 Try.f9 rfl rfl rfl rfl rfl rfl rfl ⟨rfl, rfl, rfl, rfl, rfl⟩ rfl rfl rfl rfl rfl (by kernel_rfl) Try.func9 (by kernel_rfl)
    (of_decide_eq_true (by kernel_rfl)) (by unfold Func.isWrapper; first | (rw [if_pos (by decide +kernel)]; kernel_rfl) | (rw [if_neg (by decide +kernel)]; exact ⟨rfl, rfl⟩))
    (fun os started H enc _ => journalNil_lifted os started H enc)
/-- The statement. -/
theorem journalNil_proved : Rows.JournalNilSaid := journalNil_over
#print axioms journalNil_proved
end Go.Proofs.Ytgmggmpkbfljfaa
