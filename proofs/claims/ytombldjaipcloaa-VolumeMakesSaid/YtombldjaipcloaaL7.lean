/- For any number the statement VolumeMakes returns true. -/
import Derived.Test.YtombldjaipcloaaL8
set_option linter.unusedVariables false
set_option linter.unusedSimpArgs false
namespace Go.Proofs.Ytombldjaipcloaa
open Go.RowKit
set_option maxRecDepth 100000 in
set_option maxHeartbeats 4000000 in
theorem makes (n : Int) (hn : -9223372036854775808 ≤ n ∧ n ≤ 9223372036854775807) (w : World) :
    Calls Try.prog 9 #[.int .i64 n] w fun e w' => e = .returned (.bool true) ∧ Below w.heap.size w w' := by
  go_enter Try.func9, Try.ntmps9
  go_wp2_with fail
  refine (known_c w).mono ?_
  rintro e w1 ⟨rfl, hb1⟩
  have Hb1 := Lib.hid hb1
  clear hb1
  go_wp2_with fail
  refine (new_o 65536 w1 (by omega) (by omega)).mono ?_
  rintro e w2 ⟨rfl, hv2, hk2⟩
  have O2 : Hid (Own0 w (VolH (w1.heap.size + 1) w1.heap.size (vNew 65536)) w2) := ⟨_, hv2, by have := Hb1.out.size; intro x hx; simp at hx; omega, (Keep.of_below (F := []) Hb1.out).trans0 hk2⟩
  clear hv2 hk2
  generalize w1.heap.size + 1 = b at *
  generalize w1.heap.size = mb at O2
  have hlm := (len_m b mb (vNew 65536)).own O2.out
  rw [show (vNew 65536).sectors = 65536 from rfl] at hlm
  have Hlm := Lib.hid hlm
  clear hlm
  go_wp2_with fail
  refine Hlm.out.mono ?_
  rintro e w3 ⟨rfl, ho3⟩
  have Ho3 := Lib.hid ho3
  clear ho3 Hlm O2 Hb1
  by_cases hA : 300 < n ∧ n ≤ 65536
  · obtain ⟨hA1, hA2⟩ := hA
    have hm0 : 0 ≤ n.tmod 300 := by rw [Int.tmod_eq_emod_of_nonneg (by omega)]; omega
    have hm1 : n.tmod 300 < 300 := by rw [Int.tmod_eq_emod_of_nonneg (by omega)]; omega
    obtain ⟨m, hm⟩ : ∃ m, n.tmod 300 = m := ⟨_, rfl⟩
    rw [hm] at hm0 hm1
    go_wp2_with fail
    by_cases he : m < 1 ∨ 65536 < m
    · have hne := new_e m w3 he
      have Hne := Lib.hid hne
      clear hne
      go_wp2_with fail
      refine Hne.out.mono ?_
      rintro e w4 ⟨rfl, rfl⟩
      by_cases h1 : m < 1
      · clear he
        go_wp2_with fail
        go_returns
        exact ⟨rfl, Ho3.out.below⟩
      · have h2 : 65536 < m := by omega
        have h1' : decide (m < 1) = false := by simpa using h1
        clear he
        go_wp2_with fail
        go_returns
        exact ⟨rfl, Ho3.out.below⟩
    · obtain ⟨j, hj⟩ : ∃ j : Nat, m = j := ⟨(m).toNat, by omega⟩
      have hj1 : 1 ≤ j := by omega
      have hj2 : j ≤ 300 := by omega
      rw [hj]
      clear he hj
      go_wp2_with fail
      refine (new_o j w3 (by omega) (by omega)).mono ?_
      rintro e w4 ⟨rfl, hv4, hk4⟩
      have O4 := Lib.hid (Own0.first (w0 := w3) hv4 (by simp) hk4)
      clear hv4 hk4
      generalize w3.heap.size + 1 = b2 at *
      generalize w3.heap.size = mb2 at O4
      have hj3 : decide ((j : Int) < 1) = false := by simp; omega
      have hj4 : decide (65536 < (j : Int)) = false := by simp; omega
      go_wp2_with fail
      refine (blank_c j (by omega) w4).mono ?_
      rintro e w5 ⟨rfl, ⟨F, hF, hF2⟩, hk5⟩
      have O5 : Hid (Perf w3 b2 mb2 w4.heap.size 0 j w5) := ⟨vNew j, dNew j, corr_new j, Nat.zero_le _, List.length_replicate, O4.out.new (volH_stab _ _ _) hk5 hF hF2⟩
      clear hF hF2 hk5 O4
      generalize w4.heap.size = db at *
      have Ha := Lib.hid (agrees_o O5.out (by omega) (by omega))
      go_wp2_with fail
      refine Ha.out.mono ?_
      rintro e w6 ⟨rfl, ho6⟩
      have Hb := Lib.hid (Ho3.out.below.trans (ho6.below.mono Ho3.out.below.size))
      clear ho6 Ha O5
      go_wp2_with fail
      go_returns
      exact ⟨rfl, Hb.out⟩
  · have hx : n ≤ 300 ∨ (300 < n ∧ 65536 < n) := by omega
    rcases hx with hx | ⟨hx, hy⟩
    · clear hA
      have hz : decide (300 < n) = false := by simp; omega
      by_cases he : n < 1 ∨ 65536 < n
      · have hne := new_e n w3 he
        have Hne := Lib.hid hne
        clear hne
        go_wp2_with fail
        refine Hne.out.mono ?_
        rintro e w4 ⟨rfl, rfl⟩
        by_cases h1 : n < 1
        · clear he
          go_wp2_with fail
          go_returns
          exact ⟨rfl, Ho3.out.below⟩
        · have h2 : 65536 < n := by omega
          have h1' : decide (n < 1) = false := by simpa using h1
          clear he
          go_wp2_with fail
          go_returns
          exact ⟨rfl, Ho3.out.below⟩
      · obtain ⟨j, hj⟩ : ∃ j : Nat, n = j := ⟨(n).toNat, by omega⟩
        have hj1 : 1 ≤ j := by omega
        have hj2 : j ≤ 300 := by omega
        rw [hj]
        clear he hj
        go_wp2_with fail
        refine (new_o j w3 (by omega) (by omega)).mono ?_
        rintro e w4 ⟨rfl, hv4, hk4⟩
        have O4 := Lib.hid (Own0.first (w0 := w3) hv4 (by simp) hk4)
        clear hv4 hk4
        generalize w3.heap.size + 1 = b2 at *
        generalize w3.heap.size = mb2 at O4
        have hj3 : decide ((j : Int) < 1) = false := by simp; omega
        have hj4 : decide (65536 < (j : Int)) = false := by simp; omega
        go_wp2_with fail
        refine (blank_c j (by omega) w4).mono ?_
        rintro e w5 ⟨rfl, ⟨F, hF, hF2⟩, hk5⟩
        have O5 : Hid (Perf w3 b2 mb2 w4.heap.size 0 j w5) := ⟨vNew j, dNew j, corr_new j, Nat.zero_le _, List.length_replicate, O4.out.new (volH_stab _ _ _) hk5 hF hF2⟩
        clear hF hF2 hk5 O4
        generalize w4.heap.size = db at *
        have Ha := Lib.hid (agrees_o O5.out (by omega) (by omega))
        go_wp2_with fail
        refine Ha.out.mono ?_
        rintro e w6 ⟨rfl, ho6⟩
        have Hb := Lib.hid (Ho3.out.below.trans (ho6.below.mono Ho3.out.below.size))
        clear ho6 Ha O5
        go_wp2_with fail
        go_returns
        exact ⟨rfl, Hb.out⟩
    · have hz : decide (n ≤ 65536) = false := by simp; omega
      clear hA
      by_cases he : n < 1 ∨ 65536 < n
      · have hne := new_e n w3 he
        have Hne := Lib.hid hne
        clear hne
        go_wp2_with fail
        refine Hne.out.mono ?_
        rintro e w4 ⟨rfl, rfl⟩
        by_cases h1 : n < 1
        · clear he
          go_wp2_with fail
          go_returns
          exact ⟨rfl, Ho3.out.below⟩
        · have h2 : 65536 < n := by omega
          have h1' : decide (n < 1) = false := by simpa using h1
          clear he
          go_wp2_with fail
          go_returns
          exact ⟨rfl, Ho3.out.below⟩
      · obtain ⟨j, hj⟩ : ∃ j : Nat, n = j := ⟨(n).toNat, by omega⟩
        have hj1 : 1 ≤ j := by omega
        have hj2 : j ≤ 300 := by omega
        rw [hj]
        clear he hj
        go_wp2_with fail
        refine (new_o j w3 (by omega) (by omega)).mono ?_
        rintro e w4 ⟨rfl, hv4, hk4⟩
        have O4 := Lib.hid (Own0.first (w0 := w3) hv4 (by simp) hk4)
        clear hv4 hk4
        generalize w3.heap.size + 1 = b2 at *
        generalize w3.heap.size = mb2 at O4
        have hj3 : decide ((j : Int) < 1) = false := by simp; omega
        have hj4 : decide (65536 < (j : Int)) = false := by simp; omega
        go_wp2_with fail
        refine (blank_c j (by omega) w4).mono ?_
        rintro e w5 ⟨rfl, ⟨F, hF, hF2⟩, hk5⟩
        have O5 : Hid (Perf w3 b2 mb2 w4.heap.size 0 j w5) := ⟨vNew j, dNew j, corr_new j, Nat.zero_le _, List.length_replicate, O4.out.new (volH_stab _ _ _) hk5 hF hF2⟩
        clear hF hF2 hk5 O4
        generalize w4.heap.size = db at *
        have Ha := Lib.hid (agrees_o O5.out (by omega) (by omega))
        go_wp2_with fail
        refine Ha.out.mono ?_
        rintro e w6 ⟨rfl, ho6⟩
        have Hb := Lib.hid (Ho3.out.below.trans (ho6.below.mono Ho3.out.below.size))
        clear ho6 Ha O5
        go_wp2_with fail
        go_returns
        exact ⟨rfl, Hb.out⟩
/-! ### frame -/
open Go.ChangeShapes Go.WideShapes Go.ChangeAt
open Go.ChangeMaps (open_string shut_string)
theorem volumeMakes_walk (a0 : Int) (w0 : (Lit.int .i64 a0).wf = true) (w : World) :
    Calls Try.prog 9 #[.int .i64 a0] w fun e w' => e = .returned (.bool true) ∧ Below w.heap.size w w' :=
  makes a0 (Go.bounds_i64 w0) w
theorem volumeMakes_own : ownKnob Try.prog.godebug = none := by kernel_rfl
theorem volumeMakes_laidOut : laidOutB Try.prog = true := by kernel_rfl
set_option maxRecDepth 100000 in
theorem volumeMakes_lifted (os : Os) (started : os.Started) (H : Type) (enc : TypeId × Value → H) :
    ReturnsInHanded {} Try.checked os 9 .any (Rows.volumeMakesSpec.pre6 enc Try.prog Try.f9 Rows.volumeMakesRow.domain false) (Rows.volumeMakesSpec.post enc Try.prog Try.f9 false true false false) := by
  refine returnsInHanded_of_change (C := Try.checked) volumeMakes_own started (by kernel_rfl) Try.func9
    (ChangeSpec.witness6 (enc := enc) (C := Try.checked) false ⟨#[], #[.int .i64 0], []⟩ 8 (by kernel_rfl) (by kernel_rfl) (by kernel_rfl) (by kernel_rfl)) ?_
  intro W base args ds gs before hval0 hW hcnd _
  have hval : ∀ (j : Nat) t v, Try.f9.params[j]? = some t → args[j]? = some v → Value.okWide Try.prog W .any base t v := hval0
  have hW' := hW
  obtain ⟨p, q, hA0, hV, rfl, hfz, hnd⟩ := hW
  have hA : DataW.TrodAll enc Try.prog W 0 (fun _ => true) true Try.f9.params.toList args.toList ds p := hA0
  rw [Try.params9] at hA hval
  obtain ⟨v0, vs0, d0, ds0, p0, q0, hargs, rfl, rfl, h0, r0⟩ := trodAll_cons hA
  obtain ⟨rfl, rfl, rfl⟩ := trodAll_nil r0
  obtain rfl : args = #[v0] := by cases args; simp_all
  obtain ⟨rfl, rfl⟩ := trodVars_none hV
  have k0 := h0
  have lt0 : ∀ x ∈ p0, x.block < W.heap.size := by obtain ⟨m, hm⟩ := k0; exact DataW.trod_lt m _ _ _ hm
  obtain ⟨a0, rfl, rfl, rfl, w0⟩ := open_int Try.underlying3 (hval 0 3 v0 rfl rfl) h0
  clear hA0 hval0
  refine (volumeMakes_walk a0 w0 W).mono fun e W' ⟨he, bel⟩ => ?_
  subst he
  exact ⟨_, rfl, _, _, _, [], _, [], hW', trodAll_mk1 (shut_bool Try.underlying4 _), (trodAll_cons_mk (Below.trod volumeMakes_laidOut (by kernel_rfl) (of_decide_eq_true (by kernel_rfl)) k0 bel lt0) trodAll_mk0), rfl, bel.frame _, fun h => by cases h⟩
theorem volumeMakes_over : Rows.volumeMakesRow.holds Try.pinned (OpenSpec.ofChange Rows.volumeMakesSpec) :=
  OpenClaim.holds_of_wide 9 Try.f9 rfl rfl rfl rfl rfl rfl rfl ⟨rfl, rfl, rfl, rfl, rfl⟩ rfl rfl rfl rfl rfl (by kernel_rfl) Try.func9 (by kernel_rfl)
    (of_decide_eq_true (by kernel_rfl)) (by unfold Func.isWrapper; first | (rw [if_pos (by decide +kernel)]; kernel_rfl) | (rw [if_neg (by decide +kernel)]; exact ⟨rfl, rfl⟩))
    (fun os started H enc _ => volumeMakes_lifted os started H enc)
/-- The statement. -/
theorem volumeMakes_proved : Rows.VolumeMakesSaid := volumeMakes_over
#print axioms volumeMakes_proved
end Go.Proofs.Ytombldjaipcloaa
