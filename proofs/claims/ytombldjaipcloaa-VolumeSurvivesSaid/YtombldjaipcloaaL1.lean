/- For any two strings and any choice the statement VolumeSurvives returns true. -/
import Derived.Test.YtombldjaipcloaaK
set_option linter.unusedVariables false
set_option linter.unusedSimpArgs false
namespace Go.Proofs.Ytombldjaipcloaa
open Go.RowKit
set_option maxRecDepth 100000 in
set_option maxHeartbeats 1000000 in
theorem survives_small (old new : ByteArray) (c : Nat) (hc : c ≤ 255) (ho : old.size ≤ 140) (hn : new.size ≤ 140) (w : World) :
    Calls Try.prog 3 #[.string old, .string new, .int .u8 c] w fun e w' => e = .returned (.bool true) ∧ Below w.heap.size w w' := by
  have t1 : decide ((140 : Int) < old.size) = false := by simp; omega
  have t2 : decide ((140 : Int) < new.size) = false := by simp; omega
  go_enter Try.func3, Try.ntmps3
  go_wp2_with fail
  refine (known_c w).mono ?_
  rintro e w1 ⟨rfl, hb1⟩
  go_wp2_with fail
  have s1 : (fillS 120).size ≤ 128 ∧ 128 ≤ (fillS 120).size := by rw [fillS_size]; omega
  have s2 : (fillS 121).size ≤ 128 ∧ 128 ≤ (fillS 121).size := by rw [fillS_size]; omega
  obtain ⟨x1, x2⟩ := s1
  obtain ⟨y1, y2⟩ := s2
  have z1 : (old.size : Int) ≤ (fillS 120).size + old.size := by omega
  have z2 : (new.size : Int) ≤ (fillS 121).size + new.size := by omega
  have z3 : old.size ≤ (fillS 120).size + old.size := by omega
  have z4 : new.size ≤ (fillS 121).size + new.size := by omega
  have z5 : ∀ w, (Op.stringOp .add (fillS 120) old).run Try.prog w = .ok (.string (fillS 120 ++ old)) w := fun w => run_string_add_sum w _ _ (by omega)
  have z6 : ∀ w, (Op.stringOp .add (fillS 121) new).run Try.prog w = .ok (.string (fillS 121 ++ new)) w := fun w => run_string_add_sum w _ _ (by omega)
  go_region_held3 (fun w' => Below w.heap.size w w') (first | exact hb1.drew | exact Below.trans (by assumption) (hb2.mono (Below.size (by assumption)))) ((go_at_call 14; refine (fill_p _ _).mono ?_; rintro e w2 ⟨rfl, hb2⟩))
  clear z1 z2 z3 z4 z5 z6 x1 x2 y1 y2 t1 t2 ho hn
  have B3 : Hid (Below w.heap.size w w2) := by assumption
  clear hb1 hb2
  generalize (fillS 120 ++ old).extract _ _ = a
  generalize (fillS 121 ++ new).extract _ _ = b
  go_wp2_with fail
  refine (Survive_p old new c hc _).mono ?_
  rintro e w4 ⟨rfl, hb4⟩
  have B4 := Lib.hid (B3.out.trans (hb4.mono B3.out.size)); clear hb4
  go_wp2_with fail
  refine (survive_s old new c hc _).mono ?_
  rintro e w5 ⟨rfl, rfl⟩
  go_wp2_with fail
  refine (Survive_p a b c hc _).mono ?_
  rintro e w6 ⟨rfl, hb6⟩
  have B6 := Lib.hid (B4.out.trans (hb6.mono B4.out.size)); clear hb6
  go_wp2_with fail
  refine (survive_s a b c hc _).mono ?_
  rintro e w7 ⟨rfl, rfl⟩
  go_wp2_with fail
  go_returns
  exact ⟨rfl, B6.out⟩
set_option maxRecDepth 100000 in
theorem survives_long (old new : ByteArray) (c : Nat) (hno : ¬ (old.size ≤ 140 ∧ new.size ≤ 140)) (w : World) :
    Calls Try.prog 3 #[.string old, .string new, .int .u8 c] w fun e w' => e = .returned (.bool true) ∧ Below w.heap.size w w' := by
  by_cases ho : old.size ≤ 140
  · have t1 : decide ((140 : Int) < old.size) = false := by simp; omega
    have t2 : decide ((140 : Int) < new.size) = true := by simp; omega
    clear hno ho
    go_enter Try.func3, Try.ntmps3
    go_wp2_with fail
    refine (known_c w).mono ?_
    rintro e w1 ⟨rfl, hb1⟩
    go_wp2_with fail
    refine (known_c w1).mono ?_
    rintro e w2 ⟨rfl, hb2⟩
    have B := Lib.hid (hb1.trans (hb2.mono hb1.size))
    go_wp2_with fail
    go_returns
    exact ⟨rfl, B.out⟩
  · have t1 : decide ((140 : Int) < old.size) = true := by simp; omega
    clear hno ho
    go_enter Try.func3, Try.ntmps3
    go_wp2_with fail
    refine (known_c w).mono ?_
    rintro e w1 ⟨rfl, hb1⟩
    go_wp2_with fail
    refine (known_c w1).mono ?_
    rintro e w2 ⟨rfl, hb2⟩
    have B := Lib.hid (hb1.trans (hb2.mono hb1.size))
    go_wp2_with fail
    go_returns
    exact ⟨rfl, B.out⟩
/-! ### frame -/
open Go.ChangeShapes Go.WideShapes Go.ChangeAt
open Go.ChangeMaps (open_string shut_string)
theorem volumeSurvives_walk (a0 : ByteArray) (w0 : a0.size ≤ maxLen) (a1 : ByteArray) (w1 : a1.size ≤ maxLen) (a2 : Int) (w2 : (Lit.int .u8 a2).wf = true) (w : World) :
    Calls Try.prog 3 #[.string a0, .string a1, .int .u8 a2] w fun e w' => e = .returned (.bool true) ∧ Below w.heap.size w w' := by
  have hb := Go.bounds_u8 w2
  obtain ⟨c, rfl⟩ := Int.eq_ofNat_of_zero_le hb.1
  by_cases h : a0.size ≤ 140 ∧ a1.size ≤ 140
  · exact survives_small a0 a1 c (by omega) h.1 h.2 w
  · exact survives_long a0 a1 c h w
theorem volumeSurvives_own : ownKnob Try.prog.godebug = none := by kernel_rfl
theorem volumeSurvives_laidOut : laidOutB Try.prog = true := by kernel_rfl
set_option maxRecDepth 100000 in
theorem volumeSurvives_lifted (os : Os) (started : os.Started) (H : Type) (enc : TypeId × Value → H) :
    ReturnsInHanded {} Try.checked os 3 .any (Rows.volumeSurvivesSpec.pre6 enc Try.prog Try.f3 Rows.volumeSurvivesRow.domain false) (Rows.volumeSurvivesSpec.post enc Try.prog Try.f3 false true false false) := by
  refine returnsInHanded_of_change (C := Try.checked) volumeSurvives_own started (by kernel_rfl) Try.func3
    (ChangeSpec.witness6 (enc := enc) (C := Try.checked) false ⟨#[], #[.string ByteArray.empty, .string ByteArray.empty, .int .u8 0], []⟩ 8 (by kernel_rfl) (by kernel_rfl) (by kernel_rfl) (by kernel_rfl)) ?_
  intro W base args ds gs before hval0 hW hcnd _
  have hval : ∀ (j : Nat) t v, Try.f3.params[j]? = some t → args[j]? = some v → Value.okWide Try.prog W .any base t v := hval0
  have hW' := hW
  obtain ⟨p, q, hA0, hV, rfl, hfz, hnd⟩ := hW
  have hA : DataW.TrodAll enc Try.prog W 0 (fun _ => true) true Try.f3.params.toList args.toList ds p := hA0
  rw [Try.params3] at hA hval
  obtain ⟨v0, vs0, d0, ds0, p0, q0, hargs, rfl, rfl, h0, r0⟩ := trodAll_cons hA
  obtain ⟨v1, vs1, d1, ds1, p1, q1, rfl, rfl, rfl, h1, r1⟩ := trodAll_cons r0
  obtain ⟨v2, vs2, d2, ds2, p2, q2, rfl, rfl, rfl, h2, r2⟩ := trodAll_cons r1
  obtain ⟨rfl, rfl, rfl⟩ := trodAll_nil r2
  obtain rfl : args = #[v0, v1, v2] := by cases args; simp_all
  obtain ⟨rfl, rfl⟩ := trodVars_none hV
  have k0 := h0
  have lt0 : ∀ x ∈ p0, x.block < W.heap.size := by obtain ⟨m, hm⟩ := k0; exact DataW.trod_lt m _ _ _ hm
  have k1 := h1
  have lt1 : ∀ x ∈ p1, x.block < W.heap.size := by obtain ⟨m, hm⟩ := k1; exact DataW.trod_lt m _ _ _ hm
  have k2 := h2
  have lt2 : ∀ x ∈ p2, x.block < W.heap.size := by obtain ⟨m, hm⟩ := k2; exact DataW.trod_lt m _ _ _ hm
  obtain ⟨a0, rfl, rfl, rfl, w0⟩ := open_string Try.underlying9 (hval 0 9 v0 rfl rfl) h0
  obtain ⟨a1, rfl, rfl, rfl, w1⟩ := open_string Try.underlying9 (hval 1 9 v1 rfl rfl) h1
  obtain ⟨a2, rfl, rfl, rfl, w2⟩ := open_int Try.underlying5 (hval 2 5 v2 rfl rfl) h2
  clear hA0 hval0
  refine (volumeSurvives_walk a0 w0 a1 w1 a2 w2 W).mono fun e W' ⟨he, bel⟩ => ?_
  subst he
  exact ⟨_, rfl, _, _, _, [], _, [], hW', trodAll_mk1 (shut_bool Try.underlying4 _), (trodAll_cons_mk (Below.trod volumeSurvives_laidOut (by kernel_rfl) (of_decide_eq_true (by kernel_rfl)) k0 bel lt0) (trodAll_cons_mk (Below.trod volumeSurvives_laidOut (by kernel_rfl) (of_decide_eq_true (by kernel_rfl)) k1 bel lt1) (trodAll_cons_mk (Below.trod volumeSurvives_laidOut (by kernel_rfl) (of_decide_eq_true (by kernel_rfl)) k2 bel lt2) trodAll_mk0))), rfl, bel.frame _, fun h => by cases h⟩
theorem volumeSurvives_over : Rows.volumeSurvivesRow.holds Try.pinned (OpenSpec.ofChange Rows.volumeSurvivesSpec) :=
  OpenClaim.holds_of_wide 3 Try.f3 rfl rfl rfl rfl rfl rfl rfl ⟨rfl, rfl, rfl, rfl, rfl⟩ rfl rfl rfl rfl rfl (by kernel_rfl) Try.func3 (by kernel_rfl)
    (of_decide_eq_true (by kernel_rfl)) (by unfold Func.isWrapper; first | (rw [if_pos (by decide +kernel)]; kernel_rfl) | (rw [if_neg (by decide +kernel)]; exact ⟨rfl, rfl⟩))
    (fun os started H enc _ => volumeSurvives_lifted os started H enc)
/-- The statement. -/
theorem volumeSurvives_proved : Rows.VolumeSurvivesSaid := volumeSurvives_over
#print axioms volumeSurvives_proved

end Go.Proofs.Ytombldjaipcloaa
