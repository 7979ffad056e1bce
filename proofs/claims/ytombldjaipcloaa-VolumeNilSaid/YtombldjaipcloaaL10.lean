/- For any sector, any string and any script the statement VolumeNil returns true. -/
import Derived.Test.YtombldjaipcloaaM
set_option linter.unusedVariables false
set_option linter.unusedSimpArgs false
namespace Go.Proofs.Ytombldjaipcloaa
open Go.RowKit
theorem limit_n (w : World) (n : Int) : Calls Try.prog 25 #[.pointer none, .int .i64 n] w fun e w' => e = .returned (.tuple #[]) ∧ w = w' := by
  go_enter Try.func25, Try.ntmps25
  go_wp2
  go_returns
  exact ⟨rfl, rfl⟩
theorem crash_n (w : World)  : Calls Try.prog 21 #[.pointer none] w fun e w' => e = .returned (.tuple #[]) ∧ w = w' := by
  go_enter Try.func21, Try.ntmps21
  go_wp2
  go_returns
  exact ⟨rfl, rfl⟩
theorem durable_n (w : World) (s : Int) : Calls Try.prog 37 #[.pointer none, .int .i64 s] w fun e w' => e = .returned (.tuple #[.string ⟨#[]⟩, .int .i64 1]) ∧ w = w' := by
  go_enter Try.func37, Try.ntmps37
  go_wp2
  go_returns
  exact ⟨rfl, rfl⟩
theorem counts_n (w : World)  : Calls Try.prog 38 #[.pointer none] w fun e w' => e = .returned (.tuple #[.int .i64 0, .int .i64 0]) ∧ w = w' := by
  go_enter Try.func38, Try.ntmps38
  go_wp2
  go_returns
  exact ⟨rfl, rfl⟩
theorem len_n (w : World)  : Calls Try.prog 31 #[.pointer none] w fun e w' => e = .returned (.int .i64 0) ∧ w = w' := by
  go_enter Try.func31, Try.ntmps31
  go_wp2
  go_returns
  exact ⟨rfl, rfl⟩
theorem pending_n (w : World)  : Calls Try.prog 30 #[.pointer none] w fun e w' => e = .returned (.slice none 0 0) ∧ w = w' := by
  go_enter Try.func30, Try.ntmps30
  go_wp2
  go_returns
  exact ⟨rfl, rfl⟩
theorem down_n (w : World)  : Calls Try.prog 29 #[.pointer none] w fun e w' => e = .returned (.bool false) ∧ w = w' := by
  go_enter Try.func29, Try.ntmps29
  go_wp2
  go_returns
  exact ⟨rfl, rfl⟩
theorem clone_n (w : World)  : Calls Try.prog 33 #[.pointer none] w fun e w' => e = .returned (.pointer none) ∧ w = w' := by
  go_enter Try.func33, Try.ntmps33
  go_wp2
  go_returns
  exact ⟨rfl, rfl⟩
theorem equal_nn (w : World)  : Calls Try.prog 35 #[.pointer none, .pointer none] w fun e w' => e = .returned (.bool true) ∧ w = w' := by
  go_enter Try.func35, Try.ntmps35
  go_wp2
  go_returns
  exact ⟨rfl, rfl⟩
theorem equal_np (w : World) (a : Addr) : Calls Try.prog 35 #[.pointer none, .pointer (some a)] w fun e w' => e = .returned (.bool false) ∧ w = w' := by
  have he : ∀ w, (binOp .eql 27 (.pointer none) (.pointer (some a))).run Try.prog w = .ok (.bool false) w := fun w => by kernel_rfl
  go_enter Try.func35, Try.ntmps35
  go_wp2
  go_returns
  exact ⟨rfl, rfl⟩
theorem equal_pn (w : World) (a : Addr) : Calls Try.prog 35 #[.pointer (some a), .pointer none] w fun e w' => e = .returned (.bool false) ∧ w = w' := by
  go_enter Try.func35, Try.ntmps35
  go_wp2
  go_returns
  exact ⟨rfl, rfl⟩
set_option maxRecDepth 100000 in
set_option maxHeartbeats 2000000 in
theorem nils (s : Int) (d : ByteArray) (sv : Value) (hd : d.size ≤ 200) (w : World) :
    Calls Try.prog 12 #[.int .i64 s, .string d, sv] w fun e w' => e = .returned (.bool true) ∧ Below w.heap.size w w' := by
  have t1 : decide ((200 : Int) < d.size) = false := by simp; omega
  go_enter Try.func12, Try.ntmps12
  go_wp2_with fail
  refine (known_c w).mono ?_
  rintro e w1 ⟨rfl, hb1⟩
  have B1 := Lib.hid hb1
  clear hb1 t1
  go_wp2_with (first | (go_at_call 25; refine (limit_n _ _).mono ?_; rintro e w' ⟨rfl, rfl⟩) | (go_at_call 21; refine (crash_n _).mono ?_; rintro e w' ⟨rfl, rfl⟩) | (go_at_call 22; refine (start_n _ _).mono ?_; rintro e w' ⟨rfl, rfl⟩))
  refine (read_n _ _).mono ?_
  rintro e w2 ⟨rfl, hk2⟩
  have B2 := Lib.hid (B1.out.trans (hk2.below0.mono B1.out.size))
  clear hk2
  go_wp2_with (first | (go_at_call 37; refine (durable_n _ _).mono ?_; rintro e w' ⟨rfl, rfl⟩) | (go_at_call 38; refine (counts_n _).mono ?_; rintro e w' ⟨rfl, rfl⟩))
  refine (new_o 1 _ (by omega) (by omega)).mono ?_
  rintro e w3 ⟨rfl, _, hk3⟩
  have B3 := Lib.hid (B2.out.trans (hk3.below0.mono B2.out.size))
  clear hk3
  go_wp2_with (first | (go_at_call 27; refine (write_n _ _ _).mono ?_; rintro e w' ⟨rfl, rfl⟩) | (go_at_call 26; refine (barrier_n _).mono ?_; rintro e w' ⟨rfl, rfl⟩) | (go_at_call 31; refine (len_n _).mono ?_; rintro e w' ⟨rfl, rfl⟩) | (go_at_call 30; refine (pending_n _).mono ?_; rintro e w' ⟨rfl, rfl⟩) | (go_at_call 29; refine (down_n _).mono ?_; rintro e w' ⟨rfl, rfl⟩) | (go_at_call 33; refine (clone_n _).mono ?_; rintro e w' ⟨rfl, rfl⟩) | (go_at_call 35; (with_reducible refine (equal_nn _).mono ?_); rintro e w' ⟨rfl, rfl⟩) | (go_at_call 35; (with_reducible refine (equal_np _ _).mono ?_); rintro e w' ⟨rfl, rfl⟩) | (go_at_call 35; (with_reducible refine (equal_pn _ _).mono ?_); rintro e w' ⟨rfl, rfl⟩))
  go_returns
  exact ⟨rfl, B3.out⟩
set_option maxRecDepth 100000 in
theorem nils_long (s : Int) (d : ByteArray) (sv : Value) (hd : ¬ d.size ≤ 200) (w : World) :
    Calls Try.prog 12 #[.int .i64 s, .string d, sv] w fun e w' => e = .returned (.bool true) ∧ Below w.heap.size w w' := by
  have t1 : decide ((200 : Int) < d.size) = true := by simp; omega
  clear hd
  go_enter Try.func12, Try.ntmps12
  go_wp2_with fail
  refine (known_c w).mono ?_
  rintro e w1 ⟨rfl, hb1⟩
  have B1 := Lib.hid hb1
  clear hb1
  go_wp2_with fail
  refine (known_c w1).mono ?_
  rintro e w2 ⟨rfl, hb2⟩
  have B2 := Lib.hid (B1.out.trans (hb2.mono B1.out.size))
  clear hb2
  go_wp2_with fail
  go_returns
  exact ⟨rfl, B2.out⟩
/-! ### frame -/
open Go.ChangeShapes Go.WideShapes Go.ChangeAt
open Go.ChangeMaps (open_string shut_string)
def AnyV (W : World) (v : Value) : Prop := True
theorem volumeNil_walk (a0 : Int) (w0 : (Lit.int .i64 a0).wf = true) (a1 : ByteArray) (w1 : a1.size ≤ maxLen) (v2 : Value) (m2 : True) (w : World) :
    Calls Try.prog 12 #[.int .i64 a0, .string a1, v2] w fun e w' => e = .returned (.bool true) ∧ Below w.heap.size w w' := by
  by_cases h : a1.size ≤ 200
  · exact nils a0 a1 v2 h w
  · exact nils_long a0 a1 v2 h w
theorem volumeNil_own : ownKnob Try.prog.godebug = none := by kernel_rfl
theorem volumeNil_laidOut : laidOutB Try.prog = true := by kernel_rfl
set_option maxRecDepth 100000 in
theorem volumeNil_lifted (os : Os) (started : os.Started) (H : Type) (enc : TypeId × Value → H) :
    ReturnsInHanded {} Try.checked os 12 .any (Rows.volumeNilSpec.pre6 enc Try.prog Try.f12 Rows.volumeNilRow.domain false) (Rows.volumeNilSpec.post enc Try.prog Try.f12 false true false false) := by
  refine returnsInHanded_of_change (C := Try.checked) volumeNil_own started (by kernel_rfl) Try.func12
    (ChangeSpec.witness6 (enc := enc) (C := Try.checked) false ⟨#[], #[.int .i64 0, .string ByteArray.empty, .slice none 0 0], []⟩ 8 (by kernel_rfl) (by kernel_rfl) (by kernel_rfl) (by kernel_rfl)) ?_
  intro W base args ds gs before hval0 hW hcnd _
  have hval : ∀ (j : Nat) t v, Try.f12.params[j]? = some t → args[j]? = some v → Value.okWide Try.prog W .any base t v := hval0
  have hW' := hW
  obtain ⟨p, q, hA0, hV, rfl, hfz, hnd⟩ := hW
  have hA : DataW.TrodAll enc Try.prog W 0 (fun _ => true) true Try.f12.params.toList args.toList ds p := hA0
  rw [Try.params12] at hA hval
  obtain ⟨v0, vs0, d0, ds0, p0, q0, hargs, rfl, rfl, h0, r0⟩ := trodAll_cons hA
  obtain ⟨v1, vs1, d1, ds1, p1, q1, rfl, rfl, rfl, h1, r1⟩ := trodAll_cons r0
  obtain ⟨v2, vs2, d2, ds2, p2, q2, rfl, rfl, rfl, h2, r2⟩ := trodAll_cons r1
  obtain ⟨rfl, rfl, rfl⟩ := trodAll_nil r2
  obtain rfl : args = #[v0, v1, v2] := by cases args; simp_all
  obtain ⟨rfl, rfl⟩ := trodVars_none hV
  have k0 := h0
  have lt0 : ∀ x ∈ p0, x.block < W.heap.size := by obtain ⟨m, hm⟩ := k0; exact DataW.trod_lt m _ _ _ hm
  have k1 := h1
  have lt1 : ∀ x ∈ p1, x.block < W.heap.size := by obtain ⟨m, hm⟩ := k1; exact DataW.trod_lt m _ _ _ hm
  have k2 := h2
  have lt2 : ∀ x ∈ p2, x.block < W.heap.size := by obtain ⟨m, hm⟩ := k2; exact DataW.trod_lt m _ _ _ hm
  obtain ⟨a0, rfl, rfl, rfl, w0⟩ := open_int Try.underlying3 (hval 0 3 v0 rfl rfl) h0
  obtain ⟨a1, rfl, rfl, rfl, w1⟩ := open_string Try.underlying9 (hval 1 9 v1 rfl rfl) h1
  have m2 : True := trivial
  clear hA0 hval0
  refine (volumeNil_walk a0 w0 a1 w1 v2 m2 W).mono fun e W' ⟨he, bel⟩ => ?_
  subst he
  exact ⟨_, rfl, _, _, _, [], _, [], hW', trodAll_mk1 (shut_bool Try.underlying4 _), (trodAll_cons_mk (Below.trod volumeNil_laidOut (by kernel_rfl) (of_decide_eq_true (by kernel_rfl)) k0 bel lt0) (trodAll_cons_mk (Below.trod volumeNil_laidOut (by kernel_rfl) (of_decide_eq_true (by kernel_rfl)) k1 bel lt1) (trodAll_cons_mk (Below.trod volumeNil_laidOut (by kernel_rfl) (of_decide_eq_true (by kernel_rfl)) k2 bel lt2) trodAll_mk0))), rfl, bel.frame _, fun h => by cases h⟩
theorem volumeNil_over : Rows.volumeNilRow.holds Try.pinned (OpenSpec.ofChange Rows.volumeNilSpec) :=
  OpenClaim.holds_of_wide 12 Try.f12 rfl rfl rfl rfl rfl rfl rfl ⟨rfl, rfl, rfl, rfl, rfl⟩ rfl rfl rfl rfl rfl (by kernel_rfl) Try.func12 (by kernel_rfl)
    (of_decide_eq_true (by kernel_rfl)) (by unfold Func.isWrapper; first | (rw [if_pos (by decide +kernel)]; kernel_rfl) | (rw [if_neg (by decide +kernel)]; exact ⟨rfl, rfl⟩))
    (fun os started H enc _ => volumeNil_lifted os started H enc)
/-- The statement. -/
theorem volumeNil_proved : Rows.VolumeNilSaid := volumeNil_over
#print axioms volumeNil_proved
end Go.Proofs.Ytombldjaipcloaa
