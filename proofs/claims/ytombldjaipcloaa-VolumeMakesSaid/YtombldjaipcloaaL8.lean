/- For any number and operations the statement VolumeRuns returns true. -/
import Derived.Test.YtombldjaipcloaaAg
set_option linter.unusedVariables false
set_option linter.unusedSimpArgs false
namespace Go.Proofs.Ytombldjaipcloaa
open Go.RowKit
theorem agrees_o {w0 w : World} {b mb db N n : Nat} (h : Perf w0 b mb db N n w) (hN : N ≤ 4096) (hn : n ≤ 65536) :
    Calls Try.prog 32 #[.pointer (some ⟨db, 0, none⟩), .pointer (some ⟨b, 0, none⟩)] w fun e w' => e = .returned (.bool true) ∧ Perf w0 b mb db N n w' := by
  obtain ⟨v, d, hc, hl, hd, ho⟩ := h
  have ho' := ho
  obtain ⟨F, ⟨F1, F2, ⟨vp, hv, _⟩, ⟨dv, pv, hdk, _⟩, _⟩, _⟩ := ho'
  refine (agrees_c w b mb db vp dv pv v d hv hdk hc (by omega) (by omega)).mono ?_
  rintro e w' ⟨rfl, hk⟩
  exact ⟨rfl, v, d, hc, hl, hd, ho.keep ((volH_stab _ _ _).sep (dkH_stab _ _)) hk⟩
set_option maxRecDepth 100000 in
set_option maxHeartbeats 4000000 in
theorem runs (n0 : Int) (sv : Value) (os : List OpV) (hn : 0 ≤ n0 ∧ n0 ≤ 255) (w : World) (hos : OpsAt w sv os) :
    Calls Try.prog 10 #[.int .u8 n0, sv] w fun e w' => e = .returned (.bool true) ∧ Below w.heap.size w w' := by
  obtain ⟨so, sc, rfl, hlen⟩ := opsAt_slice hos
  have Hos := Lib.hid hos
  unfold maxLen at hlen
  obtain ⟨n, hn'⟩ : ∃ n : Nat, 1 + n0 % 8 = n := ⟨(1 + n0 % 8).toNat, by omega⟩
  have HS := fun w => sectors_q n0 hn.1 hn.2 w
  rw [hn'] at HS
  have Hs := Lib.hid HS
  have hn3 : 1 ≤ n := by omega
  have hn4 : n ≤ 8 := by omega
  clear HS hn' hn
  clear hos
  go_enter Try.func10, Try.ntmps10
  go_wp2_with fail
  refine (Hs.out _).mono ?_
  rintro e w1 ⟨rfl, rfl⟩
  go_wp2_with fail
  refine (new_o n w (by omega) (by omega)).mono ?_
  rintro e w1 ⟨rfl, hv1, hk1⟩
  have O1 := Lib.hid (Own0.first (w0 := w) hv1 (by simp) hk1)
  clear hv1 hk1
  generalize w.heap.size + 1 = b at *
  generalize hmb : w.heap.size = mb at *
  have Hmb := Lib.hid hmb
  clear hmb
  go_wp2_with fail
  refine (known_c w1).mono ?_
  rintro e w2 ⟨rfl, hb2⟩
  have O2 := Lib.hid (keepOwn (volH_stab _ _ _) O1.out hb2)
  clear hb2 O1
  go_wp2_with fail
  refine (Hs.out _).mono ?_
  rintro e w3 ⟨rfl, rfl⟩
  go_wp2_with fail
  refine (blank_c n (by omega) w2).mono ?_
  rintro e w3 ⟨rfl, ⟨F, hF, hF2⟩, hk3⟩
  have O3 : Hid (Perf w b mb w2.heap.size 0 n w3) := ⟨vNew n, dNew n, corr_new n, Nat.zero_le _, List.length_replicate, O2.out.new (volH_stab _ _ _) hk3 hF hF2⟩
  clear hF hF2 hk3 O2
  generalize w2.heap.size = db at *
  go_wp2_with fail
  go_loopw [8] (fun i wr => ∃ k : Nat, k ≤ os.length ∧ k ≤ 40 ∧ i = .int .i64 k ∧ Perf w b mb db k n wr) (fun i _ => 40 - (intOf i).toNat)
  case atStart => exact ⟨0, by omega, by omega, rfl, O3.out⟩
  case round =>
    obtain ⟨k, hk, hk40, rfl, ho⟩ := hrel
    have Ho := Lib.hid ho
    by_cases hlt : k < os.length ∧ k < 40
    · obtain ⟨hlt, h40⟩ := hlt
      have hd1 : decide ((k : Int) < os.length) = true := by simp; omega
      obtain ⟨lb, lo, kd, s, d, so', sl', sc', zs', rfl, hlb, hok, hokk, e0, e1, e2, e3⟩ := opsAt_elem Hos.out ho.below k hlt
      rw [hok] at hokk
      have hlbr : lb < wr.heap.size := Nat.lt_of_lt_of_le hlb ho.below.size
      have Hc := Lib.hid (perform_c w wr b mb db k n _ so' sl' sc' rfl hokk (by omega) (by omega) ho)
      dsimp only at Hc
      clear hok hokk ho
      go_wp2_with fail
      refine Hc.out.mono ?_
      rintro e w4 ⟨rfl, ho4⟩
      have Ha := Lib.hid (agrees_o ho4 (by omega) (by omega))
      clear ho4 Hc e0 e1 e2 e3
      go_wp2_with fail
      refine Ha.out.mono ?_
      rintro e w5 ⟨rfl, ho5⟩
      have Ho5 := Lib.hid ho5
      clear ho5 Ha
      go_wp2_with fail
      go_roundw
      case rel => exact ⟨k + 1, by omega, by omega, by go_num, Ho5.out⟩
      case measure => simp [intOf]; omega
    · have hx : (decide ((k : Int) < os.length) = false ∧ os.length ≤ k) ∨ (decide ((k : Int) < os.length) = true ∧ 40 ≤ k) := by
        by_cases h : k < os.length
        · right; exact ⟨by simp; omega, by omega⟩
        · left; exact ⟨by simp; omega, by omega⟩
      have Hb := Lib.hid ho.below
      clear ho Ho hlt
      rcases hx with ⟨hd1, hge⟩ | ⟨hd1, hge⟩
      · go_wp2_with fail
        go_returns
        exact ⟨rfl, Hb.out⟩
      · have hlk : k < os.length := by simpa using hd1
        go_wp2_with fail
        go_returns
        exact ⟨rfl, Hb.out⟩
/-! ### frame -/
open Go.ChangeShapes Go.WideShapes Go.ChangeAt
open Go.ChangeMaps (open_string shut_string)
theorem volumeRuns_walk (a0 : Int) (w0 : (Lit.int .u8 a0).wf = true) (v1 : Value) (w : World) (m1 : OpsArg w v1) :
    Calls Try.prog 10 #[.int .u8 a0, v1] w fun e w' => e = .returned (.bool true) ∧ Below w.heap.size w w' := by
  obtain ⟨os, h⟩ := m1
  exact runs a0 v1 os (Go.bounds_u8 w0) w h
theorem volumeRuns_own : ownKnob Try.prog.godebug = none := by kernel_rfl
theorem volumeRuns_laidOut : laidOutB Try.prog = true := by kernel_rfl
set_option maxRecDepth 100000 in
theorem volumeRuns_lifted (os : Os) (started : os.Started) (H : Type) (enc : TypeId × Value → H) :
    ReturnsInHanded {} Try.checked os 10 .any (Rows.volumeRunsSpec.pre6 enc Try.prog Try.f10 Rows.volumeRunsRow.domain false) (Rows.volumeRunsSpec.post enc Try.prog Try.f10 false true false false) := by
  refine returnsInHanded_of_change (C := Try.checked) volumeRuns_own started (by kernel_rfl) Try.func10
    (ChangeSpec.witness6 (enc := enc) (C := Try.checked) false ⟨#[], #[.int .u8 0, .slice none 0 0], []⟩ 8 (by kernel_rfl) (by kernel_rfl) (by kernel_rfl) (by kernel_rfl)) ?_
  intro W base args ds gs before hval0 hW hcnd _
  have hval : ∀ (j : Nat) t v, Try.f10.params[j]? = some t → args[j]? = some v → Value.okWide Try.prog W .any base t v := hval0
  have hW' := hW
  obtain ⟨p, q, hA0, hV, rfl, hfz, hnd⟩ := hW
  have hA : DataW.TrodAll enc Try.prog W 0 (fun _ => true) true Try.f10.params.toList args.toList ds p := hA0
  rw [Try.params10] at hA hval
  obtain ⟨v0, vs0, d0, ds0, p0, q0, hargs, rfl, rfl, h0, r0⟩ := trodAll_cons hA
  obtain ⟨v1, vs1, d1, ds1, p1, q1, rfl, rfl, rfl, h1, r1⟩ := trodAll_cons r0
  obtain ⟨rfl, rfl, rfl⟩ := trodAll_nil r1
  obtain rfl : args = #[v0, v1] := by cases args; simp_all
  obtain ⟨rfl, rfl⟩ := trodVars_none hV
  have k0 := h0
  have lt0 : ∀ x ∈ p0, x.block < W.heap.size := by obtain ⟨m, hm⟩ := k0; exact DataW.trod_lt m _ _ _ hm
  have k1 := h1
  have lt1 : ∀ x ∈ p1, x.block < W.heap.size := by obtain ⟨m, hm⟩ := k1; exact DataW.trod_lt m _ _ _ hm
  obtain ⟨a0, rfl, rfl, rfl, w0⟩ := open_int Try.underlying5 (hval 0 5 v0 rfl rfl) h0
  have m1 : OpsArg W v1 := OpsArg_open (hval 1 26 v1 rfl rfl) h1
  clear hA0 hval0
  refine (volumeRuns_walk a0 w0 v1 W m1).mono fun e W' ⟨he, bel⟩ => ?_
  subst he
  exact ⟨_, rfl, _, _, _, [], _, [], hW', trodAll_mk1 (shut_bool Try.underlying4 _), (trodAll_cons_mk (Below.trod volumeRuns_laidOut (by kernel_rfl) (of_decide_eq_true (by kernel_rfl)) k0 bel lt0) (trodAll_cons_mk (Below.trod volumeRuns_laidOut (by kernel_rfl) (of_decide_eq_true (by kernel_rfl)) k1 bel lt1) trodAll_mk0)), rfl, bel.frame _, fun h => by cases h⟩
theorem volumeRuns_over : Rows.volumeRunsRow.holds Try.pinned (OpenSpec.ofChange Rows.volumeRunsSpec) :=
  OpenClaim.holds_of_wide 10 Try.f10 rfl rfl rfl rfl rfl rfl rfl ⟨rfl, rfl, rfl, rfl, rfl⟩ rfl rfl rfl rfl rfl (by kernel_rfl) Try.func10 (by kernel_rfl)
    (of_decide_eq_true (by kernel_rfl)) (by unfold Func.isWrapper; first | (rw [if_pos (by decide +kernel)]; kernel_rfl) | (rw [if_neg (by decide +kernel)]; exact ⟨rfl, rfl⟩))
    (fun os started H enc _ => volumeRuns_lifted os started H enc)
/-- The statement. -/
theorem volumeRuns_proved : Rows.VolumeRunsSaid := volumeRuns_over
#print axioms volumeRuns_proved
end Go.Proofs.Ytombldjaipcloaa
