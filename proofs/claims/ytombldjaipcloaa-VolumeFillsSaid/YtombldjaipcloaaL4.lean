/- For any three bytes the statement VolumeFills returns true. -/
import Derived.Test.YtombldjaipcloaaM
set_option linter.unusedVariables false
set_option linter.unusedSimpArgs false
namespace Go.Proofs.Ytombldjaipcloaa
open Go.RowKit
def vFull (n k c : Int) (i : Nat) : Vol := { vNew n with pend := List.replicate i (k, fillS c), writes := i }
theorem vOp_free {v : Vol} (h : v.limited = false) : vOp v = (false, v) := by unfold vOp; rw [if_neg (by rw [h]; exact Bool.false_ne_true)]
theorem vWrite_good {v : Vol} {s : Int} {d : ByteArray} (h1 : v.down = false) (h2 : 0 ≤ s) (h3 : s < v.sectors) (h4 : d.size = 128) (h5 : v.pend.length < 4096) (h6 : v.limited = false) :
    vWrite v s d = (0, { v with pend := v.pend ++ [(s, d)], writes := wrap64 (v.writes + 1) }) := by
  unfold vWrite
  rw [if_neg (by rw [h1]; exact Bool.false_ne_true), if_neg (by omega), if_neg (by omega), if_neg (by omega)]
  show (if (vOp { v with pend := v.pend ++ [(s, d)] }).1 then _ else _) = _
  rw [vOp_free (v := { v with pend := v.pend ++ [(s, d)] }) h6]
  rfl
theorem vFull_len (n k c : Int) (i : Nat) : (vFull n k c i).pend.length = i := List.length_replicate
theorem vFull_step (n k c : Int) (h0 : 0 ≤ k) (h1 : k < n) (i : Nat) (h : i < 4096) : vWrite (vFull n k c i) k (fillS c) = (0, vFull n k c (i + 1)) := by
  rw [vWrite_good rfl h0 h1 (fillS_size c) (by rw [vFull_len]; exact h) rfl]
  unfold vFull
  simp only [List.replicate_succ', IntWalk.wrap64_in ((i : Int) + 1) ⟨by omega, by omega⟩, Int.natCast_add, Int.natCast_one]
theorem vFull_full (n k c : Int) (d : ByteArray) (hd : d.size = 128) (h0 : 0 ≤ k) (h1 : k < n) (m : Nat) (hm : m = 4096) : vWrite (vFull n k c m) k d = (19, vFull n k c m) := by
  unfold vWrite
  rw [if_neg (show ¬ (vFull n k c m).down = true from Bool.false_ne_true), if_neg (show ¬ (k < 0 ∨ (vFull n k c m).sectors ≤ k) from (show ¬ (k < 0 ∨ n ≤ k) from by omega)), if_neg (by omega), if_pos (by rw [vFull_len]; omega)]
theorem vFull_bad (n k c : Int) (m : Nat) : vWrite (vFull n k c m) (-1) ⟨#[]⟩ = (2, vFull n k c m) := by
  unfold vWrite
  rw [if_neg (show ¬ (vFull n k c m).down = true from Bool.false_ne_true), if_pos (.inl (by omega))]
theorem lastW_rep (k : Int) (d : ByteArray) (i : Nat) (h : 0 < i) : lastW (List.replicate i (k, d)) k = some d := by
  unfold lastW
  rw [List.reverse_replicate]
  obtain ⟨j, rfl⟩ : ∃ j, i = j + 1 := ⟨i - 1, by omega⟩
  simp [List.replicate_succ]
theorem vFull_read (n k c : Int) (h0 : 0 ≤ k) (h1 : k < n) (m : Nat) (hm : m = 4096) : vRead (vFull n k c m) k = (fillS c, 0) := by
  unfold vRead
  rw [if_neg (show ¬ (vFull n k c m).down = true from Bool.false_ne_true), if_neg (show ¬ (k < 0 ∨ (vFull n k c m).sectors ≤ k) from (show ¬ (k < 0 ∨ n ≤ k) from by omega)), show (vFull n k c m).pend = List.replicate m (k, fillS c) from rfl, lastW_rep _ _ _ (by omega)]
  rfl
def vFlat (n k c : Int) (m : Nat) : Vol := { vFlush (vFull n k c m) (vFull n k c m).pend with pend := [], barriers := wrap64 ((vFull n k c m).barriers + 1) }
theorem vFull_barrier (n k c : Int) (m : Nat) : vBarrier (vFull n k c m) = (0, vFlat n k c m) := by
  unfold vBarrier
  rw [if_neg (show ¬ (vFull n k c m).down = true from Bool.false_ne_true), vOp_free (v := vFull n k c m) rfl]
  rfl
theorem vKeep_all (v : Vol) (s : Int) (d : ByteArray) : (vKeep v s d).down = v.down ∧ (vKeep v s d).limited = v.limited := by unfold vKeep; split <;> exact ⟨rfl, rfl⟩
theorem vFlush_rest (l : IS) : ∀ v : Vol, (vFlush v l).sectors = v.sectors ∧ (vFlush v l).down = v.down ∧ (vFlush v l).limited = v.limited := by
  induction l with
  | nil => intro v; exact ⟨rfl, rfl, rfl⟩
  | cons p l ih => intro v; have h := ih (vKeep v p.1 p.2); have k := vKeep_all v p.1 p.2; have m := vKeep_rest v p.1 p.2; exact ⟨h.1.trans m.2, h.2.1.trans k.1, h.2.2.trans k.2⟩
theorem vFlat_write (n k c : Int) (m : Nat) (d : ByteArray) (hd : d.size = 128) (h0 : 0 ≤ k) (h1 : k < n) : (vWrite (vFlat n k c m) k d).1 = 0 ∧ (vWrite (vFlat n k c m) k d).2.pend = [(k, d)] := by
  have hr := vFlush_rest (vFull n k c m).pend (vFull n k c m)
  have e1 : (vFlat n k c m).down = false := hr.2.1
  have e2 : (vFlat n k c m).sectors = n := hr.1
  have e3 : (vFlat n k c m).limited = false := hr.2.2
  have e4 : (vFlat n k c m).pend = [] := rfl
  generalize vFlat n k c m = v at *
  rw [vWrite_good e1 h0 (by omega) hd (by rw [e4]; exact Nat.zero_lt_succ _) e3]
  exact ⟨rfl, by rw [e4]; rfl⟩

theorem sectors_p (n : Int) (h0 : 0 ≤ n) (h1 : n ≤ 255) (w : World) : Calls Try.prog 18 #[.int .u8 n] w fun e w' => e = .returned (.int .i64 (1 + n % 8)) ∧ w = w' := by
  go_enter Try.func18, Try.ntmps18
  go_wp2
  go_ret
  exact ⟨rfl, rfl⟩
/-- The length of a slice of ints, as the walk asks for it. -/
theorem ints_len {w w' : World} {xs : List Int} {e : Ending} (h : IntsAt w w' xs e) : ∃ a c, e = .returned (.slice a xs.length c) := by
  obtain ⟨v, rfl, ho⟩ := h
  rcases ho.2 with ⟨hv, h0⟩ | ⟨g, cap, cur, hv, _⟩
  · exact ⟨none, 0, by rw [hv]; have : xs = [] := List.eq_nil_of_length_eq_zero h0; rw [this]; rfl⟩
  · exact ⟨_, cap, by rw [hv]⟩
set_option maxRecDepth 100000 in
set_option maxHeartbeats 2000000 in
theorem fills (n0 s0 c : Int) (hn : 0 ≤ n0 ∧ n0 ≤ 255) (hs : 0 ≤ s0 ∧ s0 ≤ 255) (w : World) :
    Calls Try.prog 6 #[.int .u8 n0, .int .u8 s0, .int .u8 c] w fun e w' => e = .returned (.bool true) ∧ Below w.heap.size w w' := by
  obtain ⟨n, hn'⟩ : ∃ n, 1 + n0 % 8 = n := ⟨_, rfl⟩
  have hn1 : 1 ≤ n ∧ n ≤ 8 := by omega
  have HS := fun w => sectors_p n0 hn.1 hn.2 w
  rw [hn'] at HS
  have Hs := Lib.hid HS
  obtain ⟨k, hk⟩ : ∃ k, s0 % n = k := ⟨_, rfl⟩
  have hk1 : 0 ≤ k ∧ k < n := by rw [← hk]; exact ⟨Int.emod_nonneg _ (by omega), Int.emod_lt_of_pos _ (by omega)⟩
  have Hk := Lib.hid hk
  clear HS hk hn'
  obtain ⟨hs1, hs2⟩ := hs
  obtain ⟨hn3, hn4⟩ := hn1
  obtain ⟨hk3, hk4⟩ := hk1
  go_enter Try.func6, Try.ntmps6
  go_wp2_with fail
  refine (Hs.out _).mono ?_
  rintro e w1 ⟨rfl, rfl⟩
  go_wp2_with fail
  refine (new_o n w (by omega) (by omega)).mono ?_
  rintro e w1 ⟨rfl, hv1, hk1⟩
  have O1 := Lib.hid (Own0.first (w0 := w) hv1 (by simp) hk1)
  clear hv1 hk1
  generalize w.heap.size + 1 = b at *
  generalize hmb : w.heap.size = mb at *
  have Hmb := Lib.hid hmb
  clear hmb
  go_wp2_with fail
  refine (known_c w1).mono ?_
  rintro e w2 ⟨rfl, hb2⟩
  have O2 := Lib.hid (keepOwn (volH_stab _ _ _) O1.out hb2)
  clear hb2 O1
  go_wp2_with fail
  refine (Hs.out _).mono ?_
  rintro e w3 ⟨rfl, rfl⟩
  go_wp2_with fail
  rw [Hk.out]
  go_loopw [10] (fun i wr => ∃ j : Nat, j ≤ 4096 ∧ i = .int .i64 j ∧ Own0 w (VolH b mb (vFull n k c j)) wr) (fun i _ => 4096 - (intOf i).toNat)
  case atStart => exact ⟨0, by omega, rfl, O2.out⟩
  case round =>
    obtain ⟨j, hj, rfl, ho⟩ := hrel
    have Ho := Lib.hid ho
    clear ho
    by_cases hlt : j < 4096
    · have hst := vFull_step n k c hk3 hk4 j hlt
      have Hst := Lib.hid hst
      clear hst
      go_wp2_with fail
      refine (fill_p c _).mono ?_
      rintro e w4 ⟨rfl, hb4⟩
      have Ho4 := Lib.hid (keepOwn (volH_stab _ _ _) Ho.out hb4)
      clear hb4
      go_wp2_with fail
      refine ((write_m b mb (vFull n k c j) k (fillS c)).own Ho4.out).mono ?_
      rw [Hst.out]
      rintro e w5 ⟨rfl, ho5⟩
      have Ho5 := Lib.hid ho5
      clear ho5
      go_wp2_with fail
      go_roundw
      case rel => exact ⟨j + 1, by omega, by go_num, Ho5.out⟩
      case measure => simp [intOf]; omega
    · have hj2 : j = 4096 := by omega
      have HJ := Lib.hid hj2
      have e1 := Lib.hid (vFull_full n k c (fillS ((c + 1) % 256)) (fillS_size _) hk3 hk4 j hj2)
      have e3 := Lib.hid (vFull_read n k c hk3 hk4 j hj2)
      have hlen : (vFull n k c j).pend.length ≤ 4096 := by rw [vFull_len]; omega
      have Hlen := Lib.hid hlen
      clear hj2 hlen
      go_wp2_with fail
      refine (fill_p _ _).mono ?_
      rintro e w4 ⟨rfl, hb4⟩
      have Ho4 := Lib.hid (keepOwn (volH_stab _ _ _) Ho.out hb4)
      clear hb4
      go_wp2_with fail
      refine ((write_m b mb (vFull n k c j) k (fillS ((c + 1) % 256))).own Ho4.out).mono ?_
      rw [e1.out]
      rintro e w5 ⟨rfl, ho5⟩
      have Ho5 := Lib.hid ho5
      clear ho5
      go_wp2_with fail
      refine ((write_m b mb (vFull n k c j) (-1) ⟨#[]⟩).own Ho5.out).mono ?_
      rw [vFull_bad]
      rintro e w6 ⟨rfl, ho6⟩
      have Ho6 := Lib.hid ho6
      clear ho6
      go_wp2_with fail
      refine ((read_m b mb (vFull n k c j) k Hlen.out).own Ho6.out).mono ?_
      rw [e3.out]
      rintro e w7 ⟨rfl, ho7⟩
      have Ho7 := Lib.hid ho7
      clear ho7
      go_wp2_with fail
      refine (fill_p _ _).mono ?_
      rintro e w8 ⟨rfl, hb8⟩
      have Ho8 := Lib.hid (keepOwn (volH_stab _ _ _) Ho7.out hb8)
      clear hb8
      go_wp2_with fail
      refine ((barrier_m b mb (vFull n k c j) Hlen.out).own Ho8.out).mono ?_
      rw [vFull_barrier]
      rintro e w9 ⟨rfl, ho9⟩
      have Ho9 := Lib.hid ho9
      clear ho9
      go_wp2_with fail
      refine (fill_p _ _).mono ?_
      rintro e w10 ⟨rfl, hb10⟩
      have Ho10 := Lib.hid (keepOwn (volH_stab _ _ _) Ho9.out hb10)
      clear hb10
      go_wp2_with fail
      have hw := vFlat_write n k c j (fillS ((c + 2) % 256)) (fillS_size _) hk3 hk4
      refine ((write_m b mb (vFlat n k c j) k (fillS ((c + 2) % 256))).own Ho10.out).mono ?_
      generalize vWrite (vFlat n k c j) k (fillS ((c + 2) % 256)) = r at *
      obtain ⟨r1, v11⟩ := r
      obtain ⟨rfl, hp⟩ := hw
      dsimp only at hp ⊢
      rintro e w11 ⟨rfl, ho11⟩
      have Ho11 := Lib.hid ho11
      have Hp := Lib.hid hp
      clear ho11 hp
      go_wp2_with fail
      obtain ⟨F, ⟨pv, hv, rfl⟩, _, _⟩ := Ho11.out
      refine (pending_c _ b mb pv v11 hv (by rw [Hp.out, List.length_singleton]; omega)).mono ?_
      rw [Hp.out]
      rintro e w12 ⟨hi, hk12⟩
      obtain ⟨a, cc, rfl⟩ := ints_len hi
      have Ho12 := Lib.hid (Ho11.out.keep (volH_stab _ _ _) hk12)
      clear hi hk12 hv
      go_wp2_with fail
      go_returns
      exact ⟨rfl, Ho12.out.below⟩
/-! ### frame -/
open Go.ChangeShapes Go.WideShapes Go.ChangeAt
open Go.ChangeMaps (open_string shut_string)
theorem volumeFills_walk (a0 : Int) (w0 : (Lit.int .u8 a0).wf = true) (a1 : Int) (w1 : (Lit.int .u8 a1).wf = true) (a2 : Int) (w2 : (Lit.int .u8 a2).wf = true) (w : World) :
    Calls Try.prog 6 #[.int .u8 a0, .int .u8 a1, .int .u8 a2] w fun e w' => e = .returned (.bool true) ∧ Below w.heap.size w w' :=
  fills a0 a1 a2 (Go.bounds_u8 w0) (Go.bounds_u8 w1) w
theorem volumeFills_own : ownKnob Try.prog.godebug = none := by kernel_rfl
theorem volumeFills_laidOut : laidOutB Try.prog = true := by kernel_rfl
set_option maxRecDepth 100000 in
theorem volumeFills_lifted (os : Os) (started : os.Started) (H : Type) (enc : TypeId × Value → H) :
    ReturnsInHanded {} Try.checked os 6 .any (Rows.volumeFillsSpec.pre6 enc Try.prog Try.f6 Rows.volumeFillsRow.domain false) (Rows.volumeFillsSpec.post enc Try.prog Try.f6 false true false false) := by
  refine returnsInHanded_of_change (C := Try.checked) volumeFills_own started (by kernel_rfl) Try.func6
    (ChangeSpec.witness6 (enc := enc) (C := Try.checked) false ⟨#[], #[.int .u8 0, .int .u8 0, .int .u8 0], []⟩ 8 (by kernel_rfl) (by kernel_rfl) (by kernel_rfl) (by kernel_rfl)) ?_
  intro W base args ds gs before hval0 hW hcnd _
  have hval : ∀ (j : Nat) t v, Try.f6.params[j]? = some t → args[j]? = some v → Value.okWide Try.prog W .any base t v := hval0
  have hW' := hW
  obtain ⟨p, q, hA0, hV, rfl, hfz, hnd⟩ := hW
  have hA : DataW.TrodAll enc Try.prog W 0 (fun _ => true) true Try.f6.params.toList args.toList ds p := hA0
  rw [Try.params6] at hA hval
  obtain ⟨v0, vs0, d0, ds0, p0, q0, hargs, rfl, rfl, h0, r0⟩ := trodAll_cons hA
  obtain ⟨v1, vs1, d1, ds1, p1, q1, rfl, rfl, rfl, h1, r1⟩ := trodAll_cons r0
  obtain ⟨v2, vs2, d2, ds2, p2, q2, rfl, rfl, rfl, h2, r2⟩ := trodAll_cons r1
  obtain ⟨rfl, rfl, rfl⟩ := trodAll_nil r2
  obtain rfl : args = #[v0, v1, v2] := by cases args; simp_all
  obtain ⟨rfl, rfl⟩ := trodVars_none hV
  have k0 := h0
  have lt0 : ∀ x ∈ p0, x.block < W.heap.size := by obtain ⟨m, hm⟩ := k0; exact DataW.trod_lt m _ _ _ hm
  have k1 := h1
  have lt1 : ∀ x ∈ p1, x.block < W.heap.size := by obtain ⟨m, hm⟩ := k1; exact DataW.trod_lt m _ _ _ hm
  have k2 := h2
  have lt2 : ∀ x ∈ p2, x.block < W.heap.size := by obtain ⟨m, hm⟩ := k2; exact DataW.trod_lt m _ _ _ hm
  obtain ⟨a0, rfl, rfl, rfl, w0⟩ := open_int Try.underlying5 (hval 0 5 v0 rfl rfl) h0
  obtain ⟨a1, rfl, rfl, rfl, w1⟩ := open_int Try.underlying5 (hval 1 5 v1 rfl rfl) h1
  obtain ⟨a2, rfl, rfl, rfl, w2⟩ := open_int Try.underlying5 (hval 2 5 v2 rfl rfl) h2
  clear hA0 hval0
  refine (volumeFills_walk a0 w0 a1 w1 a2 w2 W).mono fun e W' ⟨he, bel⟩ => ?_
  subst he
  exact ⟨_, rfl, _, _, _, [], _, [], hW', trodAll_mk1 (shut_bool Try.underlying4 _), (trodAll_cons_mk (Below.trod volumeFills_laidOut (by kernel_rfl) (of_decide_eq_true (by kernel_rfl)) k0 bel lt0) (trodAll_cons_mk (Below.trod volumeFills_laidOut (by kernel_rfl) (of_decide_eq_true (by kernel_rfl)) k1 bel lt1) (trodAll_cons_mk (Below.trod volumeFills_laidOut (by kernel_rfl) (of_decide_eq_true (by kernel_rfl)) k2 bel lt2) trodAll_mk0))), rfl, bel.frame _, fun h => by cases h⟩
theorem volumeFills_over : Rows.volumeFillsRow.holds Try.pinned (OpenSpec.ofChange Rows.volumeFillsSpec) :=
  OpenClaim.holds_of_wide 6 Try.f6 rfl rfl rfl rfl rfl rfl rfl ⟨rfl, rfl, rfl, rfl, rfl⟩ rfl rfl rfl rfl rfl (by kernel_rfl) Try.func6 (by kernel_rfl)
    (of_decide_eq_true (by kernel_rfl)) (by unfold Func.isWrapper; first | (rw [if_pos (by decide +kernel)]; kernel_rfl) | (rw [if_neg (by decide +kernel)]; exact ⟨rfl, rfl⟩))
    (fun os started H enc _ => volumeFills_lifted os started H enc)
/-- The statement. -/
theorem volumeFills_proved : Rows.VolumeFillsSaid := volumeFills_over
#print axioms volumeFills_proved
end Go.Proofs.Ytombldjaipcloaa
