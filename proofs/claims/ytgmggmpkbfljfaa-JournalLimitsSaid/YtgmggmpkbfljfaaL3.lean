/- For any byte and any number the statement JournalLimits returns true. -/
import Derived.Test.YtgmggmpkbfljfaaKn
set_option linter.unusedVariables false
set_option linter.unusedSimpArgs false
set_option maxRecDepth 100000
namespace Go.Proofs.Ytgmggmpkbfljfaa
open Go.RowKit
theorem To.of0 {A : HP} {w wk : World} (h : To A [] w wk) : Keep [] w wk := by obtain ⟨F, _, hk, _⟩ := h; exact hk
theorem pending_s {vb mb : Nat} {v : Vol} {jb : Nat} {J : Jn} {bk : Nat} {B : Bk} {w wk : World} (h : To (ST vb mb v jb J bk B) [] w wk) (hl : J.pend.length ≤ 256) :
    Calls Try.prog 14 #[.pointer (some ⟨jb, 0, none⟩)] wk fun e w' => ∃ vo vc, e = .returned (.slice vo J.pend.length vc) ∧ RowR w' (.slice vo J.pend.length vc) (scells J.pend) ∧ To (ST vb mb v jb J bk B) [] w w' := by
  obtain ⟨Fv, Fj, Fb, _, ⟨gv, pv, G, _, hj⟩, _⟩ := ST.parts h
  refine (pending_c wk jb vb J.pg J.broken gv pv J.pend hj.box (RowR.of_own hj.pnd) (by omega)).mono ?_
  rintro e w' ⟨v', rfl, ho, hk⟩
  obtain ⟨vo, vc, rfl⟩ := own_form (ownsRow_base0 ho)
  exact ⟨vo, vc, rfl, RowR.of_own (ownsRow_base0 ho), h.kept (st_stab _ _ _ _ _ _ _) hk⟩
def limJ (c : Int) (i : Nat) : Jn := { jOf (bEmpty 6 1) with pend := zerosS 16384 :: List.replicate i (oneS c) }
theorem limJ_len (c : Int) (i : Nat) : (limJ c i).pend.length = i + 1 := by simp [limJ]
theorem limJ_snoc (c : Int) (i : Nat) : { limJ c i with pend := (limJ c i).pend ++ [oneS c] } = limJ c (i + 1) := by
  unfold limJ; simp [List.replicate_succ']
set_option maxHeartbeats 8000000 in
theorem limits (c m : Int) (hm : 0 ≤ m ∧ m ≤ 255) (w : World) :
    Calls Try.prog 3 #[.int .u8 c, .int .u8 m] w fun e w' => e = .returned (.bool true) ∧ Below w.heap.size w w' := by
  have HM := Lib.hid (made_c w 8 (by omega) (by omega))
  have hLong : ∀ (J : Jn) (r : ByteArray), J.broken = false → 16384 < r.size → jApp J r = (28, J) := fun J r h1 h2 => by
    unfold jApp; rw [if_neg (by simp [h1]), if_pos h2]
  obtain ⟨n1, hn1⟩ : ∃ n1 : Nat, (16385 : Int) + m = n1 := ⟨(16385 + m).toNat, by omega⟩
  have hn1b : 16385 ≤ n1 ∧ n1 ≤ 20000 := by omega
  have HLong : Hid (∀ jb vb (J : Jn), J.broken = false → J.pend.length ≤ 256 → ∀ r : ByteArray, 16384 < r.size → r.size ≤ 20000 → Met Try.prog 13 #[.pointer (some ⟨jb, 0, none⟩), .string r] (.int .i64 28) (JH jb vb J) (JH jb vb J)) := fun jb vb J hb hl r h1 h2 => by
    have := append_m jb vb J r (by omega) hl
    rw [hLong J r hb h1] at this
    exact this
  have HZ : Hid (∀ jb vb, Met Try.prog 13 #[.pointer (some ⟨jb, 0, none⟩), .string (zerosS 16384)] (.int .i64 0) (JH jb vb (jOf (bEmpty 6 1))) (JH jb vb (limJ c 0))) := fun jb vb => by
    have h := append_ok jb vb (jOf (bEmpty 6 1)) (zerosS 16384) rfl (by rw [zerosS_size]; omega) (by decide)
    exact h
  have HO : Hid (∀ jb vb (i : Nat), i < 255 → Met Try.prog 13 #[.pointer (some ⟨jb, 0, none⟩), .string (oneS c)] (.int .i64 0) (JH jb vb (limJ c i)) (JH jb vb (limJ c (i + 1)))) := fun jb vb i hi => by
    have h := append_ok jb vb (limJ c i) (oneS c) rfl (by rw [oneS_size]; omega) (by rw [limJ_len]; omega)
    rwa [limJ_snoc] at h
  have HE : Hid (∀ jb vb, Met Try.prog 13 #[.pointer (some ⟨jb, 0, none⟩), .string ⟨#[]⟩] (.int .i64 3) (JH jb vb (limJ c 255)) (JH jb vb (limJ c 255))) := fun jb vb => by
    have h := append_m jb vb (limJ c 255) ⟨#[]⟩ (by decide) (by rw [limJ_len]; omega)
    have e : jApp (limJ c 255) ⟨#[]⟩ = (3, limJ c 255) := by
      unfold jApp
      rw [if_neg (by simp [limJ, jOf]), if_neg (by decide), if_pos (by rw [limJ_len]; omega)]
    rwa [e] at h
  have HD : Hid (∀ jb vb, Met Try.prog 15 #[.pointer (some ⟨jb, 0, none⟩)] (.int .i64 0) (JH jb vb (limJ c 255)) (JH jb vb (jOf (bEmpty 6 1)))) := fun jb vb => discard_m jb vb (limJ c 255)
  have hcv := fun w => conv_one c w
  go_enter Try.func3, Try.ntmps3
  go_wp2_with fail
  refine HM.out.mono ?_
  rintro e w1 ⟨vb, mb, jb, bk, rfl, v, C, hg, hd, ht⟩
  dsimp only
  have Ht := Lib.hid ht
  clear ht hg hd
  go_wp2_with fail
  refine (known_c w1).mono ?_
  rintro e w2 ⟨rfl, hk2⟩
  dsimp only
  have Ht2 := Lib.hid (Ht.out.kept (st_stab _ _ _ _ _ _ _) hk2)
  obtain ⟨wm, hmk, hcz, hkm⟩ := made_zeros w2 n1 (by omega)
  have Ht3 := Lib.hid (Ht2.out.kept (st_stab _ _ _ _ _ _ _) hkm)
  have hz1 := zerosS_size n1
  clear hk2 hkm
  generalize zerosS n1 = z1 at *
  go_wp2_with fail
  refine (Ht3.out.call (HLong.out jb vb _ rfl (by decide) z1 (by omega) (by omega)).onJ).mono ?_
  rintro e w3 ⟨rfl, ht⟩
  dsimp only
  have Ht4 := Lib.hid ht
  clear ht hmk hcz
  obtain ⟨wn, hmk, hcz, hkm⟩ := made_zeros w3 16384 (by omega)
  have hmk' : (Instr.makeSlice 30 (.int .i64 16384) (.int .i64 16384)).run Try.prog w3 = .ok (.slice (some ⟨w3.heap.size, 0, none⟩) 16384 16384) wn := hmk
  have Ht5 := Lib.hid (Ht4.out.kept (st_stab _ _ _ _ _ _ _) hkm)
  have hz2 := zerosS_size 16384
  clear hkm hmk
  generalize hzz : zerosS 16384 = z2 at *
  have Hzz := Lib.hid hzz
  clear hzz
  go_wp2_with fail
  refine (Ht5.out.call (HZ.out jb vb).onJ).mono ?_
  rintro e w4 ⟨rfl, ht⟩
  dsimp only
  have Ht6 := Lib.hid ht
  clear ht hmk' hcz
  go_wp2_with fail
  refine (pending_s Ht6.out (by rw [limJ_len]; omega)).mono ?_
  rintro e w5 ⟨vo, vc, rfl, hrow, ht⟩
  dsimp only
  rw [limJ_len]
  have Ht7 := Lib.hid ht
  clear ht hrow
  go_wp2_with fail
  go_loopw [10] (fun i wr => ∃ k : Nat, 1 ≤ k ∧ k ≤ 256 ∧ i = .int .i64 k ∧ To (ST vb mb v jb (limJ c (k - 1)) bk (bEmpty 6 1)) [] w wr) (fun i _ => 256 - (intOf i).toNat)
  case atStart => exact ⟨1, by omega, by omega, rfl, Ht7.out⟩
  case round =>
    obtain ⟨k, hk1, hk, rfl, ht⟩ := hrel
    have Htr := Lib.hid ht
    clear ht
    by_cases hlt : k < 256
    · have HOk : Hid (Met Try.prog 13 #[.pointer (some ⟨jb, 0, none⟩), .string (oneS c)] (.int .i64 0) (JH jb vb (limJ c (k - 1))) (JH jb vb (limJ c k))) := by
        have := HO.out jb vb (k - 1) (by omega)
        rwa [show k - 1 + 1 = k by omega] at this
      have h1s := oneS_size c
      go_wp2_with fail
      refine ((Htr.out.kept (st_stab _ _ _ _ _ _ _) (Keep.alloc _ _ _)).call HOk.out.onJ).mono ?_
      rintro e w6 ⟨rfl, ht⟩
      dsimp only
      have Ht8 := Lib.hid ht
      clear ht
      go_wp2_with fail
      go_roundw
      case rel => exact ⟨k + 1, by omega, by omega, by go_num, by rw [Nat.add_sub_cancel]; exact Ht8.out⟩
      case measure => simp [intOf]; omega
    · obtain rfl : k = 256 := by omega
      clear hlt hk hk1
      go_wp2_with fail
      refine (Htr.out.call (HE.out jb vb).onJ).mono ?_
      rintro e w6 ⟨rfl, ht⟩
      dsimp only
      have Ht8 := Lib.hid ht
      clear ht
      obtain ⟨wo, hmk, hcz, hkm⟩ := made_zeros w6 16385 (by omega)
      have hmk' : (Instr.makeSlice 30 (.int .i64 16385) (.int .i64 16385)).run Try.prog w6 = .ok (.slice (some ⟨w6.heap.size, 0, none⟩) 16385 16385) wo := hmk
      have Ht9 := Lib.hid (Ht8.out.kept (st_stab _ _ _ _ _ _ _) hkm)
      have hz3 := zerosS_size 16385
      clear hkm hmk
      generalize zerosS 16385 = z3 at *
      go_wp2_with fail
      refine (Ht9.out.call (HLong.out jb vb _ rfl (by rw [limJ_len]; omega) z3 (by omega) (by omega)).onJ).mono ?_
      rintro e w7 ⟨rfl, ht⟩
      dsimp only
      have Ht10 := Lib.hid ht
      clear ht hmk' hcz
      go_wp2_with fail
      refine (pending_s Ht10.out (by rw [limJ_len]; omega)).mono ?_
      rintro e w8 ⟨vo2, vc2, rfl, hrow, ht⟩
      dsimp only
      rw [limJ_len]
      have Ht11 := Lib.hid ht
      clear ht hrow
      go_wp2_with fail
      refine (Ht11.out.call (HD.out jb vb).onJ).mono ?_
      rintro e w9 ⟨rfl, ht⟩
      dsimp only
      have Ht12 := Lib.hid ht
      clear ht
      go_wp2_with fail
      refine (pending_s Ht12.out (by decide)).mono ?_
      rintro e w10 ⟨vo3, vc3, rfl, hrow, ht⟩
      dsimp only
      have h0 : (jOf (bEmpty 6 1)).pend.length = 0 := rfl
      rw [h0]
      have Ht13 := Lib.hid ht.of0.below0
      clear ht hrow
      go_wp2_with fail
      go_ret
      exact ⟨rfl, Ht13.out⟩
/-! ### frame -/
open Go.ChangeShapes Go.WideShapes Go.ChangeAt
open Go.ChangeMaps (open_string shut_string)
theorem journalLimits_walk (a0 : Int) (w0 : (Lit.int .u8 a0).wf = true) (a1 : Int) (w1 : (Lit.int .u8 a1).wf = true) (w : World) :
    Calls Try.prog 3 #[.int .u8 a0, .int .u8 a1] w fun e w' => e = .returned (.bool true) ∧ Below w.heap.size w w' :=
  limits a0 a1 (Go.bounds_u8 w1) w
theorem journalLimits_own : ownKnob Try.prog.godebug = none := by kernel_rfl
theorem journalLimits_laidOut : laidOutB Try.prog = true := by kernel_rfl
set_option maxRecDepth 100000 in
theorem journalLimits_lifted (os : Os) (started : os.Started) (H : Type) (enc : TypeId × Value → H) :
    ReturnsInHanded {} Try.checked os 3 .any (Rows.journalLimitsSpec.pre6 enc Try.prog Try.f3 Rows.journalLimitsRow.domain false) (Rows.journalLimitsSpec.post enc Try.prog Try.f3 false true false false) := by
  refine returnsInHanded_of_change (C := Try.checked) journalLimits_own started (by kernel_rfl) Try.func3
    (ChangeSpec.witness6 (enc := enc) (C := Try.checked) false ⟨#[], #[.int .u8 0, .int .u8 0], []⟩ 8 (by kernel_rfl) (by kernel_rfl) (by kernel_rfl) (by kernel_rfl)) ?_
  intro W base args ds gs before hval0 hW hcnd _
  have hval : ∀ (j : Nat) t v, Try.f3.params[j]? = some t → args[j]? = some v → Value.okWide Try.prog W .any base t v := hval0
  have hW' := hW
  obtain ⟨p, q, hA0, hV, rfl, hfz, hnd⟩ := hW
  have hA : DataW.TrodAll enc Try.prog W 0 (fun _ => true) true Try.f3.params.toList args.toList ds p := hA0
  rw [Try.params3] at hA hval
  obtain ⟨v0, vs0, d0, ds0, p0, q0, hargs, rfl, rfl, h0, r0⟩ := trodAll_cons hA
  obtain ⟨v1, vs1, d1, ds1, p1, q1, rfl, rfl, rfl, h1, r1⟩ := trodAll_cons r0
  obtain ⟨rfl, rfl, rfl⟩ := trodAll_nil r1
  obtain rfl : args = #[v0, v1] := by cases args; simp_all
  obtain ⟨rfl, rfl⟩ := trodVars_none hV
  have k0 := h0
  have lt0 : ∀ x ∈ p0, x.block < W.heap.size := by obtain ⟨m, hm⟩ := k0; exact DataW.trod_lt m _ _ _ hm
  have k1 := h1
  have lt1 : ∀ x ∈ p1, x.block < W.heap.size := by obtain ⟨m, hm⟩ := k1; exact DataW.trod_lt m _ _ _ hm
  obtain ⟨a0, rfl, rfl, rfl, w0⟩ := open_int Try.underlying5 (hval 0 5 v0 rfl rfl) h0
  obtain ⟨a1, rfl, rfl, rfl, w1⟩ := open_int Try.underlying5 (hval 1 5 v1 rfl rfl) h1
  clear hA0 hval0
  refine (journalLimits_walk a0 w0 a1 w1 W).mono fun e W' ⟨he, bel⟩ => ?_
  subst he
  exact ⟨_, rfl, _, _, _, [], _, [], hW', trodAll_mk1 (shut_bool Try.underlying4 _), (trodAll_cons_mk (Below.trod journalLimits_laidOut (by kernel_rfl) (of_decide_eq_true (by kernel_rfl)) k0 bel lt0) (trodAll_cons_mk (Below.trod journalLimits_laidOut (by kernel_rfl) (of_decide_eq_true (by kernel_rfl)) k1 bel lt1) trodAll_mk0)), rfl, bel.frame _, fun h => by cases h⟩
theorem journalLimits_over : Rows.journalLimitsRow.holds Try.pinned (OpenSpec.ofChange Rows.journalLimitsSpec) :=
  OpenClaim.holds_of_wide 3 Try.f3 rfl rfl rfl rfl rfl rfl rfl ⟨rfl, rfl, rfl, rfl, rfl⟩ rfl rfl rfl rfl rfl (by kernel_rfl) Try.func3 (by kernel_rfl)
    (of_decide_eq_true (by kernel_rfl)) (by unfold Func.isWrapper; first | (rw [if_pos (by decide +kernel)]; kernel_rfl) | (rw [if_neg (by decide +kernel)]; exact ⟨rfl, rfl⟩))
    (fun os started H enc _ => journalLimits_lifted os started H enc)
/-- The statement. -/
theorem journalLimits_proved : Rows.JournalLimitsSaid := journalLimits_over
#print axioms journalLimits_proved
end Go.Proofs.Ytgmggmpkbfljfaa
