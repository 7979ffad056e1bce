/- For any two lists of spans, Covers and Overlaps say of the periods that they describe whether one contains the other, and whether they have an instant in common; for every two lists. -/
import Derived.SevenTiedAt
import Derived.Lay
import Derived.MakeChecks
import Derived.LaidLaws
import Derived.Test.YteknldaoegccaaaGreatDoorZ38
import Derived.Test.YteknldaoegccaaaGreatDoorChecked
import Derived.Test.YteknldaoegccaaaGreatDoorCards
import Derived.Test.YteknldaoegccaaaGreatDoorTie
set_option linter.unusedVariables false
set_option linter.unusedSimpArgs false
set_option maxRecDepth 100000
namespace Go.Proofs.YteknldaoegccaaaGreatDoor
open Go.RowKit
open Classical
set_option maxHeartbeats 8000000 in
theorem periodCovers_c (l k : List SpanA) (w : World) (sv tv : Value) (hl : SpQ w sv l) (hk : SpQ w tv k) (hl9 : l.length ≤ 9223372036854775807) (hk9 : k.length ≤ 9223372036854775807) :
  Calls Tryz.prog 6 #[sv, tv] w fun e w' => e = .returned (.bool true) ∧ Keep [] w w' := by
 obtain ⟨S, hS⟩ : ∃ S, ptsL (ivsOf l) ++ ptsL (ivsOf k) = S := ⟨_, rfl⟩
 have hfew : S.length ≤ 1000 := by
  have := ptsOf_len l
  have := ptsOf_len k
  rw [← hS, List.length_append]; omega
 have HL := Lib.hid (fun (w1 : World) L (h : MP S w w1 L) => h.period hl hl9 (by rw [← hS]; simp +contextual))
 have HK := Lib.hid (fun (w1 : World) L (h : MP S w w1 L) => h.period hk hk9 (by rw [← hS]; simp +contextual))
 have HM := Lib.hid (MP.start hfew w)
 obtain ⟨ao, ac, rfl, _⟩ := hl
 obtain ⟨bo, bc, rfl, _⟩ := hk
 clear hl9 hk9 hfew hS
 generalize perOf l = a at *
 generalize perOf k = b at *
 obtain ⟨r1, hr1⟩ : ∃ r, decide (combK 3 b a = []) = r := ⟨_, rfl⟩
 obtain ⟨r2, hr2⟩ : ∃ r, decide (combK 2 a b ≠ []) = r := ⟨_, rfl⟩
 have HR1 := Lib.hid hr1
 have HR2 := Lib.hid hr2
 have hd1 : (((combK 3 b a).length : Int) == 0) = r1 := by
  rw [← hr1, Bool.eq_iff_iff, beq_iff_eq, decide_eq_true_iff, ← List.length_eq_zero_iff]; omega
 have hd2 : decide (0 < (combK 2 a b).length) = r2 := by
  rw [← hr2, Bool.eq_iff_iff, decide_eq_true_iff, decide_eq_true_iff, ne_eq, ← List.length_eq_zero_iff]; omega
 clear hr1 hr2
 go_enter Tryz.func6, Tryz.ntmps6
 go_wp2_with fail
 refine (HL.out _ _ HM.out).mono ?_
 rintro e wa ⟨vo_wa, vc_wa, rfl, hm_wa⟩
 dsimp only
 have HM := Lib.hid hm_wa
 clear hm_wa
 go_wp2_with fail
 refine (HK.out _ _ HM.out).mono ?_
 rintro e wb ⟨vo_wb, vc_wb, rfl, hm_wb⟩
 dsimp only
 have HM := Lib.hid hm_wb
 clear hm_wb
 go_wp2_with fail
 clear HL HK
 refine (HM.out.known).mono ?_
 rintro e w1 ⟨rfl, hm_w1⟩
 dsimp only
 have HM := Lib.hid hm_w1
 clear hm_w1
 go_wp2_with fail
 refine (HR1.out ▸ HM.out.cov (v := .slice vo_wa _ vc_wa) (a := a) (u := .slice vo_wb _ vc_wb) (b := b) (by simp) (by simp)).mono ?_
 rintro e w2 ⟨rfl, hm_w2⟩
 dsimp only
 have HM := Lib.hid hm_w2
 clear hm_w2
 go_wp2_with fail
 refine (HM.out.comb (op := 3) (by simp) (v := .slice vo_wb _ vc_wb) (a := b) (u := .slice vo_wa _ vc_wa) (b := a) (by simp) (by simp)).mono ?_
 rintro e w3 ⟨vo_w3, vc_w3, rfl, hm_w3⟩
 dsimp only
 have HM := Lib.hid hm_w3
 clear hm_w3
 go_wp2_with fail
 refine (HR2.out ▸ HM.out.over (v := .slice vo_wa _ vc_wa) (a := a) (u := .slice vo_wb _ vc_wb) (b := b) (by simp) (by simp)).mono ?_
 rintro e w4 ⟨rfl, hm_w4⟩
 dsimp only
 have HM := Lib.hid hm_w4
 clear hm_w4
 go_wp2_with fail
 refine (HM.out.comb (op := 2) (by simp) (v := .slice vo_wa _ vc_wa) (a := a) (u := .slice vo_wb _ vc_wb) (b := b) (by simp) (by simp)).mono ?_
 rintro e w5 ⟨vo_w5, vc_w5, rfl, hm_w5⟩
 dsimp only
 have HM := Lib.hid hm_w5
 clear hm_w5
 go_wp2_with fail
 refine (HM.out.covT (v := .slice vo_wa _ vc_wa) (a := a) (u := .slice vo_wa _ vc_wa) (b := a) (by simp) (by simp) (alg8 a)).mono ?_
 rintro e w6 ⟨rfl, hm_w6⟩
 dsimp only
 have HM := Lib.hid hm_w6
 clear hm_w6
 go_wp2_with fail
 refine (HM.out.comb (op := 1) (by simp) (v := .slice vo_wa _ vc_wa) (a := a) (u := .slice vo_wb _ vc_wb) (b := b) (by simp) (by simp)).mono ?_
 rintro e w7 ⟨vo_w7, vc_w7, rfl, hm_w7⟩
 dsimp only
 have HM := Lib.hid hm_w7
 clear hm_w7
 go_wp2_with fail
 refine (HM.out.covT (v := .slice vo_w7 _ vc_w7) (a := combK 1 a b) (u := .slice vo_wb _ vc_wb) (b := b) (by simp) (by simp) (alg9 a b)).mono ?_
 rintro e w8 ⟨rfl, hm_w8⟩
 dsimp only
 have HM := Lib.hid hm_w8
 clear hm_w8
 go_wp2_with fail
 go_ret
 exact ⟨rfl, HM.out.keep⟩
open Go.ChangeShapes Go.WideShapes Go.ChangeAt
open Go.ChangeMaps (open_string shut_string)
theorem periodCovers_walk (v0 v1 : Value) (w : World) (m0 : SpArg w v0) (m1 : SpArg w v1) :
  Calls Tryz.prog 6 #[v0, v1] w fun e w' => e = .returned (.bool true) ∧ Below w.heap.size w w' :=
 by
 obtain ⟨l, hl, ql⟩ := m0
 obtain ⟨k, hk, qk⟩ := m1
 exact (periodCovers_c l k w v0 v1 hl hk ql qk).mono fun e w2 h => ⟨h.1, h.2.below0⟩
theorem periodCovers_own : ownKnob Tryz.prog.godebug = none := by kernel_rfl
theorem periodCovers_laidOut : laidOutB Tryz.prog = true := by kernel_rfl
set_option maxRecDepth 100000 in
theorem periodCovers_lifted (os : Os) (started : os.Started) (H : Type) (enc : TypeId × Value → H) :
  ReturnsInHanded {} Tryz.checked os 6 .any (fun w args => (Rows.periodCoversSpec.pre enc Tryz.prog Tryz.f6 Rows.periodCoversRow.domain false w args ∧ laidMetH Tryz.prog Rows.periodCoversRow.laid w) ∧ sizedMet enc Tryz.prog Tryz.f6 (OpenSpec.ofChange Rows.periodCoversSpec) false w args)
   (Rows.periodCoversSpec.post enc Tryz.prog Tryz.f6 false true false false) := by
 refine returnsInHanded_of_change_and (C := Tryz.checked) (X := fun w _ => laidMetH Tryz.prog Rows.periodCoversRow.laid w) (fun _ _ _ hh h => h.of_heap hh) periodCovers_own started (by kernel_rfl) Tryz.func6
  (ChangeSpec.witness_shaped (enc := enc) (C := Tryz.checked) (os := os) (X := fun w _ => laidMetH Tryz.prog Rows.periodCoversRow.laid w) false (World.laidAll Tryz.prog os Rows.periodCoversRow.laid) #[.slice none 0 0, .slice none 0 0] 8 (World.laidAll_os _ _ _)
   (World.shaped_of_ZipB (by kernel_rfl) (by kernel_rfl)) (by kernel_rfl) (by kernel_rfl) (by kernel_rfl)
   (by rw [MakeChecks.laidMetH_plain _ _ _ (by kernel_rfl)]; exact laidMet_laidAll _ (by kernel_rfl) (by kernel_rfl))) ?_
 intro W base args ds gs before hval0 hW hcnd _ _ _
 have hval : ∀ (j : Nat) t v, Tryz.f6.params[j]? = some t → args[j]? = some v → Value.okWide Tryz.prog W .any base t v := hval0
 have hW' := hW
 obtain ⟨p, q, hA0, hV, rfl, hfz, hnd⟩ := hW
 have hA : DataW.TrodAll enc Tryz.prog W 0 (fun _ => true) true Tryz.f6.params.toList args.toList ds p := hA0
 rw [Tryz.params6] at hA hval
 obtain ⟨v0, vs0, d0, ds0, p0, q0, hargs, rfl, rfl, h0, r0⟩ := trodAll_cons hA
 obtain ⟨v1, vs1, d1, ds1, p1, q1, rfl, rfl, rfl, h1, r1⟩ := trodAll_cons r0
 obtain ⟨rfl, rfl, rfl⟩ := trodAll_nil r1
 obtain rfl : args = #[v0, v1] := by cases args; simp_all
 obtain ⟨rfl, rfl⟩ := trodVars_none hV
 have k0 := h0
 have lt0 : ∀ x ∈ p0, x.block < W.heap.size := by obtain ⟨m, hm⟩ := k0; exact DataW.trod_lt m _ _ _ hm
 have k1 := h1
 have lt1 : ∀ x ∈ p1, x.block < W.heap.size := by obtain ⟨m, hm⟩ := k1; exact DataW.trod_lt m _ _ _ hm
 have m0 : SpArg W v0 := SpArg_open (hval 0 22 v0 rfl rfl) h0
 have m1 : SpArg W v1 := SpArg_open (hval 1 22 v1 rfl rfl) h1
 clear hA0 hval0
 refine (periodCovers_walk v0 v1 W m0 m1).mono fun e W' ⟨he, bel⟩ => ?_
 subst he
 exact ⟨_, rfl, _, _, _, [], _, [], hW', trodAll_mk1 (shut_bool Tryz.underlying4 _), (trodAll_cons_mk (Below.trod periodCovers_laidOut (by kernel_rfl) (of_decide_eq_true (by kernel_rfl)) k0 bel lt0) (trodAll_cons_mk (Below.trod periodCovers_laidOut (by kernel_rfl) (of_decide_eq_true (by kernel_rfl)) k1 bel lt1) trodAll_mk0)), rfl, bel.frame _, fun h => by cases h⟩
theorem periodCovers_over : Rows.periodCoversRow.holds Tryz.pinned (OpenSpec.ofChange Rows.periodCoversSpec) :=
 OpenClaim.holds_of_wide 6 Tryz.f6 rfl rfl rfl rfl rfl rfl rfl ⟨rfl, rfl, rfl, rfl, rfl⟩ rfl rfl rfl rfl rfl (by kernel_rfl) Tryz.func6 (by kernel_rfl)
  (of_decide_eq_true (by kernel_rfl)) (by unfold Func.isWrapper; first | (rw [if_pos (by decide +kernel)]; kernel_rfl) | (rw [if_neg (by decide +kernel)]; exact ⟨rfl, rfl⟩))
  (fun os started H enc _ => periodCovers_lifted os started H enc)
theorem periodCovers_proved : Rows.PeriodCoversCardSaid :=
 Claim7.holds_tied_plain_at .later [] [.data, .pinned] true Rows.periodCoversCard.stood.harness false periodCovers_over (fun _ h => by cases h) (by kernel_rfl) (fun _ h => by cases h) periodCovers_row_tie rfl ⟨rfl, rfl⟩ (by kernel_rfl) rfl
  (fun f fn hf hfn => by
   obtain rfl : f = 6 := Option.some.inj ((show Tryz.prog.funcNamed Rows.periodCoversRow.func = some 6 by kernel_rfl).symm.trans hf) |>.symm
   obtain rfl : fn = Tryz.f6 := (Option.some.inj (Tryz.func6.symm.trans hfn)).symm
   exact ⟨by kernel_rfl, fun j t ht => by
    rw [Tryz.params6] at ht
    have hm : t ∈ [22, 22] := by simpa using Array.mem_of_getElem? ht
    have hall : ([22, 22].all fun u => !Tryz.prog.wantsStandIn u) = true := by kernel_rfl
    exact (show Tryz.prog.wantsStandIn t = false by simpa using List.all_eq_true.1 hall t hm)⟩)
  (by kernel_rfl)
end Go.Proofs.YteknldaoegccaaaGreatDoor
