/- For any two lists of spans, Union, Intersect and Minus of the two periods that they describe are the normal forms of the definition; for every two lists. -/
import Derived.SevenTiedAt
import Derived.Lay
import Derived.MakeChecks
import Derived.LaidLaws
import Derived.Test.YteknldaoegccaaaGreatDoorZ37
import Derived.Test.YteknldaoegccaaaGreatDoorZ38
import Derived.Test.YteknldaoegccaaaGreatDoorChecked
import Derived.Test.YteknldaoegccaaaGreatDoorCards
import Derived.Test.YteknldaoegccaaaGreatDoorTie
set_option linter.unusedVariables false
set_option linter.unusedSimpArgs false
set_option maxRecDepth 100000
namespace Go.Proofs.YteknldaoegccaaaGreatDoor
open Go.RowKit
set_option maxHeartbeats 8000000 in
theorem periodCombines_c (l k : List SpanA) (w : World) (sv tv : Value) (hl : SpQ w sv l) (hk : SpQ w tv k) (hl9 : l.length ≤ 9223372036854775807) (hk9 : k.length ≤ 9223372036854775807) :
  Calls Tryz.prog 4 #[sv, tv] w fun e w' => e = .returned (.bool true) ∧ Keep [] w w' := by
 have HL := Lib.hid (lperiod_c l w sv hl hl9)
 have HK := Lib.hid (fun w' (h : Keep [] w w') => lperiod_c k w' tv (hk.later h) hk9)
 have pl := perOf_per l
 have pk := perOf_per k
 have la : (perOf l).length ≤ 32 := by have := pl.len; have := ptsOf_len l; omega
 have lb : (perOf k).length ≤ 32 := by have := pk.len; have := ptsOf_len k; omega
 have HU := Lib.hid (fun w' v u (h : IvR w' v (perOf l)) (h2 : IvR w' u (perOf k)) => Union_p _ _ pl.norm.val pk.norm.val w' v u h h2 (by omega) (by omega))
 have HI := Lib.hid (fun w' v u (h : IvR w' v (perOf l)) (h2 : IvR w' u (perOf k)) => Intersect_p _ _ pl.norm.val pk.norm.val w' v u h h2 (by omega) (by omega))
 have HD := Lib.hid (fun w' v u (h : IvR w' v (perOf l)) (h2 : IvR w' u (perOf k)) => Minus_p _ _ pl.norm.val pk.norm.val w' v u h h2 (by omega) (by omega))
 have HC1 := Lib.hid (fun w' v u (h : IvR w' v (perOf l)) (h2 : IvR w' u (perOf k)) => rcombine_c 1 (by simp) _ _ w' v u h h2 (by omega) (by omega))
 have HC2 := Lib.hid (fun w' v u (h : IvR w' v (perOf l)) (h2 : IvR w' u (perOf k)) => rcombine_c 2 (by simp) _ _ w' v u h h2 (by omega) (by omega))
 have HC3 := Lib.hid (fun w' v u (h : IvR w' v (perOf l)) (h2 : IvR w' u (perOf k)) => rcombine_c 3 (by simp) _ _ w' v u h h2 (by omega) (by omega))
 have HB1 := Lib.hid ((combK_per (S := ptsL (ivsOf l) ++ ptsL (ivsOf k)) 1 (pl.pts.mono (by simp +contextual)) (pk.pts.mono (by simp +contextual))).len)
 have HB2 := Lib.hid ((combK_per (S := ptsL (ivsOf l) ++ ptsL (ivsOf k)) 2 (pl.pts.mono (by simp +contextual)) (pk.pts.mono (by simp +contextual))).len)
 have HB3 := Lib.hid ((combK_per (S := ptsL (ivsOf l) ++ ptsL (ivsOf k)) 3 (pl.pts.mono (by simp +contextual)) (pk.pts.mono (by simp +contextual))).len)
 have hpl := ptsOf_len l
 have hpk := ptsOf_len k
 rw [List.length_append] at HB1 HB2 HB3
 obtain ⟨ao, ac, rfl, _⟩ := hl
 obtain ⟨bo, bc, rfl, _⟩ := hk
 clear pl pk la lb hl9 hk9
 generalize perOf l = a at *
 generalize perOf k = b at *
 generalize (ptsL (ivsOf l)).length = n1 at *
 generalize (ptsL (ivsOf k)).length = n2 at *
 have L1 := Lib.hid (show (combK 1 a b).length ≤ 1000000000 from by have := HB1.out; omega)
 have L2 := Lib.hid (show (combK 2 a b).length ≤ 1000000000 from by have := HB2.out; omega)
 have L3 := Lib.hid (show (combK 3 a b).length ≤ 1000000000 from by have := HB3.out; omega)
 clear HB1 HB2 HB3 hpl hpk
 go_enter Tryz.func4, Tryz.ntmps4
 go_wp2_with fail
 refine HL.out.mono ?_
 rintro e w1 ⟨v1, rfl, hv1, hk1⟩
 dsimp only
 have HM := Lib.hid ((MI.start w).add hk1 hv1)
 obtain ⟨o1, c1, rfl, _⟩ := hv1.form
 clear hv1 hk1 HL
 go_wp2_with fail
 refine (HK.out _ HM.out.1).mono ?_
 rintro e w2 ⟨v2, rfl, hv2, hk2⟩
 dsimp only
 have HM := Lib.hid (HM.out.add hk2 hv2)
 obtain ⟨o2, c2, rfl, _⟩ := hv2.form
 clear hv2 hk2 HK
 go_wp2_with fail
 refine (known_c _).mono ?_
 rintro e w3 ⟨rfl, hk_w3⟩
 dsimp only
 have HM := Lib.hid (HM.out.move hk_w3)
 clear hk_w3
 go_wp2_with fail
 refine ((HU).out _ _ _ (HM.out.get _ a (by simp)) (HM.out.get _ b (by simp))).mono ?_
 rintro e w4 ⟨v_w4, rfl, hv_w4, hk_w4⟩
 dsimp only
 have HM := Lib.hid (HM.out.add hk_w4 hv_w4)
 obtain ⟨vo_w4, vc_w4, rfl, _⟩ := hv_w4.form
 clear hv_w4 hk_w4
 go_wp2_with fail
 refine ((HC1).out _ _ _ (HM.out.get _ a (by simp)) (HM.out.get _ b (by simp))).mono ?_
 rintro e w5 ⟨v_w5, rfl, hv_w5, hk_w5⟩
 dsimp only
 have HM := Lib.hid (HM.out.add hk_w5 hv_w5)
 obtain ⟨vo_w5, vc_w5, rfl, _⟩ := hv_w5.form
 clear hv_w5 hk_w5
 go_wp2_with fail
 refine (equal_t (Eq.refl (combK 1 a b)) _ _ _ (HM.out.get (.slice vo_w4 _ vc_w4) (combK 1 a b) (by simp)) (HM.out.get (.slice vo_w5 _ vc_w5) (combK 1 a b) (by simp)) (L1.out)).mono ?_
 rintro e w6 ⟨rfl, hk_w6⟩
 dsimp only
 have HM := Lib.hid (HM.out.move hk_w6)
 clear hk_w6
 go_wp2_with fail
 refine ((HI).out _ _ _ (HM.out.get _ a (by simp)) (HM.out.get _ b (by simp))).mono ?_
 rintro e w7 ⟨v_w7, rfl, hv_w7, hk_w7⟩
 dsimp only
 have HM := Lib.hid (HM.out.add hk_w7 hv_w7)
 obtain ⟨vo_w7, vc_w7, rfl, _⟩ := hv_w7.form
 clear hv_w7 hk_w7
 go_wp2_with fail
 refine ((HC2).out _ _ _ (HM.out.get _ a (by simp)) (HM.out.get _ b (by simp))).mono ?_
 rintro e w8 ⟨v_w8, rfl, hv_w8, hk_w8⟩
 dsimp only
 have HM := Lib.hid (HM.out.add hk_w8 hv_w8)
 obtain ⟨vo_w8, vc_w8, rfl, _⟩ := hv_w8.form
 clear hv_w8 hk_w8
 go_wp2_with fail
 refine (equal_t (Eq.refl (combK 2 a b)) _ _ _ (HM.out.get (.slice vo_w7 _ vc_w7) (combK 2 a b) (by simp)) (HM.out.get (.slice vo_w8 _ vc_w8) (combK 2 a b) (by simp)) (L2.out)).mono ?_
 rintro e w9 ⟨rfl, hk_w9⟩
 dsimp only
 have HM := Lib.hid (HM.out.move hk_w9)
 clear hk_w9
 go_wp2_with fail
 refine ((HD).out _ _ _ (HM.out.get _ a (by simp)) (HM.out.get _ b (by simp))).mono ?_
 rintro e w10 ⟨v_w10, rfl, hv_w10, hk_w10⟩
 dsimp only
 have HM := Lib.hid (HM.out.add hk_w10 hv_w10)
 obtain ⟨vo_w10, vc_w10, rfl, _⟩ := hv_w10.form
 clear hv_w10 hk_w10
 go_wp2_with fail
 refine ((HC3).out _ _ _ (HM.out.get _ a (by simp)) (HM.out.get _ b (by simp))).mono ?_
 rintro e w11 ⟨v_w11, rfl, hv_w11, hk_w11⟩
 dsimp only
 have HM := Lib.hid (HM.out.add hk_w11 hv_w11)
 obtain ⟨vo_w11, vc_w11, rfl, _⟩ := hv_w11.form
 clear hv_w11 hk_w11
 go_wp2_with fail
 refine (equal_t (Eq.refl (combK 3 a b)) _ _ _ (HM.out.get (.slice vo_w10 _ vc_w10) (combK 3 a b) (by simp)) (HM.out.get (.slice vo_w11 _ vc_w11) (combK 3 a b) (by simp)) (L3.out)).mono ?_
 rintro e w12 ⟨rfl, hk_w12⟩
 dsimp only
 have HM := Lib.hid (HM.out.move hk_w12)
 clear hk_w12
 go_wp2_with fail
 go_ret
 exact ⟨rfl, HM.out.1⟩
open Go.ChangeShapes Go.WideShapes Go.ChangeAt
open Go.ChangeMaps (open_string shut_string)
theorem periodCombines_walk (v0 v1 : Value) (w : World) (m0 : SpArg w v0) (m1 : SpArg w v1) :
  Calls Tryz.prog 4 #[v0, v1] w fun e w' => e = .returned (.bool true) ∧ Below w.heap.size w w' :=
 by
 obtain ⟨l, hl, ql⟩ := m0
 obtain ⟨k, hk, qk⟩ := m1
 exact (periodCombines_c l k w v0 v1 hl hk ql qk).mono fun e w2 h => ⟨h.1, h.2.below0⟩
theorem periodCombines_own : ownKnob Tryz.prog.godebug = none := by kernel_rfl
theorem periodCombines_laidOut : laidOutB Tryz.prog = true := by kernel_rfl
set_option maxRecDepth 100000 in
theorem periodCombines_lifted (os : Os) (started : os.Started) (H : Type) (enc : TypeId × Value → H) :
  ReturnsInHanded {} Tryz.checked os 4 .any (fun w args => (Rows.periodCombinesSpec.pre enc Tryz.prog Tryz.f4 Rows.periodCombinesRow.domain false w args ∧ laidMetH Tryz.prog Rows.periodCombinesRow.laid w) ∧ sizedMet enc Tryz.prog Tryz.f4 (OpenSpec.ofChange Rows.periodCombinesSpec) false w args)
   (Rows.periodCombinesSpec.post enc Tryz.prog Tryz.f4 false true false false) := by
 refine returnsInHanded_of_change_and (C := Tryz.checked) (X := fun w _ => laidMetH Tryz.prog Rows.periodCombinesRow.laid w) (fun _ _ _ hh h => h.of_heap hh) periodCombines_own started (by kernel_rfl) Tryz.func4
  (ChangeSpec.witness_shaped (enc := enc) (C := Tryz.checked) (os := os) (X := fun w _ => laidMetH Tryz.prog Rows.periodCombinesRow.laid w) false (World.laidAll Tryz.prog os Rows.periodCombinesRow.laid) #[.slice none 0 0, .slice none 0 0] 8 (World.laidAll_os _ _ _)
   (World.shaped_of_ZipB (by kernel_rfl) (by kernel_rfl)) (by kernel_rfl) (by kernel_rfl) (by kernel_rfl)
   (by rw [MakeChecks.laidMetH_plain _ _ _ (by kernel_rfl)]; exact laidMet_laidAll _ (by kernel_rfl) (by kernel_rfl))) ?_
 intro W base args ds gs before hval0 hW hcnd _ _ _
 have hval : ∀ (j : Nat) t v, Tryz.f4.params[j]? = some t → args[j]? = some v → Value.okWide Tryz.prog W .any base t v := hval0
 have hW' := hW
 obtain ⟨p, q, hA0, hV, rfl, hfz, hnd⟩ := hW
 have hA : DataW.TrodAll enc Tryz.prog W 0 (fun _ => true) true Tryz.f4.params.toList args.toList ds p := hA0
 rw [Tryz.params4] at hA hval
 obtain ⟨v0, vs0, d0, ds0, p0, q0, hargs, rfl, rfl, h0, r0⟩ := trodAll_cons hA
 obtain ⟨v1, vs1, d1, ds1, p1, q1, rfl, rfl, rfl, h1, r1⟩ := trodAll_cons r0
 obtain ⟨rfl, rfl, rfl⟩ := trodAll_nil r1
 obtain rfl : args = #[v0, v1] := by cases args; simp_all
 obtain ⟨rfl, rfl⟩ := trodVars_none hV
 have k0 := h0
 have lt0 : ∀ x ∈ p0, x.block < W.heap.size := by obtain ⟨m, hm⟩ := k0; exact DataW.trod_lt m _ _ _ hm
 have k1 := h1
 have lt1 : ∀ x ∈ p1, x.block < W.heap.size := by obtain ⟨m, hm⟩ := k1; exact DataW.trod_lt m _ _ _ hm
 have m0 : SpArg W v0 := SpArg_open (hval 0 22 v0 rfl rfl) h0
 have m1 : SpArg W v1 := SpArg_open (hval 1 22 v1 rfl rfl) h1
 clear hA0 hval0
 refine (periodCombines_walk v0 v1 W m0 m1).mono fun e W' ⟨he, bel⟩ => ?_
 subst he
 exact ⟨_, rfl, _, _, _, [], _, [], hW', trodAll_mk1 (shut_bool Tryz.underlying4 _), (trodAll_cons_mk (Below.trod periodCombines_laidOut (by kernel_rfl) (of_decide_eq_true (by kernel_rfl)) k0 bel lt0) (trodAll_cons_mk (Below.trod periodCombines_laidOut (by kernel_rfl) (of_decide_eq_true (by kernel_rfl)) k1 bel lt1) trodAll_mk0)), rfl, bel.frame _, fun h => by cases h⟩
theorem periodCombines_over : Rows.periodCombinesRow.holds Tryz.pinned (OpenSpec.ofChange Rows.periodCombinesSpec) :=
 OpenClaim.holds_of_wide 4 Tryz.f4 rfl rfl rfl rfl rfl rfl rfl ⟨rfl, rfl, rfl, rfl, rfl⟩ rfl rfl rfl rfl rfl (by kernel_rfl) Tryz.func4 (by kernel_rfl)
  (of_decide_eq_true (by kernel_rfl)) (by unfold Func.isWrapper; first | (rw [if_pos (by decide +kernel)]; kernel_rfl) | (rw [if_neg (by decide +kernel)]; exact ⟨rfl, rfl⟩))
  (fun os started H enc _ => periodCombines_lifted os started H enc)
theorem periodCombines_proved : Rows.PeriodCombinesCardSaid :=
 Claim7.holds_tied_plain_at .later [] [.data, .pinned] true Rows.periodCombinesCard.stood.harness false periodCombines_over (fun _ h => by cases h) (by kernel_rfl) (fun _ h => by cases h) periodCombines_row_tie rfl ⟨rfl, rfl⟩ (by kernel_rfl) rfl
  (fun f fn hf hfn => by
   obtain rfl : f = 4 := Option.some.inj ((show Tryz.prog.funcNamed Rows.periodCombinesRow.func = some 4 by kernel_rfl).symm.trans hf) |>.symm
   obtain rfl : fn = Tryz.f4 := (Option.some.inj (Tryz.func4.symm.trans hfn)).symm
   exact ⟨by kernel_rfl, fun j t ht => by
    rw [Tryz.params4] at ht
    have hm : t ∈ [22, 22] := by simpa using Array.mem_of_getElem? ht
    have hall : ([22, 22].all fun u => !Tryz.prog.wantsStandIn u) = true := by kernel_rfl
    exact (show Tryz.prog.wantsStandIn t = false by simpa using List.all_eq_true.1 hall t hm)⟩)
  (by kernel_rfl)
end Go.Proofs.YteknldaoegccaaaGreatDoor
