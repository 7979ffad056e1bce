/- For any three lists of spans, union and intersection of the periods that they describe commute, are associative, distribute over one another, and agree with differences; for every three lists. -/
import Derived.SevenTiedAt
import Derived.Lay
import Derived.MakeChecks
import Derived.LaidLaws
import Derived.Test.YteknldaoegccaaaGreatDoorZ38
import Derived.Test.YteknldaoegccaaaGreatDoorChecked
import Derived.Test.YteknldaoegccaaaGreatDoorCards
import Derived.Test.YteknldaoegccaaaGreatDoorTie
set_option linter.unusedVariables false
set_option linter.unusedSimpArgs false
set_option maxRecDepth 100000
namespace Go.Proofs.YteknldaoegccaaaGreatDoor
open Go.RowKit
open Classical
set_option maxHeartbeats 8000000 in
theorem periodAlgebra_c (l k j : List SpanA) (w : World) (sv tv uv : Value) (hl : SpQ w sv l) (hk : SpQ w tv k) (hj : SpQ w uv j) (hl9 : l.length ≤ 9223372036854775807) (hk9 : k.length ≤ 9223372036854775807) (hj9 : j.length ≤ 9223372036854775807) :
  Calls Tryz.prog 5 #[sv, tv, uv] w fun e w' => e = .returned (.bool true) ∧ Keep [] w w' := by
 obtain ⟨S, hS⟩ : ∃ S, ptsL (ivsOf l) ++ (ptsL (ivsOf k) ++ ptsL (ivsOf j)) = S := ⟨_, rfl⟩
 have hfew : S.length ≤ 1000 := by
  have := ptsOf_len l
  have := ptsOf_len k
  have := ptsOf_len j
  rw [← hS, List.length_append, List.length_append]; omega
 have HL := Lib.hid (fun (w1 : World) L (h : MP S w w1 L) => h.period hl hl9 (by rw [← hS]; simp +contextual))
 have HK := Lib.hid (fun (w1 : World) L (h : MP S w w1 L) => h.period hk hk9 (by rw [← hS]; simp +contextual))
 have HJ := Lib.hid (fun (w1 : World) L (h : MP S w w1 L) => h.period hj hj9 (by rw [← hS]; simp +contextual))
 have HNa := Lib.hid (perOf_norm l)
 have HM := Lib.hid (MP.start hfew w)
 obtain ⟨ao, ac, rfl, _⟩ := hl
 obtain ⟨bo, bc, rfl, _⟩ := hk
 obtain ⟨co, cc, rfl, _⟩ := hj
 clear hl9 hk9 hj9 hfew hS
 generalize perOf l = a at *
 generalize perOf k = b at *
 generalize perOf j = c at *
 go_enter Tryz.func5, Tryz.ntmps5
 go_wp2_with fail
 refine (HL.out _ _ HM.out).mono ?_
 rintro e wa ⟨vo_wa, vc_wa, rfl, hm_wa⟩
 dsimp only
 have HM := Lib.hid hm_wa
 clear hm_wa
 go_wp2_with fail
 refine (HK.out _ _ HM.out).mono ?_
 rintro e wb ⟨vo_wb, vc_wb, rfl, hm_wb⟩
 dsimp only
 have HM := Lib.hid hm_wb
 clear hm_wb
 go_wp2_with fail
 refine (HJ.out _ _ HM.out).mono ?_
 rintro e wc ⟨vo_wc, vc_wc, rfl, hm_wc⟩
 dsimp only
 have HM := Lib.hid hm_wc
 clear hm_wc
 go_wp2_with fail
 clear HL HK HJ
 refine (HM.out.known).mono ?_
 rintro e e1 ⟨rfl, hm_e1⟩
 dsimp only
 have HM := Lib.hid hm_e1
 clear hm_e1
 go_wp2_with fail
 refine (HM.out.inter (v := .slice vo_wa (a).length vc_wa) (a := a) (u := .slice vo_wb (b).length vc_wb) (b := b) (by simp) (by simp)).mono ?_
 rintro e x1 ⟨vo_x1, vc_x1, rfl, hm_x1⟩
 dsimp only
 have HM := Lib.hid hm_x1
 clear hm_x1
 go_wp2_with fail
 refine (HM.out.minus (v := .slice vo_wa (a).length vc_wa) (a := a) (u := .slice vo_wb (b).length vc_wb) (b := b) (by simp) (by simp)).mono ?_
 rintro e x2 ⟨vo_x2, vc_x2, rfl, hm_x2⟩
 dsimp only
 have HM := Lib.hid hm_x2
 clear hm_x2
 go_wp2_with fail
 refine (HM.out.inter (v := .slice vo_wb (b).length vc_wb) (a := b) (u := .slice vo_wa (a).length vc_wa) (b := a) (by simp) (by simp)).mono ?_
 rintro e x3 ⟨vo_x3, vc_x3, rfl, hm_x3⟩
 dsimp only
 have HM := Lib.hid hm_x3
 clear hm_x3
 go_wp2_with fail
 refine (HM.out.eq (v := .slice vo_x1 (combK 2 a b).length vc_x1) (a := combK 2 a b) (u := .slice vo_x3 (combK 2 b a).length vc_x3) (b := combK 2 b a) (by simp) (by simp) (alg1 a b)).mono ?_
 rintro e e2 ⟨rfl, hm_e2⟩
 dsimp only
 have HM := Lib.hid hm_e2
 clear hm_e2
 go_wp2_with fail
 refine (HM.out.union (v := .slice vo_wa (a).length vc_wa) (a := a) (u := .slice vo_wb (b).length vc_wb) (b := b) (by simp) (by simp)).mono ?_
 rintro e x4 ⟨vo_x4, vc_x4, rfl, hm_x4⟩
 dsimp only
 have HM := Lib.hid hm_x4
 clear hm_x4
 go_wp2_with fail
 refine (HM.out.union (v := .slice vo_wb (b).length vc_wb) (a := b) (u := .slice vo_wa (a).length vc_wa) (b := a) (by simp) (by simp)).mono ?_
 rintro e x5 ⟨vo_x5, vc_x5, rfl, hm_x5⟩
 dsimp only
 have HM := Lib.hid hm_x5
 clear hm_x5
 go_wp2_with fail
 refine (HM.out.eq (v := .slice vo_x4 (combK 1 a b).length vc_x4) (a := combK 1 a b) (u := .slice vo_x5 (combK 1 b a).length vc_x5) (b := combK 1 b a) (by simp) (by simp) (alg2 a b)).mono ?_
 rintro e e3 ⟨rfl, hm_e3⟩
 dsimp only
 have HM := Lib.hid hm_e3
 clear hm_e3
 go_wp2_with fail
 refine (HM.out.minus (v := .slice vo_wa (a).length vc_wa) (a := a) (u := .slice vo_x2 (combK 3 a b).length vc_x2) (b := combK 3 a b) (by simp) (by simp)).mono ?_
 rintro e x6 ⟨vo_x6, vc_x6, rfl, hm_x6⟩
 dsimp only
 have HM := Lib.hid hm_x6
 clear hm_x6
 go_wp2_with fail
 refine (HM.out.eq (v := .slice vo_x6 (combK 3 a (combK 3 a b)).length vc_x6) (a := combK 3 a (combK 3 a b)) (u := .slice vo_x1 (combK 2 a b).length vc_x1) (b := combK 2 a b) (by simp) (by simp) (alg3 a b)).mono ?_
 rintro e e4 ⟨rfl, hm_e4⟩
 dsimp only
 have HM := Lib.hid hm_e4
 clear hm_e4
 go_wp2_with fail
 refine (HM.out.union (v := .slice vo_x1 (combK 2 a b).length vc_x1) (a := combK 2 a b) (u := .slice vo_x2 (combK 3 a b).length vc_x2) (b := combK 3 a b) (by simp) (by simp)).mono ?_
 rintro e x7 ⟨vo_x7, vc_x7, rfl, hm_x7⟩
 dsimp only
 have HM := Lib.hid hm_x7
 clear hm_x7
 go_wp2_with fail
 refine (HM.out.eq (v := .slice vo_x7 (combK 1 (combK 2 a b) (combK 3 a b)).length vc_x7) (a := combK 1 (combK 2 a b) (combK 3 a b)) (u := .slice vo_wa (a).length vc_wa) (b := a) (by simp) (by simp) (alg4 HNa.out)).mono ?_
 rintro e e5 ⟨rfl, hm_e5⟩
 dsimp only
 have HM := Lib.hid hm_e5
 clear hm_e5
 go_wp2_with fail
 refine (HM.out.union (v := .slice vo_wa (a).length vc_wa) (a := a) (u := .slice vo_wb (b).length vc_wb) (b := b) (by simp) (by simp)).mono ?_
 rintro e y1 ⟨vo_y1, vc_y1, rfl, hm_y1⟩
 dsimp only
 have HM := Lib.hid hm_y1
 clear hm_y1
 go_wp2_with fail
 refine (HM.out.union (v := .slice vo_y1 (combK 1 a b).length vc_y1) (a := combK 1 a b) (u := .slice vo_wc (c).length vc_wc) (b := c) (by simp) (by simp)).mono ?_
 rintro e y2 ⟨vo_y2, vc_y2, rfl, hm_y2⟩
 dsimp only
 have HM := Lib.hid hm_y2
 clear hm_y2
 go_wp2_with fail
 refine (HM.out.union (v := .slice vo_wb (b).length vc_wb) (a := b) (u := .slice vo_wc (c).length vc_wc) (b := c) (by simp) (by simp)).mono ?_
 rintro e y3 ⟨vo_y3, vc_y3, rfl, hm_y3⟩
 dsimp only
 have HM := Lib.hid hm_y3
 clear hm_y3
 go_wp2_with fail
 refine (HM.out.union (v := .slice vo_wa (a).length vc_wa) (a := a) (u := .slice vo_y3 (combK 1 b c).length vc_y3) (b := combK 1 b c) (by simp) (by simp)).mono ?_
 rintro e y4 ⟨vo_y4, vc_y4, rfl, hm_y4⟩
 dsimp only
 have HM := Lib.hid hm_y4
 clear hm_y4
 go_wp2_with fail
 refine (HM.out.eq (v := .slice vo_y2 (combK 1 (combK 1 a b) c).length vc_y2) (a := combK 1 (combK 1 a b) c) (u := .slice vo_y4 (combK 1 a (combK 1 b c)).length vc_y4) (b := combK 1 a (combK 1 b c)) (by simp) (by simp) (alg5 a b c)).mono ?_
 rintro e e6 ⟨rfl, hm_e6⟩
 dsimp only
 have HM := Lib.hid hm_e6
 clear hm_e6
 go_wp2_with fail
 refine (HM.out.inter (v := .slice vo_x1 (combK 2 a b).length vc_x1) (a := combK 2 a b) (u := .slice vo_wc (c).length vc_wc) (b := c) (by simp) (by simp)).mono ?_
 rintro e y5 ⟨vo_y5, vc_y5, rfl, hm_y5⟩
 dsimp only
 have HM := Lib.hid hm_y5
 clear hm_y5
 go_wp2_with fail
 refine (HM.out.inter (v := .slice vo_wb (b).length vc_wb) (a := b) (u := .slice vo_wc (c).length vc_wc) (b := c) (by simp) (by simp)).mono ?_
 rintro e y6 ⟨vo_y6, vc_y6, rfl, hm_y6⟩
 dsimp only
 have HM := Lib.hid hm_y6
 clear hm_y6
 go_wp2_with fail
 refine (HM.out.inter (v := .slice vo_wa (a).length vc_wa) (a := a) (u := .slice vo_y6 (combK 2 b c).length vc_y6) (b := combK 2 b c) (by simp) (by simp)).mono ?_
 rintro e y7 ⟨vo_y7, vc_y7, rfl, hm_y7⟩
 dsimp only
 have HM := Lib.hid hm_y7
 clear hm_y7
 go_wp2_with fail
 refine (HM.out.eq (v := .slice vo_y5 (combK 2 (combK 2 a b) c).length vc_y5) (a := combK 2 (combK 2 a b) c) (u := .slice vo_y7 (combK 2 a (combK 2 b c)).length vc_y7) (b := combK 2 a (combK 2 b c)) (by simp) (by simp) (alg6 a b c)).mono ?_
 rintro e e7 ⟨rfl, hm_e7⟩
 dsimp only
 have HM := Lib.hid hm_e7
 clear hm_e7
 go_wp2_with fail
 refine (HM.out.union (v := .slice vo_wa (a).length vc_wa) (a := a) (u := .slice vo_wb (b).length vc_wb) (b := b) (by simp) (by simp)).mono ?_
 rintro e z1 ⟨vo_z1, vc_z1, rfl, hm_z1⟩
 dsimp only
 have HM := Lib.hid hm_z1
 clear hm_z1
 go_wp2_with fail
 refine (HM.out.inter (v := .slice vo_z1 (combK 1 a b).length vc_z1) (a := combK 1 a b) (u := .slice vo_wc (c).length vc_wc) (b := c) (by simp) (by simp)).mono ?_
 rintro e z2 ⟨vo_z2, vc_z2, rfl, hm_z2⟩
 dsimp only
 have HM := Lib.hid hm_z2
 clear hm_z2
 go_wp2_with fail
 refine (HM.out.inter (v := .slice vo_wa (a).length vc_wa) (a := a) (u := .slice vo_wc (c).length vc_wc) (b := c) (by simp) (by simp)).mono ?_
 rintro e z3 ⟨vo_z3, vc_z3, rfl, hm_z3⟩
 dsimp only
 have HM := Lib.hid hm_z3
 clear hm_z3
 go_wp2_with fail
 refine (HM.out.inter (v := .slice vo_wb (b).length vc_wb) (a := b) (u := .slice vo_wc (c).length vc_wc) (b := c) (by simp) (by simp)).mono ?_
 rintro e z4 ⟨vo_z4, vc_z4, rfl, hm_z4⟩
 dsimp only
 have HM := Lib.hid hm_z4
 clear hm_z4
 go_wp2_with fail
 refine (HM.out.union (v := .slice vo_z3 (combK 2 a c).length vc_z3) (a := combK 2 a c) (u := .slice vo_z4 (combK 2 b c).length vc_z4) (b := combK 2 b c) (by simp) (by simp)).mono ?_
 rintro e z5 ⟨vo_z5, vc_z5, rfl, hm_z5⟩
 dsimp only
 have HM := Lib.hid hm_z5
 clear hm_z5
 go_wp2_with fail
 refine (HM.out.eq (v := .slice vo_z2 (combK 2 (combK 1 a b) c).length vc_z2) (a := combK 2 (combK 1 a b) c) (u := .slice vo_z5 (combK 1 (combK 2 a c) (combK 2 b c)).length vc_z5) (b := combK 1 (combK 2 a c) (combK 2 b c)) (by simp) (by simp) (alg7 a b c)).mono ?_
 rintro e e8 ⟨rfl, hm_e8⟩
 dsimp only
 have HM := Lib.hid hm_e8
 clear hm_e8
 go_wp2_with fail
 go_ret
 exact ⟨rfl, HM.out.keep⟩
open Go.ChangeShapes Go.WideShapes Go.ChangeAt
open Go.ChangeMaps (open_string shut_string)
theorem periodAlgebra_walk (v0 v1 v2 : Value) (w : World) (m0 : SpArg w v0) (m1 : SpArg w v1) (m2 : SpArg w v2) :
  Calls Tryz.prog 5 #[v0, v1, v2] w fun e w' => e = .returned (.bool true) ∧ Below w.heap.size w w' :=
 by
 obtain ⟨l, hl, ql⟩ := m0
 obtain ⟨k, hk, qk⟩ := m1
 obtain ⟨j, hj, qj⟩ := m2
 exact (periodAlgebra_c l k j w v0 v1 v2 hl hk hj ql qk qj).mono fun e w2 h => ⟨h.1, h.2.below0⟩
theorem periodAlgebra_own : ownKnob Tryz.prog.godebug = none := by kernel_rfl
theorem periodAlgebra_laidOut : laidOutB Tryz.prog = true := by kernel_rfl
set_option maxRecDepth 100000 in
theorem periodAlgebra_lifted (os : Os) (started : os.Started) (H : Type) (enc : TypeId × Value → H) :
  ReturnsInHanded {} Tryz.checked os 5 .any (fun w args => (Rows.periodAlgebraSpec.pre enc Tryz.prog Tryz.f5 Rows.periodAlgebraRow.domain false w args ∧ laidMetH Tryz.prog Rows.periodAlgebraRow.laid w) ∧ sizedMet enc Tryz.prog Tryz.f5 (OpenSpec.ofChange Rows.periodAlgebraSpec) false w args)
   (Rows.periodAlgebraSpec.post enc Tryz.prog Tryz.f5 false true false false) := by
 refine returnsInHanded_of_change_and (C := Tryz.checked) (X := fun w _ => laidMetH Tryz.prog Rows.periodAlgebraRow.laid w) (fun _ _ _ hh h => h.of_heap hh) periodAlgebra_own started (by kernel_rfl) Tryz.func5
  (ChangeSpec.witness_shaped (enc := enc) (C := Tryz.checked) (os := os) (X := fun w _ => laidMetH Tryz.prog Rows.periodAlgebraRow.laid w) false (World.laidAll Tryz.prog os Rows.periodAlgebraRow.laid) #[.slice none 0 0, .slice none 0 0, .slice none 0 0] 8 (World.laidAll_os _ _ _)
   (World.shaped_of_ZipB (by kernel_rfl) (by kernel_rfl)) (by kernel_rfl) (by kernel_rfl) (by kernel_rfl)
   (by rw [MakeChecks.laidMetH_plain _ _ _ (by kernel_rfl)]; exact laidMet_laidAll _ (by kernel_rfl) (by kernel_rfl))) ?_
 intro W base args ds gs before hval0 hW hcnd _ _ _
 have hval : ∀ (j : Nat) t v, Tryz.f5.params[j]? = some t → args[j]? = some v → Value.okWide Tryz.prog W .any base t v := hval0
 have hW' := hW
 obtain ⟨p, q, hA0, hV, rfl, hfz, hnd⟩ := hW
 have hA : DataW.TrodAll enc Tryz.prog W 0 (fun _ => true) true Tryz.f5.params.toList args.toList ds p := hA0
 rw [Tryz.params5] at hA hval
 obtain ⟨v0, vs0, d0, ds0, p0, q0, hargs, rfl, rfl, h0, r0⟩ := trodAll_cons hA
 obtain ⟨v1, vs1, d1, ds1, p1, q1, rfl, rfl, rfl, h1, r1⟩ := trodAll_cons r0
 obtain ⟨v2, vs2, d2, ds2, p2, q2, rfl, rfl, rfl, h2, r2⟩ := trodAll_cons r1
 obtain ⟨rfl, rfl, rfl⟩ := trodAll_nil r2
 obtain rfl : args = #[v0, v1, v2] := by cases args; simp_all
 obtain ⟨rfl, rfl⟩ := trodVars_none hV
 have k0 := h0
 have lt0 : ∀ x ∈ p0, x.block < W.heap.size := by obtain ⟨m, hm⟩ := k0; exact DataW.trod_lt m _ _ _ hm
 have k1 := h1
 have lt1 : ∀ x ∈ p1, x.block < W.heap.size := by obtain ⟨m, hm⟩ := k1; exact DataW.trod_lt m _ _ _ hm
 have k2 := h2
 have lt2 : ∀ x ∈ p2, x.block < W.heap.size := by obtain ⟨m, hm⟩ := k2; exact DataW.trod_lt m _ _ _ hm
 have m0 : SpArg W v0 := SpArg_open (hval 0 22 v0 rfl rfl) h0
 have m1 : SpArg W v1 := SpArg_open (hval 1 22 v1 rfl rfl) h1
 have m2 : SpArg W v2 := SpArg_open (hval 2 22 v2 rfl rfl) h2
 clear hA0 hval0
 refine (periodAlgebra_walk v0 v1 v2 W m0 m1 m2).mono fun e W' ⟨he, bel⟩ => ?_
 subst he
 exact ⟨_, rfl, _, _, _, [], _, [], hW', trodAll_mk1 (shut_bool Tryz.underlying4 _), (trodAll_cons_mk (Below.trod periodAlgebra_laidOut (by kernel_rfl) (of_decide_eq_true (by kernel_rfl)) k0 bel lt0) (trodAll_cons_mk (Below.trod periodAlgebra_laidOut (by kernel_rfl) (of_decide_eq_true (by kernel_rfl)) k1 bel lt1) (trodAll_cons_mk (Below.trod periodAlgebra_laidOut (by kernel_rfl) (of_decide_eq_true (by kernel_rfl)) k2 bel lt2) trodAll_mk0))), rfl, bel.frame _, fun h => by cases h⟩
theorem periodAlgebra_over : Rows.periodAlgebraRow.holds Tryz.pinned (OpenSpec.ofChange Rows.periodAlgebraSpec) :=
 OpenClaim.holds_of_wide 5 Tryz.f5 rfl rfl rfl rfl rfl rfl rfl ⟨rfl, rfl, rfl, rfl, rfl⟩ rfl rfl rfl rfl rfl (by kernel_rfl) Tryz.func5 (by kernel_rfl)
  (of_decide_eq_true (by kernel_rfl)) (by unfold Func.isWrapper; first | (rw [if_pos (by decide +kernel)]; kernel_rfl) | (rw [if_neg (by decide +kernel)]; exact ⟨rfl, rfl⟩))
  (fun os started H enc _ => periodAlgebra_lifted os started H enc)
theorem periodAlgebra_proved : Rows.PeriodAlgebraCardSaid :=
 Claim7.holds_tied_plain_at .later [] [.data, .pinned] true Rows.periodAlgebraCard.stood.harness false periodAlgebra_over (fun _ h => by cases h) (by kernel_rfl) (fun _ h => by cases h) periodAlgebra_row_tie rfl ⟨rfl, rfl⟩ (by kernel_rfl) rfl
  (fun f fn hf hfn => by
   obtain rfl : f = 5 := Option.some.inj ((show Tryz.prog.funcNamed Rows.periodAlgebraRow.func = some 5 by kernel_rfl).symm.trans hf) |>.symm
   obtain rfl : fn = Tryz.f5 := (Option.some.inj (Tryz.func5.symm.trans hfn)).symm
   exact ⟨by kernel_rfl, fun j t ht => by
    rw [Tryz.params5] at ht
    have hm : t ∈ [22, 22, 22] := by simpa using Array.mem_of_getElem? ht
    have hall : ([22, 22, 22].all fun u => !Tryz.prog.wantsStandIn u) = true := by kernel_rfl
    exact (show Tryz.prog.wantsStandIn t = false by simpa using List.all_eq_true.1 hall t hm)⟩)
  (by kernel_rfl)
end Go.Proofs.YteknldaoegccaaaGreatDoor
