/- For any period of up to eight intervals and any fraction, Shift moves all instants by it, and back; for every list and every fraction. -/
import Derived.SevenTiedAt
import Derived.Lay
import Derived.MakeChecks
import Derived.LaidLaws
import Derived.Test.YteknldaoegccaaaGreatDoorW40
import Derived.Test.YteknldaoegccaaaGreatDoorW37
import Derived.Test.YteknldaoegccaaaGreatDoorChecked
import Derived.Test.YteknldaoegccaaaGreatDoorCards
import Derived.Test.YteknldaoegccaaaGreatDoorTie
set_option linter.unusedVariables false
set_option linter.unusedSimpArgs false
set_option maxRecDepth 100000
namespace Go.Proofs.YteknldaoegccaaaGreatDoor
open Go.RowKit
open Classical
set_option maxHeartbeats 8000000 in
theorem periodShifts_c (l : List SpanA) (a : FrA) (w : World) (sv : Value) (hl : SpQ w sv l) (hl9 : l.length ≤ 9223372036854775807) :
  Calls Tryz.prog 9 #[sv, a.v] w fun e w' => e = .returned (.bool true) ∧ Keep [] w w' := by
 have HPw := Lib.hid (fun u (hu : Keep [] w u) => lperiod_c l u sv (hl.later hu) hl9)
 have HR := Lib.hid (fun u => Rat_c a u)
 have hq := a.fq
 have hN : (perOf l).length ≤ 10000 := by
  have h := (perOf_per l).len
  have h2 := ptsOf_len l
  omega
 have hsm := perOf_sm l
 obtain ⟨ao, ac, rfl, _⟩ := hl
 clear hl9
 have hnq := hq.neg
 have HBk := Lib.hid (mvL_back hsm (by decide) hq)
 have hsm2 : ∀ i ∈ (perOf l).map (mvI a.q), SmI 28 i := fun i hi => by
  obtain ⟨j, hj, rfl⟩ := List.mem_map.1 hi
  exact mvI_sm (hsm j hj) (by decide) hq
 have HS := Lib.hid (fun u v (hv : IvR u v (perOf l)) => shift_p (perOf l) a.q 3 (by decide) hsm hq u v hv hN)
 have HRS := Lib.hid (fun u v (hv : IvR u v (perOf l)) => rshift_c (perOf l) a.q 3 (by decide) hsm hq u v hv hN)
 have HS2 := Lib.hid (fun u v (hv : IvR u v ((perOf l).map (mvI a.q))) => shift_p ((perOf l).map (mvI a.q)) (-a.q) 28 (by decide) hsm2 hnq u v hv (by rw [List.length_map]; exact hN))
 have HNg := Lib.hid (fun u => rneg_c a.q u)
 have hN2 : ((perOf l).map (mvI a.q)).length ≤ 10000 := by rw [List.length_map]; exact hN
 rw [HBk.out] at HS2
 clear hsm hsm2 hq hnq HBk
 unfold FrA.v at *
 generalize a.q = q at *
 generalize a.num = num at *
 generalize a.den = den at *
 generalize a.up = up at *
 generalize a.down = down at *
 generalize perOf l = P at *
 generalize P.map (mvI q) = P2 at *
 unfold rv at *
 generalize sgB (-q).num = nb at *
 generalize mgS (-q).num = sb at *
 generalize dnS (-q).den = db at *
 generalize sgB (q).num = na at *
 generalize mgS (q).num = sa at *
 generalize dnS (q).den = da at *
 go_enter Tryz.func9, Tryz.ntmps9
 go_upto_region 1 with (fail)
 obtain ⟨W, ga, hW, ega, bga, hga, hgW, hkW⟩ := al1 w (.cells #[.int .i64 num, .int .i64 den, .int .u8 up, .int .u8 down] 44)
 rw [← hW]
 try rw [ega]
 have Bga := Lib.hid bga
 have HkW := Lib.hid hkW
 clear hW hkW ega bga
 have HP := Lib.hid (fun u (hu : Keep [] W u) => HPw.out u (HkW.out.trans0 hu))
 go_cut [5, 6] (fun pv gp wx => ∃ (po : Option Addr) (pc g : Nat), pv = .slice po P.length pc ∧ gp = .pointer (some ⟨g, 0, none⟩) ∧ MQ W wx [(.slice po P.length pc, P)] [(g, .cells #[.bool na, .string sa, .bool false, .string da] 29)])
 case first =>
  refine wp_region_heldT (S := fun u => Keep [] W u) 5 (by kernel_rfl) (by kernel_rfl) (fun _ _ d _ _ h => by cases d <;> exact h) ?_
  have hS0 := Keep.drew [] W
  have HM := Lib.hid (MQ.start hS0)
  generalize World.drew W = u at *
  refine' heldT_val (v := _) 0 (by rfl) (by decide) (by kernel_rfl) (by kernel_rfl) (by rfl) hS0 (fun w hw => ?hrunf0) (fun K hK => ?hnextf0)
  case hrunf0 => (have pga := cell_of (hw.heap Bga.out (by simp)); go_simp; try rfl)
  rotate_left 0
  go_simp
  refine hK _ ?_
  clear hK K
  refine' heldT_val (v := _) 2 (by rfl) (by decide) (by kernel_rfl) (by kernel_rfl) (by rfl) hS0 (fun w hw => ?hrunf2) (fun K hK => ?hnextf2)
  case hrunf2 => (have pga := cell_of (hw.heap Bga.out (by simp)); go_simp; try rfl)
  rotate_left 0
  go_simp
  refine hK _ ?_
  clear hK K
  refine heldT_two 1 4 (by kernel_rfl) (by decide) (by decide) (by rfl) (by rfl) (by rfl) (by rfl) (fun K hK => ?_) (fun K hK => ?_)
  ·skip
   refine wp_enter 20 #[.slice ao l.length ac] (by go_simp) ?_
   refine (HP.out _ hS0).mono ?_
   rintro e u1 ⟨pv, rfl, hpv, hk1⟩
   obtain ⟨po, pc, rfl, _⟩ := hpv.form
   have hS0 := hS0.trans0 hk1
   have HM := Lib.hid (HM.out.add hk1 hpv)
   clear hpv hk1
   refine ⟨_, rfl, ?_⟩
   refine hK _ _ hS0 ?_
   clear hK K
   refine heldT_two 3 4 (by kernel_rfl) (by decide) (by decide) (by rfl) (by rfl) (by rfl) (by rfl) (fun K hK => ?_) (fun K hK => ?_)
   ·skip
    refine wp_enter 27 #[.agg #[.int .i64 num, .int .i64 den, .int .u8 up, .int .u8 down]] (by go_simp) ?_
    refine (HR.out _).mono ?_
    rintro e u1 ⟨rfl, hk1⟩
    have hS0 := hS0.trans0 hk1
    have HM := Lib.hid (HM.out.move hk1)
    clear hk1
    refine ⟨_, rfl, ?_⟩
    refine hK _ _ hS0 ?_
    clear hK K
    refine heldT_one 4 (by kernel_rfl) (by decide) (by rfl) (by rfl) (fun K hK => ?_)
    obtain ⟨u2, g, e1, e2, hm2⟩ := HM.out.new' (.cells #[.bool false, .string ⟨#[]⟩, .bool false, .string ⟨#[]⟩] 29)
    go_simp
    have HM := Lib.hid hm2
    have hS0 := HM.out.1
    clear e1 e2 hm2
    refine hK _ _ hS0 ?_
    clear hK K
    refine ⟨by kernel_rfl, ?_⟩
    simp only [List.drop_succ_cons, List.drop_zero]
    have Bg := Lib.hid (HM.out.box g (.cells #[.bool false, .string ⟨#[]⟩, .bool false, .string ⟨#[]⟩] 29) (by simp))
    obtain ⟨u9, e9, b9, k9⟩ := st4 (x := .bool na) (y := .string sa) (z := .bool false) (u := .string da) Bg.out
    have HM9 := Lib.hid (HM.out.put (by simp) b9 k9)
    have pg := cell_of Bg.out
    have fg := frozen_of Bg.out
    have lg := lt_of_heap Bg.out
    clear b9 k9 HM
    go_wp2_with fail
    rw [← e9]
    go_meet
    exact ⟨_, _, _, rfl, rfl, HM9.out⟩
   ·skip
    obtain ⟨u2, g, e1, e2, hm2⟩ := HM.out.new' (.cells #[.bool false, .string ⟨#[]⟩, .bool false, .string ⟨#[]⟩] 29)
    go_simp
    have HM := Lib.hid hm2
    have hS0 := HM.out.1
    clear e1 e2 hm2
    refine hK _ _ hS0 ?_
    clear hK K
    refine heldT_one 3 (by kernel_rfl) (by decide) (by rfl) (by rfl) (fun K hK => ?_)
    refine wp_enter 27 #[.agg #[.int .i64 num, .int .i64 den, .int .u8 up, .int .u8 down]] (by go_simp) ?_
    refine (HR.out _).mono ?_
    rintro e u1 ⟨rfl, hk1⟩
    have hS0 := hS0.trans0 hk1
    have HM := Lib.hid (HM.out.move hk1)
    clear hk1
    refine ⟨_, rfl, ?_⟩
    refine hK _ _ hS0 ?_
    clear hK K
    refine ⟨by kernel_rfl, ?_⟩
    simp only [List.drop_succ_cons, List.drop_zero]
    have Bg := Lib.hid (HM.out.box g (.cells #[.bool false, .string ⟨#[]⟩, .bool false, .string ⟨#[]⟩] 29) (by simp))
    obtain ⟨u9, e9, b9, k9⟩ := st4 (x := .bool na) (y := .string sa) (z := .bool false) (u := .string da) Bg.out
    have HM9 := Lib.hid (HM.out.put (by simp) b9 k9)
    have pg := cell_of Bg.out
    have fg := frozen_of Bg.out
    have lg := lt_of_heap Bg.out
    clear b9 k9 HM
    go_wp2_with fail
    rw [← e9]
    go_meet
    exact ⟨_, _, _, rfl, rfl, HM9.out⟩
  ·skip
   obtain ⟨u2, g, e1, e2, hm2⟩ := HM.out.new' (.cells #[.bool false, .string ⟨#[]⟩, .bool false, .string ⟨#[]⟩] 29)
   go_simp
   have HM := Lib.hid hm2
   have hS0 := HM.out.1
   clear e1 e2 hm2
   refine hK _ _ hS0 ?_
   clear hK K
   refine heldT_one 1 (by kernel_rfl) (by decide) (by rfl) (by rfl) (fun K hK => ?_)
   refine wp_enter 20 #[.slice ao l.length ac] (by go_simp) ?_
   refine (HP.out _ hS0).mono ?_
   rintro e u1 ⟨pv, rfl, hpv, hk1⟩
   obtain ⟨po, pc, rfl, _⟩ := hpv.form
   have hS0 := hS0.trans0 hk1
   have HM := Lib.hid (HM.out.add hk1 hpv)
   clear hpv hk1
   refine ⟨_, rfl, ?_⟩
   refine hK _ _ hS0 ?_
   clear hK K
   refine heldT_one 3 (by kernel_rfl) (by decide) (by rfl) (by rfl) (fun K hK => ?_)
   refine wp_enter 27 #[.agg #[.int .i64 num, .int .i64 den, .int .u8 up, .int .u8 down]] (by go_simp) ?_
   refine (HR.out _).mono ?_
   rintro e u1 ⟨rfl, hk1⟩
   have hS0 := hS0.trans0 hk1
   have HM := Lib.hid (HM.out.move hk1)
   clear hk1
   refine ⟨_, rfl, ?_⟩
   refine hK _ _ hS0 ?_
   clear hK K
   refine ⟨by kernel_rfl, ?_⟩
   simp only [List.drop_succ_cons, List.drop_zero]
   have Bg := Lib.hid (HM.out.box g (.cells #[.bool false, .string ⟨#[]⟩, .bool false, .string ⟨#[]⟩] 29) (by simp))
   obtain ⟨u9, e9, b9, k9⟩ := st4 (x := .bool na) (y := .string sa) (z := .bool false) (u := .string da) Bg.out
   have HM9 := Lib.hid (HM.out.put (by simp) b9 k9)
   have pg := cell_of Bg.out
   have fg := frozen_of Bg.out
   have lg := lt_of_heap Bg.out
   clear b9 k9 HM
   go_wp2_with fail
   rw [← e9]
   go_meet
   exact ⟨_, _, _, rfl, rfl, HM9.out⟩
 obtain ⟨po, pc, g, rfl, rfl, hm⟩ := hcut
 have HM := Lib.hid hm
 clear hm
 clear HP HPw HR Bga
 have pg := cell_of (HM.out.box g (.cells #[.bool na, .string sa, .bool false, .string da] 29) (by simp))
 go_wp2_with fail
 clear pg
 refine (HS.out _ _ (HM.out.get _ P (by simp))).mono ?_
 rintro e w1 ⟨v_w1, rfl, hv_w1, hk_w1⟩
 obtain ⟨vo_w1, vc_w1, rfl, _⟩ := hv_w1.form
 dsimp only
 have HM := Lib.hid (HM.out.add hk_w1 hv_w1)
 clear hk_w1 hv_w1
 have pg := cell_of (HM.out.box g (.cells #[.bool na, .string sa, .bool false, .string da] 29) (by simp))
 go_wp2_with fail
 clear pg
 refine (known_c _).mono ?_
 rintro e w2 ⟨rfl, hk_w2⟩
 dsimp only
 have HM := Lib.hid (HM.out.move hk_w2)
 clear hk_w2
 have pg := cell_of (HM.out.box g (.cells #[.bool na, .string sa, .bool false, .string da] 29) (by simp))
 go_wp2_with fail
 clear pg
 refine (HRS.out _ _ (HM.out.get _ P (by simp))).mono ?_
 rintro e w3 ⟨v_w3, rfl, hv_w3, hk_w3⟩
 obtain ⟨vo_w3, vc_w3, rfl, _⟩ := hv_w3.form
 dsimp only
 have HM := Lib.hid (HM.out.add hk_w3 hv_w3)
 clear hk_w3 hv_w3
 have pg := cell_of (HM.out.box g (.cells #[.bool na, .string sa, .bool false, .string da] 29) (by simp))
 go_wp2_with fail
 clear pg
 refine (equal_t (l := P2) (m := P2) rfl w3 (.slice vo_w1 _ vc_w1) (.slice vo_w3 _ vc_w3) (HM.out.get _ _ (by simp)) (HM.out.get _ _ (by simp)) (by omega)).mono ?_
 rintro e w4 ⟨rfl, hk_w4⟩
 dsimp only
 have HM := Lib.hid (HM.out.move hk_w4)
 clear hk_w4
 have pg := cell_of (HM.out.box g (.cells #[.bool na, .string sa, .bool false, .string da] 29) (by simp))
 go_wp2_with fail
 clear pg
 refine (HNg.out _).mono ?_
 rintro e w5 ⟨rfl, hk_w5⟩
 dsimp only
 have HM := Lib.hid (HM.out.move hk_w5)
 clear hk_w5
 have pg := cell_of (HM.out.box g (.cells #[.bool na, .string sa, .bool false, .string da] 29) (by simp))
 go_wp2_with fail
 clear pg
 refine (HS2.out w5 (.slice vo_w1 _ vc_w1) (HM.out.get _ _ (by simp))).mono ?_
 rintro e w6 ⟨v_w6, rfl, hv_w6, hk_w6⟩
 obtain ⟨vo_w6, vc_w6, rfl, _⟩ := hv_w6.form
 dsimp only
 have HM := Lib.hid (HM.out.add hk_w6 hv_w6)
 clear hk_w6 hv_w6
 have pg := cell_of (HM.out.box g (.cells #[.bool na, .string sa, .bool false, .string da] 29) (by simp))
 go_wp2_with fail
 clear pg
 refine (equal_t (l := P) (m := P) rfl w6 (.slice vo_w6 _ vc_w6) (.slice po _ pc) (HM.out.get _ _ (by simp)) (HM.out.get _ _ (by simp)) (by omega)).mono ?_
 rintro e w7 ⟨rfl, hk_w7⟩
 dsimp only
 have HM := Lib.hid (HM.out.move hk_w7)
 clear hk_w7
 have pg := cell_of (HM.out.box g (.cells #[.bool na, .string sa, .bool false, .string da] 29) (by simp))
 go_wp2_with fail
 go_ret
 exact ⟨rfl, HkW.out.trans0 HM.out.1⟩
open Go.ChangeShapes Go.WideShapes Go.ChangeAt
open Go.ChangeMaps (open_string shut_string)
theorem periodShifts_walk (v0 v1 : Value) (w : World) (m0 : SpArg w v0) (m1 : FrArg w v1) :
  Calls Tryz.prog 9 #[v0, v1] w fun e w' => e = .returned (.bool true) ∧ Below w.heap.size w w' :=
 by
 obtain ⟨l, hl, ql⟩ := m0
 obtain ⟨k, rfl⟩ := m1
 exact (periodShifts_c l k w v0 hl ql).mono fun e w2 h => ⟨h.1, h.2.below0⟩
theorem periodShifts_own : ownKnob Tryz.prog.godebug = none := by kernel_rfl
theorem periodShifts_laidOut : laidOutB Tryz.prog = true := by kernel_rfl
set_option maxRecDepth 100000 in
theorem periodShifts_lifted (os : Os) (started : os.Started) (H : Type) (enc : TypeId × Value → H) :
  ReturnsInHanded {} Tryz.checked os 9 .any (fun w args => (Rows.periodShiftsSpec.pre enc Tryz.prog Tryz.f9 Rows.periodShiftsRow.domain false w args ∧ laidMetH Tryz.prog Rows.periodShiftsRow.laid w) ∧ sizedMet enc Tryz.prog Tryz.f9 (OpenSpec.ofChange Rows.periodShiftsSpec) false w args)
   (Rows.periodShiftsSpec.post enc Tryz.prog Tryz.f9 false true false false) := by
 refine returnsInHanded_of_change_and (C := Tryz.checked) (X := fun w _ => laidMetH Tryz.prog Rows.periodShiftsRow.laid w) (fun _ _ _ hh h => h.of_heap hh) periodShifts_own started (by kernel_rfl) Tryz.func9
  (ChangeSpec.witness_shaped (enc := enc) (C := Tryz.checked) (os := os) (X := fun w _ => laidMetH Tryz.prog Rows.periodShiftsRow.laid w) false (World.laidAll Tryz.prog os Rows.periodShiftsRow.laid) #[.slice none 0 0, .agg #[.int .i64 0, .int .i64 0, .int .u8 0, .int .u8 0]] 8 (World.laidAll_os _ _ _)
   (World.shaped_of_ZipB (by kernel_rfl) (by kernel_rfl)) (by kernel_rfl) (by kernel_rfl) (by kernel_rfl)
   (by rw [MakeChecks.laidMetH_plain _ _ _ (by kernel_rfl)]; exact laidMet_laidAll _ (by kernel_rfl) (by kernel_rfl))) ?_
 intro W base args ds gs before hval0 hW hcnd _ _ _
 have hval : ∀ (j : Nat) t v, Tryz.f9.params[j]? = some t → args[j]? = some v → Value.okWide Tryz.prog W .any base t v := hval0
 have hW' := hW
 obtain ⟨p, q, hA0, hV, rfl, hfz, hnd⟩ := hW
 have hA : DataW.TrodAll enc Tryz.prog W 0 (fun _ => true) true Tryz.f9.params.toList args.toList ds p := hA0
 rw [Tryz.params9] at hA hval
 obtain ⟨v0, vs0, d0, ds0, p0, q0, hargs, rfl, rfl, h0, r0⟩ := trodAll_cons hA
 obtain ⟨v1, vs1, d1, ds1, p1, q1, rfl, rfl, rfl, h1, r1⟩ := trodAll_cons r0
 obtain ⟨rfl, rfl, rfl⟩ := trodAll_nil r1
 obtain rfl : args = #[v0, v1] := by cases args; simp_all
 obtain ⟨rfl, rfl⟩ := trodVars_none hV
 have k0 := h0
 have lt0 : ∀ x ∈ p0, x.block < W.heap.size := by obtain ⟨m, hm⟩ := k0; exact DataW.trod_lt m _ _ _ hm
 have k1 := h1
 have lt1 : ∀ x ∈ p1, x.block < W.heap.size := by obtain ⟨m, hm⟩ := k1; exact DataW.trod_lt m _ _ _ hm
 have m0 : SpArg W v0 := SpArg_open (hval 0 22 v0 rfl rfl) h0
 have m1 : FrArg W v1 := FrArg_open (hval 1 44 v1 rfl rfl) h1
 clear hA0 hval0
 refine (periodShifts_walk v0 v1 W m0 m1).mono fun e W' ⟨he, bel⟩ => ?_
 subst he
 exact ⟨_, rfl, _, _, _, [], _, [], hW', trodAll_mk1 (shut_bool Tryz.underlying4 _), (trodAll_cons_mk (Below.trod periodShifts_laidOut (by kernel_rfl) (of_decide_eq_true (by kernel_rfl)) k0 bel lt0) (trodAll_cons_mk (Below.trod periodShifts_laidOut (by kernel_rfl) (of_decide_eq_true (by kernel_rfl)) k1 bel lt1) trodAll_mk0)), rfl, bel.frame _, fun h => by cases h⟩
theorem periodShifts_over : Rows.periodShiftsRow.holds Tryz.pinned (OpenSpec.ofChange Rows.periodShiftsSpec) :=
 OpenClaim.holds_of_wide 9 Tryz.f9 rfl rfl rfl rfl rfl rfl rfl ⟨rfl, rfl, rfl, rfl, rfl⟩ rfl rfl rfl rfl rfl (by kernel_rfl) Tryz.func9 (by kernel_rfl)
  (of_decide_eq_true (by kernel_rfl)) (by unfold Func.isWrapper; first | (rw [if_pos (by decide +kernel)]; kernel_rfl) | (rw [if_neg (by decide +kernel)]; exact ⟨rfl, rfl⟩))
  (fun os started H enc _ => periodShifts_lifted os started H enc)
theorem periodShifts_proved : Rows.PeriodShiftsCardSaid :=
 Claim7.holds_tied_plain_at .later [] [.data, .pinned] true Rows.periodShiftsCard.stood.harness false periodShifts_over (fun _ h => by cases h) (by kernel_rfl) (fun _ h => by cases h) periodShifts_row_tie rfl ⟨rfl, rfl⟩ (by kernel_rfl) rfl
  (fun f fn hf hfn => by
   obtain rfl : f = 9 := Option.some.inj ((show Tryz.prog.funcNamed Rows.periodShiftsRow.func = some 9 by kernel_rfl).symm.trans hf) |>.symm
   obtain rfl : fn = Tryz.f9 := (Option.some.inj (Tryz.func9.symm.trans hfn)).symm
   exact ⟨by kernel_rfl, fun j t ht => by
    rw [Tryz.params9] at ht
    have hm : t ∈ [22, 44] := by simpa using Array.mem_of_getElem? ht
    have hall : ([22, 44].all fun u => !Tryz.prog.wantsStandIn u) = true := by kernel_rfl
    exact (show Tryz.prog.wantsStandIn t = false by simpa using List.all_eq_true.1 hall t hm)⟩)
  (by kernel_rfl)
end Go.Proofs.YteknldaoegccaaaGreatDoor
