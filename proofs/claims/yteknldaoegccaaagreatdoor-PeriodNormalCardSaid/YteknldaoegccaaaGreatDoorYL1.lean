/- For any up to eight intervals, Normal answers the normal form of their union, whatever their order, and is its own normal form; for every list. -/
import Derived.SevenTiedAt
import Derived.Lay
import Derived.MakeChecks
import Derived.LaidLaws
import Derived.Test.YteknldaoegccaaaGreatDoorZ38
import Derived.Test.YteknldaoegccaaaGreatDoorChecked
import Derived.Test.YteknldaoegccaaaGreatDoorCards
import Derived.Test.YteknldaoegccaaaGreatDoorTie
set_option linter.unusedVariables false
set_option linter.unusedSimpArgs false
set_option maxRecDepth 100000
namespace Go.Proofs.YteknldaoegccaaaGreatDoor
open Go.RowKit
open Classical
theorem back_step (L : List (Iv K)) (m : Nat) (h : m < L.length) : (L.drop m).reverse = (L.drop (m + 1)).reverse ++ [L[m]] := by
 rw [List.drop_eq_getElem_cons h, List.reverse_cons]
set_option maxHeartbeats 8000000 in
theorem periodNormal_c (l : List SpanA) (w : World) (sv : Value) (hl : SpQ w sv l) (hl9 : l.length ≤ 9223372036854775807) :
  Calls Tryz.prog 3 #[sv] w fun e w' => e = .returned (.bool true) ∧ Keep [] w w' := by
 have HI := Lib.hid (intervals_c l w sv hl hl9)
 obtain ⟨ao, ac, rfl, _⟩ := hl
 clear hl9
 have hlen := ivsOf_len l
 have hval := ivsOf_valid l
 have hN2 : (normK (ivsOf l)).length ≤ 10000 := by
  have h := (perOf_per l).len
  have h2 := ptsOf_len l
  have h3 : perOf l = normK (ivsOf l) := rfl
  rw [h3] at h
  omega
 generalize ivsOf l = L at *
 have HNn := Lib.hid (combK_norm 1 L [])
 have HV := Lib.hid hval
 clear hval
 go_enter Tryz.func3, Tryz.ntmps3
 go_wp2_with fail
 have HM := Lib.hid (MI.start w)
 refine (HI.out).mono ?_
 rintro e wa ⟨v_wa, rfl, hv_wa, hk_wa⟩
 obtain ⟨vo_wa, vc_wa, rfl, _⟩ := hv_wa.form
 dsimp only
 have HM := Lib.hid (HM.out.add hk_wa hv_wa)
 clear hk_wa hv_wa
 go_wp2_with fail
 clear HI
 refine (pnormal_c L HV.out wa (.slice vo_wa _ vc_wa) (HM.out.get _ L (by simp)) (by omega)).mono ?_
 rintro e wb ⟨v_wb, rfl, hv_wb, hk_wb⟩
 obtain ⟨vo_wb, vc_wb, rfl, _⟩ := hv_wb.form
 dsimp only
 have HM := Lib.hid (HM.out.add hk_wb hv_wb)
 clear hk_wb hv_wb
 go_wp2_with fail
 go_loopw [5, 6] (fun ov c wr => ∃ k : Nat, k ≤ L.length ∧ c = .int .i64 ((k : Int) - 1) ∧ OI_ wb wr ov (L.drop k).reverse) (fun _ c _ => (intOf c + 1).toNat)
 case atStart => exact ⟨L.length, Nat.le_refl _, rfl, by rw [List.drop_eq_nil_of_le (Nat.le_refl _)]; exact OE.nil wb⟩
 case round =>
  obtain ⟨k, hk, rfl, hov⟩ := hrel
  obtain ⟨out, hout⟩ : ∃ out, (L.drop k).reverse = out := ⟨_, rfl⟩
  rw [hout] at hov
  have Hlen := Lib.hid (show out.length = L.length - k by rw [← hout, List.length_reverse, List.length_drop])
  have Hout := Lib.hid hout
  have HO := Lib.hid hov
  obtain ⟨oo, oc, rfl⟩ := hov.form
  clear hov hout
  rcases Nat.eq_zero_or_pos k with rfl | hk0
  ·have HF : Hid (out = L.reverse) := Hout.out.symm
   have HX := Lib.hid (HO.out.read)
   have HK := Lib.hid (HO.out.keep)
   clear HO Hout
   rw [HF.out] at HX
   have hl2 : L.reverse.length = L.length := List.length_reverse
   have hl3 : out.length = L.length := by rw [HF.out, hl2]
   rw [hl3] at *
   go_wp2_with fail
   have HM := Lib.hid ((HM.out.move HK.out).add (Keep.refl _ _) HX.out)
   clear HK HX
   have hd0 : normK L.reverse = normK L := normK_perm (List.reverse_perm L)
   have hn2 : (normK L).length ≤ 10000 := hN2
   refine (known_c _).mono ?_
   rintro e w1 ⟨rfl, hk_w1⟩
   dsimp only
   have HM := Lib.hid (HM.out.move hk_w1)
   clear hk_w1
   go_wp2_with fail
   refine (rnormal_c L w1 (.slice vo_wa _ vc_wa) (HM.out.get _ L (by simp)) (by omega)).mono ?_
   rintro e w2 ⟨v_w2, rfl, hv_w2, hk_w2⟩
   obtain ⟨vo_w2, vc_w2, rfl, _⟩ := hv_w2.form
   dsimp only
   have HM := Lib.hid (HM.out.add hk_w2 hv_w2)
   clear hk_w2 hv_w2
   go_wp2_with fail
   refine (equal_t (l := normK L) (m := normK L) rfl w2 (.slice vo_wb _ vc_wb) (.slice vo_w2 _ vc_w2) (HM.out.get _ _ (by simp)) (HM.out.get _ _ (by simp)) (by omega)).mono ?_
   rintro e w3 ⟨rfl, hk_w3⟩
   dsimp only
   have HM := Lib.hid (HM.out.move hk_w3)
   clear hk_w3
   go_wp2_with fail
   refine (checkN_c (normK L) HNn.out w3 (.slice vo_wb _ vc_wb) (HM.out.get _ _ (by simp)) (by omega)).mono ?_
   rintro e w4 ⟨rfl, hk_w4⟩
   dsimp only
   have HM := Lib.hid (HM.out.move hk_w4)
   clear hk_w4
   go_wp2_with fail
   refine (hd0 ▸ pnormal_c L.reverse (fun i hi => HV.out i (List.mem_reverse.1 hi)) w4 (.slice oo L.length oc) (HM.out.get _ _ (by simp)) (by omega)).mono ?_
   rintro e w5 ⟨v_w5, rfl, hv_w5, hk_w5⟩
   obtain ⟨vo_w5, vc_w5, rfl, _⟩ := hv_w5.form
   dsimp only
   have HM := Lib.hid (HM.out.add hk_w5 hv_w5)
   clear hk_w5 hv_w5
   go_wp2_with fail
   refine (equal_t (l := normK L) (m := normK L) rfl w5 (.slice vo_w5 _ vc_w5) (.slice vo_wb _ vc_wb) (HM.out.get _ _ (by simp)) (HM.out.get _ _ (by simp)) (by omega)).mono ?_
   rintro e w6 ⟨rfl, hk_w6⟩
   dsimp only
   have HM := Lib.hid (HM.out.move hk_w6)
   clear hk_w6
   go_wp2_with fail
   refine (normK_self HNn.out ▸ pnormal_c (normK L) HNn.out.val w6 (.slice vo_wb _ vc_wb) (HM.out.get _ _ (by simp)) (by omega)).mono ?_
   rintro e w7 ⟨v_w7, rfl, hv_w7, hk_w7⟩
   obtain ⟨vo_w7, vc_w7, rfl, _⟩ := hv_w7.form
   dsimp only
   have HM := Lib.hid (HM.out.add hk_w7 hv_w7)
   clear hk_w7 hv_w7
   go_wp2_with fail
   refine (equal_t (l := normK L) (m := normK L) rfl w7 (.slice vo_w7 _ vc_w7) (.slice vo_wb _ vc_wb) (HM.out.get _ _ (by simp)) (HM.out.get _ _ (by simp)) (by omega)).mono ?_
   rintro e w8 ⟨rfl, hk_w8⟩
   dsimp only
   have HM := Lib.hid (HM.out.move hk_w8)
   clear hk_w8
   go_wp2_with fail
   go_ret
   exact ⟨rfl, HM.out.1⟩
  ·obtain ⟨m, rfl⟩ : ∃ m, k = m + 1 := ⟨k - 1, by omega⟩
   have hlt : m < L.length := by omega
   have hc : ((m + 1 : Nat) : Int) - 1 = (m : Int) := by omega
   rw [hc] at *
   clear hc hk0
   have Hstep := Lib.hid (back_step L m hlt)
   obtain ⟨g, o, rfl, hg, hat⟩ := IvR.elem (HM.out.get (.slice vo_wa L.length vc_wa) L (by simp)) m hlt
   generalize L[m] = s at *
   obtain ⟨p, hp⟩ : ∃ p, o + m * 20 = p := ⟨_, rfl⟩
   rw [hp] at hat
   have HL := Lib.hid (load_iv wr g p s (hat.keep (HO.out.keep.block g hg (by simp))))
   clear hat
   go_upto_region 7 with (fail)
   refine wp_region_lit ?_
   refine' wpList_R (v := _) (by rfl) (?hruna) (fun K hK => ?hnexta)
   case hruna => (go_simp; try rfl)
   rotate_left 0
   go_simp
   refine hK _ _ ?_
   clear hK K
   refine' wpList_R (v := _) (by rfl) (?hrunb) (fun K hK => ?hnextb)
   case hrunb => (go_simp; try rfl)
   rotate_left 0
   go_simp
   refine hK _ _ ?_
   clear hK K
   refine' wpList_R (v := _) (by rfl) (?hrunc) (fun K hK => ?hnextc)
   case hrunc => (go_simp; try rfl)
   rotate_left 0
   go_simp
   refine hK _ _ ?_
   clear hK K
   refine' wpList_R (v := _) (by rfl) (?hrund) (fun K hK => ?hnextd)
   case hrund => (go_simp; try rfl)
   rotate_left 0
   go_simp
   refine hK _ _ ?_
   clear hK K
   refine wpList_R (v := iv s) (by rfl) (exec_load _ _ ⟨g, p, none⟩ _ rfl rfl HL.out) (fun K hK => ?_)
   go_simp
   refine hK _ _ ?_
   clear hK K
   obtain ⟨ub, gx, e3, e4, hz1, hkx, hx⟩ := IvR.single s wr
   refine wpList_K (v := .slice (some ⟨wr.heap.size, 0, none⟩) 1 1) (by rfl) (exec_bs 23 1 #[(0, .tmp 22)] #[(0, iv s)] _ rfl (by simp only [List.map_toArray, List.map_cons, List.map_nil]; rfl) (build1_i s _)) (fun K hK => ?_)
   rw [e3, e4]
   clear e3
   go_simp
   refine hK _ _ ?_
   clear hK K
   obtain ⟨v4, u4, hr4, ho4, hn4, _⟩ := IvR.app (ty := 23) (HO.out.later hkx) (.inr (by simp)) hx (by rw [Hlen.out]; simp; omega)
   refine wpList_K (by rfl) (exec_app (.tmp 18) (.tmp 23) 23 _ _ _ rfl rfl rfl hr4) (fun K hK => ?_)
   go_simp
   refine hK _ _ ?_
   clear hK K hr4 hx hkx
   have HN := Lib.hid ho4
   obtain ⟨no, nc, rfl⟩ := ho4.form
   clear ho4 hn4
   go_wp2_with fail
   go_roundw
   case rel => exact ⟨m, by omega, rfl, by rw [Hstep.out, Hout.out]; exact HN.out⟩
   case measure => simp [intOf]
open Go.ChangeShapes Go.WideShapes Go.ChangeAt
open Go.ChangeMaps (open_string shut_string)
theorem periodNormal_walk (v0 : Value) (w : World) (m0 : SpArg w v0) :
  Calls Tryz.prog 3 #[v0] w fun e w' => e = .returned (.bool true) ∧ Below w.heap.size w w' :=
 by
 obtain ⟨l, hl, ql⟩ := m0
 exact (periodNormal_c l w v0 hl ql).mono fun e w2 h => ⟨h.1, h.2.below0⟩
theorem periodNormal_own : ownKnob Tryz.prog.godebug = none := by kernel_rfl
theorem periodNormal_laidOut : laidOutB Tryz.prog = true := by kernel_rfl
set_option maxRecDepth 100000 in
theorem periodNormal_lifted (os : Os) (started : os.Started) (H : Type) (enc : TypeId × Value → H) :
  ReturnsInHanded {} Tryz.checked os 3 .any (fun w args => (Rows.periodNormalSpec.pre enc Tryz.prog Tryz.f3 Rows.periodNormalRow.domain false w args ∧ laidMetH Tryz.prog Rows.periodNormalRow.laid w) ∧ sizedMet enc Tryz.prog Tryz.f3 (OpenSpec.ofChange Rows.periodNormalSpec) false w args)
   (Rows.periodNormalSpec.post enc Tryz.prog Tryz.f3 false true false false) := by
 refine returnsInHanded_of_change_and (C := Tryz.checked) (X := fun w _ => laidMetH Tryz.prog Rows.periodNormalRow.laid w) (fun _ _ _ hh h => h.of_heap hh) periodNormal_own started (by kernel_rfl) Tryz.func3
  (ChangeSpec.witness_shaped (enc := enc) (C := Tryz.checked) (os := os) (X := fun w _ => laidMetH Tryz.prog Rows.periodNormalRow.laid w) false (World.laidAll Tryz.prog os Rows.periodNormalRow.laid) #[.slice none 0 0] 8 (World.laidAll_os _ _ _)
   (World.shaped_of_ZipB (by kernel_rfl) (by kernel_rfl)) (by kernel_rfl) (by kernel_rfl) (by kernel_rfl)
   (by rw [MakeChecks.laidMetH_plain _ _ _ (by kernel_rfl)]; exact laidMet_laidAll _ (by kernel_rfl) (by kernel_rfl))) ?_
 intro W base args ds gs before hval0 hW hcnd _ _ _
 have hval : ∀ (j : Nat) t v, Tryz.f3.params[j]? = some t → args[j]? = some v → Value.okWide Tryz.prog W .any base t v := hval0
 have hW' := hW
 obtain ⟨p, q, hA0, hV, rfl, hfz, hnd⟩ := hW
 have hA : DataW.TrodAll enc Tryz.prog W 0 (fun _ => true) true Tryz.f3.params.toList args.toList ds p := hA0
 rw [Tryz.params3] at hA hval
 obtain ⟨v0, vs0, d0, ds0, p0, q0, hargs, rfl, rfl, h0, r0⟩ := trodAll_cons hA
 obtain ⟨rfl, rfl, rfl⟩ := trodAll_nil r0
 obtain rfl : args = #[v0] := by cases args; simp_all
 obtain ⟨rfl, rfl⟩ := trodVars_none hV
 have k0 := h0
 have lt0 : ∀ x ∈ p0, x.block < W.heap.size := by obtain ⟨m, hm⟩ := k0; exact DataW.trod_lt m _ _ _ hm
 have m0 : SpArg W v0 := SpArg_open (hval 0 22 v0 rfl rfl) h0
 clear hA0 hval0
 refine (periodNormal_walk v0 W m0).mono fun e W' ⟨he, bel⟩ => ?_
 subst he
 exact ⟨_, rfl, _, _, _, [], _, [], hW', trodAll_mk1 (shut_bool Tryz.underlying4 _), (trodAll_cons_mk (Below.trod periodNormal_laidOut (by kernel_rfl) (of_decide_eq_true (by kernel_rfl)) k0 bel lt0) trodAll_mk0), rfl, bel.frame _, fun h => by cases h⟩
theorem periodNormal_over : Rows.periodNormalRow.holds Tryz.pinned (OpenSpec.ofChange Rows.periodNormalSpec) :=
 OpenClaim.holds_of_wide 3 Tryz.f3 rfl rfl rfl rfl rfl rfl rfl ⟨rfl, rfl, rfl, rfl, rfl⟩ rfl rfl rfl rfl rfl (by kernel_rfl) Tryz.func3 (by kernel_rfl)
  (of_decide_eq_true (by kernel_rfl)) (by unfold Func.isWrapper; first | (rw [if_pos (by decide +kernel)]; kernel_rfl) | (rw [if_neg (by decide +kernel)]; exact ⟨rfl, rfl⟩))
  (fun os started H enc _ => periodNormal_lifted os started H enc)
theorem periodNormal_proved : Rows.PeriodNormalCardSaid :=
 Claim7.holds_tied_plain_at .later [] [.data, .pinned] true Rows.periodNormalCard.stood.harness false periodNormal_over (fun _ h => by cases h) (by kernel_rfl) (fun _ h => by cases h) periodNormal_row_tie rfl ⟨rfl, rfl⟩ (by kernel_rfl) rfl
  (fun f fn hf hfn => by
   obtain rfl : f = 3 := Option.some.inj ((show Tryz.prog.funcNamed Rows.periodNormalRow.func = some 3 by kernel_rfl).symm.trans hf) |>.symm
   obtain rfl : fn = Tryz.f3 := (Option.some.inj (Tryz.func3.symm.trans hfn)).symm
   exact ⟨by kernel_rfl, fun j t ht => by
    rw [Tryz.params3] at ht
    have hm : t ∈ [22] := by simpa using Array.mem_of_getElem? ht
    have hall : ([22].all fun u => !Tryz.prog.wantsStandIn u) = true := by kernel_rfl
    exact (show Tryz.prog.wantsStandIn t = false by simpa using List.all_eq_true.1 hall t hm)⟩)
  (by kernel_rfl)
end Go.Proofs.YteknldaoegccaaaGreatDoor
