/- For any list of spans, Contains says of the period that it describes whether it holds an instant: any one, and the ends of its intervals; for every list. -/
import Derived.SevenTiedAt
import Derived.Lay
import Derived.MakeChecks
import Derived.LaidLaws
import Derived.Test.YteknldaoegccaaaGreatDoorZ38
import Derived.Test.YteknldaoegccaaaGreatDoorZ39
import Derived.Test.YteknldaoegccaaaGreatDoorChecked
import Derived.Test.YteknldaoegccaaaGreatDoorCards
import Derived.Test.YteknldaoegccaaaGreatDoorTie
set_option linter.unusedVariables false
set_option linter.unusedSimpArgs false
set_option maxRecDepth 100000
namespace Go.Proofs.YteknldaoegccaaaGreatDoor
open Go.RowKit
open Classical
theorem ins_cells (x : InsA) : x.v = .agg #[.int .u8 x.P, .int .u8 x.D, .int .u8 x.R, .int .u8 x.E, .bool x.neg] := rfl
theorem KAt.ldk {w : World} {b o : Nat} {x : K} (h : KAt w b o x.1) (hb : b < w.heap.size) : ∀ m : KW w, (loadVar 31 ⟨b, o, none⟩).run Tryz.prog (Wk w m) = .ok (kv x) (Wk w m) := fun m =>
 load_real (Wk w m) b o x.1 (fun k v hk => by rw [World.cell?_of_block (m.k.block b hb (by simp))]; exact h k v hk)
set_option maxHeartbeats 8000000 in
theorem periodContains_c (l : List SpanA) (x : InsA) (w : World) (sv : Value) (hl : SpQ w sv l) (hl9 : l.length ≤ 9223372036854775807) :
  Calls Tryz.prog 8 #[sv, x.v] w fun e w' => e = .returned (.bool true) ∧ Keep [] w w' := by
 have HP := Lib.hid (fun w1 (hk : Keep [] w w1) => lperiod_c l w1 sv (hl.later hk) hl9)
 have HI := Lib.hid (fun w => instant_c x w)
 have hlen : (perOf l).length ≤ 1000 := by
  have h := (perOf_per l).len
  have h2 := ptsOf_len l
  omega
 have hl2 : (sortS (ptsL (perOf l))).length ≤ 100000 := by
  have h3 := sortS_len (ptsL (perOf l))
  rw [ptsL_len] at h3
  omega
 obtain ⟨ao, ac, rfl, _⟩ := hl
 clear hl9
 generalize perOf l = a at *
 have HC := Lib.hid (fun (t : K) w sv (hr : IvR w sv a) => contains_c a t w sv hr (by omega))
 have HH := Lib.hid (fun (t : K) w sv (hr : IvR w sv a) => holds_c a t w sv hr (by omega))
 have HE := Lib.hid (fun w sv (hr : IvR w sv a) => ends_c a w sv hr (by omega))
 rw [ins_cells] at HI ⊢
 generalize x.k = t at *
 generalize x.P = P1 at *
 generalize x.D = P2 at *
 generalize x.R = P3 at *
 generalize x.E = P4 at *
 generalize x.neg = P5 at *
 go_enter Tryz.func8, Tryz.ntmps8
 go_upto_region 1 with (fail)
 obtain ⟨W, ga, hW, ega, bga, hga, hgW, hkW⟩ := al1 w (.cells #[.int .u8 P1, .int .u8 P2, .int .u8 P3, .int .u8 P4, .bool P5] 51)
 rw [← hW]
 try rw [ega]
 have Bga := Lib.hid bga
 have HkW := Lib.hid hkW
 clear hW hkW ega bga
 go_wp2_with fail
 refine (HP.out W HkW.out).mono ?_
 rintro e w1 ⟨pv, rfl, hp, hk1⟩
 obtain ⟨po, pc, rfl, _⟩ := hp.form
 dsimp only
 have HR := Lib.hid hp
 have HK1 := Lib.hid (HkW.out.trans0 hk1)
 have Bga := Lib.hid (hk1.heap Bga.out (by simp))
 clear hp hk1 HP
 have pga := cell_of Bga.out
 go_upto_region 2 with (fail)
 refine wp_region_lit ?_
 refine' wpList_R (v := _) (by rfl) (?hruna) (fun K hK => ?hnexta)
 case hruna => (go_simp; try rfl)
 rotate_left 0
 go_simp
 refine hK _ _ ?_
 clear hK K
 refine wpList_plain (by rfl) (fun K hK => ?_)
 refine wp_enter 31 #[.agg #[.int .u8 P1, .int .u8 P2, .int .u8 P3, .int .u8 P4, .bool P5]] (by go_simp) ?_
 refine (HI.out _).mono ?_
 rintro e w2 ⟨rfl, hk2⟩
 refine ⟨_, rfl, ?_⟩
 go_simp
 refine hK _ _ ?_
 clear hK K pga HI
 have HK2 := Lib.hid (HK1.out.trans0 hk2)
 have HR := Lib.hid (HR.out.later hk2)
 clear hk2 HK1
 obtain ⟨w3, gt, e1, e2, bgt, hgt, _, hk3⟩ := al1 w2 (.cells #[.bool false, .string ⟨#[]⟩, .bool false, .string ⟨#[]⟩, .bool false, .string ⟨#[]⟩, .bool false, .string ⟨#[]⟩, .bool false] 31)
 refine wpList_K (v := .pointer (some ⟨w2.heap.size, 0, none⟩)) (w' := w2.alloc (.cells #[.bool false, .string ⟨#[]⟩, .bool false, .string ⟨#[]⟩, .bool false, .string ⟨#[]⟩, .bool false, .string ⟨#[]⟩, .bool false] 31)) (by rfl) (al_real _ _ _ rfl) (fun K hK => ?_)
 rw [← e1, e2]
 clear e1
 go_simp
 refine hK _ _ ?_
 clear hK K
 refine wpList_rowK (by rfl) _ _ _ rfl gt (kC t) rfl rfl _ _ bgt (by exact k_size) (by rfl) (all_oneCell_toArray (kcells_one t.1)) (fun K hK => ?_)
 obtain ⟨w4, e4, b4, k4⟩ := setRow_at (cs := kC t) bgt
 rw [e4]
 go_simp
 refine hK _ _ ?_
 clear hK K e4
 have Bgt := Lib.hid b4
 have HW4 := Lib.hid (show Keep [] w2 w4 from hk3.trans k4 (by simp; omega))
 have HR := Lib.hid (HR.out.later HW4.out)
 have HK4 := Lib.hid (HK2.out.trans0 HW4.out)
 clear b4 k4 hk3 bgt HW4 HK2 Bga
 go_wp2_with fail
 have HX := Lib.hid (kw_k Bgt.out)
 have Q0 : Hid (∀ m : KW w4, Calls Tryz.prog 16 #[] (Wk w4 m) fun e w' => e = .returned (.bool true) ∧ ∃ m, w' = Wk w4 m) := fun m => qk m (known_c _)
 have Q1 : Hid (∀ m : KW w4, Calls Tryz.prog 32 #[.slice po a.length pc, .agg (kC t)] (Wk w4 m) fun e w' => e = .returned (.bool (holds a t)) ∧ ∃ m, w' = Wk w4 m) := fun m => qk m (HC.out t _ _ (HR.out.later m.k))
 have Q2 : Hid (∀ m : KW w4, Calls Tryz.prog 33 #[.slice po a.length pc, .agg (kC t)] (Wk w4 m) fun e w' => e = .returned (.bool (holds a t)) ∧ ∃ m, w' = Wk w4 m) := fun m => qk m (HH.out t _ _ (HR.out.later m.k))
 generalize holds a t = r at *
 have hkv : kv t = .agg (kC t) := rfl
 rw [hkv] at HX
 generalize kC t = T at *
 refine wp_region_keep (by kernel_rfl) (by kernel_rfl) ?_
 repeat (first
  | go_big_quiet_skip
  | (go_big_quiet_want; first
   | (refine quiet_load _ _ _ (.agg T) rfl rfl (by rintro _ ⟨m, rfl⟩; exact HX.out m) ?_; go_simp; go_big_quiet_on)
   | (go_big_quiet_op; first | go_big_quiet_on | go_big_quiet_call (first
    | (go_at_call 16; with_reducible exact (Q0).out _) | (go_at_call 32; with_reducible exact (Q1).out _) | (go_at_call 33; with_reducible exact (Q2).out _)))))
 refine wpQuiet_nil ?_
 rintro w5 ⟨⟨_, hk_w5⟩, rfl⟩
 have HR := Lib.hid (HR.out.later hk_w5)
 have HK5 := Lib.hid (HK4.out.trans0 hk_w5)
 clear hk_w5 HX Q0 Q1 Q2 HK4 Bgt hkv
 go_wp2_with fail
 refine (HE.out _ _ HR.out).mono ?_
 rintro e w6 ⟨ev, rfl, he, hk6⟩
 obtain ⟨eo, ec, rfl, _⟩ := he.form
 dsimp only
 have HEs := Lib.hid he
 have HR := Lib.hid (HR.out.later hk6)
 have HK6 := Lib.hid (HK5.out.trans0 hk6)
 clear he hk6 HK5 HE
 generalize sortS (ptsL a) = es at *
 go_wp2_with fail
 go_loopw [8] (fun c wr => ∃ k : Nat, k ≤ es.length ∧ c = .int .i64 (k : Int) ∧ Keep [] w6 wr) (fun c _ => es.length - (intOf c).toNat)
 case atStart => exact ⟨0, Nat.zero_le _, rfl, Keep.refl _ _⟩
 case round =>
  obtain ⟨k, hk, rfl, hkeep⟩ := hrel
  have HKr := Lib.hid hkeep
  clear hkeep
  by_cases hlt : k < es.length
  ·obtain ⟨g, o, rfl, hg, hat⟩ := KR.elem (HEs.out.later HKr.out) k hlt
   generalize es[k] = s at *
   obtain ⟨p, hp⟩ : ∃ p, o + k * 9 = p := ⟨_, rfl⟩
   rw [hp] at hat
   have HX := Lib.hid (hat.ldk hg)
   have Q1 : Hid (∀ m : KW wr, Calls Tryz.prog 32 #[.slice po a.length pc, .agg (kC s)] (Wk wr m) fun e w' => e = .returned (.bool (holds a s)) ∧ ∃ m, w' = Wk wr m) := fun m => qk m (HC.out s _ _ (HR.out.later (HKr.out.trans0 m.k)))
   have Q2 : Hid (∀ m : KW wr, Calls Tryz.prog 33 #[.slice po a.length pc, .agg (kC s)] (Wk wr m) fun e w' => e = .returned (.bool (holds a s)) ∧ ∃ m, w' = Wk wr m) := fun m => qk m (HH.out s _ _ (HR.out.later (HKr.out.trans0 m.k)))
   generalize holds a s = q at *
   have hkv : kv s = .agg (kC s) := rfl
   rw [hkv] at HX
   generalize kC s = T at *
   clear hat hkv
   go_wp2_with fail
   refine wp_region_keep (by kernel_rfl) (by kernel_rfl) ?_
   repeat (first
    | go_big_quiet_skip
    | (go_big_quiet_want; first
     | (refine quiet_load _ _ _ (.agg T) rfl rfl (by rintro _ ⟨m, rfl⟩; exact HX.out m) ?_; go_simp; go_big_quiet_on)
     | (go_big_quiet_op; first | go_big_quiet_on | go_big_quiet_call (first
      | (go_at_call 32; with_reducible exact (Q1).out _) | (go_at_call 33; with_reducible exact (Q2).out _)))))
   refine wpQuiet_nil ?_
   rintro w7 ⟨⟨_, hk_w7⟩, rfl⟩
   have HK7 := Lib.hid (HKr.out.trans0 hk_w7)
   clear hk_w7 HX Q1 Q2 HKr
   go_wp2_with fail
   go_roundw
   case rel => exact ⟨k + 1, by omega, congrArg (Value.int .i64) (by omega), HK7.out⟩
   case measure => simp [intOf]; omega
  ·go_wp2_with fail
   go_ret
   exact ⟨rfl, HK6.out.trans0 HKr.out⟩
open Go.ChangeShapes Go.WideShapes Go.ChangeAt
open Go.ChangeMaps (open_string shut_string)
theorem periodContains_walk (v0 v1 : Value) (w : World) (m0 : SpArg w v0) (m1 : InsArg w v1) :
  Calls Tryz.prog 8 #[v0, v1] w fun e w' => e = .returned (.bool true) ∧ Below w.heap.size w w' :=
 by
 obtain ⟨l, hl, ql⟩ := m0
 obtain ⟨k, rfl⟩ := m1
 exact (periodContains_c l k w v0 hl ql).mono fun e w2 h => ⟨h.1, h.2.below0⟩
theorem periodContains_own : ownKnob Tryz.prog.godebug = none := by kernel_rfl
theorem periodContains_laidOut : laidOutB Tryz.prog = true := by kernel_rfl
set_option maxRecDepth 100000 in
theorem periodContains_lifted (os : Os) (started : os.Started) (H : Type) (enc : TypeId × Value → H) :
  ReturnsInHanded {} Tryz.checked os 8 .any (fun w args => (Rows.periodContainsSpec.pre enc Tryz.prog Tryz.f8 Rows.periodContainsRow.domain false w args ∧ laidMetH Tryz.prog Rows.periodContainsRow.laid w) ∧ sizedMet enc Tryz.prog Tryz.f8 (OpenSpec.ofChange Rows.periodContainsSpec) false w args)
   (Rows.periodContainsSpec.post enc Tryz.prog Tryz.f8 false true false false) := by
 refine returnsInHanded_of_change_and (C := Tryz.checked) (X := fun w _ => laidMetH Tryz.prog Rows.periodContainsRow.laid w) (fun _ _ _ hh h => h.of_heap hh) periodContains_own started (by kernel_rfl) Tryz.func8
  (ChangeSpec.witness_shaped (enc := enc) (C := Tryz.checked) (os := os) (X := fun w _ => laidMetH Tryz.prog Rows.periodContainsRow.laid w) false (World.laidAll Tryz.prog os Rows.periodContainsRow.laid) #[.slice none 0 0, .agg #[.int .u8 0, .int .u8 0, .int .u8 0, .int .u8 0, .bool false]] 8 (World.laidAll_os _ _ _)
   (World.shaped_of_ZipB (by kernel_rfl) (by kernel_rfl)) (by kernel_rfl) (by kernel_rfl) (by kernel_rfl)
   (by rw [MakeChecks.laidMetH_plain _ _ _ (by kernel_rfl)]; exact laidMet_laidAll _ (by kernel_rfl) (by kernel_rfl))) ?_
 intro W base args ds gs before hval0 hW hcnd _ _ _
 have hval : ∀ (j : Nat) t v, Tryz.f8.params[j]? = some t → args[j]? = some v → Value.okWide Tryz.prog W .any base t v := hval0
 have hW' := hW
 obtain ⟨p, q, hA0, hV, rfl, hfz, hnd⟩ := hW
 have hA : DataW.TrodAll enc Tryz.prog W 0 (fun _ => true) true Tryz.f8.params.toList args.toList ds p := hA0
 rw [Tryz.params8] at hA hval
 obtain ⟨v0, vs0, d0, ds0, p0, q0, hargs, rfl, rfl, h0, r0⟩ := trodAll_cons hA
 obtain ⟨v1, vs1, d1, ds1, p1, q1, rfl, rfl, rfl, h1, r1⟩ := trodAll_cons r0
 obtain ⟨rfl, rfl, rfl⟩ := trodAll_nil r1
 obtain rfl : args = #[v0, v1] := by cases args; simp_all
 obtain ⟨rfl, rfl⟩ := trodVars_none hV
 have k0 := h0
 have lt0 : ∀ x ∈ p0, x.block < W.heap.size := by obtain ⟨m, hm⟩ := k0; exact DataW.trod_lt m _ _ _ hm
 have k1 := h1
 have lt1 : ∀ x ∈ p1, x.block < W.heap.size := by obtain ⟨m, hm⟩ := k1; exact DataW.trod_lt m _ _ _ hm
 have m0 : SpArg W v0 := SpArg_open (hval 0 22 v0 rfl rfl) h0
 have m1 : InsArg W v1 := InsArg_open (hval 1 51 v1 rfl rfl) h1
 clear hA0 hval0
 refine (periodContains_walk v0 v1 W m0 m1).mono fun e W' ⟨he, bel⟩ => ?_
 subst he
 exact ⟨_, rfl, _, _, _, [], _, [], hW', trodAll_mk1 (shut_bool Tryz.underlying4 _), (trodAll_cons_mk (Below.trod periodContains_laidOut (by kernel_rfl) (of_decide_eq_true (by kernel_rfl)) k0 bel lt0) (trodAll_cons_mk (Below.trod periodContains_laidOut (by kernel_rfl) (of_decide_eq_true (by kernel_rfl)) k1 bel lt1) trodAll_mk0)), rfl, bel.frame _, fun h => by cases h⟩
theorem periodContains_over : Rows.periodContainsRow.holds Tryz.pinned (OpenSpec.ofChange Rows.periodContainsSpec) :=
 OpenClaim.holds_of_wide 8 Tryz.f8 rfl rfl rfl rfl rfl rfl rfl ⟨rfl, rfl, rfl, rfl, rfl⟩ rfl rfl rfl rfl rfl (by kernel_rfl) Tryz.func8 (by kernel_rfl)
  (of_decide_eq_true (by kernel_rfl)) (by unfold Func.isWrapper; first | (rw [if_pos (by decide +kernel)]; kernel_rfl) | (rw [if_neg (by decide +kernel)]; exact ⟨rfl, rfl⟩))
  (fun os started H enc _ => periodContains_lifted os started H enc)
theorem periodContains_proved : Rows.PeriodContainsCardSaid :=
 Claim7.holds_tied_plain_at .later [] [.data, .pinned] true Rows.periodContainsCard.stood.harness false periodContains_over (fun _ h => by cases h) (by kernel_rfl) (fun _ h => by cases h) periodContains_row_tie rfl ⟨rfl, rfl⟩ (by kernel_rfl) rfl
  (fun f fn hf hfn => by
   obtain rfl : f = 8 := Option.some.inj ((show Tryz.prog.funcNamed Rows.periodContainsRow.func = some 8 by kernel_rfl).symm.trans hf) |>.symm
   obtain rfl : fn = Tryz.f8 := (Option.some.inj (Tryz.func8.symm.trans hfn)).symm
   exact ⟨by kernel_rfl, fun j t ht => by
    rw [Tryz.params8] at ht
    have hm : t ∈ [22, 51] := by simpa using Array.mem_of_getElem? ht
    have hall : ([22, 51].all fun u => !Tryz.prog.wantsStandIn u) = true := by kernel_rfl
    exact (show Tryz.prog.wantsStandIn t = false by simpa using List.all_eq_true.1 hall t hm)⟩)
  (by kernel_rfl)
end Go.Proofs.YteknldaoegccaaaGreatDoor
