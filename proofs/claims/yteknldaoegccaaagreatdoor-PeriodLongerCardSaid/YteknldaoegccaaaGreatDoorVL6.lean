/- For any period of up to eight intervals and any fraction, Longer answers the intervals of at least this length; for every list and every fraction. -/
import Derived.SevenTiedAt
import Derived.Lay
import Derived.MakeChecks
import Derived.LaidLaws
import Derived.Test.YteknldaoegccaaaGreatDoorW39
import Derived.Test.YteknldaoegccaaaGreatDoorW37
import Derived.Test.YteknldaoegccaaaGreatDoorChecked
import Derived.Test.YteknldaoegccaaaGreatDoorCards
import Derived.Test.YteknldaoegccaaaGreatDoorTie
set_option linter.unusedVariables false
set_option linter.unusedSimpArgs false
set_option maxRecDepth 100000
namespace Go.Proofs.YteknldaoegccaaaGreatDoor
open Go.RowKit
open Classical
set_option maxHeartbeats 8000000 in
theorem periodLonger_c (l : List SpanA) (a : FrA) (w : World) (sv : Value) (hl : SpQ w sv l) (hl9 : l.length ≤ 9223372036854775807) :
  Calls Tryz.prog 7 #[sv, a.v] w fun e w' => e = .returned (.bool true) ∧ Keep [] w w' := by
 have HPw := Lib.hid (fun u (hu : Keep [] w u) => lperiod_c l u sv (hl.later hu) hl9)
 have HR := Lib.hid (fun u => Rat_c a u)
 have hq := a.fq
 have hN : (perOf l).length ≤ 10000 := by
  have h := (perOf_per l).len
  have h2 := ptsOf_len l
  omega
 obtain ⟨ao, ac, rfl, _⟩ := hl
 clear hl9
 have HLg := Lib.hid (fun u v (hv : IvR u v (perOf l)) => longer_p (perOf l) a.q hq u v hv hN)
 have HMv := Lib.hid (fun (x : K) => moved_c x.1 a.q (x.2.2.1.mono (by decide)) (hq.mono (by decide)))
 have HCm := Lib.hid (fun (i : Iv K) => fcmp_c (mvQ i.f.pt.1 a.q) i.l.pt.1 (mv_fit hq) ⟨i.l.pt.2.2.1.mono (by decide), i.l.pt.2.2.2.mono (by decide)⟩)
 clear hq
 unfold FrA.v at *
 generalize a.q = q at *
 generalize a.num = num at *
 generalize a.den = den at *
 generalize a.up = up at *
 generalize a.down = down at *
 generalize perOf l = P at *
 have HNf := Lib.hid (show (P.filter (longI q)).length ≤ 10000 from Nat.le_trans (List.length_filter_le _ _) hN)
 obtain ⟨na, hna⟩ : ∃ x, sgB q.num = x := ⟨_, rfl⟩
 obtain ⟨sa, hsa⟩ : ∃ x, mgS q.num = x := ⟨_, rfl⟩
 obtain ⟨da, hda⟩ : ∃ x, dnS q.den = x := ⟨_, rfl⟩
 have hrv : rv q = .agg #[.bool na, .string sa, .bool false, .string da] := by unfold rv; rw [hna, hsa, hda]
 rw [hrv] at HLg HMv HR
 clear hrv hna hsa hda
 go_enter Tryz.func7, Tryz.ntmps7
 go_upto_region 1 with (fail)
 obtain ⟨W, ga, hW, ega, bga, hga, hgW, hkW⟩ := al1 w (.cells #[.int .i64 num, .int .i64 den, .int .u8 up, .int .u8 down] 44)
 rw [← hW]
 try rw [ega]
 have Bga := Lib.hid bga
 have HkW := Lib.hid hkW
 clear hW hkW ega bga
 have HP := Lib.hid (fun u (hu : Keep [] W u) => HPw.out u (HkW.out.trans0 hu))
 go_cut [5, 6] (fun pv gp wx => ∃ (po : Option Addr) (pc g : Nat), pv = .slice po P.length pc ∧ gp = .pointer (some ⟨g, 0, none⟩) ∧ MQ W wx [(.slice po P.length pc, P)] [(g, .cells #[.bool na, .string sa, .bool false, .string da] 29)])
 case first =>
  refine wp_region_heldT (S := fun u => Keep [] W u) 5 (by kernel_rfl) (by kernel_rfl) (fun _ _ d _ _ h => by cases d <;> exact h) ?_
  have hS0 := Keep.drew [] W
  have HM := Lib.hid (MQ.start hS0)
  generalize World.drew W = u at *
  refine' heldT_val (v := _) 0 (by rfl) (by decide) (by kernel_rfl) (by kernel_rfl) (by rfl) hS0 (fun w hw => ?hrunf0) (fun K hK => ?hnextf0)
  case hrunf0 => (have pga := cell_of (hw.heap Bga.out (by simp)); go_simp; try rfl)
  rotate_left 0
  go_simp
  refine hK _ ?_
  clear hK K
  refine' heldT_val (v := _) 2 (by rfl) (by decide) (by kernel_rfl) (by kernel_rfl) (by rfl) hS0 (fun w hw => ?hrunf2) (fun K hK => ?hnextf2)
  case hrunf2 => (have pga := cell_of (hw.heap Bga.out (by simp)); go_simp; try rfl)
  rotate_left 0
  go_simp
  refine hK _ ?_
  clear hK K
  refine heldT_two 1 4 (by kernel_rfl) (by decide) (by decide) (by rfl) (by rfl) (by rfl) (by rfl) (fun K hK => ?_) (fun K hK => ?_)
  ·skip
   refine wp_enter 20 #[.slice ao l.length ac] (by go_simp) ?_
   refine (HP.out _ hS0).mono ?_
   rintro e u1 ⟨pv, rfl, hpv, hk1⟩
   obtain ⟨po, pc, rfl, _⟩ := hpv.form
   have hS0 := hS0.trans0 hk1
   have HM := Lib.hid (HM.out.add hk1 hpv)
   clear hpv hk1
   refine ⟨_, rfl, ?_⟩
   refine hK _ _ hS0 ?_
   clear hK K
   refine heldT_two 3 4 (by kernel_rfl) (by decide) (by decide) (by rfl) (by rfl) (by rfl) (by rfl) (fun K hK => ?_) (fun K hK => ?_)
   ·skip
    refine wp_enter 27 #[.agg #[.int .i64 num, .int .i64 den, .int .u8 up, .int .u8 down]] (by go_simp) ?_
    refine (HR.out _).mono ?_
    rintro e u1 ⟨rfl, hk1⟩
    have hS0 := hS0.trans0 hk1
    have HM := Lib.hid (HM.out.move hk1)
    clear hk1
    refine ⟨_, rfl, ?_⟩
    refine hK _ _ hS0 ?_
    clear hK K
    refine heldT_one 4 (by kernel_rfl) (by decide) (by rfl) (by rfl) (fun K hK => ?_)
    obtain ⟨u2, g, e1, e2, hm2⟩ := HM.out.new' (.cells #[.bool false, .string ⟨#[]⟩, .bool false, .string ⟨#[]⟩] 29)
    go_simp
    have HM := Lib.hid hm2
    have hS0 := HM.out.1
    clear e1 e2 hm2
    refine hK _ _ hS0 ?_
    clear hK K
    refine ⟨by kernel_rfl, ?_⟩
    simp only [List.drop_succ_cons, List.drop_zero]
    have Bg := Lib.hid (HM.out.box g (.cells #[.bool false, .string ⟨#[]⟩, .bool false, .string ⟨#[]⟩] 29) (by simp))
    obtain ⟨u9, e9, b9, k9⟩ := st4 (x := .bool na) (y := .string sa) (z := .bool false) (u := .string da) Bg.out
    have HM9 := Lib.hid (HM.out.put (by simp) b9 k9)
    have pg := cell_of Bg.out
    have fg := frozen_of Bg.out
    have lg := lt_of_heap Bg.out
    clear b9 k9 HM
    go_wp2_with fail
    rw [← e9]
    go_meet
    exact ⟨_, _, _, rfl, rfl, HM9.out⟩
   ·skip
    obtain ⟨u2, g, e1, e2, hm2⟩ := HM.out.new' (.cells #[.bool false, .string ⟨#[]⟩, .bool false, .string ⟨#[]⟩] 29)
    go_simp
    have HM := Lib.hid hm2
    have hS0 := HM.out.1
    clear e1 e2 hm2
    refine hK _ _ hS0 ?_
    clear hK K
    refine heldT_one 3 (by kernel_rfl) (by decide) (by rfl) (by rfl) (fun K hK => ?_)
    refine wp_enter 27 #[.agg #[.int .i64 num, .int .i64 den, .int .u8 up, .int .u8 down]] (by go_simp) ?_
    refine (HR.out _).mono ?_
    rintro e u1 ⟨rfl, hk1⟩
    have hS0 := hS0.trans0 hk1
    have HM := Lib.hid (HM.out.move hk1)
    clear hk1
    refine ⟨_, rfl, ?_⟩
    refine hK _ _ hS0 ?_
    clear hK K
    refine ⟨by kernel_rfl, ?_⟩
    simp only [List.drop_succ_cons, List.drop_zero]
    have Bg := Lib.hid (HM.out.box g (.cells #[.bool false, .string ⟨#[]⟩, .bool false, .string ⟨#[]⟩] 29) (by simp))
    obtain ⟨u9, e9, b9, k9⟩ := st4 (x := .bool na) (y := .string sa) (z := .bool false) (u := .string da) Bg.out
    have HM9 := Lib.hid (HM.out.put (by simp) b9 k9)
    have pg := cell_of Bg.out
    have fg := frozen_of Bg.out
    have lg := lt_of_heap Bg.out
    clear b9 k9 HM
    go_wp2_with fail
    rw [← e9]
    go_meet
    exact ⟨_, _, _, rfl, rfl, HM9.out⟩
  ·skip
   obtain ⟨u2, g, e1, e2, hm2⟩ := HM.out.new' (.cells #[.bool false, .string ⟨#[]⟩, .bool false, .string ⟨#[]⟩] 29)
   go_simp
   have HM := Lib.hid hm2
   have hS0 := HM.out.1
   clear e1 e2 hm2
   refine hK _ _ hS0 ?_
   clear hK K
   refine heldT_one 1 (by kernel_rfl) (by decide) (by rfl) (by rfl) (fun K hK => ?_)
   refine wp_enter 20 #[.slice ao l.length ac] (by go_simp) ?_
   refine (HP.out _ hS0).mono ?_
   rintro e u1 ⟨pv, rfl, hpv, hk1⟩
   obtain ⟨po, pc, rfl, _⟩ := hpv.form
   have hS0 := hS0.trans0 hk1
   have HM := Lib.hid (HM.out.add hk1 hpv)
   clear hpv hk1
   refine ⟨_, rfl, ?_⟩
   refine hK _ _ hS0 ?_
   clear hK K
   refine heldT_one 3 (by kernel_rfl) (by decide) (by rfl) (by rfl) (fun K hK => ?_)
   refine wp_enter 27 #[.agg #[.int .i64 num, .int .i64 den, .int .u8 up, .int .u8 down]] (by go_simp) ?_
   refine (HR.out _).mono ?_
   rintro e u1 ⟨rfl, hk1⟩
   have hS0 := hS0.trans0 hk1
   have HM := Lib.hid (HM.out.move hk1)
   clear hk1
   refine ⟨_, rfl, ?_⟩
   refine hK _ _ hS0 ?_
   clear hK K
   refine ⟨by kernel_rfl, ?_⟩
   simp only [List.drop_succ_cons, List.drop_zero]
   have Bg := Lib.hid (HM.out.box g (.cells #[.bool false, .string ⟨#[]⟩, .bool false, .string ⟨#[]⟩] 29) (by simp))
   obtain ⟨u9, e9, b9, k9⟩ := st4 (x := .bool na) (y := .string sa) (z := .bool false) (u := .string da) Bg.out
   have HM9 := Lib.hid (HM.out.put (by simp) b9 k9)
   have pg := cell_of Bg.out
   have fg := frozen_of Bg.out
   have lg := lt_of_heap Bg.out
   clear b9 k9 HM
   go_wp2_with fail
   rw [← e9]
   go_meet
   exact ⟨_, _, _, rfl, rfl, HM9.out⟩
 obtain ⟨po, pc, g, rfl, rfl, hm⟩ := hcut
 have HM := Lib.hid hm
 clear hm
 clear HP HPw HR Bga
 rename World => wx
 go_wp2_with fail
 go_loopw [7, 8] (fun ov c wr => ∃ k : Nat, k ≤ P.length ∧ c = .int .i64 (k : Int) ∧ OI_ wx wr ov ((P.take k).filter (longI q))) (fun _ c _ => P.length - (intOf c).toNat)
 case atStart => exact ⟨0, Nat.zero_le _, rfl, OE.nil wx⟩
 case round =>
  obtain ⟨k, hk, rfl, hov⟩ := hrel
  obtain ⟨out, hout⟩ : ∃ out, (P.take k).filter (longI q) = out := ⟨_, rfl⟩
  rw [hout] at hov
  have Hlen := Lib.hid (show out.length ≤ k by rw [← hout]; exact Nat.le_trans (List.length_filter_le _ _) (by rw [List.length_take]; omega))
  have Hout := Lib.hid hout
  have HO := Lib.hid hov
  obtain ⟨oo, oc, rfl⟩ := hov.form
  clear hov hout
  by_cases hlt : k < P.length
  ·obtain ⟨gr, o, rfl, hg, hat⟩ := IvR.elem ((HM.out.get (.slice po P.length pc) P (by simp)).later HO.out.keep) k hlt
   have Hstep := Lib.hid (filter_take (longI q) P k hlt)
   generalize P[k] = s at *
   obtain ⟨p, hp⟩ : ∃ p, o + k * 20 = p := ⟨_, rfl⟩
   rw [hp] at hat
   have HL := Lib.hid (load_iv wr gr p s hat)
   have HAt := Lib.hid hat
   have HXf := Lib.hid (hat.ldf hg)
   have HXt := Lib.hid (hat.ldt hg)
   have Bg := Lib.hid (HO.out.keep.heap (HM.out.box g (.cells #[.bool na, .string sa, .bool false, .string da] 29) (by simp)) (by simp))
   have kg := kw_cells Bg.out
   clear hat
   have hPs : longI q s = decide (cmpQ (mvQ s.f.pt.1 q) s.l.pt.1 ≤ 0) := rfl
   rw [hPs] at Hstep
   clear hPs
   have H1 := Lib.hid (HMv.out s.f.pt)
   have H2 := Lib.hid (HCm.out s)
   rw [show (⟨s.f.pt.1.p + q, s.f.pt.1.r, s.f.pt.1.neg⟩ : Qn) = mvQ s.f.pt.1 q from rfl] at H1
   obtain ⟨M, hM⟩ : ∃ M, kcells (mvQ s.f.pt.1 q) = M := ⟨_, rfl⟩
   have e1 : qv (mvQ s.f.pt.1 q) = .agg M.toArray := by rw [← hM]; rfl
   have e2 : qv s.f.pt.1 = .agg (kC s.f.pt) := rfl
   have e3 : qv s.l.pt.1 = .agg (kC s.l.pt) := rfl
   have e4 : kv s.f.pt = .agg (kC s.f.pt) := rfl
   have e5 : kv s.l.pt = .agg (kC s.l.pt) := rfl
   rw [e1, e2] at H1
   rw [e1, e3] at H2
   rw [e4] at HXf
   rw [e5] at HXt
   clear e1 e2 e3 e4 e5 hM
   generalize cmpQ (mvQ s.f.pt.1 q) s.l.pt.1 = n at *
   generalize M.toArray = MA at *
   generalize kC s.f.pt = F at *
   generalize kC s.l.pt = L at *
   go_wp2_with fail
   have Q1 : Hid (∀ m : KW wr, Calls Tryz.prog 29 #[.agg F, .agg #[.bool na, .string sa, .bool false, .string da]] (Wk wr m) fun e w' => e = .returned (.agg MA) ∧ ∃ m, w' = Wk wr m) := fun m => qk m (H1.out _)
   have Q2 : Hid (∀ m : KW wr, Calls Tryz.prog 28 #[.agg MA, .agg L] (Wk wr m) fun e w' => e = .returned (.int .i64 n) ∧ ∃ m, w' = Wk wr m) := fun m => qk m (H2.out _)
   refine wp_region_keep (by kernel_rfl) (by kernel_rfl) ?_
   repeat (first
    | go_big_quiet_skip
    | (go_big_quiet_want; first
     | (refine quiet_load _ _ _ (.agg F) rfl rfl (by rintro _ ⟨m, rfl⟩; exact HXf.out m) ?_; go_simp; go_big_quiet_on) | (refine quiet_load _ _ _ (.agg L) rfl rfl (by rintro _ ⟨m, rfl⟩; exact HXt.out m) ?_; go_simp; go_big_quiet_on)
     | (go_big_quiet_op; first | go_big_quiet_on | go_big_quiet_call (first
      | (go_at_call 29; with_reducible exact (Q1).out _) | (go_at_call 28; with_reducible exact (Q2).out _)))))
   refine wpQuiet_nil ?_
   rintro w3 ⟨⟨_, hk_w3⟩, rfl⟩
   have HO3 := Lib.hid (HO.out.later hk_w3)
   have HL3 := Lib.hid (load_iv w3 gr p s (HAt.out.keep (hk_w3.block gr hg (by simp))))
   clear hk_w3 HXf HXt H1 H2 Q1 Q2 HO HL HAt kg Bg
   have hkc : (k : Int) < (P.length : Int) := by omega
   by_cases hn : n ≤ 0
   ·have Hst : Hid ((P.take (k + 1)).filter (longI q) = out ++ [s]) := by
     have := Hstep.out
     rw [decide_eq_true hn, if_pos rfl] at this
     rw [this, Hout.out]
     try rfl
    clear Hstep
    go_upto_region 7 with (fail)
    refine wp_region_lit ?_
    refine' wpList_R (v := _) (by rfl) (?hruna) (fun K hK => ?hnexta)
    case hruna => (go_simp; try rfl)
    rotate_left 0
    go_simp
    refine hK _ _ ?_
    clear hK K
    refine' wpList_R (v := _) (by rfl) (?hrunb) (fun K hK => ?hnextb)
    case hrunb => (go_simp; try rfl)
    rotate_left 0
    go_simp
    refine hK _ _ ?_
    clear hK K
    refine' wpList_R (v := _) (by rfl) (?hrunc) (fun K hK => ?hnextc)
    case hrunc => (go_simp; try rfl)
    rotate_left 0
    go_simp
    refine hK _ _ ?_
    clear hK K
    refine' wpList_R (v := _) (by rfl) (?hrund) (fun K hK => ?hnextd)
    case hrund => (go_simp; try rfl)
    rotate_left 0
    go_simp
    refine hK _ _ ?_
    clear hK K
    refine wpList_R (v := iv s) (by rfl) (exec_load _ _ ⟨gr, p, none⟩ _ rfl rfl HL3.out) (fun K hK => ?_)
    go_simp
    refine hK _ _ ?_
    clear hK K
    obtain ⟨ub, gx, e3, e4, hz1, hkx, hx⟩ := IvR.single s w3
    refine wpList_K (v := .slice (some ⟨w3.heap.size, 0, none⟩) 1 1) (by rfl) (exec_bs 23 1 #[(0, .tmp 37)] #[(0, iv s)] _ rfl (by simp only [List.map_toArray, List.map_cons, List.map_nil]; rfl) (build1_i s _)) (fun K hK => ?_)
    rw [e3, e4]
    clear e3
    go_simp
    refine hK _ _ ?_
    clear hK K
    obtain ⟨v4, u4, hr4, ho4, hn4, _⟩ := IvR.app (ty := 23) (HO3.out.later hkx) (.inr (by simp)) hx (by have := Hlen.out; simp; omega)
    refine wpList_K (by rfl) (exec_app (.tmp 33) (.tmp 38) 23 _ _ _ rfl rfl rfl hr4) (fun K hK => ?_)
    go_simp
    refine hK _ _ ?_
    clear hK K hr4 hx hkx
    have HN := Lib.hid ho4
    obtain ⟨no, nc, rfl⟩ := ho4.form
    clear ho4 hn4
    go_wp2_with fail
    go_roundw
    case rel => exact ⟨k + 1, by omega, congrArg (Value.int .i64) (by omega), by rw [Hst.out]; exact HN.out⟩
    case measure => simp [intOf]; omega
   ·have Hst : Hid ((P.take (k + 1)).filter (longI q) = out) := by
     have := Hstep.out
     rw [decide_eq_false hn, if_neg (by simp), List.append_nil] at this
     rw [this, Hout.out]
     try rfl
    clear Hstep
    go_wp2_with fail
    go_roundw
    case rel => exact ⟨k + 1, by omega, congrArg (Value.int .i64) (by omega), by rw [Hst.out]; exact HO3.out⟩
    case measure => simp [intOf]; omega
  ·obtain rfl : k = P.length := by omega
   have HX := Lib.hid (HO.out.read)
   have HK := Lib.hid (HO.out.keep)
   have hF : out = P.filter (longI q) := by rw [← Hout.out, List.take_length]
   subst hF
   clear HO Hout
   have HM := Lib.hid ((HM.out.move HK.out).add (Keep.refl _ _) HX.out)
   clear HX
   have pg := cell_of (HM.out.box g (.cells #[.bool na, .string sa, .bool false, .string da] 29) (by simp))
   go_wp2_with fail
   clear pg
   refine (known_c _).mono ?_
   rintro e w1 ⟨rfl, hk_w1⟩
   dsimp only
   have HM := Lib.hid (HM.out.move hk_w1)
   clear hk_w1
   have pg := cell_of (HM.out.box g (.cells #[.bool na, .string sa, .bool false, .string da] 29) (by simp))
   go_wp2_with fail
   clear pg
   refine (HLg.out w1 (.slice po P.length pc) (HM.out.get _ P (by simp))).mono ?_
   rintro e w3 ⟨v_w3, rfl, hv_w3, hk_w3⟩
   obtain ⟨vo_w3, vc_w3, rfl, _⟩ := hv_w3.form
   dsimp only
   have HM := Lib.hid (HM.out.add hk_w3 hv_w3)
   clear hk_w3 hv_w3
   have pg := cell_of (HM.out.box g (.cells #[.bool na, .string sa, .bool false, .string da] 29) (by simp))
   go_wp2_with fail
   clear pg
   refine (equal_t (l := P.filter (longI q)) (m := P.filter (longI q)) rfl w3 (.slice vo_w3 _ vc_w3) (.slice oo _ oc) (HM.out.get _ _ (by simp)) (HM.out.get _ _ (by simp)) (by have := HNf.out; omega)).mono ?_
   rintro e w4 ⟨rfl, hk_w4⟩
   dsimp only
   have HM := Lib.hid (HM.out.move hk_w4)
   clear hk_w4
   have pg := cell_of (HM.out.box g (.cells #[.bool na, .string sa, .bool false, .string da] 29) (by simp))
   go_wp2_with fail
   go_ret
   exact ⟨rfl, HkW.out.trans0 HM.out.1⟩
open Go.ChangeShapes Go.WideShapes Go.ChangeAt
open Go.ChangeMaps (open_string shut_string)
theorem periodLonger_walk (v0 v1 : Value) (w : World) (m0 : SpArg w v0) (m1 : FrArg w v1) :
  Calls Tryz.prog 7 #[v0, v1] w fun e w' => e = .returned (.bool true) ∧ Below w.heap.size w w' :=
 by
 obtain ⟨l, hl, ql⟩ := m0
 obtain ⟨k, rfl⟩ := m1
 exact (periodLonger_c l k w v0 hl ql).mono fun e w2 h => ⟨h.1, h.2.below0⟩
theorem periodLonger_own : ownKnob Tryz.prog.godebug = none := by kernel_rfl
theorem periodLonger_laidOut : laidOutB Tryz.prog = true := by kernel_rfl
set_option maxRecDepth 100000 in
theorem periodLonger_lifted (os : Os) (started : os.Started) (H : Type) (enc : TypeId × Value → H) :
  ReturnsInHanded {} Tryz.checked os 7 .any (fun w args => (Rows.periodLongerSpec.pre enc Tryz.prog Tryz.f7 Rows.periodLongerRow.domain false w args ∧ laidMetH Tryz.prog Rows.periodLongerRow.laid w) ∧ sizedMet enc Tryz.prog Tryz.f7 (OpenSpec.ofChange Rows.periodLongerSpec) false w args)
   (Rows.periodLongerSpec.post enc Tryz.prog Tryz.f7 false true false false) := by
 refine returnsInHanded_of_change_and (C := Tryz.checked) (X := fun w _ => laidMetH Tryz.prog Rows.periodLongerRow.laid w) (fun _ _ _ hh h => h.of_heap hh) periodLonger_own started (by kernel_rfl) Tryz.func7
  (ChangeSpec.witness_shaped (enc := enc) (C := Tryz.checked) (os := os) (X := fun w _ => laidMetH Tryz.prog Rows.periodLongerRow.laid w) false (World.laidAll Tryz.prog os Rows.periodLongerRow.laid) #[.slice none 0 0, .agg #[.int .i64 0, .int .i64 0, .int .u8 0, .int .u8 0]] 8 (World.laidAll_os _ _ _)
   (World.shaped_of_ZipB (by kernel_rfl) (by kernel_rfl)) (by kernel_rfl) (by kernel_rfl) (by kernel_rfl)
   (by rw [MakeChecks.laidMetH_plain _ _ _ (by kernel_rfl)]; exact laidMet_laidAll _ (by kernel_rfl) (by kernel_rfl))) ?_
 intro W base args ds gs before hval0 hW hcnd _ _ _
 have hval : ∀ (j : Nat) t v, Tryz.f7.params[j]? = some t → args[j]? = some v → Value.okWide Tryz.prog W .any base t v := hval0
 have hW' := hW
 obtain ⟨p, q, hA0, hV, rfl, hfz, hnd⟩ := hW
 have hA : DataW.TrodAll enc Tryz.prog W 0 (fun _ => true) true Tryz.f7.params.toList args.toList ds p := hA0
 rw [Tryz.params7] at hA hval
 obtain ⟨v0, vs0, d0, ds0, p0, q0, hargs, rfl, rfl, h0, r0⟩ := trodAll_cons hA
 obtain ⟨v1, vs1, d1, ds1, p1, q1, rfl, rfl, rfl, h1, r1⟩ := trodAll_cons r0
 obtain ⟨rfl, rfl, rfl⟩ := trodAll_nil r1
 obtain rfl : args = #[v0, v1] := by cases args; simp_all
 obtain ⟨rfl, rfl⟩ := trodVars_none hV
 have k0 := h0
 have lt0 : ∀ x ∈ p0, x.block < W.heap.size := by obtain ⟨m, hm⟩ := k0; exact DataW.trod_lt m _ _ _ hm
 have k1 := h1
 have lt1 : ∀ x ∈ p1, x.block < W.heap.size := by obtain ⟨m, hm⟩ := k1; exact DataW.trod_lt m _ _ _ hm
 have m0 : SpArg W v0 := SpArg_open (hval 0 22 v0 rfl rfl) h0
 have m1 : FrArg W v1 := FrArg_open (hval 1 44 v1 rfl rfl) h1
 clear hA0 hval0
 refine (periodLonger_walk v0 v1 W m0 m1).mono fun e W' ⟨he, bel⟩ => ?_
 subst he
 exact ⟨_, rfl, _, _, _, [], _, [], hW', trodAll_mk1 (shut_bool Tryz.underlying4 _), (trodAll_cons_mk (Below.trod periodLonger_laidOut (by kernel_rfl) (of_decide_eq_true (by kernel_rfl)) k0 bel lt0) (trodAll_cons_mk (Below.trod periodLonger_laidOut (by kernel_rfl) (of_decide_eq_true (by kernel_rfl)) k1 bel lt1) trodAll_mk0)), rfl, bel.frame _, fun h => by cases h⟩
theorem periodLonger_over : Rows.periodLongerRow.holds Tryz.pinned (OpenSpec.ofChange Rows.periodLongerSpec) :=
 OpenClaim.holds_of_wide 7 Tryz.f7 rfl rfl rfl rfl rfl rfl rfl ⟨rfl, rfl, rfl, rfl, rfl⟩ rfl rfl rfl rfl rfl (by kernel_rfl) Tryz.func7 (by kernel_rfl)
  (of_decide_eq_true (by kernel_rfl)) (by unfold Func.isWrapper; first | (rw [if_pos (by decide +kernel)]; kernel_rfl) | (rw [if_neg (by decide +kernel)]; exact ⟨rfl, rfl⟩))
  (fun os started H enc _ => periodLonger_lifted os started H enc)
theorem periodLonger_proved : Rows.PeriodLongerCardSaid :=
 Claim7.holds_tied_plain_at .later [] [.data, .pinned] true Rows.periodLongerCard.stood.harness false periodLonger_over (fun _ h => by cases h) (by kernel_rfl) (fun _ h => by cases h) periodLonger_row_tie rfl ⟨rfl, rfl⟩ (by kernel_rfl) rfl
  (fun f fn hf hfn => by
   obtain rfl : f = 7 := Option.some.inj ((show Tryz.prog.funcNamed Rows.periodLongerRow.func = some 7 by kernel_rfl).symm.trans hf) |>.symm
   obtain rfl : fn = Tryz.f7 := (Option.some.inj (Tryz.func7.symm.trans hfn)).symm
   exact ⟨by kernel_rfl, fun j t ht => by
    rw [Tryz.params7] at ht
    have hm : t ∈ [22, 44] := by simpa using Array.mem_of_getElem? ht
    have hall : ([22, 44].all fun u => !Tryz.prog.wantsStandIn u) = true := by kernel_rfl
    exact (show Tryz.prog.wantsStandIn t = false by simpa using List.all_eq_true.1 hall t hm)⟩)
  (by kernel_rfl)
end Go.Proofs.YteknldaoegccaaaGreatDoor
