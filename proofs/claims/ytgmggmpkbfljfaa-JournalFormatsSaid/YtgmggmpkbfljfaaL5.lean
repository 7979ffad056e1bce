/- For any numbers the statement JournalFormats returns true. -/
import Derived.Test.YtgmggmpkbfljfaaDe
set_option linter.unusedVariables false
set_option linter.unusedSimpArgs false
set_option maxRecDepth 100000
namespace Go.Proofs.Ytgmggmpkbfljfaa
open Go.RowKit
def xS : ByteArray := ⟨#[120]⟩
def oneB (R g : Nat) : Bk := ⟨R, g, 1, 0, [], [xS]⟩
theorem one_app (R g : Nat) : bApp (bEmpty R g) xS = (0, oneB R g) := by
  unfold bApp
  rw [if_neg (by decide), if_neg (by show ¬ 256 ≤ 0; omega)]
  rfl
theorem one_commit (R g : Nat) (h : 0 < R) : bCommit (oneB R g) = ((1, 0), bNext (oneB R g)) := by
  have hs : secsN [xS] = 1 := by decide
  rw [bCommit_ok _ (by show usedN [] + secsN [xS] ≤ R; rw [hs]; show 0 + 1 ≤ R; omega)]
  rfl
theorem format_e (w : World) (b mb : Nat) (pv : Value) (v : Vol) (hv : VolAt w b mb pv v) (hck : jCheck v ≠ 0) :
    Calls Try.prog 27 #[.pointer (some ⟨b, 0, none⟩)] w fun e w' => e = .returned (.int .i64 (jCheck v)) ∧ w' = w := by
  have HC := Lib.hid (jcheck_c w b mb pv v hv)
  have hne : (jCheck v != 0) = true := by rw [bne_iff_ne]; exact hck
  clear hck hv
  generalize jCheck v = ck at *
  go_enter Try.func27, Try.ntmps27
  go_wp2_with fail
  refine HC.out.mono ?_
  rintro e w' ⟨rfl, rfl⟩
  dsimp only
  go_wp2_with fail
  go_ret
  exact ⟨rfl, rfl⟩
theorem Dev0.box {t : Nat} {w wk : World} {vb mb bk : Nat} {B B' : Bk} (h : Dev0 t w wk vb mb bk B B') : ∃ gv pv, wk.heap[bk]? = some (.cells (bcells B'.ring B'.gen B'.first B'.place gv pv) 43 (0, 0)) := by
  obtain ⟨v, C, _, _, _, _, F, ⟨F1, F2, _, ⟨gv, pv, G, _, hb⟩, _⟩, _⟩ := h
  exact ⟨gv, pv, hb.box⟩
theorem Dev0.crash {t : Nat} {w wk : World} {vb mb bk : Nat} {B B' : Bk} (h : Dev0 t w wk vb mb bk B B') :
    Calls Try.prog 29 #[.pointer (some ⟨vb, 0, none⟩)] wk fun e w' => e = .returned (.tuple #[]) ∧ ∃ v, v.down = true ∧ To (VolH vb mb v) [] w w' := by
  obtain ⟨v, C, h1, h2, h3, h4, h5⟩ := h
  have h6 : To (VolH vb mb v) [] w wk := h5.weak fun F ⟨F1, F2, k1, k2, d, e⟩ => ⟨F1, k1, fun x hx => by rw [e]; exact List.mem_append_left _ hx⟩
  exact (h6.call (crash_m vb mb v)).mono fun e w' hk => ⟨hk.1, _, rfl, hk.2⟩
set_option maxHeartbeats 8000000 in
theorem formats (a b : Int) (ha : 0 ≤ a ∧ a ≤ 255) (hb : 0 ≤ b ∧ b ≤ 255) (w : World) :
    Calls Try.prog 5 #[.int .u8 a, .int .u8 b] w fun e w' => e = .returned (.bool true) ∧ Below w.heap.size w w' := by
  obtain ⟨n, hn⟩ : ∃ n : Nat, 1 + a % 14 = n := ⟨(1 + a % 14).toNat, by omega⟩
  obtain ⟨T, hT⟩ : ∃ T : Nat, b % 5 = T := ⟨(b % 5).toNat, by omega⟩
  have hnb : 1 ≤ n ∧ n ≤ 14 := by omega
  have hTb : T ≤ 4 := by omega
  have HN := Lib.hid (new_o (n : Int) w (by omega) (by omega))
  by_cases hn3 : n < 3
  · have hck : jCheck (vNew (n : Int)) = 2 := by
      unfold jCheck
      rw [if_neg (by simp [vNew]), if_pos (by show (n : Int) ≤ 2; omega)]
    have hn3' : (n : Int) < 3 := by omega
    have HO : Hid (∀ w' F b mb, VolH b mb (vNew (n : Int)) w' F → Calls Try.prog 26 #[.pointer (some ⟨b, 0, none⟩)] w' fun e w'' => e = .returned (.tuple #[.pointer none, .int .i64 2]) ∧ w'' = w') := fun w' F b mb ⟨pv, h, _⟩ => by
      have := open_e w' b mb pv _ h (by rw [hck]; decide)
      rwa [hck] at this
    have HF : Hid (∀ w' F b mb, VolH b mb (vNew (n : Int)) w' F → Calls Try.prog 27 #[.pointer (some ⟨b, 0, none⟩)] w' fun e w'' => e = .returned (.int .i64 2) ∧ w'' = w') := fun w' F b mb ⟨pv, h, _⟩ => by
      have := format_e w' b mb pv _ h (by rw [hck]; decide)
      rwa [hck] at this
    clear hck
    generalize vNew (n : Int) = v0 at *
    go_enter Try.func5, Try.ntmps5
    go_wp2_with fail
    refine HN.out.mono ?_
    rintro e w1 ⟨rfl, hV1, hk1⟩
    dsimp only
    have HOx := Lib.hid (HO.out _ _ _ _ hV1)
    have HFx := Lib.hid (HF.out _ _ _ _ hV1)
    have Hk1 := Lib.hid hk1
    clear hV1 hk1
    go_wp2_with fail
    refine HOx.out.mono ?_
    rintro e w2 ⟨rfl, hw⟩
    dsimp only
    subst hw
    go_wp2_with fail
    refine HFx.out.mono ?_
    rintro e w3 ⟨rfl, hw⟩
    dsimp only
    subst hw
    go_wp2_with fail
    refine (known_c w3).mono ?_
    rintro e w4 ⟨rfl, hk4⟩
    dsimp only
    have Hk4 := Lib.hid (Hk1.out.trans0 hk4)
    clear hk4
    go_wp2_with fail
    go_ret
    exact ⟨rfl, Hk4.out.below0⟩
  · obtain ⟨R, rfl⟩ : ∃ R, n = R + 2 := ⟨n - 2, by omega⟩
    have hR0 : 0 < R := by omega
    obtain ⟨hf1, hf2⟩ := format_new R hR0
    have hno := newest_zero (R + 2) (by omega)
    have HO : Hid (∀ w' F b mb, VolH b mb (vNew ((R + 2 : Nat) : Int)) w' F → Calls Try.prog 26 #[.pointer (some ⟨b, 0, none⟩)] w' fun e w'' => e = .returned (.tuple #[.pointer none, .int .i64 23]) ∧ Keep [] w' w'') := fun w' F b mb ⟨pv, h, _⟩ =>
      open_v w' b mb pv _ h rfl (by show (2 : Int) < ((R + 2 : Nat) : Int); omega) (by show (0 : Nat) ≤ 4096; omega) hno.2 hno.1
    have HF : Hid (∀ b mb, Met Try.prog 27 #[.pointer (some ⟨b, 0, none⟩)] (.int .i64 0) (VolH b mb (vNew ((R + 2 : Nat) : Int))) (VolH b mb (jFormat (vNew ((R + 2 : Nat) : Int))).2)) := fun b mb => by
      have := format_m b mb (vNew ((R + 2 : Nat) : Int)) hno.2 (by show (0 : Nat) ≤ 2000; omega) (by rw [hno.1]; show (0 : Nat) ≤ _; omega)
      rwa [hf1] at this
    have Hd : Hid (∀ v, v = (jFormat (vNew ((R + 2 : Nat) : Int))).2 → ∃ C, Good v (R + 2) C 0 ∧ DJ C (bEmpty R 1)) := fun v hv => ⟨_, hv ▸ hf2, dj_first R⟩
    generalize hv1 : (jFormat (vNew ((R + 2 : Nat) : Int))).2 = v1 at *
    generalize vNew ((R + 2 : Nat) : Int) = v0 at *
    clear hf1 hf2 hno
    have Hd1 := Lib.hid (Hd.out v1 rfl)
    clear Hd
    have hR3 : ¬ (((R + 2 : Nat) : Int)) < 3 := by omega
    have hRR : ((R + 2 : Nat) : Int) - 2 = R := by omega
    generalize ((R + 2 : Nat) : Int) = ni at *
    have HRR := Lib.hid hRR
    clear hRR
    go_enter Try.func5, Try.ntmps5
    go_wp2_with fail
    refine HN.out.mono ?_
    rintro e w1 ⟨rfl, hV1, hk1⟩
    dsimp only
    have HOx := Lib.hid (HO.out _ _ _ _ hV1)
    have HV1 := Lib.hid hV1
    have Hk1 := Lib.hid hk1
    clear hV1 hk1
    go_wp2_with fail
    refine HOx.out.mono ?_
    rintro e w2 ⟨rfl, hk2⟩
    dsimp only
    have HV2 := Lib.hid ((volH_stab _ _ _).keep HV1.out hk2 (by simp))
    have Hk2 := Lib.hid (Hk1.out.trans0 hk2)
    clear hk2
    go_wp2_with fail
    refine (HF.out _ _ _ _ HV2.out).mono ?_
    rintro e w3 ⟨rfl, ht3⟩
    dsimp only
    have HT3 : Hid (To (VolH (w.heap.size + 1) w.heap.size v1) [] w w3) := ht3.before Hk2.out (fun x hx => .inr (by simp at hx; omega))
    clear ht3
    go_wp2_with fail
    refine (known_c w3).mono ?_
    rintro e w4 ⟨rfl, hk4⟩
    dsimp only
    have HT4 := Lib.hid (HT3.out.kept (volH_stab _ _ _) hk4)
    clear hk4
    go_wp2_with fail
    rw [HRR.out]
    have hd5 : Dev0 0 w (w4.alloc (.cells (bcells R 1 1 0 (.slice none 0 0) (.slice none 0 0)) 43)) (w.heap.size + 1) w.heap.size w4.heap.size (bEmpty R 1) (bEmpty R 1) := by
      obtain ⟨C, g1, g2⟩ := Hd1.out
      exact ⟨v1, C, g1, g2, bEmpty_ok _ _ _ hR0 (by omega) (by omega) (by omega), bEmpty_ok _ _ _ hR0 (by omega) (by omega) (by omega), sep_new (volH_stab _ _ _) HT4.out (book_new w4 R 1 1 0)⟩
    show Calls _ _ _ (w4.alloc (.cells (bcells R 1 1 0 (.slice none 0 0) (.slice none 0 0)) 43)) _
    generalize w.heap.size + 1 = vb at *
    generalize w.heap.size = mb at *
    generalize w4.heap.size = bk at *
    generalize w4.alloc (.cells (bcells R 1 1 0 (.slice none 0 0) (.slice none 0 0)) 43) = w5 at *
    clear HT4 HT3 Hk2 HV2 HOx HV1 Hk1 Hd1 HF HO HN
    refine (image_D hd5).mono ?_
    rintro e w6 ⟨rfl, hd6⟩
    dsimp only
    have HD6 := Lib.hid hd6
    clear hd5 hd6
    go_wp2_with fail
    go_loopw [11, 12] (fun bv i wr => ∃ (k bk : Nat), k ≤ T ∧ i = .int .i64 k ∧ bv = .pointer (some ⟨bk, 0, none⟩) ∧ Dev0 (4 * k) w wr vb mb bk (bEmpty R (2 * k + 1)) (bEmpty R (2 * k + 1))) (fun _ i _ => 10 - (intOf i).toNat)
    case atStart => exact ⟨0, bk, by omega, rfl, rfl, HD6.out⟩
    case round =>
      obtain ⟨k, bk1, hkT, rfl, rfl, hd⟩ := hrel
      have HD := Lib.hid hd
      clear hd HD6
      by_cases hlt : k < T
      · have HO := Lib.hid (open_D HD.out)
        go_wp2_with fail
        refine HO.out.mono ?_
        rintro e w7 ⟨jb, rfl, hl⟩
        dsimp only
        have HA := Lib.hid (agrees_L hl (same_self _) rfl)
        clear HO hl
        go_wp2_with fail
        refine HA.out.mono ?_
        rintro e w8 ⟨rfl, hl⟩
        dsimp only
        have HA := Lib.hid (append_L hl xS (by decide))
        rw [show ({ bEmpty R (2 * k + 1) with pend := [] } : Bk) = bEmpty R (2 * k + 1) from rfl, one_app] at HA
        clear hl
        go_wp2_with fail
        refine HA.out.mono ?_
        rintro e w9 ⟨rfl, hl⟩
        dsimp only at hl ⊢
        have HB := Lib.hid (bappend_L hl xS (by decide))
        rw [one_app] at HB
        clear hl HA
        go_wp2_with fail
        refine HB.out.mono ?_
        rintro e w10 ⟨rfl, hl⟩
        dsimp only at hl ⊢
        have HC := Lib.hid (commit_L hl (by omega))
        rw [one_commit _ _ hR0] at HC
        clear hl HB
        go_wp2_with fail
        refine HC.out.mono ?_
        rintro e w11 ⟨rfl, hl⟩
        dsimp only at hl ⊢
        have HC2 := Lib.hid (bcommit_L hl (by omega))
        rw [one_commit _ _ hR0] at HC2
        clear hl HC
        go_wp2_with fail
        refine HC2.out.mono ?_
        rintro e w12 ⟨rfl, hl⟩
        dsimp only at hl ⊢
        have HA := Lib.hid (agrees_L hl (same_self _) rfl)
        clear hl HC2
        go_wp2_with fail
        refine HA.out.mono ?_
        rintro e w13 ⟨rfl, hl⟩
        dsimp only
        have HI := Lib.hid (image_L hl)
        clear hl HA
        go_wp2_with fail
        refine HI.out.mono ?_
        rintro e w14 ⟨rfl, hl⟩
        dsimp only
        have HF := Lib.hid (format_D hl.dev (by omega))
        clear hl HI
        go_wp2_with fail
        refine HF.out.mono ?_
        rintro e w15 ⟨rfl, hd⟩
        dsimp only
        obtain ⟨gv, pv, hbx⟩ := hd.box
        have hc := cell_of hbx
        have hge : (((bNext (oneB R (2 * k + 1))).gen : Nat) : Int) = ((2 * k + 2 : Nat) : Int) := rfl
        simp only [bcells, hge] at hc
        have HD15 : Hid (Dev0 (4 * k + 3) w w15 vb mb bk1 (bEmpty R (2 * k + 3)) (bNext (oneB R (2 * k + 1)))) := hd
        clear hd HF hbx hge
        go_wp2_with fail
        rw [HRR.out, show (2 * (k : Int) + 2 + 1) = ((2 * k + 3 : Nat) : Int) by omega]
        have hb := book_D HD15.out (bEmpty_ok R (2 * k + 3) (4 * k + 3) hR0 (by omega) (by omega) (by omega))
        show Calls _ _ _ (w15.alloc (.cells (bcells R (2 * k + 3) 1 0 (.slice none 0 0) (.slice none 0 0)) 43)) _
        have HI := Lib.hid (image_D (t := 4 * k + 3) (B := bEmpty R (2 * k + 3)) hb)
        clear hb hc
        generalize w15.heap.size = bk2 at *
        dsimp only [bEmpty] at HI
        generalize w15.alloc (.cells (bcells R (2 * k + 3) 1 0 (.slice none 0 0) (.slice none 0 0)) 43) = w16 at *
        refine HI.out.mono ?_
        rintro e w17 ⟨rfl, hd⟩
        dsimp only
        have HD17 : Hid (Dev0 (4 * (k + 1)) w w17 vb mb bk2 (bEmpty R (2 * (k + 1) + 1)) (bEmpty R (2 * (k + 1) + 1))) := Dev0.up hd (by omega) (by omega)
        clear HI hd HD15
        go_wp2_with fail
        go_roundw
        case rel => exact ⟨k + 1, bk2, by omega, by go_num, rfl, HD17.out⟩
        case measure => simp [intOf]; omega
      · obtain rfl : k = T := by omega
        have HC := Lib.hid HD.out.crash
        clear HD hlt
        go_wp2_with fail
        refine HC.out.mono ?_
        rintro e w7 ⟨rfl, v, hdown, ht⟩
        dsimp only
        have hck : jCheck v = 20 := by unfold jCheck; rw [if_pos hdown]
        have Ht := Lib.hid ht
        obtain ⟨F, hV, hkx, hFx⟩ := ht
        obtain ⟨pv, hVA, _⟩ := hV
        have HO := Lib.hid (open_e w7 _ _ _ _ hVA (by rw [hck]; decide))
        have HF := Lib.hid (format_e w7 _ _ _ _ hVA (by rw [hck]; decide))
        rw [hck] at HO HF
        have HK := Lib.hid hkx.below0
        clear hVA hck hdown Ht hkx HC
        go_wp2_with fail
        refine HO.out.mono ?_
        rintro e w8 ⟨rfl, hw⟩
        dsimp only
        subst hw
        go_wp2_with fail
        refine HF.out.mono ?_
        rintro e w9 ⟨rfl, hw⟩
        dsimp only
        subst hw
        go_wp2_with fail
        go_ret
        exact ⟨rfl, HK.out⟩
/-! ### frame -/
open Go.ChangeShapes Go.WideShapes Go.ChangeAt
open Go.ChangeMaps (open_string shut_string)
theorem journalFormats_walk (a0 : Int) (w0 : (Lit.int .u8 a0).wf = true) (a1 : Int) (w1 : (Lit.int .u8 a1).wf = true) (w : World) :
    Calls Try.prog 5 #[.int .u8 a0, .int .u8 a1] w fun e w' => e = .returned (.bool true) ∧ Below w.heap.size w w' :=
  formats a0 a1 (Go.bounds_u8 w0) (Go.bounds_u8 w1) w
theorem journalFormats_own : ownKnob Try.prog.godebug = none := by kernel_rfl
theorem journalFormats_laidOut : laidOutB Try.prog = true := by kernel_rfl
set_option maxRecDepth 100000 in
theorem journalFormats_lifted (os : Os) (started : os.Started) (H : Type) (enc : TypeId × Value → H) :
    ReturnsInHanded {} Try.checked os 5 .any (Rows.journalFormatsSpec.pre6 enc Try.prog Try.f5 Rows.journalFormatsRow.domain false) (Rows.journalFormatsSpec.post enc Try.prog Try.f5 false true false false) := by
  refine returnsInHanded_of_change (C := Try.checked) journalFormats_own started (by kernel_rfl) Try.func5
    (ChangeSpec.witness6 (enc := enc) (C := Try.checked) false ⟨#[], #[.int .u8 0, .int .u8 0], []⟩ 8 (by kernel_rfl) (by kernel_rfl) (by kernel_rfl) (by kernel_rfl)) ?_
  intro W base args ds gs before hval0 hW hcnd _
  have hval : ∀ (j : Nat) t v, Try.f5.params[j]? = some t → args[j]? = some v → Value.okWide Try.prog W .any base t v := hval0
  have hW' := hW
  obtain ⟨p, q, hA0, hV, rfl, hfz, hnd⟩ := hW
  have hA : DataW.TrodAll enc Try.prog W 0 (fun _ => true) true Try.f5.params.toList args.toList ds p := hA0
  rw [Try.params5] at hA hval
  obtain ⟨v0, vs0, d0, ds0, p0, q0, hargs, rfl, rfl, h0, r0⟩ := trodAll_cons hA
  obtain ⟨v1, vs1, d1, ds1, p1, q1, rfl, rfl, rfl, h1, r1⟩ := trodAll_cons r0
  obtain ⟨rfl, rfl, rfl⟩ := trodAll_nil r1
  obtain rfl : args = #[v0, v1] := by cases args; simp_all
  obtain ⟨rfl, rfl⟩ := trodVars_none hV
  have k0 := h0
  have lt0 : ∀ x ∈ p0, x.block < W.heap.size := by obtain ⟨m, hm⟩ := k0; exact DataW.trod_lt m _ _ _ hm
  have k1 := h1
  have lt1 : ∀ x ∈ p1, x.block < W.heap.size := by obtain ⟨m, hm⟩ := k1; exact DataW.trod_lt m _ _ _ hm
  obtain ⟨a0, rfl, rfl, rfl, w0⟩ := open_int Try.underlying5 (hval 0 5 v0 rfl rfl) h0
  obtain ⟨a1, rfl, rfl, rfl, w1⟩ := open_int Try.underlying5 (hval 1 5 v1 rfl rfl) h1
  clear hA0 hval0
  refine (journalFormats_walk a0 w0 a1 w1 W).mono fun e W' ⟨he, bel⟩ => ?_
  subst he
  exact ⟨_, rfl, _, _, _, [], _, [], hW', trodAll_mk1 (shut_bool Try.underlying4 _), (trodAll_cons_mk (Below.trod journalFormats_laidOut (by kernel_rfl) (of_decide_eq_true (by kernel_rfl)) k0 bel lt0) (trodAll_cons_mk (Below.trod journalFormats_laidOut (by kernel_rfl) (of_decide_eq_true (by kernel_rfl)) k1 bel lt1) trodAll_mk0)), rfl, bel.frame _, fun h => by cases h⟩
theorem journalFormats_over : Rows.journalFormatsRow.holds Try.pinned (OpenSpec.ofChange Rows.journalFormatsSpec) :=
  OpenClaim.holds_of_wide 5 Try.f5 rfl rfl rfl rfl rfl rfl rfl ⟨rfl, rfl, rfl, rfl, rfl⟩ rfl rfl rfl rfl rfl (by kernel_rfl) Try.func5 (by kernel_rfl)
    (of_decide_eq_true (by kernel_rfl)) (by unfold Func.isWrapper; first | (rw [if_pos (by decide +kernel)]; kernel_rfl) | (rw [if_neg (by decide +kernel)]; exact ⟨rfl, rfl⟩))
    (fun os started H enc _ => journalFormats_lifted os started H enc)
/-- The statement. -/
theorem journalFormats_proved : Rows.JournalFormatsSaid := journalFormats_over
#print axioms journalFormats_proved
end Go.Proofs.Ytgmggmpkbfljfaa
