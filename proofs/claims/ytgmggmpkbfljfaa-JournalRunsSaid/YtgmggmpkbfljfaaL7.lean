/- For any operations the statement JournalRuns returns true. -/
import Derived.Test.YtgmggmpkbfljfaaPfa
set_option linter.unusedVariables false
set_option linter.unusedSimpArgs false
set_option maxRecDepth 100000
namespace Go.Proofs.Ytgmggmpkbfljfaa
open Go.RowKit
theorem Live.ps {t : Nat} {w wk : World} {vb mb jb bk : Nat} {B B' : Bk} (h : Live t w wk vb mb jb bk B B') : To (Sep (DvJ t vb mb jb B) (BkO bk t B')) [] w wk := by
  obtain ⟨v, C, h1, h2, h3, h4, h5⟩ := h
  refine h5.imp fun w F hF => ?_
  obtain ⟨F1, F2, k1, k2, d, rfl⟩ := sep_assoc' w F hF
  exact ⟨F1, F2, ⟨v, C, h1, h2, h3, k1⟩, ⟨h4, k2⟩, d, rfl⟩
theorem To.of0 {A : HP} {w wk : World} (h : To A [] w wk) : Keep [] w wk := by obtain ⟨F, _, hk, _⟩ := h; exact hk
theorem To.parts {A B : HP} {F : List Nat} {w wk : World} (h : To (Sep A B) F w wk) : ∃ F1 F2, A wk F1 ∧ B wk F2 := by
  obtain ⟨F', ⟨F1, F2, h1, h2, d, rfl⟩, h3, h4⟩ := h
  exact ⟨F1, F2, h1, h2⟩
set_option maxHeartbeats 8000000 in
theorem runs (a : Int) (ha : 0 ≤ a ∧ a ≤ 255) (lv : Value) (w : World) (hl : JOpsArg w lv) :
    Calls Try.prog 7 #[.int .u8 a, lv] w fun e w' => e = .returned (.bool true) ∧ Below w.heap.size w w' := by
  obtain ⟨os, hz⟩ := hl
  obtain ⟨la, lc, rfl, hlm⟩ := hz.form
  obtain ⟨n0, rfl⟩ : ∃ n0 : Nat, a = n0 := ⟨a.toNat, by omega⟩
  have HSz := Lib.hid (fun w => sizeOf_c n0 w)
  obtain ⟨n, hn⟩ : ∃ n, 3 + n0 % 12 = n := ⟨_, rfl⟩
  rw [hn] at HSz
  have hn3 : 3 ≤ n ∧ n ≤ 14 := by omega
  have HM := Lib.hid (made_c w n (by omega) (by omega))
  have HZ := Lib.hid hz
  clear hz
  obtain ⟨ln, hln⟩ : ∃ ln, os.length = ln := ⟨_, rfl⟩
  have Hln := Lib.hid hln
  rw [hln] at hlm ⊢
  clear hln
  go_enter Try.func7, Try.ntmps7
  go_wp2_with fail
  refine (HSz.out w).mono ?_
  rintro e w0 ⟨rfl, rfl⟩
  dsimp only
  go_wp2_with fail
  refine HM.out.mono ?_
  rintro e w1 ⟨vb, mb, jb, bk, rfl, hmade⟩
  dsimp only
  have HL1 := Lib.hid (live_made hmade (by omega) (by omega))
  clear hmade
  go_wp2_with fail
  refine (known_c w1).mono ?_
  rintro e w2 ⟨rfl, hk2⟩
  dsimp only
  have HL2 := Lib.hid (HL1.out.keep hk2).ps
  clear hk2 HL1
  go_wp2_with fail
  go_loopw [6, 8] (fun jv i wr => ∃ (k jb : Nat) (B : Bk), k ≤ 40 ∧ k ≤ ln ∧ i = .int .i64 k ∧ jv = .pointer (some ⟨jb, 0, none⟩) ∧ To (PS (BkO bk) vb mb k jb B) [] w0 wr) (fun _ i _ => 41 - (intOf i).toNat)
  case atStart => exact ⟨0, jb, _, by omega, by omega, rfl, rfl, HL2.out⟩
  case round =>
    obtain ⟨k, jb1, B, hk40, hkl, rfl, rfl, ht⟩ := hrel
    have HT := Lib.hid ht
    clear ht HL2 HM
    by_cases hlt : k < ln
    · by_cases hlt2 : k < 40
      · have hz := HZ.out
        obtain ⟨lb, lo, rfl, hok, hel⟩ := hz.elem k (by rw [Hln.out]; exact hlt)
        obtain ⟨e0, e1, e2⟩ := hel wr HT.out.of0
        have hlbr : lb < wr.heap.size := World.block_lt_of_cell? wr _ e0
        generalize os[k]'(by rw [Hln.out]; exact hlt) = x at *
        obtain ⟨F1, hF1, hk1, hs1⟩ := HT.out
        have HP := Lib.hid (perform_t (bkO_book bk) (by omega) x hok wr F1 hF1)
        have HB : Hid (∀ jb' w', To (PS (BkO bk) vb mb (k + 1) jb' (bOp x B)) F1 wr w' → To (PS (BkO bk) vb mb (k + 1) jb' (bOp x B)) [] w0 w') := fun jb' w' h => h.before hk1 hs1
        clear hel hz hok hF1 hk1 hs1
        go_wp2_with fail
        refine HP.out.mono ?_
        rintro e w3 ⟨jb2, rfl, _, ht3⟩
        dsimp only
        have ht4 := HB.out _ _ ht3
        obtain ⟨F2, F3, h2, h3⟩ := ht4.parts
        have HA := Lib.hid (agrees_d w3 F2 F3 h2 h3.2)
        have HT4 := Lib.hid ht4
        clear ht3 ht4 h2 h3 HP HB e0 e1 e2
        go_wp2_with fail
        refine HA.out.mono ?_
        rintro e w4 ⟨rfl, hk4⟩
        dsimp only
        have HT5 := Lib.hid (HT4.out.kept (ps_stab (bkO_book bk)) hk4)
        clear hk4 HT4 HA
        go_wp2_with fail
        go_roundw
        case rel => exact ⟨k + 1, jb2, _, by omega, by omega, by go_num, rfl, HT5.out⟩
        case measure => simp [intOf]; omega
      · obtain rfl : k = 40 := by omega
        obtain ⟨F2, F3, h2, h3⟩ := HT.out.parts
        have HI := Lib.hid (image_d wr F2 F3 h2 h3.2)
        have HK := Lib.hid HT.out.of0
        clear h2 h3 hlt2
        go_wp2_with fail
        refine HI.out.mono ?_
        rintro e w4 ⟨rfl, hk4⟩
        dsimp only
        have HK4 := Lib.hid (HK.out.trans0 hk4).below0
        clear hk4
        go_wp2_with fail
        go_ret
        exact ⟨rfl, HK4.out⟩
    · obtain rfl : k = ln := by omega
      obtain ⟨F2, F3, h2, h3⟩ := HT.out.parts
      have HI := Lib.hid (image_d wr F2 F3 h2 h3.2)
      have HK := Lib.hid HT.out.of0
      clear h2 h3
      go_wp2_with fail
      refine HI.out.mono ?_
      rintro e w4 ⟨rfl, hk4⟩
      dsimp only
      have HK4 := Lib.hid (HK.out.trans0 hk4).below0
      clear hk4
      go_wp2_with fail
      go_ret
      exact ⟨rfl, HK4.out⟩
/-! ### frame -/
open Go.ChangeShapes Go.WideShapes Go.ChangeAt
open Go.ChangeMaps (open_string shut_string)
theorem journalRuns_walk (a0 : Int) (w0 : (Lit.int .u8 a0).wf = true) (v1 : Value) (w : World) (m1 : JOpsArg w v1) :
    Calls Try.prog 7 #[.int .u8 a0, v1] w fun e w' => e = .returned (.bool true) ∧ Below w.heap.size w w' :=
  runs a0 (Go.bounds_u8 w0) v1 w m1
theorem journalRuns_own : ownKnob Try.prog.godebug = none := by kernel_rfl
theorem journalRuns_laidOut : laidOutB Try.prog = true := by kernel_rfl
set_option maxRecDepth 100000 in
theorem journalRuns_lifted (os : Os) (started : os.Started) (H : Type) (enc : TypeId × Value → H) :
    ReturnsInHanded {} Try.checked os 7 .any (Rows.journalRunsSpec.pre6 enc Try.prog Try.f7 Rows.journalRunsRow.domain false) (Rows.journalRunsSpec.post enc Try.prog Try.f7 false true false false) := by
  refine returnsInHanded_of_change (C := Try.checked) journalRuns_own started (by kernel_rfl) Try.func7
    (ChangeSpec.witness6 (enc := enc) (C := Try.checked) false ⟨#[], #[.int .u8 0, .slice none 0 0], []⟩ 8 (by kernel_rfl) (by kernel_rfl) (by kernel_rfl) (by kernel_rfl)) ?_
  intro W base args ds gs before hval0 hW hcnd _
  have hval : ∀ (j : Nat) t v, Try.f7.params[j]? = some t → args[j]? = some v → Value.okWide Try.prog W .any base t v := hval0
  have hW' := hW
  obtain ⟨p, q, hA0, hV, rfl, hfz, hnd⟩ := hW
  have hA : DataW.TrodAll enc Try.prog W 0 (fun _ => true) true Try.f7.params.toList args.toList ds p := hA0
  rw [Try.params7] at hA hval
  obtain ⟨v0, vs0, d0, ds0, p0, q0, hargs, rfl, rfl, h0, r0⟩ := trodAll_cons hA
  obtain ⟨v1, vs1, d1, ds1, p1, q1, rfl, rfl, rfl, h1, r1⟩ := trodAll_cons r0
  obtain ⟨rfl, rfl, rfl⟩ := trodAll_nil r1
  obtain rfl : args = #[v0, v1] := by cases args; simp_all
  obtain ⟨rfl, rfl⟩ := trodVars_none hV
  have k0 := h0
  have lt0 : ∀ x ∈ p0, x.block < W.heap.size := by obtain ⟨m, hm⟩ := k0; exact DataW.trod_lt m _ _ _ hm
  have k1 := h1
  have lt1 : ∀ x ∈ p1, x.block < W.heap.size := by obtain ⟨m, hm⟩ := k1; exact DataW.trod_lt m _ _ _ hm
  obtain ⟨a0, rfl, rfl, rfl, w0⟩ := open_int Try.underlying5 (hval 0 5 v0 rfl rfl) h0
  have m1 : JOpsArg W v1 := JOpsArg_open (hval 1 59 v1 rfl rfl) h1
  clear hA0 hval0
  refine (journalRuns_walk a0 w0 v1 W m1).mono fun e W' ⟨he, bel⟩ => ?_
  subst he
  exact ⟨_, rfl, _, _, _, [], _, [], hW', trodAll_mk1 (shut_bool Try.underlying4 _), (trodAll_cons_mk (Below.trod journalRuns_laidOut (by kernel_rfl) (of_decide_eq_true (by kernel_rfl)) k0 bel lt0) (trodAll_cons_mk (Below.trod journalRuns_laidOut (by kernel_rfl) (of_decide_eq_true (by kernel_rfl)) k1 bel lt1) trodAll_mk0)), rfl, bel.frame _, fun h => by cases h⟩
theorem journalRuns_over : Rows.journalRunsRow.holds Try.pinned (OpenSpec.ofChange Rows.journalRunsSpec) :=
  OpenClaim.holds_of_wide 7 Try.f7 rfl rfl rfl rfl rfl rfl rfl ⟨rfl, rfl, rfl, rfl, rfl⟩ rfl rfl rfl rfl rfl (by kernel_rfl) Try.func7 (by kernel_rfl)
    (of_decide_eq_true (by kernel_rfl)) (by unfold Func.isWrapper; first | (rw [if_pos (by decide +kernel)]; kernel_rfl) | (rw [if_neg (by decide +kernel)]; exact ⟨rfl, rfl⟩))
    (fun os started H enc _ => journalRuns_lifted os started H enc)
/-- The statement. -/
theorem journalRuns_proved : Rows.JournalRunsSaid := journalRuns_over
#print axioms journalRuns_proved
end Go.Proofs.Ytgmggmpkbfljfaa
