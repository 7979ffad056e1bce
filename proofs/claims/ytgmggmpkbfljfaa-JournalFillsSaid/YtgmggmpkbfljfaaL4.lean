/- For any records the statement JournalFills returns true. -/
import Derived.Test.YtgmggmpkbfljfaaOj
import Derived.Test.YtgmggmpkbfljfaaRd
set_option linter.unusedVariables false
set_option linter.unusedSimpArgs false
set_option maxRecDepth 100000
namespace Go.Proofs.Ytgmggmpkbfljfaa
open Go.RowKit
theorem Live.pendRow {t : Nat} {w wk : World} {vb mb jb bk : Nat} {B B' : Bk} (h : Live t w wk vb mb jb bk B B') :
    ∃ po pc, wk.cell? ⟨bk, 5, none⟩ = some (.slice po B'.pend.length pc) ∧ RowR wk (.slice po B'.pend.length pc) (scells B'.pend) := by
  obtain ⟨v, C, h1, h2, h3, h4, h5⟩ := h
  obtain ⟨Fv, Fj, Fb, _, _, ⟨gv, pv, G, hG, hb⟩⟩ := ST.parts h5
  have hr := hb.rows.2.2
  obtain ⟨po, pc, hp⟩ := hr.form
  rw [scells_length] at hp
  subst hp
  exact ⟨po, pc, by rw [cell_of hb.box]; rfl, hr⟩
set_option maxHeartbeats 8000000 in
theorem fills (a : Int) (ha : 0 ≤ a ∧ a ≤ 255) (lv : Value) (w : World) (hl : U16Arg w lv) :
    Calls Try.prog 4 #[.int .u8 a, lv] w fun e w' => e = .returned (.bool true) ∧ Below w.heap.size w w' := by
  obtain ⟨zs, hz⟩ := hl
  obtain ⟨la, ln, lc, rfl, rfl, hlm⟩ := hz.lt
  obtain ⟨n0, rfl⟩ : ∃ n0 : Nat, a = n0 := ⟨a.toNat, by omega⟩
  have HSz := Lib.hid (fun w => sizeOf_c n0 w)
  obtain ⟨n, hn⟩ : ∃ n, 3 + n0 % 12 = n := ⟨_, rfl⟩
  rw [hn] at HSz
  have hn3 : 3 ≤ n ∧ n ≤ 14 := by omega
  have HM := Lib.hid (made_c w n (by omega) (by omega))
  have HZ := Lib.hid hz
  clear hz
  go_enter Try.func4, Try.ntmps4
  go_wp2_with fail
  refine (HSz.out w).mono ?_
  rintro e w0 ⟨rfl, rfl⟩
  dsimp only
  go_wp2_with fail
  refine HM.out.mono ?_
  rintro e w1 ⟨vb, mb, jb, bk, rfl, hmade⟩
  dsimp only
  have HL1 := Lib.hid (live_made hmade (by omega) (by omega))
  clear hmade
  go_wp2_with fail
  refine (known_c w1).mono ?_
  rintro e w2 ⟨rfl, hk2⟩
  dsimp only
  have HL2 := Lib.hid (HL1.out.keep hk2)
  clear hk2
  go_wp2_with fail
  go_loopw [8] (fun i wr => ∃ (k : Nat) (B : Bk), k ≤ 20 ∧ k ≤ zs.length ∧ i = .int .i64 k ∧ Live (2 * k) w0 wr vb mb jb bk B B) (fun i _ => 20 - (intOf i).toNat)
  case atStart => exact ⟨0, _, by omega, by omega, rfl, HL2.out⟩
  case round =>
    obtain ⟨k, B, hk20, hkl, rfl, hl⟩ := hrel
    have HL := Lib.hid hl
    clear hl
    by_cases hlt : k < zs.length
    · by_cases hlt2 : k < 20
      · obtain ⟨lb, lo, rfl, z, hz, hzc⟩ := HZ.out.elem k hlt
        have hc := hzc wr HL.out.of0
        clear hzc
        go_wp2_with fail
        refine (record_c z hz wr).mono ?_
        rintro e w3 ⟨rfl, hb3⟩
        dsimp only
        have hl3 := HL.out.keep (Keep.of_below hb3)
        have hsz := recN_size z
        generalize recN z = s at *
        have HA := Lib.hid (append_L hl3 s (by omega))
        clear hb3 hl3 hc
        go_wp2_with fail
        refine HA.out.mono ?_
        rintro e w4 ⟨rfl, hl⟩
        dsimp only
        have HB := Lib.hid (bappend_L hl s (by omega))
        clear hl HA
        go_wp2_with fail
        refine HB.out.mono ?_
        rintro e w5 ⟨rfl, hl⟩
        dsimp only
        generalize (bApp B s).2 = B1 at hl
        have HP := Lib.hid (pending_L hl)
        clear hl HB
        go_wp2_with fail
        refine HP.out.mono ?_
        rintro e w6 ⟨vo, vc, rfl, hrow, hl⟩
        dsimp only
        have HSe := Lib.hid (jsectors_c w6 _ B1.pend hrow hl.ok.l hl.ok.s)
        have HL6 := Lib.hid hl
        obtain ⟨po, pc, hpc, hpr⟩ := hl.pendRow
        have hlb : bk < w6.heap.size := World.block_lt_of_cell? w6 _ hpc
        have HEn := Lib.hid (encoded_c w6 1 _ B1.pend hpr (by omega) hl.ok.l hl.ok.s)
        have hez := encS_size 1 B1.pend
        have hneed : secsN B1.pend ≤ 40000 := by
          have := sumS_le B1.pend hl.ok.s
          have := hl.ok.l
          unfold secsN; omega
        clear hl hrow HP hpr
        go_wp2_with fail
        refine HSe.out.mono ?_
        rintro e w7 ⟨rfl, hw⟩
        dsimp only
        subst hw
        go_wp2_with fail
        refine HEn.out.mono ?_
        rintro e w8 ⟨rfl, hk8⟩
        dsimp only
        have HL8 := Lib.hid (HL6.out.keep hk8)
        generalize encS 1 B1.pend = es at *
        have hdv2 : (es.size : Int) / 128 = (secsN B1.pend : Int) := by rw [hez]; omega
        have hesb : es.size ≤ 6000000 := by omega
        have HF := Lib.hid (free_L HL8.out)
        clear hk8 HEn hez
        go_wp2_with fail
        refine HF.out.mono ?_
        rintro e w9 ⟨rfl, hl⟩
        dsimp only
        have hok := hl.ok
        have hrb := hok.r9
        have hub := hok.u
        clear HF hok
        by_cases hr : usedN B1.groups + secsN B1.pend ≤ B1.ring
        · have hcm := bCommit_ok B1 hr
          have HC := Lib.hid (commit_L hl (by omega))
          rw [hcm] at HC
          dsimp only at HC
          have hgt : (secsN B1.pend : Int) ≤ (B1.ring : Int) - (usedN B1.groups : Nat) := by omega
          clear hl
          go_wp2_with fail
          refine HC.out.mono ?_
          rintro e w10 ⟨rfl, hl⟩
          dsimp only
          have HC2 := Lib.hid (bcommit_L hl (by omega))
          rw [hcm] at HC2
          dsimp only at HC2
          clear hl HC hcm
          go_wp2_with fail
          refine HC2.out.mono ?_
          rintro e w11 ⟨rfl, hl⟩
          dsimp only
          have HAg := Lib.hid (agrees_L hl (same_self _) rfl)
          clear hl HC2
          go_wp2_with fail
          refine HAg.out.mono ?_
          rintro e w12 ⟨rfl, hl⟩
          dsimp only
          have HL12 := Lib.hid hl
          clear hl HAg
          go_wp2_with fail
          go_roundw
          case rel => exact ⟨k + 1, _, by omega, by omega, by go_num, HL12.out⟩
          case measure => simp [intOf]; omega
        · have hcm := bCommit_full B1 hr
          have HC := Lib.hid (commit_L hl (by omega))
          rw [hcm] at HC
          dsimp only at HC
          have hgt : (B1.ring : Int) - (usedN B1.groups : Nat) < (secsN B1.pend : Int) := by omega
          clear hl
          go_wp2_with fail
          refine HC.out.mono ?_
          rintro e w10 ⟨rfl, hl⟩
          dsimp only
          have HC2 := Lib.hid (bcommit_L hl (by omega))
          rw [hcm] at HC2
          dsimp only at HC2
          clear hl HC hcm
          go_wp2_with fail
          refine HC2.out.mono ?_
          rintro e w11 ⟨rfl, hl⟩
          dsimp only
          have HAg := Lib.hid (agrees_L hl (same_self _) rfl)
          clear hl HC2
          go_wp2_with fail
          refine HAg.out.mono ?_
          rintro e w12 ⟨rfl, hl⟩
          dsimp only
          have HL12 := Lib.hid hl
          clear hl HAg
          go_wp2_with fail
          go_roundw
          case rel => exact ⟨k + 1, _, by omega, by omega, by go_num, HL12.out⟩
          case measure => simp [intOf]; omega
      · obtain rfl : k = 20 := by omega
        go_wp2_with fail
        go_ret
        exact ⟨rfl, HL.out.of0.below0⟩
    · obtain rfl : k = zs.length := by omega
      go_wp2_with fail
      go_ret
      exact ⟨rfl, HL.out.of0.below0⟩
/-! ### frame -/
open Go.ChangeShapes Go.WideShapes Go.ChangeAt
open Go.ChangeMaps (open_string shut_string)
theorem journalFills_walk (a0 : Int) (w0 : (Lit.int .u8 a0).wf = true) (v1 : Value) (w : World) (m1 : U16Arg w v1) :
    Calls Try.prog 4 #[.int .u8 a0, v1] w fun e w' => e = .returned (.bool true) ∧ Below w.heap.size w w' :=
  fills a0 (Go.bounds_u8 w0) v1 w m1
theorem journalFills_own : ownKnob Try.prog.godebug = none := by kernel_rfl
theorem journalFills_laidOut : laidOutB Try.prog = true := by kernel_rfl
set_option maxRecDepth 100000 in
theorem journalFills_lifted (os : Os) (started : os.Started) (H : Type) (enc : TypeId × Value → H) :
    ReturnsInHanded {} Try.checked os 4 .any (Rows.journalFillsSpec.pre6 enc Try.prog Try.f4 Rows.journalFillsRow.domain false) (Rows.journalFillsSpec.post enc Try.prog Try.f4 false true false false) := by
  refine returnsInHanded_of_change (C := Try.checked) journalFills_own started (by kernel_rfl) Try.func4
    (ChangeSpec.witness6 (enc := enc) (C := Try.checked) false ⟨#[], #[.int .u8 0, .slice none 0 0], []⟩ 8 (by kernel_rfl) (by kernel_rfl) (by kernel_rfl) (by kernel_rfl)) ?_
  intro W base args ds gs before hval0 hW hcnd _
  have hval : ∀ (j : Nat) t v, Try.f4.params[j]? = some t → args[j]? = some v → Value.okWide Try.prog W .any base t v := hval0
  have hW' := hW
  obtain ⟨p, q, hA0, hV, rfl, hfz, hnd⟩ := hW
  have hA : DataW.TrodAll enc Try.prog W 0 (fun _ => true) true Try.f4.params.toList args.toList ds p := hA0
  rw [Try.params4] at hA hval
  obtain ⟨v0, vs0, d0, ds0, p0, q0, hargs, rfl, rfl, h0, r0⟩ := trodAll_cons hA
  obtain ⟨v1, vs1, d1, ds1, p1, q1, rfl, rfl, rfl, h1, r1⟩ := trodAll_cons r0
  obtain ⟨rfl, rfl, rfl⟩ := trodAll_nil r1
  obtain rfl : args = #[v0, v1] := by cases args; simp_all
  obtain ⟨rfl, rfl⟩ := trodVars_none hV
  have k0 := h0
  have lt0 : ∀ x ∈ p0, x.block < W.heap.size := by obtain ⟨m, hm⟩ := k0; exact DataW.trod_lt m _ _ _ hm
  have k1 := h1
  have lt1 : ∀ x ∈ p1, x.block < W.heap.size := by obtain ⟨m, hm⟩ := k1; exact DataW.trod_lt m _ _ _ hm
  obtain ⟨a0, rfl, rfl, rfl, w0⟩ := open_int Try.underlying5 (hval 0 5 v0 rfl rfl) h0
  have m1 : U16Arg W v1 := U16Arg_open (hval 1 35 v1 rfl rfl) h1
  clear hA0 hval0
  refine (journalFills_walk a0 w0 v1 W m1).mono fun e W' ⟨he, bel⟩ => ?_
  subst he
  exact ⟨_, rfl, _, _, _, [], _, [], hW', trodAll_mk1 (shut_bool Try.underlying4 _), (trodAll_cons_mk (Below.trod journalFills_laidOut (by kernel_rfl) (of_decide_eq_true (by kernel_rfl)) k0 bel lt0) (trodAll_cons_mk (Below.trod journalFills_laidOut (by kernel_rfl) (of_decide_eq_true (by kernel_rfl)) k1 bel lt1) trodAll_mk0)), rfl, bel.frame _, fun h => by cases h⟩
theorem journalFills_over : Rows.journalFillsRow.holds Try.pinned (OpenSpec.ofChange Rows.journalFillsSpec) :=
  OpenClaim.holds_of_wide 4 Try.f4 rfl rfl rfl rfl rfl rfl rfl ⟨rfl, rfl, rfl, rfl, rfl⟩ rfl rfl rfl rfl rfl (by kernel_rfl) Try.func4 (by kernel_rfl)
    (of_decide_eq_true (by kernel_rfl)) (by unfold Func.isWrapper; first | (rw [if_pos (by decide +kernel)]; kernel_rfl) | (rw [if_neg (by decide +kernel)]; exact ⟨rfl, rfl⟩))
    (fun os started H enc _ => journalFills_lifted os started H enc)
/-- The statement. -/
theorem journalFills_proved : Rows.JournalFillsSaid := journalFills_over
#print axioms journalFills_proved
end Go.Proofs.Ytgmggmpkbfljfaa
