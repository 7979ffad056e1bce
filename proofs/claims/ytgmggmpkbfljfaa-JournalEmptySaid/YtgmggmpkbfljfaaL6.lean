/- For any number the statement JournalEmpty returns true. -/
import Derived.Test.YtgmggmpkbfljfaaLv
set_option linter.unusedVariables false
set_option linter.unusedSimpArgs false
set_option maxRecDepth 100000
namespace Go.Proofs.Ytgmggmpkbfljfaa
open Go.RowKit
def emB (i : Nat) : Bk := ⟨12, i + 1, 1, 0, List.replicate i [], []⟩
theorem secs_nil : secsN [] = 1 := by decide
theorem used_em (i : Nat) : usedN (List.replicate i ([] : List ByteArray)) = i := by
  induction i with
  | zero => rfl
  | succ i ih => rw [List.replicate_succ', usedN_snoc, ih, secs_nil]
theorem em_commit (m : Nat) (h1 : 1 ≤ m) (h2 : m ≤ 12) : bCommit (emB (m - 1)) = (((m : Int), 0), emB m) := by
  obtain ⟨k, rfl⟩ : ∃ k, m = k + 1 := ⟨m - 1, by omega⟩
  rw [Nat.add_sub_cancel]
  have hr : usedN (emB k).groups + secsN (emB k).pend ≤ (emB k).ring := by
    show usedN (List.replicate k []) + secsN [] ≤ 12
    rw [used_em, secs_nil]; omega
  rw [bCommit_ok _ hr]
  have e1 : (((emB k).first + (emB k).groups.length : Nat) : Int) = ((k + 1 : Nat) : Int) := by
    show ((1 + (List.replicate k ([] : List ByteArray)).length : Nat) : Int) = _
    rw [List.length_replicate]; omega
  have e2 : bNext (emB k) = emB (k + 1) := by
    unfold bNext emB
    dsimp only
    rw [List.replicate_succ']
  rw [e1, e2]
theorem em_full : bCommit (emB 12) = ((0, 19), emB 12) := by
  have hr : ¬ usedN (emB 12).groups + secsN (emB 12).pend ≤ (emB 12).ring := by
    show ¬ usedN (List.replicate 12 []) + secsN [] ≤ 12
    rw [used_em, secs_nil]; omega
  exact bCommit_full _ hr
theorem em_drop (q n : Nat) (h : n ≤ q) : (bDrop (emB q) n).1 = 0 ∧ (bDrop (emB q) n).2.first = n + 1 := by
  have hl : (emB q).groups.length = q := List.length_replicate ..
  have hf : (emB q).first = 1 := rfl
  unfold bDrop
  rw [hl, hf, if_neg (by omega)]
  by_cases h1 : (n : Int) < ((1 : Nat) : Int)
  · rw [if_pos h1]
    exact ⟨rfl, by show 1 = n + 1; omega⟩
  · rw [if_neg h1]
    refine ⟨rfl, ?_⟩
    show 1 + ((n : Int) - ((1 : Nat) : Int) + 1).toNat = n + 1
    omega
set_option maxHeartbeats 8000000 in
theorem empties (c : Int) (hc : 0 ≤ c ∧ c ≤ 255) (w : World) :
    Calls Try.prog 6 #[.int .u8 c] w fun e w' => e = .returned (.bool true) ∧ Below w.heap.size w w' := by
  have HM := Lib.hid (made_c w 14 (by omega) (by omega))
  obtain ⟨n, hn⟩ : ∃ n : Nat, c % 13 = n := ⟨(c % 13).toNat, by omega⟩
  have hn12 : n ≤ 12 := by omega
  go_enter Try.func6, Try.ntmps6
  go_wp2_with fail
  refine HM.out.mono ?_
  rintro e w1 ⟨vb, mb, jb, bk, rfl, hmade⟩
  dsimp only
  have HL1 := Lib.hid (live_made hmade (by omega) (by omega))
  clear hmade
  go_wp2_with fail
  refine (known_c w1).mono ?_
  rintro e w2 ⟨rfl, hk2⟩
  dsimp only
  have HL2 := Lib.hid (HL1.out.keep hk2)
  clear hk2
  go_wp2_with fail
  go_loopw [7] (fun i wr => ∃ m : Nat, 1 ≤ m ∧ m ≤ n + 1 ∧ i = .int .i64 m ∧ Live (m - 1) w wr vb mb jb bk (emB (m - 1)) (bEmpty 12 1)) (fun i _ => 14 - (intOf i).toNat)
  case atStart => exact ⟨1, by omega, by omega, rfl, HL2.out⟩
  case round =>
    obtain ⟨m, hm1, hm2, rfl, hl⟩ := hrel
    have HL := Lib.hid hl
    clear hl
    by_cases hlt : m ≤ n
    · have hcm := em_commit m hm1 (by omega)
      have HC := Lib.hid (commit_L HL.out (by omega))
      rw [hcm] at HC
      dsimp only at HC
      rw [show m - 1 + 1 = m by omega] at HC
      clear hcm
      go_wp2_with fail
      refine HC.out.mono ?_
      rintro e w3 ⟨rfl, hl⟩
      dsimp only
      have HL3 := Lib.hid hl
      have hg := group_L hl (m - 1) (by show m - 1 < (List.replicate m ([] : List ByteArray)).length; rw [List.length_replicate]; omega)
      have hg0 : (emB m).groups[m - 1]'(by show m - 1 < (List.replicate m ([] : List ByteArray)).length; rw [List.length_replicate]; omega) = [] := List.getElem_replicate ..
      rw [hg0] at hg
      rw [show ((emB m).first : Int) + ((m - 1 : Nat) : Int) = (m : Int) by show ((1 : Nat) : Int) + _ = _; omega] at hg
      have HG := Lib.hid hg
      clear hg hg0 hl HC
      go_wp2_with fail
      refine HG.out.mono ?_
      rintro e w4 ⟨vo, vc, rfl, _, hl⟩
      dsimp only [List.length_nil]
      have HF := free_L hl
      rw [show (((emB m).ring : Int) - (usedN (emB m).groups : Nat)) = 12 - (m : Int) by show (12 : Int) - ((usedN (List.replicate m []) : Nat) : Int) = _; rw [used_em]] at HF
      have HF := Lib.hid HF
      clear hl HG HL3
      go_wp2_with fail
      refine HF.out.mono ?_
      rintro e w5 ⟨rfl, hl⟩
      dsimp only
      have HL5 := Lib.hid hl
      clear hl HF
      go_wp2_with fail
      go_roundw
      case rel => exact ⟨m + 1, by omega, by omega, by go_num, by rw [Nat.add_sub_cancel]; exact HL5.out⟩
      case measure => simp [intOf]; omega
    · obtain rfl : m = n + 1 := by omega
      rw [Nat.add_sub_cancel] at HL
      have HC := Lib.hid (commit_L HL.out (by omega))
      clear hlt hm1 hm2
      by_cases hn2 : n = 12
      · subst hn2
        rw [em_full] at HC
        go_wp2_with fail
        refine HC.out.mono ?_
        rintro e w3 ⟨rfl, hl⟩
        dsimp only at hl ⊢
        have hd := drop_L hl 12 (by omega)
        obtain ⟨e1, e2⟩ := em_drop 12 12 (by omega)
        rw [show ((12 : Nat) : Int) = 12 from rfl] at e1 e2
        rw [e1] at hd
        have Hd := Lib.hid hd
        have E2 := Lib.hid e2
        clear hd e1 e2 hl
        go_wp2_with fail
        refine Hd.out.mono ?_
        rintro e w4 ⟨rfl, hl⟩
        dsimp only
        have hfi := first_L hl
        rw [E2.out] at hfi
        have HFi := Lib.hid hfi
        have HK := Lib.hid hl.of0.below0
        clear hl hfi
        go_wp2_with fail
        refine HFi.out.mono ?_
        rintro e w5 ⟨rfl, rfl⟩
        dsimp only
        go_wp2_with fail
        go_ret
        exact ⟨rfl, HK.out⟩
      · have hcm := em_commit (n + 1) (by omega) (by omega)
        rw [Nat.add_sub_cancel] at hcm
        rw [hcm] at HC
        clear hcm
        go_wp2_with fail
        refine HC.out.mono ?_
        rintro e w3 ⟨rfl, hl⟩
        dsimp only at hl ⊢
        have hd := drop_L hl n (by omega)
        obtain ⟨e1, e2⟩ := em_drop (n + 1) n (by omega)
        rw [e1] at hd
        have Hd := Lib.hid hd
        have E2 := Lib.hid e2
        clear hd e1 e2 hl
        have hn13 : ((n : Int) == 12) = false := by rw [beq_eq_false_iff_ne]; omega
        go_wp2_with fail
        refine Hd.out.mono ?_
        rintro e w4 ⟨rfl, hl⟩
        dsimp only
        have hfi := first_L hl
        rw [E2.out] at hfi
        have HFi := Lib.hid hfi
        have HK := Lib.hid hl.of0.below0
        clear hl hfi
        go_wp2_with fail
        refine HFi.out.mono ?_
        rintro e w5 ⟨rfl, rfl⟩
        dsimp only
        go_wp2_with fail
        go_ret
        exact ⟨rfl, HK.out⟩
/-! ### frame -/
open Go.ChangeShapes Go.WideShapes Go.ChangeAt
open Go.ChangeMaps (open_string shut_string)
theorem journalEmpty_walk (a0 : Int) (w0 : (Lit.int .u8 a0).wf = true) (w : World) :
    Calls Try.prog 6 #[.int .u8 a0] w fun e w' => e = .returned (.bool true) ∧ Below w.heap.size w w' :=
  empties a0 (Go.bounds_u8 w0) w
theorem journalEmpty_own : ownKnob Try.prog.godebug = none := by kernel_rfl
theorem journalEmpty_laidOut : laidOutB Try.prog = true := by kernel_rfl
set_option maxRecDepth 100000 in
theorem journalEmpty_lifted (os : Os) (started : os.Started) (H : Type) (enc : TypeId × Value → H) :
    ReturnsInHanded {} Try.checked os 6 .any (Rows.journalEmptySpec.pre6 enc Try.prog Try.f6 Rows.journalEmptyRow.domain false) (Rows.journalEmptySpec.post enc Try.prog Try.f6 false true false false) := by
  refine returnsInHanded_of_change (C := Try.checked) journalEmpty_own started (by kernel_rfl) Try.func6
    (ChangeSpec.witness6 (enc := enc) (C := Try.checked) false ⟨#[], #[.int .u8 0], []⟩ 8 (by kernel_rfl) (by kernel_rfl) (by kernel_rfl) (by kernel_rfl)) ?_
  intro W base args ds gs before hval0 hW hcnd _
  have hval : ∀ (j : Nat) t v, Try.f6.params[j]? = some t → args[j]? = some v → Value.okWide Try.prog W .any base t v := hval0
  have hW' := hW
  obtain ⟨p, q, hA0, hV, rfl, hfz, hnd⟩ := hW
  have hA : DataW.TrodAll enc Try.prog W 0 (fun _ => true) true Try.f6.params.toList args.toList ds p := hA0
  rw [Try.params6] at hA hval
  obtain ⟨v0, vs0, d0, ds0, p0, q0, hargs, rfl, rfl, h0, r0⟩ := trodAll_cons hA
  obtain ⟨rfl, rfl, rfl⟩ := trodAll_nil r0
  obtain rfl : args = #[v0] := by cases args; simp_all
  obtain ⟨rfl, rfl⟩ := trodVars_none hV
  have k0 := h0
  have lt0 : ∀ x ∈ p0, x.block < W.heap.size := by obtain ⟨m, hm⟩ := k0; exact DataW.trod_lt m _ _ _ hm
  obtain ⟨a0, rfl, rfl, rfl, w0⟩ := open_int Try.underlying5 (hval 0 5 v0 rfl rfl) h0
  clear hA0 hval0
  refine (journalEmpty_walk a0 w0 W).mono fun e W' ⟨he, bel⟩ => ?_
  subst he
  exact ⟨_, rfl, _, _, _, [], _, [], hW', trodAll_mk1 (shut_bool Try.underlying4 _), (trodAll_cons_mk (Below.trod journalEmpty_laidOut (by kernel_rfl) (of_decide_eq_true (by kernel_rfl)) k0 bel lt0) trodAll_mk0), rfl, bel.frame _, fun h => by cases h⟩
theorem journalEmpty_over : Rows.journalEmptyRow.holds Try.pinned (OpenSpec.ofChange Rows.journalEmptySpec) :=
  OpenClaim.holds_of_wide 6 Try.f6 rfl rfl rfl rfl rfl rfl rfl ⟨rfl, rfl, rfl, rfl, rfl⟩ rfl rfl rfl rfl rfl (by kernel_rfl) Try.func6 (by kernel_rfl)
    (of_decide_eq_true (by kernel_rfl)) (by unfold Func.isWrapper; first | (rw [if_pos (by decide +kernel)]; kernel_rfl) | (rw [if_neg (by decide +kernel)]; exact ⟨rfl, rfl⟩))
    (fun os started H enc _ => journalEmpty_lifted os started H enc)
/-- The statement. -/
theorem journalEmpty_proved : Rows.JournalEmptySaid := journalEmpty_over
#print axioms journalEmpty_proved
end Go.Proofs.Ytgmggmpkbfljfaa
