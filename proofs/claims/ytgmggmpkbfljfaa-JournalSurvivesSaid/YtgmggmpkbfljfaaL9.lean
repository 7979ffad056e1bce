/- For any operations and any failures the statement JournalSurvives returns true. -/
import Derived.Test.YtgmggmpkbfljfaaCpa
import Derived.Deep.DeepCutAuto
import Derived.Deep.Cut
import Derived.Deep.CutRange
set_option linter.unusedVariables false
set_option linter.unusedSimpArgs false
set_option maxRecDepth 100000
namespace Go.Proofs.Ytgmggmpkbfljfaa
open Go.RowKit
theorem To.of0 {A : HP} {w wk : World} (h : To A [] w wk) : Keep [] w wk := by obtain ⟨F, _, hk, _⟩ := h; exact hk
theorem To.parts {A B : HP} {F : List Nat} {w wk : World} (h : To (Sep A B) F w wk) : ∃ F1 F2, A wk F1 ∧ B wk F2 := by
  obtain ⟨F', ⟨F1, F2, h1, h2, d, rfl⟩, h3, h4⟩ := h
  exact ⟨F1, F2, h1, h2⟩
theorem To.callS {ι : Type} {P : Program} {f : Nat} {args : Array Value} {S T : HP} {S' : ι → HP} {r : ι → Value} {F : List Nat} {w wk : World} (hT : Stab T) (h : To (Sep S T) F w wk)
    (hc : ∀ F1, S wk F1 → Calls P f args wk fun e w' => ∃ i, e = .returned (r i) ∧ To (S' i) F1 wk w') : Calls P f args wk fun e w' => ∃ i, e = .returned (r i) ∧ To (Sep (S' i) T) F w w' := by
  obtain ⟨F', ⟨F1, F2, h1, h2, d, rfl⟩, hk, hs⟩ := h
  refine (hc F1 h1).mono ?_
  rintro e w' ⟨i, rfl, ht⟩
  exact ⟨i, rfl, (To.sepL hT h2 d ht).before hk hs⟩
section
variable {t tb vb mb jb bk ck : Nat} {B B1 Bb : Bk} {A : Nat → Bk → HP} {F : List Nat} {w wk : World} {S : HP}
theorem live_pl (h : Live t w wk vb mb jb bk B B1) (h2 : ∀ v C, Good v (B.ring + 2) C 0 → DJ C B → To (ST vb mb v jb (jOf B) bk B1) [] w wk → Tl (C (((B.gen : Int) + 1) % 2))) : To (Sep (DvL t vb mb jb B) (BkO bk t B1)) [] w wk := by
  obtain ⟨v, C, g1, g2, g3, g4, g5⟩ := h
  have htl := h2 v C g1 g2 g5
  refine g5.imp fun w F hF => ?_
  obtain ⟨F1, F2, k1, k2, d, rfl⟩ := sep_assoc' w F hF
  exact ⟨F1, F2, ⟨v, C, g1.toUp, ⟨g2, htl⟩, g3, k1⟩, ⟨g4, k2⟩, d, rfl⟩
theorem perform_lf (I : BookI bk A) (ht : t + 1 ≤ 900) (x : OpJ) (hx : x.ok) (h : To (PL A vb mb t jb B) F w wk) :
    Calls Try.prog 33 #[.pointer (some ⟨vb, 0, none⟩), .pointer (some ⟨jb, 0, none⟩), .pointer (some ⟨bk, 0, none⟩), .agg #[.int .u8 x.kind, .int .i8 x.num, .int .u16 x.rcd]] wk fun e w' => ∃ jb' ok, e = .returned (.tuple #[.pointer (some ⟨jb', 0, none⟩), .bool ok]) ∧ ((ok = true ∧ To (PL A vb mb (t + 1) jb' (bOp x B)) F w w') ∨ To (Sep (DvX (t + 1) vb mb jb' B (bOp x B)) (A (t + 1) (bOp x B))) F w w') := by
  obtain ⟨F', h1, hk, hs⟩ := h
  refine (perform_l I ht x hx wk F' h1).mono ?_
  rintro e w' ⟨jb', ok, rfl, h⟩
  refine ⟨jb', ok, rfl, ?_⟩
  rcases h with ⟨h2, h3⟩ | h3
  · exact .inl ⟨h2, h3.before hk hs⟩
  · exact .inr (h3.before hk hs)
theorem copy_1 (hS : Stab S) (h : To (Sep S (BkO bk t B)) F w wk) :
    Calls Try.prog 36 #[.pointer (some ⟨bk, 0, none⟩)] wk fun e w' => ∃ ck, e = .returned (.pointer (some ⟨ck, 0, none⟩)) ∧ To (Sep S (B2 bk ck t { B with pend := [] } t B)) F w w' := by
  obtain ⟨F', ⟨F1, F2, h1, ⟨hok, h2⟩, d, rfl⟩, hk, hs⟩ := h
  have hlen : B.groups.length ≤ 1000000 := by have := hok.f; have := hok.t9; omega
  refine (copied_c wk F2 bk B h2 hlen).mono ?_
  rintro e w' ⟨ck, P, rfl, k1, k2, k3, k4, k5⟩
  have l1 := hS.lt h1
  have l2 := (bh_stab _ _).lt h2
  have lb := l2 bk (bh_mem _ _ h2)
  refine ⟨ck, rfl, F1 ++ (F2 ++ P), ⟨F1, F2 ++ P, hS.keep h1 k1 (by simp), ⟨hok, hok.noPend, by omega, F2, P, (bh_stab _ _).keep h2 k1 (by simp), k2, k4, fun hm => by have := l2 ck hm; omega, rfl⟩, fun x hx hm => ?_, rfl⟩, hk.trans (k1.mono (G := F) (by simp)) (fun x hx => .inl hx), fun x hx => ?_⟩
  · rcases List.mem_append.1 hm with h | h
    · exact d x hx h
    · rcases k5 x h with h | h
      · exact d x hx h
      · have := l1 x hx; omega
  · have hsz := hk.size
    rcases List.mem_append.1 hx with h | h
    · exact hs x (List.mem_append_left _ h)
    · rcases List.mem_append.1 h with h | h
      · exact hs x (List.mem_append_right _ h)
      · rcases k5 x h with h | h
        · exact hs x (List.mem_append_right _ h)
        · exact .inr (by omega)
theorem copy_2 (hS : Stab S) (h : To (Sep S (B2 bk ck tb Bb t B)) F w wk) :
    Calls Try.prog 36 #[.pointer (some ⟨bk, 0, none⟩)] wk fun e w' => ∃ ak, e = .returned (.pointer (some ⟨ak, 0, none⟩)) ∧ To (Sep S (B2 ak ck tb Bb t { B with pend := [] })) F w w' := by
  obtain ⟨F', ⟨F1, F2, h1, ⟨hok, hokb, hne, Fc, Fb, h2, h3, h4, h5, rfl⟩, d, rfl⟩, hk, hs⟩ := h
  have hlen : B.groups.length ≤ 1000000 := by have := hok.f; have := hok.t9; omega
  refine (copied_c wk Fc bk B h2 hlen).mono ?_
  rintro e w' ⟨ak, P, rfl, k1, k2, k3, k4, k5⟩
  have l1 := hS.lt h1
  have l2 := (bh_stab _ _).lt h2
  have l3 := (bh_stab _ _).lt h3
  have lc := l3 ck (bh_mem _ _ h3)
  refine ⟨ak, rfl, F1 ++ (P ++ Fb), ⟨F1, P ++ Fb, hS.keep h1 k1 (by simp), ⟨hok.noPend, hokb, by omega, P, Fb, k2, (bh_stab _ _).keep h3 k1 (by simp), fun hm => by have := l3 ak hm; omega, fun hm => ?_, rfl⟩, fun x hx hm => ?_, rfl⟩, hk.trans (k1.mono (G := F) (by simp)) (fun x hx => .inl hx), fun x hx => ?_⟩
  · rcases k5 ck hm with h | h
    · exact h5 h
    · omega
  · rcases List.mem_append.1 hm with h | h
    · rcases k5 x h with h | h
      · exact d x hx (List.mem_append_left _ h)
      · have := l1 x hx; omega
    · exact d x hx (List.mem_append_right _ h)
  · have hsz := hk.size
    rcases List.mem_append.1 hx with h | h
    · exact hs x (List.mem_append_left _ h)
    · rcases List.mem_append.1 h with h | h
      · rcases k5 x h with h | h
        · exact hs x (List.mem_append_right _ (List.mem_append_left _ h))
        · exact .inr (by omega)
      · exact hs x (List.mem_append_right _ (List.mem_append_right _ h))
theorem B2.one (h : To (Sep S (B2 bk ck tb Bb t B)) F w wk) : To (Sep S (BkO bk t B)) F w wk := by
  refine h.weak fun F' hF => ?_
  obtain ⟨F1, F2, h1, ⟨hok, hokb, hne, Fc, Fb, h2, h3, h4, h5, rfl⟩, d, rfl⟩ := hF
  exact ⟨F1 ++ Fc, ⟨F1, Fc, h1, ⟨hok, h2⟩, fun x hx hm => d x hx (List.mem_append_left _ hm), rfl⟩, fun x hx => by
    rcases List.mem_append.1 hx with h | h
    · exact List.mem_append_left _ h
    · exact List.mem_append_right _ (List.mem_append_left _ h)⟩
theorem B2.other (h : To (Sep S (B2 bk ck tb Bb t B)) F w wk) (ht : tb ≤ t) (h9 : t ≤ 900) : To (Sep S (BkO ck t Bb)) F w wk := by
  refine h.weak fun F' hF => ?_
  obtain ⟨F1, F2, h1, ⟨hok, hokb, hne, Fc, Fb, h2, h3, h4, h5, rfl⟩, d, rfl⟩ := hF
  exact ⟨F1 ++ Fb, ⟨F1, Fb, h1, ⟨hokb.up ht h9, h3⟩, fun x hx hm => d x hx (List.mem_append_right _ hm), rfl⟩, fun x hx => by
    rcases List.mem_append.1 hx with h | h
    · exact List.mem_append_left _ h
    · exact List.mem_append_right _ (List.mem_append_right _ h)⟩
theorem B2.parts (h : To (Sep S (B2 bk ck tb Bb t B)) F w wk) : ∃ F1 Fc Fb, S wk F1 ∧ BH bk B wk Fc ∧ BH ck Bb wk Fb ∧ BOk B t ∧ BOk Bb tb := by
  obtain ⟨F', ⟨F1, F2, h1, ⟨hok, hokb, hne, Fc, Fb, h2, h3, h4, h5, rfl⟩, d, rfl⟩, _⟩ := h
  exact ⟨F1, Fc, Fb, h1, h2, h3, hok, hokb⟩
end
theorem made_l (w : World) (n : Nat) (h3 : 3 ≤ n) (h9 : n ≤ 902) :
    Calls Try.prog 11 #[.int .i64 n] w fun e w' => ∃ vb mb jb bk, e = .returned (.tuple #[.pointer (some ⟨vb, 0, none⟩), .pointer (some ⟨jb, 0, none⟩), .pointer (some ⟨bk, 0, none⟩)]) ∧ To (Sep (DvL 0 vb mb jb (bEmpty (n - 2) 1)) (BkO bk 0 (bEmpty (n - 2) 1))) [] w w' := by
  obtain ⟨R, rfl⟩ : ∃ R, n = R + 2 := ⟨n - 2, by omega⟩
  rw [show R + 2 - 2 = R by omega]
  have HRb : Hid (0 < R ∧ R ≤ 900) := ⟨by omega, by omega⟩
  obtain ⟨hf1, hf2⟩ := format_new R (by omega)
  have hdj := dj_first R
  have htl : Tl (upd (fun _ => fillS 0) 1 (pageS 1 1 0 0) ((((bEmpty R 1).gen : Int) + 1) % 2)) := by
    unfold upd
    rw [if_neg (by show ¬ (((1 : Nat) : Int) + 1) % 2 = 1; decide)]
    exact fill_tl
  have hroom := bEmpty_room R 1 (by omega) (by omega) (by omega)
  have hfit := (newest_zero (R + 2) (by omega)).2
  have hno := (newest_zero (R + 2) (by omega)).1
  have HO : Hid (∀ w' F vb mb, VolH vb mb (jFormat (vNew ((R + 2 : Nat) : Int))).2 w' F → Calls Try.prog 26 #[.pointer (some ⟨vb, 0, none⟩)] w' fun e w'' => ∃ jb, e = .returned (.tuple #[.pointer (some ⟨jb, 0, none⟩), .int .i64 0]) ∧ To (JH jb vb (jOf (bEmpty R 1))) [] w' w'') := fun w' F vb mb h =>
    open_c w' F vb mb _ R _ _ h (rel_open (B := bEmpty R 1) hf2 hdj hroom (by omega))
  have HF : Hid (∀ vb mb, Met Try.prog 27 #[.pointer (some ⟨vb, 0, none⟩)] (.int .i64 0) (VolH vb mb (vNew ((R + 2 : Nat) : Int))) (VolH vb mb (jFormat (vNew ((R + 2 : Nat) : Int))).2)) := fun vb mb => by
    have := format_m vb mb (vNew ((R + 2 : Nat) : Int)) hfit (by show (0 : Nat) ≤ 2000; omega) (by rw [hno]; show (0 : Nat) ≤ _; omega)
    rwa [hf1] at this
  have HN := Lib.hid (new_o ((R + 2 : Nat) : Int) w (by omega) (by omega))
  have hn2 : ((R + 2 : Nat) : Int) - 2 = (R : Int) := by omega
  have Hend : Hid (∀ v, v = (jFormat (vNew ((R + 2 : Nat) : Int))).2 → ∃ C, Good v (R + 2) C 0 ∧ DJ2 C (bEmpty R 1)) := fun v hv => ⟨_, hv ▸ hf2, hdj, htl⟩
  generalize hv1 : (jFormat (vNew ((R + 2 : Nat) : Int))).2 = v1 at *
  generalize vNew ((R + 2 : Nat) : Int) = v0 at *
  clear hf1 hf2 hdj htl hroom hfit hno hv1
  generalize hni : ((R + 2 : Nat) : Int) = ni at *
  have hnib : ni ≤ 902 ∧ 3 ≤ ni := by omega
  clear hni
  go_enter Try.func11, Try.ntmps11
  go_wp2_with fail
  refine HN.out.mono ?_
  rintro e w1 ⟨rfl, hV1, hk1⟩
  dsimp only
  have HV1 := Lib.hid hV1
  have Hk1 := Lib.hid hk1
  clear hV1 hk1
  go_wp2_with fail
  refine (HF.out _ _ _ _ HV1.out).mono ?_
  rintro e w2 ⟨rfl, ht2⟩
  dsimp only
  have ht2' : To (VolH (w.heap.size + 1) w.heap.size v1) [] w w2 := ht2.before Hk1.out (fun x hx => .inr (by simp at hx; omega))
  obtain ⟨F2, hV2, hk2, hs2⟩ := ht2'.zero_low
  have HV2 := Lib.hid hV2
  have Ht2 := Lib.hid ht2'
  clear ht2 ht2' hV2 hk2 hs2
  go_wp2_with fail
  refine (HO.out w2 F2 _ _ HV2.out).mono ?_
  rintro e w3 ⟨jb, rfl, ht3⟩
  dsimp only
  have Ht3 := Lib.hid (sep_new (volH_stab _ _ _) Ht2.out ht3)
  clear ht3
  go_wp2_with fail
  (try simp only [Exit.inBlock, Exit.then])
  refine bodyPost_ret (results_tmp3 rfl _ _ _) rfl ⟨w.heap.size + 1, w.heap.size, jb, w3.heap.size, rfl, ?_⟩
  obtain ⟨C, hg, hd⟩ := Hend.out v1 rfl
  have hok : BOk (bEmpty R 1) 0 := bEmpty_ok _ _ _ HRb.out.1 HRb.out.2 (by omega) (by omega)
  refine (sep_new ((volH_stab _ _ _).sep (jh_stab _ _ _)) Ht3.out (book_new w3 R 1 1 0)).imp fun w F hF => ?_
  obtain ⟨F1, F2, k1, k2, d, rfl⟩ := hF
  exact ⟨F1, F2, ⟨v1, C, hg.toUp, hd, hok, k1⟩, ⟨hok, k2⟩, d, rfl⟩
theorem ByteRow.first {w : World} {a : Option Addr} {n c : Nat} {zs : List Nat} (h : ByteRow w (.slice a n c) zs) (hn : 0 < zs.length) : ∃ sb so, a = some ⟨sb, so, none⟩ ∧ ∃ z : Nat, z ≤ 255 ∧ w.cell? ⟨sb, so, none⟩ = some (.int .u8 (z : Nat)) := by
  rcases h with ⟨a', cap, e, rfl⟩ | ⟨b, o, cap, e, hz⟩
  · simp at hn
  · injection e with e1 e2 e3
    obtain ⟨z1, z2⟩ := hz 0 hn
    exact ⟨b, o, e1, _, z2, z1⟩
set_option maxHeartbeats 16000000 in
theorem survives (a : Int) (ha : 0 ≤ a ∧ a ≤ 255) (lv fv : Value) (w : World) (hl : JOpsArg w lv) (hf : FailsArg w fv) :
    Calls Try.prog 10 #[.int .u8 a, lv, fv] w fun e w' => e = .returned (.bool true) ∧ Below w.heap.size w w' := by
  obtain ⟨os, hz⟩ := hl
  obtain ⟨zss, hfz⟩ := hf
  obtain ⟨la, lc, rfl, hlm⟩ := hz.form
  obtain ⟨fa, fc, rfl, hfm⟩ := hfz.form
  obtain ⟨n0, rfl⟩ : ∃ n0 : Nat, a = n0 := ⟨a.toNat, by omega⟩
  have HSz := Lib.hid (fun w => sizeOf_c n0 w)
  obtain ⟨n, hn⟩ : ∃ n, 3 + n0 % 12 = n := ⟨_, rfl⟩
  rw [hn] at HSz
  have hn3 : 3 ≤ n ∧ n ≤ 14 := by omega
  have HM := Lib.hid (fun w => made_l w n (by omega) (by omega))
  have HZ := Lib.hid hz
  have HFz := Lib.hid hfz
  clear hz hfz
  obtain ⟨ln, hln⟩ : ∃ ln, os.length = ln := ⟨_, rfl⟩
  obtain ⟨nf, hnf⟩ : ∃ nf, zss.length = nf := ⟨_, rfl⟩
  have Hln := Lib.hid hln
  have Hnf := Lib.hid hnf
  rw [hln] at hlm ⊢
  rw [hnf] at hfm ⊢
  clear hln hnf
  go_enter Try.func10, Try.ntmps10
  go_wp2_with fail
  refine (HSz.out w).mono ?_
  rintro e w0 ⟨rfl, rfl⟩
  dsimp only
  go_wp2_with fail
  refine (HM.out _).mono ?_
  rintro e w1 ⟨vb, mb, jb, bk, rfl, ht1⟩
  dsimp only
  have HL1 := Lib.hid ht1
  clear ht1
  go_wp2_with fail
  refine (known_c w1).mono ?_
  rintro e w2 ⟨rfl, hk2⟩
  dsimp only
  have HL2 := Lib.hid (HL1.out.kept (pl_stab (bkO_book bk)) hk2)
  clear hk2 HL1
  go_wp2_with fail
  go_loopg [8, 9, 10, 11] 31 (fun g jv bv rv i wr => ∃ (k r jb bk : Nat) (B : Bk), k ≤ 30 ∧ k ≤ ln ∧ r ≤ k ∧ g = 31 - k ∧ i = .int .i64 k ∧ rv = .int .i64 r ∧ jv = .pointer (some ⟨jb, 0, none⟩) ∧ bv = .pointer (some ⟨bk, 0, none⟩) ∧ To (PL (BkO bk) vb mb k jb B) [] w0 wr)
  case atStart => exact ⟨0, 0, jb, bk, _, by omega, by omega, by omega, rfl, rfl, rfl, rfl, rfl, HL2.out⟩
  case round =>
    obtain ⟨k, r, jb1, bk1, B, hk30, hkl, hrk, hg, rfl, rfl, rfl, rfl, ht⟩ := hrel
    have Hg := Lib.hid hg
    clear hg
    have HT := Lib.hid ht
    clear ht HL2 HM
    by_cases hlt : k < ln
    · by_cases hlt2 : k < 30
      · go_upto_region 8 with (fail)
        go_cut [64] (fun cv wx => wx = wr ∧ ∃ c : Bool, cv = .bool c ∧ (c = true → ∃ h : r < nf, 0 < (zss[r]'(by rw [Hnf.out]; exact h)).length))
        case first =>
          by_cases h1 : r < nf
          · obtain ⟨fb, fo, ea, ec, hfe, hzl, hfe2⟩ := HFz.out.elem r (by rw [Hnf.out]; exact h1)
            have hc0 := (hfe2 wr HT.out.of0).1
            have hflt := World.block_lt_of_cell? wr _ hc0
            have Hlen : Hid (∀ p : 0 < (zss[r]'(by rw [Hnf.out]; exact h1)).length, ∃ h : r < nf, 0 < (zss[r]'(by rw [Hnf.out]; exact h)).length) := fun p => ⟨h1, p⟩
            clear hfe2
            subst hfe
            generalize (zss[r]'(by rw [Hnf.out]; exact h1)).length = zl at *
            by_cases h2 : r < 8
            · by_cases h3 : 0 < zl
              · by_cases h4 : k % 4 = 0
                · have t4 : ((k : Int) % 4 == 0) = true := by rw [beq_iff_eq]; omega
                  clear h4
                  go_wp2_with fail
                  go_meet
                  exact ⟨rfl, true, rfl, fun _ => Hlen.out h3⟩
                · have t4 : ((k : Int) % 4 == 0) = false := by rw [beq_eq_false_iff_ne]; omega
                  clear h4
                  go_wp2_with fail
                  go_meet
                  exact ⟨rfl, false, rfl, fun h => by cases h⟩
              · go_wp2_with fail
                go_meet
                exact ⟨rfl, false, rfl, fun h => by cases h⟩
            · go_wp2_with fail
              go_meet
              exact ⟨rfl, false, rfl, fun h => by cases h⟩
          · go_wp2_with fail
            go_meet
            exact ⟨rfl, false, rfl, fun h => by cases h⟩
        case rest =>
          obtain ⟨rfl, c, rfl, hc⟩ := hcut
          have HCc := Lib.hid hc
          clear hc
          go_upto_if 64 with (fail)
          go_cut [] (fun wx => To (PL (BkO bk1) vb mb k jb1 B) [] w0 wx)
          case first =>
            cases c with
            | true =>
              obtain ⟨h1, hpos⟩ := HCc.out rfl
              obtain ⟨fb, fo, ea, ec, hfe, hzl, hfe2⟩ := HFz.out.elem r (by rw [Hnf.out]; exact h1)
              obtain ⟨c0, hbr⟩ := hfe2 wc HT.out.of0
              have hflt := World.block_lt_of_cell? wc _ c0
              subst hfe
              obtain ⟨sb, so, hsb, z, hz9, c1⟩ := hbr.first hpos
              have hslt := World.block_lt_of_cell? wc _ c1
              subst hsb
              have HLi := Lib.hid (HT.out.callF ((limit_l (t := k) (vb := vb) (mb := mb) (jb := jb1) (B := B) ((z : Int) % 12) (by omega)).L (bkO_stab bk1 k B)))
              generalize (zss[r]'(by rw [Hnf.out]; exact h1)).length = zl at *
              clear hfe2 hbr
              go_wp2_with fail
              refine HLi.out.mono ?_
              rintro e w9 ⟨rfl, ht9⟩
              dsimp only
              have HT9 := Lib.hid ht9
              clear ht9
              go_wp2_with fail
              go_meet
              exact HT9.out
            | false =>
              go_wp2_with fail
              go_meet
              exact HT.out
          case rest =>
            have HCp := Lib.hid (copy_1 (dvl_stab _ _ _ _ _) hcut)
            clear hcut HT HCc
            go_wp2_with fail
            refine HCp.out.mono ?_
            rintro e w3 ⟨ck, rfl, ht3⟩
            dsimp only
            have hz := HZ.out
            obtain ⟨lb, lo, rfl, hok, hel⟩ := hz.elem k (by rw [Hln.out]; exact hlt)
            obtain ⟨e0, e1, e2⟩ := hel w3 ht3.of0
            have hlbr : lb < w3.heap.size := World.block_lt_of_cell? w3 _ e0
            generalize os[k]'(by rw [Hln.out]; exact hlt) = x at *
            have HP := Lib.hid (perform_lf (b2_book bk1 ck k { B with pend := [] }) (by omega) x hok ht3)
            clear hel hz hok ht3 HCp
            generalize bOp x B = B1 at *
            go_wp2_with fail
            refine HP.out.mono ?_
            rintro e w4 ⟨jb2, ok, rfl, h⟩
            dsimp only
            clear HP e0 e1 e2
            rcases h with ⟨hok, ht4⟩ | ht4
            · subst hok
              have HD := Lib.hid (ht4.callF ((down_l (t := k + 1) (vb := vb) (mb := mb) (jb := jb2) (B := B1)).L (b2_stab bk1 ck k { B with pend := [] } (k + 1) B1)))
              clear ht4
              go_wp2_with fail
              refine HD.out.mono ?_
              rintro e w5 ⟨rfl, ht5⟩
              dsimp only
              obtain ⟨F1, Fc, Fb, p1, p2, p3, p4, p5⟩ := B2.parts ht5
              have HA := Lib.hid (agrees_l w5 F1 Fc p1 p2)
              have HT5 := Lib.hid (B2.one ht5)
              clear ht5 p1 p2 p3 p4 p5 HD
              go_wp2_with fail
              refine HA.out.mono ?_
              rintro e w6 ⟨rfl, hk6⟩
              dsimp only
              have HT6 := Lib.hid (HT5.out.kept (pl_stab (bkO_book bk1)) hk6)
              clear hk6 HT5 HA
              go_wp2_with fail
              go_roundg (31 - (k + 1))
              case measure => have := Hg.out; omega
              case rel => exact ⟨k + 1, r, jb2, bk1, B1, by omega, by omega, by omega, rfl, by go_num, rfl, rfl, rfl, HT6.out⟩
            · have hfacts : B.first ≠ B1.first ∨ B.groups.length ≠ B1.groups.length := by
                obtain ⟨F1, F2, ⟨v, _, ⟨_, _, _, h⟩, _⟩, _⟩ := ht4.parts
                exact h
              have Hfacts := Lib.hid hfacts
              clear hfacts
              have HD := Lib.hid (ht4.callF ((down_x (t := k + 1) (vb := vb) (mb := mb) (jb := jb2) (B := B) (B1 := B1)).L (b2_stab bk1 ck k { B with pend := [] } (k + 1) B1)))
              clear ht4
              go_wp2_with fail
              refine HD.out.mono ?_
              rintro e w5 ⟨rfl, ht5⟩
              dsimp only
              have HD := Lib.hid (ht5.callF ((append_x (t := k + 1) (vb := vb) (mb := mb) (jb := jb2) (B := B) (B1 := B1) ⟨#[]⟩ (by decide)).L (b2_stab bk1 ck k { B with pend := [] } (k + 1) B1)))
              clear ht5
              go_wp2_with fail
              refine HD.out.mono ?_
              rintro e w6 ⟨rfl, ht6⟩
              dsimp only
              have HD := Lib.hid (ht6.callF ((discard_x (t := k + 1) (vb := vb) (mb := mb) (jb := jb2) (B := B) (B1 := B1)).L (b2_stab bk1 ck k { B with pend := [] } (k + 1) B1)))
              clear ht6
              go_wp2_with fail
              refine HD.out.mono ?_
              rintro e w7 ⟨rfl, ht7⟩
              dsimp only
              have HD := Lib.hid (ht7.callF ((drop_x (t := k + 1) (vb := vb) (mb := mb) (jb := jb2) (B := B) (B1 := B1) 0).L (b2_stab bk1 ck k { B with pend := [] } (k + 1) B1)))
              clear ht7
              go_wp2_with fail
              refine HD.out.mono ?_
              rintro e w8 ⟨rfl, ht8⟩
              dsimp only
              have HD := Lib.hid (ht8.callF ((commit_x (t := k + 1) (vb := vb) (mb := mb) (jb := jb2) (B := B) (B1 := B1)).L (b2_stab bk1 ck k { B with pend := [] } (k + 1) B1)))
              clear ht8
              go_wp2_with fail
              refine HD.out.mono ?_
              rintro e w9 ⟨rfl, ht9⟩
              dsimp only
              have HT9 := Lib.hid ht9
              clear ht9 HD
              go_upto_if 127 with (fail)
              go_cut [17] (fun sv wx => wx = w9 ∧ ∃ zs, ByteRow wx sv zs ∧ zs.length ≤ maxLen)
              case first =>
                by_cases h1 : r < nf
                · obtain ⟨fb, fo, ea, ec, hfe, hzl, hfe2⟩ := HFz.out.elem r (by rw [Hnf.out]; exact h1)
                  obtain ⟨c0, hbr⟩ := hfe2 w9 HT9.out.of0
                  have hflt := World.block_lt_of_cell? w9 _ c0
                  have Hb := Lib.hid hbr
                  have Hz := Lib.hid hzl
                  clear hfe2 hbr hzl
                  subst hfe
                  go_wp2_with fail
                  go_meet
                  exact ⟨rfl, _, Hb.out, Hz.out⟩
                · go_wp2_with fail
                  go_meet
                  exact ⟨rfl, [], .inl ⟨none, 0, rfl, rfl⟩, Nat.zero_le _⟩
              case rest =>
                obtain ⟨rfl, zs, hbr, hzl⟩ := hcut
                have HS := Lib.hid (To.callS (ι := { B' : Bk // B' = B ∨ B' = B1 }) (S' := fun i => DvV (k + 1) vb mb i.1) (r := fun _ => .tuple #[]) (b2_stab bk1 ck k { B with pend := [] } (k + 1) B1) HT9.out (fun F1 hF1 => (start_x _ zs hzl _ F1 hF1 hbr).mono fun e w' ⟨he, B', hb, ht⟩ => ⟨⟨B', hb⟩, he, ht⟩))
                clear hbr hzl HT9
                go_wp2_with fail
                refine HS.out.mono ?_
                rintro e w10 ⟨⟨B', hB'⟩, rfl, ht10⟩
                dsimp only at ht10 ⊢
                have HO := Lib.hid (To.callS (S' := fun jb' => DvL (k + 1) vb mb jb' { B' with pend := [] }) (r := fun jb' => .tuple #[.pointer (some ⟨jb', 0, none⟩), .int .i64 0]) (b2_stab bk1 ck k { B with pend := [] } (k + 1) B1) ht10 (fun F1 hF1 => open_V w10 F1 hF1))
                have HB' := Lib.hid hB'
                clear ht10 HS hB'
                go_wp2_with fail
                refine HO.out.mono ?_
                rintro e w11 ⟨jb3, rfl, ht11⟩
                dsimp only
                have HC2 := Lib.hid (copy_2 (dvl_stab _ _ _ _ _) ht11)
                clear ht11 HO
                go_wp2_with fail
                refine HC2.out.mono ?_
                rintro e w12 ⟨ak, rfl, ht12⟩
                dsimp only
                obtain ⟨F1, Fc, Fb, p1, p2, p3, p4, p5⟩ := B2.parts ht12
                have HT12 := Lib.hid ht12
                rcases HB'.out with rfl | rfl
                · have HA := Lib.hid (agrees_l w12 F1 Fb p1 p3)
                  clear ht12 HC2 p1 p2 p3 p4 p5
                  go_wp2_with fail
                  refine HA.out.mono ?_
                  rintro e w13 ⟨rfl, hk13⟩
                  dsimp only
                  have ht13 := HT12.out.kept ((dvl_stab _ _ _ _ _).sep (b2_stab _ _ _ _ _ _)) hk13
                  obtain ⟨F1, Fc, Fb, p1, p2, p3, p4, p5⟩ := B2.parts ht13
                  have HA := Lib.hid (agrees_l w13 F1 Fb p1 p3)
                  have HT13 := Lib.hid ht13
                  clear ht13 hk13 HT12 p1 p2 p3 p4 p5
                  go_wp2_with fail
                  refine HA.out.mono ?_
                  rintro e w14 ⟨rfl, hk14⟩
                  dsimp only
                  have HT14 := Lib.hid (B2.other (HT13.out.kept ((dvl_stab _ _ _ _ _).sep (b2_stab _ _ _ _ _ _)) hk14) (by omega) (by omega))
                  clear hk14 HT13 HA
                  go_wp2_with fail
                  go_roundg (31 - (k + 1))
                  case measure => have := Hg.out; omega
                  case rel => exact ⟨k + 1, r + 1, jb3, ck, _, by omega, by omega, by omega, rfl, by go_num, by go_num, rfl, rfl, HT14.out⟩
                · have HA := Lib.hid (agrees_ln w12 F1 Fb p1 p3 (p5.up (by omega) (by omega)) (by rcases Hfacts.out with h | h; exact .inl (fun e => h e.symm); exact .inr (fun e => h e.symm)))
                  clear ht12 HC2 p1 p2 p3 p4 p5
                  go_wp2_with fail
                  refine HA.out.mono ?_
                  rintro e w13 ⟨rfl, hk13⟩
                  dsimp only
                  have ht13 := HT12.out.kept ((dvl_stab _ _ _ _ _).sep (b2_stab _ _ _ _ _ _)) hk13
                  obtain ⟨F1, Fc, Fb, p1, p2, p3, p4, p5⟩ := B2.parts ht13
                  have HA := Lib.hid (agrees_l w13 F1 Fc p1 p2)
                  have HT13 := Lib.hid ht13
                  clear ht13 hk13 HT12 p1 p2 p3 p4 p5
                  go_wp2_with fail
                  refine HA.out.mono ?_
                  rintro e w14 ⟨rfl, hk14⟩
                  dsimp only
                  have ht14 := HT13.out.kept ((dvl_stab _ _ _ _ _).sep (b2_stab _ _ _ _ _ _)) hk14
                  obtain ⟨F1, Fc, Fb, p1, p2, p3, p4, p5⟩ := B2.parts ht14
                  have HA := Lib.hid (agrees_ln w14 F1 Fb p1 p3 (p5.up (by omega) (by omega)) (by rcases Hfacts.out with h | h; exact .inl (fun e => h e.symm); exact .inr (fun e => h e.symm)))
                  have HT14 := Lib.hid ht14
                  clear ht14 hk14 HT13 p1 p2 p3 p4 p5
                  go_wp2_with fail
                  refine HA.out.mono ?_
                  rintro e w15 ⟨rfl, hk15⟩
                  dsimp only
                  have HT15 := Lib.hid (B2.one (HT14.out.kept ((dvl_stab _ _ _ _ _).sep (b2_stab _ _ _ _ _ _)) hk15))
                  clear hk15 HT14 HA
                  go_wp2_with fail
                  go_roundg (31 - (k + 1))
                  case measure => have := Hg.out; omega
                  case rel => exact ⟨k + 1, r + 1, jb3, ak, _, by omega, by omega, by omega, rfl, by go_num, by go_num, rfl, rfl, HT15.out⟩
      · obtain rfl : k = 30 := by omega
        have HK := Lib.hid HT.out.of0.below0
        clear HT hlt2
        go_wp2_with fail
        go_ret
        exact ⟨rfl, HK.out⟩
    · obtain rfl : k = ln := by omega
      have HK := Lib.hid HT.out.of0.below0
      clear HT
      go_wp2_with fail
      go_ret
      exact ⟨rfl, HK.out⟩
/-! ### frame -/
open Go.ChangeShapes Go.WideShapes Go.ChangeAt
open Go.ChangeMaps (open_string shut_string)
theorem journalSurvives_walk (a0 : Int) (w0 : (Lit.int .u8 a0).wf = true) (v1 : Value) (v2 : Value) (w : World) (m1 : JOpsArg w v1) (m2 : FailsArg w v2) :
    Calls Try.prog 10 #[.int .u8 a0, v1, v2] w fun e w' => e = .returned (.bool true) ∧ Below w.heap.size w w' :=
  survives a0 (Go.bounds_u8 w0) v1 v2 w m1 m2
theorem journalSurvives_own : ownKnob Try.prog.godebug = none := by kernel_rfl
theorem journalSurvives_laidOut : laidOutB Try.prog = true := by kernel_rfl
set_option maxRecDepth 100000 in
theorem journalSurvives_lifted (os : Os) (started : os.Started) (H : Type) (enc : TypeId × Value → H) :
    ReturnsInHanded {} Try.checked os 10 .any (Rows.journalSurvivesSpec.pre6 enc Try.prog Try.f10 Rows.journalSurvivesRow.domain false) (Rows.journalSurvivesSpec.post enc Try.prog Try.f10 false true false false) := by
  refine returnsInHanded_of_change (C := Try.checked) journalSurvives_own started (by kernel_rfl) Try.func10
    (ChangeSpec.witness6 (enc := enc) (C := Try.checked) false ⟨#[], #[.int .u8 0, .slice none 0 0, .slice none 0 0], []⟩ 8 (by kernel_rfl) (by kernel_rfl) (by kernel_rfl) (by kernel_rfl)) ?_
  intro W base args ds gs before hval0 hW hcnd _
  have hval : ∀ (j : Nat) t v, Try.f10.params[j]? = some t → args[j]? = some v → Value.okWide Try.prog W .any base t v := hval0
  have hW' := hW
  obtain ⟨p, q, hA0, hV, rfl, hfz, hnd⟩ := hW
  have hA : DataW.TrodAll enc Try.prog W 0 (fun _ => true) true Try.f10.params.toList args.toList ds p := hA0
  rw [Try.params10] at hA hval
  obtain ⟨v0, vs0, d0, ds0, p0, q0, hargs, rfl, rfl, h0, r0⟩ := trodAll_cons hA
  obtain ⟨v1, vs1, d1, ds1, p1, q1, rfl, rfl, rfl, h1, r1⟩ := trodAll_cons r0
  obtain ⟨v2, vs2, d2, ds2, p2, q2, rfl, rfl, rfl, h2, r2⟩ := trodAll_cons r1
  obtain ⟨rfl, rfl, rfl⟩ := trodAll_nil r2
  obtain rfl : args = #[v0, v1, v2] := by cases args; simp_all
  obtain ⟨rfl, rfl⟩ := trodVars_none hV
  have k0 := h0
  have lt0 : ∀ x ∈ p0, x.block < W.heap.size := by obtain ⟨m, hm⟩ := k0; exact DataW.trod_lt m _ _ _ hm
  have k1 := h1
  have lt1 : ∀ x ∈ p1, x.block < W.heap.size := by obtain ⟨m, hm⟩ := k1; exact DataW.trod_lt m _ _ _ hm
  have k2 := h2
  have lt2 : ∀ x ∈ p2, x.block < W.heap.size := by obtain ⟨m, hm⟩ := k2; exact DataW.trod_lt m _ _ _ hm
  obtain ⟨a0, rfl, rfl, rfl, w0⟩ := open_int Try.underlying5 (hval 0 5 v0 rfl rfl) h0
  have m1 : JOpsArg W v1 := JOpsArg_open (hval 1 59 v1 rfl rfl) h1
  have m2 : FailsArg W v2 := FailsArg_open (hval 2 67 v2 rfl rfl) h2
  clear hA0 hval0
  refine (journalSurvives_walk a0 w0 v1 v2 W m1 m2).mono fun e W' ⟨he, bel⟩ => ?_
  subst he
  exact ⟨_, rfl, _, _, _, [], _, [], hW', trodAll_mk1 (shut_bool Try.underlying4 _), (trodAll_cons_mk (Below.trod journalSurvives_laidOut (by kernel_rfl) (of_decide_eq_true (by kernel_rfl)) k0 bel lt0) (trodAll_cons_mk (Below.trod journalSurvives_laidOut (by kernel_rfl) (of_decide_eq_true (by kernel_rfl)) k1 bel lt1) (trodAll_cons_mk (Below.trod journalSurvives_laidOut (by kernel_rfl) (of_decide_eq_true (by kernel_rfl)) k2 bel lt2) trodAll_mk0))), rfl, bel.frame _, fun h => by cases h⟩
theorem journalSurvives_over : Rows.journalSurvivesRow.holds Try.pinned (OpenSpec.ofChange Rows.journalSurvivesSpec) :=
  OpenClaim.holds_of_wide 10 Try.f10 rfl rfl rfl rfl rfl rfl rfl ⟨rfl, rfl, rfl, rfl, rfl⟩ rfl rfl rfl rfl rfl (by kernel_rfl) Try.func10 (by kernel_rfl)
    (of_decide_eq_true (by kernel_rfl)) (by unfold Func.isWrapper; first | (rw [if_pos (by decide +kernel)]; kernel_rfl) | (rw [if_neg (by decide +kernel)]; exact ⟨rfl, rfl⟩))
    (fun os started H enc _ => journalSurvives_lifted os started H enc)
/-- The statement. -/
theorem journalSurvives_proved : Rows.JournalSurvivesSaid := journalSurvives_over
#print axioms journalSurvives_proved
end Go.Proofs.Ytgmggmpkbfljfaa
