/- For any numbers and any operations the statement VolumeLimits returns true. -/
import Derived.Test.YtombldjaipcloaaLim
set_option linter.unusedVariables false
set_option linter.unusedSimpArgs false
namespace Go.Proofs.Ytombldjaipcloaa
open Go.RowKit
theorem sectors_p (n : Int) (h0 : 0 ≤ n) (h1 : n ≤ 255) (w : World) : Calls Try.prog 18 #[.int .u8 n] w fun e w' => e = .returned (.int .i64 (1 + n % 8)) ∧ w = w' := by
  go_enter Try.func18, Try.ntmps18
  go_wp2
  go_ret
  exact ⟨rfl, rfl⟩
theorem OpsAt.slice {w : World} {sv : Value} {os : List OpV} (h : OpsAt w sv os) : ∃ so sc, sv = .slice so os.length sc ∧ os.length ≤ maxLen := by
  rcases h with ⟨a, c, h1, rfl⟩ | ⟨lb, lo, c, h1, h2, _⟩
  · exact ⟨a, c, h1, Nat.zero_le _⟩
  · exact ⟨_, c, h1, h2⟩
theorem OpsAt.elem {w w' : World} {so : Option Addr} {sc : Nat} {os : List OpV} (h : OpsAt w (.slice so os.length sc) os) (hb : Below w.heap.size w w') (k : Nat) (hk : k < os.length) :
    ∃ lb lo kd s d so' sl' sc' zs, so = some ⟨lb, lo, none⟩ ∧ lb < w.heap.size ∧ os[k] = ⟨kd, s, d, .slice so' sl' sc', zs⟩ ∧ os[k].ok w ∧ w'.cell? ⟨lb, lo + k * 4, none⟩ = some (.int .u8 kd) ∧ w'.cell? ⟨lb, lo + k * 4 + 1, none⟩ = some (.int .i16 s) ∧ w'.cell? ⟨lb, lo + k * 4 + 2, none⟩ = some (.int .u8 d) ∧ w'.cell? ⟨lb, lo + k * 4 + 3, none⟩ = some (.slice so' sl' sc') := by
  rcases h with ⟨a, c, h1, rfl⟩ | ⟨lb, lo, c, h1, h2, h3⟩
  · simp at hk
  · injection h1 with h1 _ _
    obtain ⟨h4, e0, e1, e2, e3⟩ := h3 k hk
    obtain ⟨so', sl', sc', hs⟩ := data_p _ w h4
    rw [hs] at e3
    refine ⟨lb, lo, _, _, _, so', sl', sc', _, h1, World.block_lt_of_cell? w _ e0, by rw [← hs], h4, Below.cellAt hb e0, Below.cellAt hb e1, Below.cellAt hb e2, Below.cellAt hb e3⟩
theorem Own0.drew {w0 w : World} {A : HP} (hA : Stab A) (h : Own0 w0 A w) : Own0 w0 A w.drew := h.keep hA (Keep.drew [] w)
theorem boxS {w : World} {bx : Nat} {c0 c1 c2 c3 : Value} {t : TypeId} (h : w.heap[bx]? = some (.cells #[c0, c1, c2, c3] t (0, 0))) :
    w.cell? ⟨bx, 0, none⟩ = some c0 ∧ w.cell? ⟨bx, 1, none⟩ = some c1 ∧ w.cell? ⟨bx, 2, none⟩ = some c2 ∧ w.cell? ⟨bx, 3, none⟩ = some c3 :=
  ⟨cell_of h 0, cell_of h 1, cell_of h 2, cell_of h 3⟩
set_option maxRecDepth 100000 in
set_option maxHeartbeats 4000000 in
theorem limits (n0 l0 : Int) (sv : Value) (os : List OpV) (hn : 0 ≤ n0 ∧ n0 ≤ 255) (hl : 0 ≤ l0 ∧ l0 ≤ 255) (w : World) (hos : OpsAt w sv os) :
    Calls Try.prog 5 #[.int .u8 n0, .int .u8 l0, sv] w fun e w' => e = .returned (.bool true) ∧ Below w.heap.size w w' := by
  obtain ⟨so, sc, rfl, hlen⟩ := hos.slice
  have Hos := Lib.hid hos
  unfold maxLen at hlen
  obtain ⟨n, hn'⟩ : ∃ n, 1 + n0 % 8 = n := ⟨_, rfl⟩
  have HS := fun w => sectors_p n0 hn.1 hn.2 w
  rw [hn'] at HS
  have Hs := Lib.hid HS
  have hn3 : 1 ≤ n := by omega
  have hn4 : n ≤ 8 := by omega
  have hl1 := hl.1
  obtain ⟨left0, hleft⟩ : ∃ left, l0 % 41 = left := ⟨_, rfl⟩
  have hm0 : 0 ≤ left0 ∧ left0 ≤ 40 := by omega
  have Hm0 := Lib.hid hm0
  have Hleft := Lib.hid hleft
  clear HS hn' hn hos hleft hl hm0
  go_enter Try.func5, Try.ntmps5
  go_wp2_with fail
  refine (Hs.out _).mono ?_
  rintro e w1 ⟨rfl, rfl⟩
  go_wp2_with fail
  refine (new_o n w (by omega) (by omega)).mono ?_
  rintro e w1 ⟨rfl, hv1, hk1⟩
  have O1 := Lib.hid (Own0.first (w0 := w) hv1 (by simp) hk1)
  clear hv1 hk1
  generalize w.heap.size + 1 = b1 at *
  generalize hmb : w.heap.size = mb1 at *
  have Hmb := Lib.hid hmb
  clear hmb
  go_wp2_with fail
  refine (Hs.out _).mono ?_
  rintro e w2 ⟨rfl, rfl⟩
  go_wp2_with fail
  refine (new_o n w1 (by omega) (by omega)).mono ?_
  rintro e w2 ⟨rfl, hv2, hk2⟩
  have O2 := Lib.hid (O1.out.new (volH_stab _ _ _) hk2 hv2 (by simp))
  clear hv2 hk2 O1
  generalize w1.heap.size + 1 = b2 at *
  generalize w1.heap.size = mb2 at *
  go_wp2_with fail
  refine (known_c w2).mono ?_
  rintro e w3 ⟨rfl, hb3⟩
  have O3 := Lib.hid (keepOwn ((volH_stab _ _ _).sep (volH_stab _ _ _)) O2.out hb3)
  clear hb3 O2
  go_wp2_with fail
  rw [Hleft.out]
  refine (((limit_m b1 mb1 (vNew n) left0).L (volH_stab b2 mb2 (vNew n))).own O3.out).mono ?_
  rintro e w4 ⟨rfl, ho4⟩
  have O4 : Hid (Own0 w (Sep (VolH b1 mb1 (lim (vNew n) left0)) (VolH b2 mb2 (vNew n))) w4) := by
    have : max 0 left0 = left0 := by have := Hm0.out; omega
    rw [this] at ho4; exact ho4
  clear ho4 O3
  go_wp2_with fail
  go_loopw [11, 12] (fun lf i wr => ∃ (k : Nat) (left : Int) (u : Vol), k ≤ os.length ∧ k ≤ 40 ∧ i = .int .i64 k ∧ lf = .int .i64 left ∧ 0 ≤ left ∧ left ≤ 40 ∧ Up u ∧ u.pend.length ≤ k ∧ Own0 w (Sep (VolH b1 mb1 (lim u left)) (VolH b2 mb2 u)) wr) (fun _ i _ => 40 - (intOf i).toNat)
  case atStart => exact ⟨0, left0, vNew n, by omega, by omega, rfl, rfl, Hm0.out.1, Hm0.out.2, ⟨rfl, rfl⟩, Nat.zero_le _, O4.out⟩
  case round =>
    obtain ⟨k, left, u, hk, hk40, rfl, rfl, hl0, hl40, hup, hpl, ho⟩ := hrel
    have Ho := Lib.hid ho
    have Hup := Lib.hid hup
    clear hup
    by_cases hlt : k < os.length
    · have hd1 : decide ((k : Int) < os.length) = true := by simp; omega
      by_cases h40 : k < 40
      · obtain ⟨lb, lo, kd, s, d, so', sl', sc', zs, rfl, hlb, hok, hokk, e0, e1, e2, e3⟩ := Hos.out.elem ho.below k hlt
        rw [hok] at hokk
        have hkd := hokk.kind
        have hsec := hokk.sec
        have Hdat := Lib.hid hokk.dat
        have hlbr : lb < wr.heap.size := Nat.lt_of_lt_of_le hlb ho.below.size
        obtain ⟨hkd1, hkd2⟩ := hkd
        obtain ⟨hsec1, hsec2⟩ := hsec
        dsimp only at hkd1 hkd2 hsec1 hsec2 Hdat
        clear hok hokk ho
        by_cases hk4 : kd % 4 = 0
        · have t4 : (kd % 4 == 0) = true := by rw [beq_iff_eq]; exact hk4
          clear hk4
          have Hst := Lib.hid (lim_barrier u left Hup.out hl0 hl40)
          have hlen1 : (lim u left).pend.length ≤ 4096 := by show u.pend.length ≤ 4096; omega
          have Hl1 := Lib.hid hlen1
          clear hlen1
          go_wp2_with fail
          refine (((barrier_m b1 mb1 (lim u left) Hl1.out).L (volH_stab b2 mb2 u)).L (boxH_stab _ _ _) |>.own (Ho.out.addBox ((volH_stab _ _ _).sep (volH_stab _ _ _)) _ _)).mono ?_
          rintro e w5 ⟨rfl, ho5⟩
          have Ho5 := Lib.hid ho5
          clear ho5
          go_wp2_with fail
          refine (((barrier_m b2 mb2 u Hl1.out).R (volH_stab b1 mb1 _)).L (boxH_stab _ _ _) |>.own Ho5.out).mono ?_
          generalize vBarrier (lim u left) = rv at *
          generalize vBarrier u = ru at *
          obtain ⟨a, v'⟩ := rv
          obtain ⟨b, u'⟩ := ru
          dsimp only at Hst ⊢
          rintro e w6 ⟨rfl, ho6⟩
          have Ho6 := Lib.hid ho6
          clear ho6 Ho5
          obtain ⟨s1, s2, s3, s4, s5⟩ := Hst.out
          have S1 := Lib.hid s1
          clear s1
          by_cases hb0 : b = 0
          · subst hb0
            by_cases hl : left = 0
            · obtain ⟨rfl, hdn, hpl'⟩ := s4 rfl hl
              subst hl
              clear s2 s3 s4 s5
              go_wp2_with fail
              refine (((down_m b1 mb1 v').L (volH_stab _ _ _)).L (boxH_stab _ _ _) |>.own Ho6.out).mono ?_
              rw [hdn]
              rintro e w7 ⟨rfl, ho7⟩
              have Ho7 := Lib.hid ho7
              have Hdn := Lib.hid hdn
              clear ho7 hdn
              go_wp2_with fail
              refine (((barrier_m b1 mb1 v' (by omega)).L (volH_stab _ _ _)).L (boxH_stab _ _ _) |>.own Ho7.out).mono ?_
              rw [barrier_down Hdn.out]
              rintro e w8 ⟨rfl, ho8⟩
              have Ho8 := Lib.hid ho8
              clear ho8
              go_wp2_with fail
              go_returns
              exact ⟨rfl, Ho8.out.below⟩
            · obtain ⟨rfl, rfl⟩ := s5 rfl (by omega)
              have hl' : (left == 0) = false := by rw [beq_eq_false_iff_ne]; exact hl
              have hlp : 1 ≤ left := by omega
              clear s3 s4 s5 hl
              go_wp2_with fail
              refine (((down_m b1 mb1 (lim u' (left - 1))).L (volH_stab _ _ _)).L (boxH_stab _ _ _) |>.own Ho6.out).mono ?_
              rw [show (lim u' (left - 1)).down = false from S1.out.2]
              rintro e w7 ⟨rfl, ho7⟩
              have Ho7 := Lib.hid ho7
              clear ho7
              go_wp2_with fail
              go_roundw
              case rel => exact ⟨k + 1, left - 1, u', by omega, by omega, by go_num, rfl, by omega, by omega, S1.out, by omega, Ho7.out.drop⟩
              case measure => simp [intOf]; omega
          · obtain ⟨rfl, rfl⟩ := s3 hb0
            have hb0' : (a == 0) = false := by rw [beq_eq_false_iff_ne]; exact hb0
            clear s3 s4 s5 hb0
            go_wp2_with fail
            refine (((down_m b1 mb1 (lim u' left)).L (volH_stab _ _ _)).L (boxH_stab _ _ _) |>.own Ho6.out).mono ?_
            rw [show (lim u' left).down = false from S1.out.2]
            rintro e w7 ⟨rfl, ho7⟩
            have Ho7 := Lib.hid ho7
            clear ho7
            go_wp2_with fail
            go_roundw
            case rel => exact ⟨k + 1, left, u', by omega, by omega, by go_num, rfl, by omega, by omega, S1.out, by omega, Ho7.out.drop⟩
            case measure => simp [intOf]; omega
        · have t4 : (kd % 4 == 0) = false := by rw [beq_eq_false_iff_ne]; exact hk4
          have Hst := Lib.hid (lim_write u left s (opData d) Hup.out hl0 hl40)
          have Hbox := Lib.hid (Ho.out.addBox ((volH_stab _ _ _).sep (volH_stab _ _ _)) #[.int .u8 kd, .int .i16 s, .int .u8 d, .slice so' sl' sc'] 38)
          have hlen1 : (lim u left).pend.length ≤ 4096 := by show u.pend.length ≤ 4096; omega
          have Hl1 := Lib.hid hlen1
          clear hlen1 hk4
          have tok1 : True := trivial
          have tok2 : True := trivial
          have tok3 : True := trivial
          have tok4 : True := trivial
          go_wp2_with fail
          obtain ⟨bx, hbx⟩ : ∃ bx, wr.heap.size = bx := ⟨_, rfl⟩
          have ho5 := Hbox.out
          rw [hbx] at ho5 ⊢
          generalize wr.alloc (.cells #[.int .u8 kd, .int .i16 s, .int .u8 d, .slice so' sl' sc'] 38) = w5 at ho5 ⊢
          have hx5 := boxS ho5.box
          have Ho5 := Lib.hid ho5
          clear ho5 e0 e1 e2 e3 hlbr
          have hws : IntKind.i64.wrap s = s := IntWalk.i64_in _ ⟨by omega, by omega⟩
          go_region_held3 (fun w' => w'.cell? ⟨bx, 0, none⟩ = some (.int .u8 kd) ∧ w'.cell? ⟨bx, 1, none⟩ = some (.int .i16 s) ∧ w'.cell? ⟨bx, 2, none⟩ = some (.int .u8 d) ∧ w'.cell? ⟨bx, 3, none⟩ = some (.slice so' sl' sc')) (exact hx5) ((first
            | (go_at_call 28; have _t := tok1; refine (data_c kd s d _ so' sl' sc' rfl Hdat.out _).mono ?_; rintro e w6 ⟨rfl, hb6⟩; clear tok1; have Ha6 := Lib.hid (keepOwn (((volH_stab _ _ _).sep (volH_stab _ _ _)).sep (boxH_stab _ _ _)) (Ho5.out.drew (((volH_stab _ _ _).sep (volH_stab _ _ _)).sep (boxH_stab _ _ _))) hb6); clear hx5 hb6; have hx5 := boxS Ha6.out.box)
            | (go_at_call 27; have _t := tok2; refine (((write_m b1 mb1 (lim u left) s (opData d)).L (volH_stab b2 mb2 u)).L (boxH_stab _ _ _) |>.own Ha6.out).mono ?_; rintro e w7 ⟨rfl, ho7⟩; clear tok2; have Ha7 := Lib.hid ho7; clear hx5 ho7; have hx5 := boxS Ha7.out.box)
            | (go_at_call 28; have _t := tok3; refine (data_c kd s d _ so' sl' sc' rfl Hdat.out _).mono ?_; rintro e w8 ⟨rfl, hb8⟩; clear tok3; have Ha8 := Lib.hid (keepOwn (((volH_stab _ _ _).sep (volH_stab _ _ _)).sep (boxH_stab _ _ _)) Ha7.out hb8); clear hx5 hb8; have hx5 := boxS Ha8.out.box)
            | (go_at_call 27; have _t := tok4; refine (((write_m b2 mb2 u s (opData d)).R (volH_stab b1 mb1 _)).L (boxH_stab _ _ _) |>.own Ha8.out).mono ?_; rintro e w9 ⟨rfl, ho9⟩; clear tok4; have Ho9 := Lib.hid ho9; clear hx5 ho9; have hx5 := boxS Ho9.out.box)))
          clear hws hx5
          generalize vWrite (lim u left) s (opData d) = rv at *
          generalize vWrite u s (opData d) = ru at *
          obtain ⟨a, v'⟩ := rv
          obtain ⟨b, u'⟩ := ru
          dsimp only at Hst Ho9 ⊢
          have Ho6 := Lib.hid Ho9.out
          clear Ho9 Hbox
          obtain ⟨s1, s2, s3, s4, s5⟩ := Hst.out
          have S1 := Lib.hid s1
          clear s1
          by_cases hb0 : b = 0
          · subst hb0
            by_cases hl : left = 0
            · obtain ⟨rfl, hdn, hpl'⟩ := s4 rfl hl
              subst hl
              clear s2 s3 s4 s5
              go_wp2_with fail
              refine (((down_m b1 mb1 v').L (volH_stab _ _ _)).L (boxH_stab _ _ _) |>.own Ho6.out).mono ?_
              rw [hdn]
              rintro e w7 ⟨rfl, ho7⟩
              have Ho7 := Lib.hid ho7
              have Hdn := Lib.hid hdn
              clear ho7 hdn
              go_wp2_with fail
              refine (((barrier_m b1 mb1 v' (by omega)).L (volH_stab _ _ _)).L (boxH_stab _ _ _) |>.own Ho7.out).mono ?_
              rw [barrier_down Hdn.out]
              rintro e w8 ⟨rfl, ho8⟩
              have Ho8 := Lib.hid ho8
              clear ho8
              go_wp2_with fail
              go_returns
              exact ⟨rfl, Ho8.out.below⟩
            · obtain ⟨rfl, rfl⟩ := s5 rfl (by omega)
              have hl' : (left == 0) = false := by rw [beq_eq_false_iff_ne]; exact hl
              have hlp : 1 ≤ left := by omega
              clear s3 s4 s5 hl
              go_wp2_with fail
              refine (((down_m b1 mb1 (lim u' (left - 1))).L (volH_stab _ _ _)).L (boxH_stab _ _ _) |>.own Ho6.out).mono ?_
              rw [show (lim u' (left - 1)).down = false from S1.out.2]
              rintro e w7 ⟨rfl, ho7⟩
              have Ho7 := Lib.hid ho7
              clear ho7
              go_wp2_with fail
              go_roundw
              case rel => exact ⟨k + 1, left - 1, u', by omega, by omega, by go_num, rfl, by omega, by omega, S1.out, by omega, Ho7.out.drop⟩
              case measure => simp [intOf]; omega
          · obtain ⟨rfl, rfl⟩ := s3 hb0
            have hb0' : (a == 0) = false := by rw [beq_eq_false_iff_ne]; exact hb0
            clear s3 s4 s5 hb0
            go_wp2_with fail
            refine (((down_m b1 mb1 (lim u' left)).L (volH_stab _ _ _)).L (boxH_stab _ _ _) |>.own Ho6.out).mono ?_
            rw [show (lim u' left).down = false from S1.out.2]
            rintro e w7 ⟨rfl, ho7⟩
            have Ho7 := Lib.hid ho7
            clear ho7
            go_wp2_with fail
            go_roundw
            case rel => exact ⟨k + 1, left, u', by omega, by omega, by go_num, rfl, by omega, by omega, S1.out, by omega, Ho7.out.drop⟩
            case measure => simp [intOf]; omega
      · obtain rfl : k = 40 := by omega
        go_wp2_with fail
        refine ((down_m b1 mb1 (lim u left)).L (volH_stab _ _ _) |>.own Ho.out).mono ?_
        rw [show (lim u left).down = false from Hup.out.2]
        rintro e w7 ⟨rfl, ho7⟩
        have Ho7 := Lib.hid ho7
        clear ho7
        go_wp2_with fail
        go_returns
        exact ⟨rfl, Ho7.out.below⟩
    · have hd1 : decide ((k : Int) < os.length) = false := by simp; omega
      go_wp2_with fail
      refine ((down_m b1 mb1 (lim u left)).L (volH_stab _ _ _) |>.own Ho.out).mono ?_
      rw [show (lim u left).down = false from Hup.out.2]
      rintro e w7 ⟨rfl, ho7⟩
      have Ho7 := Lib.hid ho7
      clear ho7
      go_wp2_with fail
      go_returns
      exact ⟨rfl, Ho7.out.below⟩
/-! ### frame -/
open Go.ChangeShapes Go.WideShapes Go.ChangeAt
open Go.ChangeMaps (open_string shut_string)
theorem volumeLimits_walk (a0 : Int) (w0 : (Lit.int .u8 a0).wf = true) (a1 : Int) (w1 : (Lit.int .u8 a1).wf = true) (v2 : Value) (w : World) (m2 : OpsArg w v2) :
    Calls Try.prog 5 #[.int .u8 a0, .int .u8 a1, v2] w fun e w' => e = .returned (.bool true) ∧ Below w.heap.size w w' := by
  obtain ⟨os, h⟩ := m2
  exact limits a0 a1 v2 os (Go.bounds_u8 w0) (Go.bounds_u8 w1) w h
theorem volumeLimits_own : ownKnob Try.prog.godebug = none := by kernel_rfl
theorem volumeLimits_laidOut : laidOutB Try.prog = true := by kernel_rfl
set_option maxRecDepth 100000 in
theorem volumeLimits_lifted (os : Os) (started : os.Started) (H : Type) (enc : TypeId × Value → H) :
    ReturnsInHanded {} Try.checked os 5 .any (Rows.volumeLimitsSpec.pre6 enc Try.prog Try.f5 Rows.volumeLimitsRow.domain false) (Rows.volumeLimitsSpec.post enc Try.prog Try.f5 false true false false) := by
  refine returnsInHanded_of_change (C := Try.checked) volumeLimits_own started (by kernel_rfl) Try.func5
    (ChangeSpec.witness6 (enc := enc) (C := Try.checked) false ⟨#[], #[.int .u8 0, .int .u8 0, .slice none 0 0], []⟩ 8 (by kernel_rfl) (by kernel_rfl) (by kernel_rfl) (by kernel_rfl)) ?_
  intro W base args ds gs before hval0 hW hcnd _
  have hval : ∀ (j : Nat) t v, Try.f5.params[j]? = some t → args[j]? = some v → Value.okWide Try.prog W .any base t v := hval0
  have hW' := hW
  obtain ⟨p, q, hA0, hV, rfl, hfz, hnd⟩ := hW
  have hA : DataW.TrodAll enc Try.prog W 0 (fun _ => true) true Try.f5.params.toList args.toList ds p := hA0
  rw [Try.params5] at hA hval
  obtain ⟨v0, vs0, d0, ds0, p0, q0, hargs, rfl, rfl, h0, r0⟩ := trodAll_cons hA
  obtain ⟨v1, vs1, d1, ds1, p1, q1, rfl, rfl, rfl, h1, r1⟩ := trodAll_cons r0
  obtain ⟨v2, vs2, d2, ds2, p2, q2, rfl, rfl, rfl, h2, r2⟩ := trodAll_cons r1
  obtain ⟨rfl, rfl, rfl⟩ := trodAll_nil r2
  obtain rfl : args = #[v0, v1, v2] := by cases args; simp_all
  obtain ⟨rfl, rfl⟩ := trodVars_none hV
  have k0 := h0
  have lt0 : ∀ x ∈ p0, x.block < W.heap.size := by obtain ⟨m, hm⟩ := k0; exact DataW.trod_lt m _ _ _ hm
  have k1 := h1
  have lt1 : ∀ x ∈ p1, x.block < W.heap.size := by obtain ⟨m, hm⟩ := k1; exact DataW.trod_lt m _ _ _ hm
  have k2 := h2
  have lt2 : ∀ x ∈ p2, x.block < W.heap.size := by obtain ⟨m, hm⟩ := k2; exact DataW.trod_lt m _ _ _ hm
  obtain ⟨a0, rfl, rfl, rfl, w0⟩ := open_int Try.underlying5 (hval 0 5 v0 rfl rfl) h0
  obtain ⟨a1, rfl, rfl, rfl, w1⟩ := open_int Try.underlying5 (hval 1 5 v1 rfl rfl) h1
  have m2 : OpsArg W v2 := OpsArg_open (hval 2 26 v2 rfl rfl) h2
  clear hA0 hval0
  refine (volumeLimits_walk a0 w0 a1 w1 v2 W m2).mono fun e W' ⟨he, bel⟩ => ?_
  subst he
  exact ⟨_, rfl, _, _, _, [], _, [], hW', trodAll_mk1 (shut_bool Try.underlying4 _), (trodAll_cons_mk (Below.trod volumeLimits_laidOut (by kernel_rfl) (of_decide_eq_true (by kernel_rfl)) k0 bel lt0) (trodAll_cons_mk (Below.trod volumeLimits_laidOut (by kernel_rfl) (of_decide_eq_true (by kernel_rfl)) k1 bel lt1) (trodAll_cons_mk (Below.trod volumeLimits_laidOut (by kernel_rfl) (of_decide_eq_true (by kernel_rfl)) k2 bel lt2) trodAll_mk0))), rfl, bel.frame _, fun h => by cases h⟩
theorem volumeLimits_over : Rows.volumeLimitsRow.holds Try.pinned (OpenSpec.ofChange Rows.volumeLimitsSpec) :=
  OpenClaim.holds_of_wide 5 Try.f5 rfl rfl rfl rfl rfl rfl rfl ⟨rfl, rfl, rfl, rfl, rfl⟩ rfl rfl rfl rfl rfl (by kernel_rfl) Try.func5 (by kernel_rfl)
    (of_decide_eq_true (by kernel_rfl)) (by unfold Func.isWrapper; first | (rw [if_pos (by decide +kernel)]; kernel_rfl) | (rw [if_neg (by decide +kernel)]; exact ⟨rfl, rfl⟩))
    (fun os started H enc _ => volumeLimits_lifted os started H enc)
/-- The statement. -/
theorem volumeLimits_proved : Rows.VolumeLimitsSaid := volumeLimits_over
#print axioms volumeLimits_proved
end Go.Proofs.Ytombldjaipcloaa
