/- For any number, operations and script the statement VolumeBlocks returns true. -/
import Derived.Test.YtombldjaipcloaaQ
import Derived.Test.YtombldjaipcloaaBl
import Derived.Test.YtombldjaipcloaaPe
set_option linter.unusedVariables false
set_option linter.unusedSimpArgs false
namespace Go.Proofs.Ytombldjaipcloaa
open Go.RowKit
theorem own0_dk3 {w0 w : World} {A : HP} {db : Nat} {d : Dk} (h : Own0 w0 (Sep A (DkH db d)) w) : ∃ dv pv, DkAt w db dv pv d := by
  obtain ⟨F, ⟨F3, F4, _, ⟨dv, pv, hd, _⟩, _⟩, _⟩ := h
  exact ⟨dv, pv, hd⟩
theorem read_flat3 {v : Vol} (h1 : v.pend = []) (h2 : v.down = false) (i : Nat) (h3 : (i : Int) < v.sectors) : vRead v i = (vDur v i, 0) := by
  unfold vRead
  rw [if_neg (by rw [h2]; simp), if_neg (by omega), h1]
  rfl
set_option maxRecDepth 100000 in
set_option maxHeartbeats 4000000 in
theorem blocks (n0 : Int) (sv tv : Value) (os : List OpV) (zs : List Nat) (hn : 0 ≤ n0 ∧ n0 ≤ 255) (w : World) (hos : OpsAt w sv os) (hz : ByteRow w tv zs) (hzl : zs.length ≤ maxLen) :
    Calls Try.prog 8 #[.int .u8 n0, sv, tv] w fun e w' => e = .returned (.bool true) ∧ Below w.heap.size w w' := by
  obtain ⟨so, sc, rfl, hlen⟩ := opsAt_slice hos
  have Hos := Lib.hid hos
  unfold maxLen at hlen hzl
  obtain ⟨to, tc, rfl⟩ : ∃ to tc, tv = .slice to zs.length tc := by
    rcases hz with ⟨a, c, h1, h2⟩ | ⟨sb, so, c, h1, _⟩
    · exact ⟨a, c, by rw [h1, h2]; rfl⟩
    · exact ⟨_, c, h1⟩
  have Hz : Hid (∀ {A : HP} (w' : World), Own0 w A w' → ByteRow w' (.slice to zs.length tc) zs) := fun {A} w' ho => hz.far ho.below.block
  obtain ⟨n, hn'⟩ : ∃ n : Nat, 1 + n0 % 8 = n := ⟨(1 + n0 % 8).toNat, by omega⟩
  have HS := fun w => sectors_q n0 hn.1 hn.2 w
  rw [hn'] at HS
  have Hs := Lib.hid HS
  have hn3 : 1 ≤ n := by omega
  have hn4 : n ≤ 8 := by omega
  clear HS hn' hn
  clear hos hz
  by_cases hz50 : zs.length ≤ 50
  · go_enter Try.func8, Try.ntmps8
    go_wp2_with fail
    refine (Hs.out _).mono ?_
    rintro e w1 ⟨rfl, rfl⟩
    go_wp2_with fail
    refine (new_o n w (by omega) (by omega)).mono ?_
    rintro e w1 ⟨rfl, hv1, hk1⟩
    have O1 := Lib.hid (Own0.first (w0 := w) hv1 (by simp) hk1)
    clear hv1 hk1
    generalize w.heap.size + 1 = b at *
    generalize hmb : w.heap.size = mb at *
    have Hmb := Lib.hid hmb
    clear hmb
    go_wp2_with fail
    refine (known_c w1).mono ?_
    rintro e w2 ⟨rfl, hb2⟩
    have O2 := Lib.hid (keepOwn (volH_stab _ _ _) O1.out hb2)
    clear hb2 O1
    go_wp2_with fail
    refine (Hs.out _).mono ?_
    rintro e w3 ⟨rfl, rfl⟩
    go_wp2_with fail
    refine (blank_c n (by omega) w2).mono ?_
    rintro e w3 ⟨rfl, ⟨F, hF, hF2⟩, hk3⟩
    have O3 : Hid (Perf w b mb w2.heap.size 0 n w3) := ⟨vNew n, dNew n, corr_new n, Nat.zero_le _, List.length_replicate, O2.out.new (volH_stab _ _ _) hk3 hF hF2⟩
    clear hF hF2 hk3 O2
    generalize w2.heap.size = db at *
    go_wp2_with fail
    go_loopw [10] (fun i wr => ∃ k : Nat, k ≤ os.length ∧ k ≤ 40 ∧ i = .int .i64 k ∧ Perf w b mb db k n wr) (fun i _ => 40 - (intOf i).toNat)
    case atStart => exact ⟨0, by omega, by omega, rfl, O3.out⟩
    case round =>
      obtain ⟨k, hk, hk40, rfl, ho⟩ := hrel
      have Ho := Lib.hid ho
      by_cases hlt : k < os.length ∧ k < 40
      · obtain ⟨hlt, h40⟩ := hlt
        have hd1 : decide ((k : Int) < os.length) = true := by simp; omega
        obtain ⟨lb, lo, kd, s, d, so', sl', sc', zs', rfl, hlb, hok, hokk, e0, e1, e2, e3⟩ := opsAt_elem Hos.out ho.below k hlt
        rw [hok] at hokk
        have hlbr : lb < wr.heap.size := Nat.lt_of_lt_of_le hlb ho.below.size
        have Hc := Lib.hid (perform_c w wr b mb db k n _ so' sl' sc' rfl hokk (by omega) (by omega) ho)
        dsimp only at Hc
        clear hok hokk ho
        go_wp2_with fail
        refine Hc.out.mono ?_
        rintro e w4 ⟨rfl, ho4⟩
        have Ho4 := Lib.hid ho4
        clear ho4 Hc e0 e1 e2 e3
        go_wp2_with fail
        go_roundw
        case rel => exact ⟨k + 1, by omega, by omega, by go_num, Ho4.out⟩
        case measure => simp [intOf]; omega
      · have hx : (decide ((k : Int) < os.length) = false ∧ os.length ≤ k) ∨ (decide ((k : Int) < os.length) = true ∧ 40 ≤ k) := by
          by_cases h : k < os.length
          · right; exact ⟨by simp; omega, by omega⟩
          · left; exact ⟨by simp; omega, by omega⟩
        obtain ⟨v, d, hcorr, hvp, hdl, hv0⟩ := ho
        have hsec : v.sectors = n := by rw [hcorr.len, hdl]
        have Hpr : Hid (∀ p ∈ v.pend, 0 ≤ p.1 ∧ p.1 < v.sectors) := fun p hp => (hcorr.psz p hp).2
        have Hvp : Hid (v.pend.length ≤ 4096) := by show _ ≤ _; omega
        have Hpe : Hid (d.pend.length ≤ 4096) := by show _ ≤ _; rw [hcorr.pend]; omega
        have Hlaw := Lib.hid (fun i hi => blocks_law hcorr zs i hi)
        have Hpz : Hid (∀ p ∈ d.pend, p.2.size = 128) := fun p hp => (hcorr.psz p (hcorr.pend ▸ hp)).1
        have Hdz : Hid (∀ x ∈ d.dur, x.size = 128) := hcorr.sz
        have Hv0 := Lib.hid hv0
        have Hdl := Lib.hid hdl
        have Hsec := Lib.hid hsec
        clear hcorr hvp hdl hv0 hsec Ho hlt
        rcases hx with ⟨hd1, hge⟩ | ⟨hd1, hge⟩
        · skip
          go_wp2_with fail
          refine (((crash_m b mb v).L (dkH_stab db d)) |>.own Hv0.out).mono ?_
          rintro e w5 ⟨rfl, ho5⟩
          try clear hd2
          clear hd1 hge
          have hms : MetAt Try.prog 22 #[.pointer (some ⟨b, 0, none⟩), .slice to zs.length tc] (.tuple #[]) (VolH b mb { v with down := true }) (VolH b mb (vStart { v with down := true } zs)) w5 w.heap.size := fun F hF _ =>
            start_m b mb { v with down := true } _ zs Hpr.out (by omega) Hvp.out _ F hF (Hz.out _ ho5)
          have Hms := Lib.hid hms
          have Ho5 := Lib.hid ho5
          clear hms ho5
          go_wp2_with fail
          refine ((Hms.out.L (dkH_stab db d)).own Ho5.out).mono ?_
          rintro e w6 ⟨rfl, ho6⟩
          have Ho6 := Lib.hid ho6
          have Hus : Hid ((vStart { v with down := true } zs).sectors = n) := (show (vStart { v with down := true } zs).sectors = v.sectors from (vStartL_rest zs v.pend { v with down := true } 0).2).trans Hsec.out
          have Hud : Hid ((vStart { v with down := true } zs).down = false) := rfl
          have Hup : Hid ((vStart { v with down := true } zs).pend = []) := rfl
          clear ho6 Hms Ho5 Hv0 Hpr Hvp Hsec
          generalize vStart { v with down := true } zs = vu at *
          go_wp2_with fail
          go_loopw [11] (fun i wr => ∃ j : Nat, j ≤ n ∧ i = .int .i64 j ∧ Own0 w (Sep (VolH b mb vu) (DkH db d)) wr) (fun i _ => n - (intOf i).toNat)
          case atStart => exact ⟨0, by omega, rfl, Ho6.out⟩
          case round =>
            obtain ⟨j, hj, rfl, hoj⟩ := hrel
            obtain ⟨dv, pv, hd⟩ := own0_dk3 hoj
            obtain ⟨po, pc, rfl⟩ := own_form hd.dur
            obtain ⟨qo, qc, rfl⟩ := own_form hd.pend
            have hc := cell_of hd.blk
            simp only [dcells] at hc
            have Hoj := Lib.hid hoj
            have Hd := Lib.hid hd
            rw [Hdl.out] at hc
            clear hoj hd
            by_cases hjl : j < n
            · have hrd := read_m b mb vu j (by rw [Hup.out]; simp)
              rw [read_flat3 Hup.out Hud.out j (by rw [Hus.out]; omega)] at hrd
              have Hrd := Lib.hid hrd
              clear hrd
              go_wp2_with fail
              refine (Hrd.out.L (dkH_stab db d) |>.own Hoj.out).mono ?_
              rintro e wc ⟨rfl, hoc⟩
              obtain ⟨dv, pv, hd⟩ := own0_dk3 hoc
              obtain ⟨po, pc, rfl⟩ := own_form hd.dur
              obtain ⟨qo, qc, rfl⟩ := own_form hd.pend
              have hc := cell_of hd.blk
              simp only [dcells] at hc
              obtain ⟨g, rfl, hgc, hgl, _⟩ := hd.durElem j (by rw [Hdl.out]; exact hjl)
              have hjd : j < d.dur.length := by rw [Hdl.out]; exact hjl
              rw [List.getElem?_eq_getElem hjd] at hgc
              simp only [Option.getD_some] at hgc
              obtain ⟨hs128, hlaw⟩ := Hlaw.out j hjd
              have Hx128 : Hid ((d.dur[j]).size = 128) := Hdz.out _ (List.getElem_mem hjd)
              have Hlw := Lib.hid hlaw
              have Hoc := Lib.hid hoc
              have Hel := Lib.hid (fun k hk => hd.pendElem k hk)
              rw [Hdl.out] at hc
              clear hoc Hrd hd hlaw
              generalize vDur vu j = s at *
              generalize d.dur[j] = x at *
              clear hjd
              generalize d.pend = l at *
              have hx128 := Hx128.out
              have hs1 : ((s.size : Int) != 128) = false := by rw [hs128]; rfl
              have hx3 : 128 ≤ x.size := by omega
              have hs3 : 128 ≤ s.size := by omega
              clear hs128 hx128
              go_wp2_with fail
              go_loopw [14] (fun i wr => ∃ q : Nat, q ≤ 4 ∧ i = .int .i64 ((32 * q : Nat) : Int) ∧ ∃ m, wr = wc.drewN m) (fun i _ => 128 - (intOf i).toNat)
              case atStart => exact ⟨0, by omega, rfl, 0, rfl⟩
              case round =>
                obtain ⟨q, hq, rfl, m0, rfl⟩ := hrel
                by_cases hq4 : q < 4
                · have hlt : (32 * q : Nat) < 128 := by omega
                  have Hfx := Lib.hid (Hlw.out q hq4)
                  have hle : 32 * q + 32 ≤ 128 := by omega
                  have hq32 : ∃ y, 32 * q = y := ⟨_, rfl⟩
                  obtain ⟨y, hy⟩ := hq32
                  rw [hy] at hlt Hfx hle ⊢
                  go_wp2_with fail
                  go_quiet (fail)
                  go_wp2_with fail
                  rw [str_eq, ← fndK_zero x s j y l]
                  go_loopw [15, 16] (fun f i wr => ∃ t : Nat, t ≤ l.length ∧ i = .int .i64 t ∧ f = .bool (fndK x s j y l t) ∧ ∃ m, wr = wc.drewN m) (fun _ i _ => l.length - (intOf i).toNat)
                  case atStart => exact ⟨0, by omega, rfl, rfl, _, World.drewN_drewN _ _ _⟩
                  case round =>
                    obtain ⟨t, ht, rfl, rfl, m1, rfl⟩ := hrel
                    have hl4 := Hpe.out
                    by_cases htl : t < l.length
                    · obtain ⟨qb, rfl, e1, e2, _⟩ := Hel.out t htl
                      have hst := fndK_succ x s j y l t htl
                      have hp128 := Hpz.out _ (List.getElem_mem htl)
                      have hp3 : 128 ≤ (l[t]).2.size := by omega
                      have Hst := Lib.hid hst
                      clear hst hp128
                      generalize hpv : l[t] = p at *
                      generalize fndK x s j y l t = f at *
                      cases f
                      · by_cases hps : p.1 = (j : Int)
                        · have hpe : (p.1 == (j : Int)) = true := by rw [beq_iff_eq]; exact hps
                          have hpd : decide (p.1 = (j : Int)) = true := by simpa using hps
                          rw [hpd] at Hst
                          go_wp2_with fail
                          go_quiet (fail)
                          go_wp2_with fail
                          go_roundw
                          case rel => exact ⟨t + 1, by omega, by go_num, by rw [Hst.out, str_eq]; rfl, _, rfl⟩
                          case measure => simp [intOf]; omega
                        · have hpe : (p.1 == (j : Int)) = false := by rw [beq_eq_false_iff_ne]; exact hps
                          have hpd : decide (p.1 = (j : Int)) = false := by simpa using hps
                          rw [hpd] at Hst
                          go_wp2_with fail
                          go_quiet (fail)
                          go_wp2_with fail
                          go_roundw
                          case rel => exact ⟨t + 1, by omega, by go_num, by rw [Hst.out]; rfl, _, rfl⟩
                          case measure => simp [intOf]; omega
                      · go_wp2_with fail
                        go_quiet (fail)
                        go_wp2_with fail
                        go_roundw
                        case rel => exact ⟨t + 1, by omega, by go_num, by rw [Hst.out]; rfl, _, rfl⟩
                        case measure => simp [intOf]; omega
                    · obtain rfl : t = l.length := by omega
                      have hff := Hfx.out
                      rw [hff]
                      go_wp2_with fail
                      go_roundw
                      case rel => exact ⟨q + 1, by omega, by rw [show 32 * (q + 1) = y + 32 by omega]; rfl, _, rfl⟩
                      case measure => simp [intOf]; omega
                · obtain rfl : q = 4 := by omega
                  go_wp2_with fail
                  go_roundw
                  case rel => exact ⟨j + 1, by omega, by go_num, Hoc.out.keep ((volH_stab _ _ _).sep (dkH_stab _ _)) (Keep.drewN [] _ _)⟩
                  case measure => simp [intOf]; omega
            · obtain rfl : j = n := by omega
              have hpl : vu.pend.length = 0 := by rw [Hup.out]; rfl
              have hpo := pending_o (dkH_stab db d) Hoj.out (by omega)
              rw [hpl] at hpo
              have Hpo := Lib.hid hpo
              clear hpo
              go_wp2_with fail
              refine Hpo.out.mono ?_
              rintro e wc ⟨zo, zc, rfl, hoc⟩
              have hdn := (down_m b mb vu).L (dkH_stab db d) |>.L (intH_stab _ _) |>.own hoc
              rw [Hud.out] at hdn
              have Hdn := Lib.hid hdn
              clear hdn hoc Hpo
              go_wp2_with fail
              refine Hdn.out.mono ?_
              rintro e wd ⟨rfl, hod⟩
              have Hod := Lib.hid hod
              clear hod Hdn
              go_wp2_with fail
              go_returns
              exact ⟨rfl, Hod.out.below⟩
        · have hd2 : decide ((k : Int) < 40) = false := by simp; omega
          have hlk : k < os.length := by simpa using hd1
          go_wp2_with fail
          refine (((crash_m b mb v).L (dkH_stab db d)) |>.own Hv0.out).mono ?_
          rintro e w5 ⟨rfl, ho5⟩
          try clear hd2
          clear hd1 hge
          have hms : MetAt Try.prog 22 #[.pointer (some ⟨b, 0, none⟩), .slice to zs.length tc] (.tuple #[]) (VolH b mb { v with down := true }) (VolH b mb (vStart { v with down := true } zs)) w5 w.heap.size := fun F hF _ =>
            start_m b mb { v with down := true } _ zs Hpr.out (by omega) Hvp.out _ F hF (Hz.out _ ho5)
          have Hms := Lib.hid hms
          have Ho5 := Lib.hid ho5
          clear hms ho5
          go_wp2_with fail
          refine ((Hms.out.L (dkH_stab db d)).own Ho5.out).mono ?_
          rintro e w6 ⟨rfl, ho6⟩
          have Ho6 := Lib.hid ho6
          have Hus : Hid ((vStart { v with down := true } zs).sectors = n) := (show (vStart { v with down := true } zs).sectors = v.sectors from (vStartL_rest zs v.pend { v with down := true } 0).2).trans Hsec.out
          have Hud : Hid ((vStart { v with down := true } zs).down = false) := rfl
          have Hup : Hid ((vStart { v with down := true } zs).pend = []) := rfl
          clear ho6 Hms Ho5 Hv0 Hpr Hvp Hsec
          generalize vStart { v with down := true } zs = vu at *
          go_wp2_with fail
          go_loopw [11] (fun i wr => ∃ j : Nat, j ≤ n ∧ i = .int .i64 j ∧ Own0 w (Sep (VolH b mb vu) (DkH db d)) wr) (fun i _ => n - (intOf i).toNat)
          case atStart => exact ⟨0, by omega, rfl, Ho6.out⟩
          case round =>
            obtain ⟨j, hj, rfl, hoj⟩ := hrel
            obtain ⟨dv, pv, hd⟩ := own0_dk3 hoj
            obtain ⟨po, pc, rfl⟩ := own_form hd.dur
            obtain ⟨qo, qc, rfl⟩ := own_form hd.pend
            have hc := cell_of hd.blk
            simp only [dcells] at hc
            have Hoj := Lib.hid hoj
            have Hd := Lib.hid hd
            rw [Hdl.out] at hc
            clear hoj hd
            by_cases hjl : j < n
            · have hrd := read_m b mb vu j (by rw [Hup.out]; simp)
              rw [read_flat3 Hup.out Hud.out j (by rw [Hus.out]; omega)] at hrd
              have Hrd := Lib.hid hrd
              clear hrd
              go_wp2_with fail
              refine (Hrd.out.L (dkH_stab db d) |>.own Hoj.out).mono ?_
              rintro e wc ⟨rfl, hoc⟩
              obtain ⟨dv, pv, hd⟩ := own0_dk3 hoc
              obtain ⟨po, pc, rfl⟩ := own_form hd.dur
              obtain ⟨qo, qc, rfl⟩ := own_form hd.pend
              have hc := cell_of hd.blk
              simp only [dcells] at hc
              obtain ⟨g, rfl, hgc, hgl, _⟩ := hd.durElem j (by rw [Hdl.out]; exact hjl)
              have hjd : j < d.dur.length := by rw [Hdl.out]; exact hjl
              rw [List.getElem?_eq_getElem hjd] at hgc
              simp only [Option.getD_some] at hgc
              obtain ⟨hs128, hlaw⟩ := Hlaw.out j hjd
              have Hx128 : Hid ((d.dur[j]).size = 128) := Hdz.out _ (List.getElem_mem hjd)
              have Hlw := Lib.hid hlaw
              have Hoc := Lib.hid hoc
              have Hel := Lib.hid (fun k hk => hd.pendElem k hk)
              rw [Hdl.out] at hc
              clear hoc Hrd hd hlaw
              generalize vDur vu j = s at *
              generalize d.dur[j] = x at *
              clear hjd
              generalize d.pend = l at *
              have hx128 := Hx128.out
              have hs1 : ((s.size : Int) != 128) = false := by rw [hs128]; rfl
              have hx3 : 128 ≤ x.size := by omega
              have hs3 : 128 ≤ s.size := by omega
              clear hs128 hx128
              go_wp2_with fail
              go_loopw [14] (fun i wr => ∃ q : Nat, q ≤ 4 ∧ i = .int .i64 ((32 * q : Nat) : Int) ∧ ∃ m, wr = wc.drewN m) (fun i _ => 128 - (intOf i).toNat)
              case atStart => exact ⟨0, by omega, rfl, 0, rfl⟩
              case round =>
                obtain ⟨q, hq, rfl, m0, rfl⟩ := hrel
                by_cases hq4 : q < 4
                · have hlt : (32 * q : Nat) < 128 := by omega
                  have Hfx := Lib.hid (Hlw.out q hq4)
                  have hle : 32 * q + 32 ≤ 128 := by omega
                  have hq32 : ∃ y, 32 * q = y := ⟨_, rfl⟩
                  obtain ⟨y, hy⟩ := hq32
                  rw [hy] at hlt Hfx hle ⊢
                  go_wp2_with fail
                  go_quiet (fail)
                  go_wp2_with fail
                  rw [str_eq, ← fndK_zero x s j y l]
                  go_loopw [15, 16] (fun f i wr => ∃ t : Nat, t ≤ l.length ∧ i = .int .i64 t ∧ f = .bool (fndK x s j y l t) ∧ ∃ m, wr = wc.drewN m) (fun _ i _ => l.length - (intOf i).toNat)
                  case atStart => exact ⟨0, by omega, rfl, rfl, _, World.drewN_drewN _ _ _⟩
                  case round =>
                    obtain ⟨t, ht, rfl, rfl, m1, rfl⟩ := hrel
                    have hl4 := Hpe.out
                    by_cases htl : t < l.length
                    · obtain ⟨qb, rfl, e1, e2, _⟩ := Hel.out t htl
                      have hst := fndK_succ x s j y l t htl
                      have hp128 := Hpz.out _ (List.getElem_mem htl)
                      have hp3 : 128 ≤ (l[t]).2.size := by omega
                      have Hst := Lib.hid hst
                      clear hst hp128
                      generalize hpv : l[t] = p at *
                      generalize fndK x s j y l t = f at *
                      cases f
                      · by_cases hps : p.1 = (j : Int)
                        · have hpe : (p.1 == (j : Int)) = true := by rw [beq_iff_eq]; exact hps
                          have hpd : decide (p.1 = (j : Int)) = true := by simpa using hps
                          rw [hpd] at Hst
                          go_wp2_with fail
                          go_quiet (fail)
                          go_wp2_with fail
                          go_roundw
                          case rel => exact ⟨t + 1, by omega, by go_num, by rw [Hst.out, str_eq]; rfl, _, rfl⟩
                          case measure => simp [intOf]; omega
                        · have hpe : (p.1 == (j : Int)) = false := by rw [beq_eq_false_iff_ne]; exact hps
                          have hpd : decide (p.1 = (j : Int)) = false := by simpa using hps
                          rw [hpd] at Hst
                          go_wp2_with fail
                          go_quiet (fail)
                          go_wp2_with fail
                          go_roundw
                          case rel => exact ⟨t + 1, by omega, by go_num, by rw [Hst.out]; rfl, _, rfl⟩
                          case measure => simp [intOf]; omega
                      · go_wp2_with fail
                        go_quiet (fail)
                        go_wp2_with fail
                        go_roundw
                        case rel => exact ⟨t + 1, by omega, by go_num, by rw [Hst.out]; rfl, _, rfl⟩
                        case measure => simp [intOf]; omega
                    · obtain rfl : t = l.length := by omega
                      have hff := Hfx.out
                      rw [hff]
                      go_wp2_with fail
                      go_roundw
                      case rel => exact ⟨q + 1, by omega, by rw [show 32 * (q + 1) = y + 32 by omega]; rfl, _, rfl⟩
                      case measure => simp [intOf]; omega
                · obtain rfl : q = 4 := by omega
                  go_wp2_with fail
                  go_roundw
                  case rel => exact ⟨j + 1, by omega, by go_num, Hoc.out.keep ((volH_stab _ _ _).sep (dkH_stab _ _)) (Keep.drewN [] _ _)⟩
                  case measure => simp [intOf]; omega
            · obtain rfl : j = n := by omega
              have hpl : vu.pend.length = 0 := by rw [Hup.out]; rfl
              have hpo := pending_o (dkH_stab db d) Hoj.out (by omega)
              rw [hpl] at hpo
              have Hpo := Lib.hid hpo
              clear hpo
              go_wp2_with fail
              refine Hpo.out.mono ?_
              rintro e wc ⟨zo, zc, rfl, hoc⟩
              have hdn := (down_m b mb vu).L (dkH_stab db d) |>.L (intH_stab _ _) |>.own hoc
              rw [Hud.out] at hdn
              have Hdn := Lib.hid hdn
              clear hdn hoc Hpo
              go_wp2_with fail
              refine Hdn.out.mono ?_
              rintro e wd ⟨rfl, hod⟩
              have Hod := Lib.hid hod
              clear hod Hdn
              go_wp2_with fail
              go_returns
              exact ⟨rfl, Hod.out.below⟩
  · have hz50' : 50 < zs.length := by omega
    go_enter Try.func8, Try.ntmps8
    go_wp2_with fail
    refine (Hs.out _).mono ?_
    rintro e w1 ⟨rfl, rfl⟩
    go_wp2_with fail
    refine (new_o n w (by omega) (by omega)).mono ?_
    rintro e w1 ⟨rfl, hv1, hk1⟩
    have O1 := Lib.hid (Own0.first (w0 := w) hv1 (by simp) hk1)
    clear hv1 hk1
    generalize w.heap.size + 1 = b at *
    generalize hmb : w.heap.size = mb at *
    have Hmb := Lib.hid hmb
    clear hmb
    go_wp2_with fail
    refine (known_c w1).mono ?_
    rintro e w2 ⟨rfl, hb2⟩
    have O2 := Lib.hid (keepOwn (volH_stab _ _ _) O1.out hb2)
    clear hb2 O1
    go_wp2_with fail
    refine (known_c w2).mono ?_
    rintro e w3 ⟨rfl, hb3⟩
    have O3 := Lib.hid (keepOwn (volH_stab _ _ _) O2.out hb3)
    clear hb3 O2
    go_wp2_with fail
    go_returns
    exact ⟨rfl, O3.out.below⟩
/-! ### frame -/
open Go.ChangeShapes Go.WideShapes Go.ChangeAt
open Go.ChangeMaps (open_string shut_string)
theorem volumeBlocks_walk (a0 : Int) (w0 : (Lit.int .u8 a0).wf = true) (v1 : Value) (v2 : Value) (w : World) (m1 : OpsArg w v1) (m2 : BytesArg w v2) :
    Calls Try.prog 8 #[.int .u8 a0, v1, v2] w fun e w' => e = .returned (.bool true) ∧ Below w.heap.size w w' := by
  obtain ⟨os, h⟩ := m1
  obtain ⟨zs, hz, hl⟩ := m2
  exact blocks a0 v1 v2 os zs (Go.bounds_u8 w0) w h hz hl
theorem volumeBlocks_own : ownKnob Try.prog.godebug = none := by kernel_rfl
theorem volumeBlocks_laidOut : laidOutB Try.prog = true := by kernel_rfl
set_option maxRecDepth 100000 in
theorem volumeBlocks_lifted (os : Os) (started : os.Started) (H : Type) (enc : TypeId × Value → H) :
    ReturnsInHanded {} Try.checked os 8 .any (Rows.volumeBlocksSpec.pre6 enc Try.prog Try.f8 Rows.volumeBlocksRow.domain false) (Rows.volumeBlocksSpec.post enc Try.prog Try.f8 false true false false) := by
  refine returnsInHanded_of_change (C := Try.checked) volumeBlocks_own started (by kernel_rfl) Try.func8
    (ChangeSpec.witness6 (enc := enc) (C := Try.checked) false ⟨#[], #[.int .u8 0, .slice none 0 0, .slice none 0 0], []⟩ 8 (by kernel_rfl) (by kernel_rfl) (by kernel_rfl) (by kernel_rfl)) ?_
  intro W base args ds gs before hval0 hW hcnd _
  have hval : ∀ (j : Nat) t v, Try.f8.params[j]? = some t → args[j]? = some v → Value.okWide Try.prog W .any base t v := hval0
  have hW' := hW
  obtain ⟨p, q, hA0, hV, rfl, hfz, hnd⟩ := hW
  have hA : DataW.TrodAll enc Try.prog W 0 (fun _ => true) true Try.f8.params.toList args.toList ds p := hA0
  rw [Try.params8] at hA hval
  obtain ⟨v0, vs0, d0, ds0, p0, q0, hargs, rfl, rfl, h0, r0⟩ := trodAll_cons hA
  obtain ⟨v1, vs1, d1, ds1, p1, q1, rfl, rfl, rfl, h1, r1⟩ := trodAll_cons r0
  obtain ⟨v2, vs2, d2, ds2, p2, q2, rfl, rfl, rfl, h2, r2⟩ := trodAll_cons r1
  obtain ⟨rfl, rfl, rfl⟩ := trodAll_nil r2
  obtain rfl : args = #[v0, v1, v2] := by cases args; simp_all
  obtain ⟨rfl, rfl⟩ := trodVars_none hV
  have k0 := h0
  have lt0 : ∀ x ∈ p0, x.block < W.heap.size := by obtain ⟨m, hm⟩ := k0; exact DataW.trod_lt m _ _ _ hm
  have k1 := h1
  have lt1 : ∀ x ∈ p1, x.block < W.heap.size := by obtain ⟨m, hm⟩ := k1; exact DataW.trod_lt m _ _ _ hm
  have k2 := h2
  have lt2 : ∀ x ∈ p2, x.block < W.heap.size := by obtain ⟨m, hm⟩ := k2; exact DataW.trod_lt m _ _ _ hm
  obtain ⟨a0, rfl, rfl, rfl, w0⟩ := open_int Try.underlying5 (hval 0 5 v0 rfl rfl) h0
  have m1 : OpsArg W v1 := OpsArg_open (hval 1 26 v1 rfl rfl) h1
  have m2 : BytesArg W v2 := BytesArg_open (hval 2 36 v2 rfl rfl) h2
  clear hA0 hval0
  refine (volumeBlocks_walk a0 w0 v1 v2 W m1 m2).mono fun e W' ⟨he, bel⟩ => ?_
  subst he
  exact ⟨_, rfl, _, _, _, [], _, [], hW', trodAll_mk1 (shut_bool Try.underlying4 _), (trodAll_cons_mk (Below.trod volumeBlocks_laidOut (by kernel_rfl) (of_decide_eq_true (by kernel_rfl)) k0 bel lt0) (trodAll_cons_mk (Below.trod volumeBlocks_laidOut (by kernel_rfl) (of_decide_eq_true (by kernel_rfl)) k1 bel lt1) (trodAll_cons_mk (Below.trod volumeBlocks_laidOut (by kernel_rfl) (of_decide_eq_true (by kernel_rfl)) k2 bel lt2) trodAll_mk0))), rfl, bel.frame _, fun h => by cases h⟩
theorem volumeBlocks_over : Rows.volumeBlocksRow.holds Try.pinned (OpenSpec.ofChange Rows.volumeBlocksSpec) :=
  OpenClaim.holds_of_wide 8 Try.f8 rfl rfl rfl rfl rfl rfl rfl ⟨rfl, rfl, rfl, rfl, rfl⟩ rfl rfl rfl rfl rfl (by kernel_rfl) Try.func8 (by kernel_rfl)
    (of_decide_eq_true (by kernel_rfl)) (by unfold Func.isWrapper; first | (rw [if_pos (by decide +kernel)]; kernel_rfl) | (rw [if_neg (by decide +kernel)]; exact ⟨rfl, rfl⟩))
    (fun os started H enc _ => volumeBlocks_lifted os started H enc)
/-- The statement. -/
theorem volumeBlocks_proved : Rows.VolumeBlocksSaid := volumeBlocks_over
#print axioms volumeBlocks_proved
end Go.Proofs.Ytombldjaipcloaa
