/- A device that says the same as its model agrees with it. -/
import Derived.Test.YtombldjaipcloaaPe
set_option linter.unusedVariables false
set_option linter.unusedSimpArgs false
namespace Go.Proofs.Ytombldjaipcloaa
open Go.RowKit
theorem VolAt.keep0 {w w' : World} {b mb : Nat} {pv : Value} {v : Vol} (h : VolAt w b mb pv v) (hk : Keep [] w w') : VolAt w' b mb pv v := h.keep hk (by simp) (by simp) (by simp)
theorem DkAt.keep0 {w w' : World} {b : Nat} {dv pv : Value} {d : Dk} (h : DkAt w b dv pv d) (hk : Keep [] w w') : DkAt w' b dv pv d := h.keep hk (by simp)
theorem Keep.trans0 {a b c : World} (h : Keep [] a b) (k : Keep [] b c) : Keep [] a c := h.trans k (by simp)
theorem intRow_get {w : World} {base : Nat} {po : Option Addr} {n pc : Nat} {zs : List Int} (h : w.ownsRow base 3 1 (.slice po n pc) zs.length (zs.map (Value.int .i64))) (k : Nat) (hk : k < zs.length) :
    ∃ g, po = some ⟨g, 0, none⟩ ∧ w.cell? ⟨g, k, none⟩ = some (.int .i64 zs[k]) ∧ g < w.heap.size := by
  obtain ⟨g, cap, hv, hc, hg, _⟩ := own_cells (ownsRow_base0 h) (by omega)
  injection hv with h1 _ _
  exact ⟨g, h1, by rw [hc k (by omega)]; simp [List.getElem?_eq_getElem hk], hg⟩
theorem quiet_of_eq {P : Program} {f : FuncId} {args : Array Value} {w : World} {n : Nat} {v : Value}
    (h : Calls P f args (w.drewN n) fun e w' => e = .returned v ∧ w.drewN n = w') : Calls P f args (w.drewN n) fun e w'' => e = .returned v ∧ ∃ m, w'' = w.drewN m :=
  h.mono fun _ _ ⟨he, hm⟩ => ⟨he, n, hm.symm⟩
set_option maxRecDepth 100000 in
set_option maxHeartbeats 4000000 in
theorem agrees_c (w : World) (b mb db : Nat) (vp dv pv : Value) (v : Vol) (d : Dk) (hv : VolAt w b mb vp v) (hd : DkAt w db dv pv d) (hc : Corr v d) (hl : v.pend.length ≤ 4096) (hn : d.dur.length ≤ 65536) :
    Calls Try.prog 32 #[.pointer (some ⟨db, 0, none⟩), .pointer (some ⟨b, 0, none⟩)] w fun e w' => e = .returned (.bool true) ∧ Keep [] w w' := by
  have Hv := Lib.hid hv
  obtain ⟨dur, pend, limited, down, limit, writes, barriers⟩ := d
  obtain rfl : pend = v.pend := hc.pend
  obtain rfl : limited = v.limited := hc.lim
  obtain rfl : down = v.down := hc.down
  obtain rfl : limit = v.left := hc.left
  obtain rfl : writes = v.writes := hc.writes
  obtain rfl : barriers = v.barriers := hc.barriers
  have Hd := Lib.hid hd
  have Hc := Lib.hid hc
  have Hl := Lib.hid hl
  have Hn : Hid (dur.length ≤ 65536) := hn
  have h1 : (v.sectors != (dur.length : Int)) = false := by rw [hc.len]; simp
  obtain ⟨po, pc, rfl⟩ := own_form hd.dur
  obtain ⟨qo, qc, rfl⟩ := own_form hd.pend
  by_cases hdn : v.down = true
  · skip
    clear hv hd hc hl hn
    go_enter Try.func32, Try.ntmps32
    go_wp2_with fail
    refine (counts_c w b mb vp v Hv.out).mono ?_
    rintro e w1 ⟨rfl, hk1⟩
    have Hk1 := Lib.hid hk1
    clear hk1
    go_wp2_with fail
    refine (pending_c w1 b mb vp v (Hv.out.keep0 Hk1.out) Hl.out).mono ?_
    rintro e w2 ⟨⟨o, rfl, hrow⟩, hk2⟩
    have hrow' := hrow
    rw [List.length_map] at hrow'
    obtain ⟨ro, rc, rfl⟩ := own_form (ownsRow_base0 hrow')
    have Hrow := Lib.hid hrow
    have Hk2 : Hid (Keep [] w w2) := Hk1.out.trans0 hk2
    clear hrow hrow' hk2 Hk1
    have Hd2 := Lib.hid (Hd.out.keep0 Hk2.out)
    have Hv2 := Lib.hid (Hv.out.keep0 Hk2.out)
    have hdc := fun m => down_c (w2.drewN m) b mb vp v (Hv2.out.keep0 (Keep.drewN _ _ _))
    rw [hdn] at hdc
    have Hdc := Lib.hid hdc
    clear hdc
    have hb2 := cell_of Hd2.out.blk
    simp only [dcells] at hb2
    go_wp2_with fail
    go_quiet (first | (go_at_call 31; exact quiet_of_eq (len_c _ b mb vp v (Hv2.out.keep0 (Keep.drewN _ _ _)))) | (go_at_call 29; exact quiet_of_eq (Hdc.out _)))
    go_wp2_with fail
    go_loopw [8] (fun i wr => ∃ k : Nat, k ≤ v.pend.length ∧ i = .int .i64 k ∧ ∃ m, wr = w2.drewN m) (fun i _ => v.pend.length - (intOf i).toNat)
    case atStart => exact ⟨0, by omega, rfl, _, rfl⟩
    case round =>
      obtain ⟨k, hk, rfl, m, rfl⟩ := hrel
      have hl4 := Hl.out
      by_cases hlt : k < v.pend.length
      · obtain ⟨g, rfl, e1, hg⟩ := intRow_get Hrow.out k (by rw [List.length_map]; exact hlt)
        obtain ⟨q, rfl, e2, _, hq⟩ := Hd2.out.pendElem k hlt
        rw [List.getElem_map] at e1
        dsimp only at e2
        generalize v.pend[k] = p at *
        go_wp2_with fail
        go_quiet (fail)
        go_wp2_with fail
        go_roundw
        case rel => exact ⟨k + 1, by omega, by go_num, _, rfl⟩
        case measure => simp [intOf]; omega
      · obtain rfl : k = v.pend.length := by omega
        have Hk3 : Hid (Keep [] w (w2.drewN m)) := Hk2.out.trans0 (Keep.drewN _ _ _)
        clear hb2 Hd2 Hv2 Hrow Hk2
        generalize w2.drewN m = w3 at *
        clear hk hlt
        go_wp2_with fail
        go_loopw [9] (fun i wr => ∃ k : Nat, k ≤ dur.length ∧ i = .int .i64 k ∧ Keep [] w wr) (fun i _ => dur.length - (intOf i).toNat)
        case atStart => exact ⟨0, by omega, rfl, Hk3.out⟩
        case round =>
          obtain ⟨k, hk, rfl, hkr⟩ := hrel
          have Hkr := Lib.hid hkr
          have Hdr := Lib.hid (Hd.out.keep0 hkr)
          have hbr := cell_of Hdr.out.blk
          simp only [dcells] at hbr
          have hn6 := Hn.out
          clear hkr
          by_cases hlt : k < dur.length
          · have hsec : (k : Int) < v.sectors := by rw [Hc.out.len]; exact Int.ofNat_lt.2 hlt
            have hdr := durable_c wr b mb vp v k (Hv.out.keep0 Hkr.out) (by omega) hsec
            rw [Hc.out.dur k hlt] at hdr
            have Hdu := Lib.hid hdr
            clear hdr
            dsimp only at Hdu
            go_wp2_with fail
            refine Hdu.out.mono ?_
            rintro e w4 ⟨rfl, hk4⟩
            obtain ⟨g, rfl, e1, _, _⟩ := (Hdr.out.keep0 hk4).durElem k hlt
            have hb4 := cell_of (Hdr.out.keep0 hk4).blk
            simp only [dcells] at hb4
            dsimp only at e1
            rw [List.getElem?_eq_getElem hlt, Option.getD_some] at e1
            have Hk4 : Hid (Keep [] w w4) := Hkr.out.trans0 hk4
            have hrd := read_c w4 b mb vp v k (Hv.out.keep0 Hk4.out) Hl.out
            have hct := fun w5 (h5 : Keep [] w w5) => content_c w5 db _ _ _ k hlt Hl.out Hn.out (Hd.out.keep0 h5)
            have hrv : vRead v k = if v.down then (⟨#[]⟩, 20) else (dCont ⟨dur, v.pend, v.limited, v.down, v.left, v.writes, v.barriers⟩ k, 0) := by
              unfold vRead
              by_cases hdn : v.down = true
              · rw [if_pos hdn, if_pos hdn]
              · rw [if_neg hdn, if_neg hdn, if_neg (by omega), corr_read Hc.out k hlt]
            have Hct := Lib.hid hct
            generalize dCont ⟨dur, v.pend, v.limited, v.down, v.left, v.writes, v.barriers⟩ k = y at *
            have hyy : (y.toList != y.toList) = false := by simp
            rw [hrv] at hrd
            have Hrd := Lib.hid hrd
            clear hrd hct hk4 hbr Hdu hrv Hdr
            generalize hx : dur[k] = x at *
            have hxx : (x.toList != x.toList) = false := by simp
            rw [if_pos hdn] at Hrd
            go_wp2_with fail
            refine Hrd.out.mono ?_
            rintro e w5 ⟨rfl, hk5⟩
            have Hk5 : Hid (Keep [] w w5) := Hk4.out.trans0 hk5
            have hb5 := cell_of (Hd.out.keep0 Hk5.out).blk
            simp only [dcells] at hb5
            have Hct5 := Lib.hid (Hct.out w5 Hk5.out)
            clear hk5 Hrd hb4 e1 Hct Hk4
            go_wp2_with fail
            go_roundw
            case rel => exact ⟨k + 1, by omega, by go_num, Hk5.out⟩
            case measure => simp [intOf]; omega
          · obtain rfl : k = dur.length := by omega
            go_wp2_with fail
            go_returns
            exact ⟨rfl, Hkr.out⟩
  · have hnt := hdn
    have hdn : v.down = false := by simpa using hnt
    clear hv hd hc hl hn
    go_enter Try.func32, Try.ntmps32
    go_wp2_with fail
    refine (counts_c w b mb vp v Hv.out).mono ?_
    rintro e w1 ⟨rfl, hk1⟩
    have Hk1 := Lib.hid hk1
    clear hk1
    go_wp2_with fail
    refine (pending_c w1 b mb vp v (Hv.out.keep0 Hk1.out) Hl.out).mono ?_
    rintro e w2 ⟨⟨o, rfl, hrow⟩, hk2⟩
    have hrow' := hrow
    rw [List.length_map] at hrow'
    obtain ⟨ro, rc, rfl⟩ := own_form (ownsRow_base0 hrow')
    have Hrow := Lib.hid hrow
    have Hk2 : Hid (Keep [] w w2) := Hk1.out.trans0 hk2
    clear hrow hrow' hk2 Hk1
    have Hd2 := Lib.hid (Hd.out.keep0 Hk2.out)
    have Hv2 := Lib.hid (Hv.out.keep0 Hk2.out)
    have hdc := fun m => down_c (w2.drewN m) b mb vp v (Hv2.out.keep0 (Keep.drewN _ _ _))
    rw [hdn] at hdc
    have Hdc := Lib.hid hdc
    clear hdc
    have hb2 := cell_of Hd2.out.blk
    simp only [dcells] at hb2
    go_wp2_with fail
    go_quiet (first | (go_at_call 31; exact quiet_of_eq (len_c _ b mb vp v (Hv2.out.keep0 (Keep.drewN _ _ _)))) | (go_at_call 29; exact quiet_of_eq (Hdc.out _)))
    go_wp2_with fail
    go_loopw [8] (fun i wr => ∃ k : Nat, k ≤ v.pend.length ∧ i = .int .i64 k ∧ ∃ m, wr = w2.drewN m) (fun i _ => v.pend.length - (intOf i).toNat)
    case atStart => exact ⟨0, by omega, rfl, _, rfl⟩
    case round =>
      obtain ⟨k, hk, rfl, m, rfl⟩ := hrel
      have hl4 := Hl.out
      by_cases hlt : k < v.pend.length
      · obtain ⟨g, rfl, e1, hg⟩ := intRow_get Hrow.out k (by rw [List.length_map]; exact hlt)
        obtain ⟨q, rfl, e2, _, hq⟩ := Hd2.out.pendElem k hlt
        rw [List.getElem_map] at e1
        dsimp only at e2
        generalize v.pend[k] = p at *
        go_wp2_with fail
        go_quiet (fail)
        go_wp2_with fail
        go_roundw
        case rel => exact ⟨k + 1, by omega, by go_num, _, rfl⟩
        case measure => simp [intOf]; omega
      · obtain rfl : k = v.pend.length := by omega
        have Hk3 : Hid (Keep [] w (w2.drewN m)) := Hk2.out.trans0 (Keep.drewN _ _ _)
        clear hb2 Hd2 Hv2 Hrow Hk2
        generalize w2.drewN m = w3 at *
        clear hk hlt
        go_wp2_with fail
        go_loopw [9] (fun i wr => ∃ k : Nat, k ≤ dur.length ∧ i = .int .i64 k ∧ Keep [] w wr) (fun i _ => dur.length - (intOf i).toNat)
        case atStart => exact ⟨0, by omega, rfl, Hk3.out⟩
        case round =>
          obtain ⟨k, hk, rfl, hkr⟩ := hrel
          have Hkr := Lib.hid hkr
          have Hdr := Lib.hid (Hd.out.keep0 hkr)
          have hbr := cell_of Hdr.out.blk
          simp only [dcells] at hbr
          have hn6 := Hn.out
          clear hkr
          by_cases hlt : k < dur.length
          · have hsec : (k : Int) < v.sectors := by rw [Hc.out.len]; exact Int.ofNat_lt.2 hlt
            have hdr := durable_c wr b mb vp v k (Hv.out.keep0 Hkr.out) (by omega) hsec
            rw [Hc.out.dur k hlt] at hdr
            have Hdu := Lib.hid hdr
            clear hdr
            dsimp only at Hdu
            go_wp2_with fail
            refine Hdu.out.mono ?_
            rintro e w4 ⟨rfl, hk4⟩
            obtain ⟨g, rfl, e1, _, _⟩ := (Hdr.out.keep0 hk4).durElem k hlt
            have hb4 := cell_of (Hdr.out.keep0 hk4).blk
            simp only [dcells] at hb4
            dsimp only at e1
            rw [List.getElem?_eq_getElem hlt, Option.getD_some] at e1
            have Hk4 : Hid (Keep [] w w4) := Hkr.out.trans0 hk4
            have hrd := read_c w4 b mb vp v k (Hv.out.keep0 Hk4.out) Hl.out
            have hct := fun w5 (h5 : Keep [] w w5) => content_c w5 db _ _ _ k hlt Hl.out Hn.out (Hd.out.keep0 h5)
            have hrv : vRead v k = if v.down then (⟨#[]⟩, 20) else (dCont ⟨dur, v.pend, v.limited, v.down, v.left, v.writes, v.barriers⟩ k, 0) := by
              unfold vRead
              by_cases hdn : v.down = true
              · rw [if_pos hdn, if_pos hdn]
              · rw [if_neg hdn, if_neg hdn, if_neg (by omega), corr_read Hc.out k hlt]
            have Hct := Lib.hid hct
            generalize dCont ⟨dur, v.pend, v.limited, v.down, v.left, v.writes, v.barriers⟩ k = y at *
            have hyy : (y.toList != y.toList) = false := by simp
            rw [hrv] at hrd
            have Hrd := Lib.hid hrd
            clear hrd hct hk4 hbr Hdu hrv Hdr
            generalize hx : dur[k] = x at *
            have hxx : (x.toList != x.toList) = false := by simp
            rw [if_neg (show ¬ v.down = true from by rw [hdn]; simp)] at Hrd
            go_wp2_with fail
            refine Hrd.out.mono ?_
            rintro e w5 ⟨rfl, hk5⟩
            have Hk5 : Hid (Keep [] w w5) := Hk4.out.trans0 hk5
            have hb5 := cell_of (Hd.out.keep0 Hk5.out).blk
            simp only [dcells] at hb5
            have Hct5 := Lib.hid (Hct.out w5 Hk5.out)
            clear hk5 Hrd hb4 e1 Hct Hk4
            go_wp2_with fail
            refine Hct5.out.mono ?_
            rintro e w6 ⟨rfl, rfl⟩
            go_wp2_with fail
            go_roundw
            case rel => exact ⟨k + 1, by omega, by go_num, Hk5.out⟩
            case measure => simp [intOf]; omega
          · obtain rfl : k = dur.length := by omega
            go_wp2_with fail
            go_returns
            exact ⟨rfl, Hkr.out⟩
end Go.Proofs.Ytombldjaipcloaa
