/- Whether two models are in the same state, and a copy of a model. -/
import Derived.Test.YtombldjaipcloaaEq
set_option linter.unusedVariables false
set_option linter.unusedSimpArgs false
namespace Go.Proofs.Ytombldjaipcloaa
open Go.RowKit
def dEq (d e : Dk) : Bool := decide (d.dur = e.dur ∧ d.pend = e.pend ∧ d.limited = e.limited ∧ d.limit = e.limit ∧ d.down = e.down ∧ d.writes = e.writes ∧ d.barriers = e.barriers)
theorem take_ne {α : Type} {l r : List α} {k : Nat} (h1 : k < l.length) (h2 : k < r.length) (h : ¬ l[k] = r[k]) : ¬ l = r := fun e => h (by simp [e])
set_option maxHeartbeats 4000000 in
set_option maxRecDepth 100000 in
theorem same_c (w : World) (b b2 : Nat) (dv pv dv2 pv2 : Value) (d u : Dk) (h : DkAt w b dv pv d) (h2 : DkAt w b2 dv2 pv2 u) (hl : d.pend.length ≤ 4096) (hl2 : u.pend.length ≤ 4096) (hn : d.dur.length ≤ 65536) (hn2 : u.dur.length ≤ 65536) :
    Calls Try.prog 36 #[.pointer (some ⟨b, 0, none⟩), .pointer (some ⟨b2, 0, none⟩)] w fun e w' => e = .returned (.bool (dEq d u)) ∧ Keep [] w w' := by
  have hc := cell_of h.blk
  have hc2 := cell_of h2.blk
  simp only [dcells] at hc hc2
  obtain ⟨po, pc, rfl⟩ := own_form h.pend
  obtain ⟨qo, qc, rfl⟩ := own_form h2.pend
  obtain ⟨ro, rc, rfl⟩ := own_form h.dur
  obtain ⟨so, sc, rfl⟩ := own_form h2.dur
  have Hp := Lib.hid (fun k hk => h.pendElem k hk)
  have Hq := Lib.hid (fun k hk => h2.pendElem k hk)
  have Hr := Lib.hid (fun k hk => h.durElem k hk)
  have Hs := Lib.hid (fun k hk => h2.durElem k hk)
  have Hl := Lib.hid hl
  have Hn := Lib.hid hn
  clear h h2 hl hl2 hn hn2
  obtain ⟨dur, pend, limited, down, limit, writes, barriers⟩ := d
  obtain ⟨dur2, pend2, limited2, down2, limit2, writes2, barriers2⟩ := u
  dsimp only at hc hc2 Hl Hn Hp Hq Hr Hs
  by_cases e1 : ¬ dur.length = dur2.length
  · have hno : ¬ dur = dur2 := fun e => e1 (by rw [e])
    have hb : ((dur.length : Int) != (dur2.length : Int)) = true := by rw [bne_iff_ne]; intro h; exact e1 (by exact_mod_cast h)
    have Hno := Lib.hid hno
    clear hno
    try clear e1
    try clear e2
    try clear e3
    try clear e4
    try clear e5
    try clear e6
    go_enter Try.func36, Try.ntmps36
    go_wp2_with fail
    simp only [List.append]
    go_big_quiet (fail)
    go_wp2_with fail
    go_ret
    exact ⟨by have hno := Hno.out; simp [dEq, hno], Keep.drewN _ _ _⟩
  rw [Classical.not_not] at e1
  have hb1 : ((dur.length : Int) != (dur2.length : Int)) = false := by rw [e1]; simp
  have E1 := Lib.hid e1
  clear e1
  by_cases e1 : ¬ pend.length = pend2.length
  · have hno : ¬ pend = pend2 := fun e => e1 (by rw [e])
    have hb : ((pend.length : Int) != (pend2.length : Int)) = true := by rw [bne_iff_ne]; intro h; exact e1 (by exact_mod_cast h)
    have Hno := Lib.hid hno
    clear hno
    try clear e1
    try clear e2
    try clear e3
    try clear e4
    try clear e5
    try clear e6
    go_enter Try.func36, Try.ntmps36
    go_wp2_with fail
    simp only [List.append]
    go_big_quiet (fail)
    go_wp2_with fail
    go_ret
    exact ⟨by have hno := Hno.out; simp [dEq, hno], Keep.drewN _ _ _⟩
  rw [Classical.not_not] at e1
  have hb2 : ((pend.length : Int) != (pend2.length : Int)) = false := by rw [e1]; simp
  have E2 := Lib.hid e1
  clear e1
  by_cases e2 : ¬ limited = limited2
  · have hno : ¬ limited = limited2 := e2
    cases limited <;> cases limited2 <;> simp at e2
    · skip
      have Hno := Lib.hid hno
      clear hno
      try clear e1
      try clear e2
      try clear e3
      try clear e4
      try clear e5
      try clear e6
      go_enter Try.func36, Try.ntmps36
      go_wp2_with fail
      simp only [List.append]
      go_big_quiet (fail)
      go_wp2_with fail
      go_ret
      exact ⟨by have hno := Hno.out; simp [dEq, hno], Keep.drewN _ _ _⟩
    · skip
      have Hno := Lib.hid hno
      clear hno
      try clear e1
      try clear e2
      try clear e3
      try clear e4
      try clear e5
      try clear e6
      go_enter Try.func36, Try.ntmps36
      go_wp2_with fail
      simp only [List.append]
      go_big_quiet (fail)
      go_wp2_with fail
      go_ret
      exact ⟨by have hno := Hno.out; simp [dEq, hno], Keep.drewN _ _ _⟩
  rw [Classical.not_not] at e2
  subst e2
  by_cases e3 : ¬ limit = limit2
  · have hno : ¬ limit = limit2 := e3
    have hb : (limit != limit2) = true := by rw [bne_iff_ne]; exact e3
    have Hno := Lib.hid hno
    clear hno
    try clear e1
    try clear e2
    try clear e3
    try clear e4
    try clear e5
    try clear e6
    go_enter Try.func36, Try.ntmps36
    go_wp2_with fail
    simp only [List.append]
    go_big_quiet (fail)
    go_wp2_with fail
    go_ret
    exact ⟨by have hno := Hno.out; simp [dEq, hno], Keep.drewN _ _ _⟩
  rw [Classical.not_not] at e3
  subst e3
  by_cases e4 : ¬ down = down2
  · have hno : ¬ down = down2 := e4
    cases down <;> cases down2 <;> simp at e4
    · skip
      have Hno := Lib.hid hno
      clear hno
      try clear e1
      try clear e2
      try clear e3
      try clear e4
      try clear e5
      try clear e6
      go_enter Try.func36, Try.ntmps36
      go_wp2_with fail
      simp only [List.append]
      go_big_quiet (fail)
      go_wp2_with fail
      go_ret
      exact ⟨by have hno := Hno.out; simp [dEq, hno], Keep.drewN _ _ _⟩
    · skip
      have Hno := Lib.hid hno
      clear hno
      try clear e1
      try clear e2
      try clear e3
      try clear e4
      try clear e5
      try clear e6
      go_enter Try.func36, Try.ntmps36
      go_wp2_with fail
      simp only [List.append]
      go_big_quiet (fail)
      go_wp2_with fail
      go_ret
      exact ⟨by have hno := Hno.out; simp [dEq, hno], Keep.drewN _ _ _⟩
  rw [Classical.not_not] at e4
  subst e4
  by_cases e5 : ¬ writes = writes2
  · have hno : ¬ writes = writes2 := e5
    have hb : (writes != writes2) = true := by rw [bne_iff_ne]; exact e5
    have Hno := Lib.hid hno
    clear hno
    try clear e1
    try clear e2
    try clear e3
    try clear e4
    try clear e5
    try clear e6
    go_enter Try.func36, Try.ntmps36
    go_wp2_with fail
    simp only [List.append]
    go_big_quiet (fail)
    go_wp2_with fail
    go_ret
    exact ⟨by have hno := Hno.out; simp [dEq, hno], Keep.drewN _ _ _⟩
  rw [Classical.not_not] at e5
  subst e5
  by_cases e6 : ¬ barriers = barriers2
  · have hno : ¬ barriers = barriers2 := e6
    have hb : (barriers != barriers2) = true := by rw [bne_iff_ne]; exact e6
    have Hno := Lib.hid hno
    clear hno
    try clear e1
    try clear e2
    try clear e3
    try clear e4
    try clear e5
    try clear e6
    go_enter Try.func36, Try.ntmps36
    go_wp2_with fail
    simp only [List.append]
    go_big_quiet (fail)
    go_wp2_with fail
    go_ret
    exact ⟨by have hno := Hno.out; simp [dEq, hno], Keep.drewN _ _ _⟩
  rw [Classical.not_not] at e6
  subst e6
  have Hv : Hid (dEq ⟨dur, pend, limited, down, limit, writes, barriers⟩ ⟨dur2, pend2, limited, down, limit, writes, barriers⟩ = decide (dur = dur2 ∧ pend = pend2)) := by show _ = _; simp [dEq]
  generalize dEq ⟨dur, pend, limited, down, limit, writes, barriers⟩ ⟨dur2, pend2, limited, down, limit, writes, barriers⟩ = r at *
  have hgd := neqD_g
  go_enter Try.func36, Try.ntmps36
  go_wp2_with fail
  simp only [List.append]
  go_big_quiet (fail)
  go_wp2_with fail
  go_loopw [5] (fun i wr => ∃ k : Nat, k ≤ dur.length ∧ i = .int .i64 k ∧ dur.take k = dur2.take k ∧ ∃ m, wr = w.drewN m) (fun i _ => dur.length - (intOf i).toNat)
  case atStart => exact ⟨0, by omega, rfl, rfl, _, rfl⟩
  case round =>
    obtain ⟨k, hk, rfl, htk, m, rfl⟩ := hrel
    have Htk := Lib.hid htk
    have hn6 := Hn.out
    clear htk
    by_cases hlt : k < dur.length
    · have hlq : k < dur2.length := by have := E1.out; omega
      have hltk : (k : Int) < dur2.length := by omega
      obtain ⟨g1, rfl, c1, hg1, _⟩ := Hr.out k hlt
      obtain ⟨g2, rfl, d1, hg2, _⟩ := Hs.out k hlq
      rw [List.getElem?_eq_getElem hlt, Option.getD_some] at c1
      rw [List.getElem?_eq_getElem hlq, Option.getD_some] at d1
      by_cases he : dur[k] = dur2[k]
      · have Hs' : Hid (dur.take (k + 1) = dur2.take (k + 1)) := by
          show _ = _
          rw [List.take_succ_eq_append_getElem hlt, List.take_succ_eq_append_getElem hlq, Htk.out, he]
        have hxy := str_yes he
        clear he
        generalize dur[k] = x at *
        generalize dur2[k] = y at *
        go_wp2_with fail
        go_quiet (fail)
        go_wp2_with fail
        go_roundw
        case rel => exact ⟨k + 1, by omega, by go_num, Hs'.out, _, rfl⟩
        case measure => simp [intOf]; omega
      · have Hs' : Hid (r = false) := by
          show _ = _
          rw [Hv.out, decide_eq_false_iff_not]
          exact fun e => take_ne hlt hlq he e.1
        have hxy := str_no he
        clear he
        generalize dur[k] = x at *
        generalize dur2[k] = y at *
        go_wp2_with fail
        go_quiet (fail)
        go_wp2_with fail
        go_ret
        exact ⟨by rw [Hs'.out]; rfl, (Keep.drewN _ _ _).trans0 (Keep.drewN _ _ _)⟩
    · obtain rfl : k = dur.length := by omega
      have Hd : Hid (dur = dur2) := by
        show _ = _
        have h := Htk.out
        rwa [List.take_length, E1.out, List.take_length] at h
      clear hlt hk
      go_wp2_with fail
      go_loopw [6] (fun i wr => ∃ k : Nat, k ≤ pend.length ∧ i = .int .i64 k ∧ pend.take k = pend2.take k ∧ ∃ m, wr = w.drewN m) (fun i _ => pend.length - (intOf i).toNat)
      case atStart => exact ⟨0, by omega, rfl, rfl, _, rfl⟩
      case round =>
        obtain ⟨k, hk, rfl, htk, m1, rfl⟩ := hrel
        have Htk := Lib.hid htk
        have hl4 := Hl.out
        clear htk
        by_cases hlt : k < pend.length
        · have hlq : k < pend2.length := by have := E2.out; omega
          have hltk : (k : Int) < pend2.length := by omega
          obtain ⟨g1, rfl, c1, c2, hg1⟩ := Hp.out k hlt
          obtain ⟨g2, rfl, d1, d2, hg2⟩ := Hq.out k hlq
          have hne := fun w => neqD pend[k] pend2[k] w
          by_cases he : pend[k] = pend2[k]
          · have Hs' : Hid (pend.take (k + 1) = pend2.take (k + 1)) := by
              show _ = _
              rw [List.take_succ_eq_append_getElem hlt, List.take_succ_eq_append_getElem hlq, Htk.out, he]
            rw [show decide (pend[k] ≠ pend2[k]) = false by simpa using he] at hne
            clear he
            generalize pend[k] = x at *
            generalize pend2[k] = y at *
            go_wp2_with fail
            go_quiet (fail)
            go_wp2_with fail
            go_roundw
            case rel => exact ⟨k + 1, by omega, by go_num, Hs'.out, _, rfl⟩
            case measure => simp [intOf]; omega
          · have Hs' : Hid (r = false) := by
              show _ = _
              rw [Hv.out, decide_eq_false_iff_not]
              exact fun e => take_ne hlt hlq he e.2
            rw [show decide (pend[k] ≠ pend2[k]) = true by simpa using he] at hne
            clear he
            generalize pend[k] = x at *
            generalize pend2[k] = y at *
            go_wp2_with fail
            go_quiet (fail)
            go_wp2_with fail
            go_ret
            exact ⟨by rw [Hs'.out]; rfl, (Keep.drewN _ _ _).trans0 (Keep.drewN _ _ _)⟩
        · obtain rfl : k = pend.length := by omega
          have Hs' : Hid (r = true) := by
            show _ = _
            have h := Htk.out
            rw [List.take_length, E2.out, List.take_length] at h
            rw [Hv.out]
            simpa using ⟨Hd.out, h⟩
          go_wp2_with fail
          go_ret
          exact ⟨by rw [Hs'.out]; rfl, Keep.drewN _ _ _⟩
end Go.Proofs.Ytombldjaipcloaa
