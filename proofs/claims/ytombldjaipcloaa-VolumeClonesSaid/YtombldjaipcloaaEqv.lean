/- Equal of the device. -/
import Derived.Test.YtombldjaipcloaaEq0
import Derived.Test.YtombldjaipcloaaEq1
set_option linter.unusedVariables false
set_option linter.unusedSimpArgs false
namespace Go.Proofs.Ytombldjaipcloaa
open Go.RowKit
set_option maxHeartbeats 4000000 in
set_option maxRecDepth 100000 in
theorem equal_c (w : World) (b mb b2 mb2 : Nat) (pv pv2 : Value) (v u : Vol) (h : VolAt w b mb pv v) (h2 : VolAt w b2 mb2 pv2 u) (hl : v.pend.length ≤ 4096) (hl2 : u.pend.length ≤ 4096) (g1 : Goods v.dur) (g2 : Goods u.dur) (nd : (v.dur.map (·.1)).Nodup) :
    Calls Try.prog 35 #[.pointer (some ⟨b, 0, none⟩), .pointer (some ⟨b2, 0, none⟩)] w fun e w' => e = .returned (.bool (vEq v u)) ∧ Keep [] w w' := by
  have hc := cell_of h.blk
  have hc2 := cell_of h2.blk
  simp only [vcells] at hc hc2
  have H := Lib.hid h
  have H2 := Lib.hid h2
  have Hl := Lib.hid hl
  have Hl2 := Lib.hid hl2
  obtain ⟨po, pc, rfl⟩ := own_form h.pend
  obtain ⟨qo, qc, rfl⟩ := own_form h2.pend
  obtain ⟨sectors, dur, pend, limited, down, left, writes, barriers⟩ := v
  obtain ⟨sectors2, dur2, pend2, limited2, down2, left2, writes2, barriers2⟩ := u
  dsimp only at hc hc2 Hl Hl2
  by_cases e1 : ¬ sectors = sectors2
  · have hno : ¬ sectors = sectors2 := e1
    have hb : (sectors == sectors2) = false := by simpa using e1
    have Hno := Lib.hid hno
    clear hno
    clear h h2 g1 g2 nd hl hl2
    try clear e1
    try clear e2
    try clear e3
    try clear e4
    try clear e5
    try clear e6
    go_enter Try.func35, Try.ntmps35
    go_wp2_with fail
    try simp only [List.append]
    go_big_quiet (fail)
    go_wp2_with fail
    go_ret
    exact ⟨by have hno := Hno.out; simp [vEq, hno], Keep.drewN _ _ _⟩
  rw [Classical.not_not] at e1
  subst e1
  by_cases e2 : ¬ limited = limited2
  · have hno : ¬ limited = limited2 := e2
    cases limited <;> cases limited2 <;> simp at e2
    · skip
      have Hno := Lib.hid hno
      clear hno
      clear h h2 g1 g2 nd hl hl2
      try clear e1
      try clear e2
      try clear e3
      try clear e4
      try clear e5
      try clear e6
      go_enter Try.func35, Try.ntmps35
      go_wp2_with fail
      try simp only [List.append]
      go_big_quiet (fail)
      go_wp2_with fail
      go_ret
      exact ⟨by have hno := Hno.out; simp [vEq, hno], Keep.drewN _ _ _⟩
    · skip
      have Hno := Lib.hid hno
      clear hno
      clear h h2 g1 g2 nd hl hl2
      try clear e1
      try clear e2
      try clear e3
      try clear e4
      try clear e5
      try clear e6
      go_enter Try.func35, Try.ntmps35
      go_wp2_with fail
      try simp only [List.append]
      go_big_quiet (fail)
      go_wp2_with fail
      go_ret
      exact ⟨by have hno := Hno.out; simp [vEq, hno], Keep.drewN _ _ _⟩
  rw [Classical.not_not] at e2
  subst e2
  by_cases e3 : ¬ left = left2
  · have hno : ¬ left = left2 := e3
    have hb : (left == left2) = false := by simpa using e3
    have Hno := Lib.hid hno
    clear hno
    clear h h2 g1 g2 nd hl hl2
    try clear e1
    try clear e2
    try clear e3
    try clear e4
    try clear e5
    try clear e6
    go_enter Try.func35, Try.ntmps35
    go_wp2_with fail
    try simp only [List.append]
    go_big_quiet (fail)
    go_wp2_with fail
    go_ret
    exact ⟨by have hno := Hno.out; simp [vEq, hno], Keep.drewN _ _ _⟩
  rw [Classical.not_not] at e3
  subst e3
  by_cases e4 : ¬ down = down2
  · have hno : ¬ down = down2 := e4
    cases down <;> cases down2 <;> simp at e4
    · skip
      have Hno := Lib.hid hno
      clear hno
      clear h h2 g1 g2 nd hl hl2
      try clear e1
      try clear e2
      try clear e3
      try clear e4
      try clear e5
      try clear e6
      go_enter Try.func35, Try.ntmps35
      go_wp2_with fail
      try simp only [List.append]
      go_big_quiet (fail)
      go_wp2_with fail
      go_ret
      exact ⟨by have hno := Hno.out; simp [vEq, hno], Keep.drewN _ _ _⟩
    · skip
      have Hno := Lib.hid hno
      clear hno
      clear h h2 g1 g2 nd hl hl2
      try clear e1
      try clear e2
      try clear e3
      try clear e4
      try clear e5
      try clear e6
      go_enter Try.func35, Try.ntmps35
      go_wp2_with fail
      try simp only [List.append]
      go_big_quiet (fail)
      go_wp2_with fail
      go_ret
      exact ⟨by have hno := Hno.out; simp [vEq, hno], Keep.drewN _ _ _⟩
  rw [Classical.not_not] at e4
  subst e4
  by_cases e5 : ¬ writes = writes2
  · have hno : ¬ writes = writes2 := e5
    have hb : (writes == writes2) = false := by simpa using e5
    have Hno := Lib.hid hno
    clear hno
    clear h h2 g1 g2 nd hl hl2
    try clear e1
    try clear e2
    try clear e3
    try clear e4
    try clear e5
    try clear e6
    go_enter Try.func35, Try.ntmps35
    go_wp2_with fail
    try simp only [List.append]
    go_big_quiet (fail)
    go_wp2_with fail
    go_ret
    exact ⟨by have hno := Hno.out; simp [vEq, hno], Keep.drewN _ _ _⟩
  rw [Classical.not_not] at e5
  subst e5
  by_cases e6 : ¬ barriers = barriers2
  · have hno : ¬ barriers = barriers2 := e6
    have hb : (barriers == barriers2) = false := by simpa using e6
    have Hno := Lib.hid hno
    clear hno
    clear h h2 g1 g2 nd hl hl2
    try clear e1
    try clear e2
    try clear e3
    try clear e4
    try clear e5
    try clear e6
    go_enter Try.func35, Try.ntmps35
    go_wp2_with fail
    try simp only [List.append]
    go_big_quiet (fail)
    go_wp2_with fail
    go_ret
    exact ⟨by have hno := Hno.out; simp [vEq, hno], Keep.drewN _ _ _⟩
  rw [Classical.not_not] at e6
  subst e6
  rw [vEq_all]
  cases hm : mapEq dur dur2
  · exact equal_0 w b mb b2 mb2 _ _ sectors dur pend dur2 pend2 limited down left writes barriers h h2 hl hl2 g1 g2 nd hm
  · rw [Bool.true_and]
    exact equal_1 w b mb b2 mb2 _ _ sectors dur pend dur2 pend2 limited down left writes barriers h h2 hl hl2 g1 g2 nd hm
end Go.Proofs.Ytombldjaipcloaa
