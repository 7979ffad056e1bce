/- Equal of the device, and of its model. -/
import Derived.Test.YtombldjaipcloaaCl
set_option linter.unusedVariables false
set_option linter.unusedSimpArgs false
namespace Go.Proofs.Ytombldjaipcloaa
open Go.RowKit
theorem strBeq (a b : ByteArray) : (a.toList == b.toList) = decide (a = b) := str_eq a b
theorem intBeq (a b : Int) : (a == b) = decide (a = b) := by rw [Bool.eq_iff_iff]; simp
theorem neqV (p q : Int × ByteArray) (w : World) : (binOp .neq 82 (.agg #[.int .i64 p.1, .string p.2]) (.agg #[.int .i64 q.1, .string q.2])).run Try.prog w = .ok (.bool (decide (p ≠ q))) w := by
  have u3 := Try.underlying3
  have a3 := Try.isAgg3
  have z3 := Try.sizeOf3
  have u9 := Try.underlying9
  have a9 := Try.isAgg9
  have z9 := Try.sizeOf9
  have hS : Try.prog.underlying 82 = some (.struct (Try.prog.fieldsOf 82)) := by kernel_rfl
  have hp : Try.prog.stoodInHeld 82 = false := by kernel_rfl
  rw [run_neq_struct, show (10000 : Nat) = 9999 + 1 from rfl, run_equalIn_agg w 9999 82 _ _ hS hp]
  simp only [Program.fieldsOf, Try.underlying82]
  go_simp
  obtain ⟨p1, p2⟩ := p
  obtain ⟨q1, q2⟩ := q
  dsimp only
  by_cases h1 : p1 = q1 <;> by_cases h2 : p2 = q2 <;> simp [h1, h2] <;> (try (intro h; have hn := str_no h2; rw [h] at hn; simp at hn))
theorem neqV_g : Try.prog.eqGuardType Try.prog.depth 82 = false := by kernel_rfl
theorem neqD (p q : Int × ByteArray) (w : World) : (binOp .neq 59 (.agg #[.int .i64 p.1, .string p.2]) (.agg #[.int .i64 q.1, .string q.2])).run Try.prog w = .ok (.bool (decide (p ≠ q))) w := by
  have u3 := Try.underlying3
  have a3 := Try.isAgg3
  have z3 := Try.sizeOf3
  have u9 := Try.underlying9
  have a9 := Try.isAgg9
  have z9 := Try.sizeOf9
  have hS : Try.prog.underlying 59 = some (.struct (Try.prog.fieldsOf 59)) := by kernel_rfl
  have hp : Try.prog.stoodInHeld 59 = false := by kernel_rfl
  rw [run_neq_struct, show (10000 : Nat) = 9999 + 1 from rfl, run_equalIn_agg w 9999 59 _ _ hS hp]
  simp only [Program.fieldsOf, Try.underlying59]
  go_simp
  obtain ⟨p1, p2⟩ := p
  obtain ⟨q1, q2⟩ := q
  dsimp only
  by_cases h1 : p1 = q1 <;> by_cases h2 : p2 = q2 <;> simp [h1, h2] <;> (try (intro h; have hn := str_no h2; rw [h] at hn; simp at hn))
theorem neqD_g : Try.prog.eqGuardType Try.prog.depth 59 = false := by kernel_rfl
theorem pcells_elem {w : World} {e : TypeId} {po : Option Addr} {n pc : Nat} {p : IS} (h : w.ownsRow 0 e 2 (.slice po n pc) p.length (pcells p)) (k : Nat) (hk : k < p.length) :
    ∃ g, po = some ⟨g, 0, none⟩ ∧ w.cell? ⟨g, k * 2, none⟩ = some (.int .i64 (p[k]).1) ∧ w.cell? ⟨g, k * 2 + 1, none⟩ = some (.string (p[k]).2) ∧ g < w.heap.size := by
  obtain ⟨g, cap, hv, hc, hg, hf⟩ := own_cells h (by omega)
  injection hv with h1 _ _
  exact ⟨g, h1, by rw [hc _ (by omega)]; exact (pcells_get _ k hk).1, by rw [hc _ (by omega)]; exact (pcells_get _ k hk).2, hg⟩
set_option maxHeartbeats 2000000 in
/-- slices.Equal at the pending writes. -/
theorem slicesEqual_c (w : World) (p q : IS) (v1 v2 : Value) (h1 : w.ownsRow 0 82 2 v1 p.length (pcells p)) (h2 : w.ownsRow 0 82 2 v2 q.length (pcells q)) (hl : p.length ≤ 4096) (hl2 : q.length ≤ 4096) :
    Calls Try.prog 51 #[v1, v2] w fun e w' => e = .returned (.bool (decide (p = q))) ∧ Keep [] w w' := by
  obtain ⟨po, pc, rfl⟩ := own_form h1
  obtain ⟨qo, qc, rfl⟩ := own_form h2
  have hgd := neqV_g
  have Hp : Hid (∀ k (h : k < p.length), ∃ g, po = some ⟨g, 0, none⟩ ∧ w.cell? ⟨g, k * 2, none⟩ = some (.int .i64 (p[k]).1) ∧ w.cell? ⟨g, k * 2 + 1, none⟩ = some (.string (p[k]).2) ∧ g < w.heap.size) := fun k hk => pcells_elem h1 k hk
  have Hq : Hid (∀ k (h : k < q.length), ∃ g, qo = some ⟨g, 0, none⟩ ∧ w.cell? ⟨g, k * 2, none⟩ = some (.int .i64 (q[k]).1) ∧ w.cell? ⟨g, k * 2 + 1, none⟩ = some (.string (q[k]).2) ∧ g < w.heap.size) := fun k hk => pcells_elem h2 k hk
  clear h1 h2
  by_cases hlen : p.length = q.length
  · have hlb : ((p.length : Int) == (q.length : Int)) = true := by rw [hlen]; simp
    have Hlen := Lib.hid hlen
    clear hlen
    go_enter Try.func51, Try.ntmps51
    go_wp2_with fail
    go_loopw [13] (fun i wr => ∃ k : Nat, k ≤ p.length ∧ i = .int .i64 k ∧ p.take k = q.take k ∧ ∃ m, wr = w.drewN m) (fun i _ => p.length - (intOf i).toNat)
    case atStart => exact ⟨0, by omega, rfl, rfl, 0, rfl⟩
    case round =>
      obtain ⟨k, hk, rfl, htk, m, rfl⟩ := hrel
      have Htk := Lib.hid htk
      clear htk
      by_cases hlt : k < p.length
      · have hlq : k < q.length := by have := Hlen.out; omega
        obtain ⟨g1, rfl, c1, c2, hg1⟩ := Hp.out k hlt
        obtain ⟨g2, rfl, d1, d2, hg2⟩ := Hq.out k hlq
        have hne := fun w => neqV p[k] q[k] w
        by_cases he : p[k] = q[k]
        · have Hs : Hid (p.take (k + 1) = q.take (k + 1)) := by
            show _ = _
            rw [List.take_succ_eq_append_getElem hlt, List.take_succ_eq_append_getElem hlq, Htk.out, he]
          rw [show decide (p[k] ≠ q[k]) = false by simpa using he] at hne
          clear he
          generalize p[k] = x at *
          generalize q[k] = y at *
          go_wp2_with fail
          go_quiet (fail)
          go_wp2_with fail
          go_roundw
          case rel => exact ⟨k + 1, by omega, by go_num, Hs.out, _, rfl⟩
          case measure => simp [intOf]; omega
        · have Hs : Hid (decide (p = q) = false) := by
            show _ = _
            rw [decide_eq_false_iff_not]
            intro e
            exact he (by simp [e])
          rw [show decide (p[k] ≠ q[k]) = true by simpa using he] at hne
          clear he
          generalize p[k] = x at *
          generalize q[k] = y at *
          go_wp2_with fail
          go_quiet (fail)
          go_wp2_with fail
          go_ret
          exact ⟨by rw [Hs.out]; rfl, (Keep.drewN _ _ _).trans0 (Keep.drewN _ _ _)⟩
      · obtain rfl : k = p.length := by omega
        have Hs : Hid (decide (p = q) = true) := by
          show _ = _
          have h := Htk.out
          rw [List.take_length, Hlen.out, List.take_length] at h
          simpa using h
        go_wp2_with fail
        go_ret
        exact ⟨by rw [Hs.out]; rfl, Keep.drewN _ _ _⟩
  · have hlb : ((p.length : Int) == (q.length : Int)) = false := by rw [beq_eq_false_iff_ne]; intro h; exact hlen (by exact_mod_cast h)
    have Hs : Hid (decide (p = q) = false) := by
      show _ = _
      rw [decide_eq_false_iff_not]
      intro e; exact hlen (by rw [e])
    go_enter Try.func51, Try.ntmps51
    go_wp2_with fail
    go_ret
    exact ⟨by rw [Hs.out]; rfl, Keep.refl _ _⟩
/-! ### Equal -/
def vEq (v u : Vol) : Bool := decide (v.sectors = u.sectors ∧ v.limited = u.limited ∧ v.left = u.left ∧ v.down = u.down ∧ v.writes = u.writes ∧ v.barriers = u.barriers) && (mapEq v.dur u.dur && decide (v.pend = u.pend))
theorem vEq_all (sectors : Int) (dur pend dur2 pend2 : IS) (limited down : Bool) (left writes barriers : Int) : vEq ⟨sectors, dur, pend, limited, down, left, writes, barriers⟩ ⟨sectors, dur2, pend2, limited, down, left, writes, barriers⟩ = (mapEq dur dur2 && decide (pend = pend2)) := by simp [vEq]
def vCellsL (sectors : Int) (mb : Nat) (pv : Value) (limited down : Bool) (left writes barriers : Int) : Array Value := #[.int .i64 sectors, .map (some mb), pv, .bool limited, .bool down, .int .i64 left, .int .i64 writes, .int .i64 barriers]
end Go.Proofs.Ytombldjaipcloaa
