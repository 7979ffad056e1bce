/- take. -/
import Derived.Test.YtgmggmpkbfljfaaG4
import Derived.Laws.BitsLemmas
set_option linter.unusedVariables false
set_option linter.unusedSimpArgs false
set_option maxRecDepth 100000
namespace Go.Proofs.Ytgmggmpkbfljfaa
open Go.RowKit
/-- The byte of a string at a place, 0 behind its end. -/
def byteAt (s : ByteArray) (i : Nat) : Nat := ((s.data[i]?).map (·.toNat)).getD 0
/-- The number in k bytes from a place on. -/
def takeN (s : ByteArray) (i : Nat) : Nat → Nat
  | 0 => 0
  | k + 1 => byteAt s i + 256 * takeN s (i + 1) k
theorem byteAt_le (s : ByteArray) (i : Nat) : byteAt s i ≤ 255 := by
  unfold byteAt
  cases s.data[i]? with
  | none => simp
  | some b => have := UInt8.toNat_lt b; simp; omega
theorem byteAt_out (s : ByteArray) (i : Nat) (h : s.size ≤ i) : byteAt s i = 0 := by
  unfold byteAt
  rw [Array.getElem?_eq_none (by exact h)]; rfl
theorem takeN_out (s : ByteArray) : ∀ (k i : Nat), s.size ≤ i → takeN s i k = 0
  | 0, _, _ => rfl
  | k + 1, i, h => by rw [takeN, byteAt_out s i h, takeN_out s k (i + 1) (by omega)]
theorem takeN_mono (s : ByteArray) (i k : Nat) : ∀ j, j ≤ k → takeN s (i + j) (k - j) ≤ takeN s i k
  | 0, _ => by simp
  | j + 1, h => by
    have h1 := takeN_mono s i k j (by omega)
    obtain ⟨m, hm⟩ : ∃ m, k - j = m + 1 := ⟨k - j - 1, by omega⟩
    rw [hm, takeN] at h1
    rw [show k - (j + 1) = m by omega, show i + (j + 1) = i + j + 1 by omega]
    omega
theorem or_sum (t b : Nat) (ht : t ≤ 36028797018963967) (hb : b ≤ 255) : bits BinOp.or IntKind.i64 ((t : Int) * 256) (b : Int) = ((b + 256 * t : Nat) : Int) := by
  rw [bits_join .i64 63 (by decide) (fun n h0 h1 => by rw [IntKind.wrap_i64]; omega) 8 _ _ (by omega) (by omega) (by omega) (by omega) (by omega) (by omega)]
  omega
theorem byteAt_in (s : ByteArray) (i : Nat) (h : i < s.size) : (s[i]).toNat = byteAt s i := by
  unfold byteAt
  rw [Array.getElem?_eq_getElem (by exact h)]; rfl
set_option maxHeartbeats 2000000 in
theorem take_c (s : ByteArray) (i k : Nat) (hi : i ≤ 140737488300000) (hs : s.size ≤ 140737488355328) (hk : k ≤ 8) (hb : takeN s i k ≤ 140737488355328) (w : World) :
    Calls Try.prog 70 #[.string s, .int .i64 i, .int .i64 k] w fun e w' => e = .returned (.int .i64 (takeN s i k)) ∧ w' = w := by
  have Hb := Lib.hid hb
  clear hb
  go_enter Try.func70, Try.ntmps70
  go_wp2_with fail
  go_loopw [7, 8] (fun n x wr => ∃ j : Nat, j ≤ k ∧ x = .int .i64 ((j : Int) - 1) ∧ n = .int .i64 (takeN s (i + j) (k - j)) ∧ wr = w) (fun _ i _ => (intOf i + 1).toNat)
  case atStart => exact ⟨k, by omega, rfl, by rw [Nat.sub_self]; rfl, rfl⟩
  case round =>
    obtain ⟨j, hj, rfl, rfl, rfl⟩ := hrel
    match j, hj with
    | 0, _ =>
      have e0 : (((0 : Nat) : Int) - 1) = -1 := rfl
      rw [e0, Nat.add_zero, Nat.sub_zero]
      go_wp2_with fail
      go_ret
      exact ⟨rfl, rfl⟩
    | m + 1, hj =>
      have e0 : (((m + 1 : Nat) : Int) - 1) = (m : Int) := by omega
      rw [e0]
      have hm := Nat.le_trans (takeN_mono s i k m (by omega)) Hb.out
      have hstep : Hid (takeN s (i + m) (k - m) = byteAt s (i + m) + 256 * takeN s (i + (m + 1)) (k - (m + 1))) := by
        show _ = _
        rw [show k - m = (k - (m + 1)) + 1 by omega, takeN]; rfl
      rw [hstep.out] at hm
      have hby := byteAt_le s (i + m)
      by_cases hlt : i + m < s.size
      · generalize takeN s (i + (m + 1)) (k - (m + 1)) = t at *
        have hbe := byteAt_in s (i + m) hlt
        generalize byteAt s (i + m) = b at *
        have hor := or_sum t b (by omega) hby
        go_wp2_with fail
        go_roundw
        case rel => exact ⟨m, by omega, by go_num, by rw [hstep.out]; congr 1, trivial⟩
        case measure => simp [intOf] <;> omega
      · have hz := takeN_out s (k - (m + 1)) (i + (m + 1)) (by omega)
        have hz2 := byteAt_out s (i + m) (by omega)
        rw [hz, hz2] at hstep
        rw [hz]
        have hlt' : s.size ≤ i + m := by omega
        clear hlt hm
        go_wp2_with fail
        go_roundw
        case rel => exact ⟨m, by omega, by go_num, by rw [hstep.out], trivial⟩
        case measure => simp [intOf] <;> omega
end Go.Proofs.Ytgmggmpkbfljfaa
