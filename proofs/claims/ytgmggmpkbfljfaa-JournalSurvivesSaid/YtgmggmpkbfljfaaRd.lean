/- record and sizeOf. -/
import Derived.Test.YtgmggmpkbfljfaaKa
set_option linter.unusedVariables false
set_option linter.unusedSimpArgs false
set_option maxRecDepth 100000
namespace Go.Proofs.Ytgmggmpkbfljfaa
open Go.RowKit
def recS (n : Nat) : Nat → ByteArray
  | 0 => ⟨#[]⟩
  | i + 1 => recS n i ++ oneS (((n : Int) + 5 * (i : Int)) % 256)
theorem recS_size (n : Nat) : ∀ i, (recS n i).size = i
  | 0 => rfl
  | i + 1 => by rw [recS, ByteArray.size_append, recS_size n i, oneS_size]
def recN (n : Nat) : ByteArray := recS n (n % 301)
theorem recN_size (n : Nat) : (recN n).size ≤ 300 := by unfold recN; rw [recS_size]; omega
set_option maxHeartbeats 2000000 in
theorem record_c (n : Nat) (hn : n ≤ 65535) (w : World) : Calls Try.prog 17 #[.int .u16 n] w fun e w' => e = .returned (.string (recN n)) ∧ Below w.heap.size w w' := by
  obtain ⟨m, hm⟩ : ∃ m, n % 301 = m := ⟨_, rfl⟩
  have hmi : (n : Int) % 301 = (m : Int) := by omega
  have Hr : Hid (recN n = recS n m) := by show _ = _; unfold recN; rw [hm]
  have hmb : m ≤ 300 := by omega
  clear hm
  go_enter Try.func17, Try.ntmps17
  go_wp2_with fail
  go_loopw [3, 4] (fun s i wr => ∃ k : Nat, k ≤ m ∧ i = .int .i64 k ∧ s = .string (recS n k) ∧ Below w.heap.size w wr) (fun _ i _ => m - (intOf i).toNat)
  case atStart => exact ⟨0, by omega, rfl, rfl, Below.refl _ _⟩
  case round =>
    obtain ⟨k, hk, rfl, rfl, hb⟩ := hrel
    have Hb := Lib.hid hb
    have hwz := hb.size
    have hsz := recS_size n k
    clear hb
    by_cases hlt : k < m
    · have Hs : Hid (recS n (k + 1) = recS n k ++ oneS (((n : Int) + 5 * (k : Int)) % 256)) := rfl
      have hcv := fun w => conv_one (((n : Int) + 5 * (k : Int)) % 256) w
      have h1s := oneS_size (((n : Int) + 5 * (k : Int)) % 256)
      generalize recS n k = s at *
      generalize oneS (((n : Int) + 5 * (k : Int)) % 256) = o1 at *
      go_wp2_with fail
      go_roundw
      case rel => exact ⟨k + 1, by omega, by go_num, by rw [Hs.out], Hb.out.alloc hwz _⟩
      case measure => simp [intOf]; omega
    · obtain rfl : k = m := by omega
      go_wp2_with fail
      go_ret
      exact ⟨by rw [Hr.out]; rfl, Hb.out⟩
theorem sizeOf_c (n : Nat) (w : World) : Calls Try.prog 16 #[.int .u8 n] w fun e w' => e = .returned (.int .i64 ((3 + n % 12 : Nat) : Int)) ∧ w' = w := by
  have hc : ((3 + n % 12 : Nat) : Int) = 3 + (n : Int) % 12 := by omega
  have hb : (n : Int) % 12 ≤ 11 := by omega
  have hb0 : 0 ≤ (n : Int) % 12 := by omega
  rw [hc]
  clear hc
  go_enter Try.func16, Try.ntmps16
  go_wp2_with fail
  go_ret
  exact ⟨rfl, rfl⟩
end Go.Proofs.Ytgmggmpkbfljfaa
