/- The sector of equal bytes, and what survives of a write, by the model's loop. -/
import Derived.Test.YtombldjaipcloaaBase
set_option linter.unusedVariables false
set_option linter.unusedSimpArgs false
namespace Go.Proofs.Ytombldjaipcloaa
open Go.RowKit

def row (c : Int) (k : Nat) : Array Value := ((List.replicate k (Value.int .u8 c)) ++ (List.replicate (128 - k) (Value.int .u8 0))).toArray
theorem row_set (c : Int) (k : Nat) (h : k < 128) : (row c k).setIfInBounds k (.int .u8 c) = row c (k+1) := by
  unfold row
  rw [List.setIfInBounds_toArray]
  congr 1
  rw [List.set_append_right _ _ (by simp)]
  simp only [List.length_replicate, Nat.sub_self]
  obtain ⟨m, hm⟩ : ∃ m, 128 - k = m + 1 := ⟨127 - k, by omega⟩
  rw [hm, show 128 - (k+1) = m from by omega, List.replicate_succ, List.set_cons_zero, List.replicate_succ' (n := k)]
  simp
theorem row_get (c : Int) (k : Nat) (h : k < 128) : (row c k)[k]? = some (.int .u8 0) := by
  unfold row
  rw [List.getElem?_toArray, List.getElem?_append_right (by simp), List.length_replicate, Nat.sub_self, List.getElem?_replicate, if_pos (by omega)]
theorem row_cells (c : Int) (w : World) : ∀ i, i < 128 → (w.alloc (.cells (row c 128) 5)).cell? ⟨w.heap.size, 0 + i, none⟩ = some (.int .u8 ((List.replicate 128 c).getD i 0)) := by
  intro i hi
  rw [Nat.zero_add, World.cell?_alloc_at _ _ _ _ rfl]
  unfold row
  rw [List.getElem?_toArray, List.getElem?_append_left (by simp; omega), List.getElem?_replicate, if_pos (by omega), show (List.replicate 128 c).getD i 0 = c from by rw [List.getD_eq_getElem?_getD, List.getElem?_replicate, if_pos (by omega)]; rfl]
def fillS (c : Int) : ByteArray := strOfNums (List.replicate 128 c)
theorem fillS_size (c : Int) : (fillS c).size = 128 := by unfold fillS; rw [strOfNums_size]; simp
theorem mk128 (w : World) : (Instr.makeSlice 36 (.int .i64 128) (.int .i64 128)).run Try.prog w = .ok (.slice (some ⟨w.heap.size, 0, none⟩) 128 128) (w.alloc (.cells (row 0 0) 5)) := by
  kernel_rfl
theorem row_c0 (c : Int) : row 0 0 = row c 0 := rfl
set_option maxRecDepth 100000 in
set_option maxHeartbeats 400000 in
theorem fill_c (c : Int) (w : World) : Calls Try.prog 14 #[.int .u8 c] w fun e w' => e = .returned (.string (fillS c)) ∧ w' = w.alloc (.cells (row c 128) 5) := by
  have hmk := mk128 w
  go_enter Try.func14, Try.ntmps14
  go_wp2_with fail
  rw [row_c0 c]
  go_loopw [4] (fun i wr => ∃ k : Nat, k ≤ 128 ∧ i = .int .i64 k ∧ wr = w.alloc (.cells (row c k) 5)) (fun i _ => 128 - (intOf i).toNat)
  case atStart => exact ⟨0, by omega, rfl, rfl⟩
  case round =>
    obtain ⟨k, hk, rfl, rfl⟩ := hrel
    by_cases hlt : k < 128
    · have hg := row_get c k hlt
      go_wp2
      go_roundw
      case rel => exact ⟨k + 1, by omega, by go_num, by rw [row_set c k hlt]⟩
      case measure => simp [intOf]; omega
    · obtain rfl : k = 128 := by omega
      have hconv := run_convert_bytes_arg (P := Try.prog) (w.alloc (.cells (row c 128) 5)) 36 5 Try.underlying36 Try.underlying5 w.heap.size 0 128 128 (List.replicate 128 c) (by simp) (row_cells c w) 9 Try.underlying9
      go_wp2
      go_ret
      exact ⟨rfl, rfl⟩
theorem fill_p (c : Int) : Pure Try.prog 14 #[.int .u8 c] (.string (fillS c)) := fun w =>
  (fill_c c w).mono fun e w' h => ⟨h.1, by rw [h.2]; exact (Below.refl _ w).alloc (Nat.le_refl _) _⟩

/-! ### survive -/
def blk (s : ByteArray) (i : Nat) : ByteArray := s.extract (32 * i) (32 * i + 32)
def bit (c i : Nat) : Bool := c / 2 ^ i % 2 == 1
def survTo (old new : ByteArray) (c : Nat) : Nat → ByteArray
  | 0 => ⟨#[]⟩
  | i + 1 => survTo old new c i ++ (if bit c i then blk new i else blk old i)
def surv (old new : ByteArray) (c : Nat) : ByteArray := if old.size = 128 ∧ new.size = 128 then survTo old new c 4 else ⟨#[]⟩

theorem survTo_size (old new : ByteArray) (c : Nat) (ho : 128 ≤ old.size) (hn : 128 ≤ new.size) : ∀ k, k ≤ 4 → (survTo old new c k).size = 32 * k
  | 0, _ => rfl
  | k + 1, h => by
    rw [survTo, ByteArray.size_append, survTo_size old new c ho hn k (by omega)]
    have e : ∀ s : ByteArray, 128 ≤ s.size → (blk s k).size = 32 := fun s hs => by unfold blk; rw [ByteArray.size_extract]; omega
    split
    · rw [e new hn]; omega
    · rw [e old ho]; omega
set_option maxHeartbeats 1000000 in
theorem survive_c (old new : ByteArray) (c : Nat) (hc : c ≤ 255) (ho : old.size = 128) (hn : new.size = 128) (w : World) :
    Calls Try.prog 16 #[.string old, .string new, .int .u8 c] w fun e w' => e = .returned (.string (survTo old new c 4)) ∧ w = w' := by
  have ho1 : ((old.size : Int) != 128) = false := by rw [ho]; rfl
  have hn1 : ((new.size : Int) != 128) = false := by rw [hn]; rfl
  have ho2 : old.size ≤ 128 ∧ 128 ≤ old.size := by omega
  have hn2 : new.size ≤ 128 ∧ 128 ≤ new.size := by omega
  have ho3 := ho2.2
  have hn3 := hn2.2
  clear ho hn
  go_enter Try.func16, Try.ntmps16
  go_wp2_with fail
  go_loop [2, 7, 8] (fun ch s i => ∃ k : Nat, k ≤ 4 ∧ i = .int .i64 k ∧ ch = .int .u8 ((c / 2 ^ k : Nat) : Int) ∧ s = .string (survTo old new c k)) (fun _ _ i => 4 - (intOf i).toNat)
  case atStart => exact ⟨0, by omega, rfl, by simp, rfl⟩
  case round =>
    obtain ⟨k, hk, rfl, rfl, rfl⟩ := hrel
    by_cases hlt : k < 4
    · have hb : ∃ d, c / 2 ^ k = d ∧ d ≤ 255 ∧ c / 2 ^ (k + 1) = d / 2 := ⟨_, rfl, Nat.le_trans (Nat.div_le_self _ _) hc, by rw [Nat.pow_succ, Nat.div_div_eq_div_mul]⟩
      obtain ⟨d, hd, hd2, hd3⟩ := hb
      have H1 := Lib.hid hd
      have H2 := Lib.hid hd3
      rw [hd]
      clear hd hd3
      have hs : (survTo old new c k).size ≤ 128 := by rw [survTo_size old new c ho3 hn3 k hk]; omega
      have H3 : Hid (bit c k = (d % 2 == 1)) := by show bit c k = _; unfold bit; rw [H1.out]
      have H4 : ∀ x : ByteArray, (if bit c k then blk new k else blk old k) = x → Hid (survTo old new c (k + 1) = survTo old new c k ++ x) := fun x hx => by show survTo _ _ _ (k + 1) = _; rw [survTo, hx]
      by_cases hbit : d % 2 = 1
      · have hbi : (((d : Int) % 2) == 1) = true := by rw [beq_iff_eq]; omega
        have Hs := H4 (new.extract (32 * k) (32 * k + 32)) (by rw [H3.out, hbit]; rfl)
        clear hbit H3 H4
        generalize survTo old new c k = s at *
        go_wp2
        go_round
        case rel => exact ⟨k + 1, by omega, by go_num, by rw [H2.out]; go_num, by rw [Hs.out]⟩
        case measure => simp [intOf]; omega
      · have hbi : (((d : Int) % 2) == 1) = false := by rw [beq_eq_false_iff_ne]; omega
        have Hs := H4 (old.extract (32 * k) (32 * k + 32)) (by rw [H3.out, if_neg (by simpa using hbit)]; rfl)
        clear hbit H3 H4
        generalize survTo old new c k = s at *
        go_wp2
        go_round
        case rel => exact ⟨k + 1, by omega, by go_num, by rw [H2.out]; go_num, by rw [Hs.out]⟩
        case measure => simp [intOf]; omega
    · obtain rfl : k = 4 := by omega
      go_wp2
      go_ret
      exact ⟨rfl, rfl⟩
set_option maxHeartbeats 1000000 in
theorem survive_e (old new : ByteArray) (c : Nat) (h : ¬ (old.size = 128 ∧ new.size = 128)) (w : World) :
    Calls Try.prog 16 #[.string old, .string new, .int .u8 c] w fun e w' => e = .returned (.string ⟨#[]⟩) ∧ w = w' := by
  by_cases ho : old.size = 128
  · have ho1 : ((old.size : Int) != 128) = false := by rw [ho]; rfl
    have hn1 : ((new.size : Int) != 128) = true := by rw [bne_iff_ne]; omega
    clear ho h
    go_enter Try.func16, Try.ntmps16
    go_wp2
    go_ret
    exact ⟨rfl, rfl⟩
  · have ho1 : ((old.size : Int) != 128) = true := by rw [bne_iff_ne]; omega
    clear ho h
    go_enter Try.func16, Try.ntmps16
    go_wp2
    go_ret
    exact ⟨rfl, rfl⟩
theorem survive_s (old new : ByteArray) (c : Nat) (hc : c ≤ 255) (w : World) :
    Calls Try.prog 16 #[.string old, .string new, .int .u8 c] w fun e w' => e = .returned (.string (surv old new c)) ∧ w = w' := by
  unfold surv
  split
  · rename_i h; exact survive_c old new c hc h.1 h.2 w
  · rename_i h; exact survive_e old new c h w
theorem survive_p (old new : ByteArray) (c : Nat) (hc : c ≤ 255) : Pure Try.prog 16 #[.string old, .string new, .int .u8 c] (.string (surv old new c)) := fun w =>
  (survive_s old new c hc w).mono fun e w' h => ⟨h.1, by rw [← h.2]; exact Below.refl _ w⟩
end Go.Proofs.Ytombldjaipcloaa
