/- The sector of equal bytes, and what survives of a write. -/
import Derived.Test.YtgmggmpkbfljfaaBase
set_option linter.unusedVariables false
set_option linter.unusedSimpArgs false
namespace Go.Proofs.Ytgmggmpkbfljfaa
open Go.RowKit

def row (c : Int) (k : Nat) : Array Value := ((List.replicate k (Value.int .u8 c)) ++ (List.replicate (128 - k) (Value.int .u8 0))).toArray
theorem row_set (c : Int) (k : Nat) (h : k < 128) : (row c k).setIfInBounds k (.int .u8 c) = row c (k+1) := by
  unfold row
  rw [List.setIfInBounds_toArray]
  congr 1
  rw [List.set_append_right _ _ (by simp)]
  simp only [List.length_replicate, Nat.sub_self]
  obtain ⟨m, hm⟩ : ∃ m, 128 - k = m + 1 := ⟨127 - k, by omega⟩
  rw [hm, show 128 - (k+1) = m from by omega, List.replicate_succ, List.set_cons_zero, List.replicate_succ' (n := k)]
  simp
theorem row_get (c : Int) (k : Nat) (h : k < 128) : (row c k)[k]? = some (.int .u8 0) := by
  unfold row
  rw [List.getElem?_toArray, List.getElem?_append_right (by simp), List.length_replicate, Nat.sub_self, List.getElem?_replicate, if_pos (by omega)]
theorem row_cells (c : Int) (w : World) : ∀ i, i < 128 → (w.alloc (.cells (row c 128) 5)).cell? ⟨w.heap.size, 0 + i, none⟩ = some (.int .u8 ((List.replicate 128 c).getD i 0)) := by
  intro i hi
  rw [Nat.zero_add, World.cell?_alloc_at _ _ _ _ rfl]
  unfold row
  rw [List.getElem?_toArray, List.getElem?_append_left (by simp; omega), List.getElem?_replicate, if_pos (by omega), show (List.replicate 128 c).getD i 0 = c from by rw [List.getD_eq_getElem?_getD, List.getElem?_replicate, if_pos (by omega)]; rfl]
def fillS (c : Int) : ByteArray := strOfNums (List.replicate 128 c)
theorem fillS_size (c : Int) : (fillS c).size = 128 := by unfold fillS; rw [strOfNums_size]; simp
theorem mk128 (w : World) : (Instr.makeSlice 30 (.int .i64 128) (.int .i64 128)).run Try.prog w = .ok (.slice (some ⟨w.heap.size, 0, none⟩) 128 128) (w.alloc (.cells (row 0 0) 5)) := by
  kernel_rfl
/-! ### survive -/
def blk (s : ByteArray) (i : Nat) : ByteArray := s.extract (32 * i) (32 * i + 32)
def bit (c i : Nat) : Bool := c / 2 ^ i % 2 == 1
def survTo (old new : ByteArray) (c : Nat) : Nat → ByteArray
  | 0 => ⟨#[]⟩
  | i + 1 => survTo old new c i ++ (if bit c i then blk new i else blk old i)
def surv (old new : ByteArray) (c : Nat) : ByteArray := if old.size = 128 ∧ new.size = 128 then survTo old new c 4 else ⟨#[]⟩

theorem survTo_size (old new : ByteArray) (c : Nat) (ho : 128 ≤ old.size) (hn : 128 ≤ new.size) : ∀ k, k ≤ 4 → (survTo old new c k).size = 32 * k
  | 0, _ => rfl
  | k + 1, h => by
    rw [survTo, ByteArray.size_append, survTo_size old new c ho hn k (by omega)]
    have e : ∀ s : ByteArray, 128 ≤ s.size → (blk s k).size = 32 := fun s hs => by unfold blk; rw [ByteArray.size_extract]; omega
    split
    · rw [e new hn]; omega
    · rw [e old ho]; omega
end Go.Proofs.Ytgmggmpkbfljfaa
