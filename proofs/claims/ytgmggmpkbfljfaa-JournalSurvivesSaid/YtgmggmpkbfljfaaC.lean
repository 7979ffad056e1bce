/- Survive of the program returns what survives, by its definition. -/
import Derived.Test.YtgmggmpkbfljfaaB
set_option linter.unusedVariables false
set_option linter.unusedSimpArgs false
set_option maxRecDepth 100000
namespace Go.Proofs.Ytgmggmpkbfljfaa
open Go.RowKit

theorem survTo_cells (s : ByteArray) (t : ByteArray) : Lib.strCells s ++ Lib.strCells t = Lib.strCells (s ++ t) := by
  simp [Lib.strCells, ByteArray.data_append]
theorem bit_int (c k : Nat) : (((c : Int) / 2 ^ k).tmod 2 == 1) = bit c k := by
  unfold bit
  rw [show ((c : Int) / 2 ^ k) = ((c / 2 ^ k : Nat) : Int) from by simp, Int.tmod_eq_emod_of_nonneg (Int.natCast_nonneg _)]
  generalize c / 2 ^ k = d
  rw [Bool.eq_iff_iff, beq_iff_eq, beq_iff_eq]
  omega
set_option maxHeartbeats 2000000 in
theorem Survive_c (old new : ByteArray) (c : Nat) (hc : c ≤ 255) (ho : old.size = 128) (hn : new.size = 128) (w : World) :
    Calls Try.prog 62 #[.string old, .string new, .int .u8 c] w fun e w' => e = .returned (.string (survTo old new c 4)) ∧ Below w.heap.size w w' := by
  have ho1 : ((old.size : Int) != 128) = false := by rw [ho]; rfl
  have hn1 : ((new.size : Int) != 128) = false := by rw [hn]; rfl
  have ho2 : old.size ≤ 128 ∧ 128 ≤ old.size := by omega
  have hn2 : new.size ≤ 128 ∧ 128 ≤ new.size := by omega
  have ho3 := ho2.2
  have hn3 := hn2.2
  clear ho hn
  go_enter Try.func62, Try.ntmps62
  go_wp2_with fail
  go_loopw [9, 18] (fun _ i wr => ∃ k : Nat, k ≤ 4 ∧ i = .int .i64 k ∧ Lib.IsBuilder 93 5 w.heap.size w.heap.size (Lib.strCells (survTo old new c k)) wr ∧ Below w.heap.size w wr ∧ w.heap.size + 1 ≤ wr.heap.size) (fun _ i _ => 4 - (intOf i).toNat)
  case atStart => exact ⟨0, by omega, rfl, Lib.fresh_isBuilder _ _ w, (Below.refl _ w).alloc (Nat.le_refl _) _, by simp⟩
  case round =>
    obtain ⟨k, hk, rfl, hbl, hbe, hsz⟩ := hrel
    have hs : (survTo old new c k).size ≤ 128 := by rw [survTo_size old new c ho3 hn3 k hk]; omega
    by_cases hlt : k < 4
    · have hbi := bit_int c k
      have H4 : ∀ x : ByteArray, (if bit c k then blk new k else blk old k) = x → Hid (survTo old new c (k + 1) = survTo old new c k ++ x) := fun x hx => by show survTo _ _ _ (k + 1) = _; rw [survTo, hx]
      have hle : (Lib.strCells (survTo old new c k)).length ≤ 128 := by rw [Lib.strCells_length]; exact hs
      have hx : ∀ s : ByteArray, (s.extract (k * 32) ((k + 1) * 32)) = blk s k := fun s => by unfold blk; rw [Nat.mul_comm k 32, show (k + 1) * 32 = 32 * k + 32 from by omega]
      have hsz2 : ∀ s : ByteArray, 128 ≤ s.size → (blk s k).size ≤ 128 := fun s hs => by unfold blk; rw [ByteArray.size_extract]; omega
      cases hbit : bit c k
      · rw [hbit] at hbi
        have Hs := H4 (blk old k) (by rw [hbit]; rfl)
        have hso := hsz2 old ho3
        have HX := Lib.hid (hx old)
        clear hbit H4 hx hsz2
        go_wp2_with fail
        rw [HX.out]
        refine (writeString_c w.heap.size w.heap.size _ (blk old k) wr hbl (by omega) (by omega)).mono ?_
        rintro e w1 ⟨rfl, h1, hb1⟩
        have hsz1 := hb1.size
        go_wp2
        go_roundw
        case rel => exact ⟨k + 1, by omega, by go_num, by rw [Hs.out, ← survTo_cells]; exact Or.inr h1, hbe.trans hb1, by omega⟩
        case measure => simp [intOf]; omega
      · rw [hbit] at hbi
        have Hs := H4 (blk new k) (by rw [hbit]; rfl)
        have hso := hsz2 new hn3
        have HX := Lib.hid (hx new)
        clear hbit H4 hx hsz2
        go_wp2_with fail
        rw [HX.out]
        refine (writeString_c w.heap.size w.heap.size _ (blk new k) wr hbl (by omega) (by omega)).mono ?_
        rintro e w1 ⟨rfl, h1, hb1⟩
        have hsz1 := hb1.size
        go_wp2
        go_roundw
        case rel => exact ⟨k + 1, by omega, by go_num, by rw [Hs.out, ← survTo_cells]; exact Or.inr h1, hbe.trans hb1, by omega⟩
        case measure => simp [intOf]; omega
    · obtain rfl : k = 4 := by omega
      go_wp2_with fail
      refine (Try.Builder_String_any w.heap.size w.heap.size (survTo old new c 4).data.toList wr hbl (by omega)).mono ?_
      rintro e w1 ⟨rfl, hb1⟩
      go_wp2
      go_ret
      exact ⟨rfl, hbe.trans hb1⟩
set_option maxHeartbeats 1000000 in
theorem Survive_e (old new : ByteArray) (c : Nat) (h : ¬ (old.size = 128 ∧ new.size = 128)) (w : World) :
    Calls Try.prog 62 #[.string old, .string new, .int .u8 c] w fun e w' => e = .returned (.string ⟨#[]⟩) ∧ w = w' := by
  by_cases ho : old.size = 128
  · have ho1 : ((old.size : Int) != 128) = false := by rw [ho]; rfl
    have hn1 : ((new.size : Int) != 128) = true := by rw [bne_iff_ne]; omega
    clear ho h
    go_enter Try.func62, Try.ntmps62
    go_wp2
    go_ret
    exact ⟨rfl, rfl⟩
  · have ho1 : ((old.size : Int) != 128) = true := by rw [bne_iff_ne]; omega
    clear ho h
    go_enter Try.func62, Try.ntmps62
    go_wp2
    go_ret
    exact ⟨rfl, rfl⟩
theorem Survive_p (old new : ByteArray) (c : Nat) (hc : c ≤ 255) : Pure Try.prog 62 #[.string old, .string new, .int .u8 c] (.string (surv old new c)) := fun w => by
  unfold surv
  split
  · rename_i h; exact Survive_c old new c hc h.1 h.2 w
  · rename_i h; exact (Survive_e old new c h w).mono fun e w' h => ⟨h.1, by rw [← h.2]; exact Below.refl _ w⟩
end Go.Proofs.Ytgmggmpkbfljfaa
