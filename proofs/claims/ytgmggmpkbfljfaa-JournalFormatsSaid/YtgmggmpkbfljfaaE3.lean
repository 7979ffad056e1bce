/- The model's padding, and the bytes of a group. -/
import Derived.Test.YtgmggmpkbfljfaaE2
set_option linter.unusedVariables false
set_option linter.unusedSimpArgs false
set_option maxRecDepth 100000
namespace Go.Proofs.Ytgmggmpkbfljfaa
open Go.RowKit
theorem made_get (n i : Nat) (h : i < n) : (madeCells (Value.int .u8 0).cells n)[i]? = some (.int .u8 0) := by
  unfold madeCells
  rw [Array.getElem?_map, Array.getElem?_range, if_pos h]
  show some ((#[Value.int .u8 0] : Array Value)[i % 1]!) = _
  rw [Nat.mod_one]; rfl
theorem made_zeros (w : World) (n : Nat) (hn : n ≤ 140737488355328) : ∃ w', (Instr.makeSlice 30 (.int .i64 (n : Int)) (.int .i64 (n : Int))).run Try.prog w = .ok (.slice (some ⟨w.heap.size, 0, none⟩) n n) w' ∧
    (convert 30 9 (.slice (some ⟨w.heap.size, 0, none⟩) n n)).run Try.prog w' = .ok (.string (zerosS n)) w' ∧ Keep [] w w' := by
  obtain ⟨i0, hi, hz0, hz1, hz2⟩ := info_parts infoByte
  have hm := run_make (P := Try.prog) w 30 5 i0 _ Try.underlying30 hi hz0 .i64 .i64 (n : Int) (n : Int) (by omega) (by omega) (by rw [hz2]; omega) (by omega)
  rw [Int.toNat_natCast, hz1, Nat.mul_one] at hm
  refine ⟨_, hm, ?_, Keep.alloc [] _ _⟩
  have := run_convert_bytes_arg (P := Try.prog) (w.alloc (.cells (madeCells (Value.int .u8 0).cells n) 5)) 30 5 Try.underlying30 Try.underlying5 w.heap.size 0 n n (List.replicate n 0) (by simp) (fun i hi => by
    rw [Nat.zero_add, World.cell?_alloc_at _ _ _ _ rfl, made_get n i hi, List.getD_eq_getElem?_getD, List.getElem?_replicate, if_pos hi]; rfl) 9 Try.underlying9
  rw [this]
  congr 2
  unfold strOfNums zerosS
  congr 1
  rw [List.map_replicate]; rfl
set_option maxHeartbeats 2000000 in
theorem paddedM_c (w : World) (s : ByteArray) (hs : s.size ≤ 140737488350000) (h0 : 0 < s.size) :
    Calls Try.prog 42 #[.string s] w fun e w' => e = .returned (.string (padS s)) ∧ Keep [] w w' := by
  have hne : ((s.size : Int) == 0) = false := by rw [beq_eq_false_iff_ne]; omega
  by_cases hm : s.size % 128 = 0
  · have hmi : ((s.size : Int) % 128 != 0) = false := by rw [bne_eq_false_iff_eq]; omega
    have hp : padS s = s := by
      unfold padS padN
      rw [hm]
      show s ++ ByteArray.empty = s
      simp
    rw [hp]
    clear hm hp
    go_enter Try.func42, Try.ntmps42
    go_wp2_with fail
    refine wp_loop_rounds 1 ?_
    rw [rounds_succ]
    go_wp2_with fail
    go_ret
    exact ⟨rfl, Keep.refl _ _⟩
  · have hmi : ((s.size : Int) % 128 != 0) = true := by rw [bne_iff_ne]; omega
    obtain ⟨p, hp⟩ : ∃ p, padN s.size = p := ⟨_, rfl⟩
    have hpe : p = 128 - s.size % 128 := by rw [← hp]; unfold padN; omega
    have hps : padS s = s ++ zerosS p := by unfold padS; rw [hp]
    rw [hps]
    have hr : (128 - (s.size : Int) % 128) = (p : Int) := by omega
    have hp1 : p ≤ 128 := by omega
    obtain ⟨wm, hmk, hcz, hkm⟩ := made_zeros w p (by omega)
    have Hkm := Lib.hid hkm
    clear hkm
    have hz1 : ((s.size + p : Nat) : Int) % 128 = 0 := by omega
    have hz2 : ((s.size : Int) + ((zerosS p).size : Int) == 0) = false := by rw [zerosS_size, beq_eq_false_iff_ne]; omega
    have hz3 : (((s.size : Int) + ((zerosS p).size : Int)) % 128 != 0) = false := by rw [zerosS_size, ← Int.natCast_add, hz1]; rfl
    have hzz : (zerosS p).size ≤ 128 := by rw [zerosS_size]; omega
    clear hm hp hps hpe hz1
    go_enter Try.func42, Try.ntmps42
    go_wp2_with fail
    refine wp_loop_rounds 2 ?_
    rw [rounds_succ]
    go_wp2_with fail
    rw [rounds_succ]
    go_wp2_with fail
    go_ret
    exact ⟨rfl, Hkm.out⟩
end Go.Proofs.Ytgmggmpkbfljfaa
