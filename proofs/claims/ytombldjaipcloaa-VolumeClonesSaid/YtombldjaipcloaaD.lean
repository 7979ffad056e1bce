/- The data of an operation. -/
import Derived.Test.YtombldjaipcloaaO
set_option linter.unusedVariables false
set_option linter.unusedSimpArgs false
namespace Go.Proofs.Ytombldjaipcloaa
open Go.RowKit
def oneS (c : Int) : ByteArray := strOfNums [c]
def opData (d : Int) : ByteArray :=
  if d % 16 = 0 then (fillS d).extract 0 127 else if d % 16 = 1 ∨ d % 16 = 2 ∨ d % 16 = 3 then (fillS d).extract 0 40 ++ oneS ((d + 7) % 256) ++ (fillS d).extract 41 128 else fillS d
theorem oneS_size (c : Int) : (oneS c).size = 1 := by unfold oneS; rw [strOfNums_size]; rfl
theorem conv_one (c : Int) (w : World) : (convert 36 9 (.slice (some ⟨w.heap.size, 0, none⟩) 1 1)).run Try.prog (w.alloc (.cells #[.int .u8 c] 5)) = .ok (.string (oneS c)) (w.alloc (.cells #[.int .u8 c] 5)) := by
  refine run_convert_bytes_arg (P := Try.prog) (w.alloc (.cells #[.int .u8 c] 5)) 36 5 Try.underlying36 Try.underlying5 w.heap.size 0 1 1 [c] rfl ?_ 9 Try.underlying9
  intro i hi
  obtain rfl : i = 0 := by omega
  exact (Boxed.new w 5 (.int .u8 c)).cell
theorem lt_of_cell {w : World} {b i : Nat} {v : Value} (h : w.cell? ⟨b, i, none⟩ = some v) : b < w.heap.size := World.block_lt_of_cell? w _ h
set_option maxRecDepth 100000 in
set_option maxHeartbeats 1000000 in
theorem data_c (k s d : Int) (sv : Value) (so : Option Addr) (sl sc : Nat) (hsv : sv = .slice so sl sc) (hd : 0 ≤ d ∧ d ≤ 255) (w : World) :
    Calls Try.prog 28 #[.agg #[.int .u8 k, .int .i16 s, .int .u8 d, sv]] w fun e w' => e = .returned (.string (opData d)) ∧ Below w.heap.size w w' := by
  subst hsv
  obtain ⟨hd1, hd2⟩ := hd
  have hf : (fillS d).size = 128 := fillS_size d
  have hf1 : 127 ≤ (fillS d).size := by omega
  have hf2 : (fillS d).size ≤ 128 := by omega
  have hf3 : 41 ≤ (fillS d).size := by omega
  have hf4 : 40 ≤ (fillS d).size := by omega
  have hone : ∀ w : World, (convert 36 9 (.slice (some ⟨w.heap.size, 0, none⟩) 1 1)).run Try.prog (w.alloc (.cells #[.int .u8 ((d + 7) % 256)] 5)).drew = .ok (.string (oneS ((d + 7) % 256))) (w.alloc (.cells #[.int .u8 ((d + 7) % 256)] 5)).drew := fun w => conv_one ((d + 7) % 256) w.drew
  have hwr : IntKind.u8.wrap (d + 7) = (d + 7) % 256 := by rw [IntKind.wrap_u8]
  have h1s : (oneS ((d + 7) % 256)).size ≤ 1 := by rw [oneS_size]; omega
  have Hf := Lib.hid hf
  clear hf
  generalize ho1 : oneS ((d + 7) % 256) = o1 at *
  have Ho1 := Lib.hid ho1
  clear ho1
  by_cases h0 : d % 16 = 0
  · have hp : opData d = (fillS d).extract 0 127 := by unfold opData; rw [if_pos h0]
    rw [hp]
    have t0 : (d % 16 == 0) = true := by rw [beq_iff_eq]; exact h0
    clear h0 hp hone
    go_enter Try.func28, Try.ntmps28
    go_wp2_with fail
    refine (fill_p d _).mono ?_
    rintro e w1 ⟨rfl, hb1⟩
    have hc1 := Below.cellAt hb1 (a := ⟨w.heap.size, 2, none⟩) (v := .int .u8 d) (by simp [go_sem])
    have B1 : Hid (Below w.heap.size w w1) := ((Below.refl _ w).alloc (Nat.le_refl _) _).trans (hb1.mono (by simp))
    clear hb1
    go_wp2_with fail
    go_returns
    exact ⟨rfl, B1.out⟩
  · have t0 : (d % 16 == 0) = false := by rw [beq_eq_false_iff_ne]; exact h0
    by_cases h1 : d % 16 = 1 ∨ d % 16 = 2 ∨ d % 16 = 3
    · have hp : opData d = (fillS d).extract 0 40 ++ oneS ((d + 7) % 256) ++ (fillS d).extract 41 128 := by unfold opData; rw [if_neg h0, if_pos h1]
      rw [Ho1.out] at hp
      have HP := Lib.hid hp
      rw [HP.out]
      have hx1 : ((fillS d).extract 0 40).size ≤ 40 := by rw [ByteArray.size_extract]; omega
      have hx2 : ((fillS d).extract 41 128).size ≤ 87 := by rw [ByteArray.size_extract]; omega
      have hx3 : (fillS d).extract 41 (fillS d).size = (fillS d).extract 41 128 := by rw [Hf.out]
      have HX3 := Lib.hid hx3
      have hy1 : (41 : Int) ≤ (fillS d).size := by omega
      have hy2 : (40 : Int) ≤ (fillS d).size := by omega
      have a1 : ∀ w, (Op.stringOp .add ((fillS d).extract 0 40) o1).run Try.prog w = .ok (.string ((fillS d).extract 0 40 ++ o1)) w := fun w => run_string_add_sum w _ _ (by omega)
      have a2 : ∀ w, (Op.stringOp .add ((fillS d).extract 0 40 ++ o1) ((fillS d).extract 41 (fillS d).size)).run Try.prog w = .ok (.string ((fillS d).extract 0 40 ++ o1 ++ (fillS d).extract 41 (fillS d).size)) w := fun w => run_string_add_sum w _ _ (by rw [HX3.out, ByteArray.size_append]; omega)
      clear h0 hp hx1 hx2 hx3 h1s
      rcases h1 with h1 | h1 | h1
      · have t1 : (d % 16 == 1) = true := by rw [beq_iff_eq]; exact h1
        clear h1
        go_enter Try.func28, Try.ntmps28
        go_wp2_with fail
        refine (fill_p d _).mono ?_
        rintro e w1 ⟨rfl, hb1⟩
        have hc1 := Below.cellAt hb1 (a := ⟨w.heap.size, 2, none⟩) (v := .int .u8 d) (by simp [go_sem])
        have B1 := ((Below.refl _ w).alloc (Nat.le_refl _) (.cells #[.int .u8 k, .int .i16 s, .int .u8 d, .slice so sl sc] 38)).trans (hb1.mono (by simp))
        clear hb1
        go_wp2_with fail
        go_region_with (fail)
        all_goals
          rw [HX3.out]
          go_wp2_with fail
          go_returns
          exact ⟨rfl, (B1.alloc B1.size _).drew⟩
      · have t1 : (d % 16 == 1) = false := by rw [beq_eq_false_iff_ne]; omega
        have t2 : (d % 16 == 2) = true := by rw [beq_iff_eq]; exact h1
        clear h1
        go_enter Try.func28, Try.ntmps28
        go_wp2_with fail
        refine (fill_p d _).mono ?_
        rintro e w1 ⟨rfl, hb1⟩
        have hc1 := Below.cellAt hb1 (a := ⟨w.heap.size, 2, none⟩) (v := .int .u8 d) (by simp [go_sem])
        have B1 := ((Below.refl _ w).alloc (Nat.le_refl _) (.cells #[.int .u8 k, .int .i16 s, .int .u8 d, .slice so sl sc] 38)).trans (hb1.mono (by simp))
        clear hb1
        go_wp2_with fail
        go_region_with (fail)
        all_goals
          rw [HX3.out]
          go_wp2_with fail
          go_returns
          exact ⟨rfl, (B1.alloc B1.size _).drew⟩
      · have t1 : (d % 16 == 1) = false := by rw [beq_eq_false_iff_ne]; omega
        have t2 : (d % 16 == 2) = false := by rw [beq_eq_false_iff_ne]; omega
        have t3 : (d % 16 == 3) = true := by rw [beq_iff_eq]; exact h1
        clear h1
        go_enter Try.func28, Try.ntmps28
        go_wp2_with fail
        refine (fill_p d _).mono ?_
        rintro e w1 ⟨rfl, hb1⟩
        have hc1 := Below.cellAt hb1 (a := ⟨w.heap.size, 2, none⟩) (v := .int .u8 d) (by simp [go_sem])
        have B1 := ((Below.refl _ w).alloc (Nat.le_refl _) (.cells #[.int .u8 k, .int .i16 s, .int .u8 d, .slice so sl sc] 38)).trans (hb1.mono (by simp))
        clear hb1
        go_wp2_with fail
        go_region_with (fail)
        all_goals
          rw [HX3.out]
          go_wp2_with fail
          go_returns
          exact ⟨rfl, (B1.alloc B1.size _).drew⟩
    · have hp : opData d = fillS d := by unfold opData; rw [if_neg h0, if_neg h1]
      rw [hp]
      have t1 : (d % 16 == 1) = false := by rw [beq_eq_false_iff_ne]; omega
      have t2 : (d % 16 == 2) = false := by rw [beq_eq_false_iff_ne]; omega
      have t3 : (d % 16 == 3) = false := by rw [beq_eq_false_iff_ne]; omega
      clear h0 h1 hp hone
      go_enter Try.func28, Try.ntmps28
      go_wp2_with fail
      refine (fill_p d _).mono ?_
      rintro e w1 ⟨rfl, hb1⟩
      have hc1 := Below.cellAt hb1 (a := ⟨w.heap.size, 2, none⟩) (v := .int .u8 d) (by simp [go_sem])
      have B1 : Hid (Below w.heap.size w w1) := ((Below.refl _ w).alloc (Nat.le_refl _) _).trans (hb1.mono (by simp))
      clear hb1
      go_wp2_with fail
      go_returns
      exact ⟨rfl, B1.out⟩
theorem data_p (o : OpV) (w : World) (h : o.ok w) : ∃ so sl sc, o.scr = .slice so sl sc := by
  rcases h.scr with ⟨a, c, h1, _⟩ | ⟨sb, so, c, h1, _⟩
  · exact ⟨_, _, _, h1⟩
  · exact ⟨_, _, _, h1⟩
theorem opData_size (d : Int) : (opData d).size = 128 ∨ (opData d).size = 127 := by
  have hf : (fillS d).size = 128 := fillS_size d
  unfold opData
  split
  · right; rw [ByteArray.size_extract, hf]; rfl
  · split
    · left; rw [ByteArray.size_append, ByteArray.size_append, ByteArray.size_extract, ByteArray.size_extract, hf, oneS_size]; rfl
    · left; exact hf
end Go.Proofs.Ytombldjaipcloaa
