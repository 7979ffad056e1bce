/- A device that a call has made itself, and the first check of every statement of the layer. -/
import Derived.Test.YtombldjaipcloaaR
set_option linter.unusedVariables false
set_option linter.unusedSimpArgs false
namespace Go.Proofs.Ytombldjaipcloaa
open Go.RowKit

/-- A device made since the world w0, in which nothing else has turned. -/
def Dev (w0 : World) (b mb : Nat) (v : Vol) (w : World) : Prop :=
  ∃ pv, VolAt w b mb pv v ∧ Keep [] w0 w ∧ w0.heap.size ≤ b ∧ w0.heap.size ≤ mb ∧ ∀ g, pv.ownBlock = some g → w0.heap.size ≤ g
theorem Dev.keep {w0 w w' : World} {b mb : Nat} {v : Vol} (h : Dev w0 b mb v w) (hk : Keep [] w w') : Dev w0 b mb v w' := by
  obtain ⟨pv, h1, h2, h3, h4, h5⟩ := h
  exact ⟨pv, h1.keep hk (by simp) (by simp) (by simp), h2.trans hk (by simp), h3, h4, h5⟩
theorem Dev.to {w0 w w' : World} {b mb : Nat} {pv : Value} {v' : Vol} (h2 : Keep [] w0 w) (h3 : w0.heap.size ≤ b) (h4 : w0.heap.size ≤ mb) (h5 : ∀ g, pv.ownBlock = some g → w0.heap.size ≤ g) (h : VolTo w b mb pv v' w') : Dev w0 b mb v' w' := by
  obtain ⟨pv', k1, k2, k3⟩ := h
  refine ⟨pv', k1, h2.trans k2 (fun x hx => ?_), h3, h4, fun g hg => ?_⟩
  · simp at hx
    rcases hx with rfl | rfl | hx
    · exact .inr h3
    · exact .inr h4
    · exact .inr (h5 _ hx)
  · have hs := h2.size
    rcases k3 g hg with h | h
    · exact h5 g h.symm
    · omega
theorem Dev.below {w0 w : World} {b mb : Nat} {v : Vol} (h : Dev w0 b mb v w) : Below w0.heap.size w0 w := by obtain ⟨pv, _, h2, _⟩ := h; exact h2.below0
theorem new_d (n : Int) (w : World) (h1 : 1 ≤ n) (h2 : n ≤ 65536) :
    Calls Try.prog 17 #[.int .i64 n] w fun e w' => e = .returned (.tuple #[.pointer (some ⟨w.heap.size + 1, 0, none⟩), .int .i64 0]) ∧ Dev w (w.heap.size + 1) w.heap.size (vNew n) w' :=
  (new_c n w h1 h2).mono fun e w' ⟨he, hw⟩ => ⟨he, by rw [hw]; exact ⟨_, new_at w n, ((Keep.refl [] w).allocPast _).allocPast _, by omega, by omega, by simp [Value.ownBlock]⟩⟩
theorem write_d (w0 w : World) (b mb : Nat) (v : Vol) (s : Int) (d : ByteArray) (h : Dev w0 b mb v w) :
    Calls Try.prog 27 #[.pointer (some ⟨b, 0, none⟩), .int .i64 s, .string d] w fun e w' => e = .returned (.int .i64 (vWrite v s d).1) ∧ Dev w0 b mb (vWrite v s d).2 w' := by
  obtain ⟨pv, h1, h2, h3, h4, h5⟩ := h
  exact (write_c w b mb pv v s d h1).mono fun e w' h => ⟨h.1, Dev.to h2 h3 h4 h5 (h.2)⟩
theorem barrier_d (w0 w : World) (b mb : Nat) (v : Vol) (hlen : v.pend.length ≤ 4096) (h : Dev w0 b mb v w) :
    Calls Try.prog 26 #[.pointer (some ⟨b, 0, none⟩)] w fun e w' => e = .returned (.int .i64 (vBarrier v).1) ∧ Dev w0 b mb (vBarrier v).2 w' := by
  obtain ⟨pv, h1, h2, h3, h4, h5⟩ := h
  exact (barrier_c w b mb pv v h1 hlen).mono fun e w' h => ⟨h.1, Dev.to h2 h3 h4 h5 (h.2)⟩
theorem start_d (w0 w : World) (b mb : Nat) (v : Vol) (sv : Value) (zs : List Nat) (hr : ∀ p ∈ v.pend, 0 ≤ p.1 ∧ p.1 < v.sectors) (hz : ByteRow w sv zs) (hzl : zs.length ≤ 140737488355328) (hlen : v.pend.length ≤ 4096) (h : Dev w0 b mb v w) :
    Calls Try.prog 22 #[.pointer (some ⟨b, 0, none⟩), sv] w fun e w' => e = .returned (.tuple #[]) ∧ Dev w0 b mb (vStart v zs) w' := by
  obtain ⟨pv, h1, h2, h3, h4, h5⟩ := h
  exact (start_c w b mb pv v sv zs h1 hr hz hzl hlen).mono fun e w' h => ⟨h.1, Dev.to h2 h3 h4 h5 (h.2)⟩
theorem crash_d (w0 w : World) (b mb : Nat) (v : Vol)  (h : Dev w0 b mb v w) :
    Calls Try.prog 21 #[.pointer (some ⟨b, 0, none⟩)] w fun e w' => e = .returned (.tuple #[]) ∧ Dev w0 b mb { v with down := true } w' := by
  obtain ⟨pv, h1, h2, h3, h4, h5⟩ := h
  exact (crash_c w b mb pv v h1).mono fun e w' h => ⟨h.1, Dev.to h2 h3 h4 h5 (VolAt.step h.2.1 h.2.2 (by simp))⟩
theorem limit_d (w0 w : World) (b mb : Nat) (v : Vol) (n : Int) (h : Dev w0 b mb v w) :
    Calls Try.prog 25 #[.pointer (some ⟨b, 0, none⟩), .int .i64 n] w fun e w' => e = .returned (.tuple #[]) ∧ Dev w0 b mb { v with limited := true, left := max 0 n } w' := by
  obtain ⟨pv, h1, h2, h3, h4, h5⟩ := h
  exact (limit_c w b mb pv v n h1).mono fun e w' h => ⟨h.1, Dev.to h2 h3 h4 h5 (VolAt.step h.2.1 h.2.2 (by simp))⟩
theorem read_d (w0 w : World) (b mb : Nat) (v : Vol) (s : Int) (hlen : v.pend.length ≤ 4096) (h : Dev w0 b mb v w) :
    Calls Try.prog 24 #[.pointer (some ⟨b, 0, none⟩), .int .i64 s] w fun e w' => e = .returned (.tuple #[.string (vRead v s).1, .int .i64 (vRead v s).2]) ∧ Dev w0 b mb v w' := by
  have h0 := h
  obtain ⟨pv, h1, h2, h3, h4, h5⟩ := h
  exact (read_c w b mb pv v s h1 hlen).mono fun e w' h => ⟨h.1, h0.keep (h.2)⟩
theorem len_d (w0 w : World) (b mb : Nat) (v : Vol)  (h : Dev w0 b mb v w) :
    Calls Try.prog 31 #[.pointer (some ⟨b, 0, none⟩)] w fun e w' => e = .returned (.int .i64 v.sectors) ∧ Dev w0 b mb v w' := by
  have h0 := h
  obtain ⟨pv, h1, h2, h3, h4, h5⟩ := h
  exact (len_c w b mb pv v h1).mono fun e w' h => ⟨h.1, h0.keep (h.2 ▸ Keep.refl _ _)⟩
theorem down_d (w0 w : World) (b mb : Nat) (v : Vol)  (h : Dev w0 b mb v w) :
    Calls Try.prog 29 #[.pointer (some ⟨b, 0, none⟩)] w fun e w' => e = .returned (.bool v.down) ∧ Dev w0 b mb v w' := by
  have h0 := h
  obtain ⟨pv, h1, h2, h3, h4, h5⟩ := h
  exact (down_c w b mb pv v h1).mono fun e w' h => ⟨h.1, h0.keep (h.2 ▸ Keep.refl _ _)⟩
theorem counts_d (w0 w : World) (b mb : Nat) (v : Vol)  (h : Dev w0 b mb v w) :
    Calls Try.prog 38 #[.pointer (some ⟨b, 0, none⟩)] w fun e w' => e = .returned (.tuple #[.int .i64 v.writes, .int .i64 v.barriers]) ∧ Dev w0 b mb v w' := by
  have h0 := h
  obtain ⟨pv, h1, h2, h3, h4, h5⟩ := h
  exact (counts_c w b mb pv v h1).mono fun e w' h => ⟨h.1, h0.keep (h.2)⟩

/-! ### known -/
def k1 : Int × Vol := vWrite (vNew 2) 0 (fillS 97)
def k2 : Int × Vol := vBarrier k1.2
def k3 : Int × Vol := vWrite k2.2 0 (fillS 98)
def k3d : Vol := { k3.2 with down := true }
def k4 : Vol := vStart k3d [5]
def k5 : ByteArray × Int := vRead k4 0
theorem k1_ok : k1.1 = 0 := by decide +kernel
theorem k2_ok : k2.1 = 0 := by decide +kernel
theorem k3_ok : k3.1 = 0 := by decide +kernel
theorem k5_ok : k5 = ((fillS 98).extract 0 32 ++ (fillS 97).extract 0 32 ++ (fillS 98).extract 0 32 ++ (fillS 97).extract 0 32, 0) := by decide +kernel
theorem k6_ok : surv (fillS 97) (fillS 98) 15 = fillS 98 := by decide +kernel
theorem kl_ok : k1.2.pend.length ≤ 4096 ∧ k3d.pend.length ≤ 4096 ∧ k4.pend.length ≤ 4096 := by decide +kernel
theorem kr_ok : ∀ p ∈ k3d.pend, 0 ≤ p.1 ∧ p.1 < k3d.sectors := by decide +kernel

theorem byteRow5 (w : World) : ByteRow (w.alloc (.cells #[.int .u8 5] 5)) (.slice (some ⟨w.heap.size, 0, none⟩) 1 1) [5] := by
  refine .inr ⟨w.heap.size, 0, 1, rfl, fun i hi => ?_⟩
  simp at hi; subst hi
  refine ⟨?_, by simp⟩
  exact (Boxed.new w 5 (.int .u8 5)).cell
set_option maxRecDepth 100000 in
set_option maxHeartbeats 1000000 in
theorem known_c (w : World) : Calls Try.prog 13 #[] w fun e w' => e = .returned (.bool true) ∧ Below w.heap.size w w' := by
  go_enter Try.func13, Try.ntmps13
  go_wp2_with fail
  refine (new_d 2 w (by omega) (by omega)).mono ?_
  rintro e w1 ⟨rfl, d1⟩
  have D1 := Lib.hid d1; clear d1
  go_wp2_with fail
  refine (fill_p 97 w1).mono ?_
  rintro e w2 ⟨rfl, b2⟩
  have D2 := Lib.hid (D1.out.keep (Keep.of_below b2)); clear b2
  go_wp2_with fail
  refine (fill_p 98 w2).mono ?_
  rintro e w3 ⟨rfl, b3⟩
  have D3 := Lib.hid (D2.out.keep (Keep.of_below b3)); clear b3
  have s1 := fillS_size 97
  have s2 := fillS_size 98
  have Hs1 := Lib.hid s1; have Hs2 := Lib.hid s2; clear s1 s2
  go_wp2_with fail
  refine (write_d w w3 _ _ _ 0 (fillS 97) D3.out).mono ?_
  rintro e w4 ⟨rfl, d4⟩
  have D4 : Hid (Dev w (w.heap.size + 1) w.heap.size k1.2 w4) := d4
  rw [show (vWrite (vNew 2) 0 (fillS 97)).1 = 0 from k1_ok]
  clear d4
  go_wp2_with fail
  refine (barrier_d w w4 _ _ _ kl_ok.1 D4.out).mono ?_
  rintro e w5 ⟨rfl, d5⟩
  have D5 : Hid (Dev w (w.heap.size + 1) w.heap.size k2.2 w5) := d5
  rw [show (vBarrier k1.2).1 = 0 from k2_ok]
  clear d5
  go_wp2_with fail
  refine (write_d w w5 _ _ _ 0 (fillS 98) D5.out).mono ?_
  rintro e w6 ⟨rfl, d6⟩
  have D6 : Hid (Dev w (w.heap.size + 1) w.heap.size k3.2 w6) := d6
  rw [show (vWrite k2.2 0 (fillS 98)).1 = 0 from k3_ok]
  clear d6
  go_wp2_with fail
  refine (crash_d w w6 _ _ _ D6.out).mono ?_
  rintro e w7 ⟨rfl, d7⟩
  have D7 : Hid (Dev w (w.heap.size + 1) w.heap.size k3d w7) := d7
  clear d7
  go_wp2_with fail
  refine (start_d w _ _ _ _ _ [5] kr_ok (byteRow5 w7) (by simp) kl_ok.2.1 (D7.out.keep (Keep.alloc _ _ _))).mono ?_
  rintro e w8 ⟨rfl, d8⟩
  have D8 : Hid (Dev w (w.heap.size + 1) w.heap.size k4 w8) := d8
  clear d8
  go_wp2_with fail
  refine (read_d w w8 _ _ _ 0 kl_ok.2.2 D8.out).mono ?_
  rintro e w9 ⟨rfl, d9⟩
  rw [show vRead k4 0 = _ from k5_ok]
  have D9 := Lib.hid d9; clear d9
  go_wp2_with fail
  have Hk6 := Lib.hid k6_ok
  clear Hs1 Hs2 D1 D2 D3 D4 D5 D6 D7 D8
  have z1 : (fillS 97).size = 128 := fillS_size 97
  have z2 : (fillS 98).size = 128 := fillS_size 98
  generalize fillS 97 = sa at *
  generalize fillS 98 = sb at *
  have y1 : (32 : Int) ≤ sa.size := by omega
  have y2 : (32 : Int) ≤ sb.size := by omega
  have y3 : 32 ≤ sa.size := by omega
  have y4 : 32 ≤ sb.size := by omega
  have y5 : sa.size ≤ 128 := by omega
  have y6 : sb.size ≤ 128 := by omega
  clear z1 z2
  go_region_held3 (fun _ => True) (trivial) ((go_at_call 15; refine (Survive_p _ _ 15 (by omega) _).mono ?_; rintro e w10 ⟨rfl, hb10⟩))
  rw [Hk6.out, beq_self_eq_true]
  go_wp2_with fail
  go_returns
  exact ⟨rfl, D9.out.below.trans (((Below.refl _ w9).drew.trans hb10).mono D9.out.below.size)⟩
end Go.Proofs.Ytombldjaipcloaa
