/- The device's methods, as calls that turn one object of a call's own. -/
import Derived.Test.YtgmggmpkbfljfaaR
import Derived.Test.YtgmggmpkbfljfaaSep
set_option linter.unusedVariables false
set_option linter.unusedSimpArgs false
set_option maxRecDepth 100000
namespace Go.Proofs.Ytgmggmpkbfljfaa
open Go.RowKit

def VolH (b mb : Nat) (v : Vol) : HP := fun w F => ∃ pv, VolAt w b mb pv v ∧ F = b :: mb :: pv.ownBlock.toList
theorem volH_stab (b mb : Nat) (v : Vol) : Stab (VolH b mb v) where
  keep := by
    rintro w w' F G ⟨pv, h, rfl⟩ hk hd
    exact ⟨pv, h.keep hk (hd b (by simp)) (hd mb (by simp)) (fun g hg => hd g (by simp [hg])), rfl⟩
  lt := by
    rintro w F ⟨pv, h, rfl⟩ x hx
    simp at hx
    rcases hx with rfl | rfl | hx
    · exact lt_of_heap h.blk
    · obtain ⟨es, clk, hm, _⟩ := h.map; exact lt_of_heap hm
    · exact (h.pend.lt x hx).2
theorem VolTo.to {w w' : World} {b mb : Nat} {pv : Value} {v' : Vol} (h : VolTo w b mb pv v' w') : To (VolH b mb v') (b :: mb :: pv.ownBlock.toList) w w' := by
  obtain ⟨pv', h1, h2, h3⟩ := h
  refine ⟨_, ⟨pv', h1, rfl⟩, h2, fun x hx => ?_⟩
  simp at hx
  rcases hx with rfl | rfl | hx
  · simp
  · simp
  · rcases h3 x hx with h | h
    · left; simp [← h]
    · exact .inr h
theorem write_m (b mb : Nat) (v : Vol) (s : Int) (d : ByteArray) : Met Try.prog 64 #[.pointer (some ⟨b, 0, none⟩), .int .i64 s, .string d] (.int .i64 (vWrite v s d).1) (VolH b mb v) (VolH b mb (vWrite v s d).2) := by
  rintro w F ⟨pv, h, rfl⟩
  exact (write_c w b mb pv v s d h).mono fun e w' h => ⟨h.1, h.2.to⟩
theorem barrier_m (b mb : Nat) (v : Vol) (hlen : v.pend.length ≤ 4096) : Met Try.prog 65 #[.pointer (some ⟨b, 0, none⟩)] (.int .i64 (vBarrier v).1) (VolH b mb v) (VolH b mb (vBarrier v).2) := by
  rintro w F ⟨pv, h, rfl⟩
  exact (barrier_c w b mb pv v h hlen).mono fun e w' h => ⟨h.1, h.2.to⟩
theorem crash_m (b mb : Nat) (v : Vol)  : Met Try.prog 29 #[.pointer (some ⟨b, 0, none⟩)] (.tuple #[]) (VolH b mb v) (VolH b mb { v with down := true }) := by
  rintro w F ⟨pv, h, rfl⟩
  exact (crash_c w b mb pv v h).mono fun e w' h => ⟨h.1, (VolAt.step h.2.1 h.2.2 (by simp)).to⟩
theorem limit_m (b mb : Nat) (v : Vol) (n : Int) : Met Try.prog 35 #[.pointer (some ⟨b, 0, none⟩), .int .i64 n] (.tuple #[]) (VolH b mb v) (VolH b mb { v with limited := true, left := max 0 n }) := by
  rintro w F ⟨pv, h, rfl⟩
  exact (limit_c w b mb pv v n h).mono fun e w' h => ⟨h.1, (VolAt.step h.2.1 h.2.2 (by simp)).to⟩
theorem read_m (b mb : Nat) (v : Vol) (s : Int) (hlen : v.pend.length ≤ 4096) : Met Try.prog 53 #[.pointer (some ⟨b, 0, none⟩), .int .i64 s] (.tuple #[.string (vRead v s).1, .int .i64 (vRead v s).2]) (VolH b mb v) (VolH b mb v) := by
  rintro w F hF
  have h0 := hF
  obtain ⟨pv, h, rfl⟩ := hF
  exact (read_c w b mb pv v s h hlen).mono fun e w' h => ⟨h.1, To.of_keep (volH_stab _ _ _) h0 (h.2)⟩
theorem len_m (b mb : Nat) (v : Vol)  : Met Try.prog 63 #[.pointer (some ⟨b, 0, none⟩)] (.int .i64 v.sectors) (VolH b mb v) (VolH b mb v) := by
  rintro w F hF
  have h0 := hF
  obtain ⟨pv, h, rfl⟩ := hF
  exact (len_c w b mb pv v h).mono fun e w' h => ⟨h.1, To.of_keep (volH_stab _ _ _) h0 (h.2 ▸ Keep.refl _ _)⟩
theorem down_m (b mb : Nat) (v : Vol)  : Met Try.prog 37 #[.pointer (some ⟨b, 0, none⟩)] (.bool v.down) (VolH b mb v) (VolH b mb v) := by
  rintro w F hF
  have h0 := hF
  obtain ⟨pv, h, rfl⟩ := hF
  exact (down_c w b mb pv v h).mono fun e w' h => ⟨h.1, To.of_keep (volH_stab _ _ _) h0 (h.2 ▸ Keep.refl _ _)⟩
theorem durable_m (b mb : Nat) (v : Vol) (s : Int) (h0 : 0 ≤ s) (h1 : s < v.sectors) : Met Try.prog 60 #[.pointer (some ⟨b, 0, none⟩), .int .i64 s] (.tuple #[.string (vDur v s), .int .i64 0]) (VolH b mb v) (VolH b mb v) := by
  rintro w F hF
  have h' := hF
  obtain ⟨pv, h, rfl⟩ := hF
  exact (durable_c w b mb pv v s h h0 h1).mono fun e w' h => ⟨h.1, To.of_keep (volH_stab _ _ _) h' h.2⟩
theorem start_m (b mb : Nat) (v : Vol) (sv : Value) (zs : List Nat) (hr : ∀ p ∈ v.pend, 0 ≤ p.1 ∧ p.1 < v.sectors) (hzl : zs.length ≤ 140737488355328) (hlen : v.pend.length ≤ 4096) (w : World) (F : List Nat) (hF : VolH b mb v w F) (hz : ByteRow w sv zs) :
    Calls Try.prog 38 #[.pointer (some ⟨b, 0, none⟩), sv] w fun e w' => e = .returned (.tuple #[]) ∧ To (VolH b mb (vStart v zs)) F w w' := by
  obtain ⟨pv, h, rfl⟩ := hF
  exact (start_c w b mb pv v sv zs h hr hz hzl hlen).mono fun e w' h => ⟨h.1, h.2.to⟩
/-- New beside what is there. -/
theorem new_o (n : Int) (w : World) (h1 : 1 ≤ n) (h2 : n ≤ 65536) :
    Calls Try.prog 25 #[.int .i64 n] w fun e w' => e = .returned (.tuple #[.pointer (some ⟨w.heap.size + 1, 0, none⟩), .int .i64 0]) ∧ VolH (w.heap.size + 1) w.heap.size (vNew n) w' [w.heap.size + 1, w.heap.size] ∧ Keep [] w w' :=
  (new_c n w h1 h2).mono fun e w' ⟨he, hw⟩ => ⟨he, by rw [hw]; exact ⟨_, new_at w n, rfl⟩, by rw [hw]; exact ((Keep.refl [] w).allocPast _).allocPast _⟩
theorem keepOwn {w0 w w' : World} {A : HP} (hA : Stab A) (h : Own0 w0 A w) (hb : Below w.heap.size w w') : Own0 w0 A w' := h.keep hA (Keep.of_below hb)
end Go.Proofs.Ytgmggmpkbfljfaa
