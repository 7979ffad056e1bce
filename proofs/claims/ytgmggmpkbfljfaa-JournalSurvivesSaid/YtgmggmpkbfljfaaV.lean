/- The device in memory, and the contracts of its small methods. -/
import Derived.Test.YtgmggmpkbfljfaaMap
import Derived.Test.YtgmggmpkbfljfaaC
set_option linter.unusedVariables false
set_option linter.unusedSimpArgs false
set_option maxRecDepth 100000
namespace Go.Proofs.Ytgmggmpkbfljfaa
open Go.RowKit

structure Vol where
  sectors : Int
  dur : IS
  pend : IS
  limited : Bool
  down : Bool
  left : Int
  writes : Int
  barriers : Int

def pcells (p : IS) : List Value := p.flatMap fun x => [.int .i64 x.1, .string x.2]
def vcells (mb : Nat) (pv : Value) (v : Vol) : Array Value :=
  #[.int .i64 v.sectors, .map (some mb), pv, .bool v.limited, .bool v.down, .int .i64 v.left, .int .i64 v.writes, .int .i64 v.barriers]
structure VolAt (w : World) (b mb : Nat) (pv : Value) (v : Vol) : Prop where
  blk : w.heap[b]? = some (.cells (vcells mb pv v) 88 (0, 0))
  map : MapAt w mb v.dur
  pend : w.ownsRow 0 105 2 pv v.pend.length (pcells v.pend)

theorem VolAt.keep {w w' : World} {b mb : Nat} {pv : Value} {v : Vol} {F : List Nat} (h : VolAt w b mb pv v) (hk : Keep F w w') (h1 : b ∉ F) (h2 : mb ∉ F) (h3 : ∀ g, pv.ownBlock = some g → g ∉ F) : VolAt w' b mb pv v := by
  refine ⟨hk.heap h.blk h1, ?_, ?_⟩
  · obtain ⟨es, clk, hb, he⟩ := h.map
    exact ⟨es, clk, hk.heap hb h2, he⟩
  · refine ⟨h.pend.1, ?_⟩
    rcases h.pend.2 with hn | ⟨g, cap, cur, hv, hb, hg, rest⟩
    · exact .inl hn
    · exact .inr ⟨g, cap, cur, hv, hb, hk.heap hg (h3 g (by rw [hv]; rfl)), rest⟩
/-- A store into a field of the device. -/
theorem VolAt.mb_ne {w : World} {b mb : Nat} {pv : Value} {v : Vol} (h : VolAt w b mb pv v) : mb ≠ b := by
  intro e; subst e
  obtain ⟨es, clk, hb, _⟩ := h.map
  rw [h.blk] at hb; cases hb
theorem VolAt.pv_ne {w : World} {b mb : Nat} {pv : Value} {v : Vol} (h : VolAt w b mb pv v) : ∀ g, pv.ownBlock = some g → g ≠ b ∧ g ≠ mb := by
  intro g hg
  rcases h.pend.2 with ⟨hv, _⟩ | ⟨g', cap, cur, hv, _, hgg, _⟩
  · rw [hv] at hg; cases hg
  · rw [hv] at hg; cases hg
    refine ⟨fun e => ?_, fun e => ?_⟩ <;> dsimp only at e
    · have h1 := hgg; have h2 := h.blk; rw [e] at h1; rw [h2] at h1
      injection h1 with h1; injection h1 with h1 h3; cases h3
    · obtain ⟨es, clk, hb, _⟩ := h.map
      have h1 := hgg; rw [e] at h1; rw [hb] at h1; cases h1
theorem VolAt.set {w : World} {b mb : Nat} {pv : Value} {v v' : Vol} (h : VolAt w b mb pv v) (i : Nat) (x : Value) (hc : (vcells mb pv v).setIfInBounds i x = vcells mb pv v') (hd : v'.dur = v.dur) (hp : v'.pend = v.pend) :
    VolAt (w.setCell ⟨b, i, none⟩ x) b mb pv v' := by
  have hk : Keep [b] w (w.setCell ⟨b, i, none⟩ x) := Keep.setCell _ _ _ _ _ (by simp)
  refine ⟨by rw [set_same h.blk, hc], ?_, ?_⟩
  · obtain ⟨es, clk, hb, he⟩ := h.map
    exact ⟨es, clk, hk.heap hb (by simpa using h.mb_ne), by rw [hd]; exact he⟩
  · rw [hp]
    refine ⟨h.pend.1, ?_⟩
    rcases h.pend.2 with hn | ⟨g, cap, cur, hv, hb, hg, rest⟩
    · exact .inl hn
    · exact .inr ⟨g, cap, cur, hv, hb, hk.heap hg (by simpa using (h.pv_ne g (by rw [hv]; rfl)).1), rest⟩

def vOp (v : Vol) : Bool × Vol := if v.limited then if v.left ≤ 0 then (true, { v with down := true }) else (false, { v with left := wrap64 (v.left - 1) }) else (false, v)

set_option maxHeartbeats 1000000 in
theorem operate_c (w : World) (b mb : Nat) (pv : Value) (v : Vol) (h : VolAt w b mb pv v) :
    Calls Try.prog 75 #[.pointer (some ⟨b, 0, none⟩)] w fun e w' => e = .returned (.bool (vOp v).1) ∧ VolAt w' b mb pv (vOp v).2 ∧ Keep [b] w w' := by
  have hc := cell_of h.blk
  have hf := frozen_of h.blk
  have H := Lib.hid h
  clear h
  obtain ⟨sectors, dur, pend, limited, down, left, writes, barriers⟩ := v
  unfold vOp
  simp only [vcells] at hc
  cases limited
  · go_enter Try.func75, Try.ntmps75
    go_wp2
    go_ret
    exact ⟨rfl, H.out, Keep.refl _ _⟩
  · by_cases hl : left ≤ 0
    · go_enter Try.func75, Try.ntmps75
      go_wp2
      go_ret
      simp only [hl, if_true]
      exact ⟨rfl, H.out.set _ _ rfl rfl rfl, Keep.setCell _ _ _ _ _ (by simp)⟩
    · have hl' : 0 < left := by omega
      go_enter Try.func75, Try.ntmps75
      go_wp2
      go_ret
      simp only [hl, if_true, if_false]
      exact ⟨rfl, H.out.set _ _ rfl rfl rfl, Keep.setCell _ _ _ _ _ (by simp)⟩

/-! ### check, zero, New, Len, Down, Limit, Crash, Counts -/
def vCheck (v : Vol) (s : Int) : Int := if v.down then 20 else if s < 0 ∨ v.sectors ≤ s then 2 else 0
set_option maxHeartbeats 1000000 in
theorem check_c (w : World) (b mb : Nat) (pv : Value) (v : Vol) (s : Int) (h : VolAt w b mb pv v) :
    Calls Try.prog 71 #[.pointer (some ⟨b, 0, none⟩), .int .i64 s] w fun e w' => e = .returned (.int .i64 (vCheck v s)) ∧ w = w' := by
  have hc := cell_of h.blk
  have hf := frozen_of h.blk
  have H := Lib.hid h
  clear h
  obtain ⟨sectors, dur, pend, limited, down, left, writes, barriers⟩ := v
  simp only [vcells] at hc
  unfold vCheck
  cases down
  · by_cases h1 : s < 0
    · go_enter Try.func71, Try.ntmps71
      go_wp2
      go_ret
      exact ⟨by simp [h1], rfl⟩
    · have h1' : 0 ≤ s := by omega
      have hd1 : decide (s < 0) = false := by simpa using h1
      by_cases h2 : sectors ≤ s
      · go_enter Try.func71, Try.ntmps71
        go_wp2
        go_ret
        exact ⟨by simp [h2], rfl⟩
      · have h2' : s < sectors := by omega
        go_enter Try.func71, Try.ntmps71
        go_wp2
        go_ret
        exact ⟨by simp [h1, h2], rfl⟩
  · go_enter Try.func71, Try.ntmps71
    go_wp2
    go_ret
    exact ⟨by simp, rfl⟩
theorem check_n (w : World) (s : Int) :
    Calls Try.prog 71 #[.pointer none, .int .i64 s] w fun e w' => e = .returned (.int .i64 1) ∧ w = w' := by
  go_enter Try.func71, Try.ntmps71
  go_wp2
  go_ret
  exact ⟨rfl, rfl⟩
theorem zero_eq : fillS 0 = strOfNums (List.replicate 128 0) := rfl
set_option maxRecDepth 100000 in
theorem zero_c (w : World) : Calls Try.prog 74 #[] w fun e w' => e = .returned (.string (fillS 0)) ∧ w' = w.alloc (.cells (row 0 128) 5) := by
  have hmk := mk128 w
  have hconv := run_convert_bytes_arg (P := Try.prog) (w.alloc (.cells (row 0 128) 5)) 30 5 Try.underlying30 Try.underlying5 w.heap.size 0 128 128 (List.replicate 128 0) (by simp) (row_cells 0 w) 9 Try.underlying9
  rw [← zero_eq] at hconv
  rw [show row 0 0 = row 0 128 from rfl] at hmk
  go_enter Try.func74, Try.ntmps74
  go_wp2
  go_ret
  exact ⟨rfl, rfl⟩
theorem zero_p : Pure Try.prog 74 #[] (.string (fillS 0)) := fun w =>
  (zero_c w).mono fun e w' h => ⟨h.1, by rw [h.2]; exact (Below.refl _ w).alloc (Nat.le_refl _) _⟩
def vNew (n : Int) : Vol := ⟨n, [], [], false, false, 0, 0, 0⟩
set_option maxHeartbeats 1000000 in
theorem new_c (n : Int) (w : World) (h1 : 1 ≤ n) (h2 : n ≤ 65536) :
    Calls Try.prog 25 #[.int .i64 n] w fun e w' => e = .returned (.tuple #[.pointer (some ⟨w.heap.size + 1, 0, none⟩), .int .i64 0]) ∧ w' = (w.alloc (.map #[] 0)).alloc (.cells (vcells w.heap.size (.slice none 0 0) (vNew n)) 88) := by
  have hmm := @run_makeMap Try.prog
  have hd : decide (n < 1) = false := by simp; omega
  go_enter Try.func25, Try.ntmps25
  go_wp2
  go_ret2
  exact ⟨rfl, rfl⟩
theorem new_at (w : World) (n : Int) : VolAt ((w.alloc (.map #[] 0)).alloc (.cells (vcells w.heap.size (.slice none 0 0) (vNew n)) 88)) (w.heap.size + 1) w.heap.size (.slice none 0 0) (vNew n) := by
  refine ⟨?_, ⟨#[], 0, ?_, rfl, MapKept.stamped_empty 0⟩, World.ownsRow_nil _ _ _ _⟩
  · have := World.alloc_heap_new (w.alloc (.map #[] 0)) (.cells (vcells w.heap.size (.slice none 0 0) (vNew n)) 88)
    simpa using this
  · rw [Below.heap_alloc _ _ _ (by simp)]
    exact World.alloc_heap_new w _
set_option maxHeartbeats 1000000 in
theorem new_e (n : Int) (w : World) (h : n < 1 ∨ 65536 < n) :
    Calls Try.prog 25 #[.int .i64 n] w fun e w' => e = .returned (.tuple #[.pointer none, .int .i64 2]) ∧ w = w' := by
  by_cases h1 : n < 1
  · clear h
    go_enter Try.func25, Try.ntmps25
    go_wp2
    go_ret2
    exact ⟨rfl, rfl⟩
  · have h2 : 65536 < n := by omega
    have hd : decide (n < 1) = false := by simpa using h1
    clear h
    go_enter Try.func25, Try.ntmps25
    go_wp2
    go_ret2
    exact ⟨rfl, rfl⟩
theorem len_c (w : World) (b mb : Nat) (pv : Value) (v : Vol) (h : VolAt w b mb pv v) :
    Calls Try.prog 63 #[.pointer (some ⟨b, 0, none⟩)] w fun e w' => e = .returned (.int .i64 v.sectors) ∧ w = w' := by
  have hc := cell_of h.blk
  have hf := frozen_of h.blk
  have H := Lib.hid h
  clear h
  obtain ⟨sectors, dur, pend, limited, down, left, writes, barriers⟩ := v
  simp only [vcells] at hc
  go_enter Try.func63, Try.ntmps63
  go_wp2
  go_ret
  exact ⟨rfl, rfl⟩
theorem down_c (w : World) (b mb : Nat) (pv : Value) (v : Vol) (h : VolAt w b mb pv v) :
    Calls Try.prog 37 #[.pointer (some ⟨b, 0, none⟩)] w fun e w' => e = .returned (.bool v.down) ∧ w = w' := by
  have hc := cell_of h.blk
  have hf := frozen_of h.blk
  have H := Lib.hid h
  clear h
  obtain ⟨sectors, dur, pend, limited, down, left, writes, barriers⟩ := v
  simp only [vcells] at hc
  go_enter Try.func37, Try.ntmps37
  go_wp2
  go_ret
  exact ⟨rfl, rfl⟩
theorem limit_c (w : World) (b mb : Nat) (pv : Value) (v : Vol) (n : Int) (h : VolAt w b mb pv v) :
    Calls Try.prog 35 #[.pointer (some ⟨b, 0, none⟩), .int .i64 n] w fun e w' => e = .returned (.tuple #[]) ∧ VolAt w' b mb pv { v with limited := true, left := max 0 n } ∧ Keep [b] w w' := by
  have hc := cell_of h.blk
  have hf := frozen_of h.blk
  have H := Lib.hid h
  clear h
  obtain ⟨sectors, dur, pend, limited, down, left, writes, barriers⟩ := v
  simp only [vcells] at hc
  go_enter Try.func35, Try.ntmps35
  go_wp2
  go_end0
  exact ⟨rfl, (H.out.set (v' := ⟨sectors, dur, pend, true, down, left, writes, barriers⟩) 3 _ rfl rfl rfl).set _ _ rfl rfl rfl, (Keep.setCell [b] _ _ _ _ (by simp)).trans (Keep.setCell [b] _ _ _ _ (by simp)) (fun x hx => .inl hx)⟩
theorem crash_c (w : World) (b mb : Nat) (pv : Value) (v : Vol) (h : VolAt w b mb pv v) :
    Calls Try.prog 29 #[.pointer (some ⟨b, 0, none⟩)] w fun e w' => e = .returned (.tuple #[]) ∧ VolAt w' b mb pv { v with down := true } ∧ Keep [b] w w' := by
  have hc := cell_of h.blk
  have hf := frozen_of h.blk
  have H := Lib.hid h
  clear h
  obtain ⟨sectors, dur, pend, limited, down, left, writes, barriers⟩ := v
  simp only [vcells] at hc
  go_enter Try.func29, Try.ntmps29
  go_wp2
  go_end0
  exact ⟨rfl, H.out.set _ _ rfl rfl rfl, Keep.setCell _ _ _ _ _ (by simp)⟩
end Go.Proofs.Ytgmggmpkbfljfaa
