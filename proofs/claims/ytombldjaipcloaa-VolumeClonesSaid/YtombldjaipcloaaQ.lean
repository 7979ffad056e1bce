/- What the statements over lists of operations share. -/
import Derived.Test.YtombldjaipcloaaPerf3
set_option linter.unusedVariables false
set_option linter.unusedSimpArgs false
namespace Go.Proofs.Ytombldjaipcloaa
open Go.RowKit
theorem sectors_q (n : Int) (h0 : 0 ≤ n) (h1 : n ≤ 255) (w : World) : Calls Try.prog 18 #[.int .u8 n] w fun e w' => e = .returned (.int .i64 (1 + n % 8)) ∧ w = w' := by
  go_enter Try.func18, Try.ntmps18
  go_wp2
  go_ret
  exact ⟨rfl, rfl⟩
theorem opsAt_slice {w : World} {sv : Value} {os : List OpV} (h : OpsAt w sv os) : ∃ so sc, sv = .slice so os.length sc ∧ os.length ≤ maxLen := by
  rcases h with ⟨a, c, h1, rfl⟩ | ⟨lb, lo, c, h1, h2, _⟩
  · exact ⟨a, c, h1, Nat.zero_le _⟩
  · exact ⟨_, c, h1, h2⟩
theorem opsAt_elem {w w' : World} {so : Option Addr} {sc : Nat} {os : List OpV} (h : OpsAt w (.slice so os.length sc) os) (hb : Below w.heap.size w w') (k : Nat) (hk : k < os.length) :
    ∃ lb lo kd s d so' sl' sc' zs, so = some ⟨lb, lo, none⟩ ∧ lb < w.heap.size ∧ os[k] = ⟨kd, s, d, .slice so' sl' sc', zs⟩ ∧ os[k].ok w ∧ w'.cell? ⟨lb, lo + k * 4, none⟩ = some (.int .u8 kd) ∧ w'.cell? ⟨lb, lo + k * 4 + 1, none⟩ = some (.int .i16 s) ∧ w'.cell? ⟨lb, lo + k * 4 + 2, none⟩ = some (.int .u8 d) ∧ w'.cell? ⟨lb, lo + k * 4 + 3, none⟩ = some (.slice so' sl' sc') := by
  rcases h with ⟨a, c, h1, rfl⟩ | ⟨lb, lo, c, h1, h2, h3⟩
  · simp at hk
  · injection h1 with h1 _ _
    obtain ⟨h4, e0, e1, e2, e3⟩ := h3 k hk
    obtain ⟨so', sl', sc', hs⟩ := data_p _ w h4
    rw [hs] at e3
    refine ⟨lb, lo, _, _, _, so', sl', sc', _, h1, World.block_lt_of_cell? w _ e0, by rw [← hs], h4, Below.cellAt hb e0, Below.cellAt hb e1, Below.cellAt hb e2, Below.cellAt hb e3⟩
theorem Perf.below {w0 : World} {b mb db N n : Nat} {w : World} (h : Perf w0 b mb db N n w) : Below w0.heap.size w0 w := by
  obtain ⟨v, d, _, _, _, h⟩ := h; exact h.below
/-- A row of strings of the call's own. -/
def RowH (o : Value) (l : List ByteArray) : HP := fun w F => w.ownsRow 0 9 1 o l.length (scells l) ∧ F = o.ownBlock.toList
theorem rowH_stab (o : Value) (l : List ByteArray) : Stab (RowH o l) where
  keep := by
    rintro w w' F G ⟨h, rfl⟩ hk hd
    exact ⟨own_keep h hk (fun g hg => hd g (by simp [hg])), rfl⟩
  lt := by
    rintro w F ⟨h, rfl⟩ x hx
    obtain ⟨cur, h1⟩ := own_ty h (g := x) (by simpa using hx)
    exact lt_of_heap h1
theorem Own0.addRow {w0 w : World} {A : HP} (hA : Stab A) (h : Own0 w0 A w) : Own0 w0 (Sep A (RowH (.slice none 0 0) [])) w :=
  h.new hA (Keep.refl _ _) (G := []) ⟨World.ownsRow_nil _ _ _ _, rfl⟩ (by simp)
theorem Own0.rowOf {w0 w : World} {A : HP} {o : Value} {l : List ByteArray} (h : Own0 w0 (Sep A (RowH o l)) w) : w.ownsRow 0 9 1 o l.length (scells l) := by
  obtain ⟨F, ⟨F1, F2, _, h2, _⟩, _⟩ := h; exact h2.1
/-- The row has grown by one. -/
theorem Own0.grow {w0 w w' : World} {A : HP} {o : Value} {l : List ByteArray} {x : ByteArray} {g cap : Nat} (hA : Stab A) (h : Own0 w0 (Sep A (RowH o l)) w) (hk : Keep o.ownBlock.toList w w')
    (ho : w'.ownsRow 0 9 1 (.slice (some ⟨g, 0, none⟩) (l.length + 1) cap) (l.length + 1) (scells l ++ [.string x])) (hg : some g = o.ownBlock ∨ w.heap.size ≤ g) :
    Own0 w0 (Sep A (RowH (.slice (some ⟨g, 0, none⟩) (l.length + 1) cap) (l ++ [x]))) w' :=
  h.step fun F hF => To.right hA hF fun F2 h2 => by
    obtain ⟨h2, rfl⟩ := h2
    refine ⟨_, ⟨by rw [List.length_append, List.length_singleton, ← scells_snoc]; exact ho, rfl⟩, hk, fun y hy => ?_⟩
    simp [Value.ownBlock] at hy
    subst hy
    rcases hg with h | h
    · left; rw [← h]; simp
    · exact .inr h
theorem rowElem {w : World} {po : Option Addr} {n pc : Nat} {l : List ByteArray} (h : w.ownsRow 0 9 1 (.slice po n pc) l.length (scells l)) (k : Nat) (hk : k < l.length) : ∃ g, po = some ⟨g, 0, none⟩ ∧ w.cell? ⟨g, k, none⟩ = some (.string l[k]) ∧ g < w.heap.size := by
  obtain ⟨g, cap, hv, hc, hg, _⟩ := own_cells h (by omega)
  injection hv with h1 _ _
  exact ⟨g, h1, by rw [hc k (by omega)]; simp [scells, List.getElem?_eq_getElem hk], hg⟩
end Go.Proofs.Ytombldjaipcloaa
