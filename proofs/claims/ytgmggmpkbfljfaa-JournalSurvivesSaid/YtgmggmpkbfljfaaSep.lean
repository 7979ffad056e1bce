/- Several objects of a call's own beside one another: what turns one leaves the others alone. -/
import Derived.Test.YtgmggmpkbfljfaaBase
import Derived.RangeFuncRecord
set_option linter.unusedVariables false
set_option linter.unusedSimpArgs false
namespace Go.Proofs.Ytgmggmpkbfljfaa
open Go.RowKit

/-- What is said of a world, and of the blocks that it leans on. -/
abbrev HP := World → List Nat → Prop
structure Stab (A : HP) : Prop where
  keep : ∀ {w w' : World} {F G : List Nat}, A w F → Keep G w w' → (∀ x ∈ F, x ∉ G) → A w' F
  lt : ∀ {w : World} {F : List Nat}, A w F → ∀ x ∈ F, x < w.heap.size
def Sep (A B : HP) : HP := fun w F => ∃ F1 F2, A w F1 ∧ B w F2 ∧ (∀ x ∈ F1, x ∉ F2) ∧ F = F1 ++ F2
theorem Stab.sep {A B : HP} (hA : Stab A) (hB : Stab B) : Stab (Sep A B) where
  keep := by
    rintro w w' F G ⟨F1, F2, h1, h2, h3, rfl⟩ hk hd
    exact ⟨F1, F2, hA.keep h1 hk (fun x hx => hd x (List.mem_append_left _ hx)), hB.keep h2 hk (fun x hx => hd x (List.mem_append_right _ hx)), h3, rfl⟩
  lt := by
    rintro w F ⟨F1, F2, h1, h2, h3, rfl⟩ x hx
    rcases List.mem_append.1 hx with h | h
    · exact hA.lt h1 x h
    · exact hB.lt h2 x h
/-- From w to w' what leaned on F has come to be A'. -/
def To (A' : HP) (F : List Nat) (w w' : World) : Prop := ∃ F', A' w' F' ∧ Keep F w w' ∧ ∀ x ∈ F', x ∈ F ∨ w.heap.size ≤ x
theorem To.refl {A : HP} {F : List Nat} {w : World} (h : A w F) : To A F w w := ⟨F, h, Keep.refl _ _, fun x hx => .inl hx⟩
theorem To.of_keep {A : HP} (hA : Stab A) {F : List Nat} {w w' : World} (h : A w F) (hk : Keep [] w w') : To A F w w' := ⟨F, hA.keep h hk (by simp), hk.mono (by simp), fun x hx => .inl hx⟩
theorem To.trans {A B : HP} {F : List Nat} {w w' w'' : World} (h : To A F w w') (k : ∀ F', A w' F' → To B F' w' w'') : To B F w w'' := by
  obtain ⟨F', h1, h2, h3⟩ := h
  obtain ⟨F'', k1, k2, k3⟩ := k F' h1
  refine ⟨F'', k1, h2.trans k2 h3, fun x hx => ?_⟩
  have := h2.size
  rcases k3 x hx with h | h
  · exact h3 x h
  · right; omega
theorem To.left {A A' B : HP} (hB : Stab B) {F : List Nat} {w w' : World} (h : Sep A B w F) (hs : ∀ F1, A w F1 → To A' F1 w w') : To (Sep A' B) F w w' := by
  obtain ⟨F1, F2, h1, h2, h3, rfl⟩ := h
  obtain ⟨F1', k1, k2, k3⟩ := hs F1 h1
  have hlt := hB.lt h2
  refine ⟨F1' ++ F2, ⟨F1', F2, k1, hB.keep h2 k2 (fun x hx hx1 => h3 x hx1 hx), fun x hx hx2 => ?_, rfl⟩, k2.mono (fun x hx => List.mem_append_left _ hx), fun x hx => ?_⟩
  · rcases k3 x hx with h | h
    · exact h3 x h hx2
    · have := hlt x hx2; omega
  · rcases List.mem_append.1 hx with h | h
    · rcases k3 x h with h | h
      · exact .inl (List.mem_append_left _ h)
      · exact .inr h
    · exact .inl (List.mem_append_right _ h)
theorem To.right {A B B' : HP} (hA : Stab A) {F : List Nat} {w w' : World} (h : Sep A B w F) (hs : ∀ F1, B w F1 → To B' F1 w w') : To (Sep A B') F w w' := by
  obtain ⟨F1, F2, h1, h2, h3, rfl⟩ := h
  obtain ⟨F2', k1, k2, k3⟩ := hs F2 h2
  have hlt := hA.lt h1
  refine ⟨F1 ++ F2', ⟨F1, F2', hA.keep h1 k2 h3, k1, fun x hx hx2 => ?_, rfl⟩, k2.mono (fun x hx => List.mem_append_right _ hx), fun x hx => ?_⟩
  · rcases k3 x hx2 with h | h
    · exact h3 x hx h
    · have := hlt x hx; omega
  · rcases List.mem_append.1 hx with h | h
    · exact .inl (List.mem_append_left _ h)
    · rcases k3 x h with h | h
      · exact .inl (List.mem_append_right _ h)
      · exact .inr h
/-- All that A leans on has been made since w0, in which nothing has turned. -/
def Own0 (w0 : World) (A : HP) (w : World) : Prop := ∃ F, A w F ∧ (∀ x ∈ F, w0.heap.size ≤ x) ∧ Keep [] w0 w
theorem Own0.below {w0 w : World} {A : HP} (h : Own0 w0 A w) : Below w0.heap.size w0 w := by obtain ⟨F, _, _, h⟩ := h; exact h.below0
theorem Own0.step {w0 w w' : World} {A A' : HP} (h : Own0 w0 A w) (hs : ∀ F, A w F → To A' F w w') : Own0 w0 A' w' := by
  obtain ⟨F, h1, h2, h3⟩ := h
  obtain ⟨F', k1, k2, k3⟩ := hs F h1
  refine ⟨F', k1, fun x hx => ?_, h3.trans k2 (fun x hx => .inr (h2 x hx))⟩
  have := h3.size
  rcases k3 x hx with h | h
  · exact h2 x h
  · omega
theorem Own0.keep {w0 w w' : World} {A : HP} (hA : Stab A) (h : Own0 w0 A w) (hk : Keep [] w w') : Own0 w0 A w' := h.step fun F hF => To.of_keep hA hF hk
theorem Own0.new {w0 w w' : World} {A B : HP} (hA : Stab A) (h : Own0 w0 A w) (hk : Keep [] w w') {G : List Nat} (hB : B w' G) (hG : ∀ x ∈ G, w.heap.size ≤ x) : Own0 w0 (Sep A B) w' := by
  obtain ⟨F, h1, h2, h3⟩ := h
  have hlt := hA.lt h1
  have hs := h3.size
  refine ⟨F ++ G, ⟨F, G, hA.keep h1 hk (by simp), hB, fun x hx hx2 => ?_, rfl⟩, fun x hx => ?_, h3.trans hk (by simp)⟩
  · have := hlt x hx; have := hG x hx2; omega
  · rcases List.mem_append.1 hx with h | h
    · exact h2 x h
    · have := hG x h; omega
theorem Own0.first {w0 w : World} {A : HP} {F : List Nat} (h : A w F) (hF : ∀ x ∈ F, w0.heap.size ≤ x) (hk : Keep [] w0 w) : Own0 w0 A w := ⟨F, h, hF, hk⟩

/-- A call that turns A to A' and hands back r. -/
def Met (P : Program) (f : Nat) (args : Array Value) (r : Value) (A A' : HP) : Prop := ∀ w F, A w F → Calls P f args w fun e w' => e = .returned r ∧ To A' F w w'
theorem Met.L {P : Program} {f : Nat} {args : Array Value} {r : Value} {A A' R : HP} (h : Met P f args r A A') (hR : Stab R) : Met P f args r (Sep A R) (Sep A' R) := by
  rintro w F ⟨F1, F2, h1, h2, h3, rfl⟩
  refine (h w F1 h1).mono fun e w' hk => ⟨hk.1, ?_⟩
  obtain ⟨F1', k1, k2, k3⟩ := hk.2
  have hlt := hR.lt h2
  refine ⟨F1' ++ F2, ⟨F1', F2, k1, hR.keep h2 k2 (fun x hx hx1 => h3 x hx1 hx), fun x hx hx2 => ?_, rfl⟩, k2.mono (fun x hx => List.mem_append_left _ hx), fun x hx => ?_⟩
  · rcases k3 x hx with h | h
    · exact h3 x h hx2
    · have := hlt x hx2; omega
  · rcases List.mem_append.1 hx with h | h
    · rcases k3 x h with h | h
      · exact .inl (List.mem_append_left _ h)
      · exact .inr h
    · exact .inl (List.mem_append_right _ h)
theorem Met.R {P : Program} {f : Nat} {args : Array Value} {r : Value} {A A' R : HP} (h : Met P f args r A A') (hR : Stab R) : Met P f args r (Sep R A) (Sep R A') := by
  rintro w F ⟨F1, F2, h1, h2, h3, rfl⟩
  refine (h w F2 h2).mono fun e w' hk => ⟨hk.1, ?_⟩
  obtain ⟨F2', k1, k2, k3⟩ := hk.2
  have hlt := hR.lt h1
  refine ⟨F1 ++ F2', ⟨F1, F2', hR.keep h1 k2 h3, k1, fun x hx hx2 => ?_, rfl⟩, k2.mono (fun x hx => List.mem_append_right _ hx), fun x hx => ?_⟩
  · rcases k3 x hx2 with h | h
    · exact h3 x hx h
    · have := hlt x hx; omega
  · rcases List.mem_append.1 hx with h | h
    · exact .inl (List.mem_append_left _ h)
    · rcases k3 x h with h | h
      · exact .inl (List.mem_append_right _ h)
      · exact .inr h
theorem Met.own {P : Program} {f : Nat} {args : Array Value} {r : Value} {A A' : HP} (h : Met P f args r A A') {w0 w : World} (ho : Own0 w0 A w) : Calls P f args w fun e w' => e = .returned r ∧ Own0 w0 A' w' := by
  obtain ⟨F, h1, h2, h3⟩ := ho
  refine (h w F h1).mono fun e w' hk => ⟨hk.1, ?_⟩
  obtain ⟨F', k1, k2, k3⟩ := hk.2
  refine ⟨F', k1, fun x hx => ?_, h3.trans k2 (fun x hx => .inr (h2 x hx))⟩
  have := h3.size
  rcases k3 x hx with h | h
  · exact h2 x h
  · omega

/-- One block of cells of the call's own. -/
def BoxH (bx : Nat) (cs : Array Value) (t : TypeId) : HP := fun w F => F = [bx] ∧ w.heap[bx]? = some (.cells cs t (0, 0))
theorem boxH_stab (bx : Nat) (cs : Array Value) (t : TypeId) : Stab (BoxH bx cs t) where
  keep := by rintro w w' F G ⟨rfl, h⟩ hk hd; exact ⟨rfl, hk.heap h (hd bx (by simp))⟩
  lt := by rintro w F ⟨rfl, h⟩ x hx; simp at hx; subst hx; exact lt_of_heap h
theorem Own0.box {w0 w : World} {A : HP} {bx : Nat} {cs : Array Value} {t : TypeId} (h : Own0 w0 (Sep A (BoxH bx cs t)) w) : w.heap[bx]? = some (.cells cs t (0, 0)) := by
  obtain ⟨F, ⟨F1, F2, _, h2, _⟩, _⟩ := h; exact h2.2
theorem Own0.drop {w0 w : World} {A B : HP} (h : Own0 w0 (Sep A B) w) : Own0 w0 A w := by
  obtain ⟨F, ⟨F1, F2, h1, _, _, rfl⟩, h3, h4⟩ := h; exact ⟨F1, h1, fun x hx => h3 x (List.mem_append_left _ hx), h4⟩
theorem Own0.addBox {w0 w : World} {A : HP} (hA : Stab A) (h : Own0 w0 A w) (cs : Array Value) (t : TypeId) : Own0 w0 (Sep A (BoxH w.heap.size cs t)) (w.alloc (.cells cs t)) :=
  h.new hA (Keep.alloc [] w _) (G := [w.heap.size]) ⟨rfl, World.alloc_heap_new w _⟩ (by simp)
end Go.Proofs.Ytgmggmpkbfljfaa
