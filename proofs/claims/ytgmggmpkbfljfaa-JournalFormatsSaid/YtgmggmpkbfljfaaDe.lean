/- Device and book, without a journal: opening, formatting, another book. -/
import Derived.Test.YtgmggmpkbfljfaaLv
set_option linter.unusedVariables false
set_option linter.unusedSimpArgs false
set_option maxRecDepth 100000
namespace Go.Proofs.Ytgmggmpkbfljfaa
open Go.RowKit
theorem To.weak {A B : HP} {F : List Nat} {w w' : World} (h : To A F w w') (k : ∀ F', A w' F' → ∃ F'', B w' F'' ∧ ∀ x ∈ F'', x ∈ F') : To B F w w' := by
  obtain ⟨F', h1, h2, h3⟩ := h
  obtain ⟨F'', k1, k2⟩ := k F' h1
  exact ⟨F'', k1, h2, fun x hx => h3 x (k2 x hx)⟩
/-- Device and book; the device says B. -/
def Dev0 (t : Nat) (w wk : World) (vb mb bk : Nat) (B B' : Bk) : Prop :=
  ∃ v C, Good v (B.ring + 2) C 0 ∧ DJ C B ∧ BOk B t ∧ BOk B' t ∧ To (Sep (VolH vb mb v) (BH bk B')) [] w wk
section
variable {t : Nat} {w wk : World} {vb mb jb bk : Nat} {B B' : Bk}
theorem dv_stab (v : Vol) : Stab (Sep (VolH vb mb v) (BH bk B)) := (volH_stab _ _ _).sep (bh_stab _ _)
theorem Live.dev (h : Live t w wk vb mb jb bk B B') : Dev0 t w wk vb mb bk B B' := by
  obtain ⟨v, C, h1, h2, h3, h4, h5⟩ := h
  refine ⟨v, C, h1, h2, h3, h4, h5.weak ?_⟩
  rintro F ⟨F1, F2, k1, ⟨F3, F4, k3, k4, d34, rfl⟩, d12, rfl⟩
  exact ⟨F1 ++ F4, ⟨F1, F4, k1, k4, fun x hx hm => d12 x hx (List.mem_append_right _ hm), rfl⟩, fun x hx => by
    rcases List.mem_append.1 hx with h | h
    · exact List.mem_append_left _ h
    · exact List.mem_append_right _ (List.mem_append_right _ h)⟩
theorem Dev0.keep {w' : World} (h : Dev0 t w wk vb mb bk B B') (hk : Keep [] wk w') : Dev0 t w w' vb mb bk B B' := by
  obtain ⟨v, C, h1, h2, h3, h4, h5⟩ := h
  exact ⟨v, C, h1, h2, h3, h4, h5.kept (dv_stab _) hk⟩
theorem Dev0.of0 (h : Dev0 t w wk vb mb bk B B') : Keep [] w wk := by obtain ⟨_, _, _, _, _, _, h⟩ := h; obtain ⟨_, _, hk, _⟩ := h; exact hk
theorem Dev0.up {t' : Nat} (h : Dev0 t w wk vb mb bk B B') (ht : t ≤ t') (h9 : t' ≤ 900) : Dev0 t' w wk vb mb bk B B' := by
  obtain ⟨v, C, h1, h2, h3, h4, h5⟩ := h
  exact ⟨v, C, h1, h2, h3.up ht h9, h4.up ht h9, h5⟩
theorem sep_swap {A B D : HP} {w : World} {F : List Nat} (h : Sep (Sep A B) D w F) : ∃ F', Sep A (Sep D B) w F' ∧ ∀ x ∈ F', x ∈ F := by
  obtain ⟨F1, F2, ⟨F3, F4, h3, h4, d34, rfl⟩, h2, d12, rfl⟩ := h
  refine ⟨F3 ++ (F2 ++ F4), ⟨F3, F2 ++ F4, h3, ⟨F2, F4, h2, h4, fun x hx hm => d12 x (List.mem_append_right _ hm) hx, rfl⟩, fun x hx hm => ?_, rfl⟩, fun x hx => ?_⟩
  · rcases List.mem_append.1 hm with h | h
    · exact d12 x (List.mem_append_left _ hx) h
    · exact d34 x hx h
  · simp only [List.mem_append] at hx ⊢
    rcases hx with h | h | h
    · exact .inl (.inl h)
    · exact .inr h
    · exact .inl (.inr h)
theorem open_D (h : Dev0 t w wk vb mb bk B B') :
    Calls Try.prog 26 #[.pointer (some ⟨vb, 0, none⟩)] wk fun e w' => ∃ jb, e = .returned (.tuple #[.pointer (some ⟨jb, 0, none⟩), .int .i64 0]) ∧ Live t w w' vb mb jb bk { B with pend := [] } B' := by
  obtain ⟨v, C, h1, h2, h3, h4, h5⟩ := h
  have h5' := h5
  obtain ⟨F, ⟨F1, F2, k1, k2, d, rfl⟩, hk, hs⟩ := h5
  have ho := open_c wk F1 vb mb v B.ring _ _ k1 (rel_open h1 h2 h3.room (by omega))
  rw [gsOf_two] at ho
  refine ho.mono ?_
  rintro e w' ⟨jb, rfl, ht⟩
  exact ⟨jb, rfl, v, C, h1, h2.pend [], h3.noPend, h4, (sep_new (dv_stab _) h5' ht).weak fun F' hF => sep_swap hF⟩
theorem format_D (h : Dev0 t w wk vb mb bk B B') (ht : t + 1 ≤ 900) :
    Calls Try.prog 27 #[.pointer (some ⟨vb, 0, none⟩)] wk fun e w' => e = .returned (.int .i64 0) ∧ Dev0 (t + 1) w w' vb mb bk (bEmpty B.ring (B.gen + 1)) B' := by
  obtain ⟨v, C, h1, h2, h3, h4, h5⟩ := h
  obtain ⟨f1, C', f2, f3⟩ := format_again h1 h2 h3.room (by omega)
  have hn := rel_newest h1 h2 h3.room
  have hm := format_m vb mb v (rel_fit h1 h2 h3.room) (by rw [h1.pend]; omega) (by
    rw [hn]
    show B.gen ≤ _
    have := h3.g; have := h3.t9; omega)
  rw [f1] at hm
  refine (h5.call (hm.L (bh_stab bk B'))).mono fun e w' hk => ⟨hk.1, _, C', f2, f3, bEmpty_ok _ _ _ h3.r0 h3.r9 (by have := h3.g; omega) ht, h4.up (by omega) ht, hk.2⟩
theorem image_D (h : Dev0 t w wk vb mb bk B B) :
    Calls Try.prog 28 #[.pointer (some ⟨bk, 0, none⟩), .pointer (some ⟨vb, 0, none⟩)] wk fun e w' => e = .returned (.bool true) ∧ Dev0 t w w' vb mb bk B B := by
  have h0 := h
  obtain ⟨v, C, h1, h2, h3, h4, h5⟩ := h
  obtain ⟨F, ⟨F1, F2, k1, k2, d, rfl⟩, hk, hs⟩ := h5
  exact (image_t wk F1 bk vb mb B v k1 F2 k2 h3.room.fit (rel_image h1 h2 h3.room (by omega))).mono fun e w' hk => ⟨hk.1, h0.keep hk.2⟩
/-- Another book. -/
theorem book_D (h : Dev0 t w wk vb mb bk B B') (hB : BOk (bEmpty B.ring B.gen) t) :
    Dev0 t w (wk.alloc (.cells (bcells B.ring B.gen 1 0 (.slice none 0 0) (.slice none 0 0)) 43)) vb mb wk.heap.size B (bEmpty B.ring B.gen) := by
  obtain ⟨v, C, h1, h2, h3, h4, h5⟩ := h
  refine ⟨v, C, h1, h2, h3, hB, ?_⟩
  have h6 : To (VolH vb mb v) [] w wk := h5.weak fun F ⟨F1, F2, k1, k2, d, e⟩ => ⟨F1, k1, fun x hx => by rw [e]; exact List.mem_append_left _ hx⟩
  exact sep_new (volH_stab _ _ _) h6 (book_new wk B.ring B.gen 1 0)
end
end Go.Proofs.Ytgmggmpkbfljfaa
