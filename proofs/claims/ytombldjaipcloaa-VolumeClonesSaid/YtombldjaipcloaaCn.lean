/- A device and its model say the same, and the device holds no zero sector in its map. -/
import Derived.Test.YtombldjaipcloaaCorr
set_option linter.unusedVariables false
set_option linter.unusedSimpArgs false
namespace Go.Proofs.Ytombldjaipcloaa
open Go.RowKit
def Norm (v : Vol) : Prop := ∀ p ∈ v.dur, p.2 ≠ fillS 0 ∧ 0 ≤ p.1 ∧ p.1 < v.sectors
theorem setI_mem (m : IS) (s : Int) (x : ByteArray) : ∀ p ∈ setI m s x, p = (s, x) ∨ p ∈ m := by
  induction m with
  | nil => intro p hp; simp [setI] at hp; exact .inl hp
  | cons q m ih =>
    intro p hp
    simp only [setI] at hp
    split at hp
    · rcases List.mem_cons.1 hp with h | h
      · exact .inl h
      · exact .inr (List.mem_cons_of_mem _ h)
    · rcases List.mem_cons.1 hp with h | h
      · exact .inr (by rw [h]; simp)
      · rcases ih p h with h | h
        · exact .inl h
        · exact .inr (List.mem_cons_of_mem _ h)
theorem delI_mem (m : IS) (s : Int) : ∀ p ∈ delI m s, p ∈ m := by
  induction m with
  | nil => intro p hp; exact hp
  | cons q m ih =>
    intro p hp
    simp only [delI] at hp
    split at hp
    · exact List.mem_cons_of_mem _ hp
    · rcases List.mem_cons.1 hp with h | h
      · rw [h]; simp
      · exact List.mem_cons_of_mem _ (ih p h)
theorem norm_keep {v : Vol} {s : Int} {x : ByteArray} (h : Norm v) (h0 : 0 ≤ s) (h1 : s < v.sectors) : Norm (vKeep v s x) := by
  intro p hp
  rw [(vKeep_more v s x).2.2.2.2.2]
  unfold vKeep at hp
  split at hp
  · exact h p (delI_mem _ _ p hp)
  · rename_i hx
    rcases setI_mem _ _ _ p hp with rfl | hp
    · exact ⟨hx, h0, h1⟩
    · exact h p hp
theorem norm_flush (l : IS) : ∀ v : Vol, Norm v → (∀ p ∈ l, 0 ≤ p.1 ∧ p.1 < v.sectors) → Norm (vFlush v l) := by
  induction l with
  | nil => intro v h _; exact h
  | cons p l ih =>
    intro v h hp
    have := hp p (by simp)
    exact ih (vKeep v p.1 p.2) (norm_keep h this.1 this.2) (fun q hq => by rw [(vKeep_more v p.1 p.2).2.2.2.2.2]; exact hp q (List.mem_cons_of_mem _ hq))
theorem norm_startL (zs : List Nat) (l : IS) : ∀ (v : Vol) (i : Nat), Norm v → (∀ p ∈ l, 0 ≤ p.1 ∧ p.1 < v.sectors) → Norm (vStartL zs v i l) := by
  induction l with
  | nil => intro v i h _; exact h
  | cons p l ih =>
    intro v i h hp
    have := hp p (by simp)
    exact ih _ (i + 1) (norm_keep h this.1 this.2) (fun q hq => by rw [(vKeep_more v p.1 _).2.2.2.2.2]; exact hp q (List.mem_cons_of_mem _ hq))
theorem norm_of {v u : Vol} (h : Norm v) (hd : u.dur = v.dur) (hs : u.sectors = v.sectors) : Norm u := fun p hp => by rw [hs]; exact h p (by rw [← hd]; exact hp)
theorem vOp_more (v : Vol) : (vOp v).2.dur = v.dur ∧ (vOp v).2.sectors = v.sectors ∧ (vOp v).2.pend = v.pend := by unfold vOp; split <;> (try split) <;> exact ⟨rfl, rfl, rfl⟩
theorem vWrite_more (v : Vol) (s : Int) (x : ByteArray) : (vWrite v s x).2.dur = v.dur ∧ (vWrite v s x).2.sectors = v.sectors := by
  unfold vWrite
  split
  · exact ⟨rfl, rfl⟩
  split
  · exact ⟨rfl, rfl⟩
  split
  · exact ⟨rfl, rfl⟩
  split
  · exact ⟨rfl, rfl⟩
  obtain ⟨h1, h2, _⟩ := vOp_more { v with pend := v.pend ++ [(s, x)] }
  dsimp only at h1 h2 ⊢
  generalize vOp { v with pend := v.pend ++ [(s, x)] } = r at *
  obtain ⟨b, u⟩ := r
  cases b
  · exact ⟨h1, h2⟩
  · exact ⟨h1, h2⟩
structure CorrN (v : Vol) (d : Dk) : Prop extends Corr v d where
  norm : Norm v
theorem corrN_write {v : Vol} {d : Dk} (h : CorrN v d) (s : Int) (x : ByteArray) :
    (vWrite v s x).1 = (dWrite d s x).1 ∧ CorrN (vWrite v s x).2 (dWrite d s x).2 ∧ (vWrite v s x).2.pend.length ≤ v.pend.length + 1 ∧ (dWrite d s x).2.dur.length = d.dur.length := by
  obtain ⟨h1, h2, h3, h4⟩ := corr_write h.toCorr s x
  exact ⟨h1, ⟨h2, norm_of h.norm (vWrite_more v s x).1 (vWrite_more v s x).2⟩, h3, h4⟩
theorem norm_barrier {v : Vol} (h : Norm v) (hp : ∀ p ∈ v.pend, 0 ≤ p.1 ∧ p.1 < v.sectors) : Norm (vBarrier v).2 := by
  unfold vBarrier
  split
  · exact h
  obtain ⟨h1, h2, h3⟩ := vOp_more v
  generalize vOp v = r at *
  obtain ⟨b, u⟩ := r
  dsimp only at h1 h2 h3 ⊢
  cases b
  · exact norm_of (norm_flush u.pend u (norm_of h h1 h2) (fun p hp' => by rw [h2]; exact hp p (by rw [← h3]; exact hp'))) rfl rfl
  · exact norm_of h h1 h2
theorem corrN_barrier {v : Vol} {d : Dk} (h : CorrN v d) :
    (vBarrier v).1 = (dBarrier d).1 ∧ CorrN (vBarrier v).2 (dBarrier d).2 ∧ (vBarrier v).2.pend.length ≤ v.pend.length ∧ (dBarrier d).2.dur.length = d.dur.length := by
  obtain ⟨h1, h2, h3, h4⟩ := corr_barrier h.toCorr
  exact ⟨h1, ⟨h2, norm_barrier h.norm (fun p hp => (h.psz p hp).2)⟩, h3, h4⟩
theorem corrN_start {v : Vol} {d : Dk} (h : CorrN v d) (zs : List Nat) : CorrN (vStart v zs) (dStart d zs) ∧ (vStart v zs).pend.length ≤ v.pend.length ∧ (dStart d zs).dur.length = d.dur.length := by
  obtain ⟨h1, h2, h3⟩ := corr_start h.toCorr zs
  refine ⟨⟨h1, ?_⟩, h2, h3⟩
  unfold vStart
  split
  · exact norm_of (norm_startL zs v.pend v 0 h.norm (fun p hp => (h.psz p hp).2)) rfl rfl
  · exact h.norm
theorem corrN_new (n : Nat) : CorrN (vNew n) (dNew n) := ⟨corr_new n, fun p hp => by cases hp⟩
theorem corrN_limit {v : Vol} {d : Dk} (h : CorrN v d) (n : Int) : CorrN { v with limited := true, left := max 0 n } { d with limited := true, limit := max 0 n } := ⟨corr_limit h.toCorr n, h.norm⟩
theorem corrN_crash {v : Vol} {d : Dk} (h : CorrN v d) : CorrN { v with down := true } { d with down := true } := ⟨corr_crash h.toCorr, h.norm⟩
/-! ### two devices and two models -/
theorem len_range (n : Nat) : ∀ l : List Int, l.Nodup → (∀ x ∈ l, 0 ≤ x ∧ x < n) → l.length ≤ n := by
  induction n with
  | zero =>
    intro l _ h
    cases l with
    | nil => exact Nat.le_refl _
    | cons a l => have := h a (by simp); omega
  | succ n ih =>
    intro l hn h
    by_cases hm : (n : Int) ∈ l
    · have h1 := ih (l.erase n) (hn.erase _) (fun x hx => by
        have h2 := h x (List.mem_of_mem_erase hx)
        have h3 : x ≠ n := ((hn.mem_erase_iff).1 hx).1
        omega)
      rw [List.length_erase_of_mem hm] at h1
      have := List.length_pos_of_mem hm
      omega
    · have h1 := ih l hn (fun x hx => by
        have h2 := h x hx
        have h3 : x ≠ n := fun e => hm (e ▸ hx)
        omega)
      omega
theorem lookI_mem {m : IS} {k : Int} {x : ByteArray} (h : lookI m k = some x) : (k, x) ∈ m := by
  unfold lookI at h
  rw [Option.map_eq_some_iff] at h
  obtain ⟨p, hp, rfl⟩ := h
  have h1 := List.mem_of_find?_eq_some hp
  have h2 : p.1 = k := by have := List.find?_some hp; simpa using this
  rw [← h2]; exact h1
theorem mem_lookI {m : IS} (hn : (m.map (·.1)).Nodup) {p : Int × ByteArray} (hp : p ∈ m) : lookI m p.1 = some p.2 := by
  induction m with
  | nil => cases hp
  | cons q m ih =>
    simp only [List.map_cons, List.nodup_cons] at hn
    unfold lookI
    rw [List.find?_cons]
    rcases List.mem_cons.1 hp with rfl | hp
    · simp
    · have hne : q.1 ≠ p.1 := fun e => hn.1 (List.mem_map.2 ⟨p, hp, e.symm⟩)
      simp only [show (q.1 == p.1) = false from by simpa using hne]
      exact ih hn.2 hp
/-- What the two devices hold is the same if and only if their maps look up alike. -/
theorem dur_same {v u : Vol} {d e : Dk} (h : CorrN v d) (k : CorrN u e) (hl : d.dur.length = e.dur.length) : (∀ i, lookI v.dur i = lookI u.dur i) ↔ d.dur = e.dur := by
  have hs : v.sectors = u.sectors := by rw [h.len, k.len, hl]
  constructor
  · intro hx
    apply List.ext_getElem hl
    intro i h1 h2
    rw [← h.dur i h1, ← k.dur i h2]
    unfold vDur
    rw [hx]
  · intro hx i
    by_cases hi : 0 ≤ i ∧ i < v.sectors
    · obtain ⟨j, rfl⟩ : ∃ j : Nat, i = j := ⟨i.toNat, by omega⟩
      have hlen := h.len
      have hj : j < d.dur.length := by omega
      have h1 := h.dur j hj
      have h2 := k.dur j (by omega)
      have hd : vDur v j = vDur u j := by rw [h1, h2]; simp [hx]
      unfold vDur at hd
      have hv : ∀ {w : Vol}, Norm w → lookI w.dur j ≠ some (fillS 0) := fun hw hz => (hw _ (lookI_mem hz)).1 rfl
      cases hv1 : lookI v.dur j with
      | none =>
        cases hu1 : lookI u.dur j with
        | none => rfl
        | some y =>
          rw [hv1, hu1] at hd
          exact absurd (by rw [hu1]; exact congrArg some hd.symm) (hv k.norm)
      | some x =>
        cases hu1 : lookI u.dur j with
        | none =>
          rw [hv1, hu1] at hd
          exact absurd (by rw [hv1]; exact congrArg some hd) (hv h.norm)
        | some y =>
          rw [hv1, hu1] at hd
          exact congrArg some hd
    · have none : ∀ {w : Vol}, Norm w → w.sectors = v.sectors → lookI w.dur i = none := fun {w} hw hsw => by
        apply lookI_none
        intro hm
        obtain ⟨p, hp, rfl⟩ := List.mem_map.1 hm
        have := hw p hp
        rw [hsw] at this
        exact hi this.2
      rw [none h.norm rfl, none k.norm hs.symm]
end Go.Proofs.Ytombldjaipcloaa
