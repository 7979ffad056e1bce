/- Two devices are equal if and only if their models are. -/
import Derived.Test.YtombldjaipcloaaEqv
import Derived.Test.YtombldjaipcloaaCp
import Derived.Test.YtombldjaipcloaaPr3
set_option linter.unusedVariables false
set_option linter.unusedSimpArgs false
namespace Go.Proofs.Ytombldjaipcloaa
open Go.RowKit
theorem sub_len {l1 : List Int} : ∀ {l2 : List Int}, l1.Nodup → (∀ x ∈ l1, x ∈ l2) → l1.length ≤ l2.length ∧ (l2.length ≤ l1.length → ∀ x ∈ l2, x ∈ l1) := by
  induction l1 with
  | nil =>
    intro l2 _ _
    refine ⟨Nat.zero_le _, fun h x hx => ?_⟩
    have := List.length_pos_of_mem hx
    simp at h; subst h; cases hx
  | cons a l1 ih =>
    intro l2 hn hs
    simp only [List.nodup_cons] at hn
    have ha : a ∈ l2 := hs a (by simp)
    have hl := List.length_erase_of_mem ha
    have hp := List.length_pos_of_mem ha
    obtain ⟨i1, i2⟩ := ih (l2 := l2.erase a) hn.2 (fun x hx => by
      have hne : x ≠ a := fun e => hn.1 (e ▸ hx)
      exact (List.mem_erase_of_ne hne).2 (hs x (List.mem_cons_of_mem _ hx)))
    refine ⟨by simp; omega, fun h x hx => ?_⟩
    by_cases hxa : x = a
    · rw [hxa]; simp
    · exact List.mem_cons_of_mem _ (i2 (by simp at h; omega) x ((List.mem_erase_of_ne hxa).2 hx))
theorem lookI_key {m : IS} {k : Int} {x : ByteArray} (h : lookI m k = some x) : k ∈ m.map (·.1) := List.mem_map.2 ⟨_, lookI_mem h, rfl⟩
theorem key_lookI {m : IS} {k : Int} (h : k ∈ m.map (·.1)) : ∃ x, lookI m k = some x := by
  cases hl : lookI m k with
  | some x => exact ⟨x, rfl⟩
  | none =>
    obtain ⟨p, hp, rfl⟩ := List.mem_map.1 h
    unfold lookI at hl
    rw [Option.map_eq_none_iff, List.find?_eq_none] at hl
    have := hl p hp
    simp at this
theorem mapEq_iff {m1 m2 : IS} (n1 : (m1.map (·.1)).Nodup) (n2 : (m2.map (·.1)).Nodup) : mapEq m1 m2 = true ↔ ∀ i, lookI m1 i = lookI m2 i := by
  unfold mapEq
  rw [Bool.and_eq_true, decide_eq_true_iff, List.all_eq_true]
  constructor
  · rintro ⟨hl, ha⟩ i
    have hsub : ∀ x ∈ m1.map (·.1), x ∈ m2.map (·.1) := fun x hx => by
      obtain ⟨p, hp, rfl⟩ := List.mem_map.1 hx
      exact lookI_key (by simpa using ha p hp)
    have hback := (sub_len n1 hsub).2 (by simp; omega)
    cases h1 : lookI m1 i with
    | some x => exact (by simpa using ha _ (lookI_mem h1) : lookI m2 i = some x).symm
    | none =>
      cases h2 : lookI m2 i with
      | none => rfl
      | some y =>
        obtain ⟨x, hx⟩ := key_lookI (hback i (lookI_key h2))
        rw [hx] at h1; cases h1
  · intro h
    have s1 : ∀ x ∈ m1.map (·.1), x ∈ m2.map (·.1) := fun x hx => by obtain ⟨y, hy⟩ := key_lookI hx; rw [h] at hy; exact lookI_key hy
    have s2 : ∀ x ∈ m2.map (·.1), x ∈ m1.map (·.1) := fun x hx => by obtain ⟨y, hy⟩ := key_lookI hx; rw [← h] at hy; exact lookI_key hy
    have l1 := (sub_len n1 s1).1
    have l2 := (sub_len n2 s2).1
    simp at l1 l2
    exact ⟨by omega, fun p hp => by rw [← h, mem_lookI n1 hp]; simp⟩
theorem eq_law {v u : Vol} {d e : Dk} (h : CorrN v d) (k : CorrN u e) : vEq v u = dEq d e := by
  rw [Bool.eq_iff_iff]
  unfold vEq dEq
  rw [Bool.and_eq_true, Bool.and_eq_true, decide_eq_true_iff, decide_eq_true_iff, decide_eq_true_iff, mapEq_iff h.keys k.keys, h.pend, k.pend, h.lim, k.lim, h.left, k.left, h.down, k.down, h.writes, k.writes, h.barriers, k.barriers]
  constructor
  · rintro ⟨⟨e1, e2, e3, e4, e5, e6⟩, e7, e8⟩
    have hl : d.dur.length = e.dur.length := by have := h.len; have := k.len; omega
    exact ⟨(dur_same h k hl).1 e7, e8, e2, e3, e4, e5, e6⟩
  · rintro ⟨e7, e8, e2, e3, e4, e5, e6⟩
    have hl : d.dur.length = e.dur.length := by rw [e7]
    have hs : v.sectors = u.sectors := by rw [h.len, k.len, hl]
    exact ⟨⟨hs, e2, e3, e4, e5, e6⟩, (dur_same h k hl).2 e7, e8⟩
theorem dEq_comm (d e : Dk) : dEq d e = dEq e d := by
  rw [Bool.eq_iff_iff]
  unfold dEq
  rw [decide_eq_true_iff, decide_eq_true_iff]
  constructor <;> rintro ⟨h1, h2, h3, h4, h5, h6, h7⟩ <;> exact ⟨h1.symm, h2.symm, h3.symm, h4.symm, h5.symm, h6.symm, h7.symm⟩
theorem dEq_self (d : Dk) : dEq d d = true := by simp [dEq]
theorem corrN_goods {v : Vol} {d : Dk} (h : CorrN v d) {n : Nat} (hn : d.dur.length = n) (hn8 : n ≤ 65536) : Goods v.dur := by
  have hs : v.sectors = n := by rw [h.len, hn]
  have hl := len_range n (v.dur.map (·.1)) h.keys (fun x hx => by obtain ⟨p, hp, rfl⟩ := List.mem_map.1 hx; have := h.norm p hp; rw [hs] at this; exact this.2)
  rw [List.length_map] at hl
  refine ⟨by unfold maxLen; omega, fun p hp => ?_⟩
  obtain ⟨q1, q2, q3⟩ := h.norm p hp
  rw [hs] at q3
  obtain ⟨j, hj⟩ : ∃ j : Nat, p.1 = j := ⟨p.1.toNat, by omega⟩
  have hjl : j < d.dur.length := by omega
  have hd := h.dur j hjl
  unfold vDur at hd
  rw [← hj, mem_lookI h.keys hp] at hd
  have hz := h.sz _ (List.getElem_mem hjl)
  rw [← hd] at hz
  refine ⟨by unfold maxLen; simp at hz; omega, ?_⟩
  exact WalkArith.wf_i64 ⟨by omega, by omega⟩
end Go.Proofs.Ytombldjaipcloaa
