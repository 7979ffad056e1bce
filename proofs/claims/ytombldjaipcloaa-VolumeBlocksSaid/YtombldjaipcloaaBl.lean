/- Each block of a sector behind a start is the durable one, or that of a pending write. -/
import Derived.Test.YtombldjaipcloaaSv
set_option linter.unusedVariables false
set_option linter.unusedSimpArgs false
namespace Go.Proofs.Ytombldjaipcloaa
open Go.RowKit
theorem extract_none (s : ByteArray) (i j : Nat) (h : s.size ≤ i ∨ j ≤ i) : s.extract i j = ByteArray.empty := by
  apply ByteArray.ext
  apply Array.eq_empty_of_size_eq_zero
  have := ByteArray.size_extract (a := s) (b := i) (e := j)
  change (s.extract i j).size = 0
  rw [this]; omega
theorem blk_surv (a b : ByteArray) (c : Nat) (ha : 128 ≤ a.size) (hb : 128 ≤ b.size) (q : Nat) : ∀ k, k ≤ 4 → q < k → blk (survTo a b c k) q = if bit c q then blk b q else blk a q := by
  intro k
  induction k with
  | zero => intro _ h; omega
  | succ k ih =>
    intro hk hq
    have hz := survTo_size a b c ha hb k (by omega)
    have hx : (if bit c k then blk b k else blk a k).size = 32 := by split <;> (unfold blk; rw [ByteArray.size_extract]; omega)
    rw [survTo]
    unfold blk at hx ⊢
    rw [ByteArray.extract_append, hz]
    by_cases h : q = k
    · subst h
      rw [extract_none _ _ _ (.inl (by omega)), ByteArray.empty_append]
      generalize (if bit c q = true then b.extract (32 * q) (32 * q + 32) else a.extract (32 * q) (32 * q + 32)) = x at *
      rw [show 32 * q - 32 * q = 0 from by omega, show 32 * q + 32 - 32 * q = x.size from by omega]
      exact ByteArray.extract_zero_size
    · rw [extract_none (if bit c k = true then b.extract (32 * k) (32 * k + 32) else a.extract (32 * k) (32 * k + 32)) _ _ (.inr (by omega)), ByteArray.append_empty]
      exact ih (by omega) (by omega)
theorem startL_blk (zs : List Nat) (q : Nat) (hq : q < 4) (l : IS) : ∀ (v : Vol) (i : Nat), (v.dur.map (·.1)).Nodup → (∀ k, 0 ≤ k → k < v.sectors → (vDur v k).size = 128) → (∀ p ∈ l, p.2.size = 128 ∧ 0 ≤ p.1 ∧ p.1 < v.sectors) → ∀ k, 0 ≤ k → k < v.sectors →
    (vDur (vStartL zs v i l) k).size = 128 ∧ (blk (vDur (vStartL zs v i l) k) q = blk (vDur v k) q ∨ ∃ p ∈ l, p.1 = k ∧ blk (vDur (vStartL zs v i l) k) q = blk p.2 q) := by
  induction l with
  | nil => intro v i _ hz _ k h0 h1; exact ⟨hz k h0 h1, .inl rfl⟩
  | cons p l ih =>
    intro v i hn hz hp k h0 h1
    obtain ⟨p1, p2, p3⟩ := hp p (by simp)
    have hsz := surv_size (vDur v p.1) p.2 (vChoice zs i) (hz _ p2 p3) p1
    have hsec := (vKeep_more v p.1 (surv (vDur v p.1) p.2 (vChoice zs i))).2.2.2.2.2
    obtain ⟨g1, g2⟩ := ih (vKeep v p.1 (surv (vDur v p.1) p.2 (vChoice zs i))) (i + 1) (keep_keys _ _ _ hn) (keep_size hn hsz hz) (fun y hy => by rw [hsec]; exact hp y (List.mem_cons_of_mem _ hy)) k h0 (by rw [hsec]; exact h1)
    simp only [vStartL]
    refine ⟨g1, ?_⟩
    rcases g2 with g | ⟨y, hy, g⟩
    · rw [vDur_keep _ _ _ _ hn] at g
      by_cases h : k = p.1
      · rw [if_pos h] at g
        unfold surv at g
        rw [if_pos ⟨hz _ p2 p3, p1⟩, blk_surv _ _ _ (by have := hz _ p2 p3; omega) (by omega) q 4 (by omega) hq] at g
        split at g
        · right; exact ⟨p, by simp, h.symm, by unfold surv; rw [if_pos ⟨hz _ p2 p3, p1⟩]; exact g⟩
        · left; rw [h]; rw [h] at g; unfold surv; rw [if_pos ⟨hz _ p2 p3, p1⟩]; exact g
      · rw [if_neg h] at g; exact .inl g
    · exact .inr ⟨y, List.mem_cons_of_mem _ hy, g⟩
/-- Whether the block of s that begins at k is the durable one, or that of one of the first j pending writes. -/
def fnd (x s : ByteArray) (i : Int) (k : Nat) : IS → Bool
  | [] => decide (s.extract k (k + 32) = x.extract k (k + 32))
  | p :: l => fnd x s i k l || (decide (p.1 = i) && decide (s.extract k (k + 32) = p.2.extract k (k + 32)))
theorem fnd_all {x s : ByteArray} {i : Int} {k : Nat} : ∀ l : IS, (s.extract k (k + 32) = x.extract k (k + 32) ∨ ∃ p ∈ l, p.1 = i ∧ s.extract k (k + 32) = p.2.extract k (k + 32)) → fnd x s i k l = true := by
  intro l
  induction l with
  | nil => rintro (h | ⟨p, hp, _⟩); unfold fnd; simpa using h; cases hp
  | cons y l ih =>
    rintro (h | ⟨p, hp, h1, h2⟩)
    · unfold fnd; rw [ih (.inl h)]; rfl
    · rcases List.mem_cons.1 hp with rfl | hp
      · unfold fnd; simp [h1, h2]
      · unfold fnd; rw [ih (.inr ⟨p, hp, h1, h2⟩)]; rfl
def fndK (x s : ByteArray) (i : Int) (k : Nat) (l : IS) (j : Nat) : Bool := fnd x s i k (l.take j).reverse
theorem fndK_zero (x s : ByteArray) (i : Int) (k : Nat) (l : IS) : fndK x s i k l 0 = decide (s.extract k (k + 32) = x.extract k (k + 32)) := rfl
theorem fndK_succ (x s : ByteArray) (i : Int) (k : Nat) (l : IS) (j : Nat) (h : j < l.length) : fndK x s i k l (j + 1) = (fndK x s i k l j || (decide ((l[j]).1 = i) && decide (s.extract k (k + 32) = (l[j]).2.extract k (k + 32)))) := by
  unfold fndK
  rw [List.take_succ_eq_append_getElem h, List.reverse_append]
  rfl
theorem fndK_all {x s : ByteArray} {i : Int} {k : Nat} {l : IS} (h : s.extract k (k + 32) = x.extract k (k + 32) ∨ ∃ p ∈ l, p.1 = i ∧ s.extract k (k + 32) = p.2.extract k (k + 32)) : fndK x s i k l l.length = true := by
  unfold fndK
  rw [List.take_length]
  refine fnd_all _ (h.imp id ?_)
  rintro ⟨p, hp, h⟩
  exact ⟨p, List.mem_reverse.2 hp, h⟩
theorem blocks_law {v : Vol} {d : Dk} (hc : Corr v d) (zs : List Nat) (i : Nat) (hi : i < d.dur.length) : (vDur (vStart { v with down := true } zs) i).size = 128 ∧
    ∀ q, q < 4 → fndK d.dur[i] (vDur (vStart { v with down := true } zs) i) i (32 * q) d.pend d.pend.length = true := by
  have hz : ∀ k : Int, 0 ≤ k → k < ({ v with down := true } : Vol).sectors → (vDur { v with down := true } k).size = 128 := by
    intro k h0 h1
    have h1 : k < v.sectors := h1
    have := hc.len
    obtain ⟨m, rfl⟩ : ∃ m : Nat, k = m := ⟨k.toNat, by omega⟩
    have hm : m < d.dur.length := by omega
    show (vDur v m).size = 128
    rw [hc.dur m hm]
    exact hc.sz _ (List.getElem_mem hm)
  have hs : ∀ q, q < 4 → _ := fun q hq => startL_blk zs q hq v.pend { v with down := true } 0 hc.keys hz hc.psz i (by omega) (by show (i : Int) < v.sectors; rw [hc.len]; omega)
  unfold vStart
  rw [if_pos rfl]
  refine ⟨(hs 0 (by omega)).1, fun q hq => fndK_all ?_⟩
  have h := (hs q hq).2
  rw [hc.pend]
  rcases h with h | h
  · left
    have e : vDur { v with down := true } i = d.dur[i] := hc.dur i hi
    rw [e] at h
    exact h
  · exact .inr h
end Go.Proofs.Ytombldjaipcloaa
