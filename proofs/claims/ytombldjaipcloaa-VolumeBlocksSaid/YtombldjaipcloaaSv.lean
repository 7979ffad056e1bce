/- What survives of a write with the choices 15 and 0. -/
import Derived.Test.YtombldjaipcloaaCorr
set_option linter.unusedVariables false
set_option linter.unusedSimpArgs false
namespace Go.Proofs.Ytombldjaipcloaa
open Go.RowKit
theorem blk_all (a : ByteArray) (h : a.size = 128) : ((⟨#[]⟩ ++ blk a 0) ++ blk a 1 ++ blk a 2) ++ blk a 3 = a := by
  unfold blk
  have e : (⟨#[]⟩ : ByteArray) = ByteArray.empty := rfl
  rw [e, ByteArray.empty_append]
  simp only [ByteArray.extract_append_extract]
  have : a.extract 0 128 = a := by rw [← h]; exact ByteArray.extract_zero_size
  simpa using this
theorem surv_all (a b : ByteArray) (ha : a.size = 128) (hb : b.size = 128) : surv a b 15 = b := by
  unfold surv
  rw [if_pos ⟨ha, hb⟩]
  simp only [survTo]
  rw [if_pos (by decide), if_pos (by decide), if_pos (by decide), if_pos (by decide)]
  exact blk_all b hb
theorem surv_none (a b : ByteArray) (ha : a.size = 128) (hb : b.size = 128) : surv a b 0 = a := by
  unfold surv
  rw [if_pos ⟨ha, hb⟩]
  simp only [survTo]
  rw [if_neg (by decide), if_neg (by decide), if_neg (by decide), if_neg (by decide)]
  exact blk_all a ha
theorem keep_size {v : Vol} {s : Int} {x : ByteArray} (hn : (v.dur.map (·.1)).Nodup) (hx : x.size = 128) (hz : ∀ k, 0 ≤ k → k < v.sectors → (vDur v k).size = 128) : ∀ k, 0 ≤ k → k < (vKeep v s x).sectors → (vDur (vKeep v s x) k).size = 128 := by
  intro k h0 h1
  rw [vDur_keep _ _ _ _ hn]
  split
  · exact hx
  · exact hz k h0 (by rw [(vKeep_more v s x).2.2.2.2.2] at h1; exact h1)
theorem startL_all (zs : List Nat) (q : IS) : ∀ (v : Vol) (i : Nat), (v.dur.map (·.1)).Nodup → (∀ k, 0 ≤ k → k < v.sectors → (vDur v k).size = 128) → (∀ p ∈ q, p.2.size = 128 ∧ 0 ≤ p.1 ∧ p.1 < v.sectors) → (∀ j, i ≤ j → j < i + q.length → vChoice zs j = 15) → vStartL zs v i q = vFlush v q := by
  induction q with
  | nil => intro v i _ _ _ _; rfl
  | cons p q ih =>
    intro v i hn hz hp hc
    obtain ⟨p1, p2, p3⟩ := hp p (by simp)
    simp only [vStartL]
    rw [hc i (Nat.le_refl _) (by simp), surv_all _ _ (hz _ p2 p3) p1]
    rw [ih (vKeep v p.1 p.2) (i + 1) (keep_keys _ _ _ hn) (keep_size hn p1 hz) (fun y hy => by rw [(vKeep_more v p.1 p.2).2.2.2.2.2]; exact hp y (List.mem_cons_of_mem _ hy)) (fun j h1 h2 => hc j (by omega) (by simp; omega))]
    rfl
theorem startL_none (zs : List Nat) (q : IS) : ∀ (v : Vol) (i : Nat), (v.dur.map (·.1)).Nodup → (∀ k, 0 ≤ k → k < v.sectors → (vDur v k).size = 128) → (∀ p ∈ q, p.2.size = 128 ∧ 0 ≤ p.1 ∧ p.1 < v.sectors) → (∀ j, vChoice zs j = 0) → ∀ k, vDur (vStartL zs v i q) k = vDur v k := by
  induction q with
  | nil => intro v i _ _ _ _ k; rfl
  | cons p q ih =>
    intro v i hn hz hp hc k
    obtain ⟨p1, p2, p3⟩ := hp p (by simp)
    simp only [vStartL]
    rw [hc i, surv_none _ _ (hz _ p2 p3) p1]
    rw [ih (vKeep v p.1 (vDur v p.1)) (i + 1) (keep_keys _ _ _ hn) (keep_size hn (hz _ p2 p3) hz) (fun y hy => by rw [(vKeep_more v p.1 _).2.2.2.2.2]; exact hp y (List.mem_cons_of_mem _ hy)) hc k, vDur_keep _ _ _ _ hn]
    by_cases h : k = p.1
    · rw [if_pos h, h]
    · rw [if_neg h]
end Go.Proofs.Ytombldjaipcloaa
