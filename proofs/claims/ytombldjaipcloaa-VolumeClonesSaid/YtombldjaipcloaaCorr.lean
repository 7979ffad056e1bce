/- The device and its model say the same. -/
import Derived.Test.YtombldjaipcloaaDs
set_option linter.unusedVariables false
set_option linter.unusedSimpArgs false
namespace Go.Proofs.Ytombldjaipcloaa
open Go.RowKit

structure Corr (v : Vol) (d : Dk) : Prop where
  len : v.sectors = d.dur.length
  dur : ∀ i (h : i < d.dur.length), vDur v i = d.dur[i]
  sz : ∀ x ∈ d.dur, x.size = 128
  pend : d.pend = v.pend
  psz : ∀ p ∈ v.pend, p.2.size = 128 ∧ 0 ≤ p.1 ∧ p.1 < v.sectors
  lim : d.limited = v.limited
  down : d.down = v.down
  left : d.limit = v.left
  writes : d.writes = v.writes
  barriers : d.barriers = v.barriers
  keys : (v.dur.map (·.1)).Nodup

theorem lookI_setI (m : IS) (s k : Int) (x : ByteArray) : lookI (setI m s x) k = if k = s then some x else lookI m k := by
  induction m with
  | nil =>
    by_cases h : k = s
    · subst h; simp [setI, lookI]
    · rw [if_neg h]; unfold setI lookI; simp [List.find?_cons, show (s == k) = false from by simpa using fun e : s = k => h e.symm]
  | cons p m ih =>
    obtain ⟨a, y⟩ := p
    simp only [setI]
    by_cases ha : a = s
    · subst ha
      simp only [beq_self_eq_true, if_true]
      unfold lookI
      by_cases h : k = a
      · subst h; simp
      · simp [List.find?_cons, h, show ¬ a = k from fun e => h e.symm]
    · rw [if_neg (by simpa using ha)]
      unfold lookI at ih ⊢
      rw [List.find?_cons, List.find?_cons]
      by_cases h : a = k
      · subst h; simp [ha]
      · simp only [show (a == k) = false from by simpa using h]; exact ih
theorem setI_keys (m : IS) (s : Int) (x : ByteArray) : ∀ k, k ∈ (setI m s x).map (·.1) → k = s ∨ k ∈ m.map (·.1) := by
  induction m with
  | nil => intro k hk; simp [setI] at hk; exact .inl hk
  | cons p m ih =>
    intro k hk
    simp only [setI] at hk
    split at hk
    · rename_i h
      have h : p.1 = s := by simpa using h
      simp at hk
      rcases hk with rfl | hk
      · exact .inl rfl
      · right; simp; exact .inr hk
    · simp only [List.map_cons, List.mem_cons] at hk ⊢
      rcases hk with hk | hk
      · exact .inr (.inl hk)
      · rcases ih k hk with h | h
        · exact .inl h
        · exact .inr (.inr h)
theorem setI_nodup (m : IS) (s : Int) (x : ByteArray) (h : (m.map (·.1)).Nodup) : ((setI m s x).map (·.1)).Nodup := by
  induction m with
  | nil => simp [setI]
  | cons p m ih =>
    simp only [List.map_cons, List.nodup_cons] at h
    simp only [setI]
    split
    · rename_i hp
      have hp : p.1 = s := by simpa using hp
      simp only [List.map_cons, List.nodup_cons]
      exact ⟨by rw [← hp]; exact h.1, h.2⟩
    · rename_i hp
      have hp : ¬ p.1 = s := by simpa using hp
      simp only [List.map_cons, List.nodup_cons]
      exact ⟨fun hk => by rcases setI_keys m s x _ hk with h1 | h1; exact hp h1; exact h.1 h1, ih h.2⟩
theorem lookI_none (m : IS) (k : Int) (h : k ∉ m.map (·.1)) : lookI m k = none := by
  unfold lookI
  rw [Option.map_eq_none_iff, List.find?_eq_none]
  intro p hp he
  exact h (List.mem_map.2 ⟨p, hp, by simpa using he⟩)
theorem lookI_delI (m : IS) (s k : Int) (hn : (m.map (·.1)).Nodup) : lookI (delI m s) k = if k = s then none else lookI m k := by
  induction m with
  | nil => unfold lookI; simp [delI]
  | cons p m ih =>
    obtain ⟨a, y⟩ := p
    simp only [List.map_cons, List.nodup_cons] at hn
    simp only [delI]
    by_cases ha : a = s
    · subst ha
      simp only [beq_self_eq_true, if_true]
      by_cases h : k = a
      · subst h; rw [if_pos rfl]; exact lookI_none _ _ hn.1
      · rw [if_neg h]; unfold lookI; rw [List.find?_cons]; simp only [show (a == k) = false from by simpa using fun e : a = k => h e.symm]
    · rw [if_neg (by simpa using ha)]
      have ih := ih hn.2
      unfold lookI at ih ⊢
      rw [List.find?_cons, List.find?_cons]
      by_cases h : a = k
      · subst h; simp [ha]
      · simp only [show (a == k) = false from by simpa using h]; exact ih
theorem delI_sub (m : IS) (s : Int) : List.Sublist ((delI m s).map (·.1)) (m.map (·.1)) := by
  induction m with
  | nil => simp [delI]
  | cons p m ih =>
    simp only [delI]
    split
    · exact List.sublist_cons_self _ _
    · exact ih.cons_cons _
theorem vDur_keep (v : Vol) (s k : Int) (x : ByteArray) (hn : (v.dur.map (·.1)).Nodup) : vDur (vKeep v s x) k = if k = s then x else vDur v k := by
  unfold vKeep vDur
  by_cases hx : x = fillS 0
  · rw [if_pos hx]
    show (lookI (delI v.dur s) k).getD _ = _
    rw [lookI_delI _ _ _ hn]
    by_cases h : k = s
    · rw [if_pos h, if_pos h, hx]; rfl
    · rw [if_neg h, if_neg h]
  · rw [if_neg hx]
    show (lookI (setI v.dur s x) k).getD _ = _
    rw [lookI_setI]
    by_cases h : k = s
    · rw [if_pos h, if_pos h]; rfl
    · rw [if_neg h, if_neg h]
theorem keep_keys (v : Vol) (s : Int) (x : ByteArray) (hn : (v.dur.map (·.1)).Nodup) : ((vKeep v s x).dur.map (·.1)).Nodup := by
  unfold vKeep
  split
  · exact hn.sublist (delI_sub _ _)
  · exact setI_nodup _ _ _ hn
theorem vKeep_more (v : Vol) (s : Int) (d : ByteArray) : (vKeep v s d).limited = v.limited ∧ (vKeep v s d).down = v.down ∧ (vKeep v s d).left = v.left ∧ (vKeep v s d).writes = v.writes ∧ (vKeep v s d).barriers = v.barriers ∧ (vKeep v s d).sectors = v.sectors := by
  unfold vKeep; split <;> exact ⟨rfl, rfl, rfl, rfl, rfl, rfl⟩
theorem flush_law (l : IS) : ∀ v : Vol, (v.dur.map (·.1)).Nodup → ((vFlush v l).dur.map (·.1)).Nodup ∧ (∀ k, vDur (vFlush v l) k = dC l k (vDur v k)) ∧ (vFlush v l).limited = v.limited ∧ (vFlush v l).down = v.down ∧ (vFlush v l).left = v.left ∧ (vFlush v l).writes = v.writes ∧ (vFlush v l).barriers = v.barriers ∧ (vFlush v l).sectors = v.sectors := by
  induction l with
  | nil => intro v hn; exact ⟨hn, fun k => rfl, rfl, rfl, rfl, rfl, rfl, rfl⟩
  | cons p l ih =>
    intro v hn
    obtain ⟨h1, h2, h3, h4, h5, h6, h7, h8⟩ := ih (vKeep v p.1 p.2) (keep_keys _ _ _ hn)
    obtain ⟨k3, k4, k5, k6, k7, k8⟩ := vKeep_more v p.1 p.2
    refine ⟨h1, fun k => ?_, h3.trans k3, h4.trans k4, h5.trans k5, h6.trans k6, h7.trans k7, h8.trans k8⟩
    show vDur (vFlush (vKeep v p.1 p.2) l) k = _
    rw [h2, vDur_keep _ _ _ _ hn]
    show _ = dC l k (if p.1 = k then p.2 else vDur v k)
    by_cases h : k = p.1
    · rw [if_pos h, if_pos h.symm]
    · rw [if_neg h, if_neg (fun e => h e.symm)]
theorem dC_size (p : IS) (s : Int) : ∀ x : ByteArray, x.size = 128 → (∀ q ∈ p, q.2.size = 128) → (dC p s x).size = 128 := by
  induction p with
  | nil => intro x hx _; exact hx
  | cons q p ih =>
    intro x hx hp
    show (dC p s (if q.1 = s then q.2 else x)).size = 128
    refine ih _ ?_ (fun y hy => hp y (List.mem_cons_of_mem _ hy))
    split
    · exact hp q (by simp)
    · exact hx
theorem lastW_eq (p : IS) (s : Int) (x : ByteArray) : (lastW p s).getD x = dC p s x := by
  obtain ⟨r, rfl⟩ : ∃ r : IS, p = r.reverse := ⟨p.reverse, by simp⟩
  unfold lastW
  rw [List.reverse_reverse]
  induction r with
  | nil => rfl
  | cons q r ih =>
    have : dC (q :: r).reverse s x = if q.1 = s then q.2 else dC r.reverse s x := by
      unfold dC; rw [List.reverse_cons, List.foldl_append]; rfl
    rw [this, List.find?_cons]
    by_cases h : q.1 = s
    · simp [h]
    · rw [if_neg h]; simp only [show (q.1 == s) = false from by simpa using h]; exact ih
theorem surv_size (a b : ByteArray) (c : Nat) (ha : a.size = 128) (hb : b.size = 128) : (surv a b c).size = 128 := by
  unfold surv
  rw [if_pos ⟨ha, hb⟩]
  exact survTo_size a b c (by omega) (by omega) 4 (by omega)

/-! ### the operations -/
theorem corr_read {v : Vol} {d : Dk} (h : Corr v d) (s : Nat) (hs : s < d.dur.length) : (lastW v.pend s).getD (vDur v s) = dCont d s := by
  rw [lastW_eq, dCont_eq, h.pend, h.dur s hs, List.getElem?_eq_getElem hs]; rfl
theorem corr_step {v : Vol} {d : Dk} (h : Corr v d) : (vOp v).1 = (dStep d).1 ∧ Corr (vOp v).2 (dStep d).2 := by
  unfold vOp dStep
  by_cases h1 : v.limited = true
  · rw [if_pos h1, if_pos (h.lim.trans h1)]
    by_cases h2 : v.left ≤ 0
    · rw [if_pos h2, if_pos (show d.limit ≤ 0 from by rw [h.left]; exact h2)]; exact ⟨rfl, { h with down := rfl }⟩
    · rw [if_neg h2, if_neg (show ¬ d.limit ≤ 0 from by rw [h.left]; exact h2)]; exact ⟨rfl, { h with left := by show wrap64 _ = wrap64 _; rw [h.left] }⟩
  · rw [if_neg h1, if_neg (show ¬ d.limited = true from by rw [h.lim]; exact h1)]; exact ⟨rfl, h⟩
theorem corr_write {v : Vol} {d : Dk} (h : Corr v d) (s : Int) (x : ByteArray) :
    (vWrite v s x).1 = (dWrite d s x).1 ∧ Corr (vWrite v s x).2 (dWrite d s x).2 ∧ (vWrite v s x).2.pend.length ≤ v.pend.length + 1 ∧ (dWrite d s x).2.dur.length = d.dur.length := by
  unfold vWrite dWrite
  by_cases h1 : v.down = true
  · rw [if_pos h1, if_pos (h.down.trans h1)]; exact ⟨rfl, h, by simp, rfl⟩
  rw [if_neg h1, if_neg (show ¬ d.down = true from by rw [h.down]; exact h1)]
  by_cases h2 : s < 0 ∨ v.sectors ≤ s
  · rw [if_pos h2, if_pos (show s < 0 ∨ (d.dur.length : Int) ≤ s from by rw [← h.len]; exact h2)]; exact ⟨rfl, h, by simp, rfl⟩
  rw [if_neg h2, if_neg (show ¬ (s < 0 ∨ (d.dur.length : Int) ≤ s) from by rw [← h.len]; exact h2)]
  by_cases h3 : x.size = 128
  · rw [if_neg (show ¬ x.size ≠ 128 from fun e => e h3), if_neg (show ¬ x.size ≠ 128 from fun e => e h3)]
    by_cases h4 : 4096 ≤ v.pend.length
    · rw [if_pos h4, if_pos (show 4096 ≤ d.pend.length from by rw [h.pend]; exact h4)]; exact ⟨rfl, h, by simp, rfl⟩
    rw [if_neg h4, if_neg (show ¬ 4096 ≤ d.pend.length from by rw [h.pend]; exact h4)]
    have hc : Corr { v with pend := v.pend ++ [(s, x)] } { d with pend := d.pend ++ [(s, x)] } := { h with
      pend := by show d.pend ++ _ = v.pend ++ _; rw [h.pend]
      psz := by
        intro p hp
        rcases List.mem_append.1 hp with hp | hp
        · exact h.psz p hp
        · simp at hp; subst hp; have := h.len; exact ⟨h3, by show 0 ≤ s; omega, by show s < v.sectors; omega⟩ }
    have hs := corr_step hc
    unfold dPut
    have hl : ∀ v : Vol, (vOp v).2.pend = v.pend := fun v => by unfold vOp; split <;> (try split) <;> rfl
    have hl' := hl { v with pend := v.pend ++ [(s, x)] }
    have hd' := (dStep_rest { d with pend := d.pend ++ [(s, x)] }).2
    dsimp only at hl' hd' ⊢
    generalize vOp { v with pend := v.pend ++ [(s, x)] } = rv at *
    generalize dStep { d with pend := d.pend ++ [(s, x)] } = rd at *
    obtain ⟨b1, v1⟩ := rv
    obtain ⟨b2, d1⟩ := rd
    obtain ⟨hs1, hs2⟩ := hs
    dsimp only at hs1 hs2 hl' hd' ⊢
    subst hs1
    cases b1
    · exact ⟨rfl, { hs2 with writes := by show wrap64 _ = wrap64 _; rw [hs2.writes] }, by show v1.pend.length ≤ _; rw [hl']; simp, by show d1.dur.length = _; rw [hd']⟩
    · exact ⟨rfl, hs2, by show v1.pend.length ≤ _; rw [hl']; simp, by show d1.dur.length = _; rw [hd']⟩
  · rw [if_pos h3, if_pos h3]; exact ⟨rfl, h, by simp, rfl⟩
theorem corr_barrier {v : Vol} {d : Dk} (h : Corr v d) :
    (vBarrier v).1 = (dBarrier d).1 ∧ Corr (vBarrier v).2 (dBarrier d).2 ∧ (vBarrier v).2.pend.length ≤ v.pend.length ∧ (dBarrier d).2.dur.length = d.dur.length := by
  unfold vBarrier dBarrier
  by_cases h1 : v.down = true
  · rw [if_pos h1, if_pos (h.down.trans h1)]; exact ⟨rfl, h, by simp, rfl⟩
  rw [if_neg h1, if_neg (show ¬ d.down = true from by rw [h.down]; exact h1)]
  have hs := corr_step h
  have hl' : (vOp v).2.pend = v.pend := by unfold vOp; split <;> (try split) <;> rfl
  have hd' := (dStep_rest d).2
  generalize vOp v = rv at *
  generalize dStep d = rd at *
  obtain ⟨b1, v1⟩ := rv
  obtain ⟨b2, d1⟩ := rd
  obtain ⟨hs1, hs2⟩ := hs
  dsimp only at hs1 hs2 hl' hd' ⊢
  subst hs1
  cases b1
  · obtain ⟨f1, f2, f3, f4, f5, f6, f7, f8⟩ := flush_law v1.pend v1 hs2.keys
    have hln : (dFlat d1.pend d1.dur).length = d1.dur.length := by simp [dFlat]
    refine ⟨rfl, ?_, by show ([] : IS).length ≤ _; simp, by show (dFlat _ _).length = _; rw [hln, hd']⟩
    refine ⟨?_, ?_, ?_, rfl, (by intro p hp; cases hp), ?_, ?_, ?_, ?_, ?_, f1⟩
    · show (vFlush v1 v1.pend).sectors = ((dFlat d1.pend d1.dur).length : Int); rw [f8, hln]; exact hs2.len
    · intro i hi
      show vDur (vFlush v1 v1.pend) i = (dFlat d1.pend d1.dur)[i]'hi
      have hi' : i < d1.dur.length := by rw [← hln]; exact hi
      rw [f2, hs2.dur i hi']; simp [dFlat, hs2.pend]
    · intro x hx
      obtain ⟨i, hi, rfl⟩ := List.getElem_of_mem hx
      have hi' : i < d1.dur.length := by rw [← hln]; exact hi
      show ((dFlat d1.pend d1.dur)[i]'hi).size = 128
      rw [show (dFlat d1.pend d1.dur)[i]'hi = dC d1.pend i d1.dur[i] by simp [dFlat]]
      exact dC_size _ _ _ (hs2.sz _ (List.getElem_mem hi')) (fun q hq => (hs2.psz q (by rw [← hs2.pend]; exact hq)).1)
    · show d1.limited = (vFlush v1 v1.pend).limited; rw [f3]; exact hs2.lim
    · show d1.down = (vFlush v1 v1.pend).down; rw [f4]; exact hs2.down
    · show d1.limit = (vFlush v1 v1.pend).left; rw [f5]; exact hs2.left
    · show d1.writes = (vFlush v1 v1.pend).writes; rw [f6]; exact hs2.writes
    · show wrap64 (d1.barriers + 1) = wrap64 (v1.barriers + 1); rw [hs2.barriers]
  · exact ⟨rfl, hs2, by show v1.pend.length ≤ _; rw [hl']; simp, by show d1.dur.length = _; rw [hd']⟩
theorem startL_law (zs : List Nat) (q : IS) : ∀ (v : Vol) (l : List ByteArray) (i : Nat), (v.dur.map (·.1)).Nodup → (∀ i (h : i < l.length), vDur v i = l[i]) → (∀ x ∈ l, x.size = 128) → (∀ p ∈ q, p.2.size = 128 ∧ 0 ≤ p.1 ∧ p.1 < l.length) →
    ((vStartL zs v i q).dur.map (·.1)).Nodup ∧ (∀ j (h : j < (dStartL zs l i q).length), vDur (vStartL zs v i q) j = (dStartL zs l i q)[j]) ∧ (∀ x ∈ dStartL zs l i q, x.size = 128) ∧ (vStartL zs v i q).writes = v.writes ∧ (vStartL zs v i q).barriers = v.barriers := by
  induction q with
  | nil => intro v l i hn hd hz _; exact ⟨hn, hd, hz, rfl, rfl⟩
  | cons p q ih =>
    intro v l i hn hd hz hp
    obtain ⟨p1, p2, p3⟩ := hp p (by simp)
    obtain ⟨k3, k4, k5, k6, k7, k8⟩ := vKeep_more v p.1 (surv (vDur v p.1) p.2 (vChoice zs i))
    have hj : p.1.toNat < l.length := by omega
    have e : vDur v p.1 = l[p.1.toNat] := by have := hd p.1.toNat hj; rwa [Int.toNat_of_nonneg p2] at this
    have e2 : (l[p.1.toNat]?).getD ⟨#[]⟩ = l[p.1.toNat] := by rw [List.getElem?_eq_getElem hj]; rfl
    simp only [vStartL, dStartL]
    rw [e] at k6 k7
    simp only [e2, e]
    have hsz := surv_size l[p.1.toNat] p.2 (vChoice zs i) (hz _ (List.getElem_mem hj)) p1
    obtain ⟨g1, g2, g3, g4, g5⟩ := ih (vKeep v p.1 (surv l[p.1.toNat] p.2 (vChoice zs i))) (l.set p.1.toNat (surv l[p.1.toNat] p.2 (vChoice zs i))) (i + 1) (keep_keys _ _ _ hn) (fun j hj2 => by
        rw [vDur_keep _ _ _ _ hn, List.getElem_set]
        by_cases h : p.1.toNat = j
        · rw [if_pos h, if_pos (by omega)]
        · rw [if_neg h, if_neg (by omega)]; exact hd j (by simpa using hj2))
      (fun x hx => by
        rcases List.mem_or_eq_of_mem_set hx with h | h
        · exact hz x h
        · rw [h]; exact hsz)
      (fun y hy => by have := hp y (List.mem_cons_of_mem _ hy); rw [List.length_set]; exact this)
    exact ⟨g1, g2, g3, g4.trans k6, g5.trans k7⟩
theorem corr_start {v : Vol} {d : Dk} (h : Corr v d) (zs : List Nat) : Corr (vStart v zs) (dStart d zs) ∧ (vStart v zs).pend.length ≤ v.pend.length ∧ (dStart d zs).dur.length = d.dur.length := by
  unfold vStart dStart
  by_cases h1 : v.down = true
  · rw [if_pos h1, if_pos (h.down.trans h1)]
    obtain ⟨g1, g2, g3, g4, g5⟩ := startL_law zs v.pend v d.dur 0 h.keys h.dur h.sz (fun p hp => by have := h.psz p hp; have := h.len; exact ⟨by simp [*], by omega, by omega⟩)
    rw [h.pend]
    refine ⟨⟨?_, g2, g3, rfl, (by intro p hp; cases hp), rfl, rfl, rfl, ?_, ?_, g1⟩, by show ([] : IS).length ≤ _; simp, dStartL_length _ _ _ _⟩
    · show (vStartL zs v 0 v.pend).sectors = ((dStartL zs d.dur 0 v.pend).length : Int); rw [dStartL_length, (vStartL_rest zs v.pend v 0).2]; exact h.len
    · show d.writes = (vStartL zs v 0 v.pend).writes; rw [g4]; exact h.writes
    · show d.barriers = (vStartL zs v 0 v.pend).barriers; rw [g5]; exact h.barriers
  · rw [if_neg h1, if_neg (show ¬ d.down = true from by rw [h.down]; exact h1)]; exact ⟨h, Nat.le_refl _, rfl⟩
theorem corr_new (n : Nat) : Corr (vNew n) (dNew n) :=
  ⟨by show (n : Int) = ((List.replicate n (fillS 0)).length : Int); rw [List.length_replicate], fun i hi => by simp [vDur, vNew, dNew, lookI], fun x hx => by simp [dNew] at hx; rw [hx.2]; exact fillS_size 0, rfl, (by intro p hp; cases hp), rfl, rfl, rfl, rfl, rfl, List.nodup_nil⟩
theorem corr_limit {v : Vol} {d : Dk} (h : Corr v d) (n : Int) : Corr { v with limited := true, left := max 0 n } { d with limited := true, limit := max 0 n } := { h with lim := rfl, left := rfl }
theorem corr_crash {v : Vol} {d : Dk} (h : Corr v d) : Corr { v with down := true } { d with down := true } := { h with down := rfl }
end Go.Proofs.Ytombldjaipcloaa
