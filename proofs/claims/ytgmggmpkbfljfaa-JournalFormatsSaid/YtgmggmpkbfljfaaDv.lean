/- What a device holds, and what its operations make of it. -/
import Derived.Test.YtgmggmpkbfljfaaIm
set_option linter.unusedVariables false
set_option linter.unusedSimpArgs false
set_option maxRecDepth 100000
namespace Go.Proofs.Ytgmggmpkbfljfaa
open Go.RowKit
def dC (p : IS) (s : Int) (x : ByteArray) : ByteArray := p.foldl (fun c q => if q.1 = s then q.2 else c) x
theorem lookI_setI (m : IS) (s k : Int) (x : ByteArray) : lookI (setI m s x) k = if k = s then some x else lookI m k := by
  induction m with
  | nil =>
    by_cases h : k = s
    · subst h; simp [setI, lookI]
    · rw [if_neg h]; unfold setI lookI; simp [List.find?_cons, show (s == k) = false from by simpa using fun e : s = k => h e.symm]
  | cons p m ih =>
    obtain ⟨a, y⟩ := p
    simp only [setI]
    by_cases ha : a = s
    · subst ha
      simp only [beq_self_eq_true, if_true]
      unfold lookI
      by_cases h : k = a
      · subst h; simp
      · simp [List.find?_cons, h, show ¬ a = k from fun e => h e.symm]
    · rw [if_neg (by simpa using ha)]
      unfold lookI at ih ⊢
      rw [List.find?_cons, List.find?_cons]
      by_cases h : a = k
      · subst h; simp [ha]
      · simp only [show (a == k) = false from by simpa using h]; exact ih
theorem setI_keys (m : IS) (s : Int) (x : ByteArray) : ∀ k, k ∈ (setI m s x).map (·.1) → k = s ∨ k ∈ m.map (·.1) := by
  induction m with
  | nil => intro k hk; simp [setI] at hk; exact .inl hk
  | cons p m ih =>
    intro k hk
    simp only [setI] at hk
    split at hk
    · rename_i h
      have h : p.1 = s := by simpa using h
      simp at hk
      rcases hk with rfl | hk
      · exact .inl rfl
      · right; simp; exact .inr hk
    · simp only [List.map_cons, List.mem_cons] at hk ⊢
      rcases hk with hk | hk
      · exact .inr (.inl hk)
      · rcases ih k hk with h | h
        · exact .inl h
        · exact .inr (.inr h)
theorem setI_nodup (m : IS) (s : Int) (x : ByteArray) (h : (m.map (·.1)).Nodup) : ((setI m s x).map (·.1)).Nodup := by
  induction m with
  | nil => simp [setI]
  | cons p m ih =>
    simp only [List.map_cons, List.nodup_cons] at h
    simp only [setI]
    split
    · rename_i hp
      have hp : p.1 = s := by simpa using hp
      simp only [List.map_cons, List.nodup_cons]
      exact ⟨by rw [← hp]; exact h.1, h.2⟩
    · rename_i hp
      have hp : ¬ p.1 = s := by simpa using hp
      simp only [List.map_cons, List.nodup_cons]
      exact ⟨fun hk => by rcases setI_keys m s x _ hk with h1 | h1; exact hp h1; exact h.1 h1, ih h.2⟩
theorem lookI_none (m : IS) (k : Int) (h : k ∉ m.map (·.1)) : lookI m k = none := by
  unfold lookI
  rw [Option.map_eq_none_iff, List.find?_eq_none]
  intro p hp he
  exact h (List.mem_map.2 ⟨p, hp, by simpa using he⟩)
theorem lookI_delI (m : IS) (s k : Int) (hn : (m.map (·.1)).Nodup) : lookI (delI m s) k = if k = s then none else lookI m k := by
  induction m with
  | nil => unfold lookI; simp [delI]
  | cons p m ih =>
    obtain ⟨a, y⟩ := p
    simp only [List.map_cons, List.nodup_cons] at hn
    simp only [delI]
    by_cases ha : a = s
    · subst ha
      simp only [beq_self_eq_true, if_true]
      by_cases h : k = a
      · subst h; rw [if_pos rfl]; exact lookI_none _ _ hn.1
      · rw [if_neg h]; unfold lookI; rw [List.find?_cons]; simp only [show (a == k) = false from by simpa using fun e : a = k => h e.symm]
    · rw [if_neg (by simpa using ha)]
      have ih := ih hn.2
      unfold lookI at ih ⊢
      rw [List.find?_cons, List.find?_cons]
      by_cases h : a = k
      · subst h; simp [ha]
      · simp only [show (a == k) = false from by simpa using h]; exact ih
theorem delI_sub (m : IS) (s : Int) : List.Sublist ((delI m s).map (·.1)) (m.map (·.1)) := by
  induction m with
  | nil => simp [delI]
  | cons p m ih =>
    simp only [delI]
    split
    · exact List.sublist_cons_self _ _
    · exact ih.cons_cons _
theorem vDur_keep (v : Vol) (s k : Int) (x : ByteArray) (hn : (v.dur.map (·.1)).Nodup) : vDur (vKeep v s x) k = if k = s then x else vDur v k := by
  unfold vKeep vDur
  by_cases hx : x = fillS 0
  · rw [if_pos hx]
    show (lookI (delI v.dur s) k).getD _ = _
    rw [lookI_delI _ _ _ hn]
    by_cases h : k = s
    · rw [if_pos h, if_pos h, hx]; rfl
    · rw [if_neg h, if_neg h]
  · rw [if_neg hx]
    show (lookI (setI v.dur s x) k).getD _ = _
    rw [lookI_setI]
    by_cases h : k = s
    · rw [if_pos h, if_pos h]; rfl
    · rw [if_neg h, if_neg h]
theorem keep_keys (v : Vol) (s : Int) (x : ByteArray) (hn : (v.dur.map (·.1)).Nodup) : ((vKeep v s x).dur.map (·.1)).Nodup := by
  unfold vKeep
  split
  · exact hn.sublist (delI_sub _ _)
  · exact setI_nodup _ _ _ hn
theorem vKeep_more (v : Vol) (s : Int) (d : ByteArray) : (vKeep v s d).limited = v.limited ∧ (vKeep v s d).down = v.down ∧ (vKeep v s d).left = v.left ∧ (vKeep v s d).writes = v.writes ∧ (vKeep v s d).barriers = v.barriers ∧ (vKeep v s d).sectors = v.sectors := by
  unfold vKeep; split <;> exact ⟨rfl, rfl, rfl, rfl, rfl, rfl⟩
theorem flush_law (l : IS) : ∀ v : Vol, (v.dur.map (·.1)).Nodup → ((vFlush v l).dur.map (·.1)).Nodup ∧ (∀ k, vDur (vFlush v l) k = dC l k (vDur v k)) ∧ (vFlush v l).limited = v.limited ∧ (vFlush v l).down = v.down ∧ (vFlush v l).left = v.left ∧ (vFlush v l).writes = v.writes ∧ (vFlush v l).barriers = v.barriers ∧ (vFlush v l).sectors = v.sectors := by
  induction l with
  | nil => intro v hn; exact ⟨hn, fun k => rfl, rfl, rfl, rfl, rfl, rfl, rfl⟩
  | cons p l ih =>
    intro v hn
    obtain ⟨h1, h2, h3, h4, h5, h6, h7, h8⟩ := ih (vKeep v p.1 p.2) (keep_keys _ _ _ hn)
    obtain ⟨k3, k4, k5, k6, k7, k8⟩ := vKeep_more v p.1 p.2
    refine ⟨h1, fun k => ?_, h3.trans k3, h4.trans k4, h5.trans k5, h6.trans k6, h7.trans k7, h8.trans k8⟩
    show vDur (vFlush (vKeep v p.1 p.2) l) k = _
    rw [h2, vDur_keep _ _ _ _ hn]
    show _ = dC l k (if p.1 = k then p.2 else vDur v k)
    by_cases h : k = p.1
    · rw [if_pos h, if_pos h.symm]
    · rw [if_neg h, if_neg (fun e => h e.symm)]
theorem dC_size (p : IS) (s : Int) : ∀ x : ByteArray, x.size = 128 → (∀ q ∈ p, q.2.size = 128) → (dC p s x).size = 128 := by
  induction p with
  | nil => intro x hx _; exact hx
  | cons q p ih =>
    intro x hx hp
    show (dC p s (if q.1 = s then q.2 else x)).size = 128
    refine ih _ ?_ (fun y hy => hp y (List.mem_cons_of_mem _ hy))
    split
    · exact hp q (by simp)
    · exact hx
theorem lastW_eq (p : IS) (s : Int) (x : ByteArray) : (lastW p s).getD x = dC p s x := by
  obtain ⟨r, rfl⟩ : ∃ r : IS, p = r.reverse := ⟨p.reverse, by simp⟩
  unfold lastW
  rw [List.reverse_reverse]
  induction r with
  | nil => rfl
  | cons q r ih =>
    have : dC (q :: r).reverse s x = if q.1 = s then q.2 else dC r.reverse s x := by
      unfold dC; rw [List.reverse_cons, List.foldl_append]; rfl
    rw [this, List.find?_cons]
    by_cases h : q.1 = s
    · simp [h]
    · rw [if_neg h]; simp only [show (q.1 == s) = false from by simpa using h]; exact ih
theorem dC_snoc (p : IS) (q : Int × ByteArray) (s : Int) (x : ByteArray) : dC (p ++ [q]) s x = if q.1 = s then q.2 else dC p s x := by
  unfold dC; rw [List.foldl_append]; rfl
abbrev Cont := Int → ByteArray
def upd (C : Cont) (s : Int) (d : ByteArray) : Cont := fun k => if k = s then d else C k
/-- A device that is up and has no limit: how many writes are pending, and what it holds. -/
structure Good (v : Vol) (n : Nat) (C : Cont) (m : Nat) : Prop where
  down : v.down = false
  lim : v.limited = false
  secs : v.sectors = n
  keys : (v.dur.map (·.1)).Nodup
  pend : v.pend.length = m
  cont : ∀ s, dC v.pend s (vDur v s) = C s
theorem good_new (n : Nat) : Good (vNew n) n (fun _ => fillS 0) 0 := ⟨rfl, rfl, rfl, by simp [vNew], rfl, fun s => rfl⟩
theorem Good.read {v : Vol} {n : Nat} {C : Cont} {m : Nat} (h : Good v n C m) (s : Int) (h0 : 0 ≤ s) (h1 : s < n) : vRead v s = (C s, 0) := by
  unfold vRead
  rw [h.down, if_neg (by decide), if_neg (by rw [h.secs]; omega), lastW_eq, h.cont]
theorem vOp_free (v : Vol) (h : v.limited = false) : vOp v = (false, v) := by unfold vOp; rw [h]; rfl
theorem Good.write {v : Vol} {n : Nat} {C : Cont} {m : Nat} (h : Good v n C m) (s : Int) (d : ByteArray) (h0 : 0 ≤ s) (h1 : s < n) (hd : d.size = 128) (hm : m < 4096) :
    (vWrite v s d).1 = 0 ∧ Good (vWrite v s d).2 n (upd C s d) (m + 1) := by
  have hp := h.pend
  have e : vWrite v s d = (0, { v with pend := v.pend ++ [(s, d)], writes := wrap64 (v.writes + 1) }) := by
    have hd0 := h.down
    have hl0 := h.lim
    have hs0 := h.secs
    obtain ⟨sectors, dur, pend, limited, down, left, writes, barriers⟩ := v
    dsimp only at hd0 hl0 hs0 hp
    subst hd0 hl0
    unfold vWrite
    dsimp only
    rw [if_neg (by decide), if_neg (by omega), if_neg (by omega), if_neg (by omega)]
    rfl
  rw [e]
  refine ⟨rfl, h.down, h.lim, h.secs, h.keys, by simp [hp], fun k => ?_⟩
  show dC (v.pend ++ [(s, d)]) k (vDur v k) = _
  rw [dC_snoc, h.cont]
  unfold upd
  by_cases hk : k = s
  · rw [if_pos hk, if_pos hk.symm]
  · rw [if_neg hk, if_neg (fun e => hk e.symm)]
theorem Good.barrier {v : Vol} {n : Nat} {C : Cont} {m : Nat} (h : Good v n C m) : (vBarrier v).1 = 0 ∧ Good (vBarrier v).2 n C 0 := by
  have e : vBarrier v = (0, { vFlush v v.pend with pend := [], barriers := wrap64 (v.barriers + 1) }) := by
    have hd0 := h.down
    have hl0 := h.lim
    obtain ⟨sectors, dur, pend, limited, down, left, writes, barriers⟩ := v
    dsimp only at hd0 hl0
    subst hd0 hl0
    rfl
  obtain ⟨f1, f2, f3, f4, f5, f6, f7, f8⟩ := flush_law v.pend v h.keys
  rw [e]
  exact ⟨rfl, f4.trans h.down, f3.trans h.lim, f8.trans h.secs, f1, rfl, fun s => (f2 s).trans (h.cont s)⟩
theorem pgS_size (p : Pg) : (pgS p).size = 128 := pageS_size _ _ _ _
theorem Good.jW {v : Vol} {n : Nat} {C : Cont} {m : Nat} (h : Good v n C m) (p : Pg) (hn : 2 ≤ n) (hm : m < 4096) : (jW v p).1 = 0 ∧ Good (jW v p).2 n (upd C ((p.g : Int) % 2) (pgS p)) 0 := by
  obtain ⟨h1, h2⟩ := h.write ((p.g : Int) % 2) (pgS p) (by omega) (by omega) (pgS_size p) hm
  have e : Go.Proofs.Ytgmggmpkbfljfaa.jW v p = vBarrier (vWrite v ((p.g : Int) % 2) (pgS p)).2 := by unfold Go.Proofs.Ytgmggmpkbfljfaa.jW; rw [if_pos h1]
  rw [e]
  exact h2.barrier
/-- What is held when a string has been filled in. -/
def fillC (R base : Nat) (s : ByteArray) : Nat → Nat → Cont → Cont
  | 0, _, C => C
  | m + 1, i, C => fillC R base s m (i + 1) (upd C ((2 + (base + i) % R : Nat) : Int) (chunk s i))
theorem Good.fill {R : Nat} (base : Nat) (s : ByteArray) (n0 : Nat) (hs : s.size = n0 * 128) (hR : 0 < R) : ∀ (k i : Nat) {v : Vol} {C : Cont} {m : Nat}, Good v (R + 2) C m → m + k ≤ 4096 → i + k ≤ n0 →
    (vFill R base s k i v).1 = 0 ∧ Good (vFill R base s k i v).2 (R + 2) (fillC R base s k i C) 0
  | 0, i, v, C, m, h, _, _ => h.barrier
  | k + 1, i, v, C, m, h, hm, hi => by
    have hlt := Nat.mod_lt (base + i) hR
    obtain ⟨h1, h2⟩ := h.write ((2 + (base + i) % R : Nat) : Int) (chunk s i) (by omega) (by omega) (chunk_size s i n0 hs (by omega)) (by omega)
    rw [vFill, if_pos h1]
    exact Good.fill base s n0 hs hR k (i + 1) h2 (by omega) (by omega)
theorem fillC_out (R base : Nat) (s : ByteArray) (k : Int) : ∀ (m i : Nat) (C : Cont), (∀ j, i ≤ j → j < i + m → k ≠ ((2 + (base + j) % R : Nat) : Int)) → fillC R base s m i C k = C k
  | 0, i, C, _ => rfl
  | m + 1, i, C, h => by
    rw [fillC, fillC_out R base s k m (i + 1) _ (fun j h1 h2 => h j (by omega) (by omega))]
    unfold upd
    rw [if_neg (h i (by omega) (by omega))]
theorem mod_inj (R a b : Nat) (hR : 0 < R) (h : a % R = b % R) (hab : a ≤ b) (hlt : b < a + R) : a = b := by
  have h1 := Nat.div_add_mod a R
  have h2 := Nat.div_add_mod b R
  have h3 : a / R ≤ b / R := Nat.div_le_div_right hab
  have h4 : b / R ≤ a / R := by
    rcases Nat.lt_or_ge (a / R) (b / R) with h5 | h5
    · exfalso
      have : R * (a / R) + R ≤ R * (b / R) := by rw [← Nat.mul_succ]; exact Nat.mul_le_mul_left R h5
      omega
    · exact h5
  have h5 : a / R = b / R := Nat.le_antisymm h3 h4
  rw [h5, h] at h1
  omega
theorem fillC_in (R base : Nat) (s : ByteArray) (hR : 0 < R) : ∀ (m i : Nat) (C : Cont), m ≤ R → ∀ j, i ≤ j → j < i + m → fillC R base s m i C ((2 + (base + j) % R : Nat) : Int) = chunk s j
  | 0, i, C, _, j, h1, h2 => by omega
  | m + 1, i, C, hm, j, h1, h2 => by
    rw [fillC]
    by_cases hj : j = i
    · subst hj
      rw [fillC_out R base s _ m (j + 1) _ (fun t ht1 ht2 e => by
        have : (base + j) % R = (base + t) % R := by omega
        have := mod_inj R (base + j) (base + t) hR this (by omega) (by omega)
        omega)]
      unfold upd
      rw [if_pos rfl]
    · exact fillC_in R base s hR m (i + 1) _ (by omega) j (by omega) (by omega)
end Go.Proofs.Ytgmggmpkbfljfaa
