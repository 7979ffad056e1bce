import Derived.Test.YtgmggmpkbfljfaaIm
/- What a device holds, and what its operations make of it. -/
set_option linter.unusedVariables false
set_option linter.unusedSimpArgs false
set_option maxRecDepth 100000
namespace Go.Proofs.Ytgmggmpkbfljfaa
open Go.RowKit
def dC (p : IS) (s : Int) (x : ByteArray) : ByteArray := p.foldl (fun c q => if q.1 = s then q.2 else c) x
theorem lookI_setI (m : IS) (s k : Int) (x : ByteArray) : lookI (setI m s x) k = if k = s then some x else lookI m k := by
  induction m with
  | nil =>
    by_cases h : k = s
    · subst h; simp [setI, lookI]
    · rw [if_neg h]; unfold setI lookI; simp [List.find?_cons, show (s == k) = false from by simpa using fun e : s = k => h e.symm]
  | cons p m ih =>
    obtain ⟨a, y⟩ := p
    simp only [setI]
    by_cases ha : a = s
    · subst ha
      simp only [beq_self_eq_true, if_true]
      unfold lookI
      by_cases h : k = a
      · subst h; simp
      · simp [List.find?_cons, h, show ¬ a = k from fun e => h e.symm]
    · rw [if_neg (by simpa using ha)]
      unfold lookI at ih ⊢
      rw [List.find?_cons, List.find?_cons]
      by_cases h : a = k
      · subst h; simp [ha]
      · simp only [show (a == k) = false from by simpa using h]; exact ih
theorem setI_keys (m : IS) (s : Int) (x : ByteArray) : ∀ k, k ∈ (setI m s x).map (·.1) → k = s ∨ k ∈ m.map (·.1) := by
  induction m with
  | nil => intro k hk; simp [setI] at hk; exact .inl hk
  | cons p m ih =>
    intro k hk
    simp only [setI] at hk
    split at hk
    · rename_i h
      have h : p.1 = s := by simpa using h
      simp at hk
      rcases hk with rfl | hk
      · exact .inl rfl
      · right; simp; exact .inr hk
    · simp only [List.map_cons, List.mem_cons] at hk ⊢
      rcases hk with hk | hk
      · exact .inr (.inl hk)
      · rcases ih k hk with h | h
        · exact .inl h
        · exact .inr (.inr h)
theorem setI_nodup (m : IS) (s : Int) (x : ByteArray) (h : (m.map (·.1)).Nodup) : ((setI m s x).map (·.1)).Nodup := by
  induction m with
  | nil => simp [setI]
  | cons p m ih =>
    simp only [List.map_cons, List.nodup_cons] at h
    simp only [setI]
    split
    · rename_i hp
      have hp : p.1 = s := by simpa using hp
      simp only [List.map_cons, List.nodup_cons]
      exact ⟨by rw [← hp]; exact h.1, h.2⟩
    · rename_i hp
      have hp : ¬ p.1 = s := by simpa using hp
      simp only [List.map_cons, List.nodup_cons]
      exact ⟨fun hk => by rcases setI_keys m s x _ hk with h1 | h1; exact hp h1; exact h.1 h1, ih h.2⟩
theorem lookI_none (m : IS) (k : Int) (h : k ∉ m.map (·.1)) : lookI m k = none := by
  unfold lookI
  rw [Option.map_eq_none_iff, List.find?_eq_none]
  intro p hp he
  exact h (List.mem_map.2 ⟨p, hp, by simpa using he⟩)
theorem lookI_delI (m : IS) (s k : Int) (hn : (m.map (·.1)).Nodup) : lookI (delI m s) k = if k = s then none else lookI m k := by
  induction m with
  | nil => unfold lookI; simp [delI]
  | cons p m ih =>
    obtain ⟨a, y⟩ := p
    simp only [List.map_cons, List.nodup_cons] at hn
    simp only [delI]
    by_cases ha : a = s
    · subst ha
      simp only [beq_self_eq_true, if_true]
      by_cases h : k = a
      · subst h; rw [if_pos rfl]; exact lookI_none _ _ hn.1
      · rw [if_neg h]; unfold lookI; rw [List.find?_cons]; simp only [show (a == k) = false from by simpa using fun e : a = k => h e.symm]
    · rw [if_neg (by simpa using ha)]
      have ih := ih hn.2
      unfold lookI at ih ⊢
      rw [List.find?_cons, List.find?_cons]
      by_cases h : a = k
      · subst h; simp [ha]
      · simp only [show (a == k) = false from by simpa using h]; exact ih
theorem delI_sub (m : IS) (s : Int) : List.Sublist ((delI m s).map (·.1)) (m.map (·.1)) := by
  induction m with
  | nil => simp [delI]
  | cons p m ih =>
    simp only [delI]
    split
    · exact List.sublist_cons_self _ _
    · exact ih.cons_cons _
theorem vDur_keep (v : Vol) (s k : Int) (x : ByteArray) (hn : (v.dur.map (·.1)).Nodup) : vDur (vKeep v s x) k = if k = s then x else vDur v k := by
  unfold vKeep vDur
  by_cases hx : x = fillS 0
  · rw [if_pos hx]
    show (lookI (delI v.dur s) k).getD _ = _
    rw [lookI_delI _ _ _ hn]
    by_cases h : k = s
    · rw [if_pos h, if_pos h, hx]; rfl
    · rw [if_neg h, if_neg h]
  · rw [if_neg hx]
    show (lookI (setI v.dur s x) k).getD _ = _
    rw [lookI_setI]
    by_cases h : k = s
    · rw [if_pos h, if_pos h]; rfl
    · rw [if_neg h, if_neg h]
theorem keep_keys (v : Vol) (s : Int) (x : ByteArray) (hn : (v.dur.map (·.1)).Nodup) : ((vKeep v s x).dur.map (·.1)).Nodup := by
  unfold vKeep
  split
  · exact hn.sublist (delI_sub _ _)
  · exact setI_nodup _ _ _ hn
theorem vKeep_more (v : Vol) (s : Int) (d : ByteArray) : (vKeep v s d).limited = v.limited ∧ (vKeep v s d).down = v.down ∧ (vKeep v s d).left = v.left ∧ (vKeep v s d).writes = v.writes ∧ (vKeep v s d).barriers = v.barriers ∧ (vKeep v s d).sectors = v.sectors := by
  unfold vKeep; split <;> exact ⟨rfl, rfl, rfl, rfl, rfl, rfl⟩
theorem flush_law (l : IS) : ∀ v : Vol, (v.dur.map (·.1)).Nodup → ((vFlush v l).dur.map (·.1)).Nodup ∧ (∀ k, vDur (vFlush v l) k = dC l k (vDur v k)) ∧ (vFlush v l).limited = v.limited ∧ (vFlush v l).down = v.down ∧ (vFlush v l).left = v.left ∧ (vFlush v l).writes = v.writes ∧ (vFlush v l).barriers = v.barriers ∧ (vFlush v l).sectors = v.sectors := by
  induction l with
  | nil => intro v hn; exact ⟨hn, fun k => rfl, rfl, rfl, rfl, rfl, rfl, rfl⟩
  | cons p l ih =>
    intro v hn
    obtain ⟨h1, h2, h3, h4, h5, h6, h7, h8⟩ := ih (vKeep v p.1 p.2) (keep_keys _ _ _ hn)
    obtain ⟨k3, k4, k5, k6, k7, k8⟩ := vKeep_more v p.1 p.2
    refine ⟨h1, fun k => ?_, h3.trans k3, h4.trans k4, h5.trans k5, h6.trans k6, h7.trans k7, h8.trans k8⟩
    show vDur (vFlush (vKeep v p.1 p.2) l) k = _
    rw [h2, vDur_keep _ _ _ _ hn]
    show _ = dC l k (if p.1 = k then p.2 else vDur v k)
    by_cases h : k = p.1
    · rw [if_pos h, if_pos h.symm]
    · rw [if_neg h, if_neg (fun e => h e.symm)]
theorem dC_size (p : IS) (s : Int) : ∀ x : ByteArray, x.size = 128 → (∀ q ∈ p, q.2.size = 128) → (dC p s x).size = 128 := by
  induction p with
  | nil => intro x hx _; exact hx
  | cons q p ih =>
    intro x hx hp
    show (dC p s (if q.1 = s then q.2 else x)).size = 128
    refine ih _ ?_ (fun y hy => hp y (List.mem_cons_of_mem _ hy))
    split
    · exact hp q (by simp)
    · exact hx
theorem lastW_eq (p : IS) (s : Int) (x : ByteArray) : (lastW p s).getD x = dC p s x := by
  obtain ⟨r, rfl⟩ : ∃ r : IS, p = r.reverse := ⟨p.reverse, by simp⟩
  unfold lastW
  rw [List.reverse_reverse]
  induction r with
  | nil => rfl
  | cons q r ih =>
    have : dC (q :: r).reverse s x = if q.1 = s then q.2 else dC r.reverse s x := by
      unfold dC; rw [List.reverse_cons, List.foldl_append]; rfl
    rw [this, List.find?_cons]
    by_cases h : q.1 = s
    · simp [h]
    · rw [if_neg h]; simp only [show (q.1 == s) = false from by simpa using h]; exact ih
theorem dC_snoc (p : IS) (q : Int × ByteArray) (s : Int) (x : ByteArray) : dC (p ++ [q]) s x = if q.1 = s then q.2 else dC p s x := by
  unfold dC; rw [List.foldl_append]; rfl
abbrev Cont := Int → ByteArray
def upd (C : Cont) (s : Int) (d : ByteArray) : Cont := fun k => if k = s then d else C k
/-- A device that is up and has no limit: how many writes are pending, and what it holds. -/
structure Good (v : Vol) (n : Nat) (C : Cont) (m : Nat) : Prop where
  down : v.down = false
  lim : v.limited = false
  secs : v.sectors = n
  keys : (v.dur.map (·.1)).Nodup
  pend : v.pend.length = m
  cont : ∀ s, dC v.pend s (vDur v s) = C s
theorem good_new (n : Nat) : Good (vNew n) n (fun _ => fillS 0) 0 := ⟨rfl, rfl, rfl, by simp [vNew], rfl, fun s => rfl⟩
theorem Good.read {v : Vol} {n : Nat} {C : Cont} {m : Nat} (h : Good v n C m) (s : Int) (h0 : 0 ≤ s) (h1 : s < n) : vRead v s = (C s, 0) := by
  unfold vRead
  rw [h.down, if_neg (by decide), if_neg (by rw [h.secs]; omega), lastW_eq, h.cont]
theorem vOp_free (v : Vol) (h : v.limited = false) : vOp v = (false, v) := by unfold vOp; rw [h]; rfl
theorem Good.write {v : Vol} {n : Nat} {C : Cont} {m : Nat} (h : Good v n C m) (s : Int) (d : ByteArray) (h0 : 0 ≤ s) (h1 : s < n) (hd : d.size = 128) (hm : m < 4096) :
    (vWrite v s d).1 = 0 ∧ Good (vWrite v s d).2 n (upd C s d) (m + 1) := by
  have hp := h.pend
  have e : vWrite v s d = (0, { v with pend := v.pend ++ [(s, d)], writes := wrap64 (v.writes + 1) }) := by
    have hd0 := h.down
    have hl0 := h.lim
    have hs0 := h.secs
    obtain ⟨sectors, dur, pend, limited, down, left, writes, barriers⟩ := v
    dsimp only at hd0 hl0 hs0 hp
    subst hd0 hl0
    unfold vWrite
    dsimp only
    rw [if_neg (by decide), if_neg (by omega), if_neg (by omega), if_neg (by omega)]
    rfl
  rw [e]
  refine ⟨rfl, h.down, h.lim, h.secs, h.keys, by simp [hp], fun k => ?_⟩
  show dC (v.pend ++ [(s, d)]) k (vDur v k) = _
  rw [dC_snoc, h.cont]
  unfold upd
  by_cases hk : k = s
  · rw [if_pos hk, if_pos hk.symm]
  · rw [if_neg hk, if_neg (fun e => hk e.symm)]
theorem Good.barrier {v : Vol} {n : Nat} {C : Cont} {m : Nat} (h : Good v n C m) : (vBarrier v).1 = 0 ∧ Good (vBarrier v).2 n C 0 := by
  have e : vBarrier v = (0, { vFlush v v.pend with pend := [], barriers := wrap64 (v.barriers + 1) }) := by
    have hd0 := h.down
    have hl0 := h.lim
    obtain ⟨sectors, dur, pend, limited, down, left, writes, barriers⟩ := v
    dsimp only at hd0 hl0
    subst hd0 hl0
    rfl
  obtain ⟨f1, f2, f3, f4, f5, f6, f7, f8⟩ := flush_law v.pend v h.keys
  rw [e]
  exact ⟨rfl, f4.trans h.down, f3.trans h.lim, f8.trans h.secs, f1, rfl, fun s => (f2 s).trans (h.cont s)⟩
theorem pgS_size (p : Pg) : (pgS p).size = 128 := pageS_size _ _ _ _
theorem Good.jW {v : Vol} {n : Nat} {C : Cont} {m : Nat} (h : Good v n C m) (p : Pg) (hn : 2 ≤ n) (hm : m < 4096) : (jW v p).1 = 0 ∧ Good (jW v p).2 n (upd C ((p.g : Int) % 2) (pgS p)) 0 := by
  obtain ⟨h1, h2⟩ := h.write ((p.g : Int) % 2) (pgS p) (by omega) (by omega) (pgS_size p) hm
  have e : Go.Proofs.Ytgmggmpkbfljfaa.jW v p = vBarrier (vWrite v ((p.g : Int) % 2) (pgS p)).2 := by unfold Go.Proofs.Ytgmggmpkbfljfaa.jW; rw [if_pos h1]
  rw [e]
  exact h2.barrier
/-- What is held when a string has been filled in. -/
def fillC (R base : Nat) (s : ByteArray) : Nat → Nat → Cont → Cont
  | 0, _, C => C
  | m + 1, i, C => fillC R base s m (i + 1) (upd C ((2 + (base + i) % R : Nat) : Int) (chunk s i))
theorem Good.fill {R : Nat} (base : Nat) (s : ByteArray) (n0 : Nat) (hs : s.size = n0 * 128) (hR : 0 < R) : ∀ (k i : Nat) {v : Vol} {C : Cont} {m : Nat}, Good v (R + 2) C m → m + k ≤ 4096 → i + k ≤ n0 →
    (vFill R base s k i v).1 = 0 ∧ Good (vFill R base s k i v).2 (R + 2) (fillC R base s k i C) 0
  | 0, i, v, C, m, h, _, _ => h.barrier
  | k + 1, i, v, C, m, h, hm, hi => by
    have hlt := Nat.mod_lt (base + i) hR
    obtain ⟨h1, h2⟩ := h.write ((2 + (base + i) % R : Nat) : Int) (chunk s i) (by omega) (by omega) (chunk_size s i n0 hs (by omega)) (by omega)
    rw [vFill, if_pos h1]
    exact Good.fill base s n0 hs hR k (i + 1) h2 (by omega) (by omega)
theorem fillC_out (R base : Nat) (s : ByteArray) (k : Int) : ∀ (m i : Nat) (C : Cont), (∀ j, i ≤ j → j < i + m → k ≠ ((2 + (base + j) % R : Nat) : Int)) → fillC R base s m i C k = C k
  | 0, i, C, _ => rfl
  | m + 1, i, C, h => by
    rw [fillC, fillC_out R base s k m (i + 1) _ (fun j h1 h2 => h j (by omega) (by omega))]
    unfold upd
    rw [if_neg (h i (by omega) (by omega))]
theorem mod_inj (R a b : Nat) (hR : 0 < R) (h : a % R = b % R) (hab : a ≤ b) (hlt : b < a + R) : a = b := by
  have h1 := Nat.div_add_mod a R
  have h2 := Nat.div_add_mod b R
  have h3 : a / R ≤ b / R := Nat.div_le_div_right hab
  have h4 : b / R ≤ a / R := by
    rcases Nat.lt_or_ge (a / R) (b / R) with h5 | h5
    · exfalso
      have : R * (a / R) + R ≤ R * (b / R) := by rw [← Nat.mul_succ]; exact Nat.mul_le_mul_left R h5
      omega
    · exact h5
  have h5 : a / R = b / R := Nat.le_antisymm h3 h4
  rw [h5, h] at h1
  omega
theorem fillC_in (R base : Nat) (s : ByteArray) (hR : 0 < R) : ∀ (m i : Nat) (C : Cont), m ≤ R → ∀ j, i ≤ j → j < i + m → fillC R base s m i C ((2 + (base + j) % R : Nat) : Int) = chunk s j
  | 0, i, C, _, j, h1, h2 => by omega
  | m + 1, i, C, hm, j, h1, h2 => by
    rw [fillC]
    by_cases hj : j = i
    · subst hj
      rw [fillC_out R base s _ m (j + 1) _ (fun t ht1 ht2 e => by
        have : (base + j) % R = (base + t) % R := by omega
        have := mod_inj R (base + j) (base + t) hR this (by omega) (by omega)
        omega)]
      unfold upd
      rw [if_pos rfl]
    · exact fillC_in R base s hR m (i + 1) _ (by omega) j (by omega) (by omega)
end Go.Proofs.Ytgmggmpkbfljfaa

/- A device and a book that say the same. -/
set_option linter.unusedVariables false
set_option linter.unusedSimpArgs false
set_option maxRecDepth 100000
namespace Go.Proofs.Ytgmggmpkbfljfaa
open Go.RowKit
def plc (R x : Nat) : Int := ((2 + x % R : Nat) : Int)
/-- The device's content is that of the book. -/
structure DJ (C : Cont) (B : Bk) : Prop where
  page : C ((B.gen : Int) % 2) = pageS B.gen B.first B.place (usedN B.groups)
  osz : (C (((B.gen : Int) + 1) % 2)).size ≤ 1000
  other : isPg (C (((B.gen : Int) + 1) % 2)) = true → pgFit (pgAt (C (((B.gen : Int) + 1) % 2))) ∧ (pgAt (C (((B.gen : Int) + 1) % 2))).g < B.gen
  data : ∀ i (h : i < B.groups.length), ∀ k, k < secsN B.groups[i] → C (plc B.ring (B.place + (usedN (B.groups.take i) + k))) = chunk (encS (B.first + i) B.groups[i]) k
/-- The book is within its bounds, and its groups have room. -/
structure BRoom (B : Bk) : Prop where
  r0 : 0 < B.ring
  r9 : B.ring ≤ 900
  g : B.gen ≤ 900000
  f : B.first ≤ 900000
  p : B.place ≤ 900000
  n : B.groups.length ≤ 900000
  l : B.pend.length ≤ 256
  s : ∀ s ∈ B.pend, s.size ≤ 16384
  gs : GSmall B.groups
  u : usedN B.groups ≤ B.ring
theorem BRoom.fit {B : Bk} (h : BRoom B) : BFit B := ⟨by have := h.r9; omega, by have := h.g; omega, by have := h.f; omega, by have := h.p; omega, by have := h.n; omega, h.l, h.s, h.gs, by have := h.u; have := h.r9; omega⟩
def pgOfB (B : Bk) : Pg := ⟨B.gen, B.first, B.place, usedN B.groups⟩
def jOf (B : Bk) : Jn := ⟨pgOfB B, B.groups, B.pend, false⟩
theorem BRoom.jfit {B : Bk} (h : BRoom B) : JFit (jOf B) := ⟨by have := h.g; show B.gen ≤ _; omega, by have := h.f; show B.first ≤ _; omega, by have := h.p; show B.place ≤ _; omega, by have := h.u; have := h.r9; show usedN B.groups ≤ _; omega, by have := h.n; show B.groups.length ≤ _; omega, h.l, h.s⟩
theorem pgAt_page {B : Bk} (h : BRoom B) : pgAt (pageS B.gen B.first B.place (usedN B.groups)) = pgOfB B :=
  pgAt_pageS _ _ _ _ (by have := h.g; have : (256 : Nat) ^ 8 = 18446744073709551616 := rfl; omega) (by have := h.f; have : (256 : Nat) ^ 8 = 18446744073709551616 := rfl; omega) (by have := h.p; have : (256 : Nat) ^ 8 = 18446744073709551616 := rfl; omega)
    (by have := h.u; have := h.r9; have : (256 : Nat) ^ 4 = 4294967296 := rfl; omega)
theorem pgFit_page {B : Bk} (h : BRoom B) : pgFit (pgOfB B) := ⟨by have := h.g; show B.gen ≤ _; omega, by have := h.f; show B.first ≤ _; omega, by have := h.p; show B.place ≤ _; omega, by have := h.u; have := h.r9; show usedN B.groups ≤ _; omega⟩
section
variable {v : Vol} {C : Cont} {m : Nat} {B : Bk}
theorem rel_read (hg : Good v (B.ring + 2) C m) (s : Int) (h0 : 0 ≤ s) (h1 : s < 2) : (vRead v s).1 = C s := by rw [hg.read s h0 (by omega)]
theorem par (g : Nat) : ((g : Int) % 2 = 0 ∧ ((g : Int) + 1) % 2 = 1) ∨ ((g : Int) % 2 = 1 ∧ ((g : Int) + 1) % 2 = 0) := by omega
theorem rel_fit (hg : Good v (B.ring + 2) C m) (hd : DJ C B) (hb : BRoom B) : ReadFit v := by
  have hpage : ∀ s : Int, s = (B.gen : Int) % 2 ∨ s = ((B.gen : Int) + 1) % 2 → (C s).size ≤ 1000 ∧ (isPg (C s) = true → pgFit (pgAt (C s))) := by
    rintro s (rfl | rfl)
    · rw [hd.page]; exact ⟨by rw [pageS_size]; omega, fun _ => by rw [pgAt_page hb]; exact pgFit_page hb⟩
    · exact ⟨hd.osz, fun h => (hd.other h).1⟩
  intro k hk
  rw [rel_read hg k (by omega) (by omega)]
  exact hpage k (by omega)
theorem pgStep_old (q : Pg) (d : ByteArray) (h : isPg d = true → (pgAt d).g < q.g) : pgStep (some q) d = some q := by
  cases hi : isPg d
  · exact pgStep_no _ _ hi
  · rw [pgStep_yes _ _ hi]
    have := h hi
    exact if_neg (by omega)
theorem pgStep_new (o : Option Pg) (d : ByteArray) (p : Pg) (hi : isPg d = true) (hp : pgAt d = p) (h : ∀ q, o = some q → q.g < p.g) : pgStep o d = some p := by
  rw [pgStep_yes _ _ hi, hp]
  cases o with
  | none => rfl
  | some q => exact if_pos (h q rfl)
theorem rel_newest (hg : Good v (B.ring + 2) C m) (hd : DJ C B) (hb : BRoom B) : pgTo v 2 = some (pgOfB B) := by
  have h0 : pgTo v 2 = pgStep (pgStep none (C 0)) (C 1) := by
    show pgStep (pgStep none (vRead v ((0 : Nat) : Int)).1) (vRead v ((1 : Nat) : Int)).1 = _
    rw [rel_read hg _ (by omega) (by omega), rel_read hg _ (by omega) (by omega)]
    rfl
  have hpg : isPg (C ((B.gen : Int) % 2)) = true := by rw [hd.page]; exact isPg_pageS _ _ _ _
  have hat : pgAt (C ((B.gen : Int) % 2)) = pgOfB B := by rw [hd.page]; exact pgAt_page hb
  have hot : isPg (C (((B.gen : Int) + 1) % 2)) = true → (pgAt (C (((B.gen : Int) + 1) % 2))).g < (pgOfB B).g := fun h => (hd.other h).2
  rw [h0]
  rcases par B.gen with ⟨e1, e2⟩ | ⟨e1, e2⟩
  · rw [e1] at hpg hat
    rw [e2] at hot
    rw [pgStep_new none (C 0) _ hpg hat (by simp)]
    exact pgStep_old _ _ hot
  · rw [e1] at hpg hat
    rw [e2] at hot
    refine pgStep_new _ (C 1) _ hpg hat (fun q hq => ?_)
    cases hi : isPg (C 0)
    · rw [pgStep_no _ _ hi] at hq; cases hq
    · rw [pgStep_yes _ _ hi] at hq
      have : pgAt (C 0) = q := by simpa [pgIn] using hq
      rw [← this]; exact hot hi
theorem rel_image (hg : Good v (B.ring + 2) C m) (hd : DJ C B) (hb : BRoom B) (hm : m ≤ 4096) : Image v B := by
  refine ⟨hg.down, hg.secs, hb.r0, hb.r9, by rw [hg.pend]; exact hm, ?_, fun i h k hk => ?_⟩
  · rw [rel_read hg _ (by omega) (by omega), hd.page]
  · have := hd.data i h k hk
    unfold rdAt
    have hlt := Nat.mod_lt (B.place + (usedN (B.groups.take i) + k)) hb.r0
    rw [hg.read _ (by omega) (by omega)]
    exact this
end
/-! ### what is read in order -/
theorem cat_chunks (s : ByteArray) : ∀ q, q * 128 ≤ s.size → catS ((List.range q).map (chunk s)) = s.extract 0 (q * 128)
  | 0, _ => by
    rw [Nat.zero_mul]
    show (⟨#[]⟩ : ByteArray) = _
    apply ByteArray.ext; simp
  | q + 1, h => by
    rw [cat_range, cat_chunks s q (by omega)]
    apply ByteArray.ext
    apply Array.toList_inj.1
    have e : (s.extract 0 ((q + 1) * 128)).data.toList = s.data.toList.take ((q + 1) * 128) := by
      rw [ByteArray.data_extract, Array.toList_extract, List.extract_eq_take_drop]; simp
    have e1 : (s.extract 0 (q * 128)).data.toList = s.data.toList.take (q * 128) := by
      rw [ByteArray.data_extract, Array.toList_extract, List.extract_eq_take_drop]; simp
    have e2 : (chunk s q).data.toList = (s.data.toList.drop (q * 128)).take 128 := by
      unfold chunk
      rw [ByteArray.data_extract, Array.toList_extract, List.extract_eq_take_drop, show q * 128 + 128 - q * 128 = 128 by omega]
    rw [ByteArray.data_append, Array.toList_append, e, e1, e2, show (q + 1) * 128 = q * 128 + 128 by omega, List.take_add]
theorem extract_all (s : ByteArray) : s.extract 0 s.size = s := by
  apply ByteArray.ext; rw [ByteArray.data_extract]; exact Array.extract_size
def gsOf (B : Bk) (n : Nat) : List (Nat × List ByteArray) := (List.range n).map fun i => (B.first + i, B.groups.getD i [])
theorem gsOf_two (B : Bk) : (gsOf B B.groups.length).map (·.2) = B.groups := by
  unfold gsOf
  rw [List.map_map]
  apply List.ext_getElem
  · simp
  · intro i h1 h2
    simp [List.getD_eq_getElem?_getD, h2]
theorem range_add_map {α : Type} (f : Nat → α) (u q : Nat) : (List.range (u + q)).map f = (List.range u).map f ++ (List.range q).map (fun j => f (u + j)) := by
  rw [List.range_add, List.map_append, List.map_map]; rfl
theorem rel_data {v : Vol} {C : Cont} {m : Nat} {B : Bk} (hg : Good v (B.ring + 2) C m) (hd : DJ C B) (hb : BRoom B) : ∀ n, n ≤ B.groups.length → catS ((List.range (usedN (B.groups.take n))).map (rdAt v B.ring B.place)) = catS ((gsOf B n).map encG)
  | 0, _ => rfl
  | n + 1, h => by
    have hn : n < B.groups.length := by omega
    rw [usedN_take _ _ hn, range_add_map, catS_app, rel_data hg hd hb n (by omega)]
    have e : gsOf B (n + 1) = gsOf B n ++ [(B.first + n, B.groups[n])] := by
      unfold gsOf
      rw [List.range_succ, List.map_append]
      simp [List.getD_eq_getElem?_getD, hn]
    rw [e, List.map_append, catS_app]
    congr 1
    have e2 : (List.range (secsN B.groups[n])).map (fun j => rdAt v B.ring B.place (usedN (B.groups.take n) + j)) = (List.range (secsN B.groups[n])).map (chunk (encS (B.first + n) B.groups[n])) := by
      apply List.map_congr_left
      intro k hk
      have hk := List.mem_range.1 hk
      unfold rdAt
      have hlt := Nat.mod_lt (B.place + (usedN (B.groups.take n) + k)) hb.r0
      rw [hg.read _ (by omega) (by omega)]
      exact hd.data n hn k hk
    have hez := encS_size (B.first + n) B.groups[n]
    rw [e2, cat_chunks _ _ (by rw [hez]; exact Nat.le_refl _), ← hez, extract_all]
    show encS (B.first + n) B.groups[n] = catS [encG (B.first + n, B.groups[n])]
    show _ = encS _ _ ++ (⟨#[]⟩ : ByteArray)
    rw [app_empty]
theorem chunk_size' (s : ByteArray) (k q : Nat) (hs : s.size = q * 128) (hk : k < q) : (chunk s k).size = 128 := chunk_size s k q hs hk
theorem find_group (L : List (List ByteArray)) : ∀ x, x < usedN L → ∃ i, ∃ h : i < L.length, ∃ k, k < secsN L[i] ∧ x = usedN (L.take i) + k := by
  induction L with
  | nil => intro x hx; simp [usedN] at hx
  | cons l L ih =>
    intro x hx
    by_cases h : x < secsN l
    · exact ⟨0, by simp, x, h, by simp [usedN]⟩
    · have hx' : x - secsN l < usedN L := by
        have : usedN (l :: L) = secsN l + usedN L := by simp [usedN]
        omega
      obtain ⟨i, hi, k, hk, e⟩ := ih _ hx'
      refine ⟨i + 1, by simpa using hi, k, by simpa using hk, ?_⟩
      have : usedN ((l :: L).take (i + 1)) = secsN l + usedN (L.take i) := by simp [usedN]
      rw [this]; omega
theorem rel_open {v : Vol} {C : Cont} {m : Nat} {B : Bk} (hg : Good v (B.ring + 2) C m) (hd : DJ C B) (hb : BRoom B) (hm : m ≤ 4096) : OpenFit v B.ring (pgOfB B) (gsOf B B.groups.length) := by
  refine ⟨hg.down, hg.secs, hb.r0, hb.r9, by rw [hg.pend]; exact hm, rel_fit hg hd hb, rel_newest hg hd hb, hb.u, by have := hb.g; show B.gen ≤ _; omega, by have := hb.f; show B.first ≤ _; omega, by have := hb.p; show B.place ≤ _; omega, ?_, fun i hi => ?_, fun x hx => ?_⟩
  · have := rel_data hg hd hb B.groups.length (Nat.le_refl _)
    rw [List.take_length] at this
    exact this
  · obtain ⟨j, hj, k, hk, e⟩ := find_group B.groups i hi
    subst e
    unfold rdAt
    have hlt := Nat.mod_lt (B.place + (usedN (B.groups.take j) + k)) hb.r0
    show ((vRead v ((2 + (B.place + (usedN (B.groups.take j) + k)) % B.ring : Nat) : Int)).1).size = 128
    rw [hg.read _ (by omega) (by omega)]
    rw [show C ((2 + (B.place + (usedN (B.groups.take j) + k)) % B.ring : Nat) : Int) = _ from hd.data j hj k hk]
    exact chunk_size _ k _ (encS_size _ _) hk
  · unfold gsOf at hx
    obtain ⟨i, hi, rfl⟩ := List.mem_map.1 hx
    have hi := List.mem_range.1 hi
    refine hb.gs _ ?_
    simp [List.getD_eq_getElem?_getD, hi]
end Go.Proofs.Ytgmggmpkbfljfaa

/- Formatting and committing keep device and book together. -/
set_option linter.unusedVariables false
set_option linter.unusedSimpArgs false
set_option maxRecDepth 100000
namespace Go.Proofs.Ytgmggmpkbfljfaa
open Go.RowKit
def bEmpty (R g : Nat) : Bk := ⟨R, g, 1, 0, [], []⟩
theorem dj_first (R : Nat) : DJ (upd (fun _ => fillS 0) 1 (pageS 1 1 0 0)) (bEmpty R 1) := by
  have e : upd (fun _ => fillS 0) 1 (pageS 1 1 0 0) ((((bEmpty R 1).gen : Int) + 1) % 2) = fillS 0 := by
    unfold upd; rw [if_neg (by show ¬ ((((1 : Nat) : Int) + 1) % 2 = 1); decide)]
  refine ⟨rfl, by rw [e, fillS_size]; omega, fun h => ?_, fun i h => by simp [bEmpty] at h⟩
  rw [e, isPg_zeros] at h; cases h
theorem bEmpty_room (R g : Nat) (h0 : 0 < R) (h9 : R ≤ 900) (hg : g ≤ 900000) : BRoom (bEmpty R g) :=
  ⟨h0, h9, hg, by show 1 ≤ _; omega, by show 0 ≤ _; omega, by show 0 ≤ _; omega, by show 0 ≤ _; omega, by simp [bEmpty], by intro l hl; simp [bEmpty] at hl, by show 0 ≤ _; omega⟩
theorem newest_zero (n : Nat) (hn : 2 < n) : pgTo (vNew n) 2 = none ∧ ReadFit (vNew n) := by
  have hr : ∀ s : Int, 0 ≤ s → s < 2 → (vRead (vNew n) s).1 = fillS 0 := fun s h0 h1 => by rw [(good_new n).read s h0 (by omega)]
  constructor
  · show pgStep (pgStep none (vRead (vNew n) ((0 : Nat) : Int)).1) (vRead (vNew n) ((1 : Nat) : Int)).1 = _
    rw [hr _ (by omega) (by omega), hr _ (by omega) (by omega)]
    rw [pgStep_no _ _ isPg_zeros, pgStep_no _ _ isPg_zeros]
  · intro k hk
    rw [hr _ (by omega) (by omega)]
    exact ⟨by rw [fillS_size]; omega, fun h => by rw [isPg_zeros] at h; cases h⟩
/-- Formatting a new device. -/
theorem format_new (R : Nat) (h0 : 0 < R) : (jFormat (vNew ((R + 2 : Nat) : Int))).1 = 0 ∧ Good (jFormat (vNew ((R + 2 : Nat) : Int))).2 (R + 2) (upd (fun _ => fillS 0) 1 (pageS 1 1 0 0)) 0 := by
  have hck : jCheck (vNew ((R + 2 : Nat) : Int)) = 0 := jcheck_ok _ rfl (by show (2 : Int) < ((R + 2 : Nat) : Int); omega)
  have e : jFormat (vNew ((R + 2 : Nat) : Int)) = jW (vNew ((R + 2 : Nat) : Int)) ⟨1, 1, 0, 0⟩ := by
    unfold jFormat
    rw [if_neg (fun h => h hck), (newest_zero (R + 2) (by omega)).1]
    rfl
  rw [e]
  exact (good_new (R + 2)).jW ⟨1, 1, 0, 0⟩ (by omega) (by omega)
/-- Formatting a device with a book on it. -/
theorem format_again {v : Vol} {C : Cont} {m : Nat} {B : Bk} (hg : Good v (B.ring + 2) C m) (hd : DJ C B) (hb : BRoom B) (hm : m ≤ 2000) :
    (jFormat v).1 = 0 ∧ ∃ C', Good (jFormat v).2 (B.ring + 2) C' 0 ∧ DJ C' (bEmpty B.ring (B.gen + 1)) := by
  have h0 := hb.r0
  have hck : jCheck v = 0 := jcheck_ok _ hg.down (by rw [hg.secs]; omega)
  have e : jFormat v = jW v ⟨B.gen + 1, 1, 0, 0⟩ := by
    unfold jFormat
    rw [if_neg (fun h => h hck), rel_newest hg hd hb]
    rfl
  rw [e]
  obtain ⟨h1, h2⟩ := hg.jW ⟨B.gen + 1, 1, 0, 0⟩ (by omega) (by omega)
  refine ⟨h1, _, h2, ?_⟩
  have hgen : (((bEmpty B.ring (B.gen + 1)).gen : Nat) : Int) = (B.gen : Int) + 1 := by show ((B.gen + 1 : Nat) : Int) = _; omega
  have hne : ((B.gen : Int) + 1 + 1) % 2 ≠ ((B.gen : Int) + 1) % 2 := by omega
  have heq : ((B.gen : Int) + 1 + 1) % 2 = (B.gen : Int) % 2 := by omega
  have hold : upd C (((((⟨B.gen + 1, 1, 0, 0⟩ : Pg).g : Nat) : Int)) % 2) (pgS ⟨B.gen + 1, 1, 0, 0⟩) (((B.gen : Int) + 1 + 1) % 2) = pageS B.gen B.first B.place (usedN B.groups) := by
    unfold upd
    rw [if_neg (by show ¬ _ = ((B.gen + 1 : Nat) : Int) % 2; omega), heq, hd.page]
  refine ⟨?_, ?_, fun _ => ?_, fun i h => by simp [bEmpty] at h⟩
  · rw [hgen]
    unfold upd
    rw [if_pos (by show ((B.gen : Int) + 1) % 2 = ((B.gen + 1 : Nat) : Int) % 2; omega)]
    rfl
  · rw [hgen, hold, pageS_size]; omega
  · rw [hgen, hold, pgAt_page hb]
    exact ⟨pgFit_page hb, by show B.gen < B.gen + 1; omega⟩
/-- What a book is after a commit that has room. -/
def bNext (B : Bk) : Bk := { B with groups := B.groups ++ [B.pend], pend := [], gen := B.gen + 1 }
theorem usedN_snoc (L : List (List ByteArray)) (l : List ByteArray) : usedN (L ++ [l]) = usedN L + secsN l := by simp [usedN]
theorem bCommit_ok (B : Bk) (h : usedN B.groups + secsN B.pend ≤ B.ring) : bCommit B = ((((B.first + B.groups.length : Nat) : Int), (0 : Int)), bNext B) := by
  unfold bCommit; rw [if_neg (by omega)]; rfl
theorem bCommit_full (B : Bk) (h : ¬ usedN B.groups + secsN B.pend ≤ B.ring) : bCommit B = ((0, 19), B) := by
  unfold bCommit; rw [if_pos (by omega)]
theorem commit_rel {v : Vol} {C : Cont} {m : Nat} {B : Bk} (hg : Good v (B.ring + 2) C m) (hd : DJ C B) (hb : BRoom B) (hm : m ≤ 2000) (hr : usedN B.groups + secsN B.pend ≤ B.ring) :
    ∃ v' C', jCommit B.ring v (jOf B) = ⟨(B.first + B.groups.length : Nat), 0, v', jOf (bNext B)⟩ ∧ Good v' (B.ring + 2) C' 0 ∧ DJ C' (bNext B) := by
  have h0 := hb.r0
  have h9 := hb.r9
  have hez := encS_size (jNum (jOf B)) B.pend
  obtain ⟨f1, f2⟩ := hg.fill (R := B.ring) (B.place + usedN B.groups) (encS (jNum (jOf B)) B.pend) (secsN B.pend) hez h0 (secsN B.pend) 0 (by omega) (by omega)
  obtain ⟨g1, g2⟩ := f2.jW (jNext (jOf B)) (by omega) (by omega)
  have e : jCommit B.ring v (jOf B) = ⟨(B.first + B.groups.length : Nat), 0, (jW (jFill B.ring v (jOf B)).2 (jNext (jOf B))).2, jOf (bNext B)⟩ := by
    unfold jCommit
    rw [if_neg (by simp [jOf]), if_neg (by show ¬ (B.ring : Int) - (usedN B.groups : Nat) < (secsN B.pend : Nat); omega), if_neg (by show ¬ (vFill _ _ _ _ _ _).1 ≠ 0; rw [show (vFill (B.ring) ((jOf B).pg.p + (jOf B).pg.k) (encS (jNum (jOf B)) (jOf B).pend) (secsN (jOf B).pend) 0 v).1 = 0 from f1]; simp),
      if_neg (by rw [show (jW (jFill B.ring v (jOf B)).2 (jNext (jOf B))).1 = 0 from g1]; simp)]
    have ej : jOf (bNext B) = ⟨jNext (jOf B), (jOf B).groups ++ [(jOf B).pend], [], false⟩ := by
      unfold jOf pgOfB bNext jNext
      dsimp only
      rw [usedN_snoc]
    rw [ej]
    rfl
  refine ⟨_, _, e, g2, ?_⟩
  -- the content
  have hgen : ((bNext B).gen : Int) = (B.gen : Int) + 1 := by show ((B.gen + 1 : Nat) : Int) = _; omega
  have hlow : ∀ s : Int, s < 2 → fillC B.ring (B.place + usedN B.groups) (encS (jNum (jOf B)) B.pend) (secsN B.pend) 0 C s = C s := fun s hs =>
    fillC_out _ _ _ _ _ _ _ (fun j _ _ e => by omega)
  have hnx : (((jNext (jOf B)).g : Nat) : Int) = (B.gen : Int) + 1 := by show ((B.gen + 1 : Nat) : Int) = _; omega
  have hold : upd (fillC B.ring (B.place + usedN B.groups) (encS (jNum (jOf B)) B.pend) (secsN B.pend) 0 C) (((jNext (jOf B)).g : Int) % 2) (pgS (jNext (jOf B))) (((B.gen : Int) + 1 + 1) % 2) = pageS B.gen B.first B.place (usedN B.groups) := by
    unfold upd
    rw [if_neg (by rw [hnx]; omega), hlow _ (by omega), show ((B.gen : Int) + 1 + 1) % 2 = (B.gen : Int) % 2 by omega, hd.page]
  have hhigh : ∀ x, upd (fillC B.ring (B.place + usedN B.groups) (encS (jNum (jOf B)) B.pend) (secsN B.pend) 0 C) (((jNext (jOf B)).g : Int) % 2) (pgS (jNext (jOf B))) (plc B.ring x) = fillC B.ring (B.place + usedN B.groups) (encS (jNum (jOf B)) B.pend) (secsN B.pend) 0 C (plc B.ring x) := fun x => by
    unfold upd
    rw [if_neg (by unfold plc; omega)]
  have key : ∀ i (hi : i < (B.groups ++ [B.pend]).length), ∀ k, k < secsN (B.groups ++ [B.pend])[i] →
      upd (fillC B.ring (B.place + usedN B.groups) (encS (jNum (jOf B)) B.pend) (secsN B.pend) 0 C) (((jNext (jOf B)).g : Int) % 2) (pgS (jNext (jOf B))) (plc B.ring (B.place + (usedN ((B.groups ++ [B.pend]).take i) + k))) = chunk (encS (B.first + i) (B.groups ++ [B.pend])[i]) k := by
    intro i hi k hk
    have hi' : i < B.groups.length + 1 := by simpa using hi
    rw [hhigh]
    by_cases hlt : i < B.groups.length
    · have e1 : (B.groups ++ [B.pend])[i] = B.groups[i] := List.getElem_append_left hlt
      have e2 : (B.groups ++ [B.pend]).take i = B.groups.take i := List.take_append_of_le_length (Nat.le_of_lt hlt)
      rw [e1] at hk ⊢
      rw [e2, fillC_out _ _ _ _ _ _ _ (fun j _ hj e => by
        have hu := usedN_take_le B.groups (i + 1)
        rw [usedN_take _ _ hlt] at hu
        have hmod : (B.place + (usedN (B.groups.take i) + k)) % B.ring = (B.place + usedN B.groups + j) % B.ring := by unfold plc at e; omega
        have := mod_inj B.ring _ _ h0 hmod (by omega) (by omega)
        omega)]
      exact hd.data i hlt k hk
    · obtain rfl : i = B.groups.length := by omega
      have e1 : (B.groups ++ [B.pend])[B.groups.length] = B.pend := List.getElem_concat_length rfl _
      have e2 : (B.groups ++ [B.pend]).take B.groups.length = B.groups := List.take_left' rfl
      rw [e1] at hk ⊢
      rw [e2, show B.place + (usedN B.groups + k) = B.place + usedN B.groups + k by omega]
      exact fillC_in B.ring (B.place + usedN B.groups) (encS (jNum (jOf B)) B.pend) h0 (secsN B.pend) 0 C (by omega) k (by omega) (by omega)
  refine ⟨?_, ?_, fun _ => ?_, fun i hi k hk => key i hi k hk⟩
  · rw [hgen]
    unfold upd
    rw [if_pos (by rw [hnx])]
    show pgS (jNext (jOf B)) = pageS (B.gen + 1) B.first B.place (usedN (B.groups ++ [B.pend]))
    rw [usedN_snoc]; rfl
  · rw [hgen, hold, pageS_size]; omega
  · rw [hgen, hold, pgAt_page hb]
    exact ⟨pgFit_page hb, by show B.gen < B.gen + 1; omega⟩
theorem bNext_room {B : Bk} (hb : BRoom B) (hr : usedN B.groups + secsN B.pend ≤ B.ring) (hg : B.gen + 1 ≤ 900000) (hn : B.groups.length + 1 ≤ 900000) : BRoom (bNext B) :=
  ⟨hb.r0, hb.r9, hg, hb.f, hb.p, by show (B.groups ++ [B.pend]).length ≤ _; simpa using hn, by show (0 : Nat) ≤ 256; omega, by simp [bNext], by
    intro l hl
    rcases List.mem_append.1 hl with h | h
    · exact hb.gs l h
    · simp at h; subst h; exact ⟨hb.l, hb.s⟩, by show usedN (B.groups ++ [B.pend]) ≤ _; rw [usedN_snoc]; exact hr⟩
theorem commit_full {v : Vol} {B : Bk} (hr : ¬ usedN B.groups + secsN B.pend ≤ B.ring) : jCommit B.ring v (jOf B) = ⟨0, 19, v, jOf B⟩ := by
  unfold jCommit
  rw [if_neg (by simp [jOf]), if_pos (by show (B.ring : Int) - (usedN B.groups : Nat) < (secsN B.pend : Nat); omega)]
end Go.Proofs.Ytgmggmpkbfljfaa
