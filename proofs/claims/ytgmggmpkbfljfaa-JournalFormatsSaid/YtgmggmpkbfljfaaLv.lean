/- Device, journal and book together: the relation that all operations keep. -/
import Derived.Test.YtgmggmpkbfljfaaAg
set_option linter.unusedVariables false
set_option linter.unusedSimpArgs false
set_option maxRecDepth 100000
namespace Go.Proofs.Ytgmggmpkbfljfaa
open Go.RowKit
theorem usedN_split (L : List (List ByteArray)) (c : Nat) : usedN (L.take c) + usedN (L.drop c) = usedN L := by
  have := congrArg usedN (List.take_append_drop c L)
  unfold usedN at *
  rw [List.map_append, List.sum_append] at this
  omega
theorem jOf_drop (B : Bk) (c : Nat) : jOf (bDropN B c) = ⟨dropPg (jOf B) c, B.groups.drop c, B.pend, false⟩ := by
  have h := usedN_split B.groups c
  have e : usedN (B.groups.drop c) = usedN B.groups - usedN (B.groups.take c) := by omega
  unfold jOf pgOfB bDropN dropPg
  dsimp only
  rw [e]
theorem drop_rel {v : Vol} {C : Cont} {m : Nat} {B : Bk} (hg : Good v (B.ring + 2) C m) (hd : DJ C B) (hb : BRoom B) (hm : m ≤ 2000) (c : Nat) (hc1 : 1 ≤ c) (hc2 : c ≤ B.groups.length) :
    ∃ v' C', jDrop v (jOf B) ((B.first : Int) + c - 1) = ⟨0, v', jOf (bDropN B c)⟩ ∧ Good v' (B.ring + 2) C' 0 ∧ DJ C' (bDropN B c) := by
  have hcn : ((B.first : Int) + c - 1 - (B.first : Int) + 1).toNat = c := by omega
  obtain ⟨g1, g2⟩ := hg.jW (dropPg (jOf B) c) (by omega) (by omega)
  have e : jDrop v (jOf B) ((B.first : Int) + c - 1) = ⟨0, (jW v (dropPg (jOf B) c)).2, jOf (bDropN B c)⟩ := by
    unfold jDrop
    have h1 : ¬ ((jOf B).pg.f : Int) + (jOf B).groups.length - 1 < (B.first : Int) + c - 1 := by show ¬ (B.first : Int) + B.groups.length - 1 < _; omega
    have h2 : ¬ (B.first : Int) + c - 1 < ((jOf B).pg.f : Int) := by show ¬ _ < (B.first : Int); omega
    have h3 : ((B.first : Int) + c - 1 - ((jOf B).pg.f : Int) + 1).toNat = c := hcn
    rw [if_neg (by simp [jOf]), if_neg h1, if_neg h2, h3, if_neg (by rw [g1]; simp), jOf_drop]
    rfl
  refine ⟨_, _, e, g2, ?_⟩
  have hpg : pgS (dropPg (jOf B) c) = pageS (B.gen + 1) (B.first + c) (B.place + usedN (B.groups.take c)) (usedN (B.groups.drop c)) := by
    have h := usedN_split B.groups c
    have e : usedN (B.groups.drop c) = usedN B.groups - usedN (B.groups.take c) := by omega
    rw [e]; rfl
  have hnx : (((dropPg (jOf B) c).g : Nat) : Int) = (B.gen : Int) + 1 := by show ((B.gen + 1 : Nat) : Int) = _; omega
  have hgen : ((bDropN B c).gen : Int) = (B.gen : Int) + 1 := by show ((B.gen + 1 : Nat) : Int) = _; omega
  have hold : upd C (((dropPg (jOf B) c).g : Int) % 2) (pgS (dropPg (jOf B) c)) (((B.gen : Int) + 1 + 1) % 2) = pageS B.gen B.first B.place (usedN B.groups) := by
    unfold upd
    rw [if_neg (by rw [hnx]; omega), show ((B.gen : Int) + 1 + 1) % 2 = (B.gen : Int) % 2 by omega, hd.page]
  refine ⟨?_, ?_, fun _ => ?_, fun i hi k hk => ?_⟩
  · rw [hgen]
    unfold upd
    rw [if_pos (by rw [hnx]), hpg]
    rfl
  · rw [hgen, hold, pageS_size]; omega
  · rw [hgen, hold, pgAt_page hb]
    exact ⟨pgFit_page hb, by show B.gen < B.gen + 1; omega⟩
  · have hi' : i < (B.groups.drop c).length := hi
    have hi2 : c + i < B.groups.length := by rw [List.length_drop] at hi'; omega
    have hk2 : k < secsN ((B.groups.drop c)[i]'hi') := hk
    rw [List.getElem_drop] at hk2
    show _ = chunk (encS (B.first + c + i) ((B.groups.drop c)[i]'hi')) k
    rw [List.getElem_drop]
    have e2 : usedN (B.groups.take c) + usedN ((B.groups.drop c).take i) = usedN (B.groups.take (c + i)) := by
      have h1 := usedN_split (B.groups.take (c + i)) c
      rw [List.take_take, Nat.min_eq_left (by omega), List.drop_take, show c + i - c = i by omega] at h1
      exact h1
    have e3 : (bDropN B c).place + (usedN ((bDropN B c).groups.take i) + k) = B.place + (usedN (B.groups.take (c + i)) + k) := by
      show B.place + usedN (B.groups.take c) + (usedN ((B.groups.drop c).take i) + k) = _
      omega
    rw [e3]
    unfold upd
    rw [if_neg (by unfold plc; omega)]
    have := hd.data (c + i) hi2 k hk2
    rw [show (bDropN B c).ring = B.ring from rfl, this, show B.first + (c + i) = B.first + c + i by omega]
/-- A book behind at most t operations. -/
structure BOk (B : Bk) (t : Nat) : Prop where
  r0 : 0 < B.ring
  r9 : B.ring ≤ 900
  g : B.gen ≤ t + 1
  f : B.first + B.groups.length ≤ t + 1
  p : B.place + usedN B.groups ≤ t * 900
  l : B.pend.length ≤ 256
  s : ∀ s ∈ B.pend, s.size ≤ 16384
  gs : GSmall B.groups
  u : usedN B.groups ≤ B.ring
  t9 : t ≤ 900
theorem BOk.room {B : Bk} {t : Nat} (h : BOk B t) : BRoom B := ⟨h.r0, h.r9, by have := h.g; have := h.t9; omega, by have := h.f; have := h.t9; omega, by have := h.p; have := h.t9; omega, by have := h.f; have := h.t9; omega, h.l, h.s, h.gs, h.u⟩
theorem BOk.fit {B : Bk} {t : Nat} (h : BOk B t) : BFit B := h.room.fit
theorem BOk.up {B : Bk} {t t' : Nat} (h : BOk B t) (ht : t ≤ t') (h9 : t' ≤ 900) : BOk B t' := ⟨h.r0, h.r9, by have := h.g; omega, by have := h.f; omega, by have := h.p; omega, h.l, h.s, h.gs, h.u, h9⟩
theorem bEmpty_ok (R g t : Nat) (h0 : 0 < R) (h9 : R ≤ 900) (hg : g ≤ t + 1) (ht : t ≤ 900) : BOk (bEmpty R g) t := ⟨h0, h9, hg, by show 1 + 0 ≤ _; omega, by show 0 + 0 ≤ _; omega, by show 0 ≤ _; omega, by simp [bEmpty], by intro l hl; simp [bEmpty] at hl, by show 0 ≤ _; omega, ht⟩
theorem BOk.app {B : Bk} {t : Nat} (h : BOk B t) (s : ByteArray) : BOk (bApp B s).2 t := by
  unfold bApp
  split
  · exact h
  · split
    · exact h
    · rename_i h1 h2
      refine ⟨h.r0, h.r9, h.g, h.f, h.p, by show (B.pend ++ [s]).length ≤ _; simp; omega, fun x hx => ?_, h.gs, h.u, h.t9⟩
      rcases List.mem_append.1 hx with hx | hx
      · exact h.s x hx
      · simp at hx; subst hx; omega
theorem BOk.noPend {B : Bk} {t : Nat} (h : BOk B t) : BOk { B with pend := [] } t := ⟨h.r0, h.r9, h.g, h.f, h.p, by show 0 ≤ _; omega, by simp, h.gs, h.u, h.t9⟩
theorem BOk.commit {B : Bk} {t : Nat} (h : BOk B t) (ht : t + 1 ≤ 900) : BOk (bCommit B).2 (t + 1) := by
  by_cases hr : usedN B.groups + secsN B.pend ≤ B.ring
  · rw [bCommit_ok B hr]
    refine ⟨h.r0, h.r9, by show B.gen + 1 ≤ _; have := h.g; omega, by show B.first + (B.groups ++ [B.pend]).length ≤ _; have := h.f; simp; omega, ?_, by show 0 ≤ _; omega, by intro x hx; simp [bNext] at hx, ?_, ?_, ht⟩
    · show B.place + usedN (B.groups ++ [B.pend]) ≤ _
      rw [usedN_snoc]
      have := h.p; have := h.r9; omega
    · intro l hl
      rcases List.mem_append.1 hl with h' | h'
      · exact h.gs l h'
      · simp at h'; subst h'; exact ⟨h.l, h.s⟩
    · show usedN (B.groups ++ [B.pend]) ≤ _; rw [usedN_snoc]; exact hr
  · rw [bCommit_full B hr]; exact h.up (by omega) ht
theorem BOk.drop {B : Bk} {t : Nat} (h : BOk B t) (n : Int) (ht : t + 1 ≤ 900) : BOk (bDrop B n).2 (t + 1) := by
  unfold bDrop
  split
  · exact h.up (by omega) ht
  · split
    · exact h.up (by omega) ht
    · rename_i h1 h2
      generalize hc : (n - B.first + 1).toNat = c
      have hcl : c ≤ B.groups.length := by omega
      have hsp := usedN_split B.groups c
      refine ⟨h.r0, h.r9, by show B.gen + 1 ≤ _; have := h.g; omega, ?_, ?_, h.l, h.s, fun l hl => h.gs l (List.mem_of_mem_drop hl), ?_, ht⟩
      · show B.first + c + (B.groups.drop c).length ≤ _
        rw [List.length_drop]; have := h.f; omega
      · show B.place + usedN (B.groups.take c) + usedN (B.groups.drop c) ≤ _
        have := h.p; omega
      · show usedN (B.groups.drop c) ≤ _; have := h.u; show _ ≤ B.ring; omega
/-- The whole: device and journal say B, the book's object says B'. -/
def Live (t : Nat) (w wk : World) (vb mb jb bk : Nat) (B B' : Bk) : Prop :=
  ∃ v C, Good v (B.ring + 2) C 0 ∧ DJ C B ∧ BOk B t ∧ BOk B' t ∧ To (ST vb mb v jb (jOf B) bk B') [] w wk
section
variable {t : Nat} {w wk : World} {vb mb jb bk : Nat} {B B' : Bk}
theorem Live.keep {w' : World} (h : Live t w wk vb mb jb bk B B') (hk : Keep [] wk w') : Live t w w' vb mb jb bk B B' := by
  obtain ⟨v, C, h1, h2, h3, h4, h5⟩ := h
  exact ⟨v, C, h1, h2, h3, h4, h5.kept (st_stab _ _ _ _ _ _ _) hk⟩
theorem Live.of0 (h : Live t w wk vb mb jb bk B B') : Keep [] w wk := by obtain ⟨_, _, _, _, _, _, h⟩ := h; obtain ⟨_, _, hk, _⟩ := h; exact hk
theorem Live.ok (h : Live t w wk vb mb jb bk B B') : BOk B t := by obtain ⟨_, _, _, _, h, _⟩ := h; exact h
theorem Live.ok' (h : Live t w wk vb mb jb bk B B') : BOk B' t := by obtain ⟨_, _, _, _, _, h, _⟩ := h; exact h
theorem Live.up {t' : Nat} (h : Live t w wk vb mb jb bk B B') (ht : t ≤ t') (h9 : t' ≤ 900) : Live t' w wk vb mb jb bk B B' := by
  obtain ⟨v, C, h1, h2, h3, h4, h5⟩ := h
  exact ⟨v, C, h1, h2, h3.up ht h9, h4.up ht h9, h5⟩
theorem live_made {n : Nat} (h : Made n w wk vb mb jb bk) (h3 : 3 ≤ n) (h9 : n ≤ 902) : Live 0 w wk vb mb jb bk (bEmpty (n - 2) 1) (bEmpty (n - 2) 1) := by
  obtain ⟨v, C, h1, h2, h4⟩ := h
  refine ⟨v, C, ?_, h2, bEmpty_ok _ _ _ (by omega) (by omega) (by omega) (by omega), bEmpty_ok _ _ _ (by omega) (by omega) (by omega) (by omega), h4⟩
  show Good v (n - 2 + 2) C 0
  rw [show n - 2 + 2 = n by omega]; exact h1
theorem append_L (h : Live t w wk vb mb jb bk B B') (s : ByteArray) (hs : s.size ≤ 20000) :
    Calls Try.prog 13 #[.pointer (some ⟨jb, 0, none⟩), .string s] wk fun e w' => e = .returned (.int .i64 (bApp B s).1) ∧ Live t w w' vb mb jb bk (bApp B s).2 B' := by
  obtain ⟨v, C, h1, h2, h3, h4, h5⟩ := h
  have hm := append_m jb vb (jOf B) s (by omega) h3.l
  rw [app_rel] at hm
  have hp : (bApp B s).2.ring = B.ring ∧ DJ C (bApp B s).2 := by
    unfold bApp
    split
    · exact ⟨rfl, h2⟩
    · split
      · exact ⟨rfl, h2⟩
      · exact ⟨rfl, h2.pend _⟩
  refine (h5.call hm.onJ).mono fun e w' hk => ⟨hk.1, v, C, ?_, hp.2, h3.app s, h4, hk.2⟩
  rw [hp.1]; exact h1
theorem bappend_L (h : Live t w wk vb mb jb bk B B') (s : ByteArray) (hs : s.size ≤ 20000) :
    Calls Try.prog 18 #[.pointer (some ⟨bk, 0, none⟩), .string s] wk fun e w' => e = .returned (.int .i64 (bApp B' s).1) ∧ Live t w w' vb mb jb bk B (bApp B' s).2 := by
  obtain ⟨v, C, h1, h2, h3, h4, h5⟩ := h
  exact (h5.call (bappend_m bk B' s (by omega) h4.l).onB).mono fun e w' hk => ⟨hk.1, v, C, h1, h2, h3, h4.app s, hk.2⟩
theorem commit_L (h : Live t w wk vb mb jb bk B B') (ht : t + 1 ≤ 900) :
    Calls Try.prog 22 #[.pointer (some ⟨jb, 0, none⟩)] wk fun e w' => e = .returned (.tuple #[.int .i64 (bCommit B).1.1, .int .i64 (bCommit B).1.2]) ∧ Live (t + 1) w w' vb mb jb bk (bCommit B).2 B' := by
  obtain ⟨v, C, h1, h2, h3, h4, h5⟩ := h
  have hm := commit_m jb vb mb v (jOf B) B.ring h1.secs h3.r0 h3.r9 (by rw [h1.pend]; omega) h3.room.jfit
  by_cases hr : usedN B.groups + secsN B.pend ≤ B.ring
  · obtain ⟨v', C', e, g', d'⟩ := commit_rel h1 h2 h3.room (by omega) hr
    rw [e] at hm
    refine (h5.call hm.onVJ).mono fun e w' hk => ⟨?_, v', C', ?_, ?_, h3.commit ht, h4.up (by omega) ht, ?_⟩
    · rw [bCommit_ok B hr]; exact hk.1
    · rw [bCommit_ok B hr]; exact g'
    · rw [bCommit_ok B hr]; exact d'
    · rw [bCommit_ok B hr]; exact hk.2
  · rw [commit_full hr] at hm
    refine (h5.call hm.onVJ).mono fun e w' hk => ⟨?_, v, C, ?_, ?_, h3.commit ht, h4.up (by omega) ht, ?_⟩
    · rw [bCommit_full B hr]; exact hk.1
    · rw [bCommit_full B hr]; exact h1
    · rw [bCommit_full B hr]; exact h2
    · rw [bCommit_full B hr]; exact hk.2
theorem bcommit_L (h : Live t w wk vb mb jb bk B B') (ht : t + 1 ≤ 900) :
    Calls Try.prog 23 #[.pointer (some ⟨bk, 0, none⟩)] wk fun e w' => e = .returned (.tuple #[.int .i64 (bCommit B').1.1, .int .i64 (bCommit B').1.2]) ∧ Live (t + 1) w w' vb mb jb bk B (bCommit B').2 := by
  obtain ⟨v, C, h1, h2, h3, h4, h5⟩ := h
  exact (h5.call (bcommit_m bk B' h4.fit).onB).mono fun e w' hk => ⟨hk.1, v, C, h1, h2, h3.up (by omega) ht, h4.commit ht, hk.2⟩
theorem drop_L (h : Live t w wk vb mb jb bk B B') (n : Int) (ht : t + 1 ≤ 900) :
    Calls Try.prog 31 #[.pointer (some ⟨jb, 0, none⟩), .int .i64 n] wk fun e w' => e = .returned (.int .i64 (bDrop B n).1) ∧ Live (t + 1) w w' vb mb jb bk (bDrop B n).2 B' := by
  obtain ⟨v, C, h1, h2, h3, h4, h5⟩ := h
  have hm := drop_m jb vb mb v (jOf B) n h3.room.jfit h3.gs (Nat.le_refl _) (by rw [h1.pend]; omega)
  by_cases hno : (B.first : Int) + B.groups.length - 1 < n ∨ n < B.first
  · have e1 : bDrop B n = ((bDrop B n).1, B) ∧ jDrop v (jOf B) n = ⟨(bDrop B n).1, v, jOf B⟩ := by
      have ej : jDrop v (jOf B) n = if (B.first : Int) + B.groups.length - 1 < n then ⟨2, v, jOf B⟩ else if n < B.first then ⟨0, v, jOf B⟩ else jDrop v (jOf B) n := by
        by_cases hx : (B.first : Int) + B.groups.length - 1 < n
        · rw [if_pos hx]
          unfold jDrop
          rw [if_neg (by simp [jOf])]
          exact if_pos hx
        · have hy := hno.resolve_left hx
          rw [if_neg hx, if_pos hy]
          unfold jDrop
          rw [if_neg (by simp [jOf])]
          exact (if_neg hx).trans (if_pos hy)
      rw [ej]
      unfold bDrop
      by_cases hx : (B.first : Int) + B.groups.length - 1 < n
      · simp only [if_pos hx]; exact ⟨trivial, trivial⟩
      · have hy := hno.resolve_left hx
        simp only [if_neg hx, if_pos hy]; exact ⟨trivial, trivial⟩
    rw [e1.2] at hm
    have e2 : (bDrop B n).2 = B := by rw [e1.1]
    refine (h5.call hm.onVJ).mono fun e w' hk => ⟨hk.1, v, C, ?_, ?_, h3.drop n ht, h4.up (by omega) ht, ?_⟩
    · rw [e2]; exact h1
    · rw [e2]; exact h2
    · rw [e2]; exact hk.2
  · have hc : n = (B.first : Int) + (n - B.first + 1).toNat - 1 := by omega
    have e1 : bDrop B n = (0, bDropN B (n - B.first + 1).toNat) := by
      unfold bDrop
      rw [if_neg (fun h => hno (.inl h)), if_neg (fun h => hno (.inr h))]
    obtain ⟨v', C', e, g', d'⟩ := drop_rel h1 h2 h3.room (by omega) (n - B.first + 1).toNat (by omega) (by omega)
    rw [← hc] at e
    rw [e] at hm
    refine (h5.call hm.onVJ).mono fun e w' hk => ⟨?_, v', C', ?_, ?_, h3.drop n ht, h4.up (by omega) ht, ?_⟩
    · rw [e1]; exact hk.1
    · rw [e1]; exact g'
    · rw [e1]; exact d'
    · rw [e1]; exact hk.2
theorem bdrop_L (h : Live t w wk vb mb jb bk B B') (n : Int) (ht : t + 1 ≤ 900) :
    Calls Try.prog 59 #[.pointer (some ⟨bk, 0, none⟩), .int .i64 n] wk fun e w' => e = .returned (.int .i64 (bDrop B' n).1) ∧ Live (t + 1) w w' vb mb jb bk B (bDrop B' n).2 := by
  obtain ⟨v, C, h1, h2, h3, h4, h5⟩ := h
  exact (h5.call (bdrop_m bk B' n h4.fit).onB).mono fun e w' hk => ⟨hk.1, v, C, h1, h2, h3.up (by omega) ht, h4.drop n ht, hk.2⟩
theorem discard_L (h : Live t w wk vb mb jb bk B B') :
    Calls Try.prog 15 #[.pointer (some ⟨jb, 0, none⟩)] wk fun e w' => e = .returned (.int .i64 0) ∧ Live t w w' vb mb jb bk { B with pend := [] } B' := by
  obtain ⟨v, C, h1, h2, h3, h4, h5⟩ := h
  have hm := discard_m jb vb (jOf B)
  exact (h5.call hm.onJ).mono fun e w' hk => ⟨hk.1, v, C, h1, h2.pend [], h3.noPend, h4, hk.2⟩
theorem free_L (h : Live t w wk vb mb jb bk B B') :
    Calls Try.prog 21 #[.pointer (some ⟨jb, 0, none⟩)] wk fun e w' => e = .returned (.int .i64 ((B.ring : Int) - (usedN B.groups : Nat))) ∧ Live t w w' vb mb jb bk B B' := by
  obtain ⟨v, C, h1, h2, h3, h4, h5⟩ := h
  exact (free_s h5 (by rw [h1.secs]; rfl) h3.room).mono fun e w' hk => ⟨hk.1, v, C, h1, h2, h3, h4, hk.2⟩
theorem first_L (h : Live t w wk vb mb jb bk B B') :
    Calls Try.prog 32 #[.pointer (some ⟨jb, 0, none⟩)] wk fun e w' => e = .returned (.int .i64 B.first) ∧ w' = wk := by
  obtain ⟨v, C, h1, h2, h3, h4, h5⟩ := h
  obtain ⟨Fv, Fj, Fb, _, ⟨gv, pv, G, _, hj⟩, _⟩ := ST.parts h5
  exact first_c wk jb vb _ _ _ _ hj.box
theorem image_L (h : Live t w wk vb mb jb bk B B) :
    Calls Try.prog 28 #[.pointer (some ⟨bk, 0, none⟩), .pointer (some ⟨vb, 0, none⟩)] wk fun e w' => e = .returned (.bool true) ∧ Live t w w' vb mb jb bk B B := by
  obtain ⟨v, C, h1, h2, h3, h4, h5⟩ := h
  exact (image_s h5 h1 h2 h3.room (by omega)).mono fun e w' hk => ⟨hk.1, v, C, h1, h2, h3, h4, hk.2⟩
theorem agrees_L (h : Live t w wk vb mb jb bk B B') (hs : Same (jOf B) B') (hr : B'.ring = B.ring) :
    Calls Try.prog 24 #[.pointer (some ⟨bk, 0, none⟩), .pointer (some ⟨jb, 0, none⟩)] wk fun e w' => e = .returned (.bool true) ∧ Live t w w' vb mb jb bk B B' := by
  have hL := h
  obtain ⟨v, C, h1, h2, h3, h4, h5⟩ := h
  obtain ⟨Fv, Fj, Fb, hv, hj, hb⟩ := ST.parts h5
  exact (agrees_t wk vb mb jb bk v _ _ Fv Fj Fb hv hj hb hs h4.fit (by rw [h1.secs, hr]; rfl) h4.r9).mono fun e w' hk => ⟨hk.1, hL.keep hk.2⟩
theorem same_self (B : Bk) : Same (jOf B) B := ⟨rfl, rfl, rfl, rfl, rfl⟩
theorem pending_L (h : Live t w wk vb mb jb bk B B') :
    Calls Try.prog 14 #[.pointer (some ⟨jb, 0, none⟩)] wk fun e w' => ∃ vo vc, e = .returned (.slice vo B.pend.length vc) ∧ RowR w' (.slice vo B.pend.length vc) (scells B.pend) ∧ Live t w w' vb mb jb bk B B' := by
  have hL := h
  obtain ⟨v, C, h1, h2, h3, h4, h5⟩ := h
  obtain ⟨Fv, Fj, Fb, _, ⟨gv, pv, G, _, hj⟩, _⟩ := ST.parts h5
  refine (pending_c wk jb vb _ _ gv pv B.pend hj.box (RowR.of_own hj.pnd) (by have := h3.l; omega)).mono ?_
  rintro e w' ⟨v', rfl, ho, hk⟩
  obtain ⟨vo, vc, rfl⟩ := own_form (ownsRow_base0 ho)
  exact ⟨vo, vc, rfl, RowR.of_own (ownsRow_base0 ho), hL.keep hk⟩
theorem group_L (h : Live t w wk vb mb jb bk B B') (i : Nat) (hi : i < B.groups.length) :
    Calls Try.prog 30 #[.pointer (some ⟨jb, 0, none⟩), .int .i64 ((B.first : Int) + (i : Int))] wk fun e w' => ∃ vo vc, e = .returned (.tuple #[.slice vo (B.groups[i]).length vc, .int .i64 0]) ∧ RowR w' (.slice vo (B.groups[i]).length vc) (scells B.groups[i]) ∧ Live t w w' vb mb jb bk B B' := by
  have hL := h
  obtain ⟨v, C, h1, h2, h3, h4, h5⟩ := h
  obtain ⟨Fv, Fj, Fb, _, hj, _⟩ := ST.parts h5
  have hf := h3.f
  have ht := h3.t9
  refine (group_ok wk Fj jb vb (jOf B) hj rfl (by show B.first ≤ _; omega) (by show B.groups.length ≤ _; omega) i hi (h3.gs _ (List.getElem_mem hi)).1).mono ?_
  rintro e w' ⟨vo, vc, rfl, hrow, hk⟩
  exact ⟨vo, vc, rfl, hrow, hL.keep hk⟩
end
end Go.Proofs.Ytgmggmpkbfljfaa
