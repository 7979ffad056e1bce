import Derived.Test.YtgmggmpkbfljfaaAg
import Derived.Deep.Slices
import Derived.Lib.SmallJoins
/- Device, journal and book together: the relation that all operations keep. -/
set_option linter.unusedVariables false
set_option linter.unusedSimpArgs false
set_option maxRecDepth 100000
namespace Go.Proofs.Ytgmggmpkbfljfaa
open Go.RowKit
theorem usedN_split (L : List (List ByteArray)) (c : Nat) : usedN (L.take c) + usedN (L.drop c) = usedN L := by
  have := congrArg usedN (List.take_append_drop c L)
  unfold usedN at *
  rw [List.map_append, List.sum_append] at this
  omega
theorem jOf_drop (B : Bk) (c : Nat) : jOf (bDropN B c) = ⟨dropPg (jOf B) c, B.groups.drop c, B.pend, false⟩ := by
  have h := usedN_split B.groups c
  have e : usedN (B.groups.drop c) = usedN B.groups - usedN (B.groups.take c) := by omega
  unfold jOf pgOfB bDropN dropPg
  dsimp only
  rw [e]
theorem drop_rel {v : Vol} {C : Cont} {m : Nat} {B : Bk} (hg : Good v (B.ring + 2) C m) (hd : DJ C B) (hb : BRoom B) (hm : m ≤ 2000) (c : Nat) (hc1 : 1 ≤ c) (hc2 : c ≤ B.groups.length) :
    ∃ v' C', jDrop v (jOf B) ((B.first : Int) + c - 1) = ⟨0, v', jOf (bDropN B c)⟩ ∧ Good v' (B.ring + 2) C' 0 ∧ DJ C' (bDropN B c) := by
  have hcn : ((B.first : Int) + c - 1 - (B.first : Int) + 1).toNat = c := by omega
  obtain ⟨g1, g2⟩ := hg.jW (dropPg (jOf B) c) (by omega) (by omega)
  have e : jDrop v (jOf B) ((B.first : Int) + c - 1) = ⟨0, (jW v (dropPg (jOf B) c)).2, jOf (bDropN B c)⟩ := by
    unfold jDrop
    have h1 : ¬ ((jOf B).pg.f : Int) + (jOf B).groups.length - 1 < (B.first : Int) + c - 1 := by show ¬ (B.first : Int) + B.groups.length - 1 < _; omega
    have h2 : ¬ (B.first : Int) + c - 1 < ((jOf B).pg.f : Int) := by show ¬ _ < (B.first : Int); omega
    have h3 : ((B.first : Int) + c - 1 - ((jOf B).pg.f : Int) + 1).toNat = c := hcn
    rw [if_neg (by simp [jOf]), if_neg h1, if_neg h2, h3, if_neg (by rw [g1]; simp), jOf_drop]
    rfl
  refine ⟨_, _, e, g2, ?_⟩
  have hpg : pgS (dropPg (jOf B) c) = pageS (B.gen + 1) (B.first + c) (B.place + usedN (B.groups.take c)) (usedN (B.groups.drop c)) := by
    have h := usedN_split B.groups c
    have e : usedN (B.groups.drop c) = usedN B.groups - usedN (B.groups.take c) := by omega
    rw [e]; rfl
  have hnx : (((dropPg (jOf B) c).g : Nat) : Int) = (B.gen : Int) + 1 := by show ((B.gen + 1 : Nat) : Int) = _; omega
  have hgen : ((bDropN B c).gen : Int) = (B.gen : Int) + 1 := by show ((B.gen + 1 : Nat) : Int) = _; omega
  have hold : upd C (((dropPg (jOf B) c).g : Int) % 2) (pgS (dropPg (jOf B) c)) (((B.gen : Int) + 1 + 1) % 2) = pageS B.gen B.first B.place (usedN B.groups) := by
    unfold upd
    rw [if_neg (by rw [hnx]; omega), show ((B.gen : Int) + 1 + 1) % 2 = (B.gen : Int) % 2 by omega, hd.page]
  refine ⟨?_, ?_, fun _ => ?_, fun i hi k hk => ?_⟩
  · rw [hgen]
    unfold upd
    rw [if_pos (by rw [hnx]), hpg]
    rfl
  · rw [hgen, hold, pageS_size]; omega
  · rw [hgen, hold, pgAt_page hb]
    exact ⟨pgFit_page hb, by show B.gen < B.gen + 1; omega⟩
  · have hi' : i < (B.groups.drop c).length := hi
    have hi2 : c + i < B.groups.length := by rw [List.length_drop] at hi'; omega
    have hk2 : k < secsN ((B.groups.drop c)[i]'hi') := hk
    rw [List.getElem_drop] at hk2
    show _ = chunk (encS (B.first + c + i) ((B.groups.drop c)[i]'hi')) k
    rw [List.getElem_drop]
    have e2 : usedN (B.groups.take c) + usedN ((B.groups.drop c).take i) = usedN (B.groups.take (c + i)) := by
      have h1 := usedN_split (B.groups.take (c + i)) c
      rw [List.take_take, Nat.min_eq_left (by omega), List.drop_take, show c + i - c = i by omega] at h1
      exact h1
    have e3 : (bDropN B c).place + (usedN ((bDropN B c).groups.take i) + k) = B.place + (usedN (B.groups.take (c + i)) + k) := by
      show B.place + usedN (B.groups.take c) + (usedN ((B.groups.drop c).take i) + k) = _
      omega
    rw [e3]
    unfold upd
    rw [if_neg (by unfold plc; omega)]
    have := hd.data (c + i) hi2 k hk2
    rw [show (bDropN B c).ring = B.ring from rfl, this, show B.first + (c + i) = B.first + c + i by omega]
/-- A book behind at most t operations. -/
structure BOk (B : Bk) (t : Nat) : Prop where
  r0 : 0 < B.ring
  r9 : B.ring ≤ 900
  g : B.gen ≤ t + 1
  f : B.first + B.groups.length ≤ t + 1
  p : B.place + usedN B.groups ≤ t * 900
  l : B.pend.length ≤ 256
  s : ∀ s ∈ B.pend, s.size ≤ 16384
  gs : GSmall B.groups
  u : usedN B.groups ≤ B.ring
  t9 : t ≤ 900
theorem BOk.room {B : Bk} {t : Nat} (h : BOk B t) : BRoom B := ⟨h.r0, h.r9, by have := h.g; have := h.t9; omega, by have := h.f; have := h.t9; omega, by have := h.p; have := h.t9; omega, by have := h.f; have := h.t9; omega, h.l, h.s, h.gs, h.u⟩
theorem BOk.fit {B : Bk} {t : Nat} (h : BOk B t) : BFit B := h.room.fit
theorem BOk.up {B : Bk} {t t' : Nat} (h : BOk B t) (ht : t ≤ t') (h9 : t' ≤ 900) : BOk B t' := ⟨h.r0, h.r9, by have := h.g; omega, by have := h.f; omega, by have := h.p; omega, h.l, h.s, h.gs, h.u, h9⟩
theorem bEmpty_ok (R g t : Nat) (h0 : 0 < R) (h9 : R ≤ 900) (hg : g ≤ t + 1) (ht : t ≤ 900) : BOk (bEmpty R g) t := ⟨h0, h9, hg, by show 1 + 0 ≤ _; omega, by show 0 + 0 ≤ _; omega, by show 0 ≤ _; omega, by simp [bEmpty], by intro l hl; simp [bEmpty] at hl, by show 0 ≤ _; omega, ht⟩
theorem BOk.app {B : Bk} {t : Nat} (h : BOk B t) (s : ByteArray) : BOk (bApp B s).2 t := by
  unfold bApp
  split
  · exact h
  · split
    · exact h
    · rename_i h1 h2
      refine ⟨h.r0, h.r9, h.g, h.f, h.p, by show (B.pend ++ [s]).length ≤ _; simp; omega, fun x hx => ?_, h.gs, h.u, h.t9⟩
      rcases List.mem_append.1 hx with hx | hx
      · exact h.s x hx
      · simp at hx; subst hx; omega
theorem BOk.noPend {B : Bk} {t : Nat} (h : BOk B t) : BOk { B with pend := [] } t := ⟨h.r0, h.r9, h.g, h.f, h.p, by show 0 ≤ _; omega, by simp, h.gs, h.u, h.t9⟩
theorem BOk.commit {B : Bk} {t : Nat} (h : BOk B t) (ht : t + 1 ≤ 900) : BOk (bCommit B).2 (t + 1) := by
  by_cases hr : usedN B.groups + secsN B.pend ≤ B.ring
  · rw [bCommit_ok B hr]
    refine ⟨h.r0, h.r9, by show B.gen + 1 ≤ _; have := h.g; omega, by show B.first + (B.groups ++ [B.pend]).length ≤ _; have := h.f; simp; omega, ?_, by show 0 ≤ _; omega, by intro x hx; simp [bNext] at hx, ?_, ?_, ht⟩
    · show B.place + usedN (B.groups ++ [B.pend]) ≤ _
      rw [usedN_snoc]
      have := h.p; have := h.r9; omega
    · intro l hl
      rcases List.mem_append.1 hl with h' | h'
      · exact h.gs l h'
      · simp at h'; subst h'; exact ⟨h.l, h.s⟩
    · show usedN (B.groups ++ [B.pend]) ≤ _; rw [usedN_snoc]; exact hr
  · rw [bCommit_full B hr]; exact h.up (by omega) ht
theorem BOk.drop {B : Bk} {t : Nat} (h : BOk B t) (n : Int) (ht : t + 1 ≤ 900) : BOk (bDrop B n).2 (t + 1) := by
  unfold bDrop
  split
  · exact h.up (by omega) ht
  · split
    · exact h.up (by omega) ht
    · rename_i h1 h2
      generalize hc : (n - B.first + 1).toNat = c
      have hcl : c ≤ B.groups.length := by omega
      have hsp := usedN_split B.groups c
      refine ⟨h.r0, h.r9, by show B.gen + 1 ≤ _; have := h.g; omega, ?_, ?_, h.l, h.s, fun l hl => h.gs l (List.mem_of_mem_drop hl), ?_, ht⟩
      · show B.first + c + (B.groups.drop c).length ≤ _
        rw [List.length_drop]; have := h.f; omega
      · show B.place + usedN (B.groups.take c) + usedN (B.groups.drop c) ≤ _
        have := h.p; omega
      · show usedN (B.groups.drop c) ≤ _; have := h.u; show _ ≤ B.ring; omega
/-- The whole: device and journal say B, the book's object says B'. -/
def Live (t : Nat) (w wk : World) (vb mb jb bk : Nat) (B B' : Bk) : Prop :=
  ∃ v C, Good v (B.ring + 2) C 0 ∧ DJ C B ∧ BOk B t ∧ BOk B' t ∧ To (ST vb mb v jb (jOf B) bk B') [] w wk
section
variable {t : Nat} {w wk : World} {vb mb jb bk : Nat} {B B' : Bk}
theorem Live.keep {w' : World} (h : Live t w wk vb mb jb bk B B') (hk : Keep [] wk w') : Live t w w' vb mb jb bk B B' := by
  obtain ⟨v, C, h1, h2, h3, h4, h5⟩ := h
  exact ⟨v, C, h1, h2, h3, h4, h5.kept (st_stab _ _ _ _ _ _ _) hk⟩
theorem Live.of0 (h : Live t w wk vb mb jb bk B B') : Keep [] w wk := by obtain ⟨_, _, _, _, _, _, h⟩ := h; obtain ⟨_, _, hk, _⟩ := h; exact hk
theorem Live.ok (h : Live t w wk vb mb jb bk B B') : BOk B t := by obtain ⟨_, _, _, _, h, _⟩ := h; exact h
theorem Live.ok' (h : Live t w wk vb mb jb bk B B') : BOk B' t := by obtain ⟨_, _, _, _, _, h, _⟩ := h; exact h
theorem Live.up {t' : Nat} (h : Live t w wk vb mb jb bk B B') (ht : t ≤ t') (h9 : t' ≤ 900) : Live t' w wk vb mb jb bk B B' := by
  obtain ⟨v, C, h1, h2, h3, h4, h5⟩ := h
  exact ⟨v, C, h1, h2, h3.up ht h9, h4.up ht h9, h5⟩
theorem live_made {n : Nat} (h : Made n w wk vb mb jb bk) (h3 : 3 ≤ n) (h9 : n ≤ 902) : Live 0 w wk vb mb jb bk (bEmpty (n - 2) 1) (bEmpty (n - 2) 1) := by
  obtain ⟨v, C, h1, h2, h4⟩ := h
  refine ⟨v, C, ?_, h2, bEmpty_ok _ _ _ (by omega) (by omega) (by omega) (by omega), bEmpty_ok _ _ _ (by omega) (by omega) (by omega) (by omega), h4⟩
  show Good v (n - 2 + 2) C 0
  rw [show n - 2 + 2 = n by omega]; exact h1
theorem append_L (h : Live t w wk vb mb jb bk B B') (s : ByteArray) (hs : s.size ≤ 20000) :
    Calls Try.prog 13 #[.pointer (some ⟨jb, 0, none⟩), .string s] wk fun e w' => e = .returned (.int .i64 (bApp B s).1) ∧ Live t w w' vb mb jb bk (bApp B s).2 B' := by
  obtain ⟨v, C, h1, h2, h3, h4, h5⟩ := h
  have hm := append_m jb vb (jOf B) s (by omega) h3.l
  rw [app_rel] at hm
  have hp : (bApp B s).2.ring = B.ring ∧ DJ C (bApp B s).2 := by
    unfold bApp
    split
    · exact ⟨rfl, h2⟩
    · split
      · exact ⟨rfl, h2⟩
      · exact ⟨rfl, h2.pend _⟩
  refine (h5.call hm.onJ).mono fun e w' hk => ⟨hk.1, v, C, ?_, hp.2, h3.app s, h4, hk.2⟩
  rw [hp.1]; exact h1
theorem bappend_L (h : Live t w wk vb mb jb bk B B') (s : ByteArray) (hs : s.size ≤ 20000) :
    Calls Try.prog 18 #[.pointer (some ⟨bk, 0, none⟩), .string s] wk fun e w' => e = .returned (.int .i64 (bApp B' s).1) ∧ Live t w w' vb mb jb bk B (bApp B' s).2 := by
  obtain ⟨v, C, h1, h2, h3, h4, h5⟩ := h
  exact (h5.call (bappend_m bk B' s (by omega) h4.l).onB).mono fun e w' hk => ⟨hk.1, v, C, h1, h2, h3, h4.app s, hk.2⟩
theorem commit_L (h : Live t w wk vb mb jb bk B B') (ht : t + 1 ≤ 900) :
    Calls Try.prog 22 #[.pointer (some ⟨jb, 0, none⟩)] wk fun e w' => e = .returned (.tuple #[.int .i64 (bCommit B).1.1, .int .i64 (bCommit B).1.2]) ∧ Live (t + 1) w w' vb mb jb bk (bCommit B).2 B' := by
  obtain ⟨v, C, h1, h2, h3, h4, h5⟩ := h
  have hm := commit_m jb vb mb v (jOf B) B.ring h1.secs h3.r0 h3.r9 (by rw [h1.pend]; omega) h3.room.jfit
  by_cases hr : usedN B.groups + secsN B.pend ≤ B.ring
  · obtain ⟨v', C', e, g', d'⟩ := commit_rel h1 h2 h3.room (by omega) hr
    rw [e] at hm
    refine (h5.call hm.onVJ).mono fun e w' hk => ⟨?_, v', C', ?_, ?_, h3.commit ht, h4.up (by omega) ht, ?_⟩
    · rw [bCommit_ok B hr]; exact hk.1
    · rw [bCommit_ok B hr]; exact g'
    · rw [bCommit_ok B hr]; exact d'
    · rw [bCommit_ok B hr]; exact hk.2
  · rw [commit_full hr] at hm
    refine (h5.call hm.onVJ).mono fun e w' hk => ⟨?_, v, C, ?_, ?_, h3.commit ht, h4.up (by omega) ht, ?_⟩
    · rw [bCommit_full B hr]; exact hk.1
    · rw [bCommit_full B hr]; exact h1
    · rw [bCommit_full B hr]; exact h2
    · rw [bCommit_full B hr]; exact hk.2
theorem bcommit_L (h : Live t w wk vb mb jb bk B B') (ht : t + 1 ≤ 900) :
    Calls Try.prog 23 #[.pointer (some ⟨bk, 0, none⟩)] wk fun e w' => e = .returned (.tuple #[.int .i64 (bCommit B').1.1, .int .i64 (bCommit B').1.2]) ∧ Live (t + 1) w w' vb mb jb bk B (bCommit B').2 := by
  obtain ⟨v, C, h1, h2, h3, h4, h5⟩ := h
  exact (h5.call (bcommit_m bk B' h4.fit).onB).mono fun e w' hk => ⟨hk.1, v, C, h1, h2, h3.up (by omega) ht, h4.commit ht, hk.2⟩
theorem drop_L (h : Live t w wk vb mb jb bk B B') (n : Int) (ht : t + 1 ≤ 900) :
    Calls Try.prog 31 #[.pointer (some ⟨jb, 0, none⟩), .int .i64 n] wk fun e w' => e = .returned (.int .i64 (bDrop B n).1) ∧ Live (t + 1) w w' vb mb jb bk (bDrop B n).2 B' := by
  obtain ⟨v, C, h1, h2, h3, h4, h5⟩ := h
  have hm := drop_m jb vb mb v (jOf B) n h3.room.jfit h3.gs (Nat.le_refl _) (by rw [h1.pend]; omega)
  by_cases hno : (B.first : Int) + B.groups.length - 1 < n ∨ n < B.first
  · have e1 : bDrop B n = ((bDrop B n).1, B) ∧ jDrop v (jOf B) n = ⟨(bDrop B n).1, v, jOf B⟩ := by
      have ej : jDrop v (jOf B) n = if (B.first : Int) + B.groups.length - 1 < n then ⟨2, v, jOf B⟩ else if n < B.first then ⟨0, v, jOf B⟩ else jDrop v (jOf B) n := by
        by_cases hx : (B.first : Int) + B.groups.length - 1 < n
        · rw [if_pos hx]
          unfold jDrop
          rw [if_neg (by simp [jOf])]
          exact if_pos hx
        · have hy := hno.resolve_left hx
          rw [if_neg hx, if_pos hy]
          unfold jDrop
          rw [if_neg (by simp [jOf])]
          exact (if_neg hx).trans (if_pos hy)
      rw [ej]
      unfold bDrop
      by_cases hx : (B.first : Int) + B.groups.length - 1 < n
      · simp only [if_pos hx]; exact ⟨trivial, trivial⟩
      · have hy := hno.resolve_left hx
        simp only [if_neg hx, if_pos hy]; exact ⟨trivial, trivial⟩
    rw [e1.2] at hm
    have e2 : (bDrop B n).2 = B := by rw [e1.1]
    refine (h5.call hm.onVJ).mono fun e w' hk => ⟨hk.1, v, C, ?_, ?_, h3.drop n ht, h4.up (by omega) ht, ?_⟩
    · rw [e2]; exact h1
    · rw [e2]; exact h2
    · rw [e2]; exact hk.2
  · have hc : n = (B.first : Int) + (n - B.first + 1).toNat - 1 := by omega
    have e1 : bDrop B n = (0, bDropN B (n - B.first + 1).toNat) := by
      unfold bDrop
      rw [if_neg (fun h => hno (.inl h)), if_neg (fun h => hno (.inr h))]
    obtain ⟨v', C', e, g', d'⟩ := drop_rel h1 h2 h3.room (by omega) (n - B.first + 1).toNat (by omega) (by omega)
    rw [← hc] at e
    rw [e] at hm
    refine (h5.call hm.onVJ).mono fun e w' hk => ⟨?_, v', C', ?_, ?_, h3.drop n ht, h4.up (by omega) ht, ?_⟩
    · rw [e1]; exact hk.1
    · rw [e1]; exact g'
    · rw [e1]; exact d'
    · rw [e1]; exact hk.2
theorem bdrop_L (h : Live t w wk vb mb jb bk B B') (n : Int) (ht : t + 1 ≤ 900) :
    Calls Try.prog 59 #[.pointer (some ⟨bk, 0, none⟩), .int .i64 n] wk fun e w' => e = .returned (.int .i64 (bDrop B' n).1) ∧ Live (t + 1) w w' vb mb jb bk B (bDrop B' n).2 := by
  obtain ⟨v, C, h1, h2, h3, h4, h5⟩ := h
  exact (h5.call (bdrop_m bk B' n h4.fit).onB).mono fun e w' hk => ⟨hk.1, v, C, h1, h2, h3.up (by omega) ht, h4.drop n ht, hk.2⟩
theorem discard_L (h : Live t w wk vb mb jb bk B B') :
    Calls Try.prog 15 #[.pointer (some ⟨jb, 0, none⟩)] wk fun e w' => e = .returned (.int .i64 0) ∧ Live t w w' vb mb jb bk { B with pend := [] } B' := by
  obtain ⟨v, C, h1, h2, h3, h4, h5⟩ := h
  have hm := discard_m jb vb (jOf B)
  exact (h5.call hm.onJ).mono fun e w' hk => ⟨hk.1, v, C, h1, h2.pend [], h3.noPend, h4, hk.2⟩
theorem free_L (h : Live t w wk vb mb jb bk B B') :
    Calls Try.prog 21 #[.pointer (some ⟨jb, 0, none⟩)] wk fun e w' => e = .returned (.int .i64 ((B.ring : Int) - (usedN B.groups : Nat))) ∧ Live t w w' vb mb jb bk B B' := by
  obtain ⟨v, C, h1, h2, h3, h4, h5⟩ := h
  exact (free_s h5 (by rw [h1.secs]; rfl) h3.room).mono fun e w' hk => ⟨hk.1, v, C, h1, h2, h3, h4, hk.2⟩
theorem first_L (h : Live t w wk vb mb jb bk B B') :
    Calls Try.prog 32 #[.pointer (some ⟨jb, 0, none⟩)] wk fun e w' => e = .returned (.int .i64 B.first) ∧ w' = wk := by
  obtain ⟨v, C, h1, h2, h3, h4, h5⟩ := h
  obtain ⟨Fv, Fj, Fb, _, ⟨gv, pv, G, _, hj⟩, _⟩ := ST.parts h5
  exact first_c wk jb vb _ _ _ _ hj.box
theorem image_L (h : Live t w wk vb mb jb bk B B) :
    Calls Try.prog 28 #[.pointer (some ⟨bk, 0, none⟩), .pointer (some ⟨vb, 0, none⟩)] wk fun e w' => e = .returned (.bool true) ∧ Live t w w' vb mb jb bk B B := by
  obtain ⟨v, C, h1, h2, h3, h4, h5⟩ := h
  exact (image_s h5 h1 h2 h3.room (by omega)).mono fun e w' hk => ⟨hk.1, v, C, h1, h2, h3, h4, hk.2⟩
theorem agrees_L (h : Live t w wk vb mb jb bk B B') (hs : Same (jOf B) B') (hr : B'.ring = B.ring) :
    Calls Try.prog 24 #[.pointer (some ⟨bk, 0, none⟩), .pointer (some ⟨jb, 0, none⟩)] wk fun e w' => e = .returned (.bool true) ∧ Live t w w' vb mb jb bk B B' := by
  have hL := h
  obtain ⟨v, C, h1, h2, h3, h4, h5⟩ := h
  obtain ⟨Fv, Fj, Fb, hv, hj, hb⟩ := ST.parts h5
  exact (agrees_t wk vb mb jb bk v _ _ Fv Fj Fb hv hj hb hs h4.fit (by rw [h1.secs, hr]; rfl) h4.r9).mono fun e w' hk => ⟨hk.1, hL.keep hk.2⟩
theorem same_self (B : Bk) : Same (jOf B) B := ⟨rfl, rfl, rfl, rfl, rfl⟩
theorem pending_L (h : Live t w wk vb mb jb bk B B') :
    Calls Try.prog 14 #[.pointer (some ⟨jb, 0, none⟩)] wk fun e w' => ∃ vo vc, e = .returned (.slice vo B.pend.length vc) ∧ RowR w' (.slice vo B.pend.length vc) (scells B.pend) ∧ Live t w w' vb mb jb bk B B' := by
  have hL := h
  obtain ⟨v, C, h1, h2, h3, h4, h5⟩ := h
  obtain ⟨Fv, Fj, Fb, _, ⟨gv, pv, G, _, hj⟩, _⟩ := ST.parts h5
  refine (pending_c wk jb vb _ _ gv pv B.pend hj.box (RowR.of_own hj.pnd) (by have := h3.l; omega)).mono ?_
  rintro e w' ⟨v', rfl, ho, hk⟩
  obtain ⟨vo, vc, rfl⟩ := own_form (ownsRow_base0 ho)
  exact ⟨vo, vc, rfl, RowR.of_own (ownsRow_base0 ho), hL.keep hk⟩
theorem group_L (h : Live t w wk vb mb jb bk B B') (i : Nat) (hi : i < B.groups.length) :
    Calls Try.prog 30 #[.pointer (some ⟨jb, 0, none⟩), .int .i64 ((B.first : Int) + (i : Int))] wk fun e w' => ∃ vo vc, e = .returned (.tuple #[.slice vo (B.groups[i]).length vc, .int .i64 0]) ∧ RowR w' (.slice vo (B.groups[i]).length vc) (scells B.groups[i]) ∧ Live t w w' vb mb jb bk B B' := by
  have hL := h
  obtain ⟨v, C, h1, h2, h3, h4, h5⟩ := h
  obtain ⟨Fv, Fj, Fb, _, hj, _⟩ := ST.parts h5
  have hf := h3.f
  have ht := h3.t9
  refine (group_ok wk Fj jb vb (jOf B) hj rfl (by show B.first ≤ _; omega) (by show B.groups.length ≤ _; omega) i hi (h3.gs _ (List.getElem_mem hi)).1).mono ?_
  rintro e w' ⟨vo, vc, rfl, hrow, hk⟩
  exact ⟨vo, vc, rfl, hrow, hL.keep hk⟩
end
end Go.Proofs.Ytgmggmpkbfljfaa

/- Device and book, without a journal: opening, formatting, another book. -/
set_option linter.unusedVariables false
set_option linter.unusedSimpArgs false
set_option maxRecDepth 100000
namespace Go.Proofs.Ytgmggmpkbfljfaa
open Go.RowKit
theorem To.weak {A B : HP} {F : List Nat} {w w' : World} (h : To A F w w') (k : ∀ F', A w' F' → ∃ F'', B w' F'' ∧ ∀ x ∈ F'', x ∈ F') : To B F w w' := by
  obtain ⟨F', h1, h2, h3⟩ := h
  obtain ⟨F'', k1, k2⟩ := k F' h1
  exact ⟨F'', k1, h2, fun x hx => h3 x (k2 x hx)⟩
/-- Device and book; the device says B. -/
def Dev0 (t : Nat) (w wk : World) (vb mb bk : Nat) (B B' : Bk) : Prop :=
  ∃ v C, Good v (B.ring + 2) C 0 ∧ DJ C B ∧ BOk B t ∧ BOk B' t ∧ To (Sep (VolH vb mb v) (BH bk B')) [] w wk
section
variable {t : Nat} {w wk : World} {vb mb jb bk : Nat} {B B' : Bk}
theorem dv_stab (v : Vol) : Stab (Sep (VolH vb mb v) (BH bk B)) := (volH_stab _ _ _).sep (bh_stab _ _)
theorem Live.dev (h : Live t w wk vb mb jb bk B B') : Dev0 t w wk vb mb bk B B' := by
  obtain ⟨v, C, h1, h2, h3, h4, h5⟩ := h
  refine ⟨v, C, h1, h2, h3, h4, h5.weak ?_⟩
  rintro F ⟨F1, F2, k1, ⟨F3, F4, k3, k4, d34, rfl⟩, d12, rfl⟩
  exact ⟨F1 ++ F4, ⟨F1, F4, k1, k4, fun x hx hm => d12 x hx (List.mem_append_right _ hm), rfl⟩, fun x hx => by
    rcases List.mem_append.1 hx with h | h
    · exact List.mem_append_left _ h
    · exact List.mem_append_right _ (List.mem_append_right _ h)⟩
theorem Dev0.keep {w' : World} (h : Dev0 t w wk vb mb bk B B') (hk : Keep [] wk w') : Dev0 t w w' vb mb bk B B' := by
  obtain ⟨v, C, h1, h2, h3, h4, h5⟩ := h
  exact ⟨v, C, h1, h2, h3, h4, h5.kept (dv_stab _) hk⟩
theorem Dev0.of0 (h : Dev0 t w wk vb mb bk B B') : Keep [] w wk := by obtain ⟨_, _, _, _, _, _, h⟩ := h; obtain ⟨_, _, hk, _⟩ := h; exact hk
theorem Dev0.up {t' : Nat} (h : Dev0 t w wk vb mb bk B B') (ht : t ≤ t') (h9 : t' ≤ 900) : Dev0 t' w wk vb mb bk B B' := by
  obtain ⟨v, C, h1, h2, h3, h4, h5⟩ := h
  exact ⟨v, C, h1, h2, h3.up ht h9, h4.up ht h9, h5⟩
theorem sep_swap {A B D : HP} {w : World} {F : List Nat} (h : Sep (Sep A B) D w F) : ∃ F', Sep A (Sep D B) w F' ∧ ∀ x ∈ F', x ∈ F := by
  obtain ⟨F1, F2, ⟨F3, F4, h3, h4, d34, rfl⟩, h2, d12, rfl⟩ := h
  refine ⟨F3 ++ (F2 ++ F4), ⟨F3, F2 ++ F4, h3, ⟨F2, F4, h2, h4, fun x hx hm => d12 x (List.mem_append_right _ hm) hx, rfl⟩, fun x hx hm => ?_, rfl⟩, fun x hx => ?_⟩
  · rcases List.mem_append.1 hm with h | h
    · exact d12 x (List.mem_append_left _ hx) h
    · exact d34 x hx h
  · simp only [List.mem_append] at hx ⊢
    rcases hx with h | h | h
    · exact .inl (.inl h)
    · exact .inr h
    · exact .inl (.inr h)
theorem open_D (h : Dev0 t w wk vb mb bk B B') :
    Calls Try.prog 26 #[.pointer (some ⟨vb, 0, none⟩)] wk fun e w' => ∃ jb, e = .returned (.tuple #[.pointer (some ⟨jb, 0, none⟩), .int .i64 0]) ∧ Live t w w' vb mb jb bk { B with pend := [] } B' := by
  obtain ⟨v, C, h1, h2, h3, h4, h5⟩ := h
  have h5' := h5
  obtain ⟨F, ⟨F1, F2, k1, k2, d, rfl⟩, hk, hs⟩ := h5
  have ho := open_c wk F1 vb mb v B.ring _ _ k1 (rel_open h1 h2 h3.room (by omega))
  rw [gsOf_two] at ho
  refine ho.mono ?_
  rintro e w' ⟨jb, rfl, ht⟩
  exact ⟨jb, rfl, v, C, h1, h2.pend [], h3.noPend, h4, (sep_new (dv_stab _) h5' ht).weak fun F' hF => sep_swap hF⟩
theorem format_D (h : Dev0 t w wk vb mb bk B B') (ht : t + 1 ≤ 900) :
    Calls Try.prog 27 #[.pointer (some ⟨vb, 0, none⟩)] wk fun e w' => e = .returned (.int .i64 0) ∧ Dev0 (t + 1) w w' vb mb bk (bEmpty B.ring (B.gen + 1)) B' := by
  obtain ⟨v, C, h1, h2, h3, h4, h5⟩ := h
  obtain ⟨f1, C', f2, f3⟩ := format_again h1 h2 h3.room (by omega)
  have hn := rel_newest h1 h2 h3.room
  have hm := format_m vb mb v (rel_fit h1 h2 h3.room) (by rw [h1.pend]; omega) (by
    rw [hn]
    show B.gen ≤ _
    have := h3.g; have := h3.t9; omega)
  rw [f1] at hm
  refine (h5.call (hm.L (bh_stab bk B'))).mono fun e w' hk => ⟨hk.1, _, C', f2, f3, bEmpty_ok _ _ _ h3.r0 h3.r9 (by have := h3.g; omega) ht, h4.up (by omega) ht, hk.2⟩
theorem image_D (h : Dev0 t w wk vb mb bk B B) :
    Calls Try.prog 28 #[.pointer (some ⟨bk, 0, none⟩), .pointer (some ⟨vb, 0, none⟩)] wk fun e w' => e = .returned (.bool true) ∧ Dev0 t w w' vb mb bk B B := by
  have h0 := h
  obtain ⟨v, C, h1, h2, h3, h4, h5⟩ := h
  obtain ⟨F, ⟨F1, F2, k1, k2, d, rfl⟩, hk, hs⟩ := h5
  exact (image_t wk F1 bk vb mb B v k1 F2 k2 h3.room.fit (rel_image h1 h2 h3.room (by omega))).mono fun e w' hk => ⟨hk.1, h0.keep hk.2⟩
/-- Another book. -/
theorem book_D (h : Dev0 t w wk vb mb bk B B') (hB : BOk (bEmpty B.ring B.gen) t) :
    Dev0 t w (wk.alloc (.cells (bcells B.ring B.gen 1 0 (.slice none 0 0) (.slice none 0 0)) 43)) vb mb wk.heap.size B (bEmpty B.ring B.gen) := by
  obtain ⟨v, C, h1, h2, h3, h4, h5⟩ := h
  refine ⟨v, C, h1, h2, h3, hB, ?_⟩
  have h6 : To (VolH vb mb v) [] w wk := h5.weak fun F ⟨F1, F2, k1, k2, d, e⟩ => ⟨F1, k1, fun x hx => by rw [e]; exact List.mem_append_left _ hx⟩
  exact sep_new (volH_stab _ _ _) h6 (book_new wk B.ring B.gen 1 0)
end
end Go.Proofs.Ytgmggmpkbfljfaa

/- The numbers and operations that a statement is handed, as they lie in memory. -/
set_option linter.unusedVariables false
set_option linter.unusedSimpArgs false
set_option maxRecDepth 100000
namespace Go.Proofs.Ytgmggmpkbfljfaa
open Go.RowKit
open Go.ChangeShapes Go.WideShapes Go.ChangeAt

theorem mapM_get {α β : Type} (f : α → Option β) : ∀ (l : List α) (cs : List β), l.mapM f = some cs → cs.length = l.length ∧ ∀ (i : Nat) (x : α), l[i]? = some x → f x = cs[i]?
  | [], cs, h => by
    simp at h; subst h; exact ⟨rfl, fun i x hx => by simp at hx⟩
  | x :: l, cs, h => by
    rw [List.mapM_cons] at h
    simp only [Option.bind_eq_bind, Option.pure_def, Option.bind_eq_some_iff] at h
    obtain ⟨y, hy, ys, hys, h⟩ := h
    simp at h; subst h
    obtain ⟨h1, h2⟩ := mapM_get f l ys hys
    refine ⟨by simp [h1], fun i z hz => ?_⟩
    cases i with
    | zero => simp at hz; subst hz; simpa using hy
    | succ i => simp at hz ⊢; exact h2 i z hz
theorem cells?_get {w : World} {base n : Nat} {a : Addr} {cs : List Value} (h : w.cells? base a n = some cs) : cs.length = n ∧ ∀ i, i < n → w.cell? (a.add i) = cs[i]? := by
  unfold World.cells? at h
  split at h
  · obtain ⟨h1, h2⟩ := mapM_get _ _ _ h
    exact ⟨by simpa using h1, fun i hi => h2 i i (by rw [List.getElem?_range hi])⟩
  · cases h
theorem plain_of_cell {w : World} {a : Addr} {v : Value} (h : w.cell? a = some v) : ∃ b off, a = ⟨b, off, none⟩ := by
  obtain ⟨b, off, sp⟩ := a
  cases sp with
  | none => exact ⟨b, off, rfl⟩
  | some x => simp [World.cell?] at h; split at h <;> simp at h
theorem add_plain (b off j : Nat) : (⟨b, off, none⟩ : Addr).add j = ⟨b, off + j, none⟩ := by unfold Addr.add; split <;> simp_all

section
variable {H : Type} {enc : TypeId × Value → H} {w : World} {base : Nat} {held : Bool} {fuel : Nat}
/-- A row of uint16. -/
def U16At (w : World) (sv : Value) (zs : List Nat) : Prop :=
  (∃ a cap, sv = .slice a 0 cap ∧ zs = []) ∨
  ∃ b o cap, sv = .slice (some ⟨b, o, none⟩) zs.length cap ∧ zs.length ≤ maxLen ∧ ∀ i (h : i < zs.length), zs[i] ≤ 65535 ∧ w.cell? ⟨b, o + i, none⟩ = some (.int .u16 zs[i])
theorem u16_trod {cs : List Value} {x : DataW H × List MemPlace} (h : DataW.trod enc Try.prog w base (fun _ => true) held fuel 35 cs = some x) :
    ∃ sv zs, cs = [sv] ∧ U16At w sv zs := by
  rcases open_ints Try.underlying35 Try.underlying38 (by kernel_rfl) h with ⟨hcs, _⟩ | ⟨a, len, cap, zs, hcs, _, hl, hm, hz, _, hcell, hwz⟩
  · exact ⟨_, [], hcs, .inl ⟨none, 0, rfl, rfl⟩⟩
  · have hle : len ≤ zs.length := by rw [hz]; simp; omega
    by_cases h0 : len = 0
    · subst h0
      exact ⟨_, [], hcs, .inl ⟨_, cap, rfl, rfl⟩⟩
    · have h1 := hcell 0 (by omega)
      obtain ⟨b, off, hp⟩ := plain_of_cell h1
      have ha : a = ⟨b, off, none⟩ := by unfold Addr.add at hp; simpa using hp
      subst ha
      refine ⟨_, (zs.take len).map Int.toNat, hcs, .inr ⟨b, off, cap, by simp [Nat.min_eq_left hle], by simp; omega, fun i hi => ?_⟩⟩
      have hil : i < len := by simp at hi; omega
      have hiz : i < zs.length := by omega
      have hb := bounds_u16 (hwz zs[i] (List.getElem_mem hiz))
      have hc := hcell i hiz
      rw [add_plain, List.getD_eq_getElem?_getD, List.getElem?_eq_getElem hiz] at hc
      simp only [Option.getD_some] at hc
      refine ⟨?_, ?_⟩
      · simp; omega
      · rw [hc]; simp [Int.toNat_of_nonneg hb.1]
end
def U16Arg (w : World) (v : Value) : Prop := ∃ zs, U16At w v zs
theorem U16Arg_open {H : Type} {enc : TypeId × Value → H} {W : World} {v : Value} {base : Nat} {d : DataW H} {p : List MemPlace} (hv : Value.okWide Try.prog W .any base 35 v)
    (h : ∃ m, DataW.trod enc Try.prog W 0 (fun _ => true) true m 35 v.cells.toList = some (d, p)) : U16Arg W v := by
  obtain ⟨a, len, cap, rfl⟩ := okWide_slice Try.underlying35 hv
  obtain ⟨m, hm⟩ := h
  obtain ⟨sv, zs, e, hb⟩ := u16_trod hm
  simp [Value.cells] at e
  subst e
  exact ⟨zs, hb⟩
theorem U16At.lt {w : World} {sv : Value} {zs : List Nat} (h : U16At w sv zs) : ∃ a n c, sv = .slice a n c ∧ n = zs.length ∧ n ≤ maxLen := by
  rcases h with ⟨a, cap, rfl, rfl⟩ | ⟨b, o, cap, rfl, hl, _⟩
  · exact ⟨a, 0, cap, rfl, by simp, by simp⟩
  · exact ⟨_, _, _, rfl, rfl, hl⟩
theorem U16At.elem {w : World} {a : Option Addr} {n c : Nat} {zs : List Nat} (h : U16At w (.slice a n c) zs) (i : Nat) (hi : i < n) : ∃ b o, a = some ⟨b, o, none⟩ ∧ ∃ z, z ≤ 65535 ∧ ∀ w', Keep [] w w' → w'.cell? ⟨b, o + i, none⟩ = some (.int .u16 (z : Nat)) := by
  rcases h with ⟨a', cap, e, rfl⟩ | ⟨b, o, cap, e, hl, hz⟩
  · injection e with _ e2 _; omega
  · have e1 : a = some ⟨b, o, none⟩ := by injection e
    have e2 : n = zs.length := by injection e
    obtain ⟨z1, z2⟩ := hz i (by omega)
    exact ⟨b, o, e1, zs[i], z1, fun w' hk => by rw [cell_same (w := w) (hk.block b (World.block_lt_of_cell? w _ z2) (by simp))]; exact z2⟩
/-- An operation of the journal. -/
structure OpJ where
  kind : Nat
  num : Int
  rcd : Nat
structure OpJ.ok (o : OpJ) : Prop where
  kind : o.kind ≤ 255
  num : -128 ≤ o.num ∧ o.num ≤ 127
  rcd : o.rcd ≤ 65535
def JOpsAt (w : World) (sv : Value) (os : List OpJ) : Prop :=
  (∃ a cap, sv = .slice a 0 cap ∧ os = []) ∨
  ∃ lb lo cap, sv = .slice (some ⟨lb, lo, none⟩) os.length cap ∧ os.length ≤ maxLen ∧ ∀ i (h : i < os.length), os[i].ok ∧
    w.cell? ⟨lb, lo + i * 3, none⟩ = some (.int .u8 os[i].kind) ∧ w.cell? ⟨lb, lo + i * 3 + 1, none⟩ = some (.int .i8 os[i].num) ∧ w.cell? ⟨lb, lo + i * 3 + 2, none⟩ = some (.int .u16 os[i].rcd)
theorem cells_JOp : Try.prog.cellsOf 64 = 3 := by kernel_rfl
theorem cells_u8 : Try.prog.cellsOf 5 = 1 := by kernel_rfl
theorem cells_i8 : Try.prog.cellsOf 62 = 1 := by kernel_rfl
theorem cells_u16 : Try.prog.cellsOf 38 = 1 := by kernel_rfl
section
variable {H : Type} {enc : TypeId × Value → H} {w : World} {base : Nat} {held : Bool} {fuel : Nat}
theorem jop_trod {cs : List Value} {x : DataW H × List MemPlace} (h : DataW.trod enc Try.prog w base (fun _ => true) held fuel 64 cs = some x) :
    ∃ o : OpJ, o.ok ∧ cs = [.int .u8 o.kind, .int .i8 o.num, .int .u16 o.rcd] := by
  obtain ⟨y0, y1, y2, n, _, hl, h0, h1, h2⟩ := Go.Deep.trod_struct3 Try.underlying64 h
  rw [cells_JOp] at hl
  match cs, hl with
  | [c0, c1, c2], _ =>
    dsimp only at h0 h1 h2
    rw [cells_u8] at h0
    rw [cells_i8] at h1
    rw [cells_u16] at h2
    obtain ⟨k, e0, _, w0⟩ := DataW.trod_int Try.underlying5 h0
    obtain ⟨s, e1, _, w1⟩ := DataW.trod_int Try.underlying62 h1
    obtain ⟨d, e2, _, w2⟩ := DataW.trod_int Try.underlying38 h2
    simp at e0 e1 e2
    subst e0; subst e1; subst e2
    have b0 := bounds_u8 w0
    have b2 := bounds_u16 w2
    exact ⟨⟨k.toNat, s, d.toNat⟩, ⟨by show k.toNat ≤ 255; omega, bounds_i8 w1, by show d.toNat ≤ 65535; omega⟩, by simp [Int.toNat_of_nonneg b0.1, Int.toNat_of_nonneg b2.1]⟩
theorem jops_trod {sv : Value} {x : DataW H × List MemPlace} (h : DataW.trod enc Try.prog w base (fun _ => true) held fuel 59 [sv] = some x) : ∃ os, JOpsAt w sv os := by
  rcases Go.Deep.open_slice Try.underlying59 h with ⟨hcs, _⟩ | ⟨a, len, cap, m, n, D, Pl, hcs, _, hl, hm, hmm, _, hel⟩
  · simp at hcs; exact ⟨[], .inl ⟨none, 0, hcs, rfl⟩⟩
  · simp at hcs hmm
    by_cases h0 : len = 0
    · subst h0; exact ⟨[], .inl ⟨_, cap, hcs, rfl⟩⟩
    · have hall : ∀ i, i < cap → ∃ o : OpJ, o.ok ∧ w.cells? base (a.add (i * 3)) 3 = some [.int .u8 o.kind, .int .i8 o.num, .int .u16 o.rcd] := by
        intro i hi
        obtain ⟨cs', h1, h2⟩ := hel i (by omega)
        rw [cells_JOp] at h1
        obtain ⟨o, h3, rfl⟩ := jop_trod h2
        exact ⟨o, h3, h1⟩
      have hfun : ∃ f : Nat → OpJ, ∀ i, i < cap → (f i).ok ∧ w.cells? base (a.add (i * 3)) 3 = some [.int .u8 (f i).kind, .int .i8 (f i).num, .int .u16 (f i).rcd] :=
        ⟨fun i => if h : i < cap then Classical.choose (hall i h) else ⟨0, 0, 0⟩, fun i hi => by simp only [hi, dif_pos]; exact Classical.choose_spec (hall i hi)⟩
      obtain ⟨f, hf⟩ := hfun
      have hc0 := (cells?_get (hf 0 (by omega)).2).2 0 (by omega)
      obtain ⟨b, off, hp⟩ := plain_of_cell (v := .int .u8 (f 0).kind) (by simpa using hc0)
      have ha : a = ⟨b, off, none⟩ := by unfold Addr.add at hp; simpa using hp
      subst ha
      refine ⟨(List.range len).map f, .inr ⟨b, off, cap, by simpa using hcs, by simp; omega, fun i hi => ?_⟩⟩
      have hil : i < len := by simpa using hi
      obtain ⟨k1, k2⟩ := hf i (by omega)
      have hc := (cells?_get k2).2
      simp only [List.getElem_map, List.getElem_range]
      have e : ∀ j, ((⟨b, off, none⟩ : Addr).add (i * 3)).add j = ⟨b, off + i * 3 + j, none⟩ := fun j => by rw [add_plain, add_plain]
      refine ⟨k1, ?_, ?_, ?_⟩
      · have := hc 0 (by omega); rw [e] at this; simpa using this
      · have := hc 1 (by omega); rw [e] at this; simpa using this
      · have := hc 2 (by omega); rw [e] at this; simpa using this
end
def JOpsArg (w : World) (v : Value) : Prop := ∃ os, JOpsAt w v os
theorem JOpsArg_open {H : Type} {enc : TypeId × Value → H} {W : World} {v : Value} {base : Nat} {d : DataW H} {p : List MemPlace} (hv : Value.okWide Try.prog W .any base 59 v)
    (h : ∃ m, DataW.trod enc Try.prog W 0 (fun _ => true) true m 59 v.cells.toList = some (d, p)) : JOpsArg W v := by
  obtain ⟨a, len, cap, rfl⟩ := okWide_slice Try.underlying59 hv
  obtain ⟨m, hm⟩ := h
  exact jops_trod hm
theorem JOpsAt.form {w : World} {sv : Value} {os : List OpJ} (h : JOpsAt w sv os) : ∃ a c, sv = .slice a os.length c ∧ os.length ≤ maxLen := by
  rcases h with ⟨a, cap, rfl, rfl⟩ | ⟨b, o, cap, rfl, hl, _⟩
  · exact ⟨a, cap, by simp, by simp⟩
  · exact ⟨_, _, rfl, hl⟩
theorem JOpsAt.elem {w : World} {a : Option Addr} {c : Nat} {os : List OpJ} (h : JOpsAt w (.slice a os.length c) os) (i : Nat) (hi : i < os.length) :
    ∃ b o, a = some ⟨b, o, none⟩ ∧ os[i].ok ∧ ∀ w', Keep [] w w' → w'.cell? ⟨b, o + i * 3, none⟩ = some (.int .u8 os[i].kind) ∧ w'.cell? ⟨b, o + i * 3 + 1, none⟩ = some (.int .i8 os[i].num) ∧ w'.cell? ⟨b, o + i * 3 + 2, none⟩ = some (.int .u16 os[i].rcd) := by
  rcases h with ⟨a', cap, e, rfl⟩ | ⟨b, o, cap, e, hl, hz⟩
  · simp at hi
  · have e1 : a = some ⟨b, o, none⟩ := by injection e
    obtain ⟨z1, z2, z3, z4⟩ := hz i hi
    have hb : ∀ w', Keep [] w w' → w'.heap[b]? = w.heap[b]? := fun w' hk => hk.block b (World.block_lt_of_cell? w _ z2) (by simp)
    exact ⟨b, o, e1, z1, fun w' hk => ⟨by rw [cell_same (w := w) (hb w' hk)]; exact z2, by rw [cell_same (w := w) (hb w' hk)]; exact z3, by rw [cell_same (w := w) (hb w' hk)]; exact z4⟩⟩
end Go.Proofs.Ytgmggmpkbfljfaa
