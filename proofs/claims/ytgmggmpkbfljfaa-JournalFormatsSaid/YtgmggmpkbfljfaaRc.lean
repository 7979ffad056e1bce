/- Formatting and committing keep device and book together. -/
import Derived.Test.YtgmggmpkbfljfaaRe
set_option linter.unusedVariables false
set_option linter.unusedSimpArgs false
set_option maxRecDepth 100000
namespace Go.Proofs.Ytgmggmpkbfljfaa
open Go.RowKit
def bEmpty (R g : Nat) : Bk := ⟨R, g, 1, 0, [], []⟩
theorem dj_first (R : Nat) : DJ (upd (fun _ => fillS 0) 1 (pageS 1 1 0 0)) (bEmpty R 1) := by
  have e : upd (fun _ => fillS 0) 1 (pageS 1 1 0 0) ((((bEmpty R 1).gen : Int) + 1) % 2) = fillS 0 := by
    unfold upd; rw [if_neg (by show ¬ ((((1 : Nat) : Int) + 1) % 2 = 1); decide)]
  refine ⟨rfl, by rw [e, fillS_size]; omega, fun h => ?_, fun i h => by simp [bEmpty] at h⟩
  rw [e, isPg_zeros] at h; cases h
theorem bEmpty_room (R g : Nat) (h0 : 0 < R) (h9 : R ≤ 900) (hg : g ≤ 900000) : BRoom (bEmpty R g) :=
  ⟨h0, h9, hg, by show 1 ≤ _; omega, by show 0 ≤ _; omega, by show 0 ≤ _; omega, by show 0 ≤ _; omega, by simp [bEmpty], by intro l hl; simp [bEmpty] at hl, by show 0 ≤ _; omega⟩
theorem newest_zero (n : Nat) (hn : 2 < n) : pgTo (vNew n) 2 = none ∧ ReadFit (vNew n) := by
  have hr : ∀ s : Int, 0 ≤ s → s < 2 → (vRead (vNew n) s).1 = fillS 0 := fun s h0 h1 => by rw [(good_new n).read s h0 (by omega)]
  constructor
  · show pgStep (pgStep none (vRead (vNew n) ((0 : Nat) : Int)).1) (vRead (vNew n) ((1 : Nat) : Int)).1 = _
    rw [hr _ (by omega) (by omega), hr _ (by omega) (by omega)]
    rw [pgStep_no _ _ isPg_zeros, pgStep_no _ _ isPg_zeros]
  · intro k hk
    rw [hr _ (by omega) (by omega)]
    exact ⟨by rw [fillS_size]; omega, fun h => by rw [isPg_zeros] at h; cases h⟩
/-- Formatting a new device. -/
theorem format_new (R : Nat) (h0 : 0 < R) : (jFormat (vNew ((R + 2 : Nat) : Int))).1 = 0 ∧ Good (jFormat (vNew ((R + 2 : Nat) : Int))).2 (R + 2) (upd (fun _ => fillS 0) 1 (pageS 1 1 0 0)) 0 := by
  have hck : jCheck (vNew ((R + 2 : Nat) : Int)) = 0 := jcheck_ok _ rfl (by show (2 : Int) < ((R + 2 : Nat) : Int); omega)
  have e : jFormat (vNew ((R + 2 : Nat) : Int)) = jW (vNew ((R + 2 : Nat) : Int)) ⟨1, 1, 0, 0⟩ := by
    unfold jFormat
    rw [if_neg (fun h => h hck), (newest_zero (R + 2) (by omega)).1]
    rfl
  rw [e]
  exact (good_new (R + 2)).jW ⟨1, 1, 0, 0⟩ (by omega) (by omega)
/-- Formatting a device with a book on it. -/
theorem format_again {v : Vol} {C : Cont} {m : Nat} {B : Bk} (hg : Good v (B.ring + 2) C m) (hd : DJ C B) (hb : BRoom B) (hm : m ≤ 2000) :
    (jFormat v).1 = 0 ∧ ∃ C', Good (jFormat v).2 (B.ring + 2) C' 0 ∧ DJ C' (bEmpty B.ring (B.gen + 1)) := by
  have h0 := hb.r0
  have hck : jCheck v = 0 := jcheck_ok _ hg.down (by rw [hg.secs]; omega)
  have e : jFormat v = jW v ⟨B.gen + 1, 1, 0, 0⟩ := by
    unfold jFormat
    rw [if_neg (fun h => h hck), rel_newest hg hd hb]
    rfl
  rw [e]
  obtain ⟨h1, h2⟩ := hg.jW ⟨B.gen + 1, 1, 0, 0⟩ (by omega) (by omega)
  refine ⟨h1, _, h2, ?_⟩
  have hgen : (((bEmpty B.ring (B.gen + 1)).gen : Nat) : Int) = (B.gen : Int) + 1 := by show ((B.gen + 1 : Nat) : Int) = _; omega
  have hne : ((B.gen : Int) + 1 + 1) % 2 ≠ ((B.gen : Int) + 1) % 2 := by omega
  have heq : ((B.gen : Int) + 1 + 1) % 2 = (B.gen : Int) % 2 := by omega
  have hold : upd C (((((⟨B.gen + 1, 1, 0, 0⟩ : Pg).g : Nat) : Int)) % 2) (pgS ⟨B.gen + 1, 1, 0, 0⟩) (((B.gen : Int) + 1 + 1) % 2) = pageS B.gen B.first B.place (usedN B.groups) := by
    unfold upd
    rw [if_neg (by show ¬ _ = ((B.gen + 1 : Nat) : Int) % 2; omega), heq, hd.page]
  refine ⟨?_, ?_, fun _ => ?_, fun i h => by simp [bEmpty] at h⟩
  · rw [hgen]
    unfold upd
    rw [if_pos (by show ((B.gen : Int) + 1) % 2 = ((B.gen + 1 : Nat) : Int) % 2; omega)]
    rfl
  · rw [hgen, hold, pageS_size]; omega
  · rw [hgen, hold, pgAt_page hb]
    exact ⟨pgFit_page hb, by show B.gen < B.gen + 1; omega⟩
/-- What a book is after a commit that has room. -/
def bNext (B : Bk) : Bk := { B with groups := B.groups ++ [B.pend], pend := [], gen := B.gen + 1 }
theorem usedN_snoc (L : List (List ByteArray)) (l : List ByteArray) : usedN (L ++ [l]) = usedN L + secsN l := by simp [usedN]
theorem bCommit_ok (B : Bk) (h : usedN B.groups + secsN B.pend ≤ B.ring) : bCommit B = ((((B.first + B.groups.length : Nat) : Int), (0 : Int)), bNext B) := by
  unfold bCommit; rw [if_neg (by omega)]; rfl
theorem bCommit_full (B : Bk) (h : ¬ usedN B.groups + secsN B.pend ≤ B.ring) : bCommit B = ((0, 19), B) := by
  unfold bCommit; rw [if_pos (by omega)]
theorem commit_rel {v : Vol} {C : Cont} {m : Nat} {B : Bk} (hg : Good v (B.ring + 2) C m) (hd : DJ C B) (hb : BRoom B) (hm : m ≤ 2000) (hr : usedN B.groups + secsN B.pend ≤ B.ring) :
    ∃ v' C', jCommit B.ring v (jOf B) = ⟨(B.first + B.groups.length : Nat), 0, v', jOf (bNext B)⟩ ∧ Good v' (B.ring + 2) C' 0 ∧ DJ C' (bNext B) := by
  have h0 := hb.r0
  have h9 := hb.r9
  have hez := encS_size (jNum (jOf B)) B.pend
  obtain ⟨f1, f2⟩ := hg.fill (R := B.ring) (B.place + usedN B.groups) (encS (jNum (jOf B)) B.pend) (secsN B.pend) hez h0 (secsN B.pend) 0 (by omega) (by omega)
  obtain ⟨g1, g2⟩ := f2.jW (jNext (jOf B)) (by omega) (by omega)
  have e : jCommit B.ring v (jOf B) = ⟨(B.first + B.groups.length : Nat), 0, (jW (jFill B.ring v (jOf B)).2 (jNext (jOf B))).2, jOf (bNext B)⟩ := by
    unfold jCommit
    rw [if_neg (by simp [jOf]), if_neg (by show ¬ (B.ring : Int) - (usedN B.groups : Nat) < (secsN B.pend : Nat); omega), if_neg (by show ¬ (vFill _ _ _ _ _ _).1 ≠ 0; rw [show (vFill (B.ring) ((jOf B).pg.p + (jOf B).pg.k) (encS (jNum (jOf B)) (jOf B).pend) (secsN (jOf B).pend) 0 v).1 = 0 from f1]; simp),
      if_neg (by rw [show (jW (jFill B.ring v (jOf B)).2 (jNext (jOf B))).1 = 0 from g1]; simp)]
    have ej : jOf (bNext B) = ⟨jNext (jOf B), (jOf B).groups ++ [(jOf B).pend], [], false⟩ := by
      unfold jOf pgOfB bNext jNext
      dsimp only
      rw [usedN_snoc]
    rw [ej]
    rfl
  refine ⟨_, _, e, g2, ?_⟩
  -- the content
  have hgen : ((bNext B).gen : Int) = (B.gen : Int) + 1 := by show ((B.gen + 1 : Nat) : Int) = _; omega
  have hlow : ∀ s : Int, s < 2 → fillC B.ring (B.place + usedN B.groups) (encS (jNum (jOf B)) B.pend) (secsN B.pend) 0 C s = C s := fun s hs =>
    fillC_out _ _ _ _ _ _ _ (fun j _ _ e => by omega)
  have hnx : (((jNext (jOf B)).g : Nat) : Int) = (B.gen : Int) + 1 := by show ((B.gen + 1 : Nat) : Int) = _; omega
  have hold : upd (fillC B.ring (B.place + usedN B.groups) (encS (jNum (jOf B)) B.pend) (secsN B.pend) 0 C) (((jNext (jOf B)).g : Int) % 2) (pgS (jNext (jOf B))) (((B.gen : Int) + 1 + 1) % 2) = pageS B.gen B.first B.place (usedN B.groups) := by
    unfold upd
    rw [if_neg (by rw [hnx]; omega), hlow _ (by omega), show ((B.gen : Int) + 1 + 1) % 2 = (B.gen : Int) % 2 by omega, hd.page]
  have hhigh : ∀ x, upd (fillC B.ring (B.place + usedN B.groups) (encS (jNum (jOf B)) B.pend) (secsN B.pend) 0 C) (((jNext (jOf B)).g : Int) % 2) (pgS (jNext (jOf B))) (plc B.ring x) = fillC B.ring (B.place + usedN B.groups) (encS (jNum (jOf B)) B.pend) (secsN B.pend) 0 C (plc B.ring x) := fun x => by
    unfold upd
    rw [if_neg (by unfold plc; omega)]
  have key : ∀ i (hi : i < (B.groups ++ [B.pend]).length), ∀ k, k < secsN (B.groups ++ [B.pend])[i] →
      upd (fillC B.ring (B.place + usedN B.groups) (encS (jNum (jOf B)) B.pend) (secsN B.pend) 0 C) (((jNext (jOf B)).g : Int) % 2) (pgS (jNext (jOf B))) (plc B.ring (B.place + (usedN ((B.groups ++ [B.pend]).take i) + k))) = chunk (encS (B.first + i) (B.groups ++ [B.pend])[i]) k := by
    intro i hi k hk
    have hi' : i < B.groups.length + 1 := by simpa using hi
    rw [hhigh]
    by_cases hlt : i < B.groups.length
    · have e1 : (B.groups ++ [B.pend])[i] = B.groups[i] := List.getElem_append_left hlt
      have e2 : (B.groups ++ [B.pend]).take i = B.groups.take i := List.take_append_of_le_length (Nat.le_of_lt hlt)
      rw [e1] at hk ⊢
      rw [e2, fillC_out _ _ _ _ _ _ _ (fun j _ hj e => by
        have hu := usedN_take_le B.groups (i + 1)
        rw [usedN_take _ _ hlt] at hu
        have hmod : (B.place + (usedN (B.groups.take i) + k)) % B.ring = (B.place + usedN B.groups + j) % B.ring := by unfold plc at e; omega
        have := mod_inj B.ring _ _ h0 hmod (by omega) (by omega)
        omega)]
      exact hd.data i hlt k hk
    · obtain rfl : i = B.groups.length := by omega
      have e1 : (B.groups ++ [B.pend])[B.groups.length] = B.pend := List.getElem_concat_length rfl _
      have e2 : (B.groups ++ [B.pend]).take B.groups.length = B.groups := List.take_left' rfl
      rw [e1] at hk ⊢
      rw [e2, show B.place + (usedN B.groups + k) = B.place + usedN B.groups + k by omega]
      exact fillC_in B.ring (B.place + usedN B.groups) (encS (jNum (jOf B)) B.pend) h0 (secsN B.pend) 0 C (by omega) k (by omega) (by omega)
  refine ⟨?_, ?_, fun _ => ?_, fun i hi k hk => key i hi k hk⟩
  · rw [hgen]
    unfold upd
    rw [if_pos (by rw [hnx])]
    show pgS (jNext (jOf B)) = pageS (B.gen + 1) B.first B.place (usedN (B.groups ++ [B.pend]))
    rw [usedN_snoc]; rfl
  · rw [hgen, hold, pageS_size]; omega
  · rw [hgen, hold, pgAt_page hb]
    exact ⟨pgFit_page hb, by show B.gen < B.gen + 1; omega⟩
theorem bNext_room {B : Bk} (hb : BRoom B) (hr : usedN B.groups + secsN B.pend ≤ B.ring) (hg : B.gen + 1 ≤ 900000) (hn : B.groups.length + 1 ≤ 900000) : BRoom (bNext B) :=
  ⟨hb.r0, hb.r9, hg, hb.f, hb.p, by show (B.groups ++ [B.pend]).length ≤ _; simpa using hn, by show (0 : Nat) ≤ 256; omega, by simp [bNext], by
    intro l hl
    rcases List.mem_append.1 hl with h | h
    · exact hb.gs l h
    · simp at h; subst h; exact ⟨hb.l, hb.s⟩, by show usedN (B.groups ++ [B.pend]) ≤ _; rw [usedN_snoc]; exact hr⟩
theorem commit_full {v : Vol} {B : Bk} (hr : ¬ usedN B.groups + secsN B.pend ≤ B.ring) : jCommit B.ring v (jOf B) = ⟨0, 19, v, jOf B⟩ := by
  unfold jCommit
  rw [if_neg (by simp [jOf]), if_pos (by show (B.ring : Int) - (usedN B.groups : Nat) < (secsN B.pend : Nat); omega)]
end Go.Proofs.Ytgmggmpkbfljfaa
