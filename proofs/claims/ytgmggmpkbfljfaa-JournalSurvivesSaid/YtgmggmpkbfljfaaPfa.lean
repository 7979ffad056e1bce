import Derived.Test.YtgmggmpkbfljfaaLa
import Derived.Test.YtgmggmpkbfljfaaRd
/- Device, journal and book as predicates of memory: what each method does to them. -/
set_option linter.unusedVariables false
set_option linter.unusedSimpArgs false
set_option maxRecDepth 100000
namespace Go.Proofs.Ytgmggmpkbfljfaa
open Go.RowKit
/-- A predicate that holds beside plain facts. -/
theorem Stab.ex {ι : Type} {A : ι → HP} (h : ∀ i, Stab (A i)) : Stab (fun w F => ∃ i, A i w F) where
  keep := by rintro w w' F G ⟨i, hi⟩ hk hd; exact ⟨i, (h i).keep hi hk hd⟩
  lt := by rintro w F ⟨i, hi⟩; exact (h i).lt hi
theorem Stab.and {p : Prop} {A : HP} (h : Stab A) : Stab (fun w F => p ∧ A w F) where
  keep := by rintro w w' F G ⟨i, hi⟩ hk hd; exact ⟨i, h.keep hi hk hd⟩
  lt := by rintro w F ⟨i, hi⟩; exact h.lt hi
/-- Device and journal say B. -/
def DvJ (t vb mb jb : Nat) (B : Bk) : HP := fun w F => ∃ v C, Good v (B.ring + 2) C 0 ∧ DJ C B ∧ BOk B t ∧ Sep (VolH vb mb v) (JH jb vb (jOf B)) w F
/-- The book says B. -/
def BkO (bk t : Nat) (B : Bk) : HP := fun w F => BOk B t ∧ BH bk B w F
theorem dvj_stab (t vb mb jb : Nat) (B : Bk) : Stab (DvJ t vb mb jb B) :=
  Stab.ex fun v => Stab.ex fun C => Stab.and (Stab.and (Stab.and ((volH_stab _ _ _).sep (jh_stab _ _ _)) |> fun h => ⟨fun a b c => h.keep a b c, fun a => h.lt a⟩) |> fun h => h)
theorem bkO_stab (bk t : Nat) (B : Bk) : Stab (BkO bk t B) := Stab.and (bh_stab bk B)
section
variable {t vb mb jb : Nat} {B : Bk}
theorem DvJ.ok {w : World} {F : List Nat} (h : DvJ t vb mb jb B w F) : BOk B t := by obtain ⟨_, _, _, _, h, _⟩ := h; exact h
theorem DvJ.up {w : World} {F : List Nat} {t' : Nat} (h : DvJ t vb mb jb B w F) (ht : t ≤ t') (h9 : t' ≤ 900) : DvJ t' vb mb jb B w F := by
  obtain ⟨v, C, h1, h2, h3, h5⟩ := h; exact ⟨v, C, h1, h2, h3.up ht h9, h5⟩
theorem BkO.up {bk : Nat} {w : World} {F : List Nat} {t' : Nat} (h : BkO bk t B w F) (ht : t ≤ t') (h9 : t' ≤ 900) : BkO bk t' B w F := ⟨h.1.up ht h9, h.2⟩
theorem bApp_dj {C : Cont} (h2 : DJ C B) (s : ByteArray) : (bApp B s).2.ring = B.ring ∧ DJ C (bApp B s).2 := by
  unfold bApp
  split
  · exact ⟨rfl, h2⟩
  · split
    · exact ⟨rfl, h2⟩
    · exact ⟨rfl, h2.pend _⟩
theorem append_d (s : ByteArray) (hs : s.size ≤ 20000) :
    Met Try.prog 13 #[.pointer (some ⟨jb, 0, none⟩), .string s] (.int .i64 (bApp B s).1) (DvJ t vb mb jb B) (DvJ t vb mb jb (bApp B s).2) := by
  rintro w F ⟨v, C, h1, h2, h3, h5⟩
  have hm := append_m jb vb (jOf B) s (by omega) h3.l
  rw [app_rel] at hm
  have hp := bApp_dj h2 s
  refine ((hm.R (volH_stab vb mb v)) w F h5).mono fun e w' hk => ⟨hk.1, hk.2.imp fun w F h => ⟨v, C, ?_, hp.2, h3.app s, h⟩⟩
  rw [hp.1]; exact h1
theorem commit_d (ht : t + 1 ≤ 900) :
    Met Try.prog 22 #[.pointer (some ⟨jb, 0, none⟩)] (.tuple #[.int .i64 (bCommit B).1.1, .int .i64 (bCommit B).1.2]) (DvJ t vb mb jb B) (DvJ (t + 1) vb mb jb (bCommit B).2) := by
  rintro w F ⟨v, C, h1, h2, h3, h5⟩
  have hm := commit_m jb vb mb v (jOf B) B.ring h1.secs h3.r0 h3.r9 (by rw [h1.pend]; omega) h3.room.jfit
  by_cases hr : usedN B.groups + secsN B.pend ≤ B.ring
  · obtain ⟨v', C', e, g', d'⟩ := commit_rel h1 h2 h3.room (by omega) hr
    rw [e] at hm
    refine (hm w F h5).mono fun e w' hk => ⟨?_, hk.2.imp fun w F h => ⟨v', C', ?_, ?_, h3.commit ht, ?_⟩⟩
    · rw [bCommit_ok B hr]; exact hk.1
    · rw [bCommit_ok B hr]; exact g'
    · rw [bCommit_ok B hr]; exact d'
    · rw [bCommit_ok B hr]; exact h
  · rw [commit_full hr] at hm
    refine (hm w F h5).mono fun e w' hk => ⟨?_, hk.2.imp fun w F h => ⟨v, C, ?_, ?_, h3.commit ht, ?_⟩⟩
    · rw [bCommit_full B hr]; exact hk.1
    · rw [bCommit_full B hr]; exact h1
    · rw [bCommit_full B hr]; exact h2
    · rw [bCommit_full B hr]; exact h
theorem drop_d (n : Int) (ht : t + 1 ≤ 900) :
    Met Try.prog 31 #[.pointer (some ⟨jb, 0, none⟩), .int .i64 n] (.int .i64 (bDrop B n).1) (DvJ t vb mb jb B) (DvJ (t + 1) vb mb jb (bDrop B n).2) := by
  rintro w F ⟨v, C, h1, h2, h3, h5⟩
  have hm := drop_m jb vb mb v (jOf B) n h3.room.jfit h3.gs (Nat.le_refl _) (by rw [h1.pend]; omega)
  by_cases hno : (B.first : Int) + B.groups.length - 1 < n ∨ n < B.first
  · have e1 : bDrop B n = ((bDrop B n).1, B) ∧ jDrop v (jOf B) n = ⟨(bDrop B n).1, v, jOf B⟩ := by
      have ej : jDrop v (jOf B) n = if (B.first : Int) + B.groups.length - 1 < n then ⟨2, v, jOf B⟩ else if n < B.first then ⟨0, v, jOf B⟩ else jDrop v (jOf B) n := by
        by_cases hx : (B.first : Int) + B.groups.length - 1 < n
        · rw [if_pos hx]
          unfold jDrop
          rw [if_neg (by simp [jOf])]
          exact if_pos hx
        · have hy := hno.resolve_left hx
          rw [if_neg hx, if_pos hy]
          unfold jDrop
          rw [if_neg (by simp [jOf])]
          exact (if_neg hx).trans (if_pos hy)
      rw [ej]
      unfold bDrop
      by_cases hx : (B.first : Int) + B.groups.length - 1 < n
      · simp only [if_pos hx]; exact ⟨trivial, trivial⟩
      · have hy := hno.resolve_left hx
        simp only [if_neg hx, if_pos hy]; exact ⟨trivial, trivial⟩
    rw [e1.2] at hm
    have e2 : (bDrop B n).2 = B := by rw [e1.1]
    refine (hm w F h5).mono fun e w' hk => ⟨hk.1, hk.2.imp fun w F h => ⟨v, C, ?_, ?_, h3.drop n ht, ?_⟩⟩
    · rw [e2]; exact h1
    · rw [e2]; exact h2
    · rw [e2]; exact h
  · have hc : n = (B.first : Int) + (n - B.first + 1).toNat - 1 := by omega
    have e1 : bDrop B n = (0, bDropN B (n - B.first + 1).toNat) := by
      unfold bDrop
      rw [if_neg (fun h => hno (.inl h)), if_neg (fun h => hno (.inr h))]
    obtain ⟨v', C', e, g', d'⟩ := drop_rel h1 h2 h3.room (by omega) (n - B.first + 1).toNat (by omega) (by omega)
    rw [← hc] at e
    rw [e] at hm
    refine (hm w F h5).mono fun e w' hk => ⟨?_, hk.2.imp fun w F h => ⟨v', C', ?_, ?_, h3.drop n ht, ?_⟩⟩
    · rw [e1]; exact hk.1
    · rw [e1]; exact g'
    · rw [e1]; exact d'
    · rw [e1]; exact h
theorem discard_d : Met Try.prog 15 #[.pointer (some ⟨jb, 0, none⟩)] (.int .i64 0) (DvJ t vb mb jb B) (DvJ t vb mb jb { B with pend := [] }) := by
  rintro w F ⟨v, C, h1, h2, h3, h5⟩
  have hm := discard_m jb vb (jOf B)
  exact ((hm.R (volH_stab vb mb v)) w F h5).mono fun e w' hk => ⟨hk.1, hk.2.imp fun w F h => ⟨v, C, h1, h2.pend [], h3.noPend, h⟩⟩
/-- Opening again: another journal on the device. -/
theorem open_d (w : World) (F : List Nat) (h : DvJ t vb mb jb B w F) :
    Calls Try.prog 26 #[.pointer (some ⟨vb, 0, none⟩)] w fun e w' => ∃ jb', e = .returned (.tuple #[.pointer (some ⟨jb', 0, none⟩), .int .i64 0]) ∧ To (DvJ t vb mb jb' { B with pend := [] }) F w w' := by
  obtain ⟨v, C, h1, h2, h3, F1, F2, k1, k2, d, rfl⟩ := h
  have ho := open_c w F1 vb mb v B.ring _ _ k1 (rel_open h1 h2 h3.room (by omega))
  rw [gsOf_two] at ho
  refine ho.mono ?_
  rintro e w' ⟨jb', rfl, F3, hJ, hk, hs⟩
  refine ⟨jb', rfl, F1 ++ F3, ⟨v, C, h1, h2.pend [], h3.noPend, F1, F3, (volH_stab _ _ _).keep k1 hk (by simp), hJ, fun x hx hm => ?_, rfl⟩, hk.mono (by simp), fun x hx => ?_⟩
  · have := (volH_stab vb mb v).lt k1 x hx
    have := hs x hm
    simp at this; omega
  · rcases List.mem_append.1 hx with h | h
    · exact .inl (List.mem_append_left _ h)
    · have := hs x h
      simp at this; exact .inr this
theorem image_d {bk : Nat} (w : World) (F P : List Nat) (h : DvJ t vb mb jb B w F) (hb : BH bk B w P) :
    Calls Try.prog 28 #[.pointer (some ⟨bk, 0, none⟩), .pointer (some ⟨vb, 0, none⟩)] w fun e w' => e = .returned (.bool true) ∧ Keep [] w w' := by
  obtain ⟨v, C, h1, h2, h3, F1, F2, k1, k2, d, rfl⟩ := h
  exact image_t w F1 bk vb mb B v k1 P hb h3.room.fit (rel_image h1 h2 h3.room (by omega))
theorem agrees_d {bk : Nat} (w : World) (F P : List Nat) (h : DvJ t vb mb jb B w F) (hb : BH bk B w P) :
    Calls Try.prog 24 #[.pointer (some ⟨bk, 0, none⟩), .pointer (some ⟨jb, 0, none⟩)] w fun e w' => e = .returned (.bool true) ∧ Keep [] w w' := by
  obtain ⟨v, C, h1, h2, h3, F1, F2, k1, k2, d, rfl⟩ := h
  exact agrees_t w vb mb jb bk v _ _ F1 F2 P k1 k2 hb (same_self B) h3.fit (by rw [h1.secs]; rfl) h3.r9
end
/-- What perform leans on of a book. -/
structure BookI (bk : Nat) (A : Nat → Bk → HP) : Prop where
  stab : ∀ t B, Stab (A t B)
  ok : ∀ t B w F, A t B w F → BOk B t
  up : ∀ t t' B w F, A t B w F → t ≤ t' → t' ≤ 900 → A t' B w F
  app : ∀ t B s, s.size ≤ 20000 → Met Try.prog 18 #[.pointer (some ⟨bk, 0, none⟩), .string s] (.int .i64 (bApp B s).1) (A t B) (A t (bApp B s).2)
  com : ∀ t B, t + 1 ≤ 900 → Met Try.prog 23 #[.pointer (some ⟨bk, 0, none⟩)] (.tuple #[.int .i64 (bCommit B).1.1, .int .i64 (bCommit B).1.2]) (A t B) (A (t + 1) (bCommit B).2)
  drop : ∀ t B n, t + 1 ≤ 900 → Met Try.prog 59 #[.pointer (some ⟨bk, 0, none⟩), .int .i64 n] (.int .i64 (bDrop B n).1) (A t B) (A (t + 1) (bDrop B n).2)
  box : ∀ t B w F, A t B w F → ∃ gv pv, w.heap[bk]? = some (.cells (bcells B.ring B.gen B.first B.place gv pv) 43 (0, 0)) ∧
    ∀ w', Keep [bk] w w' → w'.heap[bk]? = some (.cells (bcells B.ring B.gen B.first B.place gv (.slice none 0 0)) 43 (0, 0)) → To (A t { B with pend := [] }) F w w'
theorem BH.noPend {bk : Nat} {B : Bk} {w : World} {F : List Nat} (h : BH bk B w F) : ∃ gv pv, w.heap[bk]? = some (.cells (bcells B.ring B.gen B.first B.place gv pv) 43 (0, 0)) ∧
    ∀ w', Keep [bk] w w' → w'.heap[bk]? = some (.cells (bcells B.ring B.gen B.first B.place gv (.slice none 0 0)) 43 (0, 0)) → ToB bk (BH bk { B with pend := [] }) F w w' := by
  obtain ⟨gv, pv, G, hG, hB⟩ := h
  refine ⟨gv, pv, hB.box, fun w' hk hb => (hB.put (Keep.refl _ _) (l' := []) (pv' := .slice none 0 0) ⟨⟨hB.rows.1, hB.cap⟩, hB.rows.2.1, .inl ⟨rfl, rfl⟩, rfl⟩ (fun x hx => .inl ?_) hk hb).imp fun w F h => ⟨gv, _, G, hG, h⟩⟩
  rcases List.mem_append.1 hx with h | h
  · exact List.mem_append_left _ h
  · rcases List.mem_append.1 h with h | h
    · exact List.mem_append_right _ (List.mem_append_left _ h)
    · exact absurd h (by simp [rowF])
theorem bkO_book (bk : Nat) : BookI bk (BkO bk) where
  stab := fun t B => bkO_stab bk t B
  ok := fun t B w F h => h.1
  up := fun t t' B w F h ht h9 => h.up ht h9
  app := by
    rintro t B s hs w F ⟨h1, h2⟩
    exact (bappend_m bk B s (by omega) h1.l w F h2).mono fun e w' hk => ⟨hk.1, hk.2.imp fun w F h => ⟨h1.app s, h⟩⟩
  com := by
    rintro t B ht w F ⟨h1, h2⟩
    exact (bcommit_m bk B h1.fit w F h2).mono fun e w' hk => ⟨hk.1, hk.2.imp fun w F h => ⟨h1.commit ht, h⟩⟩
  drop := by
    rintro t B n ht w F ⟨h1, h2⟩
    exact (bdrop_m bk B n h1.fit w F h2).mono fun e w' hk => ⟨hk.1, hk.2.imp fun w F h => ⟨h1.drop n ht, h⟩⟩
  box := by
    rintro t B w F ⟨h1, h2⟩
    obtain ⟨gv, pv, h3, h4⟩ := h2.noPend
    exact ⟨gv, pv, h3, fun w' hk hb => ((h4 w' hk hb).to (bh_mem w F h2)).imp fun w F h => ⟨h1.noPend, h⟩⟩
/-- A book beside another one, whose rows it may share. -/
def B2 (ck bk tb : Nat) (Bb : Bk) (t : Nat) (B : Bk) : HP := fun w F => BOk B t ∧ BOk Bb tb ∧ bk ≠ ck ∧ ∃ Fc Fb, BH ck B w Fc ∧ BH bk Bb w Fb ∧ ck ∉ Fb ∧ bk ∉ Fc ∧ F = Fc ++ Fb
theorem b2_stab (ck bk tb : Nat) (Bb : Bk) (t : Nat) (B : Bk) : Stab (B2 ck bk tb Bb t B) where
  keep := by
    rintro w w' F G ⟨h1, h2, h3, Fc, Fb, h4, h5, h6, h7, rfl⟩ hk hd
    exact ⟨h1, h2, h3, Fc, Fb, (bh_stab _ _).keep h4 hk (fun x hx => hd x (List.mem_append_left _ hx)), (bh_stab _ _).keep h5 hk (fun x hx => hd x (List.mem_append_right _ hx)), h6, h7, rfl⟩
  lt := by
    rintro w F ⟨h1, h2, h3, Fc, Fb, h4, h5, h6, h7, rfl⟩ x hx
    rcases List.mem_append.1 hx with h | h
    · exact (bh_stab _ _).lt h4 x h
    · exact (bh_stab _ _).lt h5 x h
theorem B2.step {ck bk tb : Nat} {Bb : Bk} {t' : Nat} {B' : Bk} {w w' : World} {Fc Fb : List Nat} (h1 : BOk B' t') (h2 : BOk Bb tb) (h3 : bk ≠ ck) (h5 : BH bk Bb w Fb) (h6 : ck ∉ Fb) (h7 : bk ∉ Fc)
    (ht : ToB ck (BH ck B') Fc w w') (hm : ck ∈ Fc) : To (B2 ck bk tb Bb t' B') (Fc ++ Fb) w w' := by
  obtain ⟨F', k1, k2, k3⟩ := ht
  have hlt := (bh_stab bk Bb).lt h5
  refine ⟨F' ++ Fb, ⟨h1, h2, h3, F', Fb, k1, (bh_stab _ _).keep h5 k2 (fun x hx hm => h6 (by simp at hm; rw [← hm]; exact hx)), h6, fun hm => ?_, rfl⟩, k2.mono (fun x hx => ?_), fun x hx => ?_⟩
  · rcases k3 _ hm with h | h
    · exact h7 h
    · have := hlt bk (bh_mem _ _ h5); omega
  · simp at hx; subst hx; exact List.mem_append_left _ hm
  · rcases List.mem_append.1 hx with h | h
    · rcases k3 x h with h | h
      · exact .inl (List.mem_append_left _ h)
      · exact .inr h
    · exact .inl (List.mem_append_right _ h)
theorem b2_book (ck bk tb : Nat) (Bb : Bk) : BookI ck (B2 ck bk tb Bb) where
  stab := fun t B => b2_stab ck bk tb Bb t B
  ok := fun t B w F h => h.1
  up := by
    rintro t t' B w F ⟨h1, h⟩ ht h9
    exact ⟨h1.up ht h9, h⟩
  app := by
    rintro t B s hs w F ⟨h1, h2, h3, Fc, Fb, h4, h5, h6, h7, rfl⟩
    exact (bappend_b ck B s (by omega) h1.l w Fc h4).mono fun e w' hk => ⟨hk.1, B2.step (h1.app s) h2 h3 h5 h6 h7 hk.2 (bh_mem _ _ h4)⟩
  com := by
    rintro t B ht w F ⟨h1, h2, h3, Fc, Fb, h4, h5, h6, h7, rfl⟩
    exact (bcommit_b ck B h1.fit w Fc h4).mono fun e w' hk => ⟨hk.1, B2.step (h1.commit ht) h2 h3 h5 h6 h7 hk.2 (bh_mem _ _ h4)⟩
  drop := by
    rintro t B n ht w F ⟨h1, h2, h3, Fc, Fb, h4, h5, h6, h7, rfl⟩
    exact (bdrop_b ck B n h1.fit w Fc h4).mono fun e w' hk => ⟨hk.1, B2.step (h1.drop n ht) h2 h3 h5 h6 h7 hk.2 (bh_mem _ _ h4)⟩
  box := by
    rintro t B w F ⟨h1, h2, h3, Fc, Fb, h4, h5, h6, h7, rfl⟩
    obtain ⟨gv, pv, k3, k4⟩ := h4.noPend
    exact ⟨gv, pv, k3, fun w' hk hb => B2.step h1.noPend h2 h3 h5 h6 h7 (k4 w' hk hb) (bh_mem _ _ h4)⟩
end Go.Proofs.Ytgmggmpkbfljfaa

/- perform: an operation on a journal and on its model. -/
set_option linter.unusedVariables false
set_option linter.unusedSimpArgs false
set_option maxRecDepth 100000
namespace Go.Proofs.Ytgmggmpkbfljfaa
open Go.RowKit
theorem To.callF {P : Program} {f : Nat} {args : Array Value} {r : Value} {S S' : HP} {F : List Nat} {w wk : World} (h : To S F w wk) (hm : Met P f args r S S') : Calls P f args wk fun e w' => e = .returned r ∧ To S' F w w' := by
  obtain ⟨F', h1, h2, h3⟩ := h
  exact (hm wk F' h1).mono fun e w' hk => ⟨hk.1, hk.2.before h2 h3⟩
theorem To.keptF {A : HP} (hA : Stab A) {F : List Nat} {w wk w' : World} (h : To A F w wk) (hk : Keep [] wk w') : To A F w w' := by
  obtain ⟨F', h1, h2, h3⟩ := h
  exact ⟨F', hA.keep h1 hk (by simp), h2.trans (hk.mono (G := F) (by simp)) (fun x hx => .inl hx), h3⟩
theorem To.boxAt {S : HP} {F : List Nat} {w wk : World} {bx : Nat} {cs : Array Value} {T : TypeId} (h : To (Sep S (BoxH bx cs T)) F w wk) : wk.heap[bx]? = some (.cells cs T (0, 0)) := by
  obtain ⟨F', ⟨F1, F2, _, ⟨_, h2⟩, _⟩, _⟩ := h; exact h2
theorem To.fst {A B : HP} {F : List Nat} {w wk : World} (h : To (Sep A B) F w wk) : To A F w wk := by
  obtain ⟨F', ⟨F1, F2, h1, h2, d, rfl⟩, h3, h4⟩ := h
  exact ⟨F1, h1, h3, fun x hx => h4 x (List.mem_append_left _ hx)⟩
theorem To.addBox {A : HP} (hA : Stab A) {w : World} {F : List Nat} (h : A w F) (cs : Array Value) (T : TypeId) : To (Sep A (BoxH w.heap.size cs T)) F w (w.alloc (.cells cs T)) :=
  ⟨F ++ [w.heap.size], ⟨F, [w.heap.size], hA.keep h (Keep.alloc [] w _) (fun x _ h => by simp at h), ⟨rfl, World.alloc_heap_new w _⟩, fun x hx hm => by have := hA.lt h x hx; rw [List.mem_singleton] at hm; omega, rfl⟩, Keep.alloc _ _ _, fun x hx => by
    rcases List.mem_append.1 hx with h | h
    · exact .inl h
    · rw [List.mem_singleton] at h; exact .inr (by omega)⟩
def bOp (x : OpJ) (B : Bk) : Bk :=
  if x.kind % 8 < 3 then (bApp B (recN x.rcd)).2
  else if x.kind % 8 < 5 then (bCommit B).2
  else if x.kind % 8 = 5 then (bDrop B ((B.first : Int) + x.num.tmod 6 - 1)).2
  else { B with pend := [] }
section
variable {t vb mb jb bk : Nat} {B : Bk} {A : Nat → Bk → HP}
def PS (A : Nat → Bk → HP) (vb mb t jb : Nat) (B : Bk) : HP := Sep (DvJ t vb mb jb B) (A t B)
theorem ps_stab (I : BookI bk A) : Stab (PS A vb mb t jb B) := (dvj_stab _ _ _ _ _).sep (I.stab _ _)
theorem To.noPend (I : BookI bk A) {R : HP} (hR : Stab R) {B' : Bk} {F : List Nat} {w wk : World} (h : To (Sep (Sep (DvJ t vb mb jb B) (A t B')) R) F w wk) :
    ∃ gv pv, wk.heap[bk]? = some (.cells (bcells B'.ring B'.gen B'.first B'.place gv pv) 43 (0, 0)) ∧
      ∀ w', Keep [bk] wk w' → w'.heap[bk]? = some (.cells (bcells B'.ring B'.gen B'.first B'.place gv (.slice none 0 0)) 43 (0, 0)) → To (Sep (Sep (DvJ t vb mb jb B) (A t { B' with pend := [] })) R) F w w' := by
  obtain ⟨F', ⟨F12, F3, ⟨F1, F2, h1, h2, d12, rfl⟩, h3, d3, rfl⟩, hk, hs⟩ := h
  obtain ⟨gv, pv, h4, h5⟩ := I.box _ _ _ _ h2
  exact ⟨gv, pv, h4, fun w' hk' hb => (To.sepL hR h3 d3 (To.sepR (dvj_stab _ _ _ _ _) h1 d12 (h5 w' hk' hb))).before hk hs⟩
theorem open_ps (I : BookI bk A) {R : HP} (hR : Stab R) {B' : Bk} {F : List Nat} {w wk : World} (h : To (Sep (Sep (DvJ t vb mb jb B) (A t B')) R) F w wk) :
    Calls Try.prog 26 #[.pointer (some ⟨vb, 0, none⟩)] wk fun e w' => ∃ jb', e = .returned (.tuple #[.pointer (some ⟨jb', 0, none⟩), .int .i64 0]) ∧ To (Sep (Sep (DvJ t vb mb jb' { B with pend := [] }) (A t B')) R) F w w' := by
  obtain ⟨F', ⟨F12, F3, ⟨F1, F2, h1, h2, d12, rfl⟩, h3, d3, rfl⟩, hk, hs⟩ := h
  refine (open_d wk F1 h1).mono ?_
  rintro e w' ⟨jb', rfl, ht⟩
  exact ⟨jb', rfl, (To.sepL hR h3 d3 (To.sepL (I.stab t B') h2 d12 ht)).before hk hs⟩
set_option maxHeartbeats 4000000 in
theorem perf_app0 (I : BookI bk A) (ht : t + 1 ≤ 900) (x : OpJ) (hx : x.ok) (hk : x.kind % 8 = 0) (w : World) (F : List Nat) (h : PS A vb mb t jb B w F) : Calls Try.prog 33 #[.pointer (some ⟨vb, 0, none⟩), .pointer (some ⟨jb, 0, none⟩), .pointer (some ⟨bk, 0, none⟩), .agg #[.int .u8 x.kind, .int .i8 x.num, .int .u16 x.rcd]] w fun e w' => ∃ jb', e = .returned (.tuple #[.pointer (some ⟨jb', 0, none⟩), .bool true]) ∧ (x.kind % 8 ≠ 7 → jb' = jb) ∧ To (PS A vb mb (t + 1) jb' (bOp x B)) F w w' := by
  have HX := Lib.hid (To.addBox (ps_stab I) h #[.int .u8 x.kind, .int .i8 x.num, .int .u16 x.rcd] 64)
  have hcx := cell_of HX.out.boxAt
  clear h
  have hR := Lib.hid (fun w => record_c x.rcd hx.rcd w)
  have hsz := recN_size x.rcd
  have hb : bOp x B = (bApp B (recN x.rcd)).2 := if_pos (by omega)
  rw [hb]
  clear hb
  generalize recN x.rcd = s at *
  have HM1 := Lib.hid (((append_d (t := t) (vb := vb) (mb := mb) (jb := jb) (B := B) s (by omega)).L (I.stab t B)).L (boxH_stab w.heap.size #[.int .u8 x.kind, .int .i8 x.num, .int .u16 x.rcd] 64))
  have HM2 := Lib.hid (((I.app t B s (by omega)).R (dvj_stab t vb mb jb (bApp B s).2)).L (boxH_stab w.heap.size #[.int .u8 x.kind, .int .i8 x.num, .int .u16 x.rcd] 64))
  have HE : Hid (∀ wk, To (Sep (PS A vb mb t jb (bApp B s).2) (BoxH w.heap.size #[.int .u8 x.kind, .int .i8 x.num, .int .u16 x.rcd] 64)) F w wk → To (PS A vb mb (t + 1) jb (bApp B s).2) F w wk) := fun wk h => h.fst.imp fun w F ⟨F1, F2, h1, h2, h3⟩ => ⟨F1, F2, h1.up (by omega) ht, I.up _ _ _ _ _ h2 (by omega) ht, h3⟩
  have hstab : Hid (∀ B1 B2, Stab (Sep (Sep (DvJ t vb mb jb B1) (A t B2)) (BoxH w.heap.size #[.int .u8 x.kind, .int .i8 x.num, .int .u16 x.rcd] 64))) := fun B1 B2 => ((dvj_stab _ _ _ _ _).sep (I.stab _ _)).sep (boxH_stab _ _ _)
  generalize (bApp B s).1 = rc at *
  generalize (bApp B s).2 = B1 at *
  obtain ⟨kd, nm, rd⟩ := x
  dsimp only at hk hx hcx HM1 HM2 HE hstab HX hR ⊢
  obtain ⟨hx1, hx2, hx3⟩ := hx
  dsimp only at hx1 hx2 hx3
  have HX1 : Hid (∀ wk, Keep [] (w.alloc (.cells #[.int .u8 kd, .int .i8 nm, .int .u16 rd] 64)) wk → To (Sep (PS A vb mb t jb B) (BoxH w.heap.size #[.int .u8 kd, .int .i8 nm, .int .u16 rd] 64)) F w wk) := fun wk hk => HX.out.keptF (hstab.out _ _) hk
  clear HX
  have hk' : kd % 8 = 0 := hk
  have t0 : ((kd : Int) % 8 == 0) = true := by rw [beq_iff_eq]; omega
  go_enter Try.func33, Try.ntmps33
  go_wp2_with fail
  refine wp_region_heldT (S := fun W => W.cell? ⟨w.heap.size, 2, none⟩ = some (.int .u16 rd)) 13 (by kernel_rfl) (by kernel_rfl) (fun _ _ d _ _ h => by cases d <;> exact h) ?_
  have hS0 : (w.alloc (.cells #[.int .u8 kd, .int .i8 nm, .int .u16 rd] 64)).drew.cell? ⟨w.heap.size, 2, none⟩ = some (.int .u16 rd) := hcx 2
  have hk0 : Keep [] (w.alloc (.cells #[.int .u8 kd, .int .i8 nm, .int .u16 rd] 64)) (w.alloc (.cells #[.int .u8 kd, .int .i8 nm, .int .u16 rd] 64)).drew := Keep.drew _ _
  have HX2 := Lib.hid (HX1.out _ hk0)
  generalize (w.alloc (.cells #[.int .u8 kd, .int .i8 nm, .int .u16 rd] 64)).drew = w1 at *
  clear hcx hk0 HX1
  refine' heldT_val (v := _) 0 (by rfl) (by decide) (by kernel_rfl) (by kernel_rfl) (by rfl) hS0 (fun w hw => ?hrun0) (fun K hK => ?hnext0)
  case hrun0 => (go_simp; try rfl)
  rotate_left 0
  go_simp
  refine hK _ ?_
  clear hK K
  refine' heldT_val (v := _) 1 (by rfl) (by decide) (by kernel_rfl) (by kernel_rfl) (by rfl) hS0 (fun w hw => ?hrun1) (fun K hK => ?hnext1)
  case hrun1 => (go_simp; try rfl)
  rotate_left 0
  go_simp
  refine hK _ ?_
  clear hK K
  refine' heldT_val (v := _) 2 (by rfl) (by decide) (by kernel_rfl) (by kernel_rfl) (by rfl) hS0 (fun w hw => ?hrun2) (fun K hK => ?hnext2)
  case hrun2 => (go_simp; try rfl)
  rotate_left 0
  go_simp
  refine hK _ ?_
  clear hK K
  refine' heldT_val (v := _) 3 (by rfl) (by decide) (by kernel_rfl) (by kernel_rfl) (by rfl) hS0 (fun w hw => ?hrun3) (fun K hK => ?hnext3)
  case hrun3 => (go_simp; try rfl)
  rotate_left 0
  go_simp
  refine hK _ ?_
  clear hK K
  refine' heldT_val (v := _) 6 (by rfl) (by decide) (by kernel_rfl) (by kernel_rfl) (by rfl) hS0 (fun w hw => ?hrun6) (fun K hK => ?hnext6)
  case hrun6 => (go_simp; try rfl)
  rotate_left 0
  go_simp
  refine hK _ ?_
  clear hK K
  refine' heldT_val (v := _) 7 (by rfl) (by decide) (by kernel_rfl) (by kernel_rfl) (by rfl) hS0 (fun w hw => ?hrun7) (fun K hK => ?hnext7)
  case hrun7 => (go_simp; try rfl)
  rotate_left 0
  go_simp
  refine hK _ ?_
  clear hK K
  refine' heldT_val (v := _) 8 (by rfl) (by decide) (by kernel_rfl) (by kernel_rfl) (by rfl) hS0 (fun w hw => ?hrun8) (fun K hK => ?hnext8)
  case hrun8 => (go_simp; try rfl)
  rotate_left 0
  go_simp
  refine hK _ ?_
  clear hK K
  refine heldT_one 4 (by kernel_rfl) (by decide) (by rfl) (by rfl) (fun K hK => ?_)
  refine wp_enter 17 #[.int .u16 rd] (by go_simp) ?_
  refine (hR.out w1).mono ?_
  rintro e w2 ⟨rfl, hb2⟩
  have HX3 := Lib.hid (HX2.out.keptF (hstab.out _ _) (Keep.of_below hb2))
  have hS0 : w2.cell? ⟨w.heap.size, 2, none⟩ = some (.int .u16 rd) := cell_of HX3.out.boxAt 2
  refine ⟨_, rfl, ?_⟩
  refine hK _ _ hS0 ?_
  clear hK K hb2 HX2
  refine heldT_one 5 (by kernel_rfl) (by decide) (by rfl) (by rfl) (fun K hK => ?_)
  refine wp_enter 13 #[.pointer (some ⟨jb, 0, none⟩), .string s] (by go_simp) ?_
  refine (HX3.out.callF HM1.out).mono ?_
  rintro e w3 ⟨rfl, ht3⟩
  have HX4 := Lib.hid ht3
  have hS0 : w3.cell? ⟨w.heap.size, 2, none⟩ = some (.int .u16 rd) := cell_of HX4.out.boxAt 2
  refine ⟨_, rfl, ?_⟩
  refine hK _ _ hS0 ?_
  clear hK K ht3 HX3
  refine heldT_one 9 (by kernel_rfl) (by decide) (by rfl) (by rfl) (fun K hK => ?_)
  refine wp_enter 17 #[.int .u16 rd] (by go_simp) ?_
  refine (hR.out w3).mono ?_
  rintro e w4 ⟨rfl, hb4⟩
  have HX5 := Lib.hid (HX4.out.keptF (hstab.out _ _) (Keep.of_below hb4))
  have hS0 : w4.cell? ⟨w.heap.size, 2, none⟩ = some (.int .u16 rd) := cell_of HX5.out.boxAt 2
  refine ⟨_, rfl, ?_⟩
  refine hK _ _ hS0 ?_
  clear hK K hb4 HX4
  refine heldT_one 10 (by kernel_rfl) (by decide) (by rfl) (by rfl) (fun K hK => ?_)
  refine wp_enter 18 #[.pointer (some ⟨bk, 0, none⟩), .string s] (by go_simp) ?_
  refine (HX5.out.callF HM2.out).mono ?_
  rintro e w5 ⟨rfl, ht5⟩
  have HX6 := Lib.hid ht5
  have hS0 : w5.cell? ⟨w.heap.size, 2, none⟩ = some (.int .u16 rd) := cell_of HX6.out.boxAt 2
  refine ⟨_, rfl, ?_⟩
  refine hK _ _ hS0 ?_
  clear hK K ht5 HX5
  refine' heldT_val (v := _) 11 (by rfl) (by decide) (by kernel_rfl) (by kernel_rfl) (by rfl) hS0 (fun w hw => ?hrun11) (fun K hK => ?hnext11)
  case hrun11 => (go_simp; try rfl)
  rotate_left 0
  go_simp
  refine hK _ ?_
  clear hK K
  refine' heldT_val (v := _) 12 (by rfl) (by decide) (by kernel_rfl) (by kernel_rfl) (by rfl) hS0 (fun w hw => ?hrun12) (fun K hK => ?hnext12)
  case hrun12 => (go_simp; try rfl)
  rotate_left 0
  go_simp
  refine hK _ ?_
  clear hK K
  refine ⟨by kernel_rfl, ?_⟩
  simp only [List.drop_succ_cons, List.drop_zero]
  go_wp2_with fail
  go_ret2
  exact ⟨jb, rfl, fun _ => rfl, HE.out _ HX6.out⟩
set_option maxHeartbeats 4000000 in
theorem perf_app1 (I : BookI bk A) (ht : t + 1 ≤ 900) (x : OpJ) (hx : x.ok) (hk : x.kind % 8 = 1) (w : World) (F : List Nat) (h : PS A vb mb t jb B w F) : Calls Try.prog 33 #[.pointer (some ⟨vb, 0, none⟩), .pointer (some ⟨jb, 0, none⟩), .pointer (some ⟨bk, 0, none⟩), .agg #[.int .u8 x.kind, .int .i8 x.num, .int .u16 x.rcd]] w fun e w' => ∃ jb', e = .returned (.tuple #[.pointer (some ⟨jb', 0, none⟩), .bool true]) ∧ (x.kind % 8 ≠ 7 → jb' = jb) ∧ To (PS A vb mb (t + 1) jb' (bOp x B)) F w w' := by
  have HX := Lib.hid (To.addBox (ps_stab I) h #[.int .u8 x.kind, .int .i8 x.num, .int .u16 x.rcd] 64)
  have hcx := cell_of HX.out.boxAt
  clear h
  have hR := Lib.hid (fun w => record_c x.rcd hx.rcd w)
  have hsz := recN_size x.rcd
  have hb : bOp x B = (bApp B (recN x.rcd)).2 := if_pos (by omega)
  rw [hb]
  clear hb
  generalize recN x.rcd = s at *
  have HM1 := Lib.hid (((append_d (t := t) (vb := vb) (mb := mb) (jb := jb) (B := B) s (by omega)).L (I.stab t B)).L (boxH_stab w.heap.size #[.int .u8 x.kind, .int .i8 x.num, .int .u16 x.rcd] 64))
  have HM2 := Lib.hid (((I.app t B s (by omega)).R (dvj_stab t vb mb jb (bApp B s).2)).L (boxH_stab w.heap.size #[.int .u8 x.kind, .int .i8 x.num, .int .u16 x.rcd] 64))
  have HE : Hid (∀ wk, To (Sep (PS A vb mb t jb (bApp B s).2) (BoxH w.heap.size #[.int .u8 x.kind, .int .i8 x.num, .int .u16 x.rcd] 64)) F w wk → To (PS A vb mb (t + 1) jb (bApp B s).2) F w wk) := fun wk h => h.fst.imp fun w F ⟨F1, F2, h1, h2, h3⟩ => ⟨F1, F2, h1.up (by omega) ht, I.up _ _ _ _ _ h2 (by omega) ht, h3⟩
  have hstab : Hid (∀ B1 B2, Stab (Sep (Sep (DvJ t vb mb jb B1) (A t B2)) (BoxH w.heap.size #[.int .u8 x.kind, .int .i8 x.num, .int .u16 x.rcd] 64))) := fun B1 B2 => ((dvj_stab _ _ _ _ _).sep (I.stab _ _)).sep (boxH_stab _ _ _)
  generalize (bApp B s).1 = rc at *
  generalize (bApp B s).2 = B1 at *
  obtain ⟨kd, nm, rd⟩ := x
  dsimp only at hk hx hcx HM1 HM2 HE hstab HX hR ⊢
  obtain ⟨hx1, hx2, hx3⟩ := hx
  dsimp only at hx1 hx2 hx3
  have HX1 : Hid (∀ wk, Keep [] (w.alloc (.cells #[.int .u8 kd, .int .i8 nm, .int .u16 rd] 64)) wk → To (Sep (PS A vb mb t jb B) (BoxH w.heap.size #[.int .u8 kd, .int .i8 nm, .int .u16 rd] 64)) F w wk) := fun wk hk => HX.out.keptF (hstab.out _ _) hk
  clear HX
  have hk' : kd % 8 = 1 := hk
  have t0 : ((kd : Int) % 8 == 0) = false := by rw [beq_eq_false_iff_ne]; omega
  have t1 : ((kd : Int) % 8 == 1) = true := by rw [beq_iff_eq]; omega
  go_enter Try.func33, Try.ntmps33
  go_wp2_with fail
  refine wp_region_heldT (S := fun W => W.cell? ⟨w.heap.size, 2, none⟩ = some (.int .u16 rd)) 13 (by kernel_rfl) (by kernel_rfl) (fun _ _ d _ _ h => by cases d <;> exact h) ?_
  have hS0 : (w.alloc (.cells #[.int .u8 kd, .int .i8 nm, .int .u16 rd] 64)).drew.cell? ⟨w.heap.size, 2, none⟩ = some (.int .u16 rd) := hcx 2
  have hk0 : Keep [] (w.alloc (.cells #[.int .u8 kd, .int .i8 nm, .int .u16 rd] 64)) (w.alloc (.cells #[.int .u8 kd, .int .i8 nm, .int .u16 rd] 64)).drew := Keep.drew _ _
  have HX2 := Lib.hid (HX1.out _ hk0)
  generalize (w.alloc (.cells #[.int .u8 kd, .int .i8 nm, .int .u16 rd] 64)).drew = w1 at *
  clear hcx hk0 HX1
  refine' heldT_val (v := _) 0 (by rfl) (by decide) (by kernel_rfl) (by kernel_rfl) (by rfl) hS0 (fun w hw => ?hrun0) (fun K hK => ?hnext0)
  case hrun0 => (go_simp; try rfl)
  rotate_left 0
  go_simp
  refine hK _ ?_
  clear hK K
  refine' heldT_val (v := _) 1 (by rfl) (by decide) (by kernel_rfl) (by kernel_rfl) (by rfl) hS0 (fun w hw => ?hrun1) (fun K hK => ?hnext1)
  case hrun1 => (go_simp; try rfl)
  rotate_left 0
  go_simp
  refine hK _ ?_
  clear hK K
  refine' heldT_val (v := _) 2 (by rfl) (by decide) (by kernel_rfl) (by kernel_rfl) (by rfl) hS0 (fun w hw => ?hrun2) (fun K hK => ?hnext2)
  case hrun2 => (go_simp; try rfl)
  rotate_left 0
  go_simp
  refine hK _ ?_
  clear hK K
  refine' heldT_val (v := _) 3 (by rfl) (by decide) (by kernel_rfl) (by kernel_rfl) (by rfl) hS0 (fun w hw => ?hrun3) (fun K hK => ?hnext3)
  case hrun3 => (go_simp; try rfl)
  rotate_left 0
  go_simp
  refine hK _ ?_
  clear hK K
  refine' heldT_val (v := _) 6 (by rfl) (by decide) (by kernel_rfl) (by kernel_rfl) (by rfl) hS0 (fun w hw => ?hrun6) (fun K hK => ?hnext6)
  case hrun6 => (go_simp; try rfl)
  rotate_left 0
  go_simp
  refine hK _ ?_
  clear hK K
  refine' heldT_val (v := _) 7 (by rfl) (by decide) (by kernel_rfl) (by kernel_rfl) (by rfl) hS0 (fun w hw => ?hrun7) (fun K hK => ?hnext7)
  case hrun7 => (go_simp; try rfl)
  rotate_left 0
  go_simp
  refine hK _ ?_
  clear hK K
  refine' heldT_val (v := _) 8 (by rfl) (by decide) (by kernel_rfl) (by kernel_rfl) (by rfl) hS0 (fun w hw => ?hrun8) (fun K hK => ?hnext8)
  case hrun8 => (go_simp; try rfl)
  rotate_left 0
  go_simp
  refine hK _ ?_
  clear hK K
  refine heldT_one 4 (by kernel_rfl) (by decide) (by rfl) (by rfl) (fun K hK => ?_)
  refine wp_enter 17 #[.int .u16 rd] (by go_simp) ?_
  refine (hR.out w1).mono ?_
  rintro e w2 ⟨rfl, hb2⟩
  have HX3 := Lib.hid (HX2.out.keptF (hstab.out _ _) (Keep.of_below hb2))
  have hS0 : w2.cell? ⟨w.heap.size, 2, none⟩ = some (.int .u16 rd) := cell_of HX3.out.boxAt 2
  refine ⟨_, rfl, ?_⟩
  refine hK _ _ hS0 ?_
  clear hK K hb2 HX2
  refine heldT_one 5 (by kernel_rfl) (by decide) (by rfl) (by rfl) (fun K hK => ?_)
  refine wp_enter 13 #[.pointer (some ⟨jb, 0, none⟩), .string s] (by go_simp) ?_
  refine (HX3.out.callF HM1.out).mono ?_
  rintro e w3 ⟨rfl, ht3⟩
  have HX4 := Lib.hid ht3
  have hS0 : w3.cell? ⟨w.heap.size, 2, none⟩ = some (.int .u16 rd) := cell_of HX4.out.boxAt 2
  refine ⟨_, rfl, ?_⟩
  refine hK _ _ hS0 ?_
  clear hK K ht3 HX3
  refine heldT_one 9 (by kernel_rfl) (by decide) (by rfl) (by rfl) (fun K hK => ?_)
  refine wp_enter 17 #[.int .u16 rd] (by go_simp) ?_
  refine (hR.out w3).mono ?_
  rintro e w4 ⟨rfl, hb4⟩
  have HX5 := Lib.hid (HX4.out.keptF (hstab.out _ _) (Keep.of_below hb4))
  have hS0 : w4.cell? ⟨w.heap.size, 2, none⟩ = some (.int .u16 rd) := cell_of HX5.out.boxAt 2
  refine ⟨_, rfl, ?_⟩
  refine hK _ _ hS0 ?_
  clear hK K hb4 HX4
  refine heldT_one 10 (by kernel_rfl) (by decide) (by rfl) (by rfl) (fun K hK => ?_)
  refine wp_enter 18 #[.pointer (some ⟨bk, 0, none⟩), .string s] (by go_simp) ?_
  refine (HX5.out.callF HM2.out).mono ?_
  rintro e w5 ⟨rfl, ht5⟩
  have HX6 := Lib.hid ht5
  have hS0 : w5.cell? ⟨w.heap.size, 2, none⟩ = some (.int .u16 rd) := cell_of HX6.out.boxAt 2
  refine ⟨_, rfl, ?_⟩
  refine hK _ _ hS0 ?_
  clear hK K ht5 HX5
  refine' heldT_val (v := _) 11 (by rfl) (by decide) (by kernel_rfl) (by kernel_rfl) (by rfl) hS0 (fun w hw => ?hrun11) (fun K hK => ?hnext11)
  case hrun11 => (go_simp; try rfl)
  rotate_left 0
  go_simp
  refine hK _ ?_
  clear hK K
  refine' heldT_val (v := _) 12 (by rfl) (by decide) (by kernel_rfl) (by kernel_rfl) (by rfl) hS0 (fun w hw => ?hrun12) (fun K hK => ?hnext12)
  case hrun12 => (go_simp; try rfl)
  rotate_left 0
  go_simp
  refine hK _ ?_
  clear hK K
  refine ⟨by kernel_rfl, ?_⟩
  simp only [List.drop_succ_cons, List.drop_zero]
  go_wp2_with fail
  go_ret2
  exact ⟨jb, rfl, fun _ => rfl, HE.out _ HX6.out⟩
set_option maxHeartbeats 4000000 in
theorem perf_app2 (I : BookI bk A) (ht : t + 1 ≤ 900) (x : OpJ) (hx : x.ok) (hk : x.kind % 8 = 2) (w : World) (F : List Nat) (h : PS A vb mb t jb B w F) : Calls Try.prog 33 #[.pointer (some ⟨vb, 0, none⟩), .pointer (some ⟨jb, 0, none⟩), .pointer (some ⟨bk, 0, none⟩), .agg #[.int .u8 x.kind, .int .i8 x.num, .int .u16 x.rcd]] w fun e w' => ∃ jb', e = .returned (.tuple #[.pointer (some ⟨jb', 0, none⟩), .bool true]) ∧ (x.kind % 8 ≠ 7 → jb' = jb) ∧ To (PS A vb mb (t + 1) jb' (bOp x B)) F w w' := by
  have HX := Lib.hid (To.addBox (ps_stab I) h #[.int .u8 x.kind, .int .i8 x.num, .int .u16 x.rcd] 64)
  have hcx := cell_of HX.out.boxAt
  clear h
  have hR := Lib.hid (fun w => record_c x.rcd hx.rcd w)
  have hsz := recN_size x.rcd
  have hb : bOp x B = (bApp B (recN x.rcd)).2 := if_pos (by omega)
  rw [hb]
  clear hb
  generalize recN x.rcd = s at *
  have HM1 := Lib.hid (((append_d (t := t) (vb := vb) (mb := mb) (jb := jb) (B := B) s (by omega)).L (I.stab t B)).L (boxH_stab w.heap.size #[.int .u8 x.kind, .int .i8 x.num, .int .u16 x.rcd] 64))
  have HM2 := Lib.hid (((I.app t B s (by omega)).R (dvj_stab t vb mb jb (bApp B s).2)).L (boxH_stab w.heap.size #[.int .u8 x.kind, .int .i8 x.num, .int .u16 x.rcd] 64))
  have HE : Hid (∀ wk, To (Sep (PS A vb mb t jb (bApp B s).2) (BoxH w.heap.size #[.int .u8 x.kind, .int .i8 x.num, .int .u16 x.rcd] 64)) F w wk → To (PS A vb mb (t + 1) jb (bApp B s).2) F w wk) := fun wk h => h.fst.imp fun w F ⟨F1, F2, h1, h2, h3⟩ => ⟨F1, F2, h1.up (by omega) ht, I.up _ _ _ _ _ h2 (by omega) ht, h3⟩
  have hstab : Hid (∀ B1 B2, Stab (Sep (Sep (DvJ t vb mb jb B1) (A t B2)) (BoxH w.heap.size #[.int .u8 x.kind, .int .i8 x.num, .int .u16 x.rcd] 64))) := fun B1 B2 => ((dvj_stab _ _ _ _ _).sep (I.stab _ _)).sep (boxH_stab _ _ _)
  generalize (bApp B s).1 = rc at *
  generalize (bApp B s).2 = B1 at *
  obtain ⟨kd, nm, rd⟩ := x
  dsimp only at hk hx hcx HM1 HM2 HE hstab HX hR ⊢
  obtain ⟨hx1, hx2, hx3⟩ := hx
  dsimp only at hx1 hx2 hx3
  have HX1 : Hid (∀ wk, Keep [] (w.alloc (.cells #[.int .u8 kd, .int .i8 nm, .int .u16 rd] 64)) wk → To (Sep (PS A vb mb t jb B) (BoxH w.heap.size #[.int .u8 kd, .int .i8 nm, .int .u16 rd] 64)) F w wk) := fun wk hk => HX.out.keptF (hstab.out _ _) hk
  clear HX
  have hk' : kd % 8 = 2 := hk
  have t0 : ((kd : Int) % 8 == 0) = false := by rw [beq_eq_false_iff_ne]; omega
  have t1 : ((kd : Int) % 8 == 1) = false := by rw [beq_eq_false_iff_ne]; omega
  have t2 : ((kd : Int) % 8 == 2) = true := by rw [beq_iff_eq]; omega
  go_enter Try.func33, Try.ntmps33
  go_wp2_with fail
  refine wp_region_heldT (S := fun W => W.cell? ⟨w.heap.size, 2, none⟩ = some (.int .u16 rd)) 13 (by kernel_rfl) (by kernel_rfl) (fun _ _ d _ _ h => by cases d <;> exact h) ?_
  have hS0 : (w.alloc (.cells #[.int .u8 kd, .int .i8 nm, .int .u16 rd] 64)).drew.cell? ⟨w.heap.size, 2, none⟩ = some (.int .u16 rd) := hcx 2
  have hk0 : Keep [] (w.alloc (.cells #[.int .u8 kd, .int .i8 nm, .int .u16 rd] 64)) (w.alloc (.cells #[.int .u8 kd, .int .i8 nm, .int .u16 rd] 64)).drew := Keep.drew _ _
  have HX2 := Lib.hid (HX1.out _ hk0)
  generalize (w.alloc (.cells #[.int .u8 kd, .int .i8 nm, .int .u16 rd] 64)).drew = w1 at *
  clear hcx hk0 HX1
  refine' heldT_val (v := _) 0 (by rfl) (by decide) (by kernel_rfl) (by kernel_rfl) (by rfl) hS0 (fun w hw => ?hrun0) (fun K hK => ?hnext0)
  case hrun0 => (go_simp; try rfl)
  rotate_left 0
  go_simp
  refine hK _ ?_
  clear hK K
  refine' heldT_val (v := _) 1 (by rfl) (by decide) (by kernel_rfl) (by kernel_rfl) (by rfl) hS0 (fun w hw => ?hrun1) (fun K hK => ?hnext1)
  case hrun1 => (go_simp; try rfl)
  rotate_left 0
  go_simp
  refine hK _ ?_
  clear hK K
  refine' heldT_val (v := _) 2 (by rfl) (by decide) (by kernel_rfl) (by kernel_rfl) (by rfl) hS0 (fun w hw => ?hrun2) (fun K hK => ?hnext2)
  case hrun2 => (go_simp; try rfl)
  rotate_left 0
  go_simp
  refine hK _ ?_
  clear hK K
  refine' heldT_val (v := _) 3 (by rfl) (by decide) (by kernel_rfl) (by kernel_rfl) (by rfl) hS0 (fun w hw => ?hrun3) (fun K hK => ?hnext3)
  case hrun3 => (go_simp; try rfl)
  rotate_left 0
  go_simp
  refine hK _ ?_
  clear hK K
  refine' heldT_val (v := _) 6 (by rfl) (by decide) (by kernel_rfl) (by kernel_rfl) (by rfl) hS0 (fun w hw => ?hrun6) (fun K hK => ?hnext6)
  case hrun6 => (go_simp; try rfl)
  rotate_left 0
  go_simp
  refine hK _ ?_
  clear hK K
  refine' heldT_val (v := _) 7 (by rfl) (by decide) (by kernel_rfl) (by kernel_rfl) (by rfl) hS0 (fun w hw => ?hrun7) (fun K hK => ?hnext7)
  case hrun7 => (go_simp; try rfl)
  rotate_left 0
  go_simp
  refine hK _ ?_
  clear hK K
  refine' heldT_val (v := _) 8 (by rfl) (by decide) (by kernel_rfl) (by kernel_rfl) (by rfl) hS0 (fun w hw => ?hrun8) (fun K hK => ?hnext8)
  case hrun8 => (go_simp; try rfl)
  rotate_left 0
  go_simp
  refine hK _ ?_
  clear hK K
  refine heldT_one 4 (by kernel_rfl) (by decide) (by rfl) (by rfl) (fun K hK => ?_)
  refine wp_enter 17 #[.int .u16 rd] (by go_simp) ?_
  refine (hR.out w1).mono ?_
  rintro e w2 ⟨rfl, hb2⟩
  have HX3 := Lib.hid (HX2.out.keptF (hstab.out _ _) (Keep.of_below hb2))
  have hS0 : w2.cell? ⟨w.heap.size, 2, none⟩ = some (.int .u16 rd) := cell_of HX3.out.boxAt 2
  refine ⟨_, rfl, ?_⟩
  refine hK _ _ hS0 ?_
  clear hK K hb2 HX2
  refine heldT_one 5 (by kernel_rfl) (by decide) (by rfl) (by rfl) (fun K hK => ?_)
  refine wp_enter 13 #[.pointer (some ⟨jb, 0, none⟩), .string s] (by go_simp) ?_
  refine (HX3.out.callF HM1.out).mono ?_
  rintro e w3 ⟨rfl, ht3⟩
  have HX4 := Lib.hid ht3
  have hS0 : w3.cell? ⟨w.heap.size, 2, none⟩ = some (.int .u16 rd) := cell_of HX4.out.boxAt 2
  refine ⟨_, rfl, ?_⟩
  refine hK _ _ hS0 ?_
  clear hK K ht3 HX3
  refine heldT_one 9 (by kernel_rfl) (by decide) (by rfl) (by rfl) (fun K hK => ?_)
  refine wp_enter 17 #[.int .u16 rd] (by go_simp) ?_
  refine (hR.out w3).mono ?_
  rintro e w4 ⟨rfl, hb4⟩
  have HX5 := Lib.hid (HX4.out.keptF (hstab.out _ _) (Keep.of_below hb4))
  have hS0 : w4.cell? ⟨w.heap.size, 2, none⟩ = some (.int .u16 rd) := cell_of HX5.out.boxAt 2
  refine ⟨_, rfl, ?_⟩
  refine hK _ _ hS0 ?_
  clear hK K hb4 HX4
  refine heldT_one 10 (by kernel_rfl) (by decide) (by rfl) (by rfl) (fun K hK => ?_)
  refine wp_enter 18 #[.pointer (some ⟨bk, 0, none⟩), .string s] (by go_simp) ?_
  refine (HX5.out.callF HM2.out).mono ?_
  rintro e w5 ⟨rfl, ht5⟩
  have HX6 := Lib.hid ht5
  have hS0 : w5.cell? ⟨w.heap.size, 2, none⟩ = some (.int .u16 rd) := cell_of HX6.out.boxAt 2
  refine ⟨_, rfl, ?_⟩
  refine hK _ _ hS0 ?_
  clear hK K ht5 HX5
  refine' heldT_val (v := _) 11 (by rfl) (by decide) (by kernel_rfl) (by kernel_rfl) (by rfl) hS0 (fun w hw => ?hrun11) (fun K hK => ?hnext11)
  case hrun11 => (go_simp; try rfl)
  rotate_left 0
  go_simp
  refine hK _ ?_
  clear hK K
  refine' heldT_val (v := _) 12 (by rfl) (by decide) (by kernel_rfl) (by kernel_rfl) (by rfl) hS0 (fun w hw => ?hrun12) (fun K hK => ?hnext12)
  case hrun12 => (go_simp; try rfl)
  rotate_left 0
  go_simp
  refine hK _ ?_
  clear hK K
  refine ⟨by kernel_rfl, ?_⟩
  simp only [List.drop_succ_cons, List.drop_zero]
  go_wp2_with fail
  go_ret2
  exact ⟨jb, rfl, fun _ => rfl, HE.out _ HX6.out⟩
set_option maxHeartbeats 4000000 in
theorem perf_com3 (I : BookI bk A) (ht : t + 1 ≤ 900) (x : OpJ) (hx : x.ok) (hk : x.kind % 8 = 3) (w : World) (F : List Nat) (h : PS A vb mb t jb B w F) : Calls Try.prog 33 #[.pointer (some ⟨vb, 0, none⟩), .pointer (some ⟨jb, 0, none⟩), .pointer (some ⟨bk, 0, none⟩), .agg #[.int .u8 x.kind, .int .i8 x.num, .int .u16 x.rcd]] w fun e w' => ∃ jb', e = .returned (.tuple #[.pointer (some ⟨jb', 0, none⟩), .bool true]) ∧ (x.kind % 8 ≠ 7 → jb' = jb) ∧ To (PS A vb mb (t + 1) jb' (bOp x B)) F w w' := by
  obtain ⟨kd, nm, rd⟩ := x
  obtain ⟨hx1, hx2, hx3⟩ := hx
  dsimp only at hx1 hx2 hx3 ⊢
  have HX := Lib.hid (To.addBox (ps_stab I) h #[.int .u8 kd, .int .i8 nm, .int .u16 rd] 64)
  have hcx := cell_of HX.out.boxAt
  clear h
  have hb : bOp ⟨kd, nm, rd⟩ B = (bCommit B).2 := by
    unfold bOp
    dsimp only at hk ⊢
    rw [if_neg (by omega), if_pos (by omega)]
  rw [hb]
  clear hb
  have HM1 := Lib.hid (((commit_d (vb := vb) (mb := mb) (jb := jb) (B := B) ht).L (I.stab t B)).L (boxH_stab w.heap.size #[.int .u8 kd, .int .i8 nm, .int .u16 rd] 64))
  have HM2 := Lib.hid (((I.com t B ht).R (dvj_stab (t + 1) vb mb jb (bCommit B).2)).L (boxH_stab w.heap.size #[.int .u8 kd, .int .i8 nm, .int .u16 rd] 64))
  generalize (bCommit B).1.1 = r1 at *
  generalize (bCommit B).1.2 = r2 at *
  generalize (bCommit B).2 = B1 at *
  have hk' : kd % 8 = 3 := hk
  have t0 : ((kd : Int) % 8 == 0) = false := by rw [beq_eq_false_iff_ne]; omega
  have t1 : ((kd : Int) % 8 == 1) = false := by rw [beq_eq_false_iff_ne]; omega
  have t2 : ((kd : Int) % 8 == 2) = false := by rw [beq_eq_false_iff_ne]; omega
  have t3 : ((kd : Int) % 8 == 3) = true := by rw [beq_iff_eq]; omega
  go_enter Try.func33, Try.ntmps33
  go_wp2_with fail
  refine (HX.out.callF HM1.out).mono ?_
  rintro e w2 ⟨rfl, ht2⟩
  dsimp only
  have HX2 := Lib.hid ht2
  clear ht2 HX hcx
  go_wp2_with fail
  refine (HX2.out.callF HM2.out).mono ?_
  rintro e w3 ⟨rfl, ht3⟩
  dsimp only
  have HX3 := Lib.hid ht3
  clear ht3 HX2
  go_wp2_with fail
  go_ret2
  exact ⟨jb, rfl, fun _ => rfl, HX3.out.fst⟩
set_option maxHeartbeats 4000000 in
theorem perf_com4 (I : BookI bk A) (ht : t + 1 ≤ 900) (x : OpJ) (hx : x.ok) (hk : x.kind % 8 = 4) (w : World) (F : List Nat) (h : PS A vb mb t jb B w F) : Calls Try.prog 33 #[.pointer (some ⟨vb, 0, none⟩), .pointer (some ⟨jb, 0, none⟩), .pointer (some ⟨bk, 0, none⟩), .agg #[.int .u8 x.kind, .int .i8 x.num, .int .u16 x.rcd]] w fun e w' => ∃ jb', e = .returned (.tuple #[.pointer (some ⟨jb', 0, none⟩), .bool true]) ∧ (x.kind % 8 ≠ 7 → jb' = jb) ∧ To (PS A vb mb (t + 1) jb' (bOp x B)) F w w' := by
  obtain ⟨kd, nm, rd⟩ := x
  obtain ⟨hx1, hx2, hx3⟩ := hx
  dsimp only at hx1 hx2 hx3 ⊢
  have HX := Lib.hid (To.addBox (ps_stab I) h #[.int .u8 kd, .int .i8 nm, .int .u16 rd] 64)
  have hcx := cell_of HX.out.boxAt
  clear h
  have hb : bOp ⟨kd, nm, rd⟩ B = (bCommit B).2 := by
    unfold bOp
    dsimp only at hk ⊢
    rw [if_neg (by omega), if_pos (by omega)]
  rw [hb]
  clear hb
  have HM1 := Lib.hid (((commit_d (vb := vb) (mb := mb) (jb := jb) (B := B) ht).L (I.stab t B)).L (boxH_stab w.heap.size #[.int .u8 kd, .int .i8 nm, .int .u16 rd] 64))
  have HM2 := Lib.hid (((I.com t B ht).R (dvj_stab (t + 1) vb mb jb (bCommit B).2)).L (boxH_stab w.heap.size #[.int .u8 kd, .int .i8 nm, .int .u16 rd] 64))
  generalize (bCommit B).1.1 = r1 at *
  generalize (bCommit B).1.2 = r2 at *
  generalize (bCommit B).2 = B1 at *
  have hk' : kd % 8 = 4 := hk
  have t0 : ((kd : Int) % 8 == 0) = false := by rw [beq_eq_false_iff_ne]; omega
  have t1 : ((kd : Int) % 8 == 1) = false := by rw [beq_eq_false_iff_ne]; omega
  have t2 : ((kd : Int) % 8 == 2) = false := by rw [beq_eq_false_iff_ne]; omega
  have t3 : ((kd : Int) % 8 == 3) = false := by rw [beq_eq_false_iff_ne]; omega
  have t4 : ((kd : Int) % 8 == 4) = true := by rw [beq_iff_eq]; omega
  go_enter Try.func33, Try.ntmps33
  go_wp2_with fail
  refine (HX.out.callF HM1.out).mono ?_
  rintro e w2 ⟨rfl, ht2⟩
  dsimp only
  have HX2 := Lib.hid ht2
  clear ht2 HX hcx
  go_wp2_with fail
  refine (HX2.out.callF HM2.out).mono ?_
  rintro e w3 ⟨rfl, ht3⟩
  dsimp only
  have HX3 := Lib.hid ht3
  clear ht3 HX2
  go_wp2_with fail
  go_ret2
  exact ⟨jb, rfl, fun _ => rfl, HX3.out.fst⟩
end
end Go.Proofs.Ytgmggmpkbfljfaa

/- perform: dropping, discarding, opening again; all of it. -/
set_option linter.unusedVariables false
set_option linter.unusedSimpArgs false
set_option maxRecDepth 100000
namespace Go.Proofs.Ytgmggmpkbfljfaa
open Go.RowKit
theorem tmod6 (n : Int) : -6 < n.tmod 6 ∧ n.tmod 6 < 6 := by
  rcases Int.le_total 0 n with h | h
  · rw [Int.tmod_eq_emod_of_nonneg h]; omega
  · obtain ⟨m, rfl⟩ : ∃ m, n = -m := ⟨-n, by omega⟩
    rw [Int.neg_tmod, Int.tmod_eq_emod_of_nonneg (by omega)]; omega
section
variable {t vb mb jb bk : Nat} {B : Bk} {A : Nat → Bk → HP}
set_option maxHeartbeats 4000000 in
theorem perf_drop (I : BookI bk A) (ht : t + 1 ≤ 900) (x : OpJ) (hx : x.ok) (hk : x.kind % 8 = 5) (w : World) (F : List Nat) (h : PS A vb mb t jb B w F) : Calls Try.prog 33 #[.pointer (some ⟨vb, 0, none⟩), .pointer (some ⟨jb, 0, none⟩), .pointer (some ⟨bk, 0, none⟩), .agg #[.int .u8 x.kind, .int .i8 x.num, .int .u16 x.rcd]] w fun e w' => ∃ jb', e = .returned (.tuple #[.pointer (some ⟨jb', 0, none⟩), .bool true]) ∧ (x.kind % 8 ≠ 7 → jb' = jb) ∧ To (PS A vb mb (t + 1) jb' (bOp x B)) F w w' := by
  have hf := (by obtain ⟨_, _, h1, _⟩ := h; exact h1.ok.f : B.first + B.groups.length ≤ t + 1)
  obtain ⟨kd, nm, rd⟩ := x
  obtain ⟨hx1, hx2, hx3⟩ := hx
  dsimp only at hx1 hx2 hx3 ⊢
  have HX := Lib.hid (To.addBox (ps_stab I) h #[.int .u8 kd, .int .i8 nm, .int .u16 rd] 64)
  have hcx := cell_of HX.out.boxAt
  clear h
  have hk' : kd % 8 = 5 := hk
  obtain ⟨gv, pv, hbx, _⟩ := To.noPend I (boxH_stab _ _ _) HX.out
  have hcb := cell_of hbx
  simp only [bcells] at hcb
  have hb : bOp ⟨kd, nm, rd⟩ B = (bDrop B ((B.first : Int) + nm.tmod 6 - 1)).2 := by
    unfold bOp
    dsimp only at hk ⊢
    rw [if_neg (by omega), if_neg (by omega), if_pos (by omega)]
  rw [hb]
  clear hb hbx
  have HM1 := Lib.hid (((drop_d (vb := vb) (mb := mb) (jb := jb) (B := B) ((B.first : Int) + nm.tmod 6 - 1) ht).L (I.stab t B)).L (boxH_stab w.heap.size #[.int .u8 kd, .int .i8 nm, .int .u16 rd] 64))
  have HM2 := Lib.hid (((I.drop t B ((B.first : Int) + nm.tmod 6 - 1) ht).R (dvj_stab (t + 1) vb mb jb (bDrop B ((B.first : Int) + nm.tmod 6 - 1)).2)).L (boxH_stab w.heap.size #[.int .u8 kd, .int .i8 nm, .int .u16 rd] 64))
  generalize (bDrop B ((B.first : Int) + nm.tmod 6 - 1)).1 = r1 at *
  generalize (bDrop B ((B.first : Int) + nm.tmod 6 - 1)).2 = B1 at *
  have t0 : ((kd : Int) % 8 == 0) = false := by rw [beq_eq_false_iff_ne]; omega
  have t1 : ((kd : Int) % 8 == 1) = false := by rw [beq_eq_false_iff_ne]; omega
  have t2 : ((kd : Int) % 8 == 2) = false := by rw [beq_eq_false_iff_ne]; omega
  have t3 : ((kd : Int) % 8 == 3) = false := by rw [beq_eq_false_iff_ne]; omega
  have t4 : ((kd : Int) % 8 == 4) = false := by rw [beq_eq_false_iff_ne]; omega
  have t5 : ((kd : Int) % 8 == 5) = true := by rw [beq_iff_eq]; omega
  obtain ⟨hq1, hq2⟩ := tmod6 nm
  have hws : IntKind.i64.wrap nm = nm := IntWalk.i64_in _ ⟨by omega, by omega⟩
  have hfb : B.first ≤ 901 := by omega
  clear hk hk'
  go_enter Try.func33, Try.ntmps33
  go_wp2_with fail
  go_big_quiet (fail)
  go_wp2_with fail
  have hstab : Stab (Sep (PS A vb mb t jb B) (BoxH w.heap.size #[.int .u8 kd, .int .i8 nm, .int .u16 rd] 64)) := (ps_stab I).sep (boxH_stab _ _ _)
  have HX2 := Lib.hid (fun n => HX.out.keptF hstab (Keep.drewN [] _ n))
  clear HX hstab hcx hcb
  refine ((HX2.out _).callF HM1.out).mono ?_
  rintro e w2 ⟨rfl, ht2⟩
  dsimp only
  have HX3 := Lib.hid ht2
  clear ht2 HX2
  go_wp2_with fail
  refine (HX3.out.callF HM2.out).mono ?_
  rintro e w3 ⟨rfl, ht3⟩
  dsimp only
  have HX4 := Lib.hid ht3
  clear ht3 HX3
  go_wp2_with fail
  go_ret2
  exact ⟨jb, rfl, fun _ => rfl, HX4.out.fst⟩
set_option maxHeartbeats 4000000 in
theorem perf_disc (I : BookI bk A) (ht : t + 1 ≤ 900) (x : OpJ) (hx : x.ok) (hk : x.kind % 8 = 6) (w : World) (F : List Nat) (h : PS A vb mb t jb B w F) : Calls Try.prog 33 #[.pointer (some ⟨vb, 0, none⟩), .pointer (some ⟨jb, 0, none⟩), .pointer (some ⟨bk, 0, none⟩), .agg #[.int .u8 x.kind, .int .i8 x.num, .int .u16 x.rcd]] w fun e w' => ∃ jb', e = .returned (.tuple #[.pointer (some ⟨jb', 0, none⟩), .bool true]) ∧ (x.kind % 8 ≠ 7 → jb' = jb) ∧ To (PS A vb mb (t + 1) jb' (bOp x B)) F w w' := by
  obtain ⟨kd, nm, rd⟩ := x
  obtain ⟨hx1, hx2, hx3⟩ := hx
  dsimp only at hx1 hx2 hx3 ⊢
  have HX := Lib.hid (To.addBox (ps_stab I) h #[.int .u8 kd, .int .i8 nm, .int .u16 rd] 64)
  have hcx := cell_of HX.out.boxAt
  clear h
  have hk' : kd % 8 = 6 := hk
  obtain ⟨gv, pv, hbx, hnp⟩ := To.noPend I (boxH_stab _ _ _) HX.out
  have hcb := cell_of hbx
  have hfb := frozen_of hbx
  have hlt := lt_of_heap hbx
  simp only [bcells] at hcb
  have hb : bOp ⟨kd, nm, rd⟩ B = { B with pend := [] } := by
    unfold bOp
    dsimp only at hk ⊢
    rw [if_neg (by omega), if_neg (by omega), if_neg (by omega)]
  rw [hb]
  clear hb
  have HM1 := Lib.hid (((discard_d (t := t) (vb := vb) (mb := mb) (jb := jb) (B := B)).L (I.stab t { B with pend := [] })).L (boxH_stab w.heap.size #[.int .u8 kd, .int .i8 nm, .int .u16 rd] 64))
  have HE : Hid (∀ wk, To (Sep (PS A vb mb t jb { B with pend := [] }) (BoxH w.heap.size #[.int .u8 kd, .int .i8 nm, .int .u16 rd] 64)) F w wk → To (PS A vb mb (t + 1) jb { B with pend := [] }) F w wk) := fun wk h => h.fst.imp fun w F ⟨F1, F2, h1, h2, h3⟩ => ⟨F1, F2, h1.up (by omega) ht, I.up _ _ _ _ _ h2 (by omega) ht, h3⟩
  have t0 : ((kd : Int) % 8 == 0) = false := by rw [beq_eq_false_iff_ne]; omega
  have t1 : ((kd : Int) % 8 == 1) = false := by rw [beq_eq_false_iff_ne]; omega
  have t2 : ((kd : Int) % 8 == 2) = false := by rw [beq_eq_false_iff_ne]; omega
  have t3 : ((kd : Int) % 8 == 3) = false := by rw [beq_eq_false_iff_ne]; omega
  have t4 : ((kd : Int) % 8 == 4) = false := by rw [beq_eq_false_iff_ne]; omega
  have t5 : ((kd : Int) % 8 == 5) = false := by rw [beq_eq_false_iff_ne]; omega
  have t6 : ((kd : Int) % 8 == 6) = true := by rw [beq_iff_eq]; omega
  have Hnp := Lib.hid hnp
  have Hbx := Lib.hid hbx
  clear hk hk' hnp hbx
  go_enter Try.func33, Try.ntmps33
  go_wp2_with fail
  have HX2 := Lib.hid (Hnp.out _ (Keep.setCell [bk] _ _ _ _ (by simp)) (set_same Hbx.out 5 (.slice none 0 0)))
  generalize (w.alloc (.cells #[.int .u8 kd, .int .i8 nm, .int .u16 rd] 64)).setCell ⟨bk, 5, none⟩ (.slice none 0 0) = w1 at *
  clear HX hcx hcb hfb hlt Hnp Hbx
  refine (HX2.out.callF HM1.out).mono ?_
  rintro e w2 ⟨rfl, ht2⟩
  dsimp only
  have HX3 := Lib.hid ht2
  clear ht2 HX2
  go_wp2_with fail
  go_ret2
  exact ⟨jb, rfl, fun _ => rfl, HE.out _ HX3.out⟩
set_option maxHeartbeats 4000000 in
theorem perf_open (I : BookI bk A) (ht : t + 1 ≤ 900) (x : OpJ) (hx : x.ok) (hk : x.kind % 8 = 7) (w : World) (F : List Nat) (h : PS A vb mb t jb B w F) : Calls Try.prog 33 #[.pointer (some ⟨vb, 0, none⟩), .pointer (some ⟨jb, 0, none⟩), .pointer (some ⟨bk, 0, none⟩), .agg #[.int .u8 x.kind, .int .i8 x.num, .int .u16 x.rcd]] w fun e w' => ∃ jb', e = .returned (.tuple #[.pointer (some ⟨jb', 0, none⟩), .bool true]) ∧ (x.kind % 8 ≠ 7 → jb' = jb) ∧ To (PS A vb mb (t + 1) jb' (bOp x B)) F w w' := by
  obtain ⟨kd, nm, rd⟩ := x
  obtain ⟨hx1, hx2, hx3⟩ := hx
  dsimp only at hx1 hx2 hx3 ⊢
  have HX := Lib.hid (To.addBox (ps_stab I) h #[.int .u8 kd, .int .i8 nm, .int .u16 rd] 64)
  have hcx := cell_of HX.out.boxAt
  clear h
  have hk' : kd % 8 = 7 := hk
  have hb : bOp ⟨kd, nm, rd⟩ B = { B with pend := [] } := by
    unfold bOp
    dsimp only at hk ⊢
    rw [if_neg (by omega), if_neg (by omega), if_neg (by omega)]
  rw [hb]
  clear hb
  have HO := Lib.hid (open_ps I (boxH_stab _ _ _) HX.out)
  have HN : Hid (∀ jb' w', To (Sep (Sep (DvJ t vb mb jb' { B with pend := [] }) (A t B)) (BoxH w.heap.size #[.int .u8 kd, .int .i8 nm, .int .u16 rd] 64)) F w w' → ∃ gv pv, w'.heap[bk]? = some (.cells (bcells B.ring B.gen B.first B.place gv pv) 43 (0, 0)) ∧
      ∀ w'', Keep [bk] w' w'' → w''.heap[bk]? = some (.cells (bcells B.ring B.gen B.first B.place gv (.slice none 0 0)) 43 (0, 0)) → To (Sep (Sep (DvJ t vb mb jb' { B with pend := [] }) (A t { B with pend := [] })) (BoxH w.heap.size #[.int .u8 kd, .int .i8 nm, .int .u16 rd] 64)) F w w'') := fun jb' w' h => To.noPend I (boxH_stab _ _ _) h
  have HE : Hid (∀ jb' wk, To (Sep (PS A vb mb t jb' { B with pend := [] }) (BoxH w.heap.size #[.int .u8 kd, .int .i8 nm, .int .u16 rd] 64)) F w wk → To (PS A vb mb (t + 1) jb' { B with pend := [] }) F w wk) := fun jb' wk h => h.fst.imp fun w F ⟨F1, F2, h1, h2, h3⟩ => ⟨F1, F2, h1.up (by omega) ht, I.up _ _ _ _ _ h2 (by omega) ht, h3⟩
  have t0 : ((kd : Int) % 8 == 0) = false := by rw [beq_eq_false_iff_ne]; omega
  have t1 : ((kd : Int) % 8 == 1) = false := by rw [beq_eq_false_iff_ne]; omega
  have t2 : ((kd : Int) % 8 == 2) = false := by rw [beq_eq_false_iff_ne]; omega
  have t3 : ((kd : Int) % 8 == 3) = false := by rw [beq_eq_false_iff_ne]; omega
  have t4 : ((kd : Int) % 8 == 4) = false := by rw [beq_eq_false_iff_ne]; omega
  have t5 : ((kd : Int) % 8 == 5) = false := by rw [beq_eq_false_iff_ne]; omega
  have t6 : ((kd : Int) % 8 == 6) = false := by rw [beq_eq_false_iff_ne]; omega
  clear hk hcx HX
  go_enter Try.func33, Try.ntmps33
  go_wp2_with fail
  refine HO.out.mono ?_
  rintro e w2 ⟨jb', rfl, ht2⟩
  dsimp only
  obtain ⟨gv, pv, hbx, hnp⟩ := HN.out jb' w2 ht2
  have hcb := cell_of hbx
  have hfb := frozen_of hbx
  have hlt := lt_of_heap hbx
  simp only [bcells] at hcb
  have Hnp := Lib.hid hnp
  have Hbx := Lib.hid hbx
  clear hnp hbx HN HO ht2
  go_wp2_with fail
  go_ret2
  refine ⟨jb', rfl, fun h => absurd hk' h, HE.out jb' _ (Hnp.out _ (Keep.setCell [bk] _ _ _ _ (by simp)) (set_same Hbx.out 5 (.slice none 0 0)))⟩
theorem perform_t (I : BookI bk A) (ht : t + 1 ≤ 900) (x : OpJ) (hx : x.ok) (w : World) (F : List Nat) (h : PS A vb mb t jb B w F) : Calls Try.prog 33 #[.pointer (some ⟨vb, 0, none⟩), .pointer (some ⟨jb, 0, none⟩), .pointer (some ⟨bk, 0, none⟩), .agg #[.int .u8 x.kind, .int .i8 x.num, .int .u16 x.rcd]] w fun e w' => ∃ jb', e = .returned (.tuple #[.pointer (some ⟨jb', 0, none⟩), .bool true]) ∧ (x.kind % 8 ≠ 7 → jb' = jb) ∧ To (PS A vb mb (t + 1) jb' (bOp x B)) F w w' := by
  rcases (by omega : x.kind % 8 = 0 ∨ x.kind % 8 = 1 ∨ x.kind % 8 = 2 ∨ x.kind % 8 = 3 ∨ x.kind % 8 = 4 ∨ x.kind % 8 = 5 ∨ x.kind % 8 = 6 ∨ x.kind % 8 = 7) with k | k | k | k | k | k | k | k
  · exact perf_app0 I ht x hx k w F h
  · exact perf_app1 I ht x hx k w F h
  · exact perf_app2 I ht x hx k w F h
  · exact perf_com3 I ht x hx k w F h
  · exact perf_com4 I ht x hx k w F h
  · exact perf_drop I ht x hx k w F h
  · exact perf_disc I ht x hx k w F h
  · exact perf_open I ht x hx k w F h
end
end Go.Proofs.Ytgmggmpkbfljfaa
