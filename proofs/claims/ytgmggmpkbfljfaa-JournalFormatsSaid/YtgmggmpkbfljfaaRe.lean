/- A device and a book that say the same. -/
import Derived.Test.YtgmggmpkbfljfaaDv
set_option linter.unusedVariables false
set_option linter.unusedSimpArgs false
set_option maxRecDepth 100000
namespace Go.Proofs.Ytgmggmpkbfljfaa
open Go.RowKit
def plc (R x : Nat) : Int := ((2 + x % R : Nat) : Int)
/-- The device's content is that of the book. -/
structure DJ (C : Cont) (B : Bk) : Prop where
  page : C ((B.gen : Int) % 2) = pageS B.gen B.first B.place (usedN B.groups)
  osz : (C (((B.gen : Int) + 1) % 2)).size ≤ 1000
  other : isPg (C (((B.gen : Int) + 1) % 2)) = true → pgFit (pgAt (C (((B.gen : Int) + 1) % 2))) ∧ (pgAt (C (((B.gen : Int) + 1) % 2))).g < B.gen
  data : ∀ i (h : i < B.groups.length), ∀ k, k < secsN B.groups[i] → C (plc B.ring (B.place + (usedN (B.groups.take i) + k))) = chunk (encS (B.first + i) B.groups[i]) k
/-- The book is within its bounds, and its groups have room. -/
structure BRoom (B : Bk) : Prop where
  r0 : 0 < B.ring
  r9 : B.ring ≤ 900
  g : B.gen ≤ 900000
  f : B.first ≤ 900000
  p : B.place ≤ 900000
  n : B.groups.length ≤ 900000
  l : B.pend.length ≤ 256
  s : ∀ s ∈ B.pend, s.size ≤ 16384
  gs : GSmall B.groups
  u : usedN B.groups ≤ B.ring
theorem BRoom.fit {B : Bk} (h : BRoom B) : BFit B := ⟨by have := h.r9; omega, by have := h.g; omega, by have := h.f; omega, by have := h.p; omega, by have := h.n; omega, h.l, h.s, h.gs, by have := h.u; have := h.r9; omega⟩
def pgOfB (B : Bk) : Pg := ⟨B.gen, B.first, B.place, usedN B.groups⟩
def jOf (B : Bk) : Jn := ⟨pgOfB B, B.groups, B.pend, false⟩
theorem BRoom.jfit {B : Bk} (h : BRoom B) : JFit (jOf B) := ⟨by have := h.g; show B.gen ≤ _; omega, by have := h.f; show B.first ≤ _; omega, by have := h.p; show B.place ≤ _; omega, by have := h.u; have := h.r9; show usedN B.groups ≤ _; omega, by have := h.n; show B.groups.length ≤ _; omega, h.l, h.s⟩
theorem pgAt_page {B : Bk} (h : BRoom B) : pgAt (pageS B.gen B.first B.place (usedN B.groups)) = pgOfB B :=
  pgAt_pageS _ _ _ _ (by have := h.g; have : (256 : Nat) ^ 8 = 18446744073709551616 := rfl; omega) (by have := h.f; have : (256 : Nat) ^ 8 = 18446744073709551616 := rfl; omega) (by have := h.p; have : (256 : Nat) ^ 8 = 18446744073709551616 := rfl; omega)
    (by have := h.u; have := h.r9; have : (256 : Nat) ^ 4 = 4294967296 := rfl; omega)
theorem pgFit_page {B : Bk} (h : BRoom B) : pgFit (pgOfB B) := ⟨by have := h.g; show B.gen ≤ _; omega, by have := h.f; show B.first ≤ _; omega, by have := h.p; show B.place ≤ _; omega, by have := h.u; have := h.r9; show usedN B.groups ≤ _; omega⟩
section
variable {v : Vol} {C : Cont} {m : Nat} {B : Bk}
theorem rel_read (hg : Good v (B.ring + 2) C m) (s : Int) (h0 : 0 ≤ s) (h1 : s < 2) : (vRead v s).1 = C s := by rw [hg.read s h0 (by omega)]
theorem par (g : Nat) : ((g : Int) % 2 = 0 ∧ ((g : Int) + 1) % 2 = 1) ∨ ((g : Int) % 2 = 1 ∧ ((g : Int) + 1) % 2 = 0) := by omega
theorem rel_fit (hg : Good v (B.ring + 2) C m) (hd : DJ C B) (hb : BRoom B) : ReadFit v := by
  have hpage : ∀ s : Int, s = (B.gen : Int) % 2 ∨ s = ((B.gen : Int) + 1) % 2 → (C s).size ≤ 1000 ∧ (isPg (C s) = true → pgFit (pgAt (C s))) := by
    rintro s (rfl | rfl)
    · rw [hd.page]; exact ⟨by rw [pageS_size]; omega, fun _ => by rw [pgAt_page hb]; exact pgFit_page hb⟩
    · exact ⟨hd.osz, fun h => (hd.other h).1⟩
  intro k hk
  rw [rel_read hg k (by omega) (by omega)]
  exact hpage k (by omega)
theorem pgStep_old (q : Pg) (d : ByteArray) (h : isPg d = true → (pgAt d).g < q.g) : pgStep (some q) d = some q := by
  cases hi : isPg d
  · exact pgStep_no _ _ hi
  · rw [pgStep_yes _ _ hi]
    have := h hi
    exact if_neg (by omega)
theorem pgStep_new (o : Option Pg) (d : ByteArray) (p : Pg) (hi : isPg d = true) (hp : pgAt d = p) (h : ∀ q, o = some q → q.g < p.g) : pgStep o d = some p := by
  rw [pgStep_yes _ _ hi, hp]
  cases o with
  | none => rfl
  | some q => exact if_pos (h q rfl)
theorem rel_newest (hg : Good v (B.ring + 2) C m) (hd : DJ C B) (hb : BRoom B) : pgTo v 2 = some (pgOfB B) := by
  have h0 : pgTo v 2 = pgStep (pgStep none (C 0)) (C 1) := by
    show pgStep (pgStep none (vRead v ((0 : Nat) : Int)).1) (vRead v ((1 : Nat) : Int)).1 = _
    rw [rel_read hg _ (by omega) (by omega), rel_read hg _ (by omega) (by omega)]
    rfl
  have hpg : isPg (C ((B.gen : Int) % 2)) = true := by rw [hd.page]; exact isPg_pageS _ _ _ _
  have hat : pgAt (C ((B.gen : Int) % 2)) = pgOfB B := by rw [hd.page]; exact pgAt_page hb
  have hot : isPg (C (((B.gen : Int) + 1) % 2)) = true → (pgAt (C (((B.gen : Int) + 1) % 2))).g < (pgOfB B).g := fun h => (hd.other h).2
  rw [h0]
  rcases par B.gen with ⟨e1, e2⟩ | ⟨e1, e2⟩
  · rw [e1] at hpg hat
    rw [e2] at hot
    rw [pgStep_new none (C 0) _ hpg hat (by simp)]
    exact pgStep_old _ _ hot
  · rw [e1] at hpg hat
    rw [e2] at hot
    refine pgStep_new _ (C 1) _ hpg hat (fun q hq => ?_)
    cases hi : isPg (C 0)
    · rw [pgStep_no _ _ hi] at hq; cases hq
    · rw [pgStep_yes _ _ hi] at hq
      have : pgAt (C 0) = q := by simpa [pgIn] using hq
      rw [← this]; exact hot hi
theorem rel_image (hg : Good v (B.ring + 2) C m) (hd : DJ C B) (hb : BRoom B) (hm : m ≤ 4096) : Image v B := by
  refine ⟨hg.down, hg.secs, hb.r0, hb.r9, by rw [hg.pend]; exact hm, ?_, fun i h k hk => ?_⟩
  · rw [rel_read hg _ (by omega) (by omega), hd.page]
  · have := hd.data i h k hk
    unfold rdAt
    have hlt := Nat.mod_lt (B.place + (usedN (B.groups.take i) + k)) hb.r0
    rw [hg.read _ (by omega) (by omega)]
    exact this
end
/-! ### what is read in order -/
theorem cat_chunks (s : ByteArray) : ∀ q, q * 128 ≤ s.size → catS ((List.range q).map (chunk s)) = s.extract 0 (q * 128)
  | 0, _ => by
    rw [Nat.zero_mul]
    show (⟨#[]⟩ : ByteArray) = _
    apply ByteArray.ext; simp
  | q + 1, h => by
    rw [cat_range, cat_chunks s q (by omega)]
    apply ByteArray.ext
    apply Array.toList_inj.1
    have e : (s.extract 0 ((q + 1) * 128)).data.toList = s.data.toList.take ((q + 1) * 128) := by
      rw [ByteArray.data_extract, Array.toList_extract, List.extract_eq_take_drop]; simp
    have e1 : (s.extract 0 (q * 128)).data.toList = s.data.toList.take (q * 128) := by
      rw [ByteArray.data_extract, Array.toList_extract, List.extract_eq_take_drop]; simp
    have e2 : (chunk s q).data.toList = (s.data.toList.drop (q * 128)).take 128 := by
      unfold chunk
      rw [ByteArray.data_extract, Array.toList_extract, List.extract_eq_take_drop, show q * 128 + 128 - q * 128 = 128 by omega]
    rw [ByteArray.data_append, Array.toList_append, e, e1, e2, show (q + 1) * 128 = q * 128 + 128 by omega, List.take_add]
theorem extract_all (s : ByteArray) : s.extract 0 s.size = s := by
  apply ByteArray.ext; rw [ByteArray.data_extract]; exact Array.extract_size
def gsOf (B : Bk) (n : Nat) : List (Nat × List ByteArray) := (List.range n).map fun i => (B.first + i, B.groups.getD i [])
theorem gsOf_two (B : Bk) : (gsOf B B.groups.length).map (·.2) = B.groups := by
  unfold gsOf
  rw [List.map_map]
  apply List.ext_getElem
  · simp
  · intro i h1 h2
    simp [List.getD_eq_getElem?_getD, h2]
theorem range_add_map {α : Type} (f : Nat → α) (u q : Nat) : (List.range (u + q)).map f = (List.range u).map f ++ (List.range q).map (fun j => f (u + j)) := by
  rw [List.range_add, List.map_append, List.map_map]; rfl
theorem rel_data {v : Vol} {C : Cont} {m : Nat} {B : Bk} (hg : Good v (B.ring + 2) C m) (hd : DJ C B) (hb : BRoom B) : ∀ n, n ≤ B.groups.length → catS ((List.range (usedN (B.groups.take n))).map (rdAt v B.ring B.place)) = catS ((gsOf B n).map encG)
  | 0, _ => rfl
  | n + 1, h => by
    have hn : n < B.groups.length := by omega
    rw [usedN_take _ _ hn, range_add_map, catS_app, rel_data hg hd hb n (by omega)]
    have e : gsOf B (n + 1) = gsOf B n ++ [(B.first + n, B.groups[n])] := by
      unfold gsOf
      rw [List.range_succ, List.map_append]
      simp [List.getD_eq_getElem?_getD, hn]
    rw [e, List.map_append, catS_app]
    congr 1
    have e2 : (List.range (secsN B.groups[n])).map (fun j => rdAt v B.ring B.place (usedN (B.groups.take n) + j)) = (List.range (secsN B.groups[n])).map (chunk (encS (B.first + n) B.groups[n])) := by
      apply List.map_congr_left
      intro k hk
      have hk := List.mem_range.1 hk
      unfold rdAt
      have hlt := Nat.mod_lt (B.place + (usedN (B.groups.take n) + k)) hb.r0
      rw [hg.read _ (by omega) (by omega)]
      exact hd.data n hn k hk
    have hez := encS_size (B.first + n) B.groups[n]
    rw [e2, cat_chunks _ _ (by rw [hez]; exact Nat.le_refl _), ← hez, extract_all]
    show encS (B.first + n) B.groups[n] = catS [encG (B.first + n, B.groups[n])]
    show _ = encS _ _ ++ (⟨#[]⟩ : ByteArray)
    rw [app_empty]
theorem chunk_size' (s : ByteArray) (k q : Nat) (hs : s.size = q * 128) (hk : k < q) : (chunk s k).size = 128 := chunk_size s k q hs hk
theorem find_group (L : List (List ByteArray)) : ∀ x, x < usedN L → ∃ i, ∃ h : i < L.length, ∃ k, k < secsN L[i] ∧ x = usedN (L.take i) + k := by
  induction L with
  | nil => intro x hx; simp [usedN] at hx
  | cons l L ih =>
    intro x hx
    by_cases h : x < secsN l
    · exact ⟨0, by simp, x, h, by simp [usedN]⟩
    · have hx' : x - secsN l < usedN L := by
        have : usedN (l :: L) = secsN l + usedN L := by simp [usedN]
        omega
      obtain ⟨i, hi, k, hk, e⟩ := ih _ hx'
      refine ⟨i + 1, by simpa using hi, k, by simpa using hk, ?_⟩
      have : usedN ((l :: L).take (i + 1)) = secsN l + usedN (L.take i) := by simp [usedN]
      rw [this]; omega
theorem rel_open {v : Vol} {C : Cont} {m : Nat} {B : Bk} (hg : Good v (B.ring + 2) C m) (hd : DJ C B) (hb : BRoom B) (hm : m ≤ 4096) : OpenFit v B.ring (pgOfB B) (gsOf B B.groups.length) := by
  refine ⟨hg.down, hg.secs, hb.r0, hb.r9, by rw [hg.pend]; exact hm, rel_fit hg hd hb, rel_newest hg hd hb, hb.u, by have := hb.g; show B.gen ≤ _; omega, by have := hb.f; show B.first ≤ _; omega, by have := hb.p; show B.place ≤ _; omega, ?_, fun i hi => ?_, fun x hx => ?_⟩
  · have := rel_data hg hd hb B.groups.length (Nat.le_refl _)
    rw [List.take_length] at this
    exact this
  · obtain ⟨j, hj, k, hk, e⟩ := find_group B.groups i hi
    subst e
    unfold rdAt
    have hlt := Nat.mod_lt (B.place + (usedN (B.groups.take j) + k)) hb.r0
    show ((vRead v ((2 + (B.place + (usedN (B.groups.take j) + k)) % B.ring : Nat) : Int)).1).size = 128
    rw [hg.read _ (by omega) (by omega)]
    rw [show C ((2 + (B.place + (usedN (B.groups.take j) + k)) % B.ring : Nat) : Int) = _ from hd.data j hj k hk]
    exact chunk_size _ k _ (encS_size _ _) hk
  · unfold gsOf at hx
    obtain ⟨i, hi, rfl⟩ := List.mem_map.1 hx
    have hi := List.mem_range.1 hi
    refine hb.gs _ ?_
    simp [List.getD_eq_getElem?_getD, hi]
end Go.Proofs.Ytgmggmpkbfljfaa
