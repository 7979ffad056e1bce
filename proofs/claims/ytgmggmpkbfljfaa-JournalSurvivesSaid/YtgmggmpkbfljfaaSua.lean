import Derived.Test.YtgmggmpkbfljfaaPfa
import Derived.Deep.RegionHeld3
/- A device that fails: what is on it when it is started again. -/
set_option linter.unusedVariables false
set_option linter.unusedSimpArgs false
set_option maxRecDepth 100000
namespace Go.Proofs.Ytgmggmpkbfljfaa
open Go.RowKit
theorem blk_all (a : ByteArray) (h : a.size = 128) : ((⟨#[]⟩ ++ blk a 0) ++ blk a 1 ++ blk a 2) ++ blk a 3 = a := by
  unfold blk
  have e : (⟨#[]⟩ : ByteArray) = ByteArray.empty := rfl
  rw [e, ByteArray.empty_append]
  simp only [ByteArray.extract_append_extract]
  have : a.extract 0 128 = a := by rw [← h]; exact ByteArray.extract_zero_size
  simpa using this
/-- A sector that says nothing behind its first block. -/
structure Tl (x : ByteArray) : Prop where
  size : x.size = 128
  b1 : blk x 1 = zerosS 32
  b2 : blk x 2 = zerosS 32
  b3 : blk x 3 = zerosS 32
theorem surv_tl {a b : ByteArray} (ha : Tl a) (hb : Tl b) (c : Nat) : surv a b c = a ∨ surv a b c = b := by
  have ea := blk_all a ha.size
  have eb := blk_all b hb.size
  unfold surv
  rw [if_pos ⟨ha.size, hb.size⟩]
  simp only [survTo]
  rw [ha.b1, hb.b1, ha.b2, hb.b2, ha.b3, hb.b3, ite_self, ite_self, ite_self]
  rw [ha.b1, ha.b2, ha.b3] at ea
  rw [hb.b1, hb.b2, hb.b3] at eb
  split
  · exact .inr eb
  · exact .inl ea
theorem zeros_extract (n i j : Nat) (h : j ≤ n) : (zerosS n).extract i j = zerosS (j - i) := by
  apply ByteArray.ext
  unfold zerosS
  rw [ByteArray.data_extract]
  apply Array.ext
  · simp; omega
  · intro k h1 h2
    simp
theorem zeros_tl (r : ByteArray) (h : r.size = 32) : Tl (r ++ zerosS 96) := by
  have hx : ∀ i, 1 ≤ i → i < 4 → blk (r ++ zerosS 96) i = zerosS 32 := by
    intro i h1 h2
    unfold blk
    have he : r.extract (32 * i) (32 * i + 32) = ByteArray.empty := by
      apply ByteArray.ext
      rw [ByteArray.data_extract]
      apply Array.ext
      · have : r.data.size = 32 := h
        simp; omega
      · intro k h1 h2
        simp at h2
    rw [ByteArray.extract_append, he, ByteArray.empty_append, zeros_extract _ _ _ (by omega)]
    congr 1
    omega
  exact ⟨by rw [ByteArray.size_append, h, zerosS_size], hx 1 (by omega) (by omega), hx 2 (by omega) (by omega), hx 3 (by omega) (by omega)⟩
theorem page_tl (g f p k : Nat) : Tl (pageS g f p k) := by
  unfold pageS padS
  have h : (magicS ++ numS g 8 ++ numS f 8 ++ numS p 8 ++ numS k 4).size = 32 := by
    simp only [ByteArray.size_append, numS_size]; rfl
  rw [h, show padN 32 = 96 by decide]
  exact zeros_tl _ h
theorem fill0 : fillS 0 = zerosS 32 ++ zerosS 96 := by decide +kernel
theorem fill_tl : Tl (fillS 0) := by rw [fill0]; exact zeros_tl _ (zerosS_size 32)
/-- A device that is up, with a limit or without. -/
structure Up (v : Vol) (n : Nat) (C : Cont) (m : Nat) : Prop where
  down : v.down = false
  left : v.limited = true → 0 ≤ v.left ∧ v.left ≤ 1000
  secs : v.sectors = n
  keys : (v.dur.map (·.1)).Nodup
  pend : v.pend.length = m
  cont : ∀ s, dC v.pend s (vDur v s) = C s
def unl (v : Vol) : Vol := { v with limited := false }
theorem Up.good {v : Vol} {n : Nat} {C : Cont} {m : Nat} (h : Up v n C m) : Good (unl v) n C m := ⟨h.down, rfl, h.secs, h.keys, h.pend, h.cont⟩
theorem Good.toUp {v : Vol} {n : Nat} {C : Cont} {m : Nat} (h : Good v n C m) : Up v n C m := ⟨h.down, fun e => absurd (h.lim.symm.trans e) (by decide), h.secs, h.keys, h.pend, h.cont⟩
theorem Up.limit {v : Vol} {n : Nat} {C : Cont} {m : Nat} (h : Up v n C m) (x : Int) (hx : x ≤ 1000) : Up { v with limited := true, left := max 0 x } n C m :=
  ⟨h.down, fun _ => by dsimp only; omega, h.secs, h.keys, h.pend, h.cont⟩
theorem Up.nil {v : Vol} {n : Nat} {C : Cont} (h : Up v n C 0) : v.pend = [] ∧ ∀ s, vDur v s = C s := by
  have hp : v.pend = [] := List.length_eq_zero_iff.1 h.pend
  refine ⟨hp, fun s => ?_⟩
  have := h.cont s
  rw [hp] at this
  exact this
/-- A device that went down: what is durable, and what was pending. -/
structure Cut (v : Vol) (n : Nat) (D : Cont) (W : IS) : Prop where
  down : v.down = true
  secs : v.sectors = n
  keys : (v.dur.map (·.1)).Nodup
  dur : ∀ s, vDur v s = D s
  pend : v.pend = W
theorem up_op {v : Vol} {n : Nat} {C : Cont} {m : Nat} (h : Up v n C m) :
    ((vOp v).1 = true ∧ (vOp v).2 = { v with down := true }) ∨ ((vOp v).1 = false ∧ ∃ l, (vOp v).2 = { v with left := l } ∧ (v.limited = true → 0 ≤ l ∧ l ≤ 1000)) := by
  unfold vOp
  by_cases hl : v.limited = true
  · obtain ⟨h0, h9⟩ := h.left hl
    rw [if_pos hl]
    by_cases hle : v.left ≤ 0
    · rw [if_pos hle]; exact .inl ⟨rfl, rfl⟩
    · rw [if_neg hle]
      refine .inr ⟨rfl, _, rfl, fun _ => ?_⟩
      have : wrap64 (v.left - 1) = v.left - 1 := IntWalk.wrap64_in _ ⟨by omega, by omega⟩
      rw [this]; omega
  · rw [if_neg hl]
    exact .inr ⟨rfl, v.left, rfl, fun h => absurd h hl⟩
theorem up_write {v : Vol} {n : Nat} {C : Cont} {m : Nat} (h : Up v n C m) (s : Int) (d : ByteArray) (h0 : 0 ≤ s) (h1 : s < n) (hd : d.size = 128) (hm : m < 4096) :
    ((vWrite v s d).1 = 0 ∧ Up (vWrite v s d).2 n (upd C s d) (m + 1) ∧ (vWrite v s d).2.pend = v.pend ++ [(s, d)] ∧ ∀ k, vDur (vWrite v s d).2 k = vDur v k) ∨
    ((vWrite v s d).1 = 20 ∧ Cut (vWrite v s d).2 n (vDur v) (v.pend ++ [(s, d)])) := by
  have hp := h.pend
  have h' : Up { v with pend := v.pend ++ [(s, d)] } n (upd C s d) (m + 1) := ⟨h.down, h.left, h.secs, h.keys, by simp [hp], fun k => by
    show dC (v.pend ++ [(s, d)]) k (vDur v k) = _
    rw [dC_snoc, h.cont]
    unfold upd
    by_cases hk : k = s
    · rw [if_pos hk, if_pos hk.symm]
    · rw [if_neg hk, if_neg (fun e => hk e.symm)]⟩
  have ho := up_op h'
  have e : vWrite v s d = if (vOp { v with pend := v.pend ++ [(s, d)] }).1 then (20, (vOp { v with pend := v.pend ++ [(s, d)] }).2) else (0, { (vOp { v with pend := v.pend ++ [(s, d)] }).2 with writes := wrap64 ((vOp { v with pend := v.pend ++ [(s, d)] }).2.writes + 1) }) := by
    unfold vWrite
    rw [if_neg (by rw [h.down]; decide), if_neg (by rw [h.secs]; omega), if_neg (by omega), if_neg (by omega)]
  rw [e]
  rcases ho with ⟨o1, o2⟩ | ⟨o1, l, o2, o3⟩
  · rw [o1, o2, if_pos rfl]
    exact .inr ⟨rfl, ⟨rfl, h.secs, h.keys, fun s => rfl, rfl⟩⟩
  · rw [o1, o2, if_neg (by decide)]
    exact .inl ⟨rfl, ⟨h.down, o3, h.secs, h.keys, h'.pend, h'.cont⟩, rfl, fun k => rfl⟩
theorem up_barrier {v : Vol} {n : Nat} {C : Cont} {m : Nat} (h : Up v n C m) :
    ((vBarrier v).1 = 0 ∧ Up (vBarrier v).2 n C 0) ∨ ((vBarrier v).1 = 20 ∧ Cut (vBarrier v).2 n (vDur v) v.pend) := by
  unfold vBarrier
  rw [if_neg (by rw [h.down]; decide)]
  rcases up_op h with ⟨o1, o2⟩ | ⟨o1, l, o2, o3⟩
  · rw [o1, o2, if_pos rfl]
    exact .inr ⟨rfl, ⟨rfl, h.secs, h.keys, fun s => rfl, rfl⟩⟩
  · rw [o1, o2, if_neg (by decide)]
    obtain ⟨f1, f2, f3, f4, f5, f6, f7, f8⟩ := flush_law v.pend { v with left := l } h.keys
    exact .inl ⟨rfl, ⟨f4.trans h.down, fun e => by
      have := o3 (f3.symm.trans e)
      rw [show (({ vFlush { v with left := l } v.pend with pend := [], barriers := _ } : Vol).left) = (vFlush { v with left := l } v.pend).left from rfl, f5]
      exact this, f8.trans h.secs, f1, rfl, fun s => (f2 s).trans (h.cont s)⟩⟩
theorem up_fill {R : Nat} (base : Nat) (s : ByteArray) (n0 : Nat) (hs : s.size = n0 * 128) (hR : 0 < R) : ∀ (k i : Nat) {v : Vol} {C : Cont} {m : Nat}, Up v (R + 2) C m → m + k ≤ 4096 → i + k ≤ n0 →
    ((vFill R base s k i v).1 = 0 ∧ Up (vFill R base s k i v).2 (R + 2) (fillC R base s k i C) 0) ∨
    ((vFill R base s k i v).1 = 20 ∧ ∃ W, W.length ≤ k ∧ Cut (vFill R base s k i v).2 (R + 2) (vDur v) (v.pend ++ W) ∧ ∀ q ∈ W, ∃ j, i ≤ j ∧ j < i + k ∧ q.1 = ((2 + (base + j) % R : Nat) : Int))
  | 0, i, v, C, m, h, _, _ => by
    rcases up_barrier h with h1 | ⟨h1, h2⟩
    · exact .inl h1
    · exact .inr ⟨h1, [], Nat.le_refl _, by rw [List.append_nil]; exact h2, by simp⟩
  | k + 1, i, v, C, m, h, hm, hi => by
    have hlt := Nat.mod_lt (base + i) hR
    rcases up_write h ((2 + (base + i) % R : Nat) : Int) (chunk s i) (by omega) (by omega) (chunk_size s i n0 hs (by omega)) (by omega) with ⟨h1, h2, h3, h4⟩ | ⟨h1, h2⟩
    · rw [vFill, if_pos h1]
      rcases up_fill base s n0 hs hR k (i + 1) h2 (by omega) (by omega) with h5 | ⟨h5, W, h6, h7, h8⟩
      · exact .inl h5
      · refine .inr ⟨h5, ((2 + (base + i) % R : Nat), chunk s i) :: W, by simp; omega, ?_, ?_⟩
        · rw [h3, List.append_assoc] at h7
          exact ⟨h7.down, h7.secs, h7.keys, fun s => (h7.dur s).trans (h4 s), h7.pend⟩
        · intro q hq
          rcases List.mem_cons.1 hq with rfl | hq
          · exact ⟨i, Nat.le_refl _, by omega, rfl⟩
          · obtain ⟨j, j1, j2, j3⟩ := h8 q hq
            exact ⟨j, by omega, by omega, j3⟩
    · rw [vFill, if_neg (by rw [h1]; decide)]
      refine .inr ⟨h1, [_], by simp, h2, fun q hq => ⟨i, Nat.le_refl _, by omega, by rw [List.mem_singleton] at hq; rw [hq]⟩⟩
theorem up_jW {v : Vol} {n : Nat} {C : Cont} (h : Up v n C 0) (p : Pg) (hn : 2 ≤ n) :
    ((jW v p).1 = 0 ∧ Up (jW v p).2 n (upd C ((p.g : Int) % 2) (pgS p)) 0) ∨ ((jW v p).1 = 20 ∧ Cut (jW v p).2 n C [((p.g : Int) % 2, pgS p)]) := by
  obtain ⟨hp, hc⟩ := h.nil
  unfold jW
  rcases up_write h ((p.g : Int) % 2) (pgS p) (by omega) (by omega) (pgS_size p) (by omega) with ⟨h1, h2, h3, h4⟩ | ⟨h1, h2⟩
  · rw [if_pos h1]
    rcases up_barrier h2 with h5 | ⟨h5, h6⟩
    · exact .inl h5
    · rw [h3, hp] at h6
      exact .inr ⟨h5, h6.down, h6.secs, h6.keys, fun s => (h6.dur s).trans ((h4 s).trans (hc s)), h6.pend⟩
  · rw [if_neg (by rw [h1]; decide)]
    rw [hp] at h2
    exact .inr ⟨h1, h2.down, h2.secs, h2.keys, fun s => (h2.dur s).trans (hc s), h2.pend⟩
/-! ### starting again -/
theorem startL_law (zs : List Nat) : ∀ (l : IS) (v : Vol) (i : Nat), (v.dur.map (·.1)).Nodup →
    ((vStartL zs v i l).dur.map (·.1)).Nodup ∧ (vStartL zs v i l).sectors = v.sectors ∧ ∀ s, (∀ q ∈ l, q.1 ≠ s) → vDur (vStartL zs v i l) s = vDur v s
  | [], v, i, h => ⟨h, rfl, fun s _ => rfl⟩
  | p :: l, v, i, h => by
    obtain ⟨h1, h2, h3⟩ := startL_law zs l (vKeep v p.1 (surv (vDur v p.1) p.2 (vChoice zs i))) (i + 1) (keep_keys _ _ _ h)
    refine ⟨h1, h2.trans (vKeep_more _ _ _).2.2.2.2.2, fun s hs => ?_⟩
    show vDur (vStartL zs _ (i + 1) l) s = _
    rw [h3 s (fun q hq => hs q (List.mem_cons_of_mem _ hq)), vDur_keep _ _ _ _ h, if_neg (fun e => hs p (by simp) e.symm)]
theorem cut_start {v : Vol} {n : Nat} {D : Cont} {W : IS} (h : Cut v n D W) (zs : List Nat) :
    ∃ C', Up (vStart v zs) n C' 0 ∧ (∀ s, (∀ q ∈ W, q.1 ≠ s) → C' s = D s) ∧ ∀ s d, W = [(s, d)] → C' s = surv (D s) d (vChoice zs 0) := by
  obtain ⟨h1, h2, h3⟩ := startL_law zs v.pend v 0 h.keys
  have e : vStart v zs = { vStartL zs v 0 v.pend with pend := [], limited := false, left := 0, down := false } := by unfold vStart; rw [if_pos h.down]
  rw [e]
  refine ⟨fun s => vDur (vStartL zs v 0 v.pend) s, ⟨rfl, fun e => Bool.noConfusion e, h2.trans h.secs, h1, rfl, fun s => rfl⟩, fun s hs => ?_, fun s d hW => ?_⟩
  · rw [← h.dur]; exact h3 s (by rw [h.pend]; exact hs)
  · show vDur (vStartL zs v 0 v.pend) s = _
    rw [h.pend, hW]
    show vDur (vKeep v s (surv (vDur v s) d (vChoice zs 0))) s = _
    rw [vDur_keep _ _ _ _ h.keys, if_pos rfl, h.dur]
end Go.Proofs.Ytgmggmpkbfljfaa

/- What a failing commit, and a failing drop, leave on the device. -/
set_option linter.unusedVariables false
set_option linter.unusedSimpArgs false
set_option maxRecDepth 100000
namespace Go.Proofs.Ytgmggmpkbfljfaa
open Go.RowKit
theorem commit_dj {C : Cont} {B : Bk} (hd : DJ C B) (hb : BRoom B) (hr : usedN B.groups + secsN B.pend ≤ B.ring) :
    DJ (upd (fillC B.ring (B.place + usedN B.groups) (encS (jNum (jOf B)) B.pend) (secsN B.pend) 0 C) (((jNext (jOf B)).g : Int) % 2) (pgS (jNext (jOf B)))) (bNext B) := by
  have h0 := hb.r0
  have h9 := hb.r9
  have hgen : ((bNext B).gen : Int) = (B.gen : Int) + 1 := by show ((B.gen + 1 : Nat) : Int) = _; omega
  have hlow : ∀ s : Int, s < 2 → fillC B.ring (B.place + usedN B.groups) (encS (jNum (jOf B)) B.pend) (secsN B.pend) 0 C s = C s := fun s hs =>
    fillC_out _ _ _ _ _ _ _ (fun j _ _ e => by omega)
  have hnx : (((jNext (jOf B)).g : Nat) : Int) = (B.gen : Int) + 1 := by show ((B.gen + 1 : Nat) : Int) = _; omega
  have hold : upd (fillC B.ring (B.place + usedN B.groups) (encS (jNum (jOf B)) B.pend) (secsN B.pend) 0 C) (((jNext (jOf B)).g : Int) % 2) (pgS (jNext (jOf B))) (((B.gen : Int) + 1 + 1) % 2) = pageS B.gen B.first B.place (usedN B.groups) := by
    unfold upd
    rw [if_neg (by rw [hnx]; omega), hlow _ (by omega), show ((B.gen : Int) + 1 + 1) % 2 = (B.gen : Int) % 2 by omega, hd.page]
  have hhigh : ∀ x, upd (fillC B.ring (B.place + usedN B.groups) (encS (jNum (jOf B)) B.pend) (secsN B.pend) 0 C) (((jNext (jOf B)).g : Int) % 2) (pgS (jNext (jOf B))) (plc B.ring x) = fillC B.ring (B.place + usedN B.groups) (encS (jNum (jOf B)) B.pend) (secsN B.pend) 0 C (plc B.ring x) := fun x => by
    unfold upd
    rw [if_neg (by unfold plc; omega)]
  have key : ∀ i (hi : i < (B.groups ++ [B.pend]).length), ∀ k, k < secsN (B.groups ++ [B.pend])[i] →
      upd (fillC B.ring (B.place + usedN B.groups) (encS (jNum (jOf B)) B.pend) (secsN B.pend) 0 C) (((jNext (jOf B)).g : Int) % 2) (pgS (jNext (jOf B))) (plc B.ring (B.place + (usedN ((B.groups ++ [B.pend]).take i) + k))) = chunk (encS (B.first + i) (B.groups ++ [B.pend])[i]) k := by
    intro i hi k hk
    have hi' : i < B.groups.length + 1 := by simpa using hi
    rw [hhigh]
    by_cases hlt : i < B.groups.length
    · have e1 : (B.groups ++ [B.pend])[i] = B.groups[i] := List.getElem_append_left hlt
      have e2 : (B.groups ++ [B.pend]).take i = B.groups.take i := List.take_append_of_le_length (Nat.le_of_lt hlt)
      rw [e1] at hk ⊢
      rw [e2, fillC_out _ _ _ _ _ _ _ (fun j _ hj e => by
        have hu := usedN_take_le B.groups (i + 1)
        rw [usedN_take _ _ hlt] at hu
        have hmod : (B.place + (usedN (B.groups.take i) + k)) % B.ring = (B.place + usedN B.groups + j) % B.ring := by unfold plc at e; omega
        have := mod_inj B.ring _ _ h0 hmod (by omega) (by omega)
        omega)]
      exact hd.data i hlt k hk
    · obtain rfl : i = B.groups.length := by omega
      have e1 : (B.groups ++ [B.pend])[B.groups.length] = B.pend := List.getElem_concat_length rfl _
      have e2 : (B.groups ++ [B.pend]).take B.groups.length = B.groups := List.take_left' rfl
      rw [e1] at hk ⊢
      rw [e2, show B.place + (usedN B.groups + k) = B.place + usedN B.groups + k by omega]
      exact fillC_in B.ring (B.place + usedN B.groups) (encS (jNum (jOf B)) B.pend) h0 (secsN B.pend) 0 C (by omega) k (by omega) (by omega)
  refine ⟨?_, ?_, fun _ => ?_, fun i hi k hk => key i hi k hk⟩
  · rw [hgen]
    unfold upd
    rw [if_pos (by rw [hnx])]
    show pgS (jNext (jOf B)) = pageS (B.gen + 1) B.first B.place (usedN (B.groups ++ [B.pend]))
    rw [usedN_snoc]; rfl
  · rw [hgen, hold, pageS_size]; omega
  · rw [hgen, hold, pgAt_page hb]
    exact ⟨pgFit_page hb, by show B.gen < B.gen + 1; omega⟩
theorem drop_dj {C : Cont} {B : Bk} (hd : DJ C B) (hb : BRoom B) (c : Nat) (hc1 : 1 ≤ c) (hc2 : c ≤ B.groups.length) :
    DJ (upd C (((dropPg (jOf B) c).g : Int) % 2) (pgS (dropPg (jOf B) c))) (bDropN B c) := by
  have hpg : pgS (dropPg (jOf B) c) = pageS (B.gen + 1) (B.first + c) (B.place + usedN (B.groups.take c)) (usedN (B.groups.drop c)) := by
    have h := usedN_split B.groups c
    have e : usedN (B.groups.drop c) = usedN B.groups - usedN (B.groups.take c) := by omega
    rw [e]; rfl
  have hnx : (((dropPg (jOf B) c).g : Nat) : Int) = (B.gen : Int) + 1 := by show ((B.gen + 1 : Nat) : Int) = _; omega
  have hgen : ((bDropN B c).gen : Int) = (B.gen : Int) + 1 := by show ((B.gen + 1 : Nat) : Int) = _; omega
  have hold : upd C (((dropPg (jOf B) c).g : Int) % 2) (pgS (dropPg (jOf B) c)) (((B.gen : Int) + 1 + 1) % 2) = pageS B.gen B.first B.place (usedN B.groups) := by
    unfold upd
    rw [if_neg (by rw [hnx]; omega), show ((B.gen : Int) + 1 + 1) % 2 = (B.gen : Int) % 2 by omega, hd.page]
  refine ⟨?_, ?_, fun _ => ?_, fun i hi k hk => ?_⟩
  · rw [hgen]
    unfold upd
    rw [if_pos (by rw [hnx]), hpg]
    rfl
  · rw [hgen, hold, pageS_size]; omega
  · rw [hgen, hold, pgAt_page hb]
    exact ⟨pgFit_page hb, by show B.gen < B.gen + 1; omega⟩
  · have hi' : i < (B.groups.drop c).length := hi
    have hi2 : c + i < B.groups.length := by rw [List.length_drop] at hi'; omega
    have hk2 : k < secsN ((B.groups.drop c)[i]'hi') := hk
    rw [List.getElem_drop] at hk2
    show _ = chunk (encS (B.first + c + i) ((B.groups.drop c)[i]'hi')) k
    rw [List.getElem_drop]
    have e2 : usedN (B.groups.take c) + usedN ((B.groups.drop c).take i) = usedN (B.groups.take (c + i)) := by
      have h1 := usedN_split (B.groups.take (c + i)) c
      rw [List.take_take, Nat.min_eq_left (by omega), List.drop_take, show c + i - c = i by omega] at h1
      exact h1
    have e3 : (bDropN B c).place + (usedN ((bDropN B c).groups.take i) + k) = B.place + (usedN (B.groups.take (c + i)) + k) := by
      show B.place + usedN (B.groups.take c) + (usedN ((B.groups.drop c).take i) + k) = _
      omega
    rw [e3]
    unfold upd
    rw [if_neg (by unfold plc; omega)]
    have := hd.data (c + i) hi2 k hk2
    rw [show (bDropN B c).ring = B.ring from rfl, this, show B.first + (c + i) = B.first + c + i by omega]
/-- The device says B, and the other page is one. -/
structure DJ2 (C : Cont) (B : Bk) : Prop where
  dj : DJ C B
  tl : Tl (C (((B.gen : Int) + 1) % 2))
theorem DJ.congr {C C' : Cont} {B : Bk} (h : DJ C B) (h0 : ∀ s : Int, 0 ≤ s → s < 2 → C' s = C s) (h1 : ∀ x, x < usedN B.groups → C' (plc B.ring (B.place + x)) = C (plc B.ring (B.place + x))) : DJ C' B := by
  have e1 : C' ((B.gen : Int) % 2) = C ((B.gen : Int) % 2) := h0 _ (by omega) (by omega)
  have e2 : C' (((B.gen : Int) + 1) % 2) = C (((B.gen : Int) + 1) % 2) := h0 _ (by omega) (by omega)
  refine ⟨e1.trans h.page, by rw [e2]; exact h.osz, by rw [e2]; exact h.other, fun i hi k hk => ?_⟩
  rw [h1 _ ?_]
  · exact h.data i hi k hk
  · have := usedN_take_le B.groups (i + 1)
    rw [usedN_take _ _ hi] at this
    omega
theorem DJ2.congr {C C' : Cont} {B : Bk} (h : DJ2 C B) (h0 : ∀ s : Int, 0 ≤ s → s < 2 → C' s = C s) (h1 : ∀ x, x < usedN B.groups → C' (plc B.ring (B.place + x)) = C (plc B.ring (B.place + x))) : DJ2 C' B :=
  ⟨h.dj.congr h0 h1, by rw [h0 _ (by omega) (by omega)]; exact h.tl⟩
theorem DJ2.pend {C : Cont} {B : Bk} (h : DJ2 C B) (l : List ByteArray) : DJ2 C { B with pend := l } := ⟨h.dj.pend l, h.tl⟩
/-- A device that went down: whatever survives, the device says this. -/
structure After (v : Vol) (n : Nat) (P : Cont → Prop) : Prop where
  down : v.down = true
  secs : v.sectors = n
  pend : v.pend.length ≤ 2000
  rng : ∀ q ∈ v.pend, 0 ≤ q.1 ∧ q.1 < v.sectors
  start : ∀ zs, ∃ C', Up (vStart v zs) n C' 0 ∧ P C'
/-- A page that is written beside the newest one is there, or it is not. -/
theorem page_after {v : Vol} {n : Nat} {C : Cont} {s : Int} {d : ByteArray} (h : Cut v n C [(s, d)]) (h0 : 0 ≤ s) (h1 : s < n) (hc : Tl (C s)) (hd : Tl d) : After v n (fun C' => C' = C ∨ C' = upd C s d) := by
  refine ⟨h.down, h.secs, by rw [h.pend]; simp, by rw [h.pend, h.secs]; intro q hq; rw [List.mem_singleton] at hq; rw [hq]; exact ⟨h0, h1⟩, fun zs => ?_⟩
  obtain ⟨C', u, k1, k2⟩ := cut_start h zs
  have e := k2 s d rfl
  have k3 : ∀ k, k ≠ s → C' k = C k := fun k hk => k1 k (by simpa using fun e => hk e.symm)
  refine ⟨C', u, ?_⟩
  rcases surv_tl hc hd (vChoice zs 0) with t | t
  · left
    funext k
    by_cases hk : k = s
    · rw [hk, e, t]
    · exact k3 k hk
  · right
    funext k
    unfold upd
    by_cases hk : k = s
    · rw [if_pos hk, hk, e, t]
    · rw [if_neg hk]; exact k3 k hk
theorem After.imp {v : Vol} {n : Nat} {P Q : Cont → Prop} (h : After v n P) (k : ∀ C, P C → Q C) : After v n Q :=
  ⟨h.down, h.secs, h.pend, h.rng, fun zs => by obtain ⟨C', u, p⟩ := h.start zs; exact ⟨C', u, k _ p⟩⟩
theorem commit_lim {v : Vol} {C : Cont} {B : Bk} (hg : Up v (B.ring + 2) C 0) (hd : DJ2 C B) (hb : BRoom B) (hr : usedN B.groups + secsN B.pend ≤ B.ring) :
    (∃ v' C', jCommit B.ring v (jOf B) = ⟨(B.first + B.groups.length : Nat), 0, v', jOf (bNext B)⟩ ∧ Up v' (B.ring + 2) C' 0 ∧ DJ2 C' (bNext B)) ∨
    ∃ v', jCommit B.ring v (jOf B) = ⟨0, 20, v', { jOf B with broken := true }⟩ ∧ After v' (B.ring + 2) (fun C' => DJ2 C' B ∨ DJ2 C' (bNext B)) := by
  have h0 := hb.r0
  have h9 := hb.r9
  have hez := encS_size (jNum (jOf B)) B.pend
  obtain ⟨hp, hc⟩ := hg.nil
  have hfill : jFill B.ring v (jOf B) = vFill B.ring (B.place + usedN B.groups) (encS (jNum (jOf B)) B.pend) (secsN B.pend) 0 v := rfl
  have hbr : ¬ (jOf B).broken = true := by simp [jOf]
  have hfr : ¬ ((B.ring : Int) - (jOf B).pg.k < secsN (jOf B).pend) := by show ¬ (B.ring : Int) - (usedN B.groups : Nat) < (secsN B.pend : Nat); omega
  have hnx : (((jNext (jOf B)).g : Nat) : Int) = (B.gen : Int) + 1 := by show ((B.gen + 1 : Nat) : Int) = _; omega
  -- behind the filling in, the device says B still
  have hB : DJ2 (fillC B.ring (B.place + usedN B.groups) (encS (jNum (jOf B)) B.pend) (secsN B.pend) 0 C) B := by
    refine hd.congr (fun s _ hs => fillC_out _ _ _ _ _ _ _ (fun j _ _ e => by omega)) (fun x hx => fillC_out _ _ _ _ _ _ _ (fun j _ hj e => ?_))
    have hmod : (B.place + x) % B.ring = (B.place + usedN B.groups + j) % B.ring := by unfold plc at e; omega
    have := mod_inj B.ring _ _ h0 hmod (by omega) (by omega)
    omega
  rcases up_fill (R := B.ring) (B.place + usedN B.groups) (encS (jNum (jOf B)) B.pend) (secsN B.pend) hez h0 (secsN B.pend) 0 hg (by omega) (by omega) with ⟨f1, f2⟩ | ⟨f1, W, f2, f3, f4⟩
  · rcases up_jW f2 (jNext (jOf B)) (by omega) with ⟨g1, g2⟩ | ⟨g1, g2⟩
    · refine .inl ⟨(jW (jFill B.ring v (jOf B)).2 (jNext (jOf B))).2, _, ?_, g2, commit_dj hd.dj hb hr, ?_⟩
      · unfold jCommit
        rw [if_neg hbr, if_neg hfr, if_neg (by rw [hfill, f1]; simp), if_neg (by rw [hfill, g1]; simp)]
        have ej : jOf (bNext B) = ⟨jNext (jOf B), (jOf B).groups ++ [(jOf B).pend], [], false⟩ := by
          unfold jOf pgOfB bNext jNext
          dsimp only
          rw [usedN_snoc]
        rw [ej]
        rfl
      · have e : ((bNext B).gen : Int) = (B.gen : Int) + 1 := by show ((B.gen + 1 : Nat) : Int) = _; omega
        unfold upd
        rw [e, if_neg (by rw [hnx]; omega), show ((B.gen : Int) + 1 + 1) % 2 = (B.gen : Int) % 2 by omega, hB.dj.page]
        exact page_tl _ _ _ _
    · refine .inr ⟨(jW (jFill B.ring v (jOf B)).2 (jNext (jOf B))).2, ?_, ?_⟩
      · unfold jCommit
        rw [if_neg hbr, if_neg hfr, if_neg (by rw [hfill, f1]; simp), if_pos (by rw [hfill, g1]; simp), hfill, g1]
        rfl
      · rw [hfill]
        refine (page_after g2 (by omega) (by omega) (by rw [hnx]; exact hB.tl) (page_tl _ _ _ _)).imp fun C' h => ?_
        rcases h with rfl | rfl
        · exact .inl hB
        · refine .inr ⟨commit_dj hd.dj hb hr, ?_⟩
          have e : ((bNext B).gen : Int) = (B.gen : Int) + 1 := by show ((B.gen + 1 : Nat) : Int) = _; omega
          unfold upd
          rw [e, if_neg (by rw [hnx]; omega), show ((B.gen : Int) + 1 + 1) % 2 = (B.gen : Int) % 2 by omega, hB.dj.page]
          exact page_tl _ _ _ _
  · rw [hp, List.nil_append] at f3
    refine .inr ⟨(jFill B.ring v (jOf B)).2, ?_, ⟨?_, ?_, ?_, ?_, ?_⟩⟩
    · unfold jCommit
      rw [if_neg hbr, if_neg hfr, if_pos (by rw [hfill, f1]; simp), hfill, f1]
      rfl
    · rw [hfill]; exact f3.down
    · rw [hfill]; exact f3.secs
    · rw [hfill, f3.pend]; omega
    · rw [hfill, f3.pend, f3.secs]
      intro q hq
      obtain ⟨j, j1, j2, j3⟩ := f4 q hq
      have := Nat.mod_lt (B.place + usedN B.groups + j) h0
      rw [j3]; omega
    · intro zs
      rw [hfill]
      obtain ⟨C', u, k1, k2⟩ := cut_start f3 zs
      refine ⟨C', u, .inl (hd.congr (fun s _ hs => ?_) (fun x hx => ?_))⟩
      · rw [k1 s (fun q hq e => by obtain ⟨j, _, _, j3⟩ := f4 q hq; omega), hc]
      · rw [k1 _ (fun q hq e => ?_), hc]
        obtain ⟨j, _, j2, j3⟩ := f4 q hq
        have hmod : (B.place + x) % B.ring = (B.place + usedN B.groups + j) % B.ring := by unfold plc at e; omega
        have := mod_inj B.ring _ _ h0 hmod (by omega) (by omega)
        omega
theorem drop_lim {v : Vol} {C : Cont} {B : Bk} (hg : Up v (B.ring + 2) C 0) (hd : DJ2 C B) (hb : BRoom B) (c : Nat) (hc1 : 1 ≤ c) (hc2 : c ≤ B.groups.length) :
    (∃ v' C', jDrop v (jOf B) ((B.first : Int) + c - 1) = ⟨0, v', jOf (bDropN B c)⟩ ∧ Up v' (B.ring + 2) C' 0 ∧ DJ2 C' (bDropN B c)) ∨
    ∃ v', jDrop v (jOf B) ((B.first : Int) + c - 1) = ⟨20, v', { jOf B with broken := true }⟩ ∧ After v' (B.ring + 2) (fun C' => DJ2 C' B ∨ DJ2 C' (bDropN B c)) := by
  have hcn : ((B.first : Int) + c - 1 - (B.first : Int) + 1).toNat = c := by omega
  have hbr : ¬ (jOf B).broken = true := by simp [jOf]
  have h1 : ¬ ((jOf B).pg.f : Int) + (jOf B).groups.length - 1 < (B.first : Int) + c - 1 := by show ¬ (B.first : Int) + B.groups.length - 1 < _; omega
  have h2 : ¬ (B.first : Int) + c - 1 < ((jOf B).pg.f : Int) := by show ¬ _ < (B.first : Int); omega
  have h3 : ((B.first : Int) + c - 1 - ((jOf B).pg.f : Int) + 1).toNat = c := hcn
  have hnx : (((dropPg (jOf B) c).g : Nat) : Int) = (B.gen : Int) + 1 := by show ((B.gen + 1 : Nat) : Int) = _; omega
  have hgen : ((bDropN B c).gen : Int) = (B.gen : Int) + 1 := by show ((B.gen + 1 : Nat) : Int) = _; omega
  have htl : Tl (upd C (((dropPg (jOf B) c).g : Int) % 2) (pgS (dropPg (jOf B) c)) ((((bDropN B c).gen : Int) + 1) % 2)) := by
    unfold upd
    rw [hgen, if_neg (by rw [hnx]; omega), show ((B.gen : Int) + 1 + 1) % 2 = (B.gen : Int) % 2 by omega, hd.dj.page]
    exact page_tl _ _ _ _
  rcases up_jW hg (dropPg (jOf B) c) (by omega) with ⟨g1, g2⟩ | ⟨g1, g2⟩
  · refine .inl ⟨(jW v (dropPg (jOf B) c)).2, _, ?_, g2, drop_dj hd.dj hb c hc1 hc2, htl⟩
    unfold jDrop
    rw [if_neg hbr, if_neg h1, if_neg h2, h3, if_neg (by rw [g1]; simp), jOf_drop]
    rfl
  · refine .inr ⟨(jW v (dropPg (jOf B) c)).2, ?_, ?_⟩
    · unfold jDrop
      rw [if_neg hbr, if_neg h1, if_neg h2, h3, if_pos (by rw [g1]; simp), g1]
      rfl
    · refine (page_after g2 (by omega) (by omega) (by rw [hnx]; exact hd.tl) (page_tl _ _ _ _)).imp fun C' h => ?_
      rcases h with rfl | rfl
      · exact .inl hd
      · exact .inr ⟨drop_dj hd.dj hb c hc1 hc2, htl⟩
end Go.Proofs.Ytgmggmpkbfljfaa

/- Start, with a script of any length. -/
set_option linter.unusedVariables false
set_option linter.unusedSimpArgs false
set_option maxRecDepth 100000
namespace Go.Proofs.Ytgmggmpkbfljfaa
open Go.RowKit
set_option maxRecDepth 100000 in
set_option maxHeartbeats 1000000 in
theorem start_ok2 (w : World) (b mb : Nat) (pv : Value) (v : Vol) (sv : Value) (zs : List Nat) (h : VolAt w b mb pv v) (hd : v.down = true) (hr : ∀ p ∈ v.pend, 0 ≤ p.1 ∧ p.1 < v.sectors) (hz : ByteRow w sv zs) (hzl : zs.length ≤ maxLen) (hlen : v.pend.length ≤ 4096) :
    Calls Try.prog 38 #[.pointer (some ⟨b, 0, none⟩), sv] w fun e w' => e = .returned (.tuple #[]) ∧ VolTo w b mb pv (vStart v zs) w' := by
  have hc := cell_of h.blk
  have hf := frozen_of h.blk
  simp only [vcells, hd] at hc
  have H := Lib.hid h
  have HS := Lib.hid (show vStart v zs = { vStartL zs v 0 v.pend with pend := [], limited := false, left := 0, down := false } by unfold vStart; rw [if_pos hd])
  rw [HS.out]
  have Hr := Lib.hid hr
  have Hz := Lib.hid hz
  obtain ⟨so, scap, hsv⟩ : ∃ so scap, sv = .slice so zs.length scap := by
    rcases hz with ⟨a, c, h1, h2⟩ | ⟨sb, so, c, h1, _⟩
    · exact ⟨a, c, by rw [h1, h2]; rfl⟩
    · exact ⟨_, c, h1⟩
  subst hsv
  clear hd HS hr hz
  rcases h.slice with ⟨rfl, hp⟩ | ⟨g, cap, rfl⟩
  · have hfl : vStartL zs v 0 v.pend = v := by rw [hp]; rfl
    have Hfl := Lib.hid hfl
    clear h hp hfl
    go_enter Try.func38, Try.ntmps38
    go_wp2_with fail
    refine wp_loop_rounds 1 ?_
    rw [rounds_succ]
    go_wp2_with fail
    go_returns
    rw [Hfl.out]
    refine ⟨rfl, VolAt.to (VolAt.setTo (VolAt.setTo (VolAt.setTo (v' := { v with pend := [], limited := false }) (H.out.setNil (F := []) (Keep.refl _ _) (by simp) (by simp)) 3 _ rfl rfl rfl) (v' := { v with pend := [], limited := false, left := 0 }) 5 _ rfl rfl rfl) 4 _ rfl rfl rfl) ?_⟩
    have hs : ∀ (w : World) (i : Nat) (x : Value), Keep [b, mb] w (w.setCell ⟨b, i, none⟩ x) := fun w i x => Keep.setCell _ _ _ _ _ (by simp)
    exact (((hs _ _ _).trans (hs _ _ _) (fun x hx => .inl hx)).trans (hs _ _ _) (fun x hx => .inl hx)).trans (hs _ _ _) (fun x hx => .inl hx)
  · clear h
    go_enter Try.func38, Try.ntmps38
    go_wp2_with fail
    go_loopw [23] (fun i wr => ∃ k : Nat, k ≤ v.pend.length ∧ i = .int .i64 k ∧ VolAt wr b mb (.slice (some ⟨g, 0, none⟩) v.pend.length cap) (vStartL zs v 0 (v.pend.take k)) ∧ Keep [mb] w wr ∧ ByteRow wr (.slice so zs.length scap) zs) (fun i _ => v.pend.length - (intOf i).toNat)
    case atStart => exact ⟨0, by omega, rfl, H.out, Keep.refl _ _, Hz.out⟩
    case round =>
      obtain ⟨k, hk, rfl, hv, hkp, hzr⟩ := hrel
      by_cases hlt : k < v.pend.length
      · obtain ⟨e1, e2⟩ := hv.elem (vStartL_rest _ _ _ _).1 k hlt
        have Hs : Hid (vStartL zs v 0 (v.pend.take (k + 1)) = vKeep (vStartL zs v 0 (v.pend.take k)) (v.pend[k]).1 (surv (vDur (vStartL zs v 0 (v.pend.take k)) (v.pend[k]).1) (v.pend[k]).2 (vChoice zs k))) := by
          show _ = _
          rw [List.take_succ_eq_append_getElem hlt, vStartL_snoc, List.length_take, Nat.min_eq_left (by omega), Nat.zero_add]
        have hrk := Hr.out _ (List.getElem_mem hlt)
        rw [← (vStartL_rest zs (v.pend.take k) v 0).2] at hrk
        generalize vStartL zs v 0 (v.pend.take k) = v1 at *
        generalize hp : v.pend[k] = p at *
        obtain ⟨ps, pd⟩ := p
        dsimp only at e1 e2 Hs hrk
        clear hp
        have hch : (k < zs.length → ∃ sb so', so = some ⟨sb, so', none⟩ ∧ wr.cell? ⟨sb, so' + k, none⟩ = some (.int .u8 (vChoice zs k : Nat))) ∧ (¬ k < zs.length → vChoice zs k = 0) ∧ vChoice zs k ≤ 255 := by
          unfold vChoice
          rcases hzr with ⟨_, c, h1, h2⟩ | ⟨sb, so', c, h1, h2⟩
          · subst h2; simp
          · injection h1 with h1 _ _
            refine ⟨fun hk => ⟨sb, so', h1, by rw [List.getElem?_eq_getElem hk]; exact (h2 k hk).1⟩, fun hk => by rw [List.getElem?_eq_none (by omega)]; rfl, ?_⟩
            by_cases hk : k < zs.length
            · rw [List.getElem?_eq_getElem hk]; exact (h2 k hk).2
            · rw [List.getElem?_eq_none (by omega)]; simp
        obtain ⟨hc1, hc2, hc3⟩ := hch
        generalize hcc : vChoice zs k = ch at *
        clear hcc
        have Hv := Lib.hid hv
        have Hkp := Lib.hid hkp
        have Hzr := Lib.hid hzr
        clear hv hkp hzr
        by_cases hki : k < zs.length
        · obtain ⟨sb, so', rfl, hcell⟩ := hc1 hki
          have hsb : sb < wr.heap.size := World.block_lt_of_cell? wr _ hcell
          clear hc1 hc2
          go_wp2_with fail
          refine (durable_c _ _ _ _ _ _ (Hv.out.keep (Keep.alloc [] _ _) (by simp) (by simp) (by simp)) hrk.1 hrk.2).mono ?_
          rintro e w2 ⟨rfl, hk2⟩
          have hb2 := hk2.below0
          have x1 := Below.cellAt hb2 (a := ⟨wr.heap.size, 0, none⟩) (v := .int .i64 ps) (by simp [go_sem])
          have x2 := Below.cellAt hb2 (a := ⟨wr.heap.size, 1, none⟩) (v := .string pd) (by simp [go_sem])
          go_wp2_with fail
          have Hv2 : Hid (VolAt w2 b mb (.slice (some ⟨g, 0, none⟩) v.pend.length cap) v1) := (Hv.out.keep ((Keep.alloc [] _ _).trans hk2 (by simp)) (by simp) (by simp) (by simp))
          have hmb : wr.heap.size ≠ mb := by
            intro e; obtain ⟨es, clk, hm, _⟩ := Hv.out.map
            have := lt_of_heap hm; omega
          go_region_held3 (fun w' => w'.cell? ⟨wr.heap.size, 0, none⟩ = some (.int .i64 ps) ∧ w'.cell? ⟨wr.heap.size, 1, none⟩ = some (.string pd)) (first | exact ⟨x1, x2⟩ | exact ⟨Below.cellAt hb3 x1, Below.cellAt hb3 x2⟩ | exact ⟨(World.cell?_of_block (hk4.block _ (by have := hb2.size; have := hb3.size; simp at *; omega) (by simpa using hmb))).trans (Below.cellAt hb3 x1), (World.cell?_of_block (hk4.block _ (by have := hb2.size; have := hb3.size; simp at *; omega) (by simpa using hmb))).trans (Below.cellAt hb3 x2)⟩) ((first | (go_at_call 62; refine (Survive_p _ _ _ hc3 _).mono ?_; rintro e w3 ⟨rfl, hb3⟩) | (go_at_call 61; refine (keep_c w3 b mb (.slice (some ⟨g, 0, none⟩) v.pend.length cap) v1 ps (surv (vDur v1 ps) pd ch) (Hv2.out.keep (F := []) ((Keep.drew [] w2).trans (Keep.of_below (F := []) hb3) (by simp)) (by simp) (by simp) (by simp))).mono ?_; rintro e w4 ⟨rfl, hv4, hk4⟩)))
          go_wp2_with fail
          go_roundw
          case rel =>
            have hkk : Keep [mb] wr w4 := (((Keep.alloc [mb] _ _).trans hk2 (by simp)).trans ((Keep.drew [] w2).trans (Keep.of_below (F := []) hb3) (by simp)) (by simp)).trans hk4 (fun x hx => .inl hx)
            exact ⟨k + 1, by omega, by go_num, by rw [Hs.out]; exact hv4, Hkp.out.trans hkk (fun x hx => .inl hx), Hzr.out.keep Hv.out hkk (by simp)⟩
          case measure => simp [intOf]; omega
        · have hch0 := hc2 hki
          subst hch0
          clear hc1 hc2
          have hki' : zs.length ≤ k := by omega
          go_wp2_with fail
          refine (durable_c _ _ _ _ _ _ (Hv.out.keep (Keep.alloc [] _ _) (by simp) (by simp) (by simp)) hrk.1 hrk.2).mono ?_
          rintro e w2 ⟨rfl, hk2⟩
          have hb2 := hk2.below0
          have x1 := Below.cellAt hb2 (a := ⟨wr.heap.size, 0, none⟩) (v := .int .i64 ps) (by simp [go_sem])
          have x2 := Below.cellAt hb2 (a := ⟨wr.heap.size, 1, none⟩) (v := .string pd) (by simp [go_sem])
          go_wp2_with fail
          have Hv2 : Hid (VolAt w2 b mb (.slice (some ⟨g, 0, none⟩) v.pend.length cap) v1) := (Hv.out.keep ((Keep.alloc [] _ _).trans hk2 (by simp)) (by simp) (by simp) (by simp))
          have hmb : wr.heap.size ≠ mb := by
            intro e; obtain ⟨es, clk, hm, _⟩ := Hv.out.map
            have := lt_of_heap hm; omega
          go_region_held3 (fun w' => w'.cell? ⟨wr.heap.size, 0, none⟩ = some (.int .i64 ps) ∧ w'.cell? ⟨wr.heap.size, 1, none⟩ = some (.string pd)) (first | exact ⟨x1, x2⟩ | exact ⟨Below.cellAt hb3 x1, Below.cellAt hb3 x2⟩ | exact ⟨(World.cell?_of_block (hk4.block _ (by have := hb2.size; have := hb3.size; simp at *; omega) (by simpa using hmb))).trans (Below.cellAt hb3 x1), (World.cell?_of_block (hk4.block _ (by have := hb2.size; have := hb3.size; simp at *; omega) (by simpa using hmb))).trans (Below.cellAt hb3 x2)⟩) ((first | (go_at_call 62; refine (Survive_p0 _ _ _).mono ?_; rintro e w3 ⟨rfl, hb3⟩) | (go_at_call 61; refine (keep_c w3 b mb (.slice (some ⟨g, 0, none⟩) v.pend.length cap) v1 ps (surv (vDur v1 ps) pd 0) (Hv2.out.keep (F := []) ((Keep.drew [] w2).trans (Keep.of_below (F := []) hb3) (by simp)) (by simp) (by simp) (by simp))).mono ?_; rintro e w4 ⟨rfl, hv4, hk4⟩)))
          go_wp2_with fail
          go_roundw
          case rel =>
            have hkk : Keep [mb] wr w4 := (((Keep.alloc [mb] _ _).trans hk2 (by simp)).trans ((Keep.drew [] w2).trans (Keep.of_below (F := []) hb3) (by simp)) (by simp)).trans hk4 (fun x hx => .inl hx)
            exact ⟨k + 1, by omega, by go_num, by rw [Hs.out]; exact hv4, Hkp.out.trans hkk (fun x hx => .inl hx), Hzr.out.keep Hv.out hkk (by simp)⟩
          case measure => simp [intOf]; omega
      · obtain rfl : k = v.pend.length := by omega
        rw [List.take_length] at hv
        have hcr := cell_of hv.blk
        have hfr := frozen_of hv.blk
        simp only [vcells] at hcr
        have Hv := Lib.hid hv
        have Hkp := Lib.hid hkp
        clear hv hkp hzr
        go_wp2_with fail
        go_returns
        refine ⟨rfl, VolAt.to (VolAt.setTo (VolAt.setTo (VolAt.setTo (v' := { vStartL zs v 0 v.pend with pend := [], limited := false }) (Hv.out.setNil (F := []) (Keep.refl _ _) (by simp) (by simp)) 3 _ rfl rfl rfl) (v' := { vStartL zs v 0 v.pend with pend := [], limited := false, left := 0 }) 5 _ rfl rfl rfl) 4 _ rfl rfl rfl) ?_⟩
        have hs : ∀ (w : World) (i : Nat) (x : Value), Keep [b, mb] w (w.setCell ⟨b, i, none⟩ x) := fun w i x => Keep.setCell _ _ _ _ _ (by simp)
        exact ((((Hkp.out.mono (by simp)).trans (hs _ _ _) (fun x hx => .inl hx)).trans (hs _ _ _) (fun x hx => .inl hx)).trans (hs _ _ _) (fun x hx => .inl hx)).trans (hs _ _ _) (fun x hx => .inl hx)
theorem start_m2 (b mb : Nat) (v : Vol) (sv : Value) (zs : List Nat) (hd : v.down = true) (hr : ∀ p ∈ v.pend, 0 ≤ p.1 ∧ p.1 < v.sectors) (hzl : zs.length ≤ maxLen) (hlen : v.pend.length ≤ 4096) (w : World) (F : List Nat) (hF : VolH b mb v w F) (hz : ByteRow w sv zs) :
    Calls Try.prog 38 #[.pointer (some ⟨b, 0, none⟩), sv] w fun e w' => e = .returned (.tuple #[]) ∧ To (VolH b mb (vStart v zs)) F w w' := by
  obtain ⟨pv, h, rfl⟩ := hF
  exact (start_ok2 w b mb pv v sv zs h hd hr hz hzl hlen).mono fun e w' h => ⟨h.1, h.2.to⟩
end Go.Proofs.Ytgmggmpkbfljfaa

/- A device that can fail, its journal and a book, as predicates of memory. -/
set_option linter.unusedVariables false
set_option linter.unusedSimpArgs false
set_option maxRecDepth 100000
namespace Go.Proofs.Ytgmggmpkbfljfaa
open Go.RowKit
/-- Device and journal say B; the device may have a limit. -/
def DvL (t vb mb jb : Nat) (B : Bk) : HP := fun w F => ∃ v C, Up v (B.ring + 2) C 0 ∧ DJ2 C B ∧ BOk B t ∧ Sep (VolH vb mb v) (JH jb vb (jOf B)) w F
/-- The device went down between B and B1. -/
def DvX (t vb mb jb : Nat) (B B1 : Bk) : HP := fun w F => ∃ v, After v (B.ring + 2) (fun C => DJ2 C B ∨ DJ2 C B1) ∧ (BOk B t ∧ BOk B1 t ∧ B1.ring = B.ring ∧ (B.first ≠ B1.first ∨ B.groups.length ≠ B1.groups.length)) ∧ Sep (VolH vb mb v) (JH jb vb { jOf B with broken := true }) w F
/-- The device alone. -/
def DvV (t vb mb : Nat) (B : Bk) : HP := fun w F => ∃ v C, Up v (B.ring + 2) C 0 ∧ DJ2 C B ∧ BOk B t ∧ VolH vb mb v w F
theorem dvl_stab (t vb mb jb : Nat) (B : Bk) : Stab (DvL t vb mb jb B) where
  keep := by
    rintro w w' F G ⟨v, C, h1, h2, h3, h⟩ hk hd
    exact ⟨v, C, h1, h2, h3, ((volH_stab _ _ _).sep (jh_stab _ _ _)).keep h hk hd⟩
  lt := by
    rintro w F ⟨v, C, h1, h2, h3, h⟩
    exact ((volH_stab _ _ _).sep (jh_stab _ _ _)).lt h
theorem dvx_stab (t vb mb jb : Nat) (B B1 : Bk) : Stab (DvX t vb mb jb B B1) where
  keep := by
    rintro w w' F G ⟨v, h1, h2, h⟩ hk hd
    exact ⟨v, h1, h2, ((volH_stab _ _ _).sep (jh_stab _ _ _)).keep h hk hd⟩
  lt := by
    rintro w F ⟨v, h1, h2, h⟩
    exact ((volH_stab _ _ _).sep (jh_stab _ _ _)).lt h
theorem dvv_stab (t vb mb : Nat) (B : Bk) : Stab (DvV t vb mb B) where
  keep := by
    rintro w w' F G ⟨v, C, h1, h2, h3, h⟩ hk hd
    exact ⟨v, C, h1, h2, h3, (volH_stab _ _ _).keep h hk hd⟩
  lt := by
    rintro w F ⟨v, C, h1, h2, h3, h⟩
    exact (volH_stab _ _ _).lt h
theorem OpenFit.unl {v : Vol} {R : Nat} {p : Pg} {Gs : List (Nat × List ByteArray)} (h : OpenFit (unl v) R p Gs) : OpenFit v R p Gs :=
  ⟨h.down, h.secs, h.r0, h.r9, h.pend, h.rd, h.pg, h.kR, h.g6, h.f6, h.p6, h.data, h.size, h.small⟩
section
variable {t vb mb jb bk : Nat} {B B1 : Bk}
theorem DvL.up {w : World} {F : List Nat} {t' : Nat} (h : DvL t vb mb jb B w F) (ht : t ≤ t') (h9 : t' ≤ 900) : DvL t' vb mb jb B w F := by
  obtain ⟨v, C, h1, h2, h3, h5⟩ := h; exact ⟨v, C, h1, h2, h3.up ht h9, h5⟩
theorem append_l (s : ByteArray) (hs : s.size ≤ 20000) :
    Met Try.prog 13 #[.pointer (some ⟨jb, 0, none⟩), .string s] (.int .i64 (bApp B s).1) (DvL t vb mb jb B) (DvL t vb mb jb (bApp B s).2) := by
  rintro w F ⟨v, C, h1, h2, h3, h5⟩
  have hm := append_m jb vb (jOf B) s (by omega) h3.l
  rw [app_rel] at hm
  have hp : (bApp B s).2.ring = B.ring ∧ DJ2 C (bApp B s).2 := by
    unfold bApp
    split
    · exact ⟨rfl, h2⟩
    · split
      · exact ⟨rfl, h2⟩
      · exact ⟨rfl, h2.pend _⟩
  refine ((hm.R (volH_stab vb mb v)) w F h5).mono fun e w' hk => ⟨hk.1, hk.2.imp fun w F h => ⟨v, C, ?_, hp.2, h3.app s, h⟩⟩
  rw [hp.1]; exact h1
theorem discard_l : Met Try.prog 15 #[.pointer (some ⟨jb, 0, none⟩)] (.int .i64 0) (DvL t vb mb jb B) (DvL t vb mb jb { B with pend := [] }) := by
  rintro w F ⟨v, C, h1, h2, h3, h5⟩
  have hm := discard_m jb vb (jOf B)
  exact ((hm.R (volH_stab vb mb v)) w F h5).mono fun e w' hk => ⟨hk.1, hk.2.imp fun w F h => ⟨v, C, h1, h2.pend [], h3.noPend, h⟩⟩
theorem open_v0 (w : World) (F1 : List Nat) (v : Vol) (C : Cont) (h1 : Up v (B.ring + 2) C 0) (h2 : DJ2 C B) (h3 : BOk B t) (k1 : VolH vb mb v w F1) :
    Calls Try.prog 26 #[.pointer (some ⟨vb, 0, none⟩)] w fun e w' => ∃ jb', e = .returned (.tuple #[.pointer (some ⟨jb', 0, none⟩), .int .i64 0]) ∧ To (DvL t vb mb jb' { B with pend := [] }) F1 w w' := by
  have ho := open_c w F1 vb mb v B.ring _ _ k1 (rel_open h1.good h2.dj h3.room (by omega)).unl
  rw [gsOf_two] at ho
  refine ho.mono ?_
  rintro e w' ⟨jb', rfl, F3, hJ, hk, hs⟩
  refine ⟨jb', rfl, F1 ++ F3, ⟨v, C, h1, h2.pend [], h3.noPend, F1, F3, (volH_stab _ _ _).keep k1 hk (by simp), hJ, fun x hx hm => ?_, rfl⟩, hk.mono (by simp), fun x hx => ?_⟩
  · have := (volH_stab vb mb v).lt k1 x hx
    have := hs x hm
    simp at this; omega
  · rcases List.mem_append.1 hx with h | h
    · exact .inl h
    · have := hs x h
      simp at this; exact .inr this
theorem open_l (w : World) (F : List Nat) (h : DvL t vb mb jb B w F) :
    Calls Try.prog 26 #[.pointer (some ⟨vb, 0, none⟩)] w fun e w' => ∃ jb', e = .returned (.tuple #[.pointer (some ⟨jb', 0, none⟩), .int .i64 0]) ∧ To (DvL t vb mb jb' { B with pend := [] }) F w w' := by
  obtain ⟨v, C, h1, h2, h3, F1, F2, k1, k2, d, rfl⟩ := h
  refine (open_v0 w F1 v C h1 h2 h3 k1).mono ?_
  rintro e w' ⟨jb', rfl, F', f1, f2, f3⟩
  exact ⟨jb', rfl, F', f1, f2.mono (by intro x hx; exact List.mem_append_left _ hx), fun x hx => (f3 x hx).imp (fun h => List.mem_append_left _ h) id⟩
theorem open_V (w : World) (F : List Nat) (h : DvV t vb mb B w F) :
    Calls Try.prog 26 #[.pointer (some ⟨vb, 0, none⟩)] w fun e w' => ∃ jb', e = .returned (.tuple #[.pointer (some ⟨jb', 0, none⟩), .int .i64 0]) ∧ To (DvL t vb mb jb' { B with pend := [] }) F w w' := by
  obtain ⟨v, C, h1, h2, h3, k1⟩ := h
  exact open_v0 w F v C h1 h2 h3 k1
theorem commit_l (ht : t + 1 ≤ 900) (w : World) (F : List Nat) (h : DvL t vb mb jb B w F) :
    Calls Try.prog 22 #[.pointer (some ⟨jb, 0, none⟩)] w fun e w' =>
      (e = .returned (.tuple #[.int .i64 (bCommit B).1.1, .int .i64 (bCommit B).1.2]) ∧ To (DvL (t + 1) vb mb jb (bCommit B).2) F w w') ∨
      (e = .returned (.tuple #[.int .i64 0, .int .i64 20]) ∧ (bCommit B).1.2 = 0 ∧ To (DvX (t + 1) vb mb jb B (bCommit B).2) F w w') := by
  obtain ⟨v, C, h1, h2, h3, h5⟩ := h
  have hm := commit_m jb vb mb v (jOf B) B.ring h1.secs h3.r0 h3.r9 (by rw [h1.pend]; omega) h3.room.jfit
  have hbn := h3.commit ht
  by_cases hr : usedN B.groups + secsN B.pend ≤ B.ring
  · rw [bCommit_ok B hr] at hbn ⊢
    rcases commit_lim h1 h2 h3.room hr with ⟨v', C', e, g', d'⟩ | ⟨v', e, g'⟩
    · rw [e] at hm
      exact (hm w F h5).mono fun e w' hk => .inl ⟨hk.1, hk.2.imp fun w F h => ⟨v', C', g', d', hbn, h⟩⟩
    · rw [e] at hm
      exact (hm w F h5).mono fun e w' hk => .inr ⟨hk.1, rfl, hk.2.imp fun w F h => ⟨v', g', ⟨h3.up (by omega) ht, hbn, rfl, .inr (by show B.groups.length ≠ (B.groups ++ [B.pend]).length; simp)⟩, h⟩⟩
  · rw [commit_full hr] at hm
    rw [bCommit_full B hr] at hbn ⊢
    exact (hm w F h5).mono fun e w' hk => .inl ⟨hk.1, hk.2.imp fun w F h => ⟨v, C, h1, h2, hbn, h⟩⟩
theorem drop_l (n : Int) (ht : t + 1 ≤ 900) (w : World) (F : List Nat) (h : DvL t vb mb jb B w F) :
    Calls Try.prog 31 #[.pointer (some ⟨jb, 0, none⟩), .int .i64 n] w fun e w' =>
      (e = .returned (.int .i64 (bDrop B n).1) ∧ To (DvL (t + 1) vb mb jb (bDrop B n).2) F w w') ∨
      (e = .returned (.int .i64 20) ∧ (bDrop B n).1 = 0 ∧ To (DvX (t + 1) vb mb jb B (bDrop B n).2) F w w') := by
  obtain ⟨v, C, h1, h2, h3, h5⟩ := h
  have hm := drop_m jb vb mb v (jOf B) n h3.room.jfit h3.gs (Nat.le_refl _) (by rw [h1.pend]; omega)
  have hbn := h3.drop n ht
  by_cases hno : (B.first : Int) + B.groups.length - 1 < n ∨ n < B.first
  · have e1 : bDrop B n = ((bDrop B n).1, B) ∧ jDrop v (jOf B) n = ⟨(bDrop B n).1, v, jOf B⟩ := by
      have ej : jDrop v (jOf B) n = if (B.first : Int) + B.groups.length - 1 < n then ⟨2, v, jOf B⟩ else if n < B.first then ⟨0, v, jOf B⟩ else jDrop v (jOf B) n := by
        by_cases hx : (B.first : Int) + B.groups.length - 1 < n
        · rw [if_pos hx]
          unfold jDrop
          rw [if_neg (by simp [jOf])]
          exact if_pos hx
        · have hy := hno.resolve_left hx
          rw [if_neg hx, if_pos hy]
          unfold jDrop
          rw [if_neg (by simp [jOf])]
          exact (if_neg hx).trans (if_pos hy)
      rw [ej]
      unfold bDrop
      by_cases hx : (B.first : Int) + B.groups.length - 1 < n
      · simp only [if_pos hx]; exact ⟨trivial, trivial⟩
      · have hy := hno.resolve_left hx
        simp only [if_neg hx, if_pos hy]; exact ⟨trivial, trivial⟩
    rw [e1.2] at hm
    have e2 : (bDrop B n).2 = B := by rw [e1.1]
    rw [e2] at hbn ⊢
    exact (hm w F h5).mono fun e w' hk => .inl ⟨hk.1, hk.2.imp fun w F h => ⟨v, C, h1, h2, hbn, h⟩⟩
  · have hc : n = (B.first : Int) + (n - B.first + 1).toNat - 1 := by omega
    have e1 : bDrop B n = (0, bDropN B (n - B.first + 1).toNat) := by
      unfold bDrop
      rw [if_neg (fun h => hno (.inl h)), if_neg (fun h => hno (.inr h))]
    rw [e1] at hbn ⊢
    have hd := drop_lim h1 h2 h3.room (n - B.first + 1).toNat (by omega) (by omega)
    rw [← hc] at hd
    rcases hd with ⟨v', C', e, g', d'⟩ | ⟨v', e, g'⟩
    · rw [e] at hm
      exact (hm w F h5).mono fun e w' hk => .inl ⟨hk.1, hk.2.imp fun w F h => ⟨v', C', g', d', hbn, h⟩⟩
    · rw [e] at hm
      exact (hm w F h5).mono fun e w' hk => .inr ⟨hk.1, rfl, hk.2.imp fun w F h => ⟨v', g', ⟨h3.up (by omega) ht, hbn, rfl, .inl (by show B.first ≠ B.first + (n - B.first + 1).toNat; omega)⟩, h⟩⟩
theorem agrees_l {bk : Nat} (w : World) (F P : List Nat) (h : DvL t vb mb jb B w F) (hb : BH bk B w P) :
    Calls Try.prog 24 #[.pointer (some ⟨bk, 0, none⟩), .pointer (some ⟨jb, 0, none⟩)] w fun e w' => e = .returned (.bool true) ∧ Keep [] w w' := by
  obtain ⟨v, C, h1, h2, h3, F1, F2, k1, k2, d, rfl⟩ := h
  exact agrees_t w vb mb jb bk v _ _ F1 F2 P k1 k2 hb (same_self B) h3.fit (by rw [h1.secs]; rfl) h3.r9
theorem limit_l (x : Int) (hx : x ≤ 1000) : Met Try.prog 35 #[.pointer (some ⟨vb, 0, none⟩), .int .i64 x] (.tuple #[]) (DvL t vb mb jb B) (DvL t vb mb jb B) := by
  rintro w F ⟨v, C, h1, h2, h3, h5⟩
  exact (((limit_m vb mb v x).L (jh_stab jb vb (jOf B))) w F h5).mono fun e w' hk => ⟨hk.1, hk.2.imp fun w F h => ⟨_, C, h1.limit x hx, h2, h3, h⟩⟩
theorem down_l : Met Try.prog 37 #[.pointer (some ⟨vb, 0, none⟩)] (.bool false) (DvL t vb mb jb B) (DvL t vb mb jb B) := by
  rintro w F ⟨v, C, h1, h2, h3, h5⟩
  exact (((down_m vb mb v).L (jh_stab jb vb (jOf B))) w F h5).mono fun e w' hk => ⟨by rw [hk.1, h1.down], hk.2.imp fun w F h => ⟨v, C, h1, h2, h3, h⟩⟩
/-! ### behind a failure -/
theorem down_x : Met Try.prog 37 #[.pointer (some ⟨vb, 0, none⟩)] (.bool true) (DvX t vb mb jb B B1) (DvX t vb mb jb B B1) := by
  rintro w F ⟨v, h1, h2, h5⟩
  exact (((down_m vb mb v).L (jh_stab jb vb _)) w F h5).mono fun e w' hk => ⟨by rw [hk.1, h1.down], hk.2.imp fun w F h => ⟨v, h1, h2, h⟩⟩
theorem append_x (s : ByteArray) (hs : s.size ≤ 20000) : Met Try.prog 13 #[.pointer (some ⟨jb, 0, none⟩), .string s] (.int .i64 18) (DvX t vb mb jb B B1) (DvX t vb mb jb B B1) := by
  rintro w F ⟨v, h1, h2, h5⟩
  have hm := append_m jb vb { jOf B with broken := true } s (by omega) h2.1.l
  have e : jApp { jOf B with broken := true } s = (18, { jOf B with broken := true }) := by unfold jApp; rw [if_pos rfl]
  rw [e] at hm
  exact ((hm.R (volH_stab vb mb v)) w F h5).mono fun e w' hk => ⟨hk.1, hk.2.imp fun w F h => ⟨v, h1, h2, h⟩⟩
theorem discard_x : Met Try.prog 15 #[.pointer (some ⟨jb, 0, none⟩)] (.int .i64 18) (DvX t vb mb jb B B1) (DvX t vb mb jb B B1) := by
  rintro w F ⟨v, h1, h2, h5⟩
  have hm := discard_m jb vb { jOf B with broken := true }
  have e : jDisc { jOf B with broken := true } = (18, { jOf B with broken := true }) := by unfold jDisc; rw [if_pos rfl]
  rw [e] at hm
  exact ((hm.R (volH_stab vb mb v)) w F h5).mono fun e w' hk => ⟨hk.1, hk.2.imp fun w F h => ⟨v, h1, h2, h⟩⟩
theorem brk_fit (h : BOk B t) : JFit { jOf B with broken := true } := ⟨h.room.jfit.g, h.room.jfit.f, h.room.jfit.p, h.room.jfit.k, h.room.jfit.n, h.room.jfit.l, h.room.jfit.s⟩
theorem drop_x (n : Int) : Met Try.prog 31 #[.pointer (some ⟨jb, 0, none⟩), .int .i64 n] (.int .i64 18) (DvX t vb mb jb B B1) (DvX t vb mb jb B B1) := by
  rintro w F ⟨v, h1, h2, h5⟩
  have hm := drop_m jb vb mb v { jOf B with broken := true } n (brk_fit h2.1) h2.1.gs (Nat.le_refl _) h1.pend
  have e : jDrop v { jOf B with broken := true } n = ⟨18, v, { jOf B with broken := true }⟩ := by unfold jDrop; rw [if_pos rfl]
  rw [e] at hm
  exact (hm w F h5).mono fun e w' hk => ⟨hk.1, hk.2.imp fun w F h => ⟨v, h1, h2, h⟩⟩
theorem commit_x : Met Try.prog 22 #[.pointer (some ⟨jb, 0, none⟩)] (.tuple #[.int .i64 0, .int .i64 18]) (DvX t vb mb jb B B1) (DvX t vb mb jb B B1) := by
  rintro w F ⟨v, h1, h2, h5⟩
  have hm := commit_m jb vb mb v { jOf B with broken := true } B.ring h1.secs h2.1.r0 h2.1.r9 h1.pend (brk_fit h2.1)
  have e : jCommit B.ring v { jOf B with broken := true } = ⟨0, 18, v, { jOf B with broken := true }⟩ := by unfold jCommit; rw [if_pos rfl]
  rw [e] at hm
  exact (hm w F h5).mono fun e w' hk => ⟨hk.1, hk.2.imp fun w F h => ⟨v, h1, h2, h⟩⟩
theorem start_x (sv : Value) (zs : List Nat) (hzl : zs.length ≤ maxLen) (w : World) (F : List Nat) (h : DvX t vb mb jb B B1 w F) (hz : ByteRow w sv zs) :
    Calls Try.prog 38 #[.pointer (some ⟨vb, 0, none⟩), sv] w fun e w' => e = .returned (.tuple #[]) ∧ ∃ B', (B' = B ∨ B' = B1) ∧ To (DvV t vb mb B') F w w' := by
  obtain ⟨v, h1, ⟨o1, o2, o3, o4⟩, F1, F2, k1, k2, d, rfl⟩ := h
  refine (start_m2 vb mb v sv zs h1.down h1.rng hzl (by have := h1.pend; omega) w F1 k1 hz).mono ?_
  rintro e w' ⟨rfl, F', f1, f2, f3⟩
  obtain ⟨C', u, hd⟩ := h1.start zs
  have g2 : Keep (F1 ++ F2) w w' := f2.mono (by intro x hx; exact List.mem_append_left _ hx)
  have g3 : ∀ x ∈ F', x ∈ F1 ++ F2 ∨ w.heap.size ≤ x := fun x hx => (f3 x hx).imp (fun h => List.mem_append_left _ h) id
  rcases hd with hd | hd
  · exact ⟨rfl, B, .inl rfl, F', ⟨_, C', u, hd, o1, f1⟩, g2, g3⟩
  · exact ⟨rfl, B1, .inr rfl, F', ⟨_, C', by rw [o3]; exact u, hd, o2, f1⟩, g2, g3⟩
end
end Go.Proofs.Ytgmggmpkbfljfaa
