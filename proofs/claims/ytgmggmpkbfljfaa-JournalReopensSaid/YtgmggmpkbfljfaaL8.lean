/- For any operations the statement JournalReopens returns true. -/
import Derived.Test.YtgmggmpkbfljfaaPfa
set_option linter.unusedVariables false
set_option linter.unusedSimpArgs false
set_option maxRecDepth 100000
namespace Go.Proofs.Ytgmggmpkbfljfaa
open Go.RowKit
theorem Live.ps8 {t : Nat} {w wk : World} {vb mb jb bk : Nat} {B B' : Bk} (h : Live t w wk vb mb jb bk B B') : To (Sep (DvJ t vb mb jb B) (BkO bk t B')) [] w wk := by
  obtain ⟨v, C, h1, h2, h3, h4, h5⟩ := h
  refine h5.imp fun w F hF => ?_
  obtain ⟨F1, F2, k1, k2, d, rfl⟩ := sep_assoc' w F hF
  exact ⟨F1, F2, ⟨v, C, h1, h2, h3, k1⟩, ⟨h4, k2⟩, d, rfl⟩
theorem alloc_size8 (w : World) (o : Obj) : (w.alloc o).heap.size = w.heap.size + 1 := by simp
theorem app_take (B : Bk) (m : Nat) (hm : m < B.pend.length) (hl : B.pend.length ≤ 256) (hs : ∀ s ∈ B.pend, s.size ≤ 16384) : bApp { B with pend := B.pend.take m } B.pend[m] = (0, { B with pend := B.pend.take (m + 1) }) := by
  have h1 := hs _ (List.getElem_mem hm)
  have h2 : (B.pend.take m).length = m := by rw [List.length_take]; omega
  unfold bApp
  rw [if_neg (by omega), if_neg (by show ¬ 256 ≤ (B.pend.take m).length; omega), ← take_succ_get B.pend m hm]
theorem To.of0 {A : HP} {w wk : World} (h : To A [] w wk) : Keep [] w wk := by obtain ⟨F, _, hk, _⟩ := h; exact hk
theorem To.parts3 {A B C : HP} {F : List Nat} {w wk : World} (h : To (Sep (Sep A B) C) F w wk) : ∃ F1 F2 F3, A wk F1 ∧ B wk F2 ∧ C wk F3 := by
  obtain ⟨F', ⟨F12, F3, ⟨F1, F2, h1, h2, d, rfl⟩, h3, d3, rfl⟩, _⟩ := h
  exact ⟨F1, F2, F3, h1, h2, h3⟩
theorem To.boxAt2 {A B : HP} {F : List Nat} {w wk : World} {bx : Nat} {cs : Array Value} {T : TypeId} (h : To (Sep A (Sep B (BoxH bx cs T))) F w wk) : wk.heap[bx]? = some (.cells cs T (0, 0)) := by
  obtain ⟨F', ⟨F1, F2, _, ⟨F3, F4, _, ⟨_, h2⟩, _⟩, _⟩, _⟩ := h; exact h2
section
variable {t vb mb jb bk wb nb ob cb xb : Nat} {B B1 : Bk} {A : Nat → Bk → HP} {F : List Nat} {w wk : World}
def PS2 (bk vb mb t jb : Nat) (B B' : Bk) : HP := Sep (DvJ t vb mb jb B) (BkO bk t B')
theorem perform_f (I : BookI bk A) (ht : t + 1 ≤ 900) (x : OpJ) (hx : x.ok) {R : HP} (hR : Stab R) (h : To (Sep (PS A vb mb t jb B) R) F w wk) :
    Calls Try.prog 33 #[.pointer (some ⟨vb, 0, none⟩), .pointer (some ⟨jb, 0, none⟩), .pointer (some ⟨bk, 0, none⟩), .agg #[.int .u8 x.kind, .int .i8 x.num, .int .u16 x.rcd]] wk fun e w' => ∃ jb', e = .returned (.tuple #[.pointer (some ⟨jb', 0, none⟩), .bool true]) ∧ (x.kind % 8 ≠ 7 → jb' = jb) ∧ To (Sep (PS A vb mb (t + 1) jb' (bOp x B)) R) F w w' := by
  obtain ⟨F', ⟨F1, F2, h1, h2, d, rfl⟩, hk, hs⟩ := h
  refine (perform_t I ht x hx wk F1 h1).mono ?_
  rintro e w' ⟨jb', rfl, hj, h3⟩
  exact ⟨jb', rfl, hj, (To.sepL hR h2 d h3).before hk hs⟩
theorem BH.boxS {bk : Nat} {B : Bk} {w : World} {F : List Nat} (h : BH bk B w F) :
    ∃ go gc po pc, w.heap[bk]? = some (.cells (bcells B.ring B.gen B.first B.place (.slice go B.groups.length gc) (.slice po B.pend.length pc)) 43 (0, 0)) ∧ RowR w (.slice po B.pend.length pc) (scells B.pend) := by
  obtain ⟨gv, pv, G, hG, hB⟩ := h
  obtain ⟨h1, h2, h3⟩ := hB.rows
  obtain ⟨go, gc, e1⟩ := h1.form
  obtain ⟨po, pc, e2⟩ := h3.form
  rw [List.length_map] at e1
  rw [scells_length] at e2
  have hl : B.groups.length = G.length := by rw [← hG, List.length_map]
  have hb := hB.box
  subst e1 e2
  rw [hl]
  exact ⟨go, gc, po, pc, hb, h3⟩
/-- A copy of the book's box, and another box. -/
theorem copy_b {w3 : World} {S2 : HP} (hS2 : Stab S2) {gv pv : Value} {cs : Array Value} {T : TypeId} (h : To (Sep (Sep (DvJ t vb mb jb B) (BkO bk t B)) S2) F w wk)
    (hbx : wk.heap[bk]? = some (.cells (bcells B.ring B.gen B.first B.place gv pv) 43 (0, 0)))
    (hk : Keep [] wk w3) (hx : wk.heap.size ≤ xb) (hc : wk.heap.size ≤ cb) (hne : xb ≠ cb) (hxb : w3.heap[xb]? = some (.cells cs T (0, 0))) (hcb : w3.heap[cb]? = some (.cells (bcells B.ring B.gen B.first B.place gv pv) 43 (0, 0))) :
    To (Sep (PS (B2 bk cb t B) vb mb t jb B) (Sep S2 (BoxH xb cs T))) F w w3 := by
  obtain ⟨F', ⟨F12, F3, ⟨F1, F2, h1, ⟨hok, gv', pv', G, hG, hBS⟩, d12, rfl⟩, h3, d3, rfl⟩, hk0, hs0⟩ := h
  have e := hBS.box.symm.trans hbx
  have e1 : gv' = gv ∧ pv' = pv := by
    simp only [bcells] at e
    simpa using e
  obtain ⟨rfl, rfl⟩ := e1
  have l1 := (dvj_stab _ _ _ _ _).lt h1
  have l2 := (bs_stab _ _ _ _ _ _ _ _ _).lt hBS
  have l3 := hS2.lt h3
  have hBS3 := (bs_stab _ _ _ _ _ _ _ _ _).keep hBS hk (by simp)
  obtain ⟨Fb, R, ⟨rfl, hb1⟩, hR, hd, rfl⟩ := hBS3
  have lR : ∀ x ∈ R, x < wk.heap.size := fun x hx => l2 x (List.mem_append_right _ hx)
  have lb : bk < wk.heap.size := l2 bk (by simp)
  refine ⟨(F1 ++ (([bk] ++ R) ++ ([cb] ++ R))) ++ (F3 ++ [xb]), ⟨_, _, ⟨F1, _, (dvj_stab _ _ _ _ _).keep h1 hk (by simp), ⟨hok, hok, by omega, [bk] ++ R, [cb] ++ R, ⟨gv', pv', G, hG, [bk], R, ⟨rfl, hb1⟩, hR, hd, rfl⟩, ⟨gv', pv', G, hG, [cb], R, ⟨rfl, hcb⟩, hR, ?_, rfl⟩, ?_, ?_, rfl⟩, ?_, rfl⟩, ⟨F3, [xb], hS2.keep h3 hk (by simp), ⟨rfl, hxb⟩, ?_, rfl⟩, ?_, rfl⟩, hk0.trans (hk.mono (G := F) (by simp)) (fun x hx => .inl hx), ?_⟩
  · intro x hx hm
    rw [List.mem_singleton] at hx
    have := lR x hm
    omega
  · intro hm
    rcases List.mem_append.1 hm with h | h
    · rw [List.mem_singleton] at h; omega
    · exact hd bk (by simp) h
  · intro hm
    rcases List.mem_append.1 hm with h | h
    · rw [List.mem_singleton] at h; omega
    · have := lR cb h; omega
  · intro x hx hm
    rcases List.mem_append.1 hm with h | h
    · exact d12 x hx h
    · rcases List.mem_append.1 h with h | h
      · rw [List.mem_singleton] at h; have := l1 x hx; omega
      · exact d12 x hx (List.mem_append_right _ h)
  · intro x hx hm
    rw [List.mem_singleton] at hm
    have := l3 x hx; omega
  · intro x hx hm
    have hx2 : x ∈ F1 ++ ([bk] ++ R) ∨ x = cb := by
      rcases List.mem_append.1 hx with h | h
      · exact .inl (List.mem_append_left _ h)
      · rcases List.mem_append.1 h with h | h
        · exact .inl (List.mem_append_right _ h)
        · rcases List.mem_append.1 h with h | h
          · exact .inr (by simpa using h)
          · exact .inl (List.mem_append_right _ (List.mem_append_right _ h))
    rcases hx2 with hx2 | hx2
    · rcases List.mem_append.1 hm with h | h
      · exact d3 x hx2 h
      · rw [List.mem_singleton] at h
        rcases List.mem_append.1 hx2 with h' | h'
        · have := l1 x h'; omega
        · have := l2 x h'; omega
    · rcases List.mem_append.1 hm with h | h
      · have := l3 x h; omega
      · rw [List.mem_singleton] at h; omega
  · intro x hx
    simp only [List.mem_append, List.mem_singleton] at hx
    have hw := hk0.size
    rcases hx with (h | (h | h) | h | h) | h | h
    · exact hs0 x (by simp [h])
    · exact hs0 x (by simp [h])
    · exact hs0 x (by simp [h])
    · exact .inr (by omega)
    · exact hs0 x (by simp [h])
    · exact hs0 x (by simp [h])
    · exact .inr (by omega)
theorem swap_b {S1 S2 X : HP} {t1 t2 : Nat} {Bb Bc : Bk} (h : To (Sep (Sep S1 (B2 bk cb t1 Bc t2 Bb)) (Sep S2 X)) F w wk) : To (Sep (Sep S2 (B2 cb bk t2 Bb t1 Bc)) (Sep S1 X)) F w wk := by
  refine h.weak fun F' hF => ?_
  obtain ⟨F12, F34, ⟨F1, F2, h1, ⟨k1, k2, k3, Fb, Fc, k4, k5, k6, k7, rfl⟩, d12, rfl⟩, ⟨F3, F4, h3, h4, d34, rfl⟩, d, rfl⟩ := hF
  refine ⟨(F3 ++ (Fc ++ Fb)) ++ (F1 ++ F4), ⟨_, _, ⟨F3, Fc ++ Fb, h3, ⟨k2, k1, Ne.symm k3, Fc, Fb, k5, k4, k7, k6, rfl⟩, fun x hx hm => ?_, rfl⟩, ⟨F1, F4, h1, h4, fun x hx hm => ?_, rfl⟩, fun x hx hm => ?_, rfl⟩, fun x hx => ?_⟩
  · refine d x ?_ (List.mem_append_left _ hx)
    simp only [List.mem_append] at hm ⊢
    exact .inr hm.symm
  · exact d x (List.mem_append_left _ hx) (List.mem_append_right _ hm)
  · simp only [List.mem_append] at hx hm
    rcases hx with hx | hx
    · rcases hm with hm | hm
      · exact d x (List.mem_append_left _ hm) (List.mem_append_left _ hx)
      · exact d34 x hx hm
    · rcases hm with hm | hm
      · exact d12 x hm (by simp only [List.mem_append]; exact hx.symm)
      · exact d x (by simp only [List.mem_append]; exact .inr hx.symm) (List.mem_append_right _ hm)
  · simp only [List.mem_append] at hx ⊢
    rcases hx with (h | h | h) | h | h
    · exact .inr (.inl h)
    · exact .inl (.inr (.inr h))
    · exact .inl (.inr (.inl h))
    · exact .inl (.inl h)
    · exact .inr (.inr h)
theorem end_b {S1 S2 X : HP} {t1 t2 : Nat} {Bb Bc : Bk} (h : To (Sep (Sep S2 (B2 cb bk t2 Bb t1 Bc)) (Sep S1 X)) F w wk) : To (Sep (Sep S1 (BkO bk t2 Bb)) S2) F w wk := by
  refine (swap_b h).weak fun F' hF => ?_
  obtain ⟨F12, F34, ⟨F1, F2, h1, ⟨k1, k2, k3, Fb, Fc, k4, k5, k6, k7, rfl⟩, d12, rfl⟩, ⟨F3, F4, h3, h4, d34, rfl⟩, d, rfl⟩ := hF
  refine ⟨(F1 ++ Fb) ++ F3, ⟨_, _, ⟨F1, Fb, h1, ⟨k1, k4⟩, fun x hx hm => d12 x hx (List.mem_append_left _ hm), rfl⟩, h3, fun x hx hm => ?_, rfl⟩, fun x hx => ?_⟩
  · refine d x ?_ (List.mem_append_left _ hm)
    simp only [List.mem_append] at hx ⊢
    rcases hx with h | h
    · exact .inl h
    · exact .inr (.inl h)
  · simp only [List.mem_append] at hx ⊢
    rcases hx with (h | h) | h
    · exact .inl (.inl h)
    · exact .inl (.inr (.inl h))
    · exact .inr (.inl h)
end
set_option maxHeartbeats 8000000 in
theorem reopens (a : Int) (ha : 0 ≤ a ∧ a ≤ 255) (lv : Value) (w : World) (hl : JOpsArg w lv) :
    Calls Try.prog 8 #[.int .u8 a, lv] w fun e w' => e = .returned (.bool true) ∧ Below w.heap.size w w' := by
  obtain ⟨os, hz⟩ := hl
  obtain ⟨la, lc, rfl, hlm⟩ := hz.form
  obtain ⟨n0, rfl⟩ : ∃ n0 : Nat, a = n0 := ⟨a.toNat, by omega⟩
  have HSz := Lib.hid (fun w => sizeOf_c n0 w)
  obtain ⟨n, hn⟩ : ∃ n, 3 + n0 % 12 = n := ⟨_, rfl⟩
  rw [hn] at HSz
  have hn3 : 3 ≤ n ∧ n ≤ 14 := by omega
  have HM := Lib.hid (fun w => made_c w n (by omega) (by omega))
  have HZ := Lib.hid hz
  clear hz
  obtain ⟨ln, hln⟩ : ∃ ln, os.length = ln := ⟨_, rfl⟩
  have Hln := Lib.hid hln
  rw [hln] at hlm ⊢
  clear hln
  go_enter Try.func8, Try.ntmps8
  go_wp2_with fail
  refine (HSz.out w).mono ?_
  rintro e w0 ⟨rfl, rfl⟩
  dsimp only
  go_wp2_with fail
  refine (HM.out _).mono ?_
  rintro e w1 ⟨vb, mb, jb, bk, rfl, hmade⟩
  dsimp only
  have HL1 := Lib.hid (live_made hmade (by omega) (by omega)).ps8
  clear hmade
  go_wp2_with fail
  refine (HSz.out w1).mono ?_
  rintro e w1' ⟨rfl, rfl⟩
  dsimp only
  go_wp2_with fail
  refine (HM.out _).mono ?_
  rintro e w2 ⟨wb, nb, ob, bk2, rfl, hmade⟩
  dsimp only
  have HL2 : Hid (To (Sep (PS (BkO bk) vb mb 0 jb (bEmpty (n - 2) 1)) (DvJ 0 wb nb ob (bEmpty (n - 2) 1))) [] w0 w2) :=
    sep_new (ps_stab (bkO_book bk)) HL1.out ((live_made hmade (by omega) (by omega)).ps8.fst)
  clear hmade HL1
  go_wp2_with fail
  refine (known_c w2).mono ?_
  rintro e w3 ⟨rfl, hk3⟩
  dsimp only
  have HL3 := Lib.hid (HL2.out.kept ((ps_stab (bkO_book bk)).sep (dvj_stab _ _ _ _ _)) hk3)
  clear hk3 HL2
  go_wp2_with fail
  go_loopw [6, 11] (fun jv i wr => ∃ (k jb : Nat) (B : Bk), k ≤ 20 ∧ k ≤ ln ∧ i = .int .i64 k ∧ jv = .pointer (some ⟨jb, 0, none⟩) ∧ To (Sep (PS (BkO bk) vb mb k jb B) (DvJ k wb nb ob B)) [] w0 wr) (fun _ i _ => 21 - (intOf i).toNat)
  case atStart => exact ⟨0, jb, _, by omega, by omega, rfl, rfl, HL3.out⟩
  case round =>
    obtain ⟨k, jb1, B, hk20, hkl, rfl, rfl, ht⟩ := hrel
    have HT := Lib.hid ht
    clear ht HL3 HM
    by_cases hlt : k < ln
    · by_cases hlt2 : k < 20
      · have hz := HZ.out
        obtain ⟨lb, lo, rfl, hok, hel⟩ := hz.elem k (by rw [Hln.out]; exact hlt)
        obtain ⟨e0, e1, e2⟩ := hel wr HT.out.of0
        have hlbr : lb < wr.heap.size := World.block_lt_of_cell? wr _ e0
        generalize os[k]'(by rw [Hln.out]; exact hlt) = x at *
        obtain ⟨kd, nm, rd⟩ := x
        dsimp only at e0 e1 e2 hok
        obtain ⟨go, gc, po, pc, hbx, _⟩ : ∃ go gc po pc, wr.heap[bk]? = some (.cells (bcells B.ring B.gen B.first B.place (.slice go B.groups.length gc) (.slice po B.pend.length pc)) 43 (0, 0)) ∧ RowR wr (.slice po B.pend.length pc) (scells B.pend) := by
          obtain ⟨F1, F2, F3, h1, h2, h3⟩ := HT.out.parts3
          exact h2.2.boxS
        have hcb := cell_of hbx
        have hfb := frozen_of hbx
        have hlt9 := lt_of_heap hbx
        simp only [bcells] at hcb
        have HX := Lib.hid hok
        have HBx := Lib.hid hbx
        clear hel hz hok hbx
        go_wp2_with fail
        obtain ⟨kq, hkq⟩ : ∃ kq : Nat, (kd : Int) % 6 = kq := ⟨kd % 6, by omega⟩
        have hok : OpJ.ok ⟨kq, nm, rd⟩ := ⟨by show kq ≤ 255; omega, HX.out.num, HX.out.rcd⟩
        have hk7 : (⟨kq, nm, rd⟩ : OpJ).kind % 8 ≠ 7 := by show kq % 8 ≠ 7; omega
        rw [hkq]
        have HC : Hid (To (Sep (PS (B2 bk (wr.heap.size + 1) k B) vb mb k jb1 B) (Sep (DvJ k wb nb ob B) (BoxH wr.heap.size #[.int .u8 kq, .int .i8 nm, .int .u16 rd] 64))) [] w0
            ((wr.alloc (.cells #[.int .u8 kq, .int .i8 nm, .int .u16 rd] 64)).alloc (.cells (bcells B.ring B.gen B.first B.place (.slice go B.groups.length gc) (.slice po B.pend.length pc)) 43))) := by
          have hsz : ∀ o, (wr.alloc o).heap.size = wr.heap.size + 1 := alloc_size8 wr
          refine copy_b (dvj_stab _ _ _ _ _) HT.out HBx.out ((Keep.alloc [] wr _).trans0 (Keep.alloc [] _ _)) (Nat.le_refl _) (by omega) (by omega) ?_ ?_
          · exact (Keep.alloc [] _ _).heap (World.alloc_heap_new wr _) (by simp)
          · have := World.alloc_heap_new (wr.alloc (.cells #[.int .u8 kq, .int .i8 nm, .int .u16 rd] 64)) (.cells (bcells B.ring B.gen B.first B.place (.slice go B.groups.length gc) (.slice po B.pend.length pc)) 43)
            rw [hsz] at this
            exact this
        show Calls _ _ _ ((wr.alloc (.cells #[.int .u8 kq, .int .i8 nm, .int .u16 rd] 64)).alloc (.cells (bcells B.ring B.gen B.first B.place (.slice go B.groups.length gc) (.slice po B.pend.length pc)) 43)) _
        generalize ((wr.alloc (.cells #[.int .u8 kq, .int .i8 nm, .int .u16 rd] 64)).alloc (.cells (bcells B.ring B.gen B.first B.place (.slice go B.groups.length gc) (.slice po B.pend.length pc)) 43)) = w4 at *
        generalize wr.heap.size + 1 = cb at *
        generalize wr.heap.size = xb at *
        clear hcb hfb hlt9 HBx HX hkq HT e0 e1 e2
        have HP := Lib.hid (perform_f (b2_book bk cb k B) (by omega) ⟨kq, nm, rd⟩ hok ((dvj_stab k wb nb ob B).sep (boxH_stab xb #[.int .u8 kq, .int .i8 nm, .int .u16 rd] 64)) HC.out)
        have Hok := Lib.hid (And.intro hok hk7)
        clear HC hok hk7
        generalize hB1 : bOp ⟨kq, nm, rd⟩ B = B1 at *
        have HB1 := Lib.hid hB1
        clear hB1
        refine HP.out.mono ?_
        rintro e w5 ⟨jb2, rfl, _, ht5⟩
        dsimp only
        have hx5 := cell_of ht5.boxAt2
        have HS5 := Lib.hid (swap_b ht5)
        clear ht5 HP
        go_wp2_with fail
        have HP := Lib.hid (perform_f (b2_book cb bk (k + 1) B1) (by omega) ⟨kq, nm, rd⟩ Hok.out.1 ((dvj_stab (k + 1) vb mb jb2 B1).sep (boxH_stab xb #[.int .u8 kq, .int .i8 nm, .int .u16 rd] 64)) HS5.out)
        rw [HB1.out] at HP
        clear HS5 hx5
        refine HP.out.mono ?_
        rintro e w6 ⟨ob2, rfl, ho, ht6⟩
        dsimp only
        have ho2 := ho Hok.out.2
        subst ho2
        have ht6 := end_b ht6
        obtain ⟨F1, F2, F3, h1, h2, h3⟩ := ht6.parts3
        have HA := Lib.hid (agrees_d w6 F1 F2 h1 h2.2)
        have HT6 := Lib.hid ht6
        clear ho ht6 h1 h2 h3 HP HB1 Hok
        go_wp2_with fail
        refine HA.out.mono ?_
        rintro e w7 ⟨rfl, hk7⟩
        dsimp only
        have ht7 := HT6.out.kept ((ps_stab (bkO_book bk)).sep (dvj_stab _ _ _ _ _)) hk7
        obtain ⟨F1, F2, F3, h1, h2, h3⟩ := ht7.parts3
        have HA2 := Lib.hid (agrees_d w7 F3 F2 h3 h2.2)
        have HT7 := Lib.hid ht7
        clear hk7 ht7 h1 h2 h3 HT6 HA
        go_wp2_with fail
        refine HA2.out.mono ?_
        rintro e w8 ⟨rfl, hk8⟩
        dsimp only
        have ht8 := HT7.out.kept ((ps_stab (bkO_book bk)).sep (dvj_stab _ _ _ _ _)) hk8
        have HO := Lib.hid (open_ps (bkO_book bk) (dvj_stab _ _ _ _ _) ht8)
        clear hk8 ht8 HT7 HA2
        go_wp2_with fail
        refine HO.out.mono ?_
        rintro e w9 ⟨jb3, rfl, ht9⟩
        dsimp only
        have HT9 := Lib.hid ht9
        clear ht9 HO
        go_wp2_with fail
        go_loopw [20] (fun i wr => ∃ m : Nat, m ≤ B1.pend.length ∧ i = .int .i64 m ∧ To (Sep (PS2 bk vb mb (k + 1) jb3 { B1 with pend := B1.pend.take m } B1) (DvJ (k + 1) wb nb ob2 B1)) [] w0 wr) (fun i _ => B1.pend.length - (intOf i).toNat)
        case atStart => exact ⟨0, by omega, rfl, HT9.out⟩
        case round =>
          obtain ⟨m, hm, rfl, hti⟩ := hrel
          obtain ⟨F1, F2, F3, h1, h2, h3⟩ := hti.parts3
          obtain ⟨go, gc, po, pc, hbx, hrow⟩ := h2.2.boxS
          have hcb := cell_of hbx
          have hlt9 := lt_of_heap hbx
          simp only [bcells] at hcb
          have Hok1 := Lib.hid h2.1
          have HTi := Lib.hid hti
          have HRow := Lib.hid hrow
          clear hti h1 h2 h3 hbx hrow HT9
          by_cases hmlt : m < B1.pend.length
          · obtain ⟨pa, pq, pc', he, hel⟩ := HRow.out.elem (by rw [scells_length]; omega)
            have hpo : po = some ⟨pa, pq, none⟩ := by injection he
            subst hpo
            have hce := hel m (.string B1.pend[m]) (by simp [scells, List.getElem?_map, List.getElem?_eq_getElem hmlt])
            have hlp := World.block_lt_of_cell? wr _ hce
            have hap := app_take B1 m hmlt Hok1.out.l Hok1.out.s
            have hsz := Hok1.out.s _ (List.getElem_mem hmlt)
            have HM : Hid (Met Try.prog 13 #[.pointer (some ⟨jb3, 0, none⟩), .string B1.pend[m]] (.int .i64 0) (Sep (PS2 bk vb mb (k + 1) jb3 { B1 with pend := B1.pend.take m } B1) (DvJ (k + 1) wb nb ob2 B1)) (Sep (PS2 bk vb mb (k + 1) jb3 { B1 with pend := B1.pend.take (m + 1) } B1) (DvJ (k + 1) wb nb ob2 B1))) := by
              have := ((append_d (t := k + 1) (vb := vb) (mb := mb) (jb := jb3) (B := { B1 with pend := B1.pend.take m }) B1.pend[m] (by omega)).L (bkO_stab bk (k + 1) B1)).L (dvj_stab (k + 1) wb nb ob2 B1)
              rw [hap] at this
              exact this
            have Hmlt : Hid (m + 1 ≤ B1.pend.length) := hmlt
            have hm9 : m < 256 := by have := Hok1.out.l; omega
            generalize B1.pend[m] = s at *
            clear hel he hap hsz HRow
            go_wp2_with fail
            refine (HTi.out.callF HM.out).mono ?_
            rintro e w10 ⟨rfl, ht10⟩
            dsimp only
            have HT10 := Lib.hid ht10
            clear ht10 HM hce hcb
            go_wp2_with fail
            go_roundw
            case rel => exact ⟨m + 1, Hmlt.out, by go_num, HT10.out⟩
            case measure => have := Hmlt.out; simp [intOf]; omega
          · obtain rfl : m = B1.pend.length := by omega
            have hti := HTi.out
            rw [List.take_length] at hti
            have hti : To (Sep (PS (BkO bk) vb mb (k + 1) jb3 B1) (DvJ (k + 1) wb nb ob2 B1)) [] w0 wr := hti
            obtain ⟨F1, F2, F3, h1, h2, h3⟩ := hti.parts3
            have HA := Lib.hid (agrees_d wr F1 F2 h1 h2.2)
            have HTj := Lib.hid hti
            clear hti h1 h2 h3 HTi HRow Hok1
            go_wp2_with fail
            refine HA.out.mono ?_
            rintro e w10 ⟨rfl, hk10⟩
            dsimp only
            have HT10 := Lib.hid (HTj.out.kept ((ps_stab (bkO_book bk)).sep (dvj_stab _ _ _ _ _)) hk10)
            clear hk10 HTj HA hcb
            go_wp2_with fail
            go_roundw
            case rel => exact ⟨k + 1, jb3, B1, by omega, by omega, by go_num, rfl, HT10.out⟩
            case measure => simp [intOf]; omega
      · obtain rfl : k = 20 := by omega
        have HK := Lib.hid HT.out.of0.below0
        clear HT hlt2
        go_wp2_with fail
        go_ret
        exact ⟨rfl, HK.out⟩
    · obtain rfl : k = ln := by omega
      have HK := Lib.hid HT.out.of0.below0
      clear HT
      go_wp2_with fail
      go_ret
      exact ⟨rfl, HK.out⟩
/-! ### frame -/
open Go.ChangeShapes Go.WideShapes Go.ChangeAt
open Go.ChangeMaps (open_string shut_string)
theorem journalReopens_walk (a0 : Int) (w0 : (Lit.int .u8 a0).wf = true) (v1 : Value) (w : World) (m1 : JOpsArg w v1) :
    Calls Try.prog 8 #[.int .u8 a0, v1] w fun e w' => e = .returned (.bool true) ∧ Below w.heap.size w w' :=
  reopens a0 (Go.bounds_u8 w0) v1 w m1
theorem journalReopens_own : ownKnob Try.prog.godebug = none := by kernel_rfl
theorem journalReopens_laidOut : laidOutB Try.prog = true := by kernel_rfl
set_option maxRecDepth 100000 in
theorem journalReopens_lifted (os : Os) (started : os.Started) (H : Type) (enc : TypeId × Value → H) :
    ReturnsInHanded {} Try.checked os 8 .any (Rows.journalReopensSpec.pre6 enc Try.prog Try.f8 Rows.journalReopensRow.domain false) (Rows.journalReopensSpec.post enc Try.prog Try.f8 false true false false) := by
  refine returnsInHanded_of_change (C := Try.checked) journalReopens_own started (by kernel_rfl) Try.func8
    (ChangeSpec.witness6 (enc := enc) (C := Try.checked) false ⟨#[], #[.int .u8 0, .slice none 0 0], []⟩ 8 (by kernel_rfl) (by kernel_rfl) (by kernel_rfl) (by kernel_rfl)) ?_
  intro W base args ds gs before hval0 hW hcnd _
  have hval : ∀ (j : Nat) t v, Try.f8.params[j]? = some t → args[j]? = some v → Value.okWide Try.prog W .any base t v := hval0
  have hW' := hW
  obtain ⟨p, q, hA0, hV, rfl, hfz, hnd⟩ := hW
  have hA : DataW.TrodAll enc Try.prog W 0 (fun _ => true) true Try.f8.params.toList args.toList ds p := hA0
  rw [Try.params8] at hA hval
  obtain ⟨v0, vs0, d0, ds0, p0, q0, hargs, rfl, rfl, h0, r0⟩ := trodAll_cons hA
  obtain ⟨v1, vs1, d1, ds1, p1, q1, rfl, rfl, rfl, h1, r1⟩ := trodAll_cons r0
  obtain ⟨rfl, rfl, rfl⟩ := trodAll_nil r1
  obtain rfl : args = #[v0, v1] := by cases args; simp_all
  obtain ⟨rfl, rfl⟩ := trodVars_none hV
  have k0 := h0
  have lt0 : ∀ x ∈ p0, x.block < W.heap.size := by obtain ⟨m, hm⟩ := k0; exact DataW.trod_lt m _ _ _ hm
  have k1 := h1
  have lt1 : ∀ x ∈ p1, x.block < W.heap.size := by obtain ⟨m, hm⟩ := k1; exact DataW.trod_lt m _ _ _ hm
  obtain ⟨a0, rfl, rfl, rfl, w0⟩ := open_int Try.underlying5 (hval 0 5 v0 rfl rfl) h0
  have m1 : JOpsArg W v1 := JOpsArg_open (hval 1 59 v1 rfl rfl) h1
  clear hA0 hval0
  refine (journalReopens_walk a0 w0 v1 W m1).mono fun e W' ⟨he, bel⟩ => ?_
  subst he
  exact ⟨_, rfl, _, _, _, [], _, [], hW', trodAll_mk1 (shut_bool Try.underlying4 _), (trodAll_cons_mk (Below.trod journalReopens_laidOut (by kernel_rfl) (of_decide_eq_true (by kernel_rfl)) k0 bel lt0) (trodAll_cons_mk (Below.trod journalReopens_laidOut (by kernel_rfl) (of_decide_eq_true (by kernel_rfl)) k1 bel lt1) trodAll_mk0)), rfl, bel.frame _, fun h => by cases h⟩
theorem journalReopens_over : Rows.journalReopensRow.holds Try.pinned (OpenSpec.ofChange Rows.journalReopensSpec) :=
  OpenClaim.holds_of_wide 8 Try.f8 rfl rfl rfl rfl rfl rfl rfl ⟨rfl, rfl, rfl, rfl, rfl⟩ rfl rfl rfl rfl rfl (by kernel_rfl) Try.func8 (by kernel_rfl)
    (of_decide_eq_true (by kernel_rfl)) (by unfold Func.isWrapper; first | (rw [if_pos (by decide +kernel)]; kernel_rfl) | (rw [if_neg (by decide +kernel)]; exact ⟨rfl, rfl⟩))
    (fun os started H enc _ => journalReopens_lifted os started H enc)
/-- The statement. -/
theorem journalReopens_proved : Rows.JournalReopensSaid := journalReopens_over
#print axioms journalReopens_proved
end Go.Proofs.Ytgmggmpkbfljfaa
