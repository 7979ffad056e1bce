import Derived.Test.YtgmggmpkbfljfaaDa
/- made. -/
set_option linter.unusedVariables false
set_option linter.unusedSimpArgs false
set_option maxRecDepth 100000
namespace Go.Proofs.Ytgmggmpkbfljfaa
open Go.RowKit
def ST (vb mb : Nat) (v : Vol) (jb : Nat) (J : Jn) (bk : Nat) (B : Bk) : HP := Sep (VolH vb mb v) (Sep (JH jb vb J) (BH bk B))
theorem st_stab (vb mb : Nat) (v : Vol) (jb : Nat) (J : Jn) (bk : Nat) (B : Bk) : Stab (ST vb mb v jb J bk B) := (volH_stab _ _ _).sep ((jh_stab _ _ _).sep (bh_stab _ _))
theorem To.zero_low {A : HP} {w w' : World} (h : To A [] w w') : ∃ F, A w' F ∧ Keep [] w w' ∧ ∀ x ∈ F, w.heap.size ≤ x := by
  obtain ⟨F, h1, h2, h3⟩ := h
  exact ⟨F, h1, h2, fun x hx => by rcases h3 x hx with h | h; simp at h; exact h⟩
theorem sep_new {A B : HP} (hA : Stab A) {w w1 w' : World} (h : To A [] w w1) (hB : To B [] w1 w') : To (Sep A B) [] w w' := by
  obtain ⟨F, h1, h2, h3⟩ := h.zero_low
  obtain ⟨G, g1, g2, g3⟩ := hB.zero_low
  have hlt := hA.lt h1
  refine ⟨F ++ G, ⟨F, G, hA.keep h1 g2 (by simp), g1, fun x hx hx2 => ?_, rfl⟩, h2.trans0 g2, fun x hx => .inr ?_⟩
  · have := hlt x hx; have := g3 x hx2; omega
  · rcases List.mem_append.1 hx with h | h
    · exact h3 x h
    · have := g3 x h; have := h2.size; omega
theorem book_new (w : World) (r g f p : Nat) : To (BH w.heap.size ⟨r, g, f, p, [], []⟩) [] w (w.alloc (.cells (bcells r g f p (.slice none 0 0) (.slice none 0 0)) 43)) :=
  ⟨[w.heap.size], ⟨_, _, [], rfl, [w.heap.size], [], ⟨rfl, World.alloc_heap_new w _⟩, ⟨⟨.inl ⟨rfl, rfl⟩, CapR.none⟩, by simp, .inl ⟨rfl, rfl⟩, rfl⟩, by simp, rfl⟩, Keep.alloc _ _ _, fun x hx => .inr (by simp at hx; omega)⟩
theorem sep_assoc {A B D : HP} (w : World) (F : List Nat) (h : Sep (Sep A B) D w F) : Sep A (Sep B D) w F := by
  obtain ⟨F1, F2, ⟨F3, F4, h3, h4, d34, rfl⟩, h2, d12, rfl⟩ := h
  exact ⟨F3, F4 ++ F2, h3, ⟨F4, F2, h4, h2, fun x hx => d12 x (List.mem_append_right _ hx), rfl⟩, fun x hx hm => by
    rcases List.mem_append.1 hm with h | h
    · exact d34 x hx h
    · exact d12 x (List.mem_append_left _ hx) h, by simp⟩
/-- A device with an open journal on it, and the model of it. -/
def Made (n : Nat) (w w' : World) (vb mb jb bk : Nat) : Prop :=
  ∃ v C, Good v n C 0 ∧ DJ C (bEmpty (n - 2) 1) ∧ To (ST vb mb v jb (jOf (bEmpty (n - 2) 1)) bk (bEmpty (n - 2) 1)) [] w w'
set_option maxHeartbeats 4000000 in
theorem made_c (w : World) (n : Nat) (h3 : 3 ≤ n) (h9 : n ≤ 902) :
    Calls Try.prog 11 #[.int .i64 n] w fun e w' => ∃ vb mb jb bk, e = .returned (.tuple #[.pointer (some ⟨vb, 0, none⟩), .pointer (some ⟨jb, 0, none⟩), .pointer (some ⟨bk, 0, none⟩)]) ∧ Made n w w' vb mb jb bk := by
  obtain ⟨R, rfl⟩ : ∃ R, n = R + 2 := ⟨n - 2, by omega⟩
  obtain ⟨hf1, hf2⟩ := format_new R (by omega)
  have hdj := dj_first R
  have hroom := bEmpty_room R 1 (by omega) (by omega) (by omega)
  have hfit := (newest_zero (R + 2) (by omega)).2
  have hno := (newest_zero (R + 2) (by omega)).1
  have HO : Hid (∀ w' F vb mb, VolH vb mb (jFormat (vNew ((R + 2 : Nat) : Int))).2 w' F → Calls Try.prog 26 #[.pointer (some ⟨vb, 0, none⟩)] w' fun e w'' => ∃ jb, e = .returned (.tuple #[.pointer (some ⟨jb, 0, none⟩), .int .i64 0]) ∧ To (JH jb vb (jOf (bEmpty R 1))) [] w' w'') := fun w' F vb mb h =>
    open_c w' F vb mb _ R _ _ h (rel_open (B := bEmpty R 1) hf2 hdj hroom (by omega))
  have HF : Hid (∀ vb mb, Met Try.prog 27 #[.pointer (some ⟨vb, 0, none⟩)] (.int .i64 0) (VolH vb mb (vNew ((R + 2 : Nat) : Int))) (VolH vb mb (jFormat (vNew ((R + 2 : Nat) : Int))).2)) := fun vb mb => by
    have := format_m vb mb (vNew ((R + 2 : Nat) : Int)) hfit (by show (0 : Nat) ≤ 2000; omega) (by rw [hno]; show (0 : Nat) ≤ _; omega)
    rwa [hf1] at this
  have HN := Lib.hid (new_o ((R + 2 : Nat) : Int) w (by omega) (by omega))
  have hn2 : ((R + 2 : Nat) : Int) - 2 = (R : Int) := by omega
  have Hend : Hid (∀ v, v = (jFormat (vNew ((R + 2 : Nat) : Int))).2 → ∃ C, Good v (R + 2) C 0 ∧ DJ C (bEmpty R 1)) := fun v hv => ⟨_, hv ▸ hf2, hdj⟩
  generalize hv1 : (jFormat (vNew ((R + 2 : Nat) : Int))).2 = v1 at *
  generalize vNew ((R + 2 : Nat) : Int) = v0 at *
  clear hf1 hf2 hdj hroom hfit hno hv1
  generalize hni : ((R + 2 : Nat) : Int) = ni at *
  have hnib : ni ≤ 902 ∧ 3 ≤ ni := by omega
  clear hni
  go_enter Try.func11, Try.ntmps11
  go_wp2_with fail
  refine HN.out.mono ?_
  rintro e w1 ⟨rfl, hV1, hk1⟩
  dsimp only
  have HV1 := Lib.hid hV1
  have Hk1 := Lib.hid hk1
  clear hV1 hk1
  go_wp2_with fail
  refine (HF.out _ _ _ _ HV1.out).mono ?_
  rintro e w2 ⟨rfl, ht2⟩
  dsimp only
  have ht2' : To (VolH (w.heap.size + 1) w.heap.size v1) [] w w2 := ht2.before Hk1.out (fun x hx => .inr (by simp at hx; omega))
  obtain ⟨F2, hV2, hk2, hs2⟩ := ht2'.zero_low
  have HV2 := Lib.hid hV2
  have Ht2 := Lib.hid ht2'
  clear ht2 ht2' hV2 hk2 hs2
  go_wp2_with fail
  refine (HO.out w2 F2 _ _ HV2.out).mono ?_
  rintro e w3 ⟨jb, rfl, ht3⟩
  dsimp only
  have Ht3 := Lib.hid (sep_new (volH_stab _ _ _) Ht2.out ht3)
  clear ht3
  go_wp2_with fail
  (try simp only [Exit.inBlock, Exit.then])
  refine bodyPost_ret (results_tmp3 rfl _ _ _) rfl ⟨w.heap.size + 1, w.heap.size, jb, w3.heap.size, rfl, ?_⟩
  obtain ⟨C, hg, hd⟩ := Hend.out v1 rfl
  exact ⟨v1, C, hg, hd, (sep_new ((volH_stab _ _ _).sep (jh_stab _ _ _)) Ht3.out (book_new w3 R 1 1 0)).imp sep_assoc⟩
end Go.Proofs.Ytgmggmpkbfljfaa

/- known. -/
set_option linter.unusedVariables false
set_option linter.unusedSimpArgs false
set_option maxRecDepth 100000
namespace Go.Proofs.Ytgmggmpkbfljfaa
open Go.RowKit
theorem sep_assoc' {A B D : HP} (w : World) (F : List Nat) (h : Sep A (Sep B D) w F) : Sep (Sep A B) D w F := by
  obtain ⟨F1, F2, h1, ⟨F3, F4, h3, h4, d34, rfl⟩, d12, rfl⟩ := h
  exact ⟨F1 ++ F3, F4, ⟨F1, F3, h1, h3, fun x hx hm => d12 x hx (List.mem_append_left _ hm), rfl⟩, h4, fun x hx hm => by
    rcases List.mem_append.1 hx with h | h
    · exact d12 x h (List.mem_append_right _ hm)
    · exact d34 x h hm, by simp⟩
theorem Met.onJ {P : Program} {f : Nat} {args : Array Value} {r : Value} {vb mb : Nat} {v : Vol} {jb : Nat} {J J' : Jn} {bk : Nat} {B : Bk} (h : Met P f args r (JH jb vb J) (JH jb vb J')) : Met P f args r (ST vb mb v jb J bk B) (ST vb mb v jb J' bk B) :=
  (h.L (bh_stab _ _)).R (volH_stab _ _ _)
theorem Met.onB {P : Program} {f : Nat} {args : Array Value} {r : Value} {vb mb : Nat} {v : Vol} {jb : Nat} {J : Jn} {bk : Nat} {B B' : Bk} (h : Met P f args r (BH bk B) (BH bk B')) : Met P f args r (ST vb mb v jb J bk B) (ST vb mb v jb J bk B') :=
  (h.R (jh_stab _ _ _)).R (volH_stab _ _ _)
theorem Met.onVJ {P : Program} {f : Nat} {args : Array Value} {r : Value} {vb mb : Nat} {v v' : Vol} {jb : Nat} {J J' : Jn} {bk : Nat} {B : Bk} (h : Met P f args r (Sep (VolH vb mb v) (JH jb vb J)) (Sep (VolH vb mb v') (JH jb vb J'))) : Met P f args r (ST vb mb v jb J bk B) (ST vb mb v' jb J' bk B) := by
  intro w F hF
  exact ((h.L (bh_stab bk B)) w F (sep_assoc' w F hF)).mono fun e w' hk => ⟨hk.1, hk.2.imp sep_assoc⟩
/-- A call at a state that has been made since w. -/
theorem To.call {P : Program} {f : Nat} {args : Array Value} {r : Value} {S S' : HP} {w wk : World} (h : To S [] w wk) (hm : Met P f args r S S') : Calls P f args wk fun e w' => e = .returned r ∧ To S' [] w w' := by
  obtain ⟨F, h1, h2, h3⟩ := h
  exact (hm wk F h1).mono fun e w' hk => ⟨hk.1, hk.2.before h2 h3⟩
theorem app_rel (B : Bk) (s : ByteArray) : jApp (jOf B) s = ((bApp B s).1, jOf (bApp B s).2) := by
  unfold jApp bApp
  rw [if_neg (by simp [jOf])]
  show (if _ then _ else if 256 ≤ B.pend.length then _ else _) = _
  by_cases h1 : 16384 < s.size
  · rw [if_pos h1, if_pos h1]
  · rw [if_neg h1, if_neg h1]
    by_cases h2 : 256 ≤ B.pend.length
    · rw [if_pos h2, if_pos h2]
    · rw [if_neg h2, if_neg h2]; rfl
/-- Only the group that is being made is another. -/
theorem DJ.pend {C : Cont} {B : Bk} (h : DJ C B) (l : List ByteArray) : DJ C { B with pend := l } := ⟨h.page, h.osz, h.other, h.data⟩
/-- The whole: device, journal and book, made since w. -/
def All (w wk : World) (vb mb jb bk : Nat) (J : Jn) (B : Bk) (v : Vol) : Prop := To (ST vb mb v jb J bk B) [] w wk
theorem ST.parts {vb mb : Nat} {v : Vol} {jb : Nat} {J : Jn} {bk : Nat} {B : Bk} {w wk : World} (h : To (ST vb mb v jb J bk B) [] w wk) :
    ∃ Fv Fj Fb, VolH vb mb v wk Fv ∧ JH jb vb J wk Fj ∧ BH bk B wk Fb := by
  obtain ⟨F, ⟨F1, F2, h1, ⟨F3, F4, h3, h4, _⟩, _⟩, _⟩ := h
  exact ⟨F1, F3, F4, h1, h3, h4⟩
theorem To.kept {A : HP} (hA : Stab A) {w wk w' : World} (h : To A [] w wk) (hk : Keep [] wk w') : To A [] w w' := by
  obtain ⟨F, h1, h2, h3⟩ := h
  exact ⟨F, hA.keep h1 hk (by simp), h2.trans0 hk, h3⟩
theorem free_s {vb mb : Nat} {v : Vol} {jb : Nat} {bk : Nat} {B B' : Bk} {w wk : World} (h : To (ST vb mb v jb (jOf B) bk B') [] w wk) (hs : v.sectors = B.ring + 2) (hb : BRoom B) :
    Calls Try.prog 21 #[.pointer (some ⟨jb, 0, none⟩)] wk fun e w' => e = .returned (.int .i64 ((B.ring : Int) - (usedN B.groups : Nat))) ∧ To (ST vb mb v jb (jOf B) bk B') [] w w' := by
  obtain ⟨Fv, Fj, Fb, ⟨pw, hv, _⟩, ⟨gv, pv, G, _, hj⟩, _⟩ := ST.parts h
  exact (free_c wk jb vb mb (pgOfB B) gv pv pw false v B.ring hj.box hv hs (by have := hb.r9; omega) (by have := hb.u; have := hb.r9; show usedN B.groups ≤ _; omega)).mono fun e w' hk => ⟨hk.1, h.kept (st_stab _ _ _ _ _ _ _) hk.2⟩
theorem image_s {vb mb : Nat} {v : Vol} {jb : Nat} {bk : Nat} {J : Jn} {B : Bk} {C : Cont} {m : Nat} {w wk : World} (h : To (ST vb mb v jb J bk B) [] w wk) (hg : Good v (B.ring + 2) C m) (hd : DJ C B) (hb : BRoom B) (hm : m ≤ 4096) :
    Calls Try.prog 28 #[.pointer (some ⟨bk, 0, none⟩), .pointer (some ⟨vb, 0, none⟩)] wk fun e w' => e = .returned (.bool true) ∧ To (ST vb mb v jb J bk B) [] w w' := by
  obtain ⟨Fv, Fj, Fb, hv, _, hbk⟩ := ST.parts h
  exact (image_t wk Fv bk vb mb B v hv Fb hbk hb.fit (rel_image hg hd hb hm)).mono fun e w' hk => ⟨hk.1, h.kept (st_stab _ _ _ _ _ _ _) hk.2⟩
def s_ab : ByteArray := ⟨#[97, 98]⟩
def s_e : ByteArray := ⟨#[]⟩
def kB2 : Bk := ⟨4, 1, 1, 0, [], [s_ab, s_e]⟩
theorem kB2_room : BRoom kB2 := by
  refine ⟨by decide, by decide, by decide, by decide, by decide, by decide, by decide, ?_, by intro l hl; simp [kB2] at hl, by decide⟩
  intro s hs
  simp only [kB2, List.mem_cons, List.not_mem_nil, or_false] at hs
  rcases hs with rfl | rfl <;> decide
theorem kB2_secs : secsN kB2.pend = 1 := by decide
theorem z240 : secsN [zerosS 240] = 2 := by unfold secsN sumS; simp [zerosS_size]
set_option maxHeartbeats 8000000 in
theorem known_c (w : World) : Calls Try.prog 12 #[] w fun e w' => e = .returned (.bool true) ∧ Keep [] w w' := by
  have HM := Lib.hid (made_c w 6 (by omega) (by omega))
  have HA1 : Hid (∀ jb vb, Met Try.prog 13 #[.pointer (some ⟨jb, 0, none⟩), .string ⟨#[97, 98]⟩] (.int .i64 0) (JH jb vb (jOf (bEmpty 4 1))) (JH jb vb (jOf ⟨4, 1, 1, 0, [], [s_ab]⟩))) := fun jb vb => append_m jb vb (jOf (bEmpty 4 1)) s_ab (by decide) (by decide)
  have HA2 : Hid (∀ jb vb, Met Try.prog 13 #[.pointer (some ⟨jb, 0, none⟩), .string ⟨#[]⟩] (.int .i64 0) (JH jb vb (jOf ⟨4, 1, 1, 0, [], [s_ab]⟩)) (JH jb vb (jOf kB2))) := fun jb vb => append_m jb vb (jOf ⟨4, 1, 1, 0, [], [s_ab]⟩) s_e (by decide) (by decide)
  have HB1 : Hid (∀ bk, Met Try.prog 18 #[.pointer (some ⟨bk, 0, none⟩), .string ⟨#[97, 98]⟩] (.int .i64 0) (BH bk (bEmpty 4 1)) (BH bk ⟨4, 1, 1, 0, [], [s_ab]⟩)) := fun bk => bappend_m bk (bEmpty 4 1) s_ab (by decide) (by decide)
  have HB2 : Hid (∀ bk, Met Try.prog 18 #[.pointer (some ⟨bk, 0, none⟩), .string ⟨#[]⟩] (.int .i64 0) (BH bk ⟨4, 1, 1, 0, [], [s_ab]⟩) (BH bk kB2)) := fun bk => bappend_m bk ⟨4, 1, 1, 0, [], [s_ab]⟩ s_e (by decide) (by decide)
  have hroom : usedN kB2.groups + secsN kB2.pend ≤ kB2.ring := by decide
  have HBC : Hid (∀ bk, Met Try.prog 23 #[.pointer (some ⟨bk, 0, none⟩)] (.tuple #[.int .i64 1, .int .i64 0]) (BH bk kB2) (BH bk (bNext kB2))) := fun bk => by
    have := bcommit_m bk kB2 kB2_room.fit
    rw [bCommit_ok kB2 hroom] at this
    exact this
  have HC : Hid (∀ vb mb jb v C, Good v 6 C 0 → DJ C (bEmpty 4 1) → ∃ v' C', Good v' 6 C' 0 ∧ DJ C' (bNext kB2) ∧ Met Try.prog 22 #[.pointer (some ⟨jb, 0, none⟩)] (.tuple #[.int .i64 1, .int .i64 0]) (Sep (VolH vb mb v) (JH jb vb (jOf kB2))) (Sep (VolH vb mb v') (JH jb vb (jOf (bNext kB2))))) := by
    intro vb mb jb v C hg hd
    obtain ⟨v', C', e, g', d'⟩ := commit_rel (B := kB2) hg (hd.pend [s_ab, s_e]) kB2_room (by omega) hroom
    have := commit_m jb vb mb v (jOf kB2) 4 hg.secs (by omega) (by omega) (by rw [hg.pend]; omega) kB2_room.jfit
    rw [show jCommit 4 v (jOf kB2) = _ from e] at this
    exact ⟨v', C', g', d', this⟩
  have Hr2 := Lib.hid (bNext_room kB2_room hroom (by decide) (by decide))
  clear hroom
  go_enter Try.func12, Try.ntmps12
  go_wp2_with fail
  refine HM.out.mono ?_
  rintro e w1 ⟨vb, mb, jb, bk, rfl, v, C, hg, hd, ht⟩
  dsimp only
  obtain ⟨v', C', hg', hd', hC⟩ := HC.out vb mb jb v C hg hd
  have Ht := Lib.hid ht
  have HCm := Lib.hid hC
  have Hg := Lib.hid hg'
  have Hd := Lib.hid hd'
  clear ht hC hg hd hg' hd'
  go_wp2_with fail
  refine (Ht.out.call (HA1.out jb vb).onJ).mono ?_
  rintro e w2 ⟨rfl, ht⟩
  dsimp only
  have Ht2 := Lib.hid ht
  clear ht
  go_wp2_with fail
  refine (Ht2.out.call (HA2.out jb vb).onJ).mono ?_
  rintro e w3 ⟨rfl, ht⟩
  dsimp only
  have Ht3 := Lib.hid ht
  clear ht
  go_wp2_with fail
  refine (Ht3.out.call HCm.out.onVJ).mono ?_
  rintro e w4 ⟨rfl, ht⟩
  dsimp only
  have Ht4 := Lib.hid ht
  clear ht
  go_wp2_with fail
  refine (Ht4.out.call (HB1.out bk).onB).mono ?_
  rintro e w5 ⟨rfl, ht⟩
  dsimp only
  have Ht5 := Lib.hid ht
  clear ht
  go_wp2_with fail
  refine (Ht5.out.call (HB2.out bk).onB).mono ?_
  rintro e w6 ⟨rfl, ht⟩
  dsimp only
  have Ht6 := Lib.hid ht
  clear ht
  go_wp2_with fail
  refine (Ht6.out.call (HBC.out bk).onB).mono ?_
  rintro e w7 ⟨rfl, ht⟩
  dsimp only
  have Ht7 := Lib.hid ht
  clear ht
  have Hsec := Lib.hid Hg.out.secs
  go_wp2_with fail
  refine (free_s Ht7.out (by rw [Hsec.out]; rfl) Hr2.out).mono ?_
  rintro e w8 ⟨rfl, ht⟩
  have h3 : (((bNext kB2).ring : Int) - (usedN (bNext kB2).groups : Nat)) = 3 := by decide
  rw [h3]
  dsimp only
  have Ht8 := Lib.hid ht
  clear ht h3
  go_wp2_with fail
  refine (image_s Ht8.out Hg.out Hd.out Hr2.out (by omega)).mono ?_
  rintro e w9 ⟨rfl, ht⟩
  dsimp only
  have Hk9 : Hid (Keep [] w w9) := by obtain ⟨F, _, hk, _⟩ := ht; exact hk
  clear ht
  obtain ⟨wm, hmk, hcz, hkm⟩ := made_zeros w9 240 (by omega)
  have Hkm := Lib.hid hkm
  have hmk' : (Instr.makeSlice 30 (.int .i64 240) (.int .i64 240)).run Try.prog w9 = .ok (.slice (some ⟨w9.heap.size, 0, none⟩) 240 240) wm := hmk
  clear hkm hmk
  have Hz := Lib.hid z240
  generalize zerosS 240 = z at *
  have hzz : z.size ≤ 16384 := by
    have h := Hz.out
    unfold secsN sumS at h
    simp at h
    omega
  have HSe := Lib.hid (jsectors_c (wm.alloc (.cells #[.string z] 9)) (.slice (some ⟨wm.heap.size, 0, none⟩) 1 1) [z] (.inr ⟨wm.heap.size, 0, 1, rfl, by simp, fun i v hi => by
    match i, hi with
    | 0, hi => simp [scells] at hi; subst hi; simp [go_sem]⟩) (by simp) (by simpa using hzz))
  rw [Hz.out] at HSe
  clear hzz
  go_wp2_with fail
  refine HSe.out.mono ?_
  rintro e w10 ⟨rfl, hw⟩
  dsimp only
  have Hk10 : Hid (Keep [] w w10) := by rw [hw]; exact (Hk9.out.trans0 Hkm.out).allocPast _
  clear hw
  go_wp2_with fail
  go_ret
  exact ⟨rfl, Hk10.out⟩
end Go.Proofs.Ytgmggmpkbfljfaa
