/- made. -/
import Derived.Test.YtgmggmpkbfljfaaRc
set_option linter.unusedVariables false
set_option linter.unusedSimpArgs false
set_option maxRecDepth 100000
namespace Go.Proofs.Ytgmggmpkbfljfaa
open Go.RowKit
def ST (vb mb : Nat) (v : Vol) (jb : Nat) (J : Jn) (bk : Nat) (B : Bk) : HP := Sep (VolH vb mb v) (Sep (JH jb vb J) (BH bk B))
theorem st_stab (vb mb : Nat) (v : Vol) (jb : Nat) (J : Jn) (bk : Nat) (B : Bk) : Stab (ST vb mb v jb J bk B) := (volH_stab _ _ _).sep ((jh_stab _ _ _).sep (bh_stab _ _))
theorem To.zero_low {A : HP} {w w' : World} (h : To A [] w w') : ∃ F, A w' F ∧ Keep [] w w' ∧ ∀ x ∈ F, w.heap.size ≤ x := by
  obtain ⟨F, h1, h2, h3⟩ := h
  exact ⟨F, h1, h2, fun x hx => by rcases h3 x hx with h | h; simp at h; exact h⟩
theorem sep_new {A B : HP} (hA : Stab A) {w w1 w' : World} (h : To A [] w w1) (hB : To B [] w1 w') : To (Sep A B) [] w w' := by
  obtain ⟨F, h1, h2, h3⟩ := h.zero_low
  obtain ⟨G, g1, g2, g3⟩ := hB.zero_low
  have hlt := hA.lt h1
  refine ⟨F ++ G, ⟨F, G, hA.keep h1 g2 (by simp), g1, fun x hx hx2 => ?_, rfl⟩, h2.trans0 g2, fun x hx => .inr ?_⟩
  · have := hlt x hx; have := g3 x hx2; omega
  · rcases List.mem_append.1 hx with h | h
    · exact h3 x h
    · have := g3 x h; have := h2.size; omega
theorem book_new (w : World) (r g f p : Nat) : To (BH w.heap.size ⟨r, g, f, p, [], []⟩) [] w (w.alloc (.cells (bcells r g f p (.slice none 0 0) (.slice none 0 0)) 43)) :=
  ⟨[w.heap.size], ⟨_, _, [], rfl, [w.heap.size], [], ⟨rfl, World.alloc_heap_new w _⟩, ⟨⟨.inl ⟨rfl, rfl⟩, CapR.none⟩, by simp, .inl ⟨rfl, rfl⟩, rfl⟩, by simp, rfl⟩, Keep.alloc _ _ _, fun x hx => .inr (by simp at hx; omega)⟩
theorem sep_assoc {A B D : HP} (w : World) (F : List Nat) (h : Sep (Sep A B) D w F) : Sep A (Sep B D) w F := by
  obtain ⟨F1, F2, ⟨F3, F4, h3, h4, d34, rfl⟩, h2, d12, rfl⟩ := h
  exact ⟨F3, F4 ++ F2, h3, ⟨F4, F2, h4, h2, fun x hx => d12 x (List.mem_append_right _ hx), rfl⟩, fun x hx hm => by
    rcases List.mem_append.1 hm with h | h
    · exact d34 x hx h
    · exact d12 x (List.mem_append_left _ hx) h, by simp⟩
/-- A device with an open journal on it, and the model of it. -/
def Made (n : Nat) (w w' : World) (vb mb jb bk : Nat) : Prop :=
  ∃ v C, Good v n C 0 ∧ DJ C (bEmpty (n - 2) 1) ∧ To (ST vb mb v jb (jOf (bEmpty (n - 2) 1)) bk (bEmpty (n - 2) 1)) [] w w'
set_option maxHeartbeats 4000000 in
theorem made_c (w : World) (n : Nat) (h3 : 3 ≤ n) (h9 : n ≤ 902) :
    Calls Try.prog 11 #[.int .i64 n] w fun e w' => ∃ vb mb jb bk, e = .returned (.tuple #[.pointer (some ⟨vb, 0, none⟩), .pointer (some ⟨jb, 0, none⟩), .pointer (some ⟨bk, 0, none⟩)]) ∧ Made n w w' vb mb jb bk := by
  obtain ⟨R, rfl⟩ : ∃ R, n = R + 2 := ⟨n - 2, by omega⟩
  obtain ⟨hf1, hf2⟩ := format_new R (by omega)
  have hdj := dj_first R
  have hroom := bEmpty_room R 1 (by omega) (by omega) (by omega)
  have hfit := (newest_zero (R + 2) (by omega)).2
  have hno := (newest_zero (R + 2) (by omega)).1
  have HO : Hid (∀ w' F vb mb, VolH vb mb (jFormat (vNew ((R + 2 : Nat) : Int))).2 w' F → Calls Try.prog 26 #[.pointer (some ⟨vb, 0, none⟩)] w' fun e w'' => ∃ jb, e = .returned (.tuple #[.pointer (some ⟨jb, 0, none⟩), .int .i64 0]) ∧ To (JH jb vb (jOf (bEmpty R 1))) [] w' w'') := fun w' F vb mb h =>
    open_c w' F vb mb _ R _ _ h (rel_open (B := bEmpty R 1) hf2 hdj hroom (by omega))
  have HF : Hid (∀ vb mb, Met Try.prog 27 #[.pointer (some ⟨vb, 0, none⟩)] (.int .i64 0) (VolH vb mb (vNew ((R + 2 : Nat) : Int))) (VolH vb mb (jFormat (vNew ((R + 2 : Nat) : Int))).2)) := fun vb mb => by
    have := format_m vb mb (vNew ((R + 2 : Nat) : Int)) hfit (by show (0 : Nat) ≤ 2000; omega) (by rw [hno]; show (0 : Nat) ≤ _; omega)
    rwa [hf1] at this
  have HN := Lib.hid (new_o ((R + 2 : Nat) : Int) w (by omega) (by omega))
  have hn2 : ((R + 2 : Nat) : Int) - 2 = (R : Int) := by omega
  have Hend : Hid (∀ v, v = (jFormat (vNew ((R + 2 : Nat) : Int))).2 → ∃ C, Good v (R + 2) C 0 ∧ DJ C (bEmpty R 1)) := fun v hv => ⟨_, hv ▸ hf2, hdj⟩
  generalize hv1 : (jFormat (vNew ((R + 2 : Nat) : Int))).2 = v1 at *
  generalize vNew ((R + 2 : Nat) : Int) = v0 at *
  clear hf1 hf2 hdj hroom hfit hno hv1
  generalize hni : ((R + 2 : Nat) : Int) = ni at *
  have hnib : ni ≤ 902 ∧ 3 ≤ ni := by omega
  clear hni
  go_enter Try.func11, Try.ntmps11
  go_wp2_with fail
  refine HN.out.mono ?_
  rintro e w1 ⟨rfl, hV1, hk1⟩
  dsimp only
  have HV1 := Lib.hid hV1
  have Hk1 := Lib.hid hk1
  clear hV1 hk1
  go_wp2_with fail
  refine (HF.out _ _ _ _ HV1.out).mono ?_
  rintro e w2 ⟨rfl, ht2⟩
  dsimp only
  have ht2' : To (VolH (w.heap.size + 1) w.heap.size v1) [] w w2 := ht2.before Hk1.out (fun x hx => .inr (by simp at hx; omega))
  obtain ⟨F2, hV2, hk2, hs2⟩ := ht2'.zero_low
  have HV2 := Lib.hid hV2
  have Ht2 := Lib.hid ht2'
  clear ht2 ht2' hV2 hk2 hs2
  go_wp2_with fail
  refine (HO.out w2 F2 _ _ HV2.out).mono ?_
  rintro e w3 ⟨jb, rfl, ht3⟩
  dsimp only
  have Ht3 := Lib.hid (sep_new (volH_stab _ _ _) Ht2.out ht3)
  clear ht3
  go_wp2_with fail
  (try simp only [Exit.inBlock, Exit.then])
  refine bodyPost_ret (results_tmp3 rfl _ _ _) rfl ⟨w.heap.size + 1, w.heap.size, jb, w3.heap.size, rfl, ?_⟩
  obtain ⟨C, hg, hd⟩ := Hend.out v1 rfl
  exact ⟨v1, C, hg, hd, (sep_new ((volH_stab _ _ _).sep (jh_stab _ _ _)) Ht3.out (book_new w3 R 1 1 0)).imp sep_assoc⟩
end Go.Proofs.Ytgmggmpkbfljfaa
