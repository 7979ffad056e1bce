/- parse. -/
import Derived.Test.YtgmggmpkbfljfaaCm
import Derived.Test.YtgmggmpkbfljfaaTa
set_option linter.unusedVariables false
set_option linter.unusedSimpArgs false
set_option maxRecDepth 100000
namespace Go.Proofs.Ytgmggmpkbfljfaa
open Go.RowKit
theorem results_cell1 {fn : Func} {p : Tmp} {ty : TypeId} (h : fn.results = #[.cell p ty]) (tmps : Array Value) (P : Program) (w : World) :
    (results fn tmps).run P w = ((asAddr (tmps.getD p undef)).run P w).andThen fun a w₁ => (loadVar ty a).run P w₁ := by
  simp only [results, h]
  simp [Sem.run_bind, Result.andThen]
def offS (l : List ByteArray) (k : Nat) : Nat := 12 + 4 * l.length + sumS (l.take k)
/-- Some bytes begin with the group l. -/
structure Parses (s : ByteArray) (l : List ByteArray) : Prop where
  cnt : takeN s 8 4 = l.length
  len : ∀ k (h : k < l.length), takeN s (12 + 4 * k) 4 = (l[k]).size
  recs : ∀ k (h : k < l.length), s.extract (offS l k) (offS l k + (l[k]).size) = l[k]
  fits : offS l l.length ≤ s.size
  n : l.length ≤ 256
  small : ∀ r ∈ l, r.size ≤ 16384
  z : s.size ≤ 1000000000
theorem offS_succ (l : List ByteArray) (k : Nat) (h : k < l.length) : offS l (k + 1) = offS l k + (l[k]).size := by
  unfold offS; rw [take_succ_get l k h, sumS_snoc]; omega
theorem offS_le (l : List ByteArray) (k : Nat) : offS l k ≤ offS l l.length := by
  unfold offS; rw [List.take_length]; have := sumS_take l k; omega
set_option maxHeartbeats 4000000 in
theorem parse_c (w : World) (s : ByteArray) (l : List ByteArray) (h : Parses s l) :
    Calls Try.prog 57 #[.string s] w fun e w' => ∃ po pc, e = .returned (.agg #[.slice po l.length pc, .int .i64 (secsN l)]) ∧ To (OwnH 9 1 (.slice po l.length pc) l.length (scells l)) [] w w' := by
  obtain ⟨i0, hi, hz0, hz1, hz2⟩ := info_parts infoS
  have Hi := Lib.hid (And.intro hi (And.intro hz0 (And.intro hz1 hz2)))
  clear hi hz0 hz1 hz2
  obtain ⟨hc, hle, hrc, hfit, hn, hsm, hzz⟩ := h
  have HT := Lib.hid (take_c s 8 4 (by omega) (by omega) (by omega) (by rw [hc]; omega))
  rw [hc] at HT
  have HL : Hid (∀ k (h : k < l.length), ∀ w : World, Calls Try.prog 70 #[.string s, .int .i64 (12 + 4 * (k : Int)), .int .i64 4] w fun e w' => e = .returned (.int .i64 (l[k]).size) ∧ w' = w) := by
    intro k hk w
    have := take_c s (12 + 4 * k) 4 (by omega) (by omega) (by omega) (by rw [hle k hk]; have := hsm _ (List.getElem_mem hk); omega) w
    rwa [hle k hk, show ((12 + 4 * k : Nat) : Int) = 12 + 4 * (k : Int) by omega] at this
  have HR := Lib.hid hrc
  have HS := Lib.hid hsm
  have HF := Lib.hid hfit
  obtain ⟨len, hlen⟩ : ∃ len, l.length = len := ⟨_, rfl⟩
  have Hlen := Lib.hid hlen
  have ho0 : offS l 0 = 12 + 4 * len := by unfold offS; rw [hlen]; simp [sumS]
  rw [hlen] at hn HT ⊢
  clear hc hle hrc hfit hsm hlen
  go_enter Try.func57, Try.ntmps57
  go_wp2_with fail
  refine (HT.out _).mono ?_
  rintro e w1 ⟨rfl, hw1⟩
  dsimp only
  subst hw1
  have hb0 := World.alloc_heap_new w (.cells #[.slice none 0 0, .int .i64 0] 83)
  have hk0 := Keep.alloc [] w (.cells #[.slice none 0 0, .int .i64 0] 83)
  generalize w.alloc (.cells #[.slice none 0 0, .int .i64 0] 83) = w1 at *
  have Hb0 := Lib.hid hb0
  have Hk0 := Lib.hid hk0
  have hlt0 := lt_of_heap hb0
  clear hb0 hk0
  have hmn : min (len : Int) 256 = len := by omega
  go_wp2_with fail
  go_loopw [4, 5, 15] (fun at' b i wr => ∃ k : Nat, k ≤ len ∧ i = .int .i64 k ∧ at' = .int .i64 (offS l k) ∧ ∃ po pc, b = .slice po k pc ∧ To (OwnH 9 1 (.slice po k pc) k (scells (l.take k))) [] w1 wr) (fun _ _ i _ => len - (intOf i).toNat)
  case atStart => exact ⟨0, by omega, rfl, by rw [ho0]; go_num, none, 0, rfl, ⟨[], ⟨own_nil _ _ _, rfl⟩, Keep.refl _ _, by simp⟩⟩
  case round =>
    obtain ⟨k, hk, rfl, rfl, po, pc, rfl, ht⟩ := hrel
    have Ht := Lib.hid ht
    have hole := offS_le l k
    clear ht
    by_cases hlt : k < len
    · have hkl : k < l.length := by rw [Hlen.out]; exact hlt
      have HLk := Lib.hid (HL.out k hkl)
      have hrs := HS.out l[k] (List.getElem_mem _)
      have hos := offS_succ l k hkl
      have hol := offS_le l (k + 1)
      have hof := HF.out
      have Hr := Lib.hid (HR.out k hkl)
      have Hsn : Hid (scells (l.take k) ++ [.string l[k]] = scells (l.take (k + 1))) := by show _ = _; rw [take_succ_get l k hkl, scells_snoc]
      have ⟨hf1, hf2, hf3⟩ : offS l k ≤ offS l (k + 1) ∧ offS l (k + 1) ≤ s.size ∧ offS l (k + 1) ≤ 1000000000 := by omega
      generalize hro : l[k] = r at *
      clear hro hol hof hole
      have hoz : offS l k + r.size ≤ s.size := by omega
      have hm1 : min ((offS l k : Int) + (r.size : Int)) (s.size : Int) = (offS l k : Int) + (r.size : Int) := by omega
      have hm2 : min (offS l k : Int) ((offS l k : Int) + (r.size : Int)) = (offS l k : Int) := by omega
      have Hos := Lib.hid hos
      clear hos hf2
      generalize hok : offS l k = ok at *
      have Hok := Lib.hid hok
      clear hok
      go_wp2_with fail
      refine (HLk.out _).mono ?_
      rintro e w2 ⟨rfl, hw2⟩
      dsimp only
      subst hw2
      obtain ⟨F1, hF1, hk1, hs1⟩ := Ht.out
      have HF1 := Lib.hid hF1
      have Hk1 := Lib.hid hk1
      have Hs1 := Lib.hid hs1
      clear hF1 hk1 hs1
      go_wp2_with (at_builtin; refine wpList_append2 _ rfl _ _ 31 rfl 9 i0 _ 1 16 Try.underlying31 Hi.out.1 Hi.out.2.1 Hi.out.2.2.1 Hi.out.2.2.2 rfl (by decide) _ _ _ rfl (own_keep' HF1.out.1 (Keep.alloc [] _ _) (by simp)) ⟨w2.heap.size, 0, none⟩ 1 1 [.string (s.extract ok (ok + r.size))] rfl rfl (one_news _ _ _) (one_str _) ?c2 ?c3 ?c4 ?_)
      case c2 => decide
      case c3 => unfold maxLen; omega
      case c4 => omega
      intro g cap wa hoa hga hfa
      rw [Hr.out, Hsn.out] at hoa
      have ht2 : To (OwnH 9 1 (.slice (some ⟨g, 0, none⟩) (k + 1) cap) (k + 1) (scells (l.take (k + 1)))) [] w1 wa :=
        (To.from (own_to ((ownH_stab _ _ _ _ _).keep HF1.out (Keep.alloc [] w2 (.cells #[Value.string (s.extract ok (ok + r.size))] 9)) (by simp)) hoa hga (by simpa using hfa)) ((Keep.alloc [] w2 _).mono (by simp))).before Hk1.out Hs1.out
      have Ht2 := Lib.hid ht2
      clear ht2 hoa hga hfa
      go_wp2_with fail
      go_roundw
      case rel => exact ⟨k + 1, by omega, by go_num, by rw [Hos.out]; go_num, _, _, rfl, Ht2.out⟩
      case measure => simp [intOf]; omega
    · obtain rfl : k = len := by omega
      obtain ⟨F1, hF1, hk1, hs1⟩ := Ht.out
      rw [List.take_of_length_le (Nat.le_of_eq Hlen.out)] at hF1
      have HF1 := Lib.hid hF1
      have Hk1 := Lib.hid hk1
      have Hs1 := Lib.hid hs1
      have hb1 := hk1.heap Hb0.out (by simp)
      have hcb := cell_of hb1
      have hfb := frozen_of hb1
      have HSec := Lib.hid (jsectors_c wr (.slice po k pc) l (RowR.of_own hF1.1) (by rw [Hlen.out]; exact hn) HS.out)
      clear hF1 hk1 hs1
      go_wp2_with fail
      refine HSec.out.mono ?_
      rintro e w2 ⟨rfl, hw2⟩
      dsimp only
      subst hw2
      go_wp2_with fail
      (try simp only [Exit.inBlock, Exit.then])
      refine bodyPost_ret (v := .agg #[.slice po k pc, .int .i64 (secsN l)]) ?_ rfl ⟨po, pc, rfl, ?_⟩
      · rw [results_cell1 rfl]
        go_simp
      · have hlow : ∀ x ∈ F1, w1.heap.size ≤ x := fun x hx => by
          rcases Hs1.out x hx with h | h
          · simp at h
          · exact h
        have hks : ∀ a b : Value, Keep [w.heap.size] w2 ((w2.setCell ⟨w.heap.size, 0, none⟩ a).setCell ⟨w.heap.size, 1, none⟩ b) := fun a b =>
          (Keep.setCell _ _ _ _ _ (by simp)).trans (Keep.setCell _ _ _ _ _ (by simp)) (fun x hx => .inl hx)
        exact ⟨F1, (ownH_stab _ _ _ _ _).keep HF1.out (hks _ _) (fun x hx hm => by have := hlow x hx; simp at hm; omega),
          ((Hk0.out.trans0 Hk1.out).setPast _ 0 _ (Nat.le_refl _)).setPast _ 1 _ (Nat.le_refl _), fun x hx => .inr (by have := hlow x hx; omega)⟩
/-! ### what has been encoded can be parsed -/
theorem extract_mid (a b c : ByteArray) : (a ++ (b ++ c)).extract a.size (a.size + b.size) = b := by
  apply ByteArray.ext
  apply Array.toList_inj.1
  rw [ByteArray.data_extract, Array.toList_extract, ByteArray.data_append, ByteArray.data_append, Array.toList_append, Array.toList_append]
  have e1 : a.size = a.data.toList.length := by rw [Array.length_toList]; rfl
  have e2 : b.size = b.data.toList.length := by rw [Array.length_toList]; rfl
  rw [List.extract_eq_take_drop, e1, e2, List.drop_left, show a.data.toList.length + b.data.toList.length - a.data.toList.length = b.data.toList.length by omega, List.take_left]
theorem split_at (l : List ByteArray) (k : Nat) (h : k < l.length) : l = l.take k ++ (l[k] :: l.drop (k + 1)) := by
  rw [List.getElem_cons_drop, List.take_append_drop]
theorem lens_mid (l : List ByteArray) (k : Nat) (h : k < l.length) : catS (l.map lenS) = catS ((l.take k).map lenS) ++ (numS (l[k]).size 4 ++ catS ((l.drop (k + 1)).map lenS)) := by
  conv => lhs; rw [split_at l k h]
  rw [List.map_append, catS_app, List.map_cons]; rfl
theorem cat_mid (l : List ByteArray) (k : Nat) (h : k < l.length) : catS l = catS (l.take k) ++ (l[k] ++ catS (l.drop (k + 1))) := by
  conv => lhs; rw [split_at l k h]
  rw [catS_app]; rfl
theorem parses_enc (n : Nat) (l : List ByteArray) (rest : ByteArray) (hn : l.length ≤ 256) (hs : ∀ r ∈ l, r.size ≤ 16384) (hz : (encS n l ++ rest).size ≤ 1000000000) : Parses (encS n l ++ rest) l := by
  obtain ⟨pad, hpad⟩ : ∃ p, encS n l = rawS n l ++ p := ⟨_, rfl⟩
  rw [hpad] at hz ⊢
  refine ⟨?_, fun k h => ?_, fun k h => ?_, ?_, hn, hs, hz⟩
  · have e : rawS n l ++ pad ++ rest = numS n 8 ++ (numS l.length 4 ++ (catS (l.map lenS) ++ catS l ++ pad ++ rest)) := by
      unfold rawS headS; simp only [ByteArray.append_assoc]
    have := takeN_at (numS n 8) (catS (l.map lenS) ++ catS l ++ pad ++ rest) l.length 4 (by have : (256 : Nat) ^ 4 = 4294967296 := rfl; omega)
    rw [← e, numS_size] at this
    exact this
  · have e : rawS n l ++ pad ++ rest = (numS n 8 ++ numS l.length 4 ++ catS ((l.take k).map lenS)) ++ (numS (l[k]).size 4 ++ (catS ((l.drop (k + 1)).map lenS) ++ catS l ++ pad ++ rest)) := by
      unfold rawS headS; rw [lens_mid l k h]; simp only [ByteArray.append_assoc]
    have := takeN_at (numS n 8 ++ numS l.length 4 ++ catS ((l.take k).map lenS)) (catS ((l.drop (k + 1)).map lenS) ++ catS l ++ pad ++ rest) (l[k]).size 4 (by have : (256 : Nat) ^ 4 = 4294967296 := rfl; have := hs _ (List.getElem_mem h); omega)
    rw [← e, ByteArray.size_append, ByteArray.size_append, numS_size, numS_size, lens_size, List.length_take, Nat.min_eq_left (Nat.le_of_lt h)] at this
    exact this
  · have e : rawS n l ++ pad ++ rest = (headS n l ++ catS (l.take k)) ++ (l[k] ++ (catS (l.drop (k + 1)) ++ pad ++ rest)) := by
      unfold rawS; rw [cat_mid l k h]; simp only [ByteArray.append_assoc]
    have ho : offS l k = (headS n l ++ catS (l.take k)).size := by unfold offS; rw [ByteArray.size_append, headS_size, catS_size]
    rw [ho, e, extract_mid]
  · unfold offS
    rw [List.take_length, ByteArray.size_append, ByteArray.size_append, rawS_size]; omega
end Go.Proofs.Ytgmggmpkbfljfaa
