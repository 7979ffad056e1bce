/- encode, encoded and page.encode. -/
import Derived.Test.YtgmggmpkbfljfaaG0
set_option linter.unusedVariables false
set_option linter.unusedSimpArgs false
set_option maxRecDepth 100000
namespace Go.Proofs.Ytgmggmpkbfljfaa
open Go.RowKit
/-- A buffer made since w. -/
structure BufB (w wr : World) (o : Value) (n : Nat) (s : ByteArray) : Prop where
  row : wr.ownsRow w.heap.size 5 1 o n (Lib.strCells s)
  keep : Keep [] w wr
theorem BufB.size {w wr : World} {o : Value} {n : Nat} {s : ByteArray} (h : BufB w wr o n s) : s.size = n := by
  have := h.row.1
  rw [Lib.strCells_length] at this; omega
theorem BufB.bufH {w wr : World} {o : Value} {n : Nat} {s : ByteArray} (h : BufB w wr o n s) : BufH o s wr o.ownBlock.toList := by
  have hs := h.size
  subst hs
  refine ⟨⟨h.row.1, ?_⟩, rfl⟩
  rcases h.row.2 with h | ⟨g, cap, cur, hv, hb, rest⟩
  · exact .inl h
  · exact .inr ⟨g, cap, cur, hv, Nat.zero_le _, rest⟩
theorem BufB.form {w wr : World} {o : Value} {n : Nat} {s : ByteArray} (h : BufB w wr o n s) : ∃ po pc, o = .slice po n pc := by
  have hs := h.size
  subst hs
  exact own_form h.bufH.1
theorem BufB.of_to {w wr w' : World} {o o' : Value} {n m : Nat} {s s' : ByteArray} (h : BufB w wr o n s) (ht : To (BufH o' s') o.ownBlock.toList wr w') (hm : m = s'.size) : BufB w w' o' m s' := by
  subst hm
  obtain ⟨F', ⟨hr, rfl⟩, hk, hs⟩ := ht
  have hlow : ∀ x ∈ o.ownBlock.toList, w.heap.size ≤ x := by
    intro x hx
    rcases h.row.2 with ⟨rfl, _⟩ | ⟨g, cap, cur, rfl, hb, rest⟩
    · simp [Value.ownBlock] at hx
    · simp [Value.ownBlock] at hx; omega
  refine ⟨⟨hr.1, ?_⟩, h.keep.trans hk (fun x hx => .inr (hlow x hx))⟩
  rcases hr.2 with h1 | ⟨g, cap, cur, hv, _, rest⟩
  · exact .inl h1
  · refine .inr ⟨g, cap, cur, hv, ?_, rest⟩
    rcases hs g (by rw [hv]; simp [Value.ownBlock]) with h1 | h1
    · exact hlow g h1
    · exact Nat.le_trans h.keep.size h1
theorem bufB_nil (w : World) : BufB w w (.slice none 0 0) 0 ⟨#[]⟩ := ⟨⟨rfl, .inl ⟨rfl, rfl⟩⟩, Keep.refl _ _⟩
theorem BufB.app {w wr w' : World} {o o' : Value} {n m : Nat} {s t : ByteArray} (h : BufB w wr o n s) (hr : w'.ownsRow w.heap.size 5 1 o' m (Lib.strCells s ++ Lib.strCells t)) (hg : wr.grownBy w' o.ownBlock) : BufB w w' o' m (s ++ t) := by
  refine ⟨by rw [← strCells_app]; exact hr, h.keep.trans (Keep.grown hg (F := o.ownBlock.toList) (fun k hk => by rw [hk]; simp)) (fun x hx => .inr ?_)⟩
  rcases h.row.2 with ⟨rfl, _⟩ | ⟨g, cap, cur, rfl, hb, rest⟩
  · simp [Value.ownBlock] at hx
  · simp [Value.ownBlock] at hx; omega
theorem put_b (w wr : World) (o : Value) (m : Nat) (s : ByteArray) (n k q : Nat) (h : BufB w wr o m s) (hs : m ≤ 140737488350000) (hn : n ≤ 140737488355328) (hk : k ≤ 8) (hq : q = m + k) :
    Calls Try.prog 66 #[o, .int .i64 n, .int .i64 k] wr fun e w' => ∃ po pc, e = .returned (.slice po q pc) ∧ BufB w w' (.slice po q pc) q (s ++ numS n k) := by
  have hz := h.size
  refine (put_c wr _ o s n k h.bufH (by omega) hn hk).mono ?_
  rintro e w' ⟨po, pc, he, ht⟩
  subst hq
  rw [hz] at he ht
  exact ⟨po, pc, he, h.of_to ht (by rw [ByteArray.size_append, numS_size]; omega)⟩
theorem padded_b (w wr : World) (o : Value) (m : Nat) (s : ByteArray) (h : BufB w wr o m s) (hs : m ≤ 140737488350000) :
    Calls Try.prog 67 #[o] wr fun e w' => e = .returned (.string (padS s)) ∧ Keep [] w w' := by
  have hz := h.size
  exact (padded_c wr _ o s h.bufH (by omega)).mono fun e w' hk => ⟨hk.1, h.keep.trans0 hk.2⟩
theorem empty_app (s : ByteArray) : (⟨#[]⟩ : ByteArray) ++ s = s := by show ByteArray.empty ++ s = s; simp
theorem app_empty (s : ByteArray) : s ++ (⟨#[]⟩ : ByteArray) = s := by show s ++ ByteArray.empty = s; simp
theorem lens_snoc (l : List ByteArray) (k : Nat) (h : k < l.length) : catS ((l.take (k + 1)).map lenS) = catS ((l.take k).map lenS) ++ numS (l[k]).size 4 := by
  rw [take_succ_get l k h, List.map_append, List.map_cons, List.map_nil, catS_snoc]; rfl
theorem cat_snoc (l : List ByteArray) (k : Nat) (h : k < l.length) : catS (l.take (k + 1)) = catS (l.take k) ++ l[k] := by
  rw [take_succ_get l k h, catS_snoc]
set_option maxHeartbeats 4000000 in
theorem encode_c (w : World) (n : Nat) (sv : Value) (l : List ByteArray) (h : RowR w sv (scells l)) (hn : n ≤ 140737488355328) (hl : l.length ≤ 256) (hs : ∀ s ∈ l, s.size ≤ 16384) :
    Calls Try.prog 45 #[.int .i64 n, sv] w fun e w' => e = .returned (.string (encS n l)) ∧ Keep [] w w' := by
  have hsum := sumS_le l hs
  obtain ⟨i0, hi, hz0, hz1, hz2⟩ := info_parts infoByte
  have Hi := Lib.hid (And.intro hi (And.intro hz0 (And.intro hz1 hz2)))
  clear hi hz0 hz1 hz2
  obtain ⟨ao, c, rfl⟩ := h.form
  have HE : Hid (0 < l.length → ∃ g o, ao = some ⟨g, o, none⟩ ∧ ∀ wr, Keep [] w wr → ∀ k (hk : k < l.length), wr.cell? ⟨g, o + k, none⟩ = some (.string l[k])) := by
    intro hn
    have hn' : 0 < (scells l).length := by rw [scells_length]; exact hn
    obtain ⟨g, o, c', he, _⟩ := h.elem hn'
    injection he with he
    refine ⟨g, o, he, fun wr hk k hkl => ?_⟩
    obtain ⟨g2, o2, c2, he2, hc⟩ := (h.keep0 hk).elem hn'
    injection he2 with he2
    rw [he] at he2
    injection he2 with he2
    injection he2 with h1 h2
    subst h1; subst h2
    exact hc k _ (scells_get l k hkl)
  rw [scells_length]
  have HS := Lib.hid hs
  clear h hs
  obtain ⟨len, hlen⟩ : ∃ len, l.length = len := ⟨_, rfl⟩
  rw [hlen] at hl hsum ⊢
  have Hlen := Lib.hid hlen
  clear hlen
  go_enter Try.func45, Try.ntmps45
  go_wp2_with fail
  refine (put_b w w _ 0 _ n 8 8 (bufB_nil w) (by omega) hn (by omega) rfl).mono ?_
  rintro e w1 ⟨po, pc, rfl, h1⟩
  have H1 := Lib.hid h1
  clear h1
  go_wp2_with fail
  refine (put_b w w1 _ 8 _ len 4 12 H1.out (by omega) (by omega) (by omega) rfl).mono ?_
  rintro e w2 ⟨qo, qc, rfl, h2⟩
  rw [empty_app] at h2
  have H2 := Lib.hid h2
  clear h2
  go_wp2_with fail
  go_loopw [5, 17] (fun b i wr => ∃ k : Nat, k ≤ len ∧ i = .int .i64 k ∧ ∃ qo qc, b = .slice qo (12 + 4 * k) qc ∧ BufB w wr (.slice qo (12 + 4 * k) qc) (12 + 4 * k) (numS n 8 ++ numS len 4 ++ catS ((l.take k).map lenS))) (fun _ i _ => len - (intOf i).toNat)
  case atStart => exact ⟨0, by omega, rfl, qo, qc, rfl, by
    show BufB w w2 _ 12 (_ ++ catS ((l.take 0).map lenS))
    rw [List.take_zero, List.map_nil, catS, app_empty]; exact H2.out⟩
  case round =>
    obtain ⟨k, hk, rfl, qo, qc, rfl, hb⟩ := hrel
    have Hb := Lib.hid hb
    clear hb
    by_cases hlt : k < len
    · have hkl : k < l.length := by rw [Hlen.out]; exact hlt
      obtain ⟨g, o, rfl, hcell⟩ := HE.out (Nat.lt_of_le_of_lt (Nat.zero_le _) hkl)
      have hc := hcell wr Hb.out.keep k hkl
      have hrs := HS.out l[k] (List.getElem_mem _)
      have Hsn : Hid (numS n 8 ++ numS len 4 ++ catS ((l.take k).map lenS) ++ numS (l[k]).size 4 = numS n 8 ++ numS len 4 ++ catS ((l.take (k + 1)).map lenS)) := by
        show _ = _
        rw [lens_snoc l k hkl, ByteArray.append_assoc]
      generalize l[k] = r at *
      go_wp2_with fail
      refine (put_b w wr _ (12 + 4 * k) _ r.size 4 (12 + 4 * (k + 1)) Hb.out (by omega) (by omega) (by omega) (by omega)).mono ?_
      rintro e w3 ⟨po, pc, rfl, h3⟩
      rw [Hsn.out] at h3
      have H3 := Lib.hid h3
      clear h3
      go_wp2_with fail
      go_roundw
      case rel => exact ⟨k + 1, by omega, by go_num, _, _, rfl, H3.out⟩
      case measure => simp [intOf]; omega
    · obtain rfl : k = len := by omega
      have hhd : numS n 8 ++ numS k 4 ++ catS ((l.take k).map lenS) = headS n l := by
        unfold headS; rw [Hlen.out, List.take_of_length_le (by rw [Hlen.out]; exact Nat.le_refl _)]
      rw [hhd] at Hb
      go_wp2_with fail
      go_loopw [5, 28] (fun b i wr => ∃ j : Nat, j ≤ k ∧ i = .int .i64 j ∧ ∃ z qo qc, z ≤ 12 + 4 * k + sumS (l.take j) ∧ b = .slice qo z qc ∧ BufB w wr (.slice qo z qc) z (headS n l ++ catS (l.take j))) (fun _ i _ => k - (intOf i).toNat)
      case atStart => exact ⟨0, by omega, rfl, _, qo, qc, by simp, rfl, by
        rw [List.take_zero, catS, app_empty]; exact Hb.out⟩
      case round =>
        obtain ⟨j, hj, rfl, z, qo, qc, hz, rfl, hb⟩ := hrel
        have Hc := Lib.hid hb
        have hts := sumS_take l j
        clear hb
        by_cases hlt : j < k
        · have hkl : j < l.length := by rw [Hlen.out]; exact hlt
          obtain ⟨g, o, rfl, hcell⟩ := HE.out (Nat.lt_of_le_of_lt (Nat.zero_le _) hkl)
          have hc := hcell wr Hc.out.keep j hkl
          have hrs := HS.out l[j] (List.getElem_mem _)
          have Hsn : Hid (headS n l ++ catS (l.take j) ++ l[j] = headS n l ++ catS (l.take (j + 1))) := by
            show _ = _
            rw [cat_snoc l j hkl, ByteArray.append_assoc]
          have hzz : z + l[j].size ≤ 12 + 4 * k + sumS (l.take (j + 1)) := by rw [take_succ_get l j hkl, sumS_snoc]; omega
          generalize l[j] = r at *
          have hsz := Hc.out.keep.size
          go_wp2_with (at_builtin; refine Lib.wpList_append_own_string _ rfl _ _ 30 9 rfl w.heap.size 5 i0 Try.underlying30 Try.underlying9 Hi.out.1 Hi.out.2.1 Hi.out.2.2.1 Hi.out.2.2.2 _ _ _ rfl Hc.out.row r rfl ?c3 ?c4 ?c5 ?_)
          case c3 => unfold maxLen; omega
          case c4 => omega
          case c5 => omega
          intro v' w3 hown hgrow _
          have h3 := Hc.out.app hown hgrow
          rw [Hsn.out] at h3
          obtain ⟨po, pc, rfl⟩ := h3.form
          have H3 := Lib.hid h3
          clear h3 hown hgrow
          go_wp2_with fail
          go_roundw
          case rel => exact ⟨j + 1, by omega, by go_num, _, _, _, hzz, rfl, H3.out⟩
          case measure => simp [intOf]; omega
        · obtain rfl : j = k := by omega
          rw [List.take_of_length_le (Nat.le_of_eq Hlen.out)] at Hc
          go_wp2_with fail
          refine (padded_b w wr _ _ _ Hc.out (by omega)).mono ?_
          rintro e w4 ⟨rfl, hk4⟩
          go_wp2_with fail
          go_ret
          exact ⟨rfl, hk4⟩
end Go.Proofs.Ytgmggmpkbfljfaa
