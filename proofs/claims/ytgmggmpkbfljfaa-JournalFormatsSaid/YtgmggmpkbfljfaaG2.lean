/- encoded of the model, and page.encode. -/
import Derived.Test.YtgmggmpkbfljfaaG
set_option linter.unusedVariables false
set_option linter.unusedSimpArgs false
set_option maxRecDepth 100000
namespace Go.Proofs.Ytgmggmpkbfljfaa
open Go.RowKit
theorem RowR.cells {w : World} {ao : Option Addr} {n c : Nat} {l : List ByteArray} (h : RowR w (.slice ao n c) (scells l)) :
    0 < l.length → ∃ g o, ao = some ⟨g, o, none⟩ ∧ ∀ wr, Keep [] w wr → ∀ k (hk : k < l.length), wr.cell? ⟨g, o + k, none⟩ = some (.string l[k]) := by
  intro hn
  have hn' : 0 < (scells l).length := by rw [scells_length]; exact hn
  obtain ⟨g, o, c', he, _⟩ := h.elem hn'
  injection he with he
  refine ⟨g, o, he, fun wr hk k hkl => ?_⟩
  obtain ⟨g2, o2, c2, he2, hc⟩ := (h.keep0 hk).elem hn'
  injection he2 with he2
  rw [he] at he2
  injection he2 with he2
  injection he2 with h1 h2
  subst h1; subst h2
  exact hc k _ (scells_get l k hkl)
theorem number_k (n k : Nat) (hn : n ≤ 140737488355328) (hk : k ≤ 8) (w : World) (m : KW w) :
    Calls Try.prog 41 #[.int .i64 n, .int .i64 k] (Wk w m) fun e w' => e = .returned (.string (numS n k)) ∧ ∃ m, w' = Wk w m := quiet_pure m (number_c n k hn hk _)
set_option maxHeartbeats 4000000 in
theorem encoded_c (w : World) (n : Nat) (sv : Value) (l : List ByteArray) (h : RowR w sv (scells l)) (hn : n ≤ 140737488355328) (hl : l.length ≤ 256) (hs : ∀ s ∈ l, s.size ≤ 16384) :
    Calls Try.prog 20 #[.int .i64 n, sv] w fun e w' => e = .returned (.string (encS n l)) ∧ Keep [] w w' := by
  have hsum := sumS_le l hs
  obtain ⟨ao, c, rfl⟩ := h.form
  have HE := Lib.hid h.cells
  rw [scells_length]
  have HS := Lib.hid hs
  clear h hs
  obtain ⟨len, hlen⟩ : ∃ len, l.length = len := ⟨_, rfl⟩
  rw [hlen] at hl hsum ⊢
  have Hlen := Lib.hid hlen
  clear hlen
  have HN1 := Lib.hid (number_c n 8 hn (by omega))
  have HN2 := Lib.hid (number_c len 4 (by omega) (by omega))
  have hz1 := numS_size n 8
  have hz2 := numS_size len 4
  have Hh : Hid (numS n 8 ++ numS len 4 ++ catS (l.map lenS) = headS n l) := by show _ = _; rw [← Hlen.out]; rfl
  generalize hN1 : numS n 8 = N1 at *
  generalize hN2 : numS len 4 = N2 at *
  clear hN1 hN2
  go_enter Try.func20, Try.ntmps20
  go_wp2_with fail
  refine (HN1.out w).mono ?_
  rintro e w0 ⟨rfl, hb0⟩
  have hk0 := Keep.of_below (F := []) hb0
  clear hb0
  have Hk0 := Lib.hid hk0
  clear hk0
  go_wp2_with fail
  refine (HN2.out w0).mono ?_
  rintro e w1 ⟨rfl, hb1⟩
  have Hk1 := Lib.hid (Hk0.out.belowPast hb1)
  clear hb1
  go_wp2_with fail
  go_loopw [5, 6] (fun b i wr => ∃ k : Nat, k ≤ len ∧ i = .int .i64 k ∧ ∃ s : ByteArray, b = .string s ∧ s = N1 ++ N2 ++ catS ((l.take k).map lenS) ∧ Keep [] w wr) (fun _ i _ => len - (intOf i).toNat)
  case atStart => exact ⟨0, by omega, rfl, _, rfl, by rw [List.take_zero, List.map_nil, catS, app_empty], Hk1.out⟩
  case round =>
    obtain ⟨k, hk, rfl, s, rfl, hs, hkr⟩ := hrel
    have Hkr := Lib.hid hkr
    have hsz : s.size = 12 + 4 * k := by
      rw [hs, ByteArray.size_append, ByteArray.size_append, hz1, hz2, lens_size, List.length_take, Hlen.out, Nat.min_eq_left hk]
    have Hs := Lib.hid hs
    clear hkr hs
    by_cases hlt : k < len
    · have hkl : k < l.length := by rw [Hlen.out]; exact hlt
      obtain ⟨g, o, rfl, hcell⟩ := HE.out (Nat.lt_of_le_of_lt (Nat.zero_le _) hkl)
      have hc := hcell wr Hkr.out k hkl
      have hrs := HS.out l[k] (List.getElem_mem _)
      have Hsn : Hid (s ++ numS (l[k]).size 4 = N1 ++ N2 ++ catS ((l.take (k + 1)).map lenS)) := by
        show _ = _
        rw [lens_snoc l k hkl, ← ByteArray.append_assoc, ← Hs.out]
      generalize l[k] = r at *
      have hz3 := numS_size r.size 4
      have HN3 := Lib.hid (number_c r.size 4 (by omega) (by omega))
      generalize numS r.size 4 = N3 at *
      clear Hs
      go_wp2_with fail
      refine (HN3.out wr).mono ?_
      rintro e w3 ⟨rfl, hb3⟩
      have Hb3 := Lib.hid hb3
      clear hb3
      go_wp2_with fail
      go_roundw
      case rel => exact ⟨k + 1, by omega, by go_num, _, rfl, Hsn.out, Hkr.out.belowPast Hb3.out⟩
      case measure => simp [intOf]; omega
    · obtain rfl : k = len := by omega
      rw [List.take_of_length_le (Nat.le_of_eq Hlen.out), Hh.out] at Hs
      go_wp2_with fail
      go_loopw [5, 7] (fun b i wr => ∃ j : Nat, j ≤ k ∧ i = .int .i64 j ∧ ∃ t : ByteArray, b = .string t ∧ t = headS n l ++ catS (l.take j) ∧ Keep [] w wr) (fun _ i _ => k - (intOf i).toNat)
      case atStart => exact ⟨0, by omega, rfl, _, rfl, by rw [List.take_zero, catS, app_empty]; exact Hs.out, Hkr.out⟩
      case round =>
        obtain ⟨j, hj, rfl, t, rfl, ht, hkq⟩ := hrel
        have Hkq := Lib.hid hkq
        have hts := sumS_take l j
        have htz : t.size = 12 + 4 * k + sumS (l.take j) := by rw [ht, ByteArray.size_append, headS_size, catS_size, Hlen.out]
        have Ht := Lib.hid ht
        clear hkq ht
        by_cases hlt : j < k
        · have hkl : j < l.length := by rw [Hlen.out]; exact hlt
          obtain ⟨g, o, rfl, hcell⟩ := HE.out (Nat.lt_of_le_of_lt (Nat.zero_le _) hkl)
          have hc := hcell wr Hkq.out j hkl
          have hrs := HS.out l[j] (List.getElem_mem _)
          have Hsn : Hid (t ++ l[j] = headS n l ++ catS (l.take (j + 1))) := by
            show _ = _
            rw [cat_snoc l j hkl, ← ByteArray.append_assoc, ← Ht.out]
          generalize l[j] = r at *
          go_wp2_with fail
          go_roundw
          case rel => exact ⟨j + 1, by omega, by go_num, _, rfl, Hsn.out, Hkq.out⟩
          case measure => simp [intOf]; omega
        · obtain rfl : j = k := by omega
          rw [List.take_of_length_le (Nat.le_of_eq Hlen.out)] at Ht
          go_wp2_with fail
          refine (paddedM_c wr t (by omega) (by omega)).mono ?_
          rintro e w4 ⟨rfl, hk4⟩
          go_wp2_with fail
          go_ret
          exact ⟨by rw [Ht.out]; rfl, Hkq.out.trans0 hk4⟩
end Go.Proofs.Ytgmggmpkbfljfaa
