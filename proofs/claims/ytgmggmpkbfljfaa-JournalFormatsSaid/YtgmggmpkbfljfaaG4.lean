/- page.encode. -/
import Derived.Test.YtgmggmpkbfljfaaG3
import Derived.Lib.SlBytesConst
set_option linter.unusedVariables false
set_option linter.unusedSimpArgs false
set_option maxRecDepth 100000
namespace Go.Proofs.Ytgmggmpkbfljfaa
open Go.RowKit
/-- A buffer made since w, that may begin as a constant. -/
def BufT (w wr : World) (o : Value) (s : ByteArray) : Prop := To (BufG o s) [] w wr
theorem put_t (w wr : World) (o : Value) (s : ByteArray) (n k q : Nat) (h : BufT w wr o s) (hs : s.size ≤ 140737488350000) (hn : n ≤ 140737488355328) (hk : k ≤ 8) (hq : q = s.size + k) :
    Calls Try.prog 66 #[o, .int .i64 n, .int .i64 k] wr fun e w' => ∃ po pc, e = .returned (.slice po q pc) ∧ BufT w w' (.slice po q pc) (s ++ numS n k) := by
  subst hq
  obtain ⟨F, hB, hk1, hsub⟩ := h
  refine (put_g wr F o s n k hB hs hn hk).mono ?_
  rintro e w' ⟨po, pc, he, F', hB', hk2, hsub2⟩
  refine ⟨po, pc, he, F', hB', hk1.trans hk2 hsub, fun x hx => ?_⟩
  have := hk1.size
  rcases hsub2 x hx with h | h
  · exact hsub x h
  · right; omega
theorem padded_t (w wr : World) (o : Value) (s : ByteArray) (h : BufT w wr o s) (hs : s.size ≤ 140737488350000) :
    Calls Try.prog 67 #[o] wr fun e w' => e = .returned (.string (padS s)) ∧ Keep [] w w' := by
  obtain ⟨F, hB, hk1, hsub⟩ := h
  exact (padded_g wr F o s hB hs).mono fun e w' hk => ⟨hk.1, hk1.trans0 hk.2⟩
theorem magic_t (w : World) (t : Nat × Nat) : BufT w (w.alloc (.cells #[.int .u8 86, .int .u8 71, .int .u8 74, .int .u8 49] 5 t)) (.slice (some ⟨w.heap.size, 0, none⟩) 4 4) magicS :=
  ⟨[w.heap.size], ⟨.inr ⟨w.heap.size, rfl, rfl, by simp, fun j u hj => by
    rw [magic_cells] at hj
    rw [Addr.add_lit, Nat.zero_add, cell_of (World.alloc_heap_new w _)]
    simpa using hj⟩, rfl⟩, Keep.alloc _ _ _, by simp⟩
theorem BufT.keep {w wr : World} {o : Value} {s : ByteArray} (h : BufT w wr o s) : Keep [] w wr := by
  obtain ⟨F, hB, hk1, hsub⟩ := h; exact hk1
theorem BufT.from {w w1 wr : World} {o : Value} {s : ByteArray} (h : BufT w1 wr o s) (hk : Keep [] w w1) : BufT w wr o s := by
  obtain ⟨F, hB, hk1, hsub⟩ := h
  refine ⟨F, hB, hk.trans0 hk1, fun x hx => ?_⟩
  have := hk.size
  rcases hsub x hx with h | h
  · simp at h
  · right; omega
set_option maxHeartbeats 4000000 in
theorem pageEncode_c (w : World) (g f p k : Nat) (hg : g ≤ 140737488355328) (hf : f ≤ 140737488355328) (hp : p ≤ 140737488355328) (hk : k ≤ 140737488355328) :
    Calls Try.prog 68 #[.agg #[.int .i64 g, .int .i64 f, .int .i64 p, .int .i64 k]] w fun e w' => e = .returned (.string (pageS g f p k)) ∧ Keep [] w w' := by
  have kc := Joins.run_convert_bytes_const_at (P := Try.prog) (w.alloc (.cells #[.int .i64 g, .int .i64 f, .int .i64 p, .int .i64 k] 73)) 30 5 #[.int .u8 86, .int .u8 71, .int .u8 74, .int .u8 49] 4 4 (w.heap.size + 1) (by simp) Try.underlying30 Try.underlying5
  have ht := magic_t (w.alloc (.cells #[.int .i64 g, .int .i64 f, .int .i64 p, .int .i64 k] 73)) (4, 5)
  rw [show (w.alloc (.cells #[.int .i64 g, .int .i64 f, .int .i64 p, .int .i64 k] 73)).heap.size = w.heap.size + 1 by simp] at ht
  have Ht := Lib.hid ht
  have Hbox : Hid (∀ w' o s, BufT (w.alloc (.cells #[.int .i64 g, .int .i64 f, .int .i64 p, .int .i64 k] 73)) w' o s → ∀ i, w'.cell? ⟨w.heap.size, i, none⟩ = #[.int .i64 g, .int .i64 f, .int .i64 p, .int .i64 k][i]?) := by
    intro w' o s hb i
    rw [cell_of (hb.keep.heap (World.alloc_heap_new w _) (by simp))]
  have Hm : Hid (magicS.size = 4) := rfl
  have Hps : Hid (pageS g f p k = padS (magicS ++ numS g 8 ++ numS f 8 ++ numS p 8 ++ numS k 4)) := rfl
  clear ht
  go_enter Try.func68, Try.ntmps68
  go_wp2_with fail
  have Hk0 := Lib.hid (Keep.alloc [] w (.cells #[.int .i64 g, .int .i64 f, .int .i64 p, .int .i64 k] 73))
  generalize hwb : w.alloc (.cells #[.int .i64 g, .int .i64 f, .int .i64 p, .int .i64 k] 73) = wb at *
  clear kc hwb
  refine (put_t wb _ _ magicS g 8 12 Ht.out (by rw [Hm.out]; omega) hg (by omega) (by rw [Hm.out])).mono ?_
  rintro e w1 ⟨po, pc, rfl, h1⟩
  have hc1 := Hbox.out w1 _ _ h1
  have H1 := Lib.hid h1
  have H1s : Hid ((magicS ++ numS g 8).size = 12) := by show _ = _; rw [ByteArray.size_append, numS_size, Hm.out]
  clear h1
  go_wp2_with fail
  clear hc1
  refine (put_t wb w1 _ _ f 8 20 H1.out (by rw [H1s.out]; omega) hf (by omega) (by rw [H1s.out])).mono ?_
  rintro e w2 ⟨po2, pc2, rfl, h2⟩
  have hc2 := Hbox.out w2 _ _ h2
  have H2 := Lib.hid h2
  have H2s : Hid ((magicS ++ numS g 8 ++ numS f 8).size = 20) := by show _ = _; rw [ByteArray.size_append, numS_size, H1s.out]
  clear h2
  go_wp2_with fail
  clear hc2
  refine (put_t wb w2 _ _ p 8 28 H2.out (by rw [H2s.out]; omega) hp (by omega) (by rw [H2s.out])).mono ?_
  rintro e w3 ⟨po3, pc3, rfl, h3⟩
  have hc3 := Hbox.out w3 _ _ h3
  have H3 := Lib.hid h3
  have H3s : Hid ((magicS ++ numS g 8 ++ numS f 8 ++ numS p 8).size = 28) := by show _ = _; rw [ByteArray.size_append, numS_size, H2s.out]
  clear h3
  go_wp2_with fail
  clear hc3
  refine (put_t wb w3 _ _ k 4 32 H3.out (by rw [H3s.out]; omega) hk (by omega) (by rw [H3s.out])).mono ?_
  rintro e w4 ⟨po4, pc4, rfl, h4⟩
  have H4 := Lib.hid h4
  have H4s : Hid ((magicS ++ numS g 8 ++ numS f 8 ++ numS p 8 ++ numS k 4).size = 32) := by show _ = _; rw [ByteArray.size_append, numS_size, H3s.out]
  clear h4
  go_wp2_with fail
  refine (padded_t wb w4 _ _ H4.out (by rw [H4s.out]; omega)).mono ?_
  rintro e w5 ⟨rfl, h5⟩
  go_wp2_with fail
  go_ret
  exact ⟨by rw [Hps.out]; rfl, Hk0.out.trans0 h5⟩
theorem pageS_size (g f p k : Nat) : (pageS g f p k).size = 128 := by
  unfold pageS
  rw [padS_size]
  simp only [ByteArray.size_append, numS_size]
  rfl
end Go.Proofs.Ytgmggmpkbfljfaa
