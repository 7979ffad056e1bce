/- The model's write. -/
import Derived.Test.YtombldjaipcloaaDb
set_option linter.unusedVariables false
set_option linter.unusedSimpArgs false
namespace Go.Proofs.Ytombldjaipcloaa
open Go.RowKit
theorem infoDW : (Try.prog.info? 59).map (fun i => (i.zero, i.size, i.bytes)) = some (some (.agg #[.int .i64 0, .string ⟨#[]⟩]), 2, 24) := by kernel_rfl
def dPut (d : Dk) (s : Int) (x : ByteArray) : Int × Dk :=
  if (dStep { d with pend := d.pend ++ [(s, x)] }).1 then (20, (dStep { d with pend := d.pend ++ [(s, x)] }).2)
  else (0, { (dStep { d with pend := d.pend ++ [(s, x)] }).2 with writes := wrap64 ((dStep { d with pend := d.pend ++ [(s, x)] }).2.writes + 1) })
def dWrite (d : Dk) (s : Int) (x : ByteArray) : Int × Dk :=
  if d.down then (20, d) else if s < 0 ∨ (d.dur.length : Int) ≤ s then (2, d) else if x.size ≠ 128 then (28, d) else if 4096 ≤ d.pend.length then (19, d) else dPut d s x
set_option maxHeartbeats 2000000 in
set_option maxRecDepth 100000 in
theorem dwrite_ok (w : World) (b : Nat) (dv pv : Value) (d : Dk) (s : Int) (x : ByteArray) (h : DkAt w b dv pv d) (hdn : d.down = false) (h2 : 0 ≤ s) (h3 : s < d.dur.length) (h4 : x.size = 128) (h5 : d.pend.length < 4096) :
    Calls Try.prog 41 #[.pointer (some ⟨b, 0, none⟩), .int .i64 s, .string x] w fun e w' => e = .returned (.int .i64 (dPut d s x).1) ∧ To (DkH b (dPut d s x).2) (fp b dv pv) w w' := by
  have hlen : ((x.size : Int) != 128) = false := by rw [h4]; rfl
  have hd0 : decide (s < 0) = false := by simp; omega
  clear h4
  obtain ⟨po, pc, rfl⟩ := own_form h.dur
  obtain ⟨qo, qc, rfl⟩ := own_form h.pend
  obtain ⟨i0, hi, hz0, hz1, hz2⟩ := info_parts infoDW
  have hown := h.pend
  have Hown := Lib.hid hown
  have hc := cell_of h.blk
  have hf := frozen_of h.blk
  simp only [dcells] at hc
  rw [hdn] at hc
  obtain ⟨n, hn⟩ : ∃ n, d.dur.length = n := ⟨_, rfl⟩
  obtain ⟨m, hm⟩ : ∃ m, d.pend.length = m := ⟨_, rfl⟩
  have Hn := Lib.hid hn
  have Hm := Lib.hid hm
  rw [hn] at h3 hc
  rw [hm] at h5 hc
  have H := Lib.hid h
  have Hi := Lib.hid (And.intro hi (And.intro hz0 (And.intro hz1 hz2)))
  rw [hm] at Hown
  clear h hn hm hi hz0 hz1 hz2 hown hdn
  go_enter Try.func41, Try.ntmps41
  go_wp2_with (first | (at_builtin; refine wpList_append2 _ rfl _ _ 41 rfl 59 i0 _ 2 24 Try.underlying41 Hi.out.1 Hi.out.2.1 Hi.out.2.2.1 Hi.out.2.2.2 rfl (by decide) _ _ _ rfl (Hown.out.alloc _) ⟨w.heap.size, 0, none⟩ 1 1 [.int .i64 s, .string x] rfl rfl ?c1 ?c2 (by decide) ?c3 ?c4 ?_))
  case c1 =>
    intro j u hj
    match j, hj with
    | 0, hj => simp at hj; subst hj; simp [Addr.add, go_sem]
    | 1, hj => simp at hj; subst hj; simp [Addr.add, go_sem]
  case c2 => intro u hu; simp at hu; rcases hu with rfl | rfl <;> rfl
  case c3 => unfold maxLen; omega
  case c4 => omega
  intro g cap w1 ho hg hfr
  rw [pcells_snoc] at ho
  have hk1 : Keep ((Value.slice qo m qc).ownBlock.toList) w w1 := (Keep.alloc _ _ _).trans (Keep.grown hg (fun k hk => by rw [hk]; simp)) (fun x hx => .inl hx)
  have hpn : ∀ k, (Value.slice qo m qc).ownBlock = some k → k < w.heap.size ∧ k ≠ b ∧ (Value.slice po n pc).ownBlock ≠ some k := fun k hk => by
    have e1 : (Value.slice qo d.pend.length qc).ownBlock = some k := by rw [Hm.out]; exact hk
    refine ⟨H.out.lt _ (mem_fp.2 (.inr (.inr e1))), fun e => H.out.pv_ne (by rw [← e]; exact e1), fun e => H.out.apart (g := k) (by rw [Hn.out]; exact e) e1⟩
  have hbl := lt_of_heap H.out.blk
  have hbF : b ∉ (Value.slice qo m qc).ownBlock.toList := fun hx => (hpn b (by simpa using hx)).2.1 rfl
  have hdF : ∀ g, (Value.slice po d.dur.length pc).ownBlock = some g → g ∉ (Value.slice qo m qc).ownBlock.toList := fun g hg hx => (hpn g (by simpa using hx)).2.2 (by rw [Hn.out] at hg; exact hg)
  have hv1 := H.out.setPend (p := d.pend ++ [(s, x)]) (v := .slice (some ⟨g, 0, none⟩) (m + 1) cap) hk1 hbF hdF (by rw [List.length_append, List.length_singleton, Hm.out]; exact ho)
  have hblk := hk1.heap H.out.blk hbF
  have hc1 := cell_of hblk
  have hf1 := frozen_of hblk
  simp only [dcells] at hc1
  have Hv1 := Lib.hid hv1
  have Hk1 := Lib.hid hk1
  have Hfr : Hid ((Value.slice qo m qc).ownBlock = some g ∨ w.heap.size ≤ g) := by
    show _ ∨ _
    rcases hfr with h | h
    · exact .inl h.symm
    · exact .inr (by omega)
  have HP : Hid (dPut d s x = if (dStep { d with pend := d.pend ++ [(s, x)] }).1 then (20, (dStep { d with pend := d.pend ++ [(s, x)] }).2)
    else (0, { (dStep { d with pend := d.pend ++ [(s, x)] }).2 with writes := wrap64 ((dStep { d with pend := d.pend ++ [(s, x)] }).2.writes + 1) })) := rfl
  clear hblk hv1 hk1 hbl hbF hdF hpn hg hfr ho hc hf
  go_wp2_with fail
  refine (step_at _ _ _ _ _ Hv1.out).mono ?_
  rintro e w2 ⟨rfl, hv2, hk2⟩
  generalize hgen : dStep { d with pend := d.pend ++ [(s, x)] } = r at hv2 HP ⊢
  obtain ⟨ob, d2⟩ := r
  dsimp only at hv2 ⊢
  have hsc := Keep.setCell [b] w1 b 1 (Value.slice (some ⟨g, 0, none⟩) (m + 1) cap) (by simp)
  have Hk3 : Hid (Keep (fp b (.slice po d.dur.length pc) (.slice qo d.pend.length qc)) w w2) :=
    ((Hk1.out.mono (fun y hy => mem_fp.2 (.inr (.inr (by rw [Hm.out]; simpa using hy))))).trans (hsc.trans hk2 (fun y hy => .inl hy)) (fun y hy => .inl (mem_fp.2 (.inl (by simpa using hy)))))
  have hc2 := cell_of hv2.blk
  have hf2 := frozen_of hv2.blk
  simp only [dcells] at hc2
  have Hv2 := Lib.hid hv2
  have Hmem : Hid (∀ y ∈ fp b (.slice po d.dur.length pc) (.slice (some ⟨g, 0, none⟩) (m + 1) cap), y ∈ fp b (.slice po d.dur.length pc) (.slice qo d.pend.length qc) ∨ w.heap.size ≤ y) := by
    intro y hy
    rcases mem_fp.1 hy with rfl | hy | hy
    · exact .inl (mem_fp.2 (.inl rfl))
    · exact .inl (mem_fp.2 (.inr (.inl hy)))
    · cases hy
      rcases Hfr.out with h | h
      · exact .inl (mem_fp.2 (.inr (.inr (by rw [Hm.out]; exact h))))
      · exact .inr h
  clear hv2 hk2 hc1 hf1 hsc hgen
  cases ob
  · go_wp2_with fail
    go_returns
    rw [HP.out]
    exact ⟨rfl, _, ⟨_, _, Hv2.out.set _ _ rfl rfl rfl, rfl⟩, Hk3.out.trans (Keep.setCell _ _ _ _ _ (mem_fp.2 (.inl rfl))) (fun x hx => .inl hx), Hmem.out⟩
  · go_wp2_with fail
    go_returns
    rw [HP.out]
    exact ⟨rfl, _, ⟨_, _, Hv2.out, rfl⟩, Hk3.out, Hmem.out⟩
set_option maxHeartbeats 2000000 in
set_option maxRecDepth 100000 in
theorem dwrite_m (b : Nat) (d : Dk) (s : Int) (x : ByteArray) (hl : d.dur.length ≤ 65536) (hl2 : d.pend.length ≤ 4096) : Met Try.prog 41 #[.pointer (some ⟨b, 0, none⟩), .int .i64 s, .string x] (.int .i64 (dWrite d s x).1) (DkH b d) (DkH b (dWrite d s x).2) := by
  rintro w F ⟨dv, pv, h, rfl⟩
  obtain ⟨po, pc, rfl⟩ := own_form h.dur
  obtain ⟨qo, qc, rfl⟩ := own_form h.pend
  unfold dWrite
  by_cases hdn : d.down = true
  · rw [if_pos hdn]
    have hc := cell_of h.blk
    have hf := frozen_of h.blk
    simp only [dcells] at hc
    rw [hdn] at hc
    have Hs := Lib.hid h.same
    clear h hdn
    go_enter Try.func41, Try.ntmps41
    go_wp2_with fail
    go_returns
    exact ⟨rfl, Hs.out⟩
  · rw [if_neg hdn]
    have hdn : d.down = false := by simpa using hdn
    by_cases hs : s < 0 ∨ (d.dur.length : Int) ≤ s
    · rw [if_pos hs]
      have hc := cell_of h.blk
      have hf := frozen_of h.blk
      simp only [dcells] at hc
      rw [hdn] at hc
      have Hs := Lib.hid h.same
      generalize d.dur.length = n at *
      clear h hdn
      by_cases hs0 : s < 0
      · clear hs
        go_enter Try.func41, Try.ntmps41
        go_wp2_with fail
        go_returns
        exact ⟨rfl, Hs.out⟩
      · have hd0 : decide (s < 0) = false := by simpa using hs0
        have hs1 : (n : Int) ≤ s := by rcases hs with h | h <;> first | exact h | omega
        clear hs hs0
        go_enter Try.func41, Try.ntmps41
        go_wp2_with fail
        go_returns
        exact ⟨rfl, Hs.out⟩
    · rw [if_neg hs]
      have h0 : 0 ≤ s := by omega
      have h1 : s < d.dur.length := by omega
      have hd0 : decide (s < 0) = false := by simp; omega
      by_cases hx : x.size = 128
      · rw [if_neg (by simpa using hx)]
        by_cases hp : 4096 ≤ d.pend.length
        · rw [if_pos hp]
          have hlen : ((x.size : Int) != 128) = false := by rw [hx]; rfl
          have hdec : decide ((4096 : Int) ≤ d.pend.length) = true := by simp; omega
          have hc := cell_of h.blk
          have hf := frozen_of h.blk
          simp only [dcells] at hc
          rw [hdn] at hc
          have Hs := Lib.hid h.same
          generalize d.dur.length = n at *
          generalize d.pend.length = m at *
          clear h hdn hs hx hp
          go_enter Try.func41, Try.ntmps41
          go_wp2_with fail
          go_returns
          exact ⟨rfl, Hs.out⟩
        · rw [if_neg hp]
          exact dwrite_ok w b _ _ d s x h hdn h0 h1 hx (by omega)
      · rw [if_pos (by simpa using hx)]
        have hlen : ((x.size : Int) != 128) = true := by rw [bne_iff_ne]; omega
        have hc := cell_of h.blk
        have hf := frozen_of h.blk
        simp only [dcells] at hc
        rw [hdn] at hc
        have Hs := Lib.hid h.same
        generalize d.dur.length = n at *
        clear h hdn hs hx
        go_enter Try.func41, Try.ntmps41
        go_wp2_with fail
        go_returns
        exact ⟨rfl, Hs.out⟩
end Go.Proofs.Ytombldjaipcloaa
