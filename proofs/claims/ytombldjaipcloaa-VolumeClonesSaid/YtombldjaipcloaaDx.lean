/- The model's barrier. -/
import Derived.Test.YtombldjaipcloaaDw
set_option linter.unusedVariables false
set_option linter.unusedSimpArgs false
namespace Go.Proofs.Ytombldjaipcloaa
open Go.RowKit
def dC (p : IS) (s : Int) (x : ByteArray) : ByteArray := p.foldl (fun c q => if q.1 = s then q.2 else c) x
theorem dCont_eq (d : Dk) (s : Nat) : dCont d s = dC d.pend s ((d.dur[s]?).getD ⟨#[]⟩) := rfl
def dFlatK (p : IS) (l : List ByteArray) (k : Nat) : List ByteArray := l.mapIdx fun i x => if i < k then dC p i x else x
def dFlat (p : IS) (l : List ByteArray) : List ByteArray := l.mapIdx fun i x => dC p i x
theorem dFlatK_zero (p : IS) (l : List ByteArray) : dFlatK p l 0 = l := by
  unfold dFlatK
  refine List.ext_getElem (by simp) fun i h1 h2 => by simp
theorem dFlatK_all (p : IS) (l : List ByteArray) : dFlatK p l l.length = dFlat p l := by
  unfold dFlatK dFlat
  refine List.ext_getElem (by simp) fun i h1 h2 => ?_
  simp at h1
  simp [h1]
theorem dFlatK_length (p : IS) (l : List ByteArray) (k : Nat) : (dFlatK p l k).length = l.length := by simp [dFlatK]
theorem dFlatK_get (p : IS) (l : List ByteArray) (k : Nat) : (dFlatK p l k)[k]? = l[k]? := by
  unfold dFlatK
  rw [List.getElem?_mapIdx]
  cases l[k]? <;> simp
theorem dFlatK_set (p : IS) (l : List ByteArray) (k : Nat) (h : k < l.length) : (dFlatK p l k).set k (dC p k ((l[k]?).getD ⟨#[]⟩)) = dFlatK p l (k + 1) := by
  refine List.ext_getElem? fun i => ?_
  rw [List.getElem?_set]
  unfold dFlatK
  simp only [List.getElem?_mapIdx, List.length_mapIdx]
  by_cases hi : k = i
  · subst hi; simp [List.getElem?_eq_getElem h, h]
  · rw [if_neg hi]
    by_cases h3 : i < k
    · simp [h3, show i < k + 1 from by omega]
    · simp [h3, show ¬ i < k + 1 from by omega]
def dBarrier (d : Dk) : Int × Dk :=
  if d.down then (20, d) else if (dStep d).1 then (20, (dStep d).2) else (0, { (dStep d).2 with dur := dFlat (dStep d).2.pend (dStep d).2.dur, pend := [], barriers := wrap64 ((dStep d).2.barriers + 1) })
theorem dStep_rest (d : Dk) : (dStep d).2.pend = d.pend ∧ (dStep d).2.dur = d.dur := by unfold dStep; split <;> (try split) <;> exact ⟨rfl, rfl⟩
theorem scells_set (l : List ByteArray) (i : Nat) (x : ByteArray) : (scells l).set i (.string x) = scells (l.set i x) := by simp [scells, List.map_set]
theorem DkAt.putDur {w : World} {b : Nat} {pv : Value} {d : Dk} {g n pc : Nat} (h : DkAt w b (.slice (some ⟨g, 0, none⟩) n pc) pv d) (i : Nat) (hi : i < d.dur.length) (x : ByteArray) :
    DkAt (w.setCell ⟨g, i, none⟩ (.string x)) b (.slice (some ⟨g, 0, none⟩) n pc) pv { d with dur := d.dur.set i x } := by
  have hk : Keep [g] w (w.setCell ⟨g, i, none⟩ (.string x)) := Keep.setCell _ _ _ _ _ (by simp)
  have hn : n = d.dur.length := by
    obtain ⟨po, pc', hv⟩ := own_form h.dur
    injection hv
  have hgb : g ≠ b := fun e => h.dv_ne (by rw [← e]; rfl)
  refine ⟨hk.heap h.blk (by simpa using Ne.symm hgb), ?_, own_keep h.pend hk (fun g' hg' hm => ?_)⟩
  · have := own_set (i := i) (x := .string x) (by have := h.dur; rw [← hn] at this; exact this) (by omega)
    rw [scells_set] at this
    show World.ownsRow _ 0 _ 1 _ (d.dur.set i x).length _
    rw [List.length_set, ← hn]
    exact this
  · simp at hm
    subst hm
    exact h.apart rfl hg'
theorem DkAt.nilPend {w : World} {b : Nat} {dv pv : Value} {d : Dk} (h : DkAt w b dv pv d) : DkAt (w.setCell ⟨b, 1, none⟩ (.slice none 0 0)) b dv (.slice none 0 0) { d with pend := [] } :=
  h.setPend (F := []) (Keep.refl _ _) (by simp) (by simp) (World.ownsRow_nil _ _ _ _)
set_option maxHeartbeats 2000000 in
set_option maxRecDepth 100000 in
theorem dbarrier_m (b : Nat) (d : Dk) (hl : d.dur.length ≤ 65536) (hl2 : d.pend.length ≤ 4096) : Met Try.prog 42 #[.pointer (some ⟨b, 0, none⟩)] (.int .i64 (dBarrier d).1) (DkH b d) (DkH b (dBarrier d).2) := by
  rintro w F ⟨dv, pv, h, rfl⟩
  have hc := cell_of h.blk
  simp only [dcells] at hc
  unfold dBarrier
  by_cases hdn : d.down = true
  · rw [if_pos hdn]
    rw [hdn] at hc
    have Hs := Lib.hid h.same
    clear h hdn
    go_enter Try.func42, Try.ntmps42
    go_wp2_with fail
    go_returns
    exact ⟨rfl, Hs.out⟩
  · rw [if_neg hdn]
    have hdn : d.down = false := by simpa using hdn
    rw [hdn] at hc
    have Hst := Lib.hid (step_at w b dv pv d h)
    have hrest := dStep_rest d
    have HD := Lib.hid h.same
    generalize dStep d = r at *
    obtain ⟨ob, d1⟩ := r
    obtain ⟨hr1, hr2⟩ := hrest
    dsimp only at hr1 hr2 Hst ⊢
    rw [← hr2] at hl
    rw [← hr1] at hl2
    clear hr1 hr2 hdn h HD
    cases ob
    · go_enter Try.func42, Try.ntmps42
      go_wp2_with fail
      refine Hst.out.mono ?_
      rintro e w1 ⟨rfl, h1, hk1⟩
      have H1 := Lib.hid h1
      have Hk1 := Lib.hid hk1
      obtain ⟨po, pc, rfl⟩ := own_form h1.dur
      clear h1 hk1 hc
      go_wp2_with fail
      go_loopw [3] (fun i wr => ∃ k : Nat, k ≤ d1.dur.length ∧ i = .int .i64 k ∧ DkAt wr b (.slice po d1.dur.length pc) pv { d1 with dur := dFlatK d1.pend d1.dur k } ∧ Keep (Value.slice po d1.dur.length pc).ownBlock.toList w1 wr) (fun i _ => d1.dur.length - (intOf i).toNat)
      case atStart => exact ⟨0, by omega, rfl, by rw [dFlatK_zero]; exact H1.out, Keep.refl _ _⟩
      case round =>
        obtain ⟨k, hk, rfl, hv, hkp⟩ := hrel
        by_cases hlt : k < d1.dur.length
        · obtain ⟨g, rfl, hgc, hgl, hgf⟩ := hv.durElem k (by rw [dFlatK_length]; exact hlt)
          have hcr := cell_of hv.blk
          simp only [dcells] at hcr
          have hvd := hv.keep (Keep.drew [] wr) (by simp)
          have hct := content_c wr.drew b _ _ { d1 with dur := dFlatK d1.pend d1.dur k } k (by rw [dFlatK_length]; exact hlt) hl2 (by rw [dFlatK_length]; exact hl) hvd
          rw [dCont_eq] at hct
          dsimp only at hgc hct
          rw [dFlatK_get] at hct hgc
          have hp2 := hvd.putDur k (by rw [dFlatK_length]; exact hlt) (dC d1.pend k ((d1.dur[k]?).getD ⟨#[]⟩))
          dsimp only at hp2
          rw [dFlatK_set _ _ _ hlt] at hp2
          have hks : Keep (Value.slice (some ⟨g, 0, none⟩) d1.dur.length pc).ownBlock.toList w1 (wr.drew.setCell ⟨g, k, none⟩ (.string (dC d1.pend k ((d1.dur[k]?).getD ⟨#[]⟩)))) := (hkp.trans (Keep.drew [] wr) (by simp)).trans (Keep.setCell _ _ _ _ _ (by simp [Value.ownBlock])) (fun x hx => .inl hx)
          rw [List.getElem?_eq_getElem hlt, Option.getD_some] at hct hgc hp2 hks
          have Hp2 := Lib.hid hp2
          have Hks := Lib.hid hks
          have Hct := Lib.hid hct
          clear hv hkp hp2 hks hct hvd
          go_wp2_with fail
          go_region_with (go_at_call 23; refine Hct.out.mono ?_; rintro e w' ⟨rfl, rfl⟩)
          all_goals
            go_wp2_with fail
            go_roundw
            case rel => exact ⟨k + 1, by omega, by go_num, Hp2.out, Hks.out⟩
            case measure => simp [intOf]; omega
        · obtain rfl : k = d1.dur.length := by omega
          rw [dFlatK_all] at hv
          have hcr := cell_of hv.blk
          have hfr := frozen_of hv.blk
          simp only [dcells] at hcr
          have Hv := Lib.hid hv
          have hdb : (Value.slice po d1.dur.length pc).ownBlock ≠ some b := hv.dv_ne
          have Hk3 : Hid (Keep (fp b (.slice po d1.dur.length pc) pv) w wr) := (Hk1.out.mono (fun y hy => mem_fp.2 (.inl (by simpa using hy)))).trans hkp (fun y hy => .inl (mem_fp.2 (.inr (.inl (by simpa using hy)))))
          clear hv hkp hdb
          go_wp2_with fail
          go_returns
          have hs : ∀ (w : World) (i : Nat) (x : Value), Keep (fp b (.slice po d1.dur.length pc) pv) w (w.setCell ⟨b, i, none⟩ x) := fun w i x => Keep.setCell _ _ _ _ _ (mem_fp.2 (.inl rfl))
          refine ⟨rfl, _, ⟨_, _, Hv.out.nilPend.set _ _ rfl rfl rfl, rfl⟩, (Hk3.out.trans (hs _ _ _) (fun x hx => .inl hx)).trans (hs _ _ _) (fun x hx => .inl hx), fun x hx => ?_⟩
          rcases mem_fp.1 hx with rfl | hx | hx
          · exact .inl (mem_fp.2 (.inl rfl))
          · exact .inl (mem_fp.2 (.inr (.inl hx)))
          · cases hx
    · go_enter Try.func42, Try.ntmps42
      go_wp2_with fail
      refine Hst.out.mono ?_
      rintro e w1 ⟨rfl, h1, hk1⟩
      have Hs := Lib.hid (h1.to hk1)
      clear h1 hk1 hc
      go_wp2_with fail
      go_returns
      exact ⟨rfl, Hs.out⟩
end Go.Proofs.Ytombldjaipcloaa
