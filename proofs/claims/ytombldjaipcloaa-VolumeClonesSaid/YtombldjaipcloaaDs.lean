/- The model's start. -/
import Derived.Test.YtombldjaipcloaaDx
import Derived.StillTailTactics
set_option linter.unusedVariables false
set_option linter.unusedSimpArgs false
namespace Go.Proofs.Ytombldjaipcloaa
open Go.RowKit
def dStartL (zs : List Nat) : List ByteArray → Nat → IS → List ByteArray
  | l, _, [] => l
  | l, i, p :: q => dStartL zs (l.set p.1.toNat (surv ((l[p.1.toNat]?).getD ⟨#[]⟩) p.2 (vChoice zs i))) (i + 1) q
def dStart (d : Dk) (zs : List Nat) : Dk := if d.down then { d with dur := dStartL zs d.dur 0 d.pend, pend := [], limited := false, limit := 0, down := false } else d
theorem dStartL_length (zs : List Nat) (q : IS) : ∀ (l : List ByteArray) (i : Nat), (dStartL zs l i q).length = l.length := by
  induction q with
  | nil => intro l i; rfl
  | cons p q ih => intro l i; rw [dStartL, ih, List.length_set]
theorem dStartL_snoc (zs : List Nat) (q : IS) (p : Int × ByteArray) : ∀ (l : List ByteArray) (i : Nat), dStartL zs l i (q ++ [p]) = (dStartL zs l i q).set p.1.toNat (surv (((dStartL zs l i q)[p.1.toNat]?).getD ⟨#[]⟩) p.2 (vChoice zs (i + q.length))) := by
  induction q with
  | nil => intro l i; simp [dStartL]
  | cons x q ih => intro l i; simp only [List.cons_append, dStartL, List.length_cons]; rw [ih]; rw [show i + 1 + q.length = i + (q.length + 1) from by omega]
theorem survive_s0 (old new : ByteArray) (w : World) : Calls Try.prog 16 #[.string old, .string new, .int .u8 0] w fun e w' => e = .returned (.string (surv old new 0)) ∧ w = w' := survive_s old new 0 (by omega) w
set_option maxRecDepth 100000 in
set_option maxHeartbeats 2000000 in
theorem dstart_at (w : World) (b : Nat) (dv pv : Value) (d : Dk) (sv : Value) (zs : List Nat) (h : DkAt w b dv pv d) (hr : ∀ p ∈ d.pend, 0 ≤ p.1 ∧ p.1 < d.dur.length) (hz : ∀ w', Keep (fp b dv pv) w w' → ByteRow w' sv zs) (hzl : zs.length ≤ 140737488355328) (hl : d.dur.length ≤ 65536) (hl2 : d.pend.length ≤ 4096) :
    Calls Try.prog 43 #[.pointer (some ⟨b, 0, none⟩), sv] w fun e w' => e = .returned (.tuple #[]) ∧ To (DkH b (dStart d zs)) (fp b dv pv) w w' := by
  have hc := cell_of h.blk
  have hf := frozen_of h.blk
  simp only [dcells] at hc
  unfold dStart
  by_cases hdn : d.down = true
  · rw [if_pos hdn]
    rw [hdn] at hc
    have hz0 := hz w (Keep.refl _ _)
    obtain ⟨so, scap, rfl⟩ : ∃ so scap, sv = .slice so zs.length scap := by
      rcases hz0 with ⟨a, c, h1, h2⟩ | ⟨sb, so, c, h1, _⟩
      · exact ⟨a, c, by rw [h1, h2]; rfl⟩
      · exact ⟨_, c, h1⟩
    obtain ⟨po, pc, rfl⟩ := own_form h.dur
    obtain ⟨qo, qc, rfl⟩ := own_form h.pend
    have Hz := Lib.hid hz
    have Hr := Lib.hid hr
    have H := Lib.hid h
    obtain ⟨n, hn⟩ : ∃ n, d.dur.length = n := ⟨_, rfl⟩
    have Hn := Lib.hid hn
    rw [hn] at hl hc
    clear h hz hr hdn hz0 hn
    go_enter Try.func43, Try.ntmps43
    go_wp2_with fail
    go_loopw [4] (fun i wr => ∃ k : Nat, k ≤ d.pend.length ∧ i = .int .i64 k ∧ DkAt wr b (.slice po n pc) (.slice qo d.pend.length qc) { d with dur := dStartL zs d.dur 0 (d.pend.take k) } ∧ Keep (fp b (.slice po n pc) (.slice qo d.pend.length qc)) w wr) (fun i _ => d.pend.length - (intOf i).toNat)
    case atStart => exact ⟨0, by omega, rfl, by rw [← Hn.out]; exact H.out, Keep.refl _ _⟩
    case round =>
      obtain ⟨k, hk, rfl, hv, hkp⟩ := hrel
      by_cases hlt : k < d.pend.length
      · obtain ⟨q, rfl, e1, e2, hql⟩ := hv.pendElem k hlt
        dsimp only at e1 e2
        have Hs : Hid (dStartL zs d.dur 0 (d.pend.take (k + 1)) = (dStartL zs d.dur 0 (d.pend.take k)).set (d.pend[k]).1.toNat (surv (((dStartL zs d.dur 0 (d.pend.take k))[(d.pend[k]).1.toNat]?).getD ⟨#[]⟩) (d.pend[k]).2 (vChoice zs k))) := by
          show _ = _
          rw [List.take_succ_eq_append_getElem hlt, dStartL_snoc, List.length_take, Nat.min_eq_left (by omega), Nat.zero_add]
        have hrk := Hr.out _ (List.getElem_mem hlt)
        have hll : (dStartL zs d.dur 0 (d.pend.take k)).length = n := by rw [dStartL_length, Hn.out]
        rw [Hn.out] at hrk
        generalize dStartL zs d.dur 0 (d.pend.take k) = l at *
        generalize d.pend[k] = p at *
        obtain ⟨ps, pd⟩ := p
        dsimp only at e1 e2 Hs hrk
        obtain ⟨hrk1, hrk2⟩ := hrk
        obtain ⟨m, rfl⟩ : ∃ m : Nat, ps = m := ⟨ps.toNat, by omega⟩
        have hml : m < n := by omega
        obtain ⟨g, rfl, hgc, hgl, hgf⟩ := hv.durElem m (by show m < l.length; omega)
        dsimp only at hgc
        have hml' : m < l.length := by omega
        have hgc' : wr.cell? ⟨g, m, none⟩ = some (.string l[m]) := by rw [hgc, List.getElem?_eq_getElem hml']; rfl
        have Hs0 := Hs.out
        rw [Int.toNat_natCast, List.getElem?_eq_getElem hml', Option.getD_some] at Hs0
        clear Hs hgc
        have Hs := Lib.hid Hs0
        clear Hs0
        have hzr := Hz.out wr (by rw [Hn.out]; exact hkp)
        have hch : (k < zs.length → ∃ sb so', so = some ⟨sb, so', none⟩ ∧ wr.cell? ⟨sb, so' + k, none⟩ = some (.int .u8 (vChoice zs k : Nat))) ∧ (¬ k < zs.length → vChoice zs k = 0) ∧ vChoice zs k ≤ 255 := by
          unfold vChoice
          rcases hzr with ⟨_, c, h1, h2⟩ | ⟨sb, so', c, h1, h2⟩
          · subst h2; simp
          · injection h1 with h1 _ _
            refine ⟨fun hk => ⟨sb, so', h1, by rw [List.getElem?_eq_getElem hk]; exact (h2 k hk).1⟩, fun hk => by rw [List.getElem?_eq_none (by omega)]; rfl, ?_⟩
            by_cases hk : k < zs.length
            · rw [List.getElem?_eq_getElem hk]; exact (h2 k hk).2
            · rw [List.getElem?_eq_none (by omega)]; simp
        obtain ⟨hc1, hc2, hc3⟩ := hch
        generalize hcc : vChoice zs k = ch at *
        have hcr := cell_of hv.blk
        simp only [dcells] at hcr
        have hbl := lt_of_heap hv.blk
        have Hv := Lib.hid hv
        have Hkp := Lib.hid hkp
        clear hv hkp hzr hcc hc hf
        by_cases hki : k < zs.length
        · obtain ⟨sb, so', rfl, hcell⟩ := hc1 hki
          have hsb : sb < wr.heap.size := World.block_lt_of_cell? wr _ hcell
          clear hc1 hc2
          have hv1 : DkAt (wr.alloc (.cells #[.int .i64 m, .string pd] 59)).drew b (.slice (some ⟨g, 0, none⟩) n pc) (.slice (some ⟨q, 0, none⟩) d.pend.length qc) { d with dur := l } := Hv.out.keep ((Keep.alloc [] _ _).trans (Keep.drew [] _) (by simp)) (by simp)
          have hp2 := hv1.putDur m (by show m < l.length; omega) (surv l[m] pd ch)
          have hks : Keep (fp b (.slice (some ⟨g, 0, none⟩) n pc) (.slice (some ⟨q, 0, none⟩) d.pend.length qc)) w ((wr.alloc (.cells #[.int .i64 m, .string pd] 59)).drew.setCell ⟨g, m, none⟩ (.string (surv l[m] pd ch))) := (Hkp.out.trans ((Keep.alloc [] _ _).trans (Keep.drew [] _) (by simp)) (by simp)).trans (Keep.setCell _ _ _ _ _ (mem_fp.2 (.inr (.inl rfl)))) (fun x hx => .inl hx)
          have Hv1 := Lib.hid hv1
          have Hp2 := Lib.hid hp2
          have Hks := Lib.hid hks
          clear hv1 hp2 hks
          go_wp2_with fail
          refine wp_region_still_tail 19 (by kernel_rfl) (by kernel_rfl) ?_
          simp only [List.take_succ_cons, List.take_zero, List.drop_succ_cons, List.drop_zero]
          have hx0 : (wr.alloc (.cells #[.int .i64 m, .string pd] 59)).drew.cell? ⟨wr.heap.size, 0, none⟩ = some (.int .i64 m) := by simp [go_sem]
          have hx1 : (wr.alloc (.cells #[.int .i64 m, .string pd] 59)).drew.cell? ⟨wr.heap.size, 1, none⟩ = some (.string pd) := by simp [go_sem]
          have hcd := cell_of Hv1.out.blk
          simp only [dcells] at hcd
          have hgd : (wr.alloc (.cells #[.int .i64 m, .string pd] 59)).drew.cell? ⟨g, m, none⟩ = some (.string l[m]) := by
            obtain ⟨g', e, h1, _, h2⟩ := Hv1.out.durElem m hml'
            injection e with e; injection e with e; subst e
            rw [h1]; dsimp only; rw [List.getElem?_eq_getElem hml']; rfl
          have hgf' : ∀ j, (wr.alloc (.cells #[.int .i64 m, .string pd] 59)).drew.frozen? ⟨g, j, none⟩ = false := by
            obtain ⟨g', e, h1, _, h2⟩ := Hv1.out.durElem m hml'
            injection e with e; injection e with e; subst e; exact h2
          clear Hv1
          show wpStill _ _ (World.drew _) (fun a' => wpList _ _ _ _ a' (World.drew _)) _ _
          generalize (wr.alloc (.cells #[.int .i64 m, .string pd] 59)).drew = w4 at *
          repeat still_step
          still_call ((survive_s _ _ _ hc3 _).mono (fun e w' h => ⟨h.1, h.2.symm⟩))
          repeat still_step
          refine wpStill_nil ?_
          go_wp2_with fail
          go_roundw
          case rel => exact ⟨k + 1, by omega, by go_num, by rw [Hs.out]; exact Hp2.out, Hks.out⟩
          case measure => simp [intOf]; omega
        · have hch0 := hc2 hki
          subst hch0
          clear hc1 hc2
          have hki' : zs.length ≤ k := by omega
          have hv1 : DkAt (wr.alloc (.cells #[.int .i64 m, .string pd] 59)).drew b (.slice (some ⟨g, 0, none⟩) n pc) (.slice (some ⟨q, 0, none⟩) d.pend.length qc) { d with dur := l } := Hv.out.keep ((Keep.alloc [] _ _).trans (Keep.drew [] _) (by simp)) (by simp)
          have hp2 := hv1.putDur m (by show m < l.length; omega) (surv l[m] pd 0)
          have hks : Keep (fp b (.slice (some ⟨g, 0, none⟩) n pc) (.slice (some ⟨q, 0, none⟩) d.pend.length qc)) w ((wr.alloc (.cells #[.int .i64 m, .string pd] 59)).drew.setCell ⟨g, m, none⟩ (.string (surv l[m] pd 0))) := (Hkp.out.trans ((Keep.alloc [] _ _).trans (Keep.drew [] _) (by simp)) (by simp)).trans (Keep.setCell _ _ _ _ _ (mem_fp.2 (.inr (.inl rfl)))) (fun x hx => .inl hx)
          have Hv1 := Lib.hid hv1
          have Hp2 := Lib.hid hp2
          have Hks := Lib.hid hks
          clear hv1 hp2 hks
          go_wp2_with fail
          refine wp_region_still_tail 19 (by kernel_rfl) (by kernel_rfl) ?_
          simp only [List.take_succ_cons, List.take_zero, List.drop_succ_cons, List.drop_zero]
          have hx0 : (wr.alloc (.cells #[.int .i64 m, .string pd] 59)).drew.cell? ⟨wr.heap.size, 0, none⟩ = some (.int .i64 m) := by simp [go_sem]
          have hx1 : (wr.alloc (.cells #[.int .i64 m, .string pd] 59)).drew.cell? ⟨wr.heap.size, 1, none⟩ = some (.string pd) := by simp [go_sem]
          have hcd := cell_of Hv1.out.blk
          simp only [dcells] at hcd
          have hgd : (wr.alloc (.cells #[.int .i64 m, .string pd] 59)).drew.cell? ⟨g, m, none⟩ = some (.string l[m]) := by
            obtain ⟨g', e, h1, _, h2⟩ := Hv1.out.durElem m hml'
            injection e with e; injection e with e; subst e
            rw [h1]; dsimp only; rw [List.getElem?_eq_getElem hml']; rfl
          have hgf' : ∀ j, (wr.alloc (.cells #[.int .i64 m, .string pd] 59)).drew.frozen? ⟨g, j, none⟩ = false := by
            obtain ⟨g', e, h1, _, h2⟩ := Hv1.out.durElem m hml'
            injection e with e; injection e with e; subst e; exact h2
          clear Hv1
          show wpStill _ _ (World.drew _) (fun a' => wpList _ _ _ _ a' (World.drew _)) _ _
          generalize (wr.alloc (.cells #[.int .i64 m, .string pd] 59)).drew = w4 at *
          repeat still_step
          still_call ((survive_s0 _ _ _).mono (fun e w' h => ⟨h.1, h.2.symm⟩))
          repeat still_step
          refine wpStill_nil ?_
          go_wp2_with fail
          go_roundw
          case rel => exact ⟨k + 1, by omega, by go_num, by rw [Hs.out]; exact Hp2.out, Hks.out⟩
          case measure => simp [intOf]; omega
      · obtain rfl : k = d.pend.length := by omega
        rw [List.take_length] at hv
        have hcr := cell_of hv.blk
        have hfr := frozen_of hv.blk
        simp only [dcells] at hcr
        have Hv := Lib.hid hv
        have Hkp := Lib.hid hkp
        clear hv hkp hc hf
        go_wp2_with fail
        go_returns
        rw [Hn.out]
        have hs : ∀ (w : World) (i : Nat) (x : Value), Keep (fp b (.slice po n pc) (.slice qo d.pend.length qc)) w (w.setCell ⟨b, i, none⟩ x) := fun w i x => Keep.setCell _ _ _ _ _ (mem_fp.2 (.inl rfl))
        have hv1 := Hv.out.nilPend
        have hv2 := hv1.set (d' := { d with dur := dStartL zs d.dur 0 d.pend, pend := [], limited := false }) 2 (.bool false) rfl rfl rfl
        have hv3 := hv2.set (d' := { d with dur := dStartL zs d.dur 0 d.pend, pend := [], limited := false, limit := 0 }) 4 (.int .i64 0) rfl rfl rfl
        have hv4 := hv3.set (d' := { d with dur := dStartL zs d.dur 0 d.pend, pend := [], limited := false, limit := 0, down := false }) 3 (.bool false) rfl rfl rfl
        refine ⟨rfl, _, ⟨_, _, hv4, rfl⟩, (((Hkp.out.trans (hs _ _ _) (fun x hx => .inl hx)).trans (hs _ _ _) (fun x hx => .inl hx)).trans (hs _ _ _) (fun x hx => .inl hx)).trans (hs _ _ _) (fun x hx => .inl hx), fun x hx => ?_⟩
        rcases mem_fp.1 hx with rfl | hx | hx
        · exact .inl (mem_fp.2 (.inl rfl))
        · exact .inl (mem_fp.2 (.inr (.inl hx)))
        · cases hx
  · rw [if_neg hdn]
    have hdn : d.down = false := by simpa using hdn
    rw [hdn] at hc
    have Hs := Lib.hid h.same
    clear h hdn hr hz
    go_enter Try.func43, Try.ntmps43
    go_wp2_with fail
    go_returns
    exact ⟨rfl, Hs.out⟩
end Go.Proofs.Ytombldjaipcloaa
