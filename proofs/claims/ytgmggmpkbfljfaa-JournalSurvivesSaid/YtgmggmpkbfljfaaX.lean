/- Barrier, Start and Pending. -/
import Derived.Test.YtgmggmpkbfljfaaW
import Derived.Deep.RegionHeld3
set_option linter.unusedVariables false
set_option linter.unusedSimpArgs false
set_option maxRecDepth 100000
namespace Go.Proofs.Ytgmggmpkbfljfaa
open Go.RowKit

def vFlush (v : Vol) (l : IS) : Vol := l.foldl (fun v p => vKeep v p.1 p.2) v
def vBarrier (v : Vol) : Int × Vol :=
  if v.down then (20, v) else if (vOp v).1 then (20, (vOp v).2) else (0, { vFlush (vOp v).2 (vOp v).2.pend with pend := [], barriers := wrap64 ((vOp v).2.barriers + 1) })
theorem vFlush_pend (l : IS) : ∀ v : Vol, (vFlush v l).pend = v.pend ∧ (vFlush v l).barriers = v.barriers := by
  induction l with
  | nil => intro v; exact ⟨rfl, rfl⟩
  | cons p l ih =>
    intro v
    have h := ih (vKeep v p.1 p.2)
    have : (vKeep v p.1 p.2).pend = v.pend ∧ (vKeep v p.1 p.2).barriers = v.barriers := by unfold vKeep; split <;> exact ⟨rfl, rfl⟩
    exact ⟨h.1.trans this.1, h.2.trans this.2⟩
theorem pcells_get (p : IS) (k : Nat) (h : k < p.length) : (pcells p)[k * 2]? = some (.int .i64 (p[k]).1) ∧ (pcells p)[k * 2 + 1]? = some (.string (p[k]).2) := by
  induction p generalizing k with
  | nil => simp at h
  | cons x p ih =>
    cases k with
    | zero => simp [pcells]
    | succ k =>
      have := ih k (by simpa using h)
      simp only [pcells, List.flatMap_cons, List.cons_append, List.nil_append, List.getElem_cons_succ] at *
      rw [show (k + 1) * 2 = k * 2 + 2 from by omega, show k * 2 + 2 + 1 = k * 2 + 1 + 2 from by omega]
      simpa using this
theorem VolAt.elem {w : World} {b mb : Nat} {v : Vol} {g n cap : Nat} (h : VolAt w b mb (.slice (some ⟨g, 0, none⟩) n cap) v) {p : IS} (hp : v.pend = p) (k : Nat) (hk : k < p.length) :
    w.cell? ⟨g, k * 2, none⟩ = some (.int .i64 (p[k]).1) ∧ w.cell? ⟨g, k * 2 + 1, none⟩ = some (.string (p[k]).2) := by
  subst hp
  have ha : ∀ j, (⟨g, 0, none⟩ : Addr).add j = ⟨g, j, none⟩ := fun j => by unfold Addr.add; split <;> simp_all
  have h1 := h.pend.cells (g := g) rfl (k * 2) _ (pcells_get v.pend k hk).1
  have h2 := h.pend.cells (g := g) rfl (k * 2 + 1) _ (pcells_get v.pend k hk).2
  rw [ha] at h1 h2
  exact ⟨h1, h2⟩
theorem VolAt.slice {w : World} {b mb : Nat} {pv : Value} {v : Vol} (h : VolAt w b mb pv v) : (pv = .slice none 0 0 ∧ v.pend = []) ∨ ∃ g cap, pv = .slice (some ⟨g, 0, none⟩) v.pend.length cap := by
  rcases h.pend.2 with ⟨hv, h0⟩ | ⟨g, cap, cur, hv, _⟩
  · exact .inl ⟨hv, List.eq_nil_of_length_eq_zero h0⟩
  · exact .inr ⟨g, cap, hv⟩

theorem VolAt.setNil {w w1 : World} {b mb : Nat} {pv : Value} {v : Vol} {F : List Nat} (h : VolAt w b mb pv v) (hk : Keep F w w1) (hb : b ∉ F) (hmb : mb ∉ F) :
    VolAt (w1.setCell ⟨b, 2, none⟩ (.slice none 0 0)) b mb (.slice none 0 0) { v with pend := [] } := by
  refine ⟨?_, ?_, World.ownsRow_nil _ _ _ _⟩
  · rw [set_same (hk.heap h.blk hb)]; rfl
  · obtain ⟨es, clk, hm, he⟩ := h.map
    exact ⟨es, clk, by rw [set_other _ _ h.mb_ne]; exact hk.heap hm hmb, he⟩
theorem VolAt.setTo {w : World} {b mb : Nat} {pv : Value} {v v' : Vol} (h : VolAt w b mb pv v) (i : Nat) (x : Value) (hc : (vcells mb pv v).setIfInBounds i x = vcells mb pv v') (hd : v'.dur = v.dur) (hp : v'.pend = v.pend) :
    VolAt (w.setCell ⟨b, i, none⟩ x) b mb pv v' := h.set i x hc hd hp
theorem VolAt.to {w w' : World} {b mb : Nat} {pv : Value} {v' : Vol} (h : VolAt w' b mb (.slice none 0 0) v') (hk : Keep [b, mb] w w') : VolTo w b mb pv v' w' :=
  ⟨_, h, hk.mono (fun x hx => by simp at hx; rcases hx with rfl | rfl <;> simp), fun g hg => by cases hg⟩
set_option maxRecDepth 100000 in
theorem barrier_ok (w : World) (b mb : Nat) (pv : Value) (v : Vol) (h : VolAt w b mb pv v) (hd : v.down = false) (hop : (vOp v).1 = false) (hlen : v.pend.length ≤ 4096) :
    Calls Try.prog 65 #[.pointer (some ⟨b, 0, none⟩)] w fun e w' => e = .returned (.int .i64 (vBarrier v).1) ∧ VolTo w b mb pv (vBarrier v).2 w' := by
  have hc := cell_of h.blk
  simp only [vcells, hd] at hc
  have Hop := Lib.hid (operate_c w b mb pv v h)
  rw [hop] at Hop
  have HB := Lib.hid (show vBarrier v = (0, { vFlush (vOp v).2 (vOp v).2.pend with pend := [], barriers := wrap64 ((vOp v).2.barriers + 1) }) by unfold vBarrier; rw [hop, hd]; rfl)
  have hpe : (vOp v).2.pend = v.pend := by unfold vOp; split <;> (try split) <;> rfl
  rw [← hpe] at hlen
  rw [HB.out]
  generalize vOp v = r at *
  obtain ⟨ob, v2⟩ := r
  dsimp only at hlen Hop ⊢
  clear hop HB hpe h
  go_enter Try.func65, Try.ntmps65
  go_wp2_with fail
  refine Hop.out.mono ?_
  rintro e w1 ⟨rfl, h1, hk1⟩
  have hc1 := cell_of h1.blk
  simp only [vcells] at hc1
  have H1 := Lib.hid h1
  have Hk1 := Lib.hid hk1
  clear hc hk1
  rcases h1.slice with ⟨rfl, hp⟩ | ⟨g, cap, rfl⟩
  · have hfl : vFlush v2 v2.pend = v2 := by rw [hp]; rfl
    have Hfl := Lib.hid hfl
    have hf1 := frozen_of h1.blk
    clear h1 hp hfl
    go_wp2_with fail
    refine wp_loop_rounds 1 ?_
    rw [rounds_succ]
    go_wp2_with fail
    go_returns
    rw [Hfl.out]
    refine ⟨rfl, VolAt.to (VolAt.setTo (H1.out.setNil (F := []) (Keep.refl _ _) (by simp) (by simp)) 7 _ rfl rfl rfl) ?_⟩
    exact (Hk1.out.trans (Keep.setCell [b] _ _ _ _ (by simp)) (fun x hx => .inl hx)).trans (Keep.setCell [b] _ _ _ _ (by simp)) (fun x hx => .inl hx) |>.mono (by simp)
  · clear h1
    go_wp2_with fail
    go_loopw [22] (fun i wr => ∃ k : Nat, k ≤ v2.pend.length ∧ i = .int .i64 k ∧ VolAt wr b mb (.slice (some ⟨g, 0, none⟩) v2.pend.length cap) (vFlush v2 (v2.pend.take k)) ∧ Keep [mb] w1 wr) (fun i _ => v2.pend.length - (intOf i).toNat)
    case atStart => exact ⟨0, by omega, rfl, H1.out, Keep.refl _ _⟩
    case round =>
      obtain ⟨k, hk, rfl, hv, hkp⟩ := hrel
      by_cases hlt : k < v2.pend.length
      · obtain ⟨e1, e2⟩ := hv.elem (vFlush_pend _ _).1 k hlt
        have Hs : Hid (vFlush v2 (v2.pend.take (k + 1)) = vKeep (vFlush v2 (v2.pend.take k)) (v2.pend[k]).1 (v2.pend[k]).2) := by
          show _ = _
          rw [List.take_succ_eq_append_getElem hlt]; unfold vFlush; rw [List.foldl_append]; rfl
        have Hv := Lib.hid hv
        have Hkp := Lib.hid hkp
        clear hv hkp
        go_wp2_with fail
        refine (keep_c _ _ _ _ _ _ _ (Hv.out.keep (Keep.alloc [] _ _) (by simp) (by simp) (by simp))).mono ?_
        rintro e w2 ⟨rfl, h2, hk2⟩
        have H2 := Lib.hid h2
        have Hk2 := Lib.hid hk2
        clear h2 hk2
        go_wp2_with fail
        go_roundw
        case rel => exact ⟨k + 1, by omega, by go_num, by rw [Hs.out]; exact H2.out, (Hkp.out.trans (Keep.alloc [mb] _ _) (fun x hx => .inl hx)).trans Hk2.out (fun x hx => .inl hx)⟩
        case measure => simp [intOf]; omega
      · obtain rfl : k = v2.pend.length := by omega
        rw [List.take_length] at hv
        have hcr := cell_of hv.blk
        have hfr := frozen_of hv.blk
        simp only [vcells, (vFlush_pend v2.pend v2).2] at hcr
        have Hv := Lib.hid hv
        have Hkp := Lib.hid hkp
        clear hv hkp
        go_wp2_with fail
        go_returns
        refine ⟨rfl, VolAt.to (VolAt.setTo (Hv.out.setNil (F := []) (Keep.refl _ _) (by simp) (by simp)) 7 _ rfl rfl rfl) ?_⟩
        exact ((Hk1.out.mono (by simp)).trans Hkp.out (by simp)).trans (Keep.setCell [b, mb] _ _ _ _ (by simp)) (fun x hx => .inl hx) |>.trans (Keep.setCell [b, mb] _ _ _ _ (by simp)) (fun x hx => .inl hx)

set_option maxRecDepth 100000 in
theorem barrier_e (w : World) (b mb : Nat) (pv : Value) (v : Vol) (h : VolAt w b mb pv v) (hd : ¬ (v.down = false ∧ (vOp v).1 = false)) :
    Calls Try.prog 65 #[.pointer (some ⟨b, 0, none⟩)] w fun e w' => e = .returned (.int .i64 (vBarrier v).1) ∧ VolTo w b mb pv (vBarrier v).2 w' := by
  have hc := cell_of h.blk
  simp only [vcells] at hc
  by_cases hdn : v.down = true
  · have HB := Lib.hid (show vBarrier v = (20, v) by unfold vBarrier; rw [if_pos hdn])
    rw [hdn] at hc
    have H := Lib.hid h
    rw [HB.out]
    clear hd hdn h HB
    go_enter Try.func65, Try.ntmps65
    go_wp2
    go_returns
    exact ⟨rfl, H.out.here⟩
  · have hdn' : v.down = false := by simpa using hdn
    have hop : (vOp v).1 = true := by
      cases ho : (vOp v).1
      · exact absurd ⟨hdn', ho⟩ hd
      · rfl
    have HB := Lib.hid (show vBarrier v = (20, (vOp v).2) by unfold vBarrier; rw [if_neg hdn, if_pos hop])
    rw [HB.out]
    rw [hdn'] at hc
    have Hop := Lib.hid (operate_c w b mb pv v h)
    rw [hop] at Hop
    clear hd hdn hdn' h HB hop
    go_enter Try.func65, Try.ntmps65
    go_wp2_with fail
    refine Hop.out.mono ?_
    rintro e w1 ⟨rfl, h1, hk1⟩
    have H1 := Lib.hid h1
    have Hk1 := Lib.hid hk1
    clear h1 hk1
    go_wp2_with fail
    go_returns
    exact ⟨rfl, H1.out.step Hk1.out (by simp)⟩
theorem barrier_c (w : World) (b mb : Nat) (pv : Value) (v : Vol) (h : VolAt w b mb pv v) (hlen : v.pend.length ≤ 4096) :
    Calls Try.prog 65 #[.pointer (some ⟨b, 0, none⟩)] w fun e w' => e = .returned (.int .i64 (vBarrier v).1) ∧ VolTo w b mb pv (vBarrier v).2 w' := by
  by_cases hd : v.down = false ∧ (vOp v).1 = false
  · exact barrier_ok w b mb pv v h hd.1 hd.2 hlen
  · exact barrier_e w b mb pv v h hd
theorem barrier_n (w : World) : Calls Try.prog 65 #[.pointer none] w fun e w' => e = .returned (.int .i64 1) ∧ w = w' := by
  go_enter Try.func65, Try.ntmps65
  go_wp2
  go_returns
  exact ⟨rfl, rfl⟩

/-! ### Start -/
def ByteRow (w : World) (sv : Value) (zs : List Nat) : Prop :=
  (∃ a cap, sv = .slice a 0 cap ∧ zs = []) ∨ ∃ sb so cap, sv = .slice (some ⟨sb, so, none⟩) zs.length cap ∧ ∀ i (h : i < zs.length), w.cell? ⟨sb, so + i, none⟩ = some (.int .u8 ((zs[i] : Nat) : Int)) ∧ zs[i] ≤ 255
def vChoice (zs : List Nat) (i : Nat) : Nat := (zs[i]?).getD 0
def vStartL (zs : List Nat) : Vol → Nat → IS → Vol
  | v, _, [] => v
  | v, i, p :: l => vStartL zs (vKeep v p.1 (surv (vDur v p.1) p.2 (vChoice zs i))) (i + 1) l
def vStart (v : Vol) (zs : List Nat) : Vol := if v.down then { vStartL zs v 0 v.pend with pend := [], limited := false, left := 0, down := false } else v
theorem vKeep_rest (v : Vol) (s : Int) (d : ByteArray) : (vKeep v s d).pend = v.pend ∧ (vKeep v s d).sectors = v.sectors := by unfold vKeep; split <;> exact ⟨rfl, rfl⟩
theorem vStartL_rest (zs : List Nat) (l : IS) : ∀ (v : Vol) (i : Nat), (vStartL zs v i l).pend = v.pend ∧ (vStartL zs v i l).sectors = v.sectors := by
  induction l with
  | nil => intro v i; exact ⟨rfl, rfl⟩
  | cons p l ih => intro v i; have h := ih (vKeep v p.1 (surv (vDur v p.1) p.2 (vChoice zs i))) (i + 1); have k := vKeep_rest v p.1 (surv (vDur v p.1) p.2 (vChoice zs i)); exact ⟨h.1.trans k.1, h.2.trans k.2⟩
theorem vStartL_snoc (zs : List Nat) (l : IS) (p : Int × ByteArray) : ∀ (v : Vol) (i : Nat), vStartL zs v i (l ++ [p]) = vKeep (vStartL zs v i l) p.1 (surv (vDur (vStartL zs v i l) p.1) p.2 (vChoice zs (i + l.length))) := by
  induction l with
  | nil => intro v i; simp [vStartL]
  | cons q l ih => intro v i; simp only [List.cons_append, vStartL, List.length_cons]; rw [ih]; rw [show i + 1 + l.length = i + (l.length + 1) from by omega]
theorem ByteRow.keep {w w' : World} {sv : Value} {zs : List Nat} {b mb : Nat} {pv : Value} {v : Vol} {F : List Nat} (h : ByteRow w sv zs) (hv : VolAt w b mb pv v) (hk : Keep F w w') (hF : ∀ x ∈ F, x = b ∨ x = mb) : ByteRow w' sv zs := by
  rcases h with h | ⟨sb, so, cap, hsv, hc⟩
  · exact .inl h
  · refine .inr ⟨sb, so, cap, hsv, fun i hi => ⟨?_, (hc i hi).2⟩⟩
    have h1 := (hc i hi).1
    rw [← h1]
    refine World.cell?_of_block (hk.block sb (World.block_lt_of_cell? w _ h1) (fun hm => ?_))
    rcases hF sb hm with rfl | rfl
    · rw [cell_of hv.blk] at h1
      have : ∀ (j : Nat) (x : Value), (vcells mb pv v)[j]? = some x → (∀ n, x ≠ .int .u8 n) ∨ j = 2 := by
        intro j x hx
        simp only [vcells, List.getElem?_toArray] at hx
        match j, hx with
        | 0, hx => left; intro n; simp at hx; subst hx; simp
        | 1, hx => left; intro n; simp at hx; subst hx; simp
        | 2, hx => right; rfl
        | 3, hx => left; intro n; simp at hx; subst hx; simp
        | 4, hx => left; intro n; simp at hx; subst hx; simp
        | 5, hx => left; intro n; simp at hx; subst hx; simp
        | 6, hx => left; intro n; simp at hx; subst hx; simp
        | 7, hx => left; intro n; simp at hx; subst hx; simp
        | j + 8, hx => simp at hx
      rcases this _ _ h1 with h2 | h2
      · exact h2 _ rfl
      · rw [h2] at h1
        simp only [vcells, List.getElem?_toArray, List.getElem?_cons_succ, List.getElem?_cons_zero, Option.some.injEq] at h1
        rcases hv.pend.2 with ⟨hp, _⟩ | ⟨g, cap, cur, hp, _⟩ <;> rw [hp] at h1 <;> cases h1
    · obtain ⟨es, clk, hm, _⟩ := hv.map
      simp [World.cell?, hm] at h1

theorem Below.cellAt {w w' : World} (h : Below w.heap.size w w') {a : Addr} {v : Value} (hc : w.cell? a = some v) : w'.cell? a = some v :=
  (h.cell (World.block_lt_of_cell? w a hc)).trans hc
theorem Survive_p0 (old new : ByteArray) : Pure Try.prog 62 #[.string old, .string new, .int .u8 0] (.string (surv old new 0)) := Survive_p old new 0 (by omega)
set_option maxRecDepth 100000 in
set_option maxHeartbeats 1000000 in
theorem start_ok (w : World) (b mb : Nat) (pv : Value) (v : Vol) (sv : Value) (zs : List Nat) (h : VolAt w b mb pv v) (hd : v.down = true) (hr : ∀ p ∈ v.pend, 0 ≤ p.1 ∧ p.1 < v.sectors) (hz : ByteRow w sv zs) (hzl : zs.length ≤ 140737488355328) (hlen : v.pend.length ≤ 4096) :
    Calls Try.prog 38 #[.pointer (some ⟨b, 0, none⟩), sv] w fun e w' => e = .returned (.tuple #[]) ∧ VolTo w b mb pv (vStart v zs) w' := by
  have hc := cell_of h.blk
  have hf := frozen_of h.blk
  simp only [vcells, hd] at hc
  have H := Lib.hid h
  have HS := Lib.hid (show vStart v zs = { vStartL zs v 0 v.pend with pend := [], limited := false, left := 0, down := false } by unfold vStart; rw [if_pos hd])
  rw [HS.out]
  have Hr := Lib.hid hr
  have Hz := Lib.hid hz
  obtain ⟨so, scap, hsv⟩ : ∃ so scap, sv = .slice so zs.length scap := by
    rcases hz with ⟨a, c, h1, h2⟩ | ⟨sb, so, c, h1, _⟩
    · exact ⟨a, c, by rw [h1, h2]; rfl⟩
    · exact ⟨_, c, h1⟩
  subst hsv
  clear hd HS hr hz
  rcases h.slice with ⟨rfl, hp⟩ | ⟨g, cap, rfl⟩
  · have hfl : vStartL zs v 0 v.pend = v := by rw [hp]; rfl
    have Hfl := Lib.hid hfl
    clear h hp hfl
    go_enter Try.func38, Try.ntmps38
    go_wp2_with fail
    refine wp_loop_rounds 1 ?_
    rw [rounds_succ]
    go_wp2_with fail
    go_returns
    rw [Hfl.out]
    refine ⟨rfl, VolAt.to (VolAt.setTo (VolAt.setTo (VolAt.setTo (v' := { v with pend := [], limited := false }) (H.out.setNil (F := []) (Keep.refl _ _) (by simp) (by simp)) 3 _ rfl rfl rfl) (v' := { v with pend := [], limited := false, left := 0 }) 5 _ rfl rfl rfl) 4 _ rfl rfl rfl) ?_⟩
    have hs : ∀ (w : World) (i : Nat) (x : Value), Keep [b, mb] w (w.setCell ⟨b, i, none⟩ x) := fun w i x => Keep.setCell _ _ _ _ _ (by simp)
    exact (((hs _ _ _).trans (hs _ _ _) (fun x hx => .inl hx)).trans (hs _ _ _) (fun x hx => .inl hx)).trans (hs _ _ _) (fun x hx => .inl hx)
  · clear h
    go_enter Try.func38, Try.ntmps38
    go_wp2_with fail
    go_loopw [23] (fun i wr => ∃ k : Nat, k ≤ v.pend.length ∧ i = .int .i64 k ∧ VolAt wr b mb (.slice (some ⟨g, 0, none⟩) v.pend.length cap) (vStartL zs v 0 (v.pend.take k)) ∧ Keep [mb] w wr ∧ ByteRow wr (.slice so zs.length scap) zs) (fun i _ => v.pend.length - (intOf i).toNat)
    case atStart => exact ⟨0, by omega, rfl, H.out, Keep.refl _ _, Hz.out⟩
    case round =>
      obtain ⟨k, hk, rfl, hv, hkp, hzr⟩ := hrel
      by_cases hlt : k < v.pend.length
      · obtain ⟨e1, e2⟩ := hv.elem (vStartL_rest _ _ _ _).1 k hlt
        have Hs : Hid (vStartL zs v 0 (v.pend.take (k + 1)) = vKeep (vStartL zs v 0 (v.pend.take k)) (v.pend[k]).1 (surv (vDur (vStartL zs v 0 (v.pend.take k)) (v.pend[k]).1) (v.pend[k]).2 (vChoice zs k))) := by
          show _ = _
          rw [List.take_succ_eq_append_getElem hlt, vStartL_snoc, List.length_take, Nat.min_eq_left (by omega), Nat.zero_add]
        have hrk := Hr.out _ (List.getElem_mem hlt)
        rw [← (vStartL_rest zs (v.pend.take k) v 0).2] at hrk
        generalize vStartL zs v 0 (v.pend.take k) = v1 at *
        generalize hp : v.pend[k] = p at *
        obtain ⟨ps, pd⟩ := p
        dsimp only at e1 e2 Hs hrk
        clear hp
        have hch : (k < zs.length → ∃ sb so', so = some ⟨sb, so', none⟩ ∧ wr.cell? ⟨sb, so' + k, none⟩ = some (.int .u8 (vChoice zs k : Nat))) ∧ (¬ k < zs.length → vChoice zs k = 0) ∧ vChoice zs k ≤ 255 := by
          unfold vChoice
          rcases hzr with ⟨_, c, h1, h2⟩ | ⟨sb, so', c, h1, h2⟩
          · subst h2; simp
          · injection h1 with h1 _ _
            refine ⟨fun hk => ⟨sb, so', h1, by rw [List.getElem?_eq_getElem hk]; exact (h2 k hk).1⟩, fun hk => by rw [List.getElem?_eq_none (by omega)]; rfl, ?_⟩
            by_cases hk : k < zs.length
            · rw [List.getElem?_eq_getElem hk]; exact (h2 k hk).2
            · rw [List.getElem?_eq_none (by omega)]; simp
        obtain ⟨hc1, hc2, hc3⟩ := hch
        generalize hcc : vChoice zs k = ch at *
        clear hcc
        have Hv := Lib.hid hv
        have Hkp := Lib.hid hkp
        have Hzr := Lib.hid hzr
        clear hv hkp hzr
        by_cases hki : k < zs.length
        · obtain ⟨sb, so', rfl, hcell⟩ := hc1 hki
          have hsb : sb < wr.heap.size := World.block_lt_of_cell? wr _ hcell
          clear hc1 hc2
          go_wp2_with fail
          refine (durable_c _ _ _ _ _ _ (Hv.out.keep (Keep.alloc [] _ _) (by simp) (by simp) (by simp)) hrk.1 hrk.2).mono ?_
          rintro e w2 ⟨rfl, hk2⟩
          have hb2 := hk2.below0
          have x1 := Below.cellAt hb2 (a := ⟨wr.heap.size, 0, none⟩) (v := .int .i64 ps) (by simp [go_sem])
          have x2 := Below.cellAt hb2 (a := ⟨wr.heap.size, 1, none⟩) (v := .string pd) (by simp [go_sem])
          go_wp2_with fail
          have Hv2 : Hid (VolAt w2 b mb (.slice (some ⟨g, 0, none⟩) v.pend.length cap) v1) := (Hv.out.keep ((Keep.alloc [] _ _).trans hk2 (by simp)) (by simp) (by simp) (by simp))
          have hmb : wr.heap.size ≠ mb := by
            intro e; obtain ⟨es, clk, hm, _⟩ := Hv.out.map
            have := lt_of_heap hm; omega
          go_region_held3 (fun w' => w'.cell? ⟨wr.heap.size, 0, none⟩ = some (.int .i64 ps) ∧ w'.cell? ⟨wr.heap.size, 1, none⟩ = some (.string pd)) (first | exact ⟨x1, x2⟩ | exact ⟨Below.cellAt hb3 x1, Below.cellAt hb3 x2⟩ | exact ⟨(World.cell?_of_block (hk4.block _ (by have := hb2.size; have := hb3.size; simp at *; omega) (by simpa using hmb))).trans (Below.cellAt hb3 x1), (World.cell?_of_block (hk4.block _ (by have := hb2.size; have := hb3.size; simp at *; omega) (by simpa using hmb))).trans (Below.cellAt hb3 x2)⟩) ((first | (go_at_call 62; refine (Survive_p _ _ _ hc3 _).mono ?_; rintro e w3 ⟨rfl, hb3⟩) | (go_at_call 61; refine (keep_c w3 b mb (.slice (some ⟨g, 0, none⟩) v.pend.length cap) v1 ps (surv (vDur v1 ps) pd ch) (Hv2.out.keep (F := []) ((Keep.drew [] w2).trans (Keep.of_below (F := []) hb3) (by simp)) (by simp) (by simp) (by simp))).mono ?_; rintro e w4 ⟨rfl, hv4, hk4⟩)))
          go_wp2_with fail
          go_roundw
          case rel =>
            have hkk : Keep [mb] wr w4 := (((Keep.alloc [mb] _ _).trans hk2 (by simp)).trans ((Keep.drew [] w2).trans (Keep.of_below (F := []) hb3) (by simp)) (by simp)).trans hk4 (fun x hx => .inl hx)
            exact ⟨k + 1, by omega, by go_num, by rw [Hs.out]; exact hv4, Hkp.out.trans hkk (fun x hx => .inl hx), Hzr.out.keep Hv.out hkk (by simp)⟩
          case measure => simp [intOf]; omega
        · have hch0 := hc2 hki
          subst hch0
          clear hc1 hc2
          have hki' : zs.length ≤ k := by omega
          go_wp2_with fail
          refine (durable_c _ _ _ _ _ _ (Hv.out.keep (Keep.alloc [] _ _) (by simp) (by simp) (by simp)) hrk.1 hrk.2).mono ?_
          rintro e w2 ⟨rfl, hk2⟩
          have hb2 := hk2.below0
          have x1 := Below.cellAt hb2 (a := ⟨wr.heap.size, 0, none⟩) (v := .int .i64 ps) (by simp [go_sem])
          have x2 := Below.cellAt hb2 (a := ⟨wr.heap.size, 1, none⟩) (v := .string pd) (by simp [go_sem])
          go_wp2_with fail
          have Hv2 : Hid (VolAt w2 b mb (.slice (some ⟨g, 0, none⟩) v.pend.length cap) v1) := (Hv.out.keep ((Keep.alloc [] _ _).trans hk2 (by simp)) (by simp) (by simp) (by simp))
          have hmb : wr.heap.size ≠ mb := by
            intro e; obtain ⟨es, clk, hm, _⟩ := Hv.out.map
            have := lt_of_heap hm; omega
          go_region_held3 (fun w' => w'.cell? ⟨wr.heap.size, 0, none⟩ = some (.int .i64 ps) ∧ w'.cell? ⟨wr.heap.size, 1, none⟩ = some (.string pd)) (first | exact ⟨x1, x2⟩ | exact ⟨Below.cellAt hb3 x1, Below.cellAt hb3 x2⟩ | exact ⟨(World.cell?_of_block (hk4.block _ (by have := hb2.size; have := hb3.size; simp at *; omega) (by simpa using hmb))).trans (Below.cellAt hb3 x1), (World.cell?_of_block (hk4.block _ (by have := hb2.size; have := hb3.size; simp at *; omega) (by simpa using hmb))).trans (Below.cellAt hb3 x2)⟩) ((first | (go_at_call 62; refine (Survive_p0 _ _ _).mono ?_; rintro e w3 ⟨rfl, hb3⟩) | (go_at_call 61; refine (keep_c w3 b mb (.slice (some ⟨g, 0, none⟩) v.pend.length cap) v1 ps (surv (vDur v1 ps) pd 0) (Hv2.out.keep (F := []) ((Keep.drew [] w2).trans (Keep.of_below (F := []) hb3) (by simp)) (by simp) (by simp) (by simp))).mono ?_; rintro e w4 ⟨rfl, hv4, hk4⟩)))
          go_wp2_with fail
          go_roundw
          case rel =>
            have hkk : Keep [mb] wr w4 := (((Keep.alloc [mb] _ _).trans hk2 (by simp)).trans ((Keep.drew [] w2).trans (Keep.of_below (F := []) hb3) (by simp)) (by simp)).trans hk4 (fun x hx => .inl hx)
            exact ⟨k + 1, by omega, by go_num, by rw [Hs.out]; exact hv4, Hkp.out.trans hkk (fun x hx => .inl hx), Hzr.out.keep Hv.out hkk (by simp)⟩
          case measure => simp [intOf]; omega
      · obtain rfl : k = v.pend.length := by omega
        rw [List.take_length] at hv
        have hcr := cell_of hv.blk
        have hfr := frozen_of hv.blk
        simp only [vcells] at hcr
        have Hv := Lib.hid hv
        have Hkp := Lib.hid hkp
        clear hv hkp hzr
        go_wp2_with fail
        go_returns
        refine ⟨rfl, VolAt.to (VolAt.setTo (VolAt.setTo (VolAt.setTo (v' := { vStartL zs v 0 v.pend with pend := [], limited := false }) (Hv.out.setNil (F := []) (Keep.refl _ _) (by simp) (by simp)) 3 _ rfl rfl rfl) (v' := { vStartL zs v 0 v.pend with pend := [], limited := false, left := 0 }) 5 _ rfl rfl rfl) 4 _ rfl rfl rfl) ?_⟩
        have hs : ∀ (w : World) (i : Nat) (x : Value), Keep [b, mb] w (w.setCell ⟨b, i, none⟩ x) := fun w i x => Keep.setCell _ _ _ _ _ (by simp)
        exact ((((Hkp.out.mono (by simp)).trans (hs _ _ _) (fun x hx => .inl hx)).trans (hs _ _ _) (fun x hx => .inl hx)).trans (hs _ _ _) (fun x hx => .inl hx)).trans (hs _ _ _) (fun x hx => .inl hx)
end Go.Proofs.Ytgmggmpkbfljfaa
