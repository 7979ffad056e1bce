/- Clone of the device. -/
import Derived.Test.YtombldjaipcloaaEm
import Derived.Test.YtombldjaipcloaaAg
import Derived.Shelf.SlMaps.Clone
set_option linter.unusedVariables false
set_option linter.unusedSimpArgs false
namespace Go.Proofs.Ytombldjaipcloaa
open Go.RowKit
/-- maps.Clone, of a map that lies in memory. -/
theorem mapsClone_c (w : World) (mb : Nat) (m : IS) (h : MapAt w mb m) :
    Calls Try.prog 48 #[.map (some mb)] w fun e w' => e = .returned (.map (some w.heap.size)) ∧ MapAt w' w.heap.size m ∧ w'.heap.size = w.heap.size + 1 ∧ Keep [] w w' := by
  obtain ⟨es, clk, hb, he⟩ := h
  have hq := fun w => run_eql_map_nil_sl (P := Try.prog) w 77 _ _ (some mb) Try.underlying77
  go_enter Try.func48, Try.ntmps48
  go_wp2
  rw [run_callFunc_extern Try.func56 (by kernel_rfl) (by kernel_rfl) (by kernel_rfl) (e := Extern.MapsClone.clone) (by kernel_rfl), run_maps_clone_sl w 77 hb]
  simp only [Result.andThen]
  rw [Oper.upon_value]
  go_wp2
  rw [run_typeAssert_map_sl _ 77 20 _ _ _ Try.underlying77]
  simp only [Result.andThen]
  rw [Oper.upon_value]
  go_wp2
  go_ret
  exact ⟨rfl, ⟨es, clk, World.alloc_heap_new w _, he⟩, by simp, Keep.alloc [] w _⟩
theorem infoWv : (Try.prog.info? 82).map (fun i => (i.zero, i.size, i.bytes)) = some (some (.agg #[.int .i64 0, .string ⟨#[]⟩]), 2, 24) := by kernel_rfl
theorem pcells_one (p : IS) : ∀ u ∈ pcells p, u.oneCell' = true := by
  intro u hu
  obtain ⟨x, _, hx⟩ := List.mem_flatMap.1 hu
  simp at hx
  rcases hx with rfl | rfl <;> rfl
theorem slicesClone_c (w : World) (pv : Value) (p : IS) (h : w.ownsRow 0 82 2 pv p.length (pcells p)) (hl : p.length ≤ 4096) :
    Calls Try.prog 49 #[pv] w fun e w' => ∃ v', e = .returned v' ∧ w'.ownsRow w.heap.size 82 2 v' p.length (pcells p) ∧ w.heap.size ≤ w'.heap.size ∧ Keep [] w w' := by
  have q22 : ∀ (w : World) (a : Option Addr) (n c n' c' : Nat), (binOp .eql 78 (.slice a n c) (.slice none n' c')).run Try.prog w = .ok (.bool a.isNone) w := fun w a n c n' c' => Lib.run_eql_slice_nil w _ _ a n c n' c' Try.underlying78
  obtain ⟨i0, hi, hz0, hz1, hz2⟩ := info_parts infoWv
  rcases h.2 with ⟨rfl, h0⟩ | ⟨g, cap, cur, rfl, hb, hg, rest⟩
  · have hp : p = [] := List.eq_nil_of_length_eq_zero h0
    subst hp
    clear h
    go_enter Try.func49, Try.ntmps49
    go_wp2
    go_ret
    exact ⟨_, rfl, World.ownsRow_nil _ _ _ _, Nat.le_refl _, Keep.refl _ _⟩
  · have Hc : Hid (∀ j u, (pcells p)[j]? = some u → w.cell? ⟨g, 0 + j, none⟩ = some u) := fun j u hj => by
      have := h.cells (g := g) rfl j u hj
      rwa [Addr.add_lit] at this
    have Hgl : Hid (g < w.heap.size) := lt_of_heap hg
    clear rest hg hb h
    go_enter Try.func49, Try.ntmps49
    go_wp2_with (at_builtin; refine wpList_append_own _ rfl _ _ 78 rfl w.heap.size 82 i0 _ 2 24 Try.underlying78 hi hz0 hz1 hz2 rfl (by decide) _ _ _ rfl (World.ownsRow_made w #[] 0 (Nat.le_refl _) (Nat.zero_le _) (by simp)) ⟨g, 0, none⟩ p.length cap (pcells p) rfl ?qc1 ?qc2 ?qc3 ?qc4 ?qc5 ?qc6 ?_)
    case qc1 => exact pcells_length p
    case qc2 =>
      intro j u hj
      rw [Addr.add_lit]
      exact Lib.cell?_alloc_some _ (Hc.out j u hj)
    case qc3 => exact pcells_one p
    case qc4 => unfold maxLen; omega
    case qc5 => omega
    case qc6 => simp
    intro v' w1 hown hgrow hnil
    have Hk : Hid (Keep [] w w1) := ((Keep.alloc [] w _).grownPast hgrow (by intro k hk; simp [Value.ownBlock] at hk; omega))
    have Hown := Lib.hid hown
    clear hown hgrow
    obtain ⟨vo, vc, rfl⟩ := own_form (ownsRow_base0 Hown.out)
    go_wp2
    go_ret
    exact ⟨_, rfl, by simpa using Hown.out, Hk.out.size, Hk.out⟩
theorem mapAt_keep {w w' : World} {mb : Nat} {m : IS} {F : List Nat} (h : MapAt w mb m) (hk : Keep F w w') (hn : mb ∉ F) : MapAt w' mb m := by
  obtain ⟨es, clk, hb, he⟩ := h
  exact ⟨es, clk, hk.heap hb hn, he⟩
theorem set_keep {w : World} {b : Nat} (i : Nat) (x : Value) : Keep [b] w (w.setCell ⟨b, i, none⟩ x) := Keep.setCell _ _ _ _ _ (by simp)
/-- The device's cells and the two that have come. -/
theorem vol_set2 {w : World} {b mb mb2 : Nat} {pv pv2 : Value} {v : Vol} (h : w.heap[b]? = some (.cells (vcells mb pv v) 80 (0, 0))) :
    ((w.setCell ⟨b, 1, none⟩ (.map (some mb2))).setCell ⟨b, 2, none⟩ pv2).heap[b]? = some (.cells (vcells mb2 pv2 v) 80 (0, 0)) := by
  rw [set_same (set_same h 1 _) 2 _]; rfl
theorem vol_set2' {w : World} {b mb mb2 : Nat} {pv pv2 : Value} {v : Vol} (h : w.heap[b]? = some (.cells (vcells mb pv v) 80 (0, 0))) :
    ((w.setCell ⟨b, 2, none⟩ pv2).setCell ⟨b, 1, none⟩ (.map (some mb2))).heap[b]? = some (.cells (vcells mb2 pv2 v) 80 (0, 0)) := by
  rw [set_same (set_same h 2 _) 1 _]; rfl
set_option maxRecDepth 100000 in
set_option maxHeartbeats 4000000 in
theorem clone_c (w : World) (b mb : Nat) (pv : Value) (v : Vol) (h : VolAt w b mb pv v) (hl : v.pend.length ≤ 4096) :
    Calls Try.prog 33 #[.pointer (some ⟨b, 0, none⟩)] w fun e w' => ∃ b2 mb2 pv2, e = .returned (.pointer (some ⟨b2, 0, none⟩)) ∧ VolAt w' b2 mb2 pv2 v ∧ (∀ x ∈ b2 :: mb2 :: pv2.ownBlock.toList, w.heap.size ≤ x) ∧ Keep [] w w' := by
  obtain ⟨qo, qc, rfl⟩ := own_form h.pend
  have hc := cell_of h.blk
  simp only [vcells] at hc
  have H := Lib.hid h
  clear h
  go_enter Try.func33, Try.ntmps33
  go_wp2_with fail
  obtain ⟨b2, hb2⟩ : ∃ b2, w.heap.size = b2 := ⟨_, rfl⟩
  have hnew : (w.alloc (.cells (vcells mb (.slice qo v.pend.length qc) v) 80)).heap[b2]? = some (.cells (vcells mb (.slice qo v.pend.length qc) v) 80 (0, 0)) := by rw [← hb2]; exact World.alloc_heap_new w _
  have hk1 : Keep [] w (w.alloc (.cells (vcells mb (.slice qo v.pend.length qc) v) 80)) := Keep.alloc [] w _
  have hsz1 : (w.alloc (.cells (vcells mb (.slice qo v.pend.length qc) v) 80)).heap.size = b2 + 1 := by rw [← hb2]; simp
  rw [hb2]
  change Code.wp _ _ _ _ (w.alloc (.cells (vcells mb (.slice qo v.pend.length qc) v) 80))
  generalize w.alloc (.cells (vcells mb (.slice qo v.pend.length qc) v) 80) = w1 at *
  have hv1 := H.out.keep0 hk1
  have Hnew := Lib.hid hnew
  have Hk1 := Lib.hid hk1
  have Hv1 := Lib.hid hv1
  have hcb := cell_of hv1.blk
  simp only [vcells] at hcb
  have hcn := cell_of hnew
  simp only [vcells] at hcn
  have hfn := frozen_of hnew
  clear hnew hk1 hv1 hc
  go_region_law (first
    | (go_simp; go_at_call 48; refine (mapsClone_c _ mb v.dur (Hv1.out.keep0 (Keep.drew [] _)).map).mono ?_; rintro e w2 ⟨rfl, hm2, hz2, hk2⟩; clear hcb hcn hfn;
       have Hk2 := Lib.hid ((Keep.drew [] w1).trans0 hk2); have Hm2 := Lib.hid hm2; have Hz2 := Lib.hid hz2; have Hv2 := Lib.hid (Hv1.out.keep0 Hk2.out); have Hn2 := Lib.hid (Hk2.out.heap Hnew.out (by simp));
       have hcb := cell_of Hv2.out.blk; simp only [vcells] at hcb; have hcn := cell_of Hn2.out; simp only [vcells] at hcn; have hfn := frozen_of Hn2.out; clear hm2 hz2 hk2)
    | (go_simp; go_at_call 49; refine (slicesClone_c _ _ v.pend Hv2.out.pend hl).mono ?_; rintro e w3 ⟨pv3, rfl, hm3, hz3, hk3⟩; obtain ⟨vo, vc, rfl⟩ := own_form (ownsRow_base0 hm3); clear hcb hcn hfn;
       have Hk3 := Lib.hid hk3; have Hm3 := Lib.hid hm3; have Hz3 := Lib.hid hz3; have Hv3 := Lib.hid (Hv2.out.keep0 hk3); have Hn3 := Lib.hid (hk3.heap Hn2.out (by simp));
       have hcb := cell_of Hv3.out.blk; simp only [vcells] at hcb; have hcn := cell_of Hn3.out; simp only [vcells] at hcn; have hfn := frozen_of Hn3.out; clear hm3 hz3 hk3))
  all_goals
    have hz2 := Hz2.out
    have hmb : (b2 + 1) < w2.heap.size := by obtain ⟨es, clk, hb, _⟩ := Hm2.out; simpa [hsz1] using lt_of_heap hb
    have hg : ∀ x ∈ (Value.slice vo v.pend.length vc).ownBlock.toList, w2.heap.size ≤ x := ownsRow_ge Hm3.out
    have hks : Keep [b2] w3 ((w3.setCell ⟨b2, 1, none⟩ (.map (some (b2 + 1)))).setCell ⟨b2, 2, none⟩ (.slice vo v.pend.length vc)) := (set_keep 1 _).trans (set_keep 2 _) (fun x hx => .inl hx)
    have hmm : MapAt w2 (b2 + 1) v.dur := by have := Hm2.out; rw [show w1.drew.heap.size = b2 + 1 from hsz1] at this; exact this
    have hfin : VolAt ((w3.setCell ⟨b2, 1, none⟩ (.map (some (b2 + 1)))).setCell ⟨b2, 2, none⟩ (.slice vo v.pend.length vc)) b2 (b2 + 1) (.slice vo v.pend.length vc) v :=
      ⟨vol_set2 Hn3.out, mapAt_keep (mapAt_keep hmm Hk3.out (by simp)) hks (by simp), own_keep (ownsRow_base0 Hm3.out) hks (fun g hg' hm => by have := hg g (by rw [hg']; simp); simp at hm; omega)⟩
    have hkf : Keep [] w ((w3.setCell ⟨b2, 1, none⟩ (.map (some (b2 + 1)))).setCell ⟨b2, 2, none⟩ (.slice vo v.pend.length vc)) :=
      (((Hk1.out.trans0 Hk2.out).trans0 Hk3.out).setPast b2 1 _ (by omega)).setPast b2 2 _ (by omega)
    have Hfin := Lib.hid hfin
    have Hkf := Lib.hid hkf
    clear hfin hkf hks hcb hcn hfn hmm
    go_wp2_with fail
    go_ret
    exact ⟨b2, b2 + 1, _, rfl, Hfin.out, fun x hx => by
      rcases List.mem_cons.1 hx with rfl | hx
      · omega
      · rcases List.mem_cons.1 hx with rfl | hx
        · omega
        · have := hg x hx; omega, Hkf.out⟩
end Go.Proofs.Ytombldjaipcloaa
