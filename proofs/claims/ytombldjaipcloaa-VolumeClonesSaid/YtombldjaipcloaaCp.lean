/- A copy of a model. -/
import Derived.Test.YtombldjaipcloaaSm
import Derived.Laws.AppendOwnNone
set_option linter.unusedVariables false
set_option linter.unusedSimpArgs false
namespace Go.Proofs.Ytombldjaipcloaa
open Go.RowKit
theorem infoWd : (Try.prog.info? 59).map (fun i => (i.zero, i.size, i.bytes)) = some (some (.agg #[.int .i64 0, .string ⟨#[]⟩]), 2, 24) := by kernel_rfl
theorem scells_one (l : List ByteArray) : ∀ u ∈ scells l, u.oneCell' = true := by
  intro u hu
  obtain ⟨x, _, hx⟩ := List.mem_map.1 hu
  rw [← hx]; rfl
theorem made1 (w : World) (o : Obj) (e : TypeId) (size : Nat) : ((w.alloc o).alloc (.cells #[] e)).ownsRow (w.heap.size + 1) e size (.slice (some ⟨w.heap.size + 1, 0, none⟩) 0 0) 0 [] := by
  have h := World.ownsRow_made (base := w.heap.size + 1) (e := e) (size := size) (w.alloc o) #[] 0 (by simp) (Nat.zero_le _) (by simp)
  rwa [show (w.alloc o).heap.size = w.heap.size + 1 from by simp] at h
theorem made0 (w : World) (e : TypeId) (size : Nat) : (w.alloc (.cells #[] e)).ownsRow w.heap.size e size (.slice (some ⟨w.heap.size, 0, none⟩) 0 0) 0 [] :=
  World.ownsRow_made w #[] 0 (Nat.le_refl _) (Nat.zero_le _) (by simp)
set_option maxRecDepth 100000 in
set_option maxHeartbeats 4000000 in
theorem copied_c (w : World) (b : Nat) (dv pv : Value) (d : Dk) (h : DkAt w b dv pv d) (hl : d.pend.length ≤ 4096) (hn : d.dur.length ≤ 65536) (hd0 : 0 < d.dur.length) :
    Calls Try.prog 34 #[.pointer (some ⟨b, 0, none⟩)] w fun e w' => ∃ b2 dv2 pv2, e = .returned (.pointer (some ⟨b2, 0, none⟩)) ∧ DkAt w' b2 dv2 pv2 d ∧ (∀ x ∈ fp b2 dv2 pv2, w.heap.size ≤ x) ∧ Keep [] w w' := by
  obtain ⟨po, pc, rfl⟩ := own_form h.pend
  obtain ⟨ro, rc, rfl⟩ := own_form h.dur
  obtain ⟨i0, hi, hz0, hz1, hz2⟩ := info_parts infoS
  have Hi := Lib.hid (And.intro hi (And.intro hz0 (And.intro hz1 hz2)))
  clear hi hz0 hz1 hz2
  obtain ⟨i1, hi, hz0, hz1, hz2⟩ := info_parts infoWd
  have Hi1 := Lib.hid (And.intro hi (And.intro hz0 (And.intro hz1 hz2)))
  clear hi hz0 hz1 hz2
  have hlt : b < w.heap.size := lt_of_heap h.blk
  obtain ⟨gd, cd, hdv, hdc, hgd, _⟩ := own_cells h.dur hd0
  injection hdv with hdv1 hdv2 hdv3
  subst hdv1; subst hdv3
  have Hdc : Hid (∀ j u, (scells d.dur)[j]? = some u → w.cell? ⟨gd, j, none⟩ = some u) := fun j u hj => by
    have hjl : j < d.dur.length := by have := List.getElem?_eq_some_iff.1 hj; obtain ⟨h1, _⟩ := this; simpa [scells] using h1
    rw [hdc j (by omega), hj]
  have Hgd : Hid (gd < w.heap.size) := hgd
  have hc := cell_of h.blk
  simp only [dcells] at hc
  have Hn := Lib.hid hn
  have H := Lib.hid h
  clear h hdc hgd hd0 hn
  go_enter Try.func34, Try.ntmps34
  go_wp2_with (at_builtin; refine wpList_append_own _ rfl _ _ 40 rfl (w.heap.size + 1) 9 i0 _ 1 16 Try.underlying40 Hi.out.1 Hi.out.2.1 Hi.out.2.2.1 Hi.out.2.2.2 rfl (by decide) _ _ _ rfl (made1 w _ _ _) ⟨gd, 0, none⟩ d.dur.length rc (scells d.dur) rfl ?qc1 ?qc2 (scells_one _) ?qc4 ?qc5 ?qc6 ?_)
  case qc1 => simp [scells]
  case qc2 =>
    intro j u hj
    first
      | exact Lib.cell?_alloc_some _ (Lib.cell?_alloc_some _ (Hdc.out j u hj))
      | (rw [Addr.add_lit, Nat.zero_add]; exact Lib.cell?_alloc_some _ (Lib.cell?_alloc_some _ (Hdc.out j u hj)))
  case qc4 => have := Hn.out; unfold maxLen; omega
  case qc5 => have := Hn.out; omega
  intro v3 w3 hown hgrow hnil
  obtain ⟨vo, vc, rfl⟩ := own_form (ownsRow_base0 hown)
  have hk3 : Keep [] w w3 := ((Keep.alloc [] w _).allocPast _).grownPast hgrow (by intro k hk; simp [Value.ownBlock] at hk; omega)
  have hn3 : w3.heap[w.heap.size]? = some (.cells (dcells (.slice (some ⟨gd, 0, none⟩) d.dur.length rc) (.slice po d.pend.length pc) d) 43 (0, 0)) := by
    rw [hgrow.block w.heap.size (by simp; omega) (by simp [Value.ownBlock]), Below.heap_alloc _ _ _ (by simp)]
    exact World.alloc_heap_new w _
  have hg3 : ∀ x ∈ (Value.slice vo d.dur.length vc).ownBlock.toList, w.heap.size + 1 ≤ x := ownsRow_ge hown
  have Hown := Lib.hid hown
  have Hk3 := Lib.hid hk3
  have Hn3 := Lib.hid hn3
  have hlt3 : w.heap.size < w3.heap.size := lt_of_heap hn3
  have hc3 := cell_of ((H.out.keep0 hk3).blk)
  simp only [dcells] at hc3
  have hcn := cell_of hn3
  simp only [dcells] at hcn
  have hfn := frozen_of hn3
  have Hg3 := Lib.hid hg3
  have hbn : b ≠ w.heap.size := by omega
  have hltb : b < w3.heap.size := by omega
  clear hc hown hgrow hnil hk3 hn3 hg3
  have hk4 : Keep [w.heap.size] w3 (w3.setCell ⟨w.heap.size, 0, none⟩ (.slice vo d.dur.length vc)) := set_keep 0 _
  have hn4 : (w3.setCell ⟨w.heap.size, 0, none⟩ (.slice vo d.dur.length vc)).heap[w.heap.size]? = some (.cells (dcells (.slice vo d.dur.length vc) (.slice po d.pend.length pc) d) 43 (0, 0)) := by rw [set_same Hn3.out]; rfl
  have hd4 : DkAt (w3.setCell ⟨w.heap.size, 0, none⟩ (.slice vo d.dur.length vc)) b (.slice (some ⟨gd, 0, none⟩) d.dur.length rc) (.slice po d.pend.length pc) d := (H.out.keep0 Hk3.out).keep hk4 (fun x hx hm => by have := H.out.lt x hx; simp at hm; omega)
  have ho4 : (w3.setCell ⟨w.heap.size, 0, none⟩ (.slice vo d.dur.length vc)).ownsRow 0 9 1 (.slice vo d.dur.length vc) d.dur.length (scells d.dur) := own_keep (ownsRow_base0 Hown.out) hk4 (fun g hg hm => by have := Hg3.out g (by rw [hg]; simp); simp at hm; omega)
  have hkk4 : Keep [] w (w3.setCell ⟨w.heap.size, 0, none⟩ (.slice vo d.dur.length vc)) := Hk3.out.setPast _ 0 _ (Nat.le_refl _)
  have hz4 : (w3.setCell ⟨w.heap.size, 0, none⟩ (.slice vo d.dur.length vc)).heap.size = w3.heap.size := by simp [World.setCell]
  have Hn4 := Lib.hid hn4
  have Hd4 := Lib.hid hd4
  have Ho4 := Lib.hid ho4
  have Hkk4 := Lib.hid hkk4
  clear hn4 hd4 ho4 hkk4 hk4
  have HD4 := Lib.hid (show DkAt (w3.setCell ⟨w.heap.size, 0, none⟩ (.slice vo d.dur.length vc)) w.heap.size (.slice vo d.dur.length vc) (.slice po d.pend.length pc) d from ⟨Hn4.out, Ho4.out, Hd4.out.pend⟩)
  rcases Hd4.out.pend.2 with ⟨hpv, h0⟩ | ⟨gp, cp, cur, hpv, _⟩
  · injection hpv with hp1 _ hp3
    subst hp1; subst hp3
    have hp0 : d.pend = [] := List.eq_nil_of_length_eq_zero h0
    rw [h0] at *
    have hm := made0 (w3.setCell ⟨w.heap.size, 0, none⟩ (.slice vo d.dur.length vc)) 59 2
    rw [hz4] at hm
    have Hm := Lib.hid hm
    clear hm
    go_wp2_with (at_builtin; refine wpList_append_own_none rfl _ _ 41 rfl (w3.heap.size) 59 i1 2 Try.underlying41 Hi1.out.1 _ 0 [] rfl Hm.out rfl ?_)
    go_ret
    have hcm : ((w3.setCell ⟨w.heap.size, 0, none⟩ (.slice vo d.dur.length vc)).alloc (.cells #[] 59)).setCell ⟨w.heap.size, 1, none⟩ (.slice (some ⟨w3.heap.size, 0, none⟩) 0 0) = ((w3.setCell ⟨w.heap.size, 0, none⟩ (.slice vo d.dur.length vc)).setCell ⟨w.heap.size, 1, none⟩ (.slice (some ⟨w3.heap.size, 0, none⟩) 0 0)).alloc (.cells #[] 59) := by
      have hlt3' : w.heap.size < w3.heap.size := hlt3
      simp [go_sem, hlt3']
    rw [← hcm]
    refine ⟨_, rfl, _, _, HD4.out.setPend (F := []) (p := d.pend) (Keep.alloc [] _ _) (by simp) (by simp) (by rw [hp0]; exact ownsRow_base0 Hm.out), fun x hx => ?_, (Hkk4.out.allocPast _).setPast _ 1 _ (Nat.le_refl _)⟩
    rcases mem_fp.1 hx with rfl | hx | hx
    · exact Nat.le_refl _
    · have := Hg3.out x (by rw [hx]; simp); omega
    · simp [Value.ownBlock] at hx; omega
  · injection hpv with hp1 _ hp3
    subst hp1; subst hp3
    have Hdp : Hid (∀ j u, (pcells d.pend)[j]? = some u → (w3.setCell ⟨w.heap.size, 0, none⟩ (.slice vo d.dur.length vc)).cell? ⟨gp, j, none⟩ = some u) := fun j u hj => by
      have := Hd4.out.pend.cells (g := gp) rfl j u hj
      rwa [Addr.add_lit, Nat.zero_add] at this
    have hm := made0 (w3.setCell ⟨w.heap.size, 0, none⟩ (.slice vo d.dur.length vc)) 59 2
    rw [hz4] at hm
    have Hm := Lib.hid hm
    clear hm
    go_wp2_with (at_builtin; refine wpList_append_own _ rfl _ _ 41 rfl (w3.heap.size) 59 i1 _ 2 24 Try.underlying41 Hi1.out.1 Hi1.out.2.1 Hi1.out.2.2.1 Hi1.out.2.2.2 rfl (by decide) _ _ _ rfl Hm.out ⟨gp, 0, none⟩ d.pend.length pc (pcells d.pend) rfl (pcells_length _) ?qe2 (pcells_one _) ?qe4 ?qe5 ?qe6 ?_)
    case qe2 =>
      intro j u hj
      first
        | exact Lib.cell?_alloc_some _ (Hdp.out j u hj)
        | (rw [Addr.add_lit, Nat.zero_add]; exact Lib.cell?_alloc_some _ (Hdp.out j u hj))
    case qe4 => unfold maxLen; omega
    case qe5 => omega
    intro v5 w5 hown5 hgrow5 _
    obtain ⟨wo, wc, rfl⟩ := own_form (ownsRow_base0 hown5)
    have Hown5 := Lib.hid hown5
    have Hk5 := Lib.hid ((Keep.alloc [] (w3.setCell ⟨w.heap.size, 0, none⟩ (.slice vo d.dur.length vc)) (.cells #[] 59)).grownPast hgrow5 (by intro k hk; rw [hz4]; simp [Value.ownBlock] at hk; omega))
    have hg5 := ownsRow_ge hown5
    have hn5 := Hk5.out.heap Hn4.out (by simp)
    have hcn5 := cell_of hn5
    simp only [dcells] at hcn5
    have hfn5 := frozen_of hn5
    clear hown5 hgrow5 hn5
    go_wp2_with fail
    go_ret
    refine ⟨_, _, _, rfl, HD4.out.setPend (F := []) (p := d.pend) Hk5.out (by simp) (by simp) (ownsRow_base0 Hown5.out), fun x hx => ?_, (Hkk4.out.trans0 Hk5.out).setPast _ 1 _ (Nat.le_refl _)⟩
    rcases mem_fp.1 hx with rfl | hx | hx
    · exact Nat.le_refl _
    · have := Hg3.out x (by rw [hx]; simp); omega
    · have := hg5 x (by rw [hx]; simp); omega
end Go.Proofs.Ytombldjaipcloaa
