/- commit of the model. -/
import Derived.Test.YtgmggmpkbfljfaaBk
import Derived.Test.YtgmggmpkbfljfaaQt2
set_option linter.unusedVariables false
set_option linter.unusedSimpArgs false
set_option maxRecDepth 100000
namespace Go.Proofs.Ytgmggmpkbfljfaa
open Go.RowKit
def bCommit (B : Bk) : (Int × Int) × Bk := if (B.ring : Int) - usedN B.groups < secsN B.pend then ((0, 19), B) else (((B.first + B.groups.length : Nat), 0), { B with groups := B.groups ++ [B.pend], pend := [], gen := B.gen + 1 })
theorem vals_one {G : GL} (h : ∀ x ∈ G, ∃ l n c, x.1 = Value.slice l n c) : ∀ u ∈ G.map (·.1), u.oneCell' = true := by
  intro u hu
  obtain ⟨x, hx, rfl⟩ := List.mem_map.1 hu
  obtain ⟨l, n, c, e⟩ := h x hx
  rw [e]; rfl
theorem slice_one {po : Option Addr} {n c : Nat} : ∀ u ∈ [Value.slice po n c], u.oneCell' = true := by intro u hu; simp at hu; subst hu; rfl
structure BFit (B : Bk) : Prop where
  r : B.ring ≤ 1000000
  g : B.gen ≤ 1000000
  f : B.first ≤ 1000000
  p : B.place ≤ 1000000
  n : B.groups.length ≤ 1000000
  l : B.pend.length ≤ 256
  s : ∀ s ∈ B.pend, s.size ≤ 16384
  gs : GSmall B.groups
  u : usedN B.groups ≤ 1000000
set_option maxHeartbeats 8000000 in
theorem bcommit_b (bk : Nat) (B : Bk) (hB : BFit B) :
    MetB bk Try.prog 23 #[.pointer (some ⟨bk, 0, none⟩)] (.tuple #[.int .i64 (bCommit B).1.1, .int .i64 (bCommit B).1.2]) (BH bk B) (BH bk (bCommit B).2) := by
  rintro w F hBH
  have HBH := Lib.hid hBH
  obtain ⟨gv, pv, G, hG, hS⟩ := hBH
  obtain ⟨r, g, f, p, groups, pend⟩ := B
  obtain ⟨fr, fg, ff, fp, fn, fl, fs, fgs, fu⟩ := hB
  dsimp only at fr fg ff fp fn fl fs fgs fu hG hS
  subst hG
  obtain ⟨hr1, hr2, hr3⟩ := hS.rows
  obtain ⟨go, gc, rfl⟩ := hr1.form
  obtain ⟨po, pc, rfl⟩ := hr3.form
  rw [scells_length] at hS hr3
  rw [List.length_map] at hS hr1 fn
  have hbx := hS.box
  have hlt := lt_of_heap hbx
  have HSec : Hid (∀ n : KW w, Calls Try.prog 48 #[.slice po pend.length pc] (Wk w n) fun e w' => e = .returned (.int .i64 (secsN pend)) ∧ ∃ m, w' = Wk w m) := fun n =>
    (sectors_c (Wk w n) _ pend (hr3.keep0 n.k) fl fs).mono fun e w' h => ⟨h.1, n, h.2⟩
  have HUse : Hid (∀ n : KW w, Calls Try.prog 49 #[.pointer (some ⟨bk, 0, none⟩)] (Wk w n) fun e w' => e = .returned (.int .i64 (usedN (G.map (·.2)))) ∧ ∃ m, w' = Wk w m) := fun n =>
    (used_c (Wk w n) bk r g f p _ _ G (n.k.heap hbx (by simp)) (hr1.keep0 n.k) (fun x hx => (hr2 x hx).keep0 n.k) fgs (by omega) (by omega)).mono fun e w' h => ⟨h.1, n, h.2⟩
  have hc : ∀ n : KW w, ∀ i, (Wk w n).cell? ⟨bk, i, none⟩ = (bcells r g f p (.slice go G.length gc) (.slice po pend.length pc))[i]? := fun n => cell_of (n.k.heap hbx (by simp))
  simp only [bcells] at hc
  have hc0 := fun n => hc n 0
  have hc5 := fun n => hc n 5
  simp only [List.getElem?_toArray, List.getElem?_cons_zero, List.getElem?_cons_succ] at hc0 hc5
  have hneed : secsN pend ≤ 40000 := by
    have := sumS_le pend fs
    unfold secsN; omega
  have HS := Lib.hid hS
  have HR1 := Lib.hid hr1
  have HR2 := Lib.hid hr2
  have HR3 := Lib.hid hr3
  have Hbx := Lib.hid hbx
  clear hS hr1 hr2 hr3 hbx fs fgs hc
  have hcm : bCommit ⟨r, g, f, p, G.map (·.2), pend⟩ = if (r : Int) - usedN (G.map (·.2)) < secsN pend then (((0 : Int), (19 : Int)), (⟨r, g, f, p, G.map (·.2), pend⟩ : Bk)) else ((((f + (G.map (·.2)).length : Nat) : Int), (0 : Int)), (⟨r, g + 1, f, p, G.map (·.2) ++ [pend], []⟩ : Bk)) := rfl
  rw [List.length_map] at hcm
  generalize hus : usedN (G.map (·.2)) = us at *
  have Hcm := Lib.hid hcm
  clear hcm hus
  go_enter Try.func23, Try.ntmps23
  go_wp2_with fail
  refine wp_region_keep (by kernel_rfl) (by kernel_rfl) ?_
  repeat (first
    | go_big_quiet_skip
    | (go_big_quiet_want; go_big_quiet_op; first | go_big_quiet_on | go_big_quiet_call (first
      | (go_at_call 48; exact HSec.out _)
      | (go_at_call 49; exact HUse.out _))))
  refine wpQuiet_nil ?_
  rintro w1 ⟨⟨_, hk1⟩, rfl⟩
  have hb1 := hk1.heap Hbx.out (by simp)
  have Hb1 := Lib.hid hb1
  have Hk1 := Lib.hid hk1
  have hlt1 := lt_of_heap hb1
  clear hc0 hc5 HSec HUse hk1
  by_cases hno : (r : Int) - us < secsN pend
  · have hst : bCommit ⟨r, g, f, p, G.map (·.2), pend⟩ = ((0, 19), ⟨r, g, f, p, G.map (·.2), pend⟩) := by rw [Hcm.out, if_pos hno]
    have Hst := Lib.hid hst
    clear hst
    go_wp2_with fail
    go_ret2
    rw [Hst.out]
    exact ⟨rfl, ToB.of_keep (bh_stab _ _) HBH.out Hk1.out⟩
  · have hle : (secsN pend : Int) ≤ (r : Int) - us := by omega
    have hst : bCommit ⟨r, g, f, p, G.map (·.2), pend⟩ = ((((f + G.length : Nat) : Int), (0 : Int)), (⟨r, g + 1, f, p, G.map (·.2) ++ [pend], []⟩ : Bk)) := by rw [Hcm.out, if_neg hno]
    have Hst := Lib.hid hst
    clear hst hno
    have hcb := cell_of hb1
    have hfb := frozen_of hb1
    simp only [bcells] at hcb
    go_wp2_with fail
    have x4 := hcb 4
    have x5 := hcb 5
    simp only [List.getElem?_toArray, List.getElem?_cons_zero, List.getElem?_cons_succ] at x4 x5
    obtain ⟨i0, hi, hz0, hz1, hz2⟩ := info_parts infoSS
    have Hi := Lib.hid (And.intro hi (And.intro hz0 (And.intro hz1 hz2)))
    clear hi hz0 hz1 hz2 hcb hfb hb1
    have HSk : Hid (∀ W, Keep [] w1 W → (W.cell? ⟨bk, 4, none⟩ = some (.slice go G.length gc) ∧ W.cell? ⟨bk, 5, none⟩ = some (.slice po pend.length pc))) := fun W hk => by
      have := hk.heap Hb1.out (by simp)
      exact ⟨by rw [cell_of this]; rfl, by rw [cell_of this]; rfl⟩
    refine wp_region_heldT (S := fun W => W.cell? ⟨bk, 4, none⟩ = some (.slice go G.length gc) ∧ W.cell? ⟨bk, 5, none⟩ = some (.slice po pend.length pc)) 13 (by kernel_rfl) (by kernel_rfl) (fun _ _ d _ _ h => by cases d <;> exact h) ?_
    have hS0 : w1.drew.cell? ⟨bk, 4, none⟩ = some (.slice go G.length gc) ∧ w1.drew.cell? ⟨bk, 5, none⟩ = some (.slice po pend.length pc) := ⟨x4, x5⟩
    refine' heldT_val (v := _) 0 (by rfl) (by decide) (by kernel_rfl) (by kernel_rfl) (by rfl) hS0 (fun w hw => ?hrun0) (fun K hK => ?hnext0)
    case hrun0 => (obtain ⟨s5, s6⟩ := hw; go_simp; try rfl)
    rotate_left 0
    go_simp
    refine hK _ ?_
    clear hK K
    refine' heldT_val (v := _) 2 (by rfl) (by decide) (by kernel_rfl) (by kernel_rfl) (by rfl) hS0 (fun w hw => ?hrun2) (fun K hK => ?hnext2)
    case hrun2 => (obtain ⟨s5, s6⟩ := hw; go_simp; try rfl)
    rotate_left 0
    go_simp
    refine hK _ ?_
    clear hK K
    refine' heldT_val (v := _) 3 (by rfl) (by decide) (by kernel_rfl) (by kernel_rfl) (by rfl) hS0 (fun w hw => ?hrun3) (fun K hK => ?hnext3)
    case hrun3 => (obtain ⟨s5, s6⟩ := hw; go_simp; try rfl)
    rotate_left 0
    go_simp
    refine hK _ ?_
    clear hK K
    refine' heldT_val (v := _) 4 (by rfl) (by decide) (by kernel_rfl) (by kernel_rfl) (by rfl) hS0 (fun w hw => ?hrun4) (fun K hK => ?hnext4)
    case hrun4 => (obtain ⟨s5, s6⟩ := hw; go_simp; try rfl)
    rotate_left 0
    go_simp
    refine hK _ ?_
    clear hK K
    refine' heldT_val (v := _) 5 (by rfl) (by decide) (by kernel_rfl) (by kernel_rfl) (by rfl) hS0 (fun w hw => ?hrun5) (fun K hK => ?hnext5)
    case hrun5 => (obtain ⟨s5, s6⟩ := hw; go_simp; try rfl)
    rotate_left 0
    go_simp
    refine hK _ ?_
    clear hK K
    refine' heldT_val (v := _) 7 (by rfl) (by decide) (by kernel_rfl) (by kernel_rfl) (by rfl) hS0 (fun w hw => ?hrun7) (fun K hK => ?hnext7)
    case hrun7 => (obtain ⟨s5, s6⟩ := hw; go_simp; try rfl)
    rotate_left 0
    go_simp
    refine hK _ ?_
    clear hK K
    refine' heldT_val (v := _) 8 (by rfl) (by decide) (by kernel_rfl) (by kernel_rfl) (by rfl) hS0 (fun w hw => ?hrun8) (fun K hK => ?hnext8)
    case hrun8 => (obtain ⟨s5, s6⟩ := hw; go_simp; try rfl)
    rotate_left 0
    go_simp
    refine hK _ ?_
    clear hK K
    refine' heldT_val (v := _) 9 (by rfl) (by decide) (by kernel_rfl) (by kernel_rfl) (by rfl) hS0 (fun w hw => ?hrun9) (fun K hK => ?hnext9)
    case hrun9 => (obtain ⟨s5, s6⟩ := hw; go_simp; try rfl)
    rotate_left 0
    go_simp
    refine hK _ ?_
    clear hK K
    refine' heldT_val (v := _) 10 (by rfl) (by decide) (by kernel_rfl) (by kernel_rfl) (by rfl) hS0 (fun w hw => ?hrun10) (fun K hK => ?hnext10)
    case hrun10 => (obtain ⟨s5, s6⟩ := hw; go_simp; try rfl)
    rotate_left 0
    go_simp
    refine hK _ ?_
    clear hK K
    have hkd : Keep [] w1 w1.drew := Keep.drew _ _
    have HV1 : Hid (∀ u ∈ G.map (·.1), u.oneCell' = true) := vals_one fun x hx => by
      obtain ⟨ao, c, e⟩ := (HR2.out x hx).form
      exact ⟨_, _, _, e⟩
    have hsd : w1.drew.heap.size = w1.heap.size := rfl
    refine heldT_two 1 11 (by kernel_rfl) (by decide) (by decide) (by rfl) (by rfl) (by rfl) (by rfl) (fun K hK => ?_) (fun K hK => ?_)
    · skip
      go_simp
      refine hK _ _ (HSk.out _ (hkd.allocPast (.cells #[] 31))) ?_
      clear hK K
      have hoA := made0 w1.drew 31 1
      have hkA := hkd.allocPast (.cells #[] 31)
      have hsA : w1.drew.heap.size < (w1.drew.alloc (.cells #[] 31)).heap.size := by simp
      change heldT _ _ _ _ _ _ _ _ _ _ (w1.drew.alloc (.cells #[] 31))
      generalize w1.drew.alloc (.cells #[] 31) = wA at *
      refine heldT_two 6 11 (by kernel_rfl) (by decide) (by decide) (by rfl) (by rfl) (by rfl) (by rfl) (fun K hK => ?_) (fun K hK => ?_)
      · skip
        refine wp_append_row wA _ _ 41 (by rfl) w1.heap.size 31 i0 _ 24 Try.underlying41 Hi.out.1 Hi.out.2.1 Hi.out.2.2.1 Hi.out.2.2.2 rfl _ 0 [] (by rfl) (hoA) _ (G.map (·.1)) (by rfl) (HR1.out.keep0 (Hk1.out.trans0 hkA)) HV1.out (by rw [List.length_map]; unfold maxLen; omega) (by rw [List.length_map]; omega) hkA.size ?_
        intro va wa hoa hga
        rw [List.nil_append, Nat.zero_add, List.length_map] at hoa
        obtain ⟨vo, vc, rfl⟩ := own_form (ownsRow_base0 hoa)
        have hkB : Keep [] w1 wa := hkA.grownPast hga (fun k hk => (World.ownsRow.lt (hoA) k hk).1)
        refine hK _ _ (HSk.out _ hkB) ?_
        clear hK K
        refine heldT_one 11 (by kernel_rfl) (by decide) (by rfl) (by rfl) (fun K hK => ?_)
        go_simp
        refine hK _ _ (HSk.out _ (hkB.allocPast (.cells #[.slice po pend.length pc] 31))) ?_
        clear hK K
        have hcC := one_news wa (.slice po pend.length pc) 31
        have hkC := hkB.allocPast (.cells #[.slice po pend.length pc] 31)
        have hsC : wa.heap.size < (wa.alloc (.cells #[.slice po pend.length pc] 31)).heap.size := by simp
        change heldT _ _ _ _ _ _ _ _ _ _ (wa.alloc (.cells #[.slice po pend.length pc] 31))
        refine heldT_one 12 (by kernel_rfl) (by decide) (by rfl) (by rfl) (fun K hK => ?_)
        refine wp_append_own _ _ _ 41 (by rfl) w1.heap.size 31 i0 _ 1 24 Try.underlying41 Hi.out.1 Hi.out.2.1 Hi.out.2.2.1 Hi.out.2.2.2 rfl (by decide) _ _ _ (by rfl) (hoa.alloc (.cells #[.slice po pend.length pc] 31)) _ 1 1 [.slice po pend.length pc] (by rfl) rfl (hcC) slice_one (by unfold maxLen; omega) (by omega) hkC.size ?_
        intro vb wb hob hgb _
        obtain ⟨uo, uc, rfl⟩ := own_form (ownsRow_base0 hob)
        have hkb : Keep [] w1 wb := hkC.grownPast hgb (fun k hk => (World.ownsRow.lt (hoa.alloc (.cells #[.slice po pend.length pc] 31)) k hk).1)
        refine hK _ _ (HSk.out _ hkb) ?_
        clear hK K
        refine ⟨by kernel_rfl, ?_⟩
        have hbb := hkb.heap Hb1.out (by simp)
        have hc9 := cell_of hbb
        have hf9 := frozen_of hbb
        simp only [bcells] at hc9
        rw [show (G.map (·.1)) ++ [Value.slice po pend.length pc] = (G ++ [((.slice po pend.length pc : Value), pend)]).map (·.1) by simp] at hob
        have Hob := Lib.hid hob
        have Hkb := Lib.hid hkb
        have Hbb := Lib.hid hbb
        clear hob hgb hkb hbb
        have hS0 := trivial
        simp only [List.drop_succ_cons, List.drop_zero]
        go_wp2_with fail
        go_big_quiet (fail)
        go_wp2_with fail
        have hval : ((f : Int) + ((G.length : Int) + 1) - 1) = ((f + G.length : Nat) : Int) := by omega
        have hval2 : ((g : Int) + 1) = ((g + 1 : Nat) : Int) := by omega
        rw [hval, hval2]
        go_ret2
        rw [Hst.out]
        refine ⟨rfl, (HS.out.put (Hk1.out.trans0 Hkb.out) (r' := r) (g' := g + 1) (f' := f) (p' := p) (G' := G ++ [(.slice po pend.length pc, pend)]) (l' := []) (gv' := .slice uo (G.length + 1) uc) (pv' := .slice none 0 0) ⟨⟨RowR.of_own (ownsRow_base0 Hob.out), CapR.of_own Hob.out⟩, fun x hx => ?_, .inl ⟨rfl, rfl⟩, rfl⟩ (fun x hx => ?_) (((Keep.setCell [bk] _ _ _ _ (by simp)).trans (Keep.setCell [bk] _ _ _ _ (by simp)) (fun x hx => .inl hx)).trans (Keep.setCell [bk] _ _ _ _ (by simp)) (fun x hx => .inl hx) |>.trans (Keep.drewN [] _ _) (by simp)) ?_).imp fun w F h => ⟨_, _, _, by simp, h⟩⟩
        · rcases List.mem_append.1 hx with h | h
          · exact (HR2.out x h).keep0 (Hk1.out.trans0 Hkb.out)
          · simp at h; subst h; exact HR3.out.keep0 (Hk1.out.trans0 Hkb.out)
        · simp only [List.flatMap_append, List.flatMap_cons, List.flatMap_nil, List.append_nil, rowF] at hx
          rcases List.mem_append.1 hx with h | h
          · right
            have := row_ge Hob.out x h
            have := Hk1.out.size
            omega
          · left
            simp only [List.mem_append] at h ⊢
            rcases h with h | h
            · exact .inr (.inl h)
            · exact .inr (.inr h)
        · have h4 := set_same Hbb.out 4 (Value.slice uo (G.length + 1) uc)
          have h5 := set_same h4 5 (Value.slice none 0 0)
          exact set_same h5 1 (Value.int .i64 ((g + 1 : Nat) : Int))
      · skip
        go_simp
        refine hK _ _ (HSk.out _ (hkA.allocPast (.cells #[.slice po pend.length pc] 31))) ?_
        clear hK K
        have hcC := one_news wA (.slice po pend.length pc) 31
        have hkC := hkA.allocPast (.cells #[.slice po pend.length pc] 31)
        have hsC : wA.heap.size < (wA.alloc (.cells #[.slice po pend.length pc] 31)).heap.size := by simp
        change heldT _ _ _ _ _ _ _ _ _ _ (wA.alloc (.cells #[.slice po pend.length pc] 31))
        have hoC := hoA.alloc (.cells #[.slice po pend.length pc] 31)
        generalize wA.alloc (.cells #[.slice po pend.length pc] 31) = wC at *
        refine heldT_one 6 (by kernel_rfl) (by decide) (by rfl) (by rfl) (fun K hK => ?_)
        refine wp_append_row wC _ _ 41 (by rfl) w1.heap.size 31 i0 _ 24 Try.underlying41 Hi.out.1 Hi.out.2.1 Hi.out.2.2.1 Hi.out.2.2.2 rfl _ 0 [] (by rfl) (hoC) _ (G.map (·.1)) (by rfl) (HR1.out.keep0 (Hk1.out.trans0 hkC)) HV1.out (by rw [List.length_map]; unfold maxLen; omega) (by rw [List.length_map]; omega) hkC.size ?_
        intro va wa hoa hga
        rw [List.nil_append, Nat.zero_add, List.length_map] at hoa
        obtain ⟨vo, vc, rfl⟩ := own_form (ownsRow_base0 hoa)
        have hkD : Keep [] w1 wa := hkC.grownPast hga (fun k hk => (World.ownsRow.lt (hoC) k hk).1)
        have hcD : ∀ (j : Nat) (u : Value), [Value.slice po pend.length pc][j]? = some u → wa.cell? ((⟨wA.heap.size, 0, none⟩ : Addr).add j) = some u := fun j u hj => by
          have := hcC j u hj
          rw [Addr.add_lit] at this ⊢
          exact World.grownBy.cell hga this (by simp [Value.ownBlock]; omega)
        refine hK _ _ (HSk.out _ hkD) ?_
        clear hK K
        refine heldT_one 12 (by kernel_rfl) (by decide) (by rfl) (by rfl) (fun K hK => ?_)
        refine wp_append_own wa _ _ 41 (by rfl) w1.heap.size 31 i0 _ 1 24 Try.underlying41 Hi.out.1 Hi.out.2.1 Hi.out.2.2.1 Hi.out.2.2.2 rfl (by decide) _ _ _ (by rfl) (hoa) _ 1 1 [.slice po pend.length pc] (by rfl) rfl (hcD) slice_one (by unfold maxLen; omega) (by omega) hkD.size ?_
        intro vb wb hob hgb _
        obtain ⟨uo, uc, rfl⟩ := own_form (ownsRow_base0 hob)
        have hkb : Keep [] w1 wb := hkD.grownPast hgb (fun k hk => (World.ownsRow.lt (hoa) k hk).1)
        refine hK _ _ (HSk.out _ hkb) ?_
        clear hK K
        refine ⟨by kernel_rfl, ?_⟩
        have hbb := hkb.heap Hb1.out (by simp)
        have hc9 := cell_of hbb
        have hf9 := frozen_of hbb
        simp only [bcells] at hc9
        rw [show (G.map (·.1)) ++ [Value.slice po pend.length pc] = (G ++ [((.slice po pend.length pc : Value), pend)]).map (·.1) by simp] at hob
        have Hob := Lib.hid hob
        have Hkb := Lib.hid hkb
        have Hbb := Lib.hid hbb
        clear hob hgb hkb hbb
        have hS0 := trivial
        simp only [List.drop_succ_cons, List.drop_zero]
        go_wp2_with fail
        go_big_quiet (fail)
        go_wp2_with fail
        have hval : ((f : Int) + ((G.length : Int) + 1) - 1) = ((f + G.length : Nat) : Int) := by omega
        have hval2 : ((g : Int) + 1) = ((g + 1 : Nat) : Int) := by omega
        rw [hval, hval2]
        go_ret2
        rw [Hst.out]
        refine ⟨rfl, (HS.out.put (Hk1.out.trans0 Hkb.out) (r' := r) (g' := g + 1) (f' := f) (p' := p) (G' := G ++ [(.slice po pend.length pc, pend)]) (l' := []) (gv' := .slice uo (G.length + 1) uc) (pv' := .slice none 0 0) ⟨⟨RowR.of_own (ownsRow_base0 Hob.out), CapR.of_own Hob.out⟩, fun x hx => ?_, .inl ⟨rfl, rfl⟩, rfl⟩ (fun x hx => ?_) (((Keep.setCell [bk] _ _ _ _ (by simp)).trans (Keep.setCell [bk] _ _ _ _ (by simp)) (fun x hx => .inl hx)).trans (Keep.setCell [bk] _ _ _ _ (by simp)) (fun x hx => .inl hx) |>.trans (Keep.drewN [] _ _) (by simp)) ?_).imp fun w F h => ⟨_, _, _, by simp, h⟩⟩
        · rcases List.mem_append.1 hx with h | h
          · exact (HR2.out x h).keep0 (Hk1.out.trans0 Hkb.out)
          · simp at h; subst h; exact HR3.out.keep0 (Hk1.out.trans0 Hkb.out)
        · simp only [List.flatMap_append, List.flatMap_cons, List.flatMap_nil, List.append_nil, rowF] at hx
          rcases List.mem_append.1 hx with h | h
          · right
            have := row_ge Hob.out x h
            have := Hk1.out.size
            omega
          · left
            simp only [List.mem_append] at h ⊢
            rcases h with h | h
            · exact .inr (.inl h)
            · exact .inr (.inr h)
        · have h4 := set_same Hbb.out 4 (Value.slice uo (G.length + 1) uc)
          have h5 := set_same h4 5 (Value.slice none 0 0)
          exact set_same h5 1 (Value.int .i64 ((g + 1 : Nat) : Int))
    · skip
      go_simp
      refine hK _ _ (HSk.out _ (hkd.allocPast (.cells #[.slice po pend.length pc] 31))) ?_
      clear hK K
      have hcC := one_news w1.drew (.slice po pend.length pc) 31
      have hkC := hkd.allocPast (.cells #[.slice po pend.length pc] 31)
      have hsC : w1.drew.heap.size < (w1.drew.alloc (.cells #[.slice po pend.length pc] 31)).heap.size := by simp
      change heldT _ _ _ _ _ _ _ _ _ _ (w1.drew.alloc (.cells #[.slice po pend.length pc] 31))
      generalize w1.drew.alloc (.cells #[.slice po pend.length pc] 31) = wC at *
      refine heldT_one 1 (by kernel_rfl) (by decide) (by rfl) (by rfl) (fun K hK => ?_)
      have hcA : ∀ (j : Nat) (u : Value), [Value.slice po pend.length pc][j]? = some u → (wC.alloc (.cells #[] 31)).cell? ((⟨w1.drew.heap.size, 0, none⟩ : Addr).add j) = some u := fun j u hj => by
        have := hcC j u hj
        rw [Addr.add_lit] at this ⊢
        exact (World.cell?_of_block ((Keep.alloc [] wC _).block _ hsC (by simp))).trans this
      go_simp
      refine hK _ _ (HSk.out _ (hkC.allocPast (.cells #[] 31))) ?_
      clear hK K
      have hoA := made0 wC 31 1
      have hkA := hkC.allocPast (.cells #[] 31)
      have hsA : wC.heap.size < (wC.alloc (.cells #[] 31)).heap.size := by simp
      change heldT _ _ _ _ _ _ _ _ _ _ (wC.alloc (.cells #[] 31))
      generalize wC.alloc (.cells #[] 31) = wA at *
      have hoE := Joins.ownsRow_le hoA hkC.size
      refine heldT_one 6 (by kernel_rfl) (by decide) (by rfl) (by rfl) (fun K hK => ?_)
      refine wp_append_row wA _ _ 41 (by rfl) w1.heap.size 31 i0 _ 24 Try.underlying41 Hi.out.1 Hi.out.2.1 Hi.out.2.2.1 Hi.out.2.2.2 rfl _ 0 [] (by rfl) (hoE) _ (G.map (·.1)) (by rfl) (HR1.out.keep0 (Hk1.out.trans0 hkA)) HV1.out (by rw [List.length_map]; unfold maxLen; omega) (by rw [List.length_map]; omega) hkA.size ?_
      intro va wa hoa hga
      rw [List.nil_append, Nat.zero_add, List.length_map] at hoa
      obtain ⟨vo, vc, rfl⟩ := own_form (ownsRow_base0 hoa)
      have hkD : Keep [] w1 wa := hkA.grownPast hga (fun k hk => (World.ownsRow.lt (hoE) k hk).1)
      have hcD : ∀ (j : Nat) (u : Value), [Value.slice po pend.length pc][j]? = some u → wa.cell? ((⟨w1.drew.heap.size, 0, none⟩ : Addr).add j) = some u := fun j u hj => by
        have := hcA j u hj
        rw [Addr.add_lit] at this ⊢
        exact World.grownBy.cell hga this (by simp only [Value.ownBlock]; intro e; injection e with e; have e : w1.drew.heap.size = wC.heap.size := e; omega)
      refine hK _ _ (HSk.out _ hkD) ?_
      clear hK K
      refine heldT_one 12 (by kernel_rfl) (by decide) (by rfl) (by rfl) (fun K hK => ?_)
      refine wp_append_own wa _ _ 41 (by rfl) w1.heap.size 31 i0 _ 1 24 Try.underlying41 Hi.out.1 Hi.out.2.1 Hi.out.2.2.1 Hi.out.2.2.2 rfl (by decide) _ _ _ (by rfl) (hoa) _ 1 1 [.slice po pend.length pc] (by rfl) rfl (hcD) slice_one (by unfold maxLen; omega) (by omega) hkD.size ?_
      intro vb wb hob hgb _
      obtain ⟨uo, uc, rfl⟩ := own_form (ownsRow_base0 hob)
      have hkb : Keep [] w1 wb := hkD.grownPast hgb (fun k hk => (World.ownsRow.lt (hoa) k hk).1)
      refine hK _ _ (HSk.out _ hkb) ?_
      clear hK K
      refine ⟨by kernel_rfl, ?_⟩
      have hbb := hkb.heap Hb1.out (by simp)
      have hc9 := cell_of hbb
      have hf9 := frozen_of hbb
      simp only [bcells] at hc9
      rw [show (G.map (·.1)) ++ [Value.slice po pend.length pc] = (G ++ [((.slice po pend.length pc : Value), pend)]).map (·.1) by simp] at hob
      have Hob := Lib.hid hob
      have Hkb := Lib.hid hkb
      have Hbb := Lib.hid hbb
      clear hob hgb hkb hbb
      have hS0 := trivial
      simp only [List.drop_succ_cons, List.drop_zero]
      go_wp2_with fail
      go_big_quiet (fail)
      go_wp2_with fail
      have hval : ((f : Int) + ((G.length : Int) + 1) - 1) = ((f + G.length : Nat) : Int) := by omega
      have hval2 : ((g : Int) + 1) = ((g + 1 : Nat) : Int) := by omega
      rw [hval, hval2]
      go_ret2
      rw [Hst.out]
      refine ⟨rfl, (HS.out.put (Hk1.out.trans0 Hkb.out) (r' := r) (g' := g + 1) (f' := f) (p' := p) (G' := G ++ [(.slice po pend.length pc, pend)]) (l' := []) (gv' := .slice uo (G.length + 1) uc) (pv' := .slice none 0 0) ⟨⟨RowR.of_own (ownsRow_base0 Hob.out), CapR.of_own Hob.out⟩, fun x hx => ?_, .inl ⟨rfl, rfl⟩, rfl⟩ (fun x hx => ?_) (((Keep.setCell [bk] _ _ _ _ (by simp)).trans (Keep.setCell [bk] _ _ _ _ (by simp)) (fun x hx => .inl hx)).trans (Keep.setCell [bk] _ _ _ _ (by simp)) (fun x hx => .inl hx) |>.trans (Keep.drewN [] _ _) (by simp)) ?_).imp fun w F h => ⟨_, _, _, by simp, h⟩⟩
      · rcases List.mem_append.1 hx with h | h
        · exact (HR2.out x h).keep0 (Hk1.out.trans0 Hkb.out)
        · simp at h; subst h; exact HR3.out.keep0 (Hk1.out.trans0 Hkb.out)
      · simp only [List.flatMap_append, List.flatMap_cons, List.flatMap_nil, List.append_nil, rowF] at hx
        rcases List.mem_append.1 hx with h | h
        · right
          have := row_ge Hob.out x h
          have := Hk1.out.size
          omega
        · left
          simp only [List.mem_append] at h ⊢
          rcases h with h | h
          · exact .inr (.inl h)
          · exact .inr (.inr h)
      · have h4 := set_same Hbb.out 4 (Value.slice uo (G.length + 1) uc)
        have h5 := set_same h4 5 (Value.slice none 0 0)
        exact set_same h5 1 (Value.int .i64 ((g + 1 : Nat) : Int))
theorem bcommit_m (bk : Nat) (B : Bk) (hB : BFit B) :
    Met Try.prog 23 #[.pointer (some ⟨bk, 0, none⟩)] (.tuple #[.int .i64 (bCommit B).1.1, .int .i64 (bCommit B).1.2]) (BH bk B) (BH bk (bCommit B).2) :=
  (bcommit_b bk B hB).met bh_mem
end Go.Proofs.Ytgmggmpkbfljfaa
