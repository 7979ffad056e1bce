import Derived.Test.YtgmggmpkbfljfaaPla
import Derived.Test.YtgmggmpkbfljfaaLa
/- copied: a book's copy. -/
set_option linter.unusedVariables false
set_option linter.unusedSimpArgs false
set_option maxRecDepth 100000
namespace Go.Proofs.Ytgmggmpkbfljfaa
open Go.RowKit
theorem alloc_size9 (w : World) (o : Obj) : (w.alloc o).heap.size = w.heap.size + 1 := by simp
set_option maxHeartbeats 4000000 in
theorem copied_c (w : World) (F : List Nat) (bk : Nat) (B : Bk) (h : BH bk B w F) (hn : B.groups.length ≤ 1000000) :
    Calls Try.prog 36 #[.pointer (some ⟨bk, 0, none⟩)] w fun e w' => ∃ ck P, e = .returned (.pointer (some ⟨ck, 0, none⟩)) ∧ Keep [] w w' ∧ BH ck { B with pend := [] } w' P ∧ w.heap.size ≤ ck ∧ bk ∉ P ∧ ∀ x ∈ P, x ∈ F ∨ w.heap.size ≤ x := by
  obtain ⟨gv, pv, G, hG, hB⟩ := h
  obtain ⟨i0, hi, hz0, hz1, hz2⟩ := info_parts infoSS
  have Hi := Lib.hid (And.intro hi (And.intro hz0 (And.intro hz1 hz2)))
  clear hi hz0 hz1 hz2
  obtain ⟨r, g, f, p, groups, pend⟩ := B
  dsimp only at hn hG hB ⊢
  subst hG
  obtain ⟨hr1, hr2, hr3⟩ := hB.rows
  obtain ⟨go, gc, rfl⟩ := hr1.form
  obtain ⟨po, pc, rfl⟩ := hr3.form
  rw [scells_length] at hB hr3
  rw [List.length_map] at hB hr1 hn
  have hbx := hB.box
  have hlt := lt_of_heap hbx
  have hcb := cell_of hbx
  have hfb := frozen_of hbx
  simp only [bcells] at hcb
  have HB := Lib.hid hB
  have HR1 := Lib.hid hr1
  have HR2 := Lib.hid hr2
  have HV1 : Hid (∀ u ∈ G.map (·.1), u.oneCell' = true) := vals_one fun x hx => by
    obtain ⟨ao, c, e⟩ := (HR2.out x hx).form
    exact ⟨_, _, _, e⟩
  have ho := made0 (w.alloc (.cells #[.int .i64 r, .int .i64 g, .int .i64 f, .int .i64 p, .slice go G.length gc, .slice po pend.length pc] 43)) 31 1
  rw [alloc_size9] at ho
  have Ho := Lib.hid ho
  have hka : Keep [] w (w.alloc (.cells #[.int .i64 r, .int .i64 g, .int .i64 f, .int .i64 p, .slice go G.length gc, .slice po pend.length pc] 43)) := Keep.alloc _ _ _
  have hka2 : Keep [] w ((w.alloc (.cells #[.int .i64 r, .int .i64 g, .int .i64 f, .int .i64 p, .slice go G.length gc, .slice po pend.length pc] 43)).alloc (.cells #[] 31)) := hka.allocPast _
  have hnb := (Keep.alloc [] (w.alloc (.cells #[.int .i64 r, .int .i64 g, .int .i64 f, .int .i64 p, .slice go G.length gc, .slice po pend.length pc] 43)) (.cells #[] 31)).heap (World.alloc_heap_new w _) (by simp)
  have Ha2 := Lib.hid hka2
  have Hnb := Lib.hid hnb
  have Hsz : Hid ((((w.alloc (.cells #[.int .i64 r, .int .i64 g, .int .i64 f, .int .i64 p, .slice go G.length gc, .slice po pend.length pc] 43)).alloc (.cells #[] 31))).heap.size = w.heap.size + 2) := by show _ = _; rw [alloc_size9, alloc_size9]
  clear hB hr1 hr2 hr3 hbx ho hka hka2 hnb
  go_enter Try.func36, Try.ntmps36
  go_wp2_with (at_builtin; refine wpList_append_row _ rfl _ _ 41 rfl (w.heap.size + 1) 31 i0 _ 24 Try.underlying41 Hi.out.1 Hi.out.2.1 Hi.out.2.2.1 Hi.out.2.2.2 rfl _ 0 [] rfl Ho.out (.slice go G.length gc) (G.map (·.1)) rfl (HR1.out.keep0 Ha2.out) HV1.out ?c1 ?c2 ?c3 ?_)
  case c1 => rw [List.length_map]; unfold maxLen; omega
  case c2 => rw [List.length_map]; omega
  case c3 => rw [Hsz.out]; omega
  intro v2 w2 ho2 hg2
  have hkA := (Keep.alloc [] (w.alloc (.cells #[.int .i64 r, .int .i64 g, .int .i64 f, .int .i64 p, .slice go G.length gc, .slice po pend.length pc] 43)) (.cells #[] 31)).grownPast hg2 (by intro k hk; simp [Value.ownBlock] at hk; rw [alloc_size9]; omega)
  have hb2 := hkA.heap (World.alloc_heap_new w _) (by simp)
  have hk2 : Keep [] w w2 := (Keep.alloc [] w _).trans0 hkA
  have hcb2 := cell_of hb2
  have hfb2 := frozen_of hb2
  have hlt2 := lt_of_heap hb2
  obtain ⟨uo, uc, rfl⟩ := own_form (ownsRow_base0 ho2)
  have Ho2 := Lib.hid ho2
  have Hk2 := Lib.hid hk2
  have Hb2 := Lib.hid hb2
  clear ho2 hg2 hkA hk2 hb2 hcb hfb Ho Ha2 Hnb Hsz
  go_wp2_with fail
  go_ret
  have hrow : RowR w2 (.slice uo G.length uc) (G.map (·.1)) := RowR.of_own (ownsRow_base0 Ho2.out)
  have hge : ∀ x ∈ rowF (.slice uo G.length uc), w.heap.size + 1 ≤ x := row_ge Ho2.out
  have hkk : Keep [w.heap.size] w2 ((w2.setCell ⟨w.heap.size, 4, none⟩ (.slice uo G.length uc)).setCell ⟨w.heap.size, 5, none⟩ (.slice none 0 0)) := (Keep.setCell _ _ _ _ _ (by simp)).trans (Keep.setCell _ _ _ _ _ (by simp)) (fun x hx => .inl hx)
  have hR : BkR (.slice uo G.length uc) (.slice none 0 0) G [] w2 _ := ⟨⟨hrow, CapR.of_own Ho2.out⟩, fun x hx => (HR2.out x hx).keep0 Hk2.out, .inl ⟨rfl, rfl⟩, rfl⟩
  obtain ⟨F1, F2, ⟨rfl, _⟩, hBk, hd, rfl⟩ := HB.out
  have hFk : ∀ x ∈ G.flatMap (fun x => rowF x.1), x ∈ F2 := fun x hx => by rw [hBk.2.2.2]; exact List.mem_append_right _ (List.mem_append_left _ hx)
  have hF2 := (bkR_stab _ _ _ _).lt hBk
  have hP : ∀ x ∈ rowF (.slice uo G.length uc) ++ (G.flatMap (fun x => rowF x.1) ++ rowF (.slice none 0 0)), w.heap.size + 1 ≤ x ∨ x ∈ F2 := fun x hx => by
    rcases List.mem_append.1 hx with h | h
    · exact .inl (hge x h)
    · rcases List.mem_append.1 h with h | h
      · exact .inr (hFk x h)
      · exact absurd h (by simp [rowF])
  refine ⟨w.heap.size, _, rfl, Hk2.out.trans hkk (fun x hx => .inr (by simp at hx; omega)), ⟨_, _, G, rfl, [w.heap.size], _, ⟨rfl, ?_⟩, (bkR_stab _ _ _ _).keep hR hkk ?_, ?_, rfl⟩, Nat.le_refl _, ?_, ?_⟩
  · exact set_same (set_same Hb2.out 4 _) 5 _
  · intro x hx hm
    rw [List.mem_singleton] at hm
    rcases hP x hx with h | h
    · omega
    · have := hF2 x h; omega
  · intro x hx hm
    rw [List.mem_singleton] at hx
    rcases hP x hm with h | h
    · omega
    · have := hF2 x h; omega
  · intro hm
    rcases List.mem_append.1 hm with h | h
    · rw [List.mem_singleton] at h; omega
    · rcases hP _ h with h | h
      · omega
      · exact hd bk (by simp) h
  · intro x hx
    rcases List.mem_append.1 hx with h | h
    · rw [List.mem_singleton] at h; exact .inr (by omega)
    · rcases hP x h with h | h
      · exact .inr (by omega)
      · exact .inl (List.mem_append_right _ h)
end Go.Proofs.Ytgmggmpkbfljfaa

/- agrees, where the two differ: false. -/
set_option linter.unusedVariables false
set_option linter.unusedSimpArgs false
set_option maxRecDepth 100000
namespace Go.Proofs.Ytgmggmpkbfljfaa
open Go.RowKit
set_option maxHeartbeats 8000000 in
theorem agrees_n1 (w : World) (vb jb bk : Nat) (J : Jn) (B : Bk) (Fj Fb : List Nat) (hJ : JH jb vb J w Fj) (hBH : BH bk B w Fb) (hj1 : J.pg.f ≤ 1000000) (hj2 : J.groups.length ≤ 1000000) (hb1 : B.first ≤ 1000000) (hb2 : B.groups.length ≤ 1000000) (hne : J.pg.f ≠ B.first) : Calls Try.prog 24 #[.pointer (some ⟨bk, 0, none⟩), .pointer (some ⟨jb, 0, none⟩)] w fun e w' => e = .returned (.bool false) ∧ Keep [] w w' := by
  have HJ0 := Lib.hid hJ
  obtain ⟨gv, pv, G, hG, hS⟩ := hJ
  obtain ⟨bgv, bpv, BG, hBG, hBS⟩ := hBH
  obtain ⟨⟨pg, pf, pp, pk⟩, groups, pend, broken⟩ := J
  obtain ⟨r, g, f, p, bgroups, bpend⟩ := B
  dsimp only at *
  subst hG
  have hgn : BG.length = bgroups.length := by have := congrArg List.length hBG; simpa using this
  rw [← hgn] at hb2
  rw [List.length_map] at hj2
  obtain ⟨hr1, hr2, hr3⟩ := hBS.rows
  obtain ⟨bgo, bgc, hbg⟩ := hr1.form
  rw [List.length_map] at hbg
  subst hbg
  obtain ⟨go, gc, rfl⟩ := own_form hS.grp
  have HFi : Hid (∀ n : KW w, Calls Try.prog 32 #[.pointer (some ⟨jb, 0, none⟩)] (Wk w n) fun e w' => e = .returned (.int .i64 pf) ∧ ∃ m, w' = Wk w m) := fun n =>
    (first_c (Wk w n) jb vb _ _ pv _ (n.k.heap hS.box (by simp))).mono fun e w' h => ⟨h.1, n, h.2⟩
  have HLa : Hid (∀ n : KW w, Calls Try.prog 34 #[.pointer (some ⟨jb, 0, none⟩)] (Wk w n) fun e w' => e = .returned (.int .i64 ((pf : Int) + (G.length : Int) - 1)) ∧ ∃ m, w' = Wk w m) := fun n =>
    (last_c (Wk w n) jb vb _ _ G.length gc pv _ (n.k.heap hS.box (by simp)) (by dsimp only; omega) (by omega)).mono fun e w' h => ⟨h.1, ⟨w', n.k.trans0 h.2⟩, rfl⟩
  have HBx : Hid (∀ w', Keep [] w w' → ∀ i, w'.cell? ⟨bk, i, none⟩ = (bcells r g f p (.slice bgo BG.length bgc) bpv)[i]?) := fun w' hk => cell_of (hk.heap hBS.box (by simp))
  have hc : ∀ n : KW w, ∀ i, (Wk w n).cell? ⟨bk, i, none⟩ = (bcells r g f p (.slice bgo BG.length bgc) bpv)[i]? := fun n => HBx.out _ n.k
  have hx0 := fun n => hc n 0
  have hx2 := fun n => hc n 2
  have hx4 := fun n => hc n 4
  simp only [bcells, List.getElem?_toArray, List.getElem?_cons_zero, List.getElem?_cons_succ] at hx0 hx2 hx4
  clear hr1 hr2 hr3 hBS hS hc
  generalize hgl : G.length = gl at *
  generalize hbl : BG.length = bl at *
  have hn1 : ((pf : Int) != (f : Int)) = true := by rw [bne_iff_ne]; omega
  clear hne
  go_enter Try.func24, Try.ntmps24
  go_wp2_with fail
  refine wp_region_keep (by kernel_rfl) (by kernel_rfl) ?_
  repeat (first
    | go_big_quiet_skip
    | (go_big_quiet_want; go_big_quiet_op; go_big_quiet_on))
  refine wpQuiet_nil ?_
  rintro w1 ⟨⟨_, hk1⟩, rfl⟩
  have Hk1 := Lib.hid hk1
  clear hk1 hx0 hx2 hx4
  have hx0 : ∀ n : KW w, (Wk w n).cell? ⟨bk, 0, none⟩ = some (.int .i64 r) := fun n => HBx.out _ n.k 0
  have hx2 : ∀ n : KW w, (Wk w n).cell? ⟨bk, 2, none⟩ = some (.int .i64 f) := fun n => HBx.out _ n.k 2
  have hx4 : ∀ n : KW w, (Wk w n).cell? ⟨bk, 4, none⟩ = some (.slice bgo bl bgc) := fun n => HBx.out _ n.k 4
  go_wp2_with fail
  try simp only [List.append]
  refine wp_region_quiet (C := fun w' => ∃ n : KW w, w' = Wk w n) (by kernel_rfl) (by kernel_rfl) ⟨⟨_, Hk1.out.trans0 (Keep.drew _ _)⟩, rfl⟩ ?_
  simp only []
  repeat (first
    | go_big_quiet_skip
    | (go_big_quiet_want; go_big_quiet_op; first | go_big_quiet_on | go_big_quiet_call (first
      | (go_at_call 32; exact HFi.out _)
      | (go_at_call 34; exact HLa.out _))))
  refine wpQuiet_nil ?_
  rintro w2 ⟨⟨_, hk2⟩, rfl⟩
  have Hk2 := Lib.hid hk2
  clear hk2
  go_wp2_with fail
  go_ret
  exact ⟨rfl, Hk2.out⟩
set_option maxHeartbeats 8000000 in
theorem agrees_n2 (w : World) (vb jb bk : Nat) (J : Jn) (B : Bk) (Fj Fb : List Nat) (hJ : JH jb vb J w Fj) (hBH : BH bk B w Fb) (hj1 : J.pg.f ≤ 1000000) (hj2 : J.groups.length ≤ 1000000) (hb1 : B.first ≤ 1000000) (hb2 : B.groups.length ≤ 1000000) (hf : J.pg.f = B.first) (hne : J.groups.length ≠ B.groups.length) : Calls Try.prog 24 #[.pointer (some ⟨bk, 0, none⟩), .pointer (some ⟨jb, 0, none⟩)] w fun e w' => e = .returned (.bool false) ∧ Keep [] w w' := by
  have HJ0 := Lib.hid hJ
  obtain ⟨gv, pv, G, hG, hS⟩ := hJ
  obtain ⟨bgv, bpv, BG, hBG, hBS⟩ := hBH
  obtain ⟨⟨pg, pf, pp, pk⟩, groups, pend, broken⟩ := J
  obtain ⟨r, g, f, p, bgroups, bpend⟩ := B
  dsimp only at *
  subst hG
  have hgn : BG.length = bgroups.length := by have := congrArg List.length hBG; simpa using this
  rw [← hgn] at hb2
  rw [List.length_map] at hj2
  obtain ⟨hr1, hr2, hr3⟩ := hBS.rows
  obtain ⟨bgo, bgc, hbg⟩ := hr1.form
  rw [List.length_map] at hbg
  subst hbg
  obtain ⟨go, gc, rfl⟩ := own_form hS.grp
  have HFi : Hid (∀ n : KW w, Calls Try.prog 32 #[.pointer (some ⟨jb, 0, none⟩)] (Wk w n) fun e w' => e = .returned (.int .i64 pf) ∧ ∃ m, w' = Wk w m) := fun n =>
    (first_c (Wk w n) jb vb _ _ pv _ (n.k.heap hS.box (by simp))).mono fun e w' h => ⟨h.1, n, h.2⟩
  have HLa : Hid (∀ n : KW w, Calls Try.prog 34 #[.pointer (some ⟨jb, 0, none⟩)] (Wk w n) fun e w' => e = .returned (.int .i64 ((pf : Int) + (G.length : Int) - 1)) ∧ ∃ m, w' = Wk w m) := fun n =>
    (last_c (Wk w n) jb vb _ _ G.length gc pv _ (n.k.heap hS.box (by simp)) (by dsimp only; omega) (by omega)).mono fun e w' h => ⟨h.1, ⟨w', n.k.trans0 h.2⟩, rfl⟩
  have HBx : Hid (∀ w', Keep [] w w' → ∀ i, w'.cell? ⟨bk, i, none⟩ = (bcells r g f p (.slice bgo BG.length bgc) bpv)[i]?) := fun w' hk => cell_of (hk.heap hBS.box (by simp))
  have hc : ∀ n : KW w, ∀ i, (Wk w n).cell? ⟨bk, i, none⟩ = (bcells r g f p (.slice bgo BG.length bgc) bpv)[i]? := fun n => HBx.out _ n.k
  have hx0 := fun n => hc n 0
  have hx2 := fun n => hc n 2
  have hx4 := fun n => hc n 4
  simp only [bcells, List.getElem?_toArray, List.getElem?_cons_zero, List.getElem?_cons_succ] at hx0 hx2 hx4
  clear hr1 hr2 hr3 hBS hS hc
  generalize hgl : G.length = gl at *
  generalize hbl : BG.length = bl at *
  subst hf
  rw [List.length_map, hgl] at hne
  have hn2 : (((pf : Int) + (gl : Int) - 1) != ((pf : Int) + (bgroups.length : Nat) - 1)) = true := by rw [bne_iff_ne]; omega
  clear hne
  go_enter Try.func24, Try.ntmps24
  go_wp2_with fail
  refine wp_region_keep (by kernel_rfl) (by kernel_rfl) ?_
  repeat (first
    | go_big_quiet_skip
    | (go_big_quiet_want; go_big_quiet_op; go_big_quiet_on))
  refine wpQuiet_nil ?_
  rintro w1 ⟨⟨_, hk1⟩, rfl⟩
  have Hk1 := Lib.hid hk1
  clear hk1 hx0 hx2 hx4
  have hx0 : ∀ n : KW w, (Wk w n).cell? ⟨bk, 0, none⟩ = some (.int .i64 r) := fun n => HBx.out _ n.k 0
  have hx2 : ∀ n : KW w, (Wk w n).cell? ⟨bk, 2, none⟩ = some (.int .i64 pf) := fun n => HBx.out _ n.k 2
  have hx4 : ∀ n : KW w, (Wk w n).cell? ⟨bk, 4, none⟩ = some (.slice bgo bl bgc) := fun n => HBx.out _ n.k 4
  go_wp2_with fail
  try simp only [List.append]
  refine wp_region_quiet (C := fun w' => ∃ n : KW w, w' = Wk w n) (by kernel_rfl) (by kernel_rfl) ⟨⟨_, Hk1.out.trans0 (Keep.drew _ _)⟩, rfl⟩ ?_
  simp only []
  repeat (first
    | go_big_quiet_skip
    | (go_big_quiet_want; go_big_quiet_op; first | go_big_quiet_on | go_big_quiet_call (first
      | (go_at_call 32; exact HFi.out _)
      | (go_at_call 34; exact HLa.out _))))
  refine wpQuiet_nil ?_
  rintro w2 ⟨⟨_, hk2⟩, rfl⟩
  have Hk2 := Lib.hid hk2
  clear hk2
  go_wp2_with fail
  go_ret
  exact ⟨rfl, Hk2.out⟩
theorem agrees_ln {t vb mb jb bk : Nat} {B B2 : Bk} (w : World) (F P : List Nat) (h : DvL t vb mb jb B w F) (hb : BH bk B2 w P) (h2 : BOk B2 t) (hne : B.first ≠ B2.first ∨ B.groups.length ≠ B2.groups.length) :
    Calls Try.prog 24 #[.pointer (some ⟨bk, 0, none⟩), .pointer (some ⟨jb, 0, none⟩)] w fun e w' => e = .returned (.bool false) ∧ Keep [] w w' := by
  obtain ⟨v, C, g1, g2, g3, F1, F2, k1, k2, d, rfl⟩ := h
  have a1 := g3.f
  have a2 := h2.f
  have a3 := g3.t9
  by_cases hf : B.first = B2.first
  · exact agrees_n2 w vb jb bk _ _ F2 P k2 hb (by show B.first ≤ _; omega) (by show B.groups.length ≤ _; omega) (by omega) (by omega) hf (hne.resolve_left (fun h => h hf))
  · exact agrees_n1 w vb jb bk _ _ F2 P k2 hb (by show B.first ≤ _; omega) (by show B.groups.length ≤ _; omega) (by omega) (by omega) hf
end Go.Proofs.Ytgmggmpkbfljfaa

/- The failures that a statement is handed, as they lie in memory. -/
set_option linter.unusedVariables false
set_option linter.unusedSimpArgs false
set_option maxRecDepth 100000
namespace Go.Proofs.Ytgmggmpkbfljfaa
open Go.RowKit
open Go.ChangeShapes Go.WideShapes Go.ChangeAt
theorem ByteRow.stay {w w' : World} {sv : Value} {zs : List Nat} (h : ByteRow w sv zs) (hk : Keep [] w w') : ByteRow w' sv zs := by
  rcases h with h | ⟨b, o, cap, rfl, hz⟩
  · exact .inl h
  · refine .inr ⟨b, o, cap, rfl, fun i hi => ?_⟩
    obtain ⟨h1, h2⟩ := hz i hi
    refine ⟨?_, h2⟩
    rw [cell_same (w := w) (hk.block b (World.block_lt_of_cell? w _ h1) (by simp))]; exact h1
theorem ByteRow.shape {w : World} {sv : Value} {zs : List Nat} (h : ByteRow w sv zs) : ∃ a c, sv = .slice a zs.length c := by
  rcases h with ⟨a, cap, rfl, rfl⟩ | ⟨b, o, cap, rfl, _⟩
  · exact ⟨a, cap, rfl⟩
  · exact ⟨_, _, rfl⟩
section
variable {H : Type} {enc : TypeId × Value → H} {w : World} {base : Nat} {spare : Nat → Bool} {held : Bool} {fuel : Nat}
theorem byteRow_trod {cs : List Value} {x : DataW H × List MemPlace} (h : DataW.trod enc Try.prog w base spare held fuel 30 cs = some x) :
    ∃ sv zs, cs = [sv] ∧ ByteRow w sv zs ∧ zs.length ≤ maxLen := by
  rcases open_ints Try.underlying30 Try.underlying5 (by kernel_rfl) h with ⟨hcs, _⟩ | ⟨a, len, cap, zs, hcs, _, hl, hm, hz, _, hcell, hwz⟩
  · exact ⟨_, [], hcs, .inl ⟨none, 0, rfl, rfl⟩, Nat.zero_le _⟩
  · have hle : len ≤ zs.length := by rw [hz]; split <;> omega
    by_cases h0 : len = 0
    · subst h0
      exact ⟨_, [], hcs, .inl ⟨_, cap, rfl, rfl⟩, Nat.zero_le _⟩
    · have h1 := hcell 0 (by omega)
      obtain ⟨b, off, hp⟩ := plain_of_cell h1
      have ha : a = ⟨b, off, none⟩ := by unfold Addr.add at hp; simpa using hp
      subst ha
      refine ⟨_, (zs.take len).map Int.toNat, hcs, .inr ⟨b, off, cap, by simp [Nat.min_eq_left hle], fun i hi => ?_⟩, by simp; omega⟩
      have hil : i < len := by simp at hi; omega
      have hiz : i < zs.length := by omega
      have hb := bounds_u8 (hwz zs[i] (List.getElem_mem hiz))
      have hc := hcell i hiz
      rw [add_plain, List.getD_eq_getElem?_getD, List.getElem?_eq_getElem hiz] at hc
      simp only [Option.getD_some] at hc
      refine ⟨?_, ?_⟩
      · rw [hc]; simp [Int.toNat_of_nonneg hb.1]
      · simp; omega
end
/-- The rows of bytes. -/
def FailsAt (w : World) (sv : Value) (zss : List (List Nat)) : Prop :=
  (∃ a cap, sv = .slice a 0 cap ∧ zss = []) ∨
  ∃ lb lo cap, sv = .slice (some ⟨lb, lo, none⟩) zss.length cap ∧ zss.length ≤ maxLen ∧ ∀ i (h : i < zss.length), ∃ ev, w.cell? ⟨lb, lo + i, none⟩ = some ev ∧ ByteRow w ev zss[i] ∧ zss[i].length ≤ maxLen
theorem cells_bs : Try.prog.cellsOf 30 = 1 := by kernel_rfl
section
variable {H : Type} {enc : TypeId × Value → H} {w : World} {base : Nat} {held : Bool} {fuel : Nat}
theorem fails_trod {sv : Value} {x : DataW H × List MemPlace} (h : DataW.trod enc Try.prog w base (fun _ => true) held fuel 67 [sv] = some x) : ∃ zss, FailsAt w sv zss := by
  rcases Go.Deep.open_slice Try.underlying67 h with ⟨hcs, _⟩ | ⟨a, len, cap, m, n, D, Pl, hcs, _, hl, hm, hmm, _, hel⟩
  · simp at hcs; exact ⟨[], .inl ⟨none, 0, hcs, rfl⟩⟩
  · simp at hcs hmm
    by_cases h0 : len = 0
    · subst h0; exact ⟨[], .inl ⟨_, cap, hcs, rfl⟩⟩
    · have hall : ∀ i, i < cap → ∃ p : Value × List Nat, w.cells? base (a.add (i * 1)) 1 = some [p.1] ∧ ByteRow w p.1 p.2 ∧ p.2.length ≤ maxLen := by
        intro i hi
        obtain ⟨cs', h1, h2⟩ := hel i (by omega)
        rw [cells_bs] at h1
        obtain ⟨ev, zs, rfl, h3, h4⟩ := byteRow_trod h2
        exact ⟨(ev, zs), h1, h3, h4⟩
      have hfun : ∃ f : Nat → Value × List Nat, ∀ i, i < cap → w.cells? base (a.add (i * 1)) 1 = some [(f i).1] ∧ ByteRow w (f i).1 (f i).2 ∧ (f i).2.length ≤ maxLen :=
        ⟨fun i => if h : i < cap then Classical.choose (hall i h) else (.nilFunc, []), fun i hi => by simp only [hi, dif_pos]; exact Classical.choose_spec (hall i hi)⟩
      obtain ⟨f, hf⟩ := hfun
      have hc0 := (cells?_get (hf 0 (by omega)).1).2 0 (by omega)
      obtain ⟨b, off, hp⟩ := plain_of_cell (v := (f 0).1) (by simpa using hc0)
      have ha : a = ⟨b, off, none⟩ := by unfold Addr.add at hp; simpa using hp
      subst ha
      refine ⟨(List.range len).map fun i => (f i).2, .inr ⟨b, off, cap, by simpa using hcs, by simp; omega, fun i hi => ?_⟩⟩
      have hil : i < len := by simpa using hi
      obtain ⟨k1, k2, k3⟩ := hf i (by omega)
      have hc := (cells?_get k1).2 0 (by omega)
      rw [add_plain, add_plain] at hc
      refine ⟨(f i).1, by simpa using hc, ?_, ?_⟩
      · simp only [List.getElem_map, List.getElem_range]; exact k2
      · simp only [List.getElem_map, List.getElem_range]; exact k3
end
def FailsArg (w : World) (v : Value) : Prop := ∃ zss, FailsAt w v zss
theorem FailsArg_open {H : Type} {enc : TypeId × Value → H} {W : World} {v : Value} {base : Nat} {d : DataW H} {p : List MemPlace} (hv : Value.okWide Try.prog W .any base 67 v)
    (h : ∃ m, DataW.trod enc Try.prog W 0 (fun _ => true) true m 67 v.cells.toList = some (d, p)) : FailsArg W v := by
  obtain ⟨a, len, cap, rfl⟩ := okWide_slice Try.underlying67 hv
  obtain ⟨m, hm⟩ := h
  exact fails_trod hm
theorem FailsAt.form {w : World} {sv : Value} {zss : List (List Nat)} (h : FailsAt w sv zss) : ∃ a c, sv = .slice a zss.length c ∧ zss.length ≤ maxLen := by
  rcases h with ⟨a, cap, rfl, rfl⟩ | ⟨b, o, cap, rfl, hl, _⟩
  · exact ⟨a, cap, by simp, by simp⟩
  · exact ⟨_, _, rfl, hl⟩
theorem FailsAt.elem {w : World} {a : Option Addr} {c : Nat} {zss : List (List Nat)} (h : FailsAt w (.slice a zss.length c) zss) (i : Nat) (hi : i < zss.length) :
    ∃ b o ea ec, a = some ⟨b, o, none⟩ ∧ zss[i].length ≤ maxLen ∧ ∀ w', Keep [] w w' → w'.cell? ⟨b, o + i, none⟩ = some (.slice ea zss[i].length ec) ∧ ByteRow w' (.slice ea zss[i].length ec) zss[i] := by
  rcases h with ⟨a', cap, e, rfl⟩ | ⟨b, o, cap, e, hl, hz⟩
  · simp at hi
  · have e1 : a = some ⟨b, o, none⟩ := by injection e
    obtain ⟨ev, z1, z2, z3⟩ := hz i hi
    obtain ⟨ea, ec, rfl⟩ := z2.shape
    exact ⟨b, o, ea, ec, e1, z3, fun w' hk => ⟨by rw [cell_same (w := w) (hk.block b (World.block_lt_of_cell? w _ z1) (by simp))]; exact z1, z2.stay hk⟩⟩
end Go.Proofs.Ytgmggmpkbfljfaa
