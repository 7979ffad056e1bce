/- Group, and a clone of groups. -/
import Derived.Test.YtgmggmpkbfljfaaKn
set_option linter.unusedVariables false
set_option linter.unusedSimpArgs false
set_option maxRecDepth 100000
namespace Go.Proofs.Ytgmggmpkbfljfaa
open Go.RowKit
theorem gcells_length (G : GL) : (gcells G).length = G.length * 2 := by
  induction G with
  | nil => rfl
  | cons x G ih => simp [gcells] at *; omega
theorem gcells_get (G : GL) (k : Nat) (h : k < G.length) : (gcells G)[k * 2]? = some (G[k]).1 ∧ (gcells G)[k * 2 + 1]? = some (.int .i64 (secsN (G[k]).2)) := by
  induction G generalizing k with
  | nil => simp at h
  | cons x G ih =>
    cases k with
    | zero => exact ⟨rfl, rfl⟩
    | succ k =>
      have := ih k (by simpa using h)
      have e : gcells (x :: G) = x.1 :: .int .i64 (secsN x.2) :: gcells G := rfl
      rw [e, show (k + 1) * 2 = k * 2 + 1 + 1 by omega]
      simpa using this
theorem gcells_one {G : GL} (h : ∀ x ∈ G, ∃ l n c, x.1 = Value.slice l n c) : ∀ u ∈ gcells G, u.oneCell' = true := by
  intro u hu
  obtain ⟨x, hx, hu⟩ := List.mem_flatMap.1 hu
  simp at hu
  rcases hu with rfl | rfl
  · obtain ⟨l, n, c, e⟩ := h x hx
    rw [e]; rfl
  · rfl
theorem rows_slice {w : World} {G : GL} (h : ∀ x ∈ G, RowR w x.1 (scells x.2)) : ∀ x ∈ G, ∃ l n c, x.1 = Value.slice l n c := fun x hx => by
  obtain ⟨ao, c, e⟩ := (h x hx).form
  exact ⟨_, _, _, e⟩
/-- A group of the journal. -/
theorem JS.elem {jb vb : Nat} {p : Pg} {br : Bool} {gv pv : Value} {G : GL} {go : Option Addr} {gc : Nat} {pv' : Value} {G' : GL} {l : List ByteArray} {w : World} {F : List Nat} (h : JS jb vb p br gv pv G (.slice go G'.length gc) pv' G' l w F) (k : Nat) (hk : k < G'.length) :
    ∃ g, go = some ⟨g, 0, none⟩ ∧ g < w.heap.size ∧ w.cell? ⟨g, k * 2, none⟩ = some (G'[k]).1 ∧ w.cell? ⟨g, k * 2 + 1, none⟩ = some (.int .i64 (secsN (G'[k]).2)) := by
  rcases h.grp.2 with ⟨hv, h0⟩ | ⟨g, cap, cur, hv, hb, hg, rest⟩
  · omega
  · have hgo : go = some ⟨g, 0, none⟩ := by injection hv
    have hgv : (Value.slice go G'.length gc).ownBlock = some g := by rw [hgo]; rfl
    have h1 := h.grp.cells hgv (k * 2) _ (gcells_get G' k hk).1
    have h2 := h.grp.cells hgv (k * 2 + 1) _ (gcells_get G' k hk).2
    rw [Addr.add_lit, Nat.zero_add] at h1 h2
    exact ⟨g, hgo, lt_of_heap hg, h1, h2⟩
set_option maxHeartbeats 4000000 in
theorem group_ok (w : World) (F : List Nat) (jb vb : Nat) (J : Jn) (hJ : JH jb vb J w F) (hb : J.broken = false) (hf : J.pg.f ≤ 1000000) (hn : J.groups.length ≤ 1000000) (i : Nat) (hi : i < J.groups.length) (hl : (J.groups[i]).length ≤ 256) :
    Calls Try.prog 30 #[.pointer (some ⟨jb, 0, none⟩), .int .i64 ((J.pg.f : Int) + (i : Int))] w fun e w' => ∃ vo vc, e = .returned (.tuple #[.slice vo (J.groups[i]).length vc, .int .i64 0]) ∧ RowR w' (.slice vo (J.groups[i]).length vc) (scells J.groups[i]) ∧ Keep [] w w' := by
  obtain ⟨gv, pv, G, hG, hS⟩ := hJ
  obtain ⟨⟨pg, pf, pp, pk⟩, groups, pend, broken⟩ := J
  dsimp only at hb hf hn hi hl hG hS ⊢
  subst hb
  subst hG
  rw [List.length_map] at hn hi
  obtain ⟨go, gc, rfl⟩ := own_form hS.grp
  obtain ⟨g, hgo, hgl, hce, _⟩ := hS.elem i hi
  subst hgo
  rw [List.getElem_map] at hl ⊢
  have hrow := hS.rows G[i] (List.getElem_mem hi)
  obtain ⟨so, sc, hform⟩ := hrow.form
  rw [hform] at hce
  have HSt := Lib.hid (state_c w jb vb ⟨pg, pf, pp, pk⟩ _ pv false hS.box)
  have HFi := Lib.hid (first_c w jb vb ⟨pg, pf, pp, pk⟩ _ pv false hS.box)
  have HLa := Lib.hid (last_c w jb vb ⟨pg, pf, pp, pk⟩ _ G.length gc pv false hS.box (by dsimp only; omega) (by omega))
  have Hbx := Lib.hid hS.box
  have Hrow := Lib.hid hrow
  have Hce := Lib.hid hce
  have Hform := Lib.hid hform
  clear hS hce hrow hform
  have hlf : (pf : Int) + (i : Int) ≤ (pf : Int) + (G.length : Int) - 1 := by omega
  generalize hgi : G[i] = gi at *
  obtain ⟨gx, gl⟩ := gi
  dsimp only at hl Hrow Hce Hform ⊢
  clear hgi
  go_enter Try.func30, Try.ntmps30
  go_wp2_with fail
  refine HSt.out.mono ?_
  rintro e w1 ⟨rfl, hw⟩
  have hj0 : jState false = 0 := rfl
  rw [hj0]
  dsimp only
  subst hw
  go_wp2_with fail
  refine HFi.out.mono ?_
  rintro e w2 ⟨rfl, hw⟩
  dsimp only
  subst hw
  go_wp2_with fail
  refine HLa.out.mono ?_
  rintro e w3 ⟨rfl, hk3⟩
  dsimp only
  have Hk3 := Lib.hid hk3
  clear hk3
  go_wp2_with fail
  have hc : ∀ n : KW w3, ∀ j, (Wk w3 n).cell? ⟨jb, j, none⟩ = (jcells vb ⟨pg, pf, pp, pk⟩ (.slice (some ⟨g, 0, none⟩) G.length gc) pv false)[j]? := fun n => cell_of ((Hk3.out.trans0 n.k).heap Hbx.out (by simp))
  have hc5 := fun n => hc n 5
  simp only [jcells, List.getElem?_toArray, List.getElem?_cons_zero, List.getElem?_cons_succ] at hc5
  have hce : ∀ n : KW w3, (Wk w3 n).cell? ⟨g, i * 2, none⟩ = some (.slice so (scells gl).length sc) := fun n => by
    rw [cell_same (w := w2) ((Hk3.out.trans0 n.k).block g hgl (by simp))]; exact Hce.out
  have HFw : Hid (∀ n : KW w3, Calls Try.prog 32 #[.pointer (some ⟨jb, 0, none⟩)] (Wk w3 n) fun e w' => e = .returned (.int .i64 pf) ∧ ∃ m, w' = Wk w3 m) := fun n =>
    (first_c (Wk w3 n) jb vb ⟨pg, pf, pp, pk⟩ _ pv false ((Hk3.out.trans0 n.k).heap Hbx.out (by simp))).mono fun e w' h => ⟨h.1, n, h.2⟩
  clear hc
  refine wp_region_keep_tail 11 (by kernel_rfl) (by kernel_rfl) ?_
  simp only [List.take_succ_cons, List.take_zero, List.drop_succ_cons, List.drop_zero]
  repeat (first
    | go_big_quiet_skip
    | (go_big_quiet_want; go_big_quiet_op; first | go_big_quiet_on | go_big_quiet_call (first
      | (go_at_call 32; exact HFw.out _))))
  refine wpQuiet_nil ?_
  rintro w4 ⟨⟨_, hk4⟩, rfl⟩
  have Hk4 := Lib.hid (Hk3.out.trans0 hk4)
  clear hk4 hc5 hce HFw
  go_wp2_with fail
  refine (cloneS_c w4 (.slice so (scells gl).length sc) gl (by rw [← Hform.out]; exact Hrow.out.keep0 Hk4.out) (by omega)).mono ?_
  rintro e w5 ⟨v', rfl, ho, hk5⟩
  obtain ⟨vo, vc, rfl⟩ := own_form (ownsRow_base0 ho)
  dsimp only
  have Ho := Lib.hid ho
  have Hk5 := Lib.hid (Hk4.out.trans0 hk5)
  clear ho hk5
  go_wp2_with fail
  go_ret2
  exact ⟨vo, vc, rfl, RowR.of_own (ownsRow_base0 Ho.out), Hk5.out⟩
set_option maxHeartbeats 4000000 in
theorem group_no (w : World) (F : List Nat) (jb vb : Nat) (J : Jn) (hJ : JH jb vb J w F) (hb : J.broken = false) (hf : J.pg.f ≤ 1000000) (hn : J.groups.length ≤ 1000000) (n : Int) (hno : n < J.pg.f ∨ (J.pg.f : Int) + J.groups.length - 1 < n) :
    Calls Try.prog 30 #[.pointer (some ⟨jb, 0, none⟩), .int .i64 n] w fun e w' => e = .returned (.tuple #[.slice none 0 0, .int .i64 9]) ∧ Keep [] w w' := by
  obtain ⟨gv, pv, G, hG, hS⟩ := hJ
  obtain ⟨⟨pg, pf, pp, pk⟩, groups, pend, broken⟩ := J
  dsimp only at hb hf hn hG hS hno ⊢
  subst hb
  subst hG
  rw [List.length_map] at hn hno
  obtain ⟨go, gc, rfl⟩ := own_form hS.grp
  have HSt := Lib.hid (state_c w jb vb ⟨pg, pf, pp, pk⟩ _ pv false hS.box)
  have HFi := Lib.hid (first_c w jb vb ⟨pg, pf, pp, pk⟩ _ pv false hS.box)
  have HLa := Lib.hid (last_c w jb vb ⟨pg, pf, pp, pk⟩ _ G.length gc pv false hS.box (by dsimp only; omega) (by omega))
  clear hS
  by_cases h1 : n < pf
  · clear hno
    go_enter Try.func30, Try.ntmps30
    go_wp2_with fail
    refine HSt.out.mono ?_
    rintro e w1 ⟨rfl, hw⟩
    have hj0 : jState false = 0 := rfl
    rw [hj0]
    dsimp only
    subst hw
    go_wp2_with fail
    refine HFi.out.mono ?_
    rintro e w2 ⟨rfl, hw⟩
    dsimp only
    subst hw
    go_wp2_with fail
    go_ret2
    exact ⟨rfl, Keep.refl _ _⟩
  · have h2 : (pf : Int) + G.length - 1 < n := by omega
    have h3 : (pf : Int) ≤ n := by omega
    clear hno h1
    go_enter Try.func30, Try.ntmps30
    go_wp2_with fail
    refine HSt.out.mono ?_
    rintro e w1 ⟨rfl, hw⟩
    have hj0 : jState false = 0 := rfl
    rw [hj0]
    dsimp only
    subst hw
    go_wp2_with fail
    refine HFi.out.mono ?_
    rintro e w2 ⟨rfl, hw⟩
    dsimp only
    subst hw
    go_wp2_with fail
    refine HLa.out.mono ?_
    rintro e w3 ⟨rfl, hk3⟩
    dsimp only
    have Hk3 := Lib.hid hk3
    clear hk3
    go_wp2_with fail
    go_ret2
    exact ⟨rfl, Hk3.out⟩
/-- A clone of a row of groups, from some place on. -/
theorem cloneG_c (w : World) (g o c : Nat) (G : GL) (hg : g < w.heap.size) (hc : ∀ (j : Nat) u, (gcells G)[j]? = some u → w.cell? ⟨g, o + j, none⟩ = some u) (h1 : ∀ x ∈ G, ∃ l n c, x.1 = Value.slice l n c) (hl : G.length ≤ 1000000) :
    Calls Try.prog 58 #[.slice (some ⟨g, o, none⟩) G.length c] w fun e w' => ∃ vo vc, e = .returned (.slice vo G.length vc) ∧ w'.ownsRow w.heap.size 83 2 (.slice vo G.length vc) G.length (gcells G) ∧ Keep [] w w' := by
  have q22 : ∀ (w : World) (a : Option Addr) (n c n' c' : Nat), (binOp .eql 74 (.slice a n c) (.slice none n' c')).run Try.prog w = .ok (.bool a.isNone) w := fun w a n c n' c' => Lib.run_eql_slice_nil w _ _ a n c n' c' Try.underlying74
  obtain ⟨i0, hi, hz0, hz1, hz2⟩ := info_parts infoGr
  have Hc := Lib.hid hc
  have H1 := Lib.hid h1
  clear hc h1
  go_enter Try.func58, Try.ntmps58
  go_wp2_with (at_builtin; refine wpList_append_own _ rfl _ _ 74 rfl w.heap.size 83 i0 _ 2 32 Try.underlying74 hi hz0 hz1 hz2 rfl (by decide) _ _ _ rfl (World.ownsRow_made w #[] 0 (Nat.le_refl _) (Nat.zero_le _) (by simp)) ⟨g, o, none⟩ G.length c (gcells G) rfl ?qc1 ?qc2 ?qc3 ?qc4 ?qc5 ?qc6 ?_)
  case qc1 => exact gcells_length G
  case qc2 =>
    intro j u hj
    rw [Addr.add_lit]
    exact Lib.cell?_alloc_some _ (Hc.out j u hj)
  case qc3 => exact gcells_one H1.out
  case qc4 => unfold maxLen; omega
  case qc5 => omega
  case qc6 => simp
  intro v' w1 hown hgrow hnil
  have Hk : Hid (Keep [] w w1) := ((Keep.alloc [] w _).grownPast hgrow (by intro k hk; simp [Value.ownBlock] at hk; omega))
  have Hown := Lib.hid hown
  clear hown hgrow
  obtain ⟨vo, vc, rfl⟩ := own_form (ownsRow_base0 Hown.out)
  go_wp2
  go_ret
  exact ⟨vo, vc, rfl, Hown.out, Hk.out⟩
end Go.Proofs.Ytgmggmpkbfljfaa
