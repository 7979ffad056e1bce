import Derived.Test.YtgmggmpkbfljfaaKa
/- Group, and a clone of groups. -/
set_option linter.unusedVariables false
set_option linter.unusedSimpArgs false
set_option maxRecDepth 100000
namespace Go.Proofs.Ytgmggmpkbfljfaa
open Go.RowKit
theorem gcells_length (G : GL) : (gcells G).length = G.length * 2 := by
  induction G with
  | nil => rfl
  | cons x G ih => simp [gcells] at *; omega
theorem gcells_get (G : GL) (k : Nat) (h : k < G.length) : (gcells G)[k * 2]? = some (G[k]).1 ∧ (gcells G)[k * 2 + 1]? = some (.int .i64 (secsN (G[k]).2)) := by
  induction G generalizing k with
  | nil => simp at h
  | cons x G ih =>
    cases k with
    | zero => exact ⟨rfl, rfl⟩
    | succ k =>
      have := ih k (by simpa using h)
      have e : gcells (x :: G) = x.1 :: .int .i64 (secsN x.2) :: gcells G := rfl
      rw [e, show (k + 1) * 2 = k * 2 + 1 + 1 by omega]
      simpa using this
theorem gcells_one {G : GL} (h : ∀ x ∈ G, ∃ l n c, x.1 = Value.slice l n c) : ∀ u ∈ gcells G, u.oneCell' = true := by
  intro u hu
  obtain ⟨x, hx, hu⟩ := List.mem_flatMap.1 hu
  simp at hu
  rcases hu with rfl | rfl
  · obtain ⟨l, n, c, e⟩ := h x hx
    rw [e]; rfl
  · rfl
theorem rows_slice {w : World} {G : GL} (h : ∀ x ∈ G, RowR w x.1 (scells x.2)) : ∀ x ∈ G, ∃ l n c, x.1 = Value.slice l n c := fun x hx => by
  obtain ⟨ao, c, e⟩ := (h x hx).form
  exact ⟨_, _, _, e⟩
/-- A group of the journal. -/
theorem JS.elem {jb vb : Nat} {p : Pg} {br : Bool} {gv pv : Value} {G : GL} {go : Option Addr} {gc : Nat} {pv' : Value} {G' : GL} {l : List ByteArray} {w : World} {F : List Nat} (h : JS jb vb p br gv pv G (.slice go G'.length gc) pv' G' l w F) (k : Nat) (hk : k < G'.length) :
    ∃ g, go = some ⟨g, 0, none⟩ ∧ g < w.heap.size ∧ w.cell? ⟨g, k * 2, none⟩ = some (G'[k]).1 ∧ w.cell? ⟨g, k * 2 + 1, none⟩ = some (.int .i64 (secsN (G'[k]).2)) := by
  rcases h.grp.2 with ⟨hv, h0⟩ | ⟨g, cap, cur, hv, hb, hg, rest⟩
  · omega
  · have hgo : go = some ⟨g, 0, none⟩ := by injection hv
    have hgv : (Value.slice go G'.length gc).ownBlock = some g := by rw [hgo]; rfl
    have h1 := h.grp.cells hgv (k * 2) _ (gcells_get G' k hk).1
    have h2 := h.grp.cells hgv (k * 2 + 1) _ (gcells_get G' k hk).2
    rw [Addr.add_lit, Nat.zero_add] at h1 h2
    exact ⟨g, hgo, lt_of_heap hg, h1, h2⟩
set_option maxHeartbeats 4000000 in
theorem group_ok (w : World) (F : List Nat) (jb vb : Nat) (J : Jn) (hJ : JH jb vb J w F) (hb : J.broken = false) (hf : J.pg.f ≤ 1000000) (hn : J.groups.length ≤ 1000000) (i : Nat) (hi : i < J.groups.length) (hl : (J.groups[i]).length ≤ 256) :
    Calls Try.prog 30 #[.pointer (some ⟨jb, 0, none⟩), .int .i64 ((J.pg.f : Int) + (i : Int))] w fun e w' => ∃ vo vc, e = .returned (.tuple #[.slice vo (J.groups[i]).length vc, .int .i64 0]) ∧ RowR w' (.slice vo (J.groups[i]).length vc) (scells J.groups[i]) ∧ Keep [] w w' := by
  obtain ⟨gv, pv, G, hG, hS⟩ := hJ
  obtain ⟨⟨pg, pf, pp, pk⟩, groups, pend, broken⟩ := J
  dsimp only at hb hf hn hi hl hG hS ⊢
  subst hb
  subst hG
  rw [List.length_map] at hn hi
  obtain ⟨go, gc, rfl⟩ := own_form hS.grp
  obtain ⟨g, hgo, hgl, hce, _⟩ := hS.elem i hi
  subst hgo
  rw [List.getElem_map] at hl ⊢
  have hrow := hS.rows G[i] (List.getElem_mem hi)
  obtain ⟨so, sc, hform⟩ := hrow.form
  rw [hform] at hce
  have HSt := Lib.hid (state_c w jb vb ⟨pg, pf, pp, pk⟩ _ pv false hS.box)
  have HFi := Lib.hid (first_c w jb vb ⟨pg, pf, pp, pk⟩ _ pv false hS.box)
  have HLa := Lib.hid (last_c w jb vb ⟨pg, pf, pp, pk⟩ _ G.length gc pv false hS.box (by dsimp only; omega) (by omega))
  have Hbx := Lib.hid hS.box
  have Hrow := Lib.hid hrow
  have Hce := Lib.hid hce
  have Hform := Lib.hid hform
  clear hS hce hrow hform
  have hlf : (pf : Int) + (i : Int) ≤ (pf : Int) + (G.length : Int) - 1 := by omega
  generalize hgi : G[i] = gi at *
  obtain ⟨gx, gl⟩ := gi
  dsimp only at hl Hrow Hce Hform ⊢
  clear hgi
  go_enter Try.func30, Try.ntmps30
  go_wp2_with fail
  refine HSt.out.mono ?_
  rintro e w1 ⟨rfl, hw⟩
  have hj0 : jState false = 0 := rfl
  rw [hj0]
  dsimp only
  subst hw
  go_wp2_with fail
  refine HFi.out.mono ?_
  rintro e w2 ⟨rfl, hw⟩
  dsimp only
  subst hw
  go_wp2_with fail
  refine HLa.out.mono ?_
  rintro e w3 ⟨rfl, hk3⟩
  dsimp only
  have Hk3 := Lib.hid hk3
  clear hk3
  go_wp2_with fail
  have hc : ∀ n : KW w3, ∀ j, (Wk w3 n).cell? ⟨jb, j, none⟩ = (jcells vb ⟨pg, pf, pp, pk⟩ (.slice (some ⟨g, 0, none⟩) G.length gc) pv false)[j]? := fun n => cell_of ((Hk3.out.trans0 n.k).heap Hbx.out (by simp))
  have hc5 := fun n => hc n 5
  simp only [jcells, List.getElem?_toArray, List.getElem?_cons_zero, List.getElem?_cons_succ] at hc5
  have hce : ∀ n : KW w3, (Wk w3 n).cell? ⟨g, i * 2, none⟩ = some (.slice so (scells gl).length sc) := fun n => by
    rw [cell_same (w := w2) ((Hk3.out.trans0 n.k).block g hgl (by simp))]; exact Hce.out
  have HFw : Hid (∀ n : KW w3, Calls Try.prog 32 #[.pointer (some ⟨jb, 0, none⟩)] (Wk w3 n) fun e w' => e = .returned (.int .i64 pf) ∧ ∃ m, w' = Wk w3 m) := fun n =>
    (first_c (Wk w3 n) jb vb ⟨pg, pf, pp, pk⟩ _ pv false ((Hk3.out.trans0 n.k).heap Hbx.out (by simp))).mono fun e w' h => ⟨h.1, n, h.2⟩
  clear hc
  refine wp_region_keep_tail 11 (by kernel_rfl) (by kernel_rfl) ?_
  simp only [List.take_succ_cons, List.take_zero, List.drop_succ_cons, List.drop_zero]
  repeat (first
    | go_big_quiet_skip
    | (go_big_quiet_want; go_big_quiet_op; first | go_big_quiet_on | go_big_quiet_call (first
      | (go_at_call 32; exact HFw.out _))))
  refine wpQuiet_nil ?_
  rintro w4 ⟨⟨_, hk4⟩, rfl⟩
  have Hk4 := Lib.hid (Hk3.out.trans0 hk4)
  clear hk4 hc5 hce HFw
  go_wp2_with fail
  refine (cloneS_c w4 (.slice so (scells gl).length sc) gl (by rw [← Hform.out]; exact Hrow.out.keep0 Hk4.out) (by omega)).mono ?_
  rintro e w5 ⟨v', rfl, ho, hk5⟩
  obtain ⟨vo, vc, rfl⟩ := own_form (ownsRow_base0 ho)
  dsimp only
  have Ho := Lib.hid ho
  have Hk5 := Lib.hid (Hk4.out.trans0 hk5)
  clear ho hk5
  go_wp2_with fail
  go_ret2
  exact ⟨vo, vc, rfl, RowR.of_own (ownsRow_base0 Ho.out), Hk5.out⟩
set_option maxHeartbeats 4000000 in
theorem group_no (w : World) (F : List Nat) (jb vb : Nat) (J : Jn) (hJ : JH jb vb J w F) (hb : J.broken = false) (hf : J.pg.f ≤ 1000000) (hn : J.groups.length ≤ 1000000) (n : Int) (hno : n < J.pg.f ∨ (J.pg.f : Int) + J.groups.length - 1 < n) :
    Calls Try.prog 30 #[.pointer (some ⟨jb, 0, none⟩), .int .i64 n] w fun e w' => e = .returned (.tuple #[.slice none 0 0, .int .i64 9]) ∧ Keep [] w w' := by
  obtain ⟨gv, pv, G, hG, hS⟩ := hJ
  obtain ⟨⟨pg, pf, pp, pk⟩, groups, pend, broken⟩ := J
  dsimp only at hb hf hn hG hS hno ⊢
  subst hb
  subst hG
  rw [List.length_map] at hn hno
  obtain ⟨go, gc, rfl⟩ := own_form hS.grp
  have HSt := Lib.hid (state_c w jb vb ⟨pg, pf, pp, pk⟩ _ pv false hS.box)
  have HFi := Lib.hid (first_c w jb vb ⟨pg, pf, pp, pk⟩ _ pv false hS.box)
  have HLa := Lib.hid (last_c w jb vb ⟨pg, pf, pp, pk⟩ _ G.length gc pv false hS.box (by dsimp only; omega) (by omega))
  clear hS
  by_cases h1 : n < pf
  · clear hno
    go_enter Try.func30, Try.ntmps30
    go_wp2_with fail
    refine HSt.out.mono ?_
    rintro e w1 ⟨rfl, hw⟩
    have hj0 : jState false = 0 := rfl
    rw [hj0]
    dsimp only
    subst hw
    go_wp2_with fail
    refine HFi.out.mono ?_
    rintro e w2 ⟨rfl, hw⟩
    dsimp only
    subst hw
    go_wp2_with fail
    go_ret2
    exact ⟨rfl, Keep.refl _ _⟩
  · have h2 : (pf : Int) + G.length - 1 < n := by omega
    have h3 : (pf : Int) ≤ n := by omega
    clear hno h1
    go_enter Try.func30, Try.ntmps30
    go_wp2_with fail
    refine HSt.out.mono ?_
    rintro e w1 ⟨rfl, hw⟩
    have hj0 : jState false = 0 := rfl
    rw [hj0]
    dsimp only
    subst hw
    go_wp2_with fail
    refine HFi.out.mono ?_
    rintro e w2 ⟨rfl, hw⟩
    dsimp only
    subst hw
    go_wp2_with fail
    refine HLa.out.mono ?_
    rintro e w3 ⟨rfl, hk3⟩
    dsimp only
    have Hk3 := Lib.hid hk3
    clear hk3
    go_wp2_with fail
    go_ret2
    exact ⟨rfl, Hk3.out⟩
/-- A clone of a row of groups, from some place on. -/
theorem cloneG_c (w : World) (g o c : Nat) (G : GL) (hg : g < w.heap.size) (hc : ∀ (j : Nat) u, (gcells G)[j]? = some u → w.cell? ⟨g, o + j, none⟩ = some u) (h1 : ∀ x ∈ G, ∃ l n c, x.1 = Value.slice l n c) (hl : G.length ≤ 1000000) :
    Calls Try.prog 58 #[.slice (some ⟨g, o, none⟩) G.length c] w fun e w' => ∃ vo vc, e = .returned (.slice vo G.length vc) ∧ w'.ownsRow w.heap.size 83 2 (.slice vo G.length vc) G.length (gcells G) ∧ Keep [] w w' := by
  have q22 : ∀ (w : World) (a : Option Addr) (n c n' c' : Nat), (binOp .eql 74 (.slice a n c) (.slice none n' c')).run Try.prog w = .ok (.bool a.isNone) w := fun w a n c n' c' => Lib.run_eql_slice_nil w _ _ a n c n' c' Try.underlying74
  obtain ⟨i0, hi, hz0, hz1, hz2⟩ := info_parts infoGr
  have Hc := Lib.hid hc
  have H1 := Lib.hid h1
  clear hc h1
  go_enter Try.func58, Try.ntmps58
  go_wp2_with (at_builtin; refine wpList_append_own _ rfl _ _ 74 rfl w.heap.size 83 i0 _ 2 32 Try.underlying74 hi hz0 hz1 hz2 rfl (by decide) _ _ _ rfl (World.ownsRow_made w #[] 0 (Nat.le_refl _) (Nat.zero_le _) (by simp)) ⟨g, o, none⟩ G.length c (gcells G) rfl ?qc1 ?qc2 ?qc3 ?qc4 ?qc5 ?qc6 ?_)
  case qc1 => exact gcells_length G
  case qc2 =>
    intro j u hj
    rw [Addr.add_lit]
    exact Lib.cell?_alloc_some _ (Hc.out j u hj)
  case qc3 => exact gcells_one H1.out
  case qc4 => unfold maxLen; omega
  case qc5 => omega
  case qc6 => simp
  intro v' w1 hown hgrow hnil
  have Hk : Hid (Keep [] w w1) := ((Keep.alloc [] w _).grownPast hgrow (by intro k hk; simp [Value.ownBlock] at hk; omega))
  have Hown := Lib.hid hown
  clear hown hgrow
  obtain ⟨vo, vc, rfl⟩ := own_form (ownsRow_base0 Hown.out)
  go_wp2
  go_ret
  exact ⟨vo, vc, rfl, Hown.out, Hk.out⟩
end Go.Proofs.Ytgmggmpkbfljfaa

/- Drop. -/
set_option linter.unusedVariables false
set_option linter.unusedSimpArgs false
set_option maxRecDepth 100000
namespace Go.Proofs.Ytgmggmpkbfljfaa
open Go.RowKit
structure DR where
  e : Int
  v : Vol
  j : Jn
def dropPg (J : Jn) (c : Nat) : Pg := ⟨J.pg.g + 1, J.pg.f + c, J.pg.p + usedN (J.groups.take c), J.pg.k - usedN (J.groups.take c)⟩
def jDrop (v : Vol) (J : Jn) (n : Int) : DR :=
  if J.broken then ⟨18, v, J⟩ else
  if (J.pg.f : Int) + J.groups.length - 1 < n then ⟨2, v, J⟩ else
  if n < J.pg.f then ⟨0, v, J⟩ else
  if (jW v (dropPg J (n - J.pg.f + 1).toNat)).1 ≠ 0 then ⟨(jW v (dropPg J (n - J.pg.f + 1).toNat)).1, (jW v (dropPg J (n - J.pg.f + 1).toNat)).2, { J with broken := (jW v (dropPg J (n - J.pg.f + 1).toNat)).1 == 20 }⟩ else
  ⟨0, (jW v (dropPg J (n - J.pg.f + 1).toNat)).2, ⟨dropPg J (n - J.pg.f + 1).toNat, J.groups.drop (n - J.pg.f + 1).toNat, J.pend, false⟩⟩
/-- The journal's rows, of which the first are let go. -/
theorem JS.dropped {jb vb : Nat} {p : Pg} {br : Bool} {gv pv : Value} {G : GL} {gv' pv' : Value} {G' : GL} {l : List ByteArray} {w : World} {F : List Nat} (h : JS jb vb p br gv pv G gv' pv' G' l w F) (c : Nat) :
    To (JS jb vb p br gv pv (G.drop c) gv' pv' G' l) F w w := by
  refine To.right (boxH_stab _ _ _) h fun _ h => To.right (ownH_stab _ _ _ _ _) h fun _ h => To.right (ownH_stab _ _ _ _ _) h fun F hF => ?_
  refine ⟨(G.drop c).flatMap fun x => rowF x.1, ⟨fun x hx => hF.1 x (List.mem_of_mem_drop hx), rfl⟩, Keep.refl _ _, fun x hx => .inl ?_⟩
  rw [hF.2]
  obtain ⟨y, hy, hx⟩ := List.mem_flatMap.1 hx
  exact List.mem_flatMap.2 ⟨y, List.mem_of_mem_drop hy, hx⟩
theorem gcells_drop (G : GL) (c : Nat) : gcells (G.drop c) = (gcells G).drop (c * 2) := by
  induction c generalizing G with
  | zero => simp
  | succ c ih =>
    cases G with
    | nil => simp [gcells]
    | cons x G =>
      have e : gcells (x :: G) = x.1 :: .int .i64 (secsN x.2) :: gcells G := rfl
      rw [List.drop_succ_cons, ih, e, show (c + 1) * 2 = c * 2 + 1 + 1 by omega]
      simp
set_option maxHeartbeats 8000000 in
theorem drop_small (jb vb mb : Nat) (v : Vol) (J : Jn) (n : Int) (hJ : JFit J) (hno : J.broken = true ∨ (J.pg.f : Int) + J.groups.length - 1 < n ∨ n < J.pg.f) (w : World) (F : List Nat) (h : JH jb vb J w F) :
    Calls Try.prog 31 #[.pointer (some ⟨jb, 0, none⟩), .int .i64 n] w fun e w' => e = .returned (.int .i64 (jDrop v J n).e) ∧ Keep [] w w' := by
  obtain ⟨gv, pv, G, hG, hS⟩ := h
  obtain ⟨⟨pg, pf, pp, pk⟩, groups, pend, broken⟩ := J
  obtain ⟨fg, ff, fp, fk, fn, fl, fs⟩ := hJ
  unfold jDrop
  dsimp only at fg ff fp fk fn fl fs hG hS hno ⊢
  subst hG
  rw [List.length_map] at fn hno
  rw [List.length_map]
  obtain ⟨go, gc, rfl⟩ := own_form hS.grp
  have HSt := Lib.hid (state_c w jb vb ⟨pg, pf, pp, pk⟩ _ pv broken hS.box)
  have HLa := Lib.hid (last_c w jb vb ⟨pg, pf, pp, pk⟩ _ G.length gc pv broken hS.box (by dsimp only; omega) (by omega))
  have Hbx := Lib.hid hS.box
  clear hS fs
  cases broken with
  | true =>
    clear hno
    go_enter Try.func31, Try.ntmps31
    go_wp2_with fail
    refine HSt.out.mono ?_
    rintro e w1 ⟨rfl, hw⟩
    have hj0 : jState true = 18 := rfl
    rw [hj0]
    dsimp only
    subst hw
    go_wp2_with fail
    go_ret
    exact ⟨rfl, Keep.refl _ _⟩
  | false =>
    by_cases h1 : (pf : Int) + G.length - 1 < n
    · clear hno
      go_enter Try.func31, Try.ntmps31
      go_wp2_with fail
      refine HSt.out.mono ?_
      rintro e w1 ⟨rfl, hw⟩
      have hj0 : jState false = 0 := rfl
      rw [hj0]
      dsimp only
      subst hw
      go_wp2_with fail
      refine HLa.out.mono ?_
      rintro e w3 ⟨rfl, hk3⟩
      dsimp only
      have Hk3 := Lib.hid hk3
      clear hk3
      go_wp2_with fail
      go_ret
      exact ⟨by simp [h1], Hk3.out⟩
    · have h2 : n < pf := by
        rcases hno with h | h | h
        · cases h
        · exact absurd h h1
        · exact h
      have h3 : n ≤ (pf : Int) + G.length - 1 := by omega
      clear hno
      go_enter Try.func31, Try.ntmps31
      go_wp2_with fail
      refine HSt.out.mono ?_
      rintro e w1 ⟨rfl, hw⟩
      have hj0 : jState false = 0 := rfl
      rw [hj0]
      dsimp only
      subst hw
      go_wp2_with fail
      refine HLa.out.mono ?_
      rintro e w3 ⟨rfl, hk3⟩
      dsimp only
      have Hk3 := Lib.hid hk3
      have HFi := Lib.hid (first_c w3 jb vb ⟨pg, pf, pp, pk⟩ _ pv false (hk3.heap Hbx.out (by simp)))
      clear hk3
      go_wp2_with fail
      refine HFi.out.mono ?_
      rintro e w4 ⟨rfl, hw⟩
      dsimp only
      subst hw
      go_wp2_with fail
      go_ret
      exact ⟨by simp [h1, h2], Hk3.out⟩
end Go.Proofs.Ytgmggmpkbfljfaa

/- Drop of the first groups. -/
set_option linter.unusedVariables false
set_option linter.unusedSimpArgs false
set_option maxRecDepth 100000
namespace Go.Proofs.Ytgmggmpkbfljfaa
open Go.RowKit
set_option maxHeartbeats 8000000 in
theorem drop_ok (jb vb mb : Nat) (v : Vol) (J : Jn) (n : Int) (c : Nat) (hJ : JFit J) (hgs : GSmall J.groups) (hb : J.broken = false) (hc1 : 1 ≤ c) (hc2 : c ≤ J.groups.length) (hn : n = (J.pg.f : Int) + c - 1) (hk : usedN J.groups ≤ J.pg.k) (hl : v.pend.length ≤ 2000) :
    Met Try.prog 31 #[.pointer (some ⟨jb, 0, none⟩), .int .i64 n] (.int .i64 (jDrop v J n).e) (Sep (VolH vb mb v) (JH jb vb J)) (Sep (VolH vb mb (jDrop v J n).v) (JH jb vb (jDrop v J n).j)) := by
  rintro w F ⟨Fv, Fj, hV, ⟨gv, pv, G, hG, hS⟩, hdis, rfl⟩
  have hcn : (n - (J.pg.f : Int) + 1).toNat = c := by omega
  have hjd : jDrop v J n = if (jW v (dropPg J c)).1 ≠ 0 then ⟨(jW v (dropPg J c)).1, (jW v (dropPg J c)).2, { J with broken := (jW v (dropPg J c)).1 == 20 }⟩ else ⟨0, (jW v (dropPg J c)).2, ⟨dropPg J c, J.groups.drop c, J.pend, false⟩⟩ := by
    unfold jDrop
    rw [if_neg (by simp [hb]), if_neg (by omega), if_neg (by omega), hcn]
  have Hjd := Lib.hid hjd
  have hle1 : n ≤ (J.pg.f : Int) + (J.groups.length : Int) - 1 := by omega
  have hle2 : (J.pg.f : Int) ≤ n := by omega
  have hcnt : n - (J.pg.f : Int) + 1 = (c : Int) := by omega
  clear hcn hjd hn
  obtain ⟨⟨pg, pf, pp, pk⟩, groups, pend, broken⟩ := J
  obtain ⟨fg, ff, fp, fk, fn, fl, fs⟩ := hJ
  dsimp only at fg ff fp fk fn fl fs hG hS hb hc2 hk hgs hle1 hle2 hcnt
  subst hb
  subst hG
  rw [List.length_map] at fn hc2 hle1
  obtain ⟨go, gc, rfl⟩ := own_form hS.grp
  obtain ⟨g, hgo, hgl, _, _⟩ := hS.elem 0 (by omega)
  subst hgo
  have HSt := Lib.hid (state_c w jb vb ⟨pg, pf, pp, pk⟩ _ pv false hS.box)
  have HLa := Lib.hid (last_c w jb vb ⟨pg, pf, pp, pk⟩ _ G.length gc pv false hS.box (by dsimp only; omega) (by omega))
  have HS := Lib.hid hS
  have HV := Lib.hid hV
  have HD := Lib.hid hdis
  have Hgs := Lib.hid hgs
  clear hS fs hV hdis hgs
  have hGg : G.length ≤ gc := by
    rcases HS.out.grp.2 with ⟨hv, h0⟩ | ⟨g', cap, cur, hv, _, _, hnc, _⟩
    · have := hv; injection this with h1 _ _; cases h1
    · injection hv with h1 h2 h3; omega
  have hcap : c ≤ gc := by omega
  go_enter Try.func31, Try.ntmps31
  go_wp2_with fail
  refine HSt.out.mono ?_
  rintro e w1 ⟨rfl, hw⟩
  have hj0 : jState false = 0 := rfl
  rw [hj0]
  dsimp only
  subst hw
  go_wp2_with fail
  refine HLa.out.mono ?_
  rintro e w3 ⟨rfl, hk3⟩
  dsimp only
  have HS3 := Lib.hid ((js_stab _ _ _ _ _ _ _ _ _ _ _).keep HS.out hk3 (by simp))
  have HV3 := Lib.hid ((volH_stab _ _ _).keep HV.out hk3 (by simp))
  have Hk3 := Lib.hid hk3
  have HFi := Lib.hid (first_c w3 jb vb ⟨pg, pf, pp, pk⟩ _ pv false HS3.out.box)
  clear hk3
  go_wp2_with fail
  refine HFi.out.mono ?_
  rintro e w4 ⟨rfl, hw⟩
  dsimp only
  subst hw
  go_wp2_with fail
  refine HFi.out.mono ?_
  rintro e w5 ⟨rfl, hw⟩
  dsimp only
  subst hw
  have hcb := cell_of HS3.out.box
  have hfb := frozen_of HS3.out.box
  have hjl := lt_of_heap HS3.out.box
  simp only [jcells] at hcb
  go_wp2_with fail
  have hq1 : ((pg : Int) + 1) = ((pg + 1 : Nat) : Int) := by omega
  have hq2 : ((pf : Int) + (c : Int)) = ((pf + c : Nat) : Int) := by omega
  rw [hq1, hq2]
  have hB0 := World.alloc_heap_new w5 (.cells #[.int .i64 ((pg + 1 : Nat) : Int), .int .i64 ((pf + c : Nat) : Int), .int .i64 pp, .int .i64 pk] 73)
  have hkb := Keep.alloc [] w5 (.cells #[.int .i64 ((pg + 1 : Nat) : Int), .int .i64 ((pf + c : Nat) : Int), .int .i64 pp, .int .i64 pk] 73)
  generalize w5.alloc (.cells #[.int .i64 ((pg + 1 : Nat) : Int), .int .i64 ((pf + c : Nat) : Int), .int .i64 pp, .int .i64 pk] 73) = w6 at *
  have HB0 := Lib.hid hB0
  have Hkb := Lib.hid hkb
  have hqg : pg + 1 ≤ 1000001 := by omega
  have hqf : pf + c ≤ 2000000 := by omega
  have hgl5 : g < w5.heap.size := Nat.lt_of_lt_of_le hgl Hk3.out.size
  have hdp : dropPg ⟨⟨pg, pf, pp, pk⟩, G.map (·.2), pend, false⟩ c = ⟨pg + 1, pf + c, pp + usedN ((G.map (·.2)).take c), pk - usedN ((G.map (·.2)).take c)⟩ := rfl
  rw [hdp] at Hjd
  clear hq1 hq2 hB0 hkb hdp hcb hfb
  generalize pg + 1 = qg at *
  generalize pf + c = qf at *
  go_loopw [51] (fun i wr => ∃ k : Nat, k ≤ c ∧ i = .int .i64 k ∧ ∃ P K : Nat, P = pp + usedN ((G.map (·.2)).take k) ∧ K = pk - usedN ((G.map (·.2)).take k) ∧ wr.heap[w5.heap.size]? = some (.cells #[.int .i64 qg, .int .i64 qf, .int .i64 P, .int .i64 K] 73 (0, 0)) ∧ Keep [] w5 wr) (fun i _ => c - (intOf i).toNat)
  case atStart => exact ⟨0, by omega, rfl, pp, pk, rfl, rfl, HB0.out, Hkb.out⟩
  case round =>
    obtain ⟨k, hkc, rfl, P, K, hP, hK, hbx, hkr⟩ := hrel
    have Hkr := Lib.hid hkr
    have Hbx := Lib.hid hbx
    have hcb := cell_of hbx
    have hfb := frozen_of hbx
    have hbl := lt_of_heap hbx
    have hule := usedN_take_le (G.map (·.2)) k
    have hPb : P ≤ 2000000 := by omega
    have hKb : K ≤ 1000000 := by omega
    clear hbx hkr
    by_cases hlt : k < c
    · have hkg : k < G.length := by omega
      obtain ⟨g', hg', _, hce, hce2⟩ := HS3.out.elem k hkg
      have hgg : g' = g := by
        injection hg' with h1
        injection h1 with h1
        exact h1.symm
      subst hgg
      clear hg'
      have hd1 : wr.cell? ⟨g', k * 2, none⟩ = some (G[k]).1 := by rw [cell_same (w := w5) (Hkr.out.block g' hgl5 (by simp))]; exact hce
      have hd2 : wr.cell? ⟨g', k * 2 + 1, none⟩ = some (.int .i64 (secsN (G[k]).2)) := by rw [cell_same (w := w5) (Hkr.out.block g' hgl5 (by simp))]; exact hce2
      obtain ⟨so, sc, hform⟩ := (HS3.out.rows G[k] (List.getElem_mem hkg)).form
      have hkm : k < (G.map (·.2)).length := by rw [List.length_map]; exact hkg
      have hu1 := usedN_take (G.map (·.2)) k hkm
      have hu2 := usedN_take_le (G.map (·.2)) (k + 1)
      rw [List.getElem_map] at hu1
      rw [hform] at hd1
      have HP := Lib.hid hP
      have HK := Lib.hid hK
      have Hu1 := Lib.hid hu1
      obtain ⟨q, hq⟩ : ∃ q, secsN (G[k]).2 = q := ⟨_, rfl⟩
      rw [hq] at hd2 hu1 Hu1
      have hKq : q ≤ K := by omega
      have HKi : Hid ((K : Int) - (q : Int) = ((K - q : Nat) : Int)) := by show _ = _; omega
      have HPi : Hid ((P : Int) + (q : Int) = ((P + q : Nat) : Int)) := by show _ = _; omega
      have hqb : q ≤ 1000000 := by omega
      clear hce hce2 hform hq hu1 hP hK hkm
      go_wp2_with fail
      go_roundw
      case rel =>
        refine ⟨k + 1, by omega, by go_num, P + q, K - q, ?_, ?_, ?_, ?_⟩
        · rw [HP.out, Hu1.out]; omega
        · rw [HK.out, Hu1.out]; omega
        · rw [HKi.out, HPi.out]
          exact heap_old (set_same (set_same Hbx.out 2 _) 3 _)
        · exact ((Hkr.out.setPast _ 2 _ (Nat.le_refl _)).setPast _ 3 _ (Nat.le_refl _)).allocPast _
      case measure => simp [intOf]; omega
    · obtain rfl : k = c := by omega
      have HS6 := Lib.hid ((js_stab _ _ _ _ _ _ _ _ _ _ _).keep HS3.out Hkr.out (by simp))
      have HV6 := Lib.hid ((volH_stab _ _ _).keep HV3.out Hkr.out (by simp))
      have Hk6 := Lib.hid (Hk3.out.trans0 Hkr.out)
      have HP := Lib.hid hP
      have HK := Lib.hid hK
      have hpb : pp + usedN ((G.map (·.2)).take k) = P := hP.symm
      have hkb : pk - usedN ((G.map (·.2)).take k) = K := hK.symm
      rw [hpb, hkb] at Hjd
      clear hcb hfb hP hK hpb hkb hlt
      go_wp2_with fail
      have hbx : ∀ n : KW wr, ∀ i, (Wk wr n).cell? ⟨w5.heap.size, i, none⟩ = #[.int .i64 qg, .int .i64 qf, .int .i64 P, .int .i64 K][i]? := fun n => cell_of (n.k.heap Hbx.out (by simp))
      have hx0 := fun n => hbx n 0
      have hx1 := fun n => hbx n 1
      have hx2 := fun n => hbx n 2
      have hx3 := fun n => hbx n 3
      have hj : ∀ n : KW wr, ∀ i, (Wk wr n).cell? ⟨jb, i, none⟩ = (jcells vb ⟨pg, pf, pp, pk⟩ (.slice (some ⟨g, 0, none⟩) G.length gc) pv false)[i]? := fun n => cell_of (n.k.heap HS6.out.box (by simp))
      have hj0' := fun n => hj n 0
      simp only [jcells, List.getElem?_toArray, List.getElem?_cons_zero, List.getElem?_cons_succ] at hx0 hx1 hx2 hx3 hj0'
      clear hbx hj
      refine wp_region_keep_tail 5 (by kernel_rfl) (by kernel_rfl) ?_
      simp only [List.take_succ_cons, List.take_zero, List.drop_succ_cons, List.drop_zero]
      repeat (first
        | go_big_quiet_skip
        | (go_big_quiet_want; go_big_quiet_op; go_big_quiet_on))
      refine wpQuiet_nil ?_
      rintro w7 ⟨⟨_, hk7⟩, rfl⟩
      have HS7 := Lib.hid ((js_stab _ _ _ _ _ _ _ _ _ _ _).keep HS6.out hk7 (by simp))
      have HV7 := Lib.hid ((volH_stab _ _ _).keep HV6.out hk7 (by simp))
      have Hq7 := Lib.hid (hk7.heap Hbx.out (by simp))
      have Hk7 := Lib.hid (Hk6.out.trans0 hk7)
      have hFlt : ∀ x ∈ Fv ++ Fj, x < w5.heap.size := fun x hx => by
        rcases List.mem_append.1 hx with h | h
        · exact (volH_stab _ _ _).lt HV3.out x h
        · exact (js_stab _ _ _ _ _ _ _ _ _ _ _).lt HS3.out x h
      have HFlt := Lib.hid hFlt
      clear hk7 hx0 hx1 hx2 hx3 hj0' hFlt
      go_wp2_with fail
      refine (jwrite_m vb mb v ⟨qg, qf, P, K⟩ ⟨by dsimp only; omega, by dsimp only; omega, by dsimp only; omega, by dsimp only; omega⟩ (by omega) w7 Fv HV7.out).mono ?_
      generalize jW v ⟨qg, qf, P, K⟩ = r2 at *
      obtain ⟨e2, v2⟩ := r2
      have hjd := Hjd.out
      dsimp only at hjd ⊢
      rintro e w8 ⟨rfl, ht8⟩
      have HT8 := Lib.hid (ht8.sepL (js_stab _ _ _ _ _ _ _ _ _ _ _) HS7.out HD.out)
      have Hq8 : Hid (w8.heap[w5.heap.size]? = _) := (by obtain ⟨F', _, k, _⟩ := ht8; exact k.heap Hq7.out (fun hm => by have := HFlt.out _ (List.mem_append_left Fj hm); omega))
      have Hjd2 := Lib.hid hjd
      clear hjd ht8
      dsimp only
      obtain ⟨F8, ⟨F9, F10, h9, h10, h910, rfl⟩, hk8, hs8⟩ := HT8.out
      have H9 := Lib.hid h9
      have H10 := Lib.hid h10
      have H910 := Lib.hid h910
      have Hk8 := Lib.hid hk8
      have Hs8 := Lib.hid hs8
      have hcb := cell_of h10.box
      have hfb := frozen_of h10.box
      have hjl8 := lt_of_heap h10.box
      simp only [jcells] at hcb
      have hbx := cell_of Hq8.out
      clear h9 h10 h910 hk8 hs8
      by_cases he2 : e2 = 0
      · subst he2
        have Hst : Hid (jDrop v ⟨⟨pg, pf, pp, pk⟩, G.map (·.2), pend, false⟩ n = ⟨0, v2, ⟨⟨qg, qf, P, K⟩, (G.map (·.2)).drop k, pend, false⟩⟩) := by show _ = _; rw [Hjd2.out, if_neg (by simp)]
        by_cases hgc : gc = k
        · subst hgc
          have hGl : G.length - gc = 0 := by omega
          go_wp2_with fail
          have ht8 : To (JS jb vb ⟨qg, qf, P, K⟩ false (.slice (some ⟨g, 0, none⟩) G.length gc) pv G (.slice (some ⟨g, 0, none⟩) G.length gc) pv G pend) F10 w8 ((((w8.setCell ⟨jb, 1, none⟩ (.int .i64 qg)).setCell ⟨jb, 2, none⟩ (.int .i64 qf)).setCell ⟨jb, 3, none⟩ (.int .i64 P)).setCell ⟨jb, 4, none⟩ (.int .i64 K)) :=
            (((H10.out.setBox (q := ⟨qg, pf, pp, pk⟩) (cr := false) 1 _ rfl).trans fun F' h => h.setBox (q := ⟨qg, qf, pp, pk⟩) (cr := false) 2 _ rfl).trans fun F' h => h.setBox (q := ⟨qg, qf, P, pk⟩) (cr := false) 3 _ rfl).trans fun F' h => h.setBox (q := ⟨qg, qf, P, K⟩) (cr := false) 4 _ rfl
          have Ht8 := Lib.hid ht8
          clear ht8
          generalize ((((w8.setCell ⟨jb, 1, none⟩ (.int .i64 qg)).setCell ⟨jb, 2, none⟩ (.int .i64 qf)).setCell ⟨jb, 3, none⟩ (.int .i64 P)).setCell ⟨jb, 4, none⟩ (.int .i64 K)) = w9 at *
          obtain ⟨F11, h11, hk11, hs11⟩ := Ht8.out
          have H11 := Lib.hid h11
          have Hk11 := Lib.hid hk11
          have Hs11 := Lib.hid hs11
          clear h11 hk11 hs11
          have hl11 : g < w9.heap.size := by
            rcases H11.out.grp.2 with ⟨hv, _⟩ | ⟨g', cap, cur, hv, _, hg', _⟩
            · have := hv; injection this with h1 _ _; cases h1
            · have e : (some (⟨g, 0, none⟩ : Addr)) = some ⟨g', 0, none⟩ := by injection hv
              injection e with e
              injection e with e
              subst e
              exact lt_of_heap hg'
          have hg1 := gcells_one (rows_slice H11.out.rows)
          have hcl := cloneG_c w9 g 0 0 (G.drop gc) hl11 (fun j u hj => by
            rw [gcells_drop, List.getElem?_drop] at hj
            have h1 := H11.out.grp.cells (g := g) rfl (gc * 2 + j) u hj
            rw [Addr.add_lit, Nat.zero_add] at h1
            rw [List.getElem?_eq_none (by rw [gcells_length]; omega)] at hj; cases hj) (fun x hx => rows_slice H11.out.rows x (List.mem_of_mem_drop hx)) (by rw [List.length_drop]; omega)
          rw [List.length_drop, hGl] at hcl
          clear hg1 hl11
          refine hcl.mono ?_
          clear hcl
          rintro e w12 ⟨vo, vc, rfl, ho, hk12⟩
          dsimp only
          have hb12 := (hk12.heap H11.out.box (by simp))
          have hcb := cell_of hb12
          have hfb := frozen_of hb12
          have hjl12 := lt_of_heap hb12
          simp only [jcells] at hcb
          have Ho := Lib.hid ho
          have Hk12 := Lib.hid hk12
          have Hb12 := Lib.hid hb12
          clear ho hk12 hb12
          go_wp2_with fail
          go_ret
          rw [Hst.out]
          refine ⟨rfl, ?_⟩
          have h13 : To (JS jb vb ⟨qg, qf, P, K⟩ false (.slice (some ⟨g, 0, none⟩) G.length gc) pv (G.drop gc) (.slice vo 0 vc) pv (G.drop gc) pend) F11 w9 w12 :=
            To.trans (H11.out.dropped _) fun F' h => h.setGrp fun F'' hF => ⟨_, ⟨by rw [List.length_drop, hGl]; exact ownsRow_base0 Ho.out, rfl⟩, Hk12.out.mono (by simp), fun x hx => .inr (by
              rcases Ho.out.2 with ⟨hv, _⟩ | ⟨g', cap, cur, hv, hb, _⟩
              · rw [hv] at hx; simp [Value.ownBlock] at hx
              · rw [hv] at hx; simp [Value.ownBlock] at hx; omega)⟩
          have htz := h13.trans fun F' h => h.setBox (q := ⟨qg, qf, P, K⟩) (cr := false) (hv := .slice vo 0 vc) (qv := pv) 5 _ rfl
          have hj := (htz.before Hk11.out Hs11.out).imp (B := JH jb vb ⟨⟨qg, qf, P, K⟩, (G.map (·.2)).drop gc, pend, false⟩) (fun w F h => ⟨_, _, _, by simp, h⟩)
          exact (((hj.sepR (volH_stab _ _ _) H9.out H910.out).before Hk8.out Hs8.out).from (Hk7.out.mono (by simp)))
        · have hgc2 : k < gc := by omega
          have hgc3 : ¬ gc - k = 0 := by omega
          have hgk : G.length - k ≤ 1000000 := by omega
          go_wp2_with fail
          have ht8 : To (JS jb vb ⟨qg, qf, P, K⟩ false (.slice (some ⟨g, 0, none⟩) G.length gc) pv G (.slice (some ⟨g, 0, none⟩) G.length gc) pv G pend) F10 w8 ((((w8.setCell ⟨jb, 1, none⟩ (.int .i64 qg)).setCell ⟨jb, 2, none⟩ (.int .i64 qf)).setCell ⟨jb, 3, none⟩ (.int .i64 P)).setCell ⟨jb, 4, none⟩ (.int .i64 K)) :=
            (((H10.out.setBox (q := ⟨qg, pf, pp, pk⟩) (cr := false) 1 _ rfl).trans fun F' h => h.setBox (q := ⟨qg, qf, pp, pk⟩) (cr := false) 2 _ rfl).trans fun F' h => h.setBox (q := ⟨qg, qf, P, pk⟩) (cr := false) 3 _ rfl).trans fun F' h => h.setBox (q := ⟨qg, qf, P, K⟩) (cr := false) 4 _ rfl
          have Ht8 := Lib.hid ht8
          clear ht8
          generalize ((((w8.setCell ⟨jb, 1, none⟩ (.int .i64 qg)).setCell ⟨jb, 2, none⟩ (.int .i64 qf)).setCell ⟨jb, 3, none⟩ (.int .i64 P)).setCell ⟨jb, 4, none⟩ (.int .i64 K)) = w9 at *
          obtain ⟨F11, h11, hk11, hs11⟩ := Ht8.out
          have H11 := Lib.hid h11
          have Hk11 := Lib.hid hk11
          have Hs11 := Lib.hid hs11
          clear h11 hk11 hs11
          have hl11 : g < w9.heap.size := by
            rcases H11.out.grp.2 with ⟨hv, _⟩ | ⟨g', cap, cur, hv, _, hg', _⟩
            · have := hv; injection this with h1 _ _; cases h1
            · have e : (some (⟨g, 0, none⟩ : Addr)) = some ⟨g', 0, none⟩ := by injection hv
              injection e with e
              injection e with e
              subst e
              exact lt_of_heap hg'
          have hg1 := gcells_one (rows_slice H11.out.rows)
          have hcl := cloneG_c w9 g (k * 2) (gc - k) (G.drop k) hl11 (fun j u hj => by
            rw [gcells_drop, List.getElem?_drop] at hj
            have h1 := H11.out.grp.cells (g := g) rfl (k * 2 + j) u hj
            rw [Addr.add_lit, Nat.zero_add] at h1
            exact h1) (fun x hx => rows_slice H11.out.rows x (List.mem_of_mem_drop hx)) (by rw [List.length_drop]; omega)
          rw [List.length_drop] at hcl
          clear hg1 hl11
          refine hcl.mono ?_
          clear hcl
          rintro e w12 ⟨vo, vc, rfl, ho, hk12⟩
          dsimp only
          have hb12 := (hk12.heap H11.out.box (by simp))
          have hcb := cell_of hb12
          have hfb := frozen_of hb12
          have hjl12 := lt_of_heap hb12
          simp only [jcells] at hcb
          have Ho := Lib.hid ho
          have Hk12 := Lib.hid hk12
          have Hb12 := Lib.hid hb12
          clear ho hk12 hb12
          go_wp2_with fail
          go_ret
          rw [Hst.out]
          refine ⟨rfl, ?_⟩
          have h13 : To (JS jb vb ⟨qg, qf, P, K⟩ false (.slice (some ⟨g, 0, none⟩) G.length gc) pv (G.drop k) (.slice vo (G.length - k) vc) pv (G.drop k) pend) F11 w9 w12 :=
            To.trans (H11.out.dropped _) fun F' h => h.setGrp fun F'' hF => ⟨_, ⟨by rw [List.length_drop]; exact ownsRow_base0 Ho.out, rfl⟩, Hk12.out.mono (by simp), fun x hx => .inr (by
              rcases Ho.out.2 with ⟨hv, _⟩ | ⟨g', cap, cur, hv, hb, _⟩
              · rw [hv] at hx; simp [Value.ownBlock] at hx
              · rw [hv] at hx; simp [Value.ownBlock] at hx; omega)⟩
          have htz := h13.trans fun F' h => h.setBox (q := ⟨qg, qf, P, K⟩) (cr := false) (hv := .slice vo (G.length - k) vc) (qv := pv) 5 _ rfl
          have hj := (htz.before Hk11.out Hs11.out).imp (B := JH jb vb ⟨⟨qg, qf, P, K⟩, (G.map (·.2)).drop k, pend, false⟩) (fun w F h => ⟨_, _, _, by simp, h⟩)
          exact (((hj.sepR (volH_stab _ _ _) H9.out H910.out).before Hk8.out Hs8.out).from (Hk7.out.mono (by simp)))
      · have hb1 : (e2 != 0) = true := by rw [bne_iff_ne]; exact he2
        have Hst : Hid (jDrop v ⟨⟨pg, pf, pp, pk⟩, G.map (·.2), pend, false⟩ n = ⟨e2, v2, ⟨⟨pg, pf, pp, pk⟩, G.map (·.2), pend, e2 == 20⟩⟩) := by show _ = _; rw [Hjd2.out, if_pos he2]
        clear he2 hcb hfb hbx
        go_wp2_with fail
        refine (failed_m jb vb ⟨⟨pg, pf, pp, pk⟩, G.map (·.2), pend, false⟩ e2 w8 F10 ⟨_, _, G, rfl, H10.out⟩).mono ?_
        rintro e w9 ⟨rfl, ht9⟩
        dsimp only
        have HT9 := Lib.hid ht9
        clear ht9
        go_wp2_with fail
        go_ret
        rw [Hst.out]
        exact ⟨rfl, (((HT9.out.sepR (volH_stab _ _ _) H9.out H910.out).before Hk8.out Hs8.out).from (Hk7.out.mono (by simp)))⟩
theorem drop_m (jb vb mb : Nat) (v : Vol) (J : Jn) (n : Int) (hJ : JFit J) (hgs : GSmall J.groups) (hk : usedN J.groups ≤ J.pg.k) (hl : v.pend.length ≤ 2000) :
    Met Try.prog 31 #[.pointer (some ⟨jb, 0, none⟩), .int .i64 n] (.int .i64 (jDrop v J n).e) (Sep (VolH vb mb v) (JH jb vb J)) (Sep (VolH vb mb (jDrop v J n).v) (JH jb vb (jDrop v J n).j)) := by
  by_cases hno : J.broken = true ∨ (J.pg.f : Int) + J.groups.length - 1 < n ∨ n < J.pg.f
  · rintro w F ⟨Fv, Fj, hV, hS, hdis, rfl⟩
    have hsame : (jDrop v J n).v = v ∧ (jDrop v J n).j = J := by
      unfold jDrop
      by_cases hb : J.broken = true
      · rw [if_pos hb]; exact ⟨rfl, rfl⟩
      · rw [if_neg hb]
        by_cases h1 : (J.pg.f : Int) + J.groups.length - 1 < n
        · rw [if_pos h1]; exact ⟨rfl, rfl⟩
        · rw [if_neg h1]
          by_cases h2 : n < J.pg.f
          · rw [if_pos h2]; exact ⟨rfl, rfl⟩
          · rcases hno with h | h | h
            · exact absurd h hb
            · exact absurd h h1
            · exact absurd h h2
    rw [hsame.1, hsame.2]
    refine (drop_small jb vb mb v J n hJ hno w Fj hS).mono ?_
    rintro e w' ⟨rfl, hk'⟩
    exact ⟨rfl, To.of_keep ((volH_stab _ _ _).sep (jh_stab _ _ _)) ⟨Fv, Fj, hV, hS, hdis, rfl⟩ hk'⟩
  · have hb : J.broken = false := by
      cases h : J.broken with
      | false => rfl
      | true => exact absurd (.inl h) hno
    exact drop_ok jb vb mb v J n (n - J.pg.f + 1).toNat hJ hgs hb (by omega) (by omega) (by omega) hk hl
end Go.Proofs.Ytgmggmpkbfljfaa
