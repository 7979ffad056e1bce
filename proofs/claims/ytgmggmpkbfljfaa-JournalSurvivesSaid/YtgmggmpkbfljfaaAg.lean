/- The model of a journal: sameRecords, agrees. -/
import Derived.Test.YtgmggmpkbfljfaaBd
import Derived.Test.YtgmggmpkbfljfaaDra
import Derived.Test.YtgmggmpkbfljfaaQa
set_option linter.unusedVariables false
set_option linter.unusedSimpArgs false
set_option maxRecDepth 100000
namespace Go.Proofs.Ytgmggmpkbfljfaa
open Go.RowKit
set_option maxHeartbeats 2000000 in
theorem same_t (w : World) (av bv : Value) (l : List ByteArray) (ha : RowR w av (scells l)) (hb : RowR w bv (scells l)) (hl : l.length ≤ 256) :
    Calls Try.prog 50 #[av, bv] w fun e w' => e = .returned (.bool true) ∧ Keep [] w w' := by
  obtain ⟨ao, ac, rfl⟩ := ha.form
  obtain ⟨bo, bc, rfl⟩ := hb.form
  have HA := Lib.hid ha.cells
  have HB := Lib.hid hb.cells
  clear ha hb
  rw [scells_length] at *
  have hne : ((l.length : Int) != (l.length : Int)) = false := by simp
  go_enter Try.func50, Try.ntmps50
  go_wp2_with fail
  go_loopw [5] (fun i wr => ∃ k : Nat, k ≤ l.length ∧ i = .int .i64 k ∧ Keep [] w wr) (fun i _ => l.length - (intOf i).toNat)
  case atStart => exact ⟨0, by omega, rfl, Keep.refl _ _⟩
  case round =>
    obtain ⟨k, hk, rfl, hkr⟩ := hrel
    have Hkr := Lib.hid hkr
    by_cases hlt : k < l.length
    · obtain ⟨g, o, rfl, hga⟩ := HA.out (by omega)
      obtain ⟨g', o', rfl, hgb⟩ := HB.out (by omega)
      have hc1 := hga wr hkr k hlt
      have hc2 := hgb wr hkr k hlt
      have hse : ((l[k]).toList == (l[k]).toList) = true := by simp
      generalize l[k] = s at *
      clear hga hgb hkr
      go_wp2_with fail
      go_big_quiet (fail)
      go_wp2_with fail
      go_roundw
      case rel => exact ⟨k + 1, by omega, by go_num, Hkr.out.trans0 (Keep.drewN _ _ _)⟩
      case measure => simp [intOf]; omega
    · obtain rfl : k = l.length := by omega
      clear hkr
      go_wp2_with fail
      go_ret
      exact ⟨rfl, Hkr.out⟩
/-- The two say the same. -/
structure Same (J : Jn) (B : Bk) : Prop where
  f : J.pg.f = B.first
  g : J.groups = B.groups
  p : J.pend = B.pend
  b : J.broken = false
  k : J.pg.k = usedN B.groups
theorem wp_enter {P : Program} {o : Oper} {a : Act} {w : World} {K : Act → World → Prop} {Q : Exit → Act → World → Prop} (f : FuncId) (args : Array Value) (h : (execOp a.eval o).run P w = .ok (.enter f args) w)
    (hc : Calls P f args w fun e w'' => ∃ v, e = .returned v ∧ K (a.put o.dst v) w'') : o.wp P a w K Q := by
  unfold Oper.wp
  rw [h, Oper.upon_enter]
  refine hc.mono ?_
  rintro e w ⟨v, rfl, hk⟩
  exact hk
set_option maxHeartbeats 8000000 in
theorem agrees_t (w : World) (vb mb jb bk : Nat) (v : Vol) (J : Jn) (B : Bk) (Fv Fj Fb : List Nat) (hV : VolH vb mb v w Fv) (hJ : JH jb vb J w Fj) (hBH : BH bk B w Fb) (hs : Same J B) (hB : BFit B) (hR : v.sectors = B.ring + 2) (hR2 : B.ring ≤ 900) :
    Calls Try.prog 24 #[.pointer (some ⟨bk, 0, none⟩), .pointer (some ⟨jb, 0, none⟩)] w fun e w' => e = .returned (.bool true) ∧ Keep [] w w' := by
  have HJ0 := Lib.hid hJ
  obtain ⟨gv, pv, G, hG, hS⟩ := hJ
  obtain ⟨bgv, bpv, BG, hBG, hBS⟩ := hBH
  obtain ⟨pw, hva, _⟩ := hV
  obtain ⟨⟨pg, pf, pp, pk⟩, groups, pend, broken⟩ := J
  obtain ⟨r, g, f, p, bgroups, bpend⟩ := B
  obtain ⟨fr, fg, ff, fp, fn, fl, fs, fgs, fu⟩ := hB
  obtain ⟨s1, s2, s3, s4, s5⟩ := hs
  dsimp only at *
  subst s1 s2 s3 s4 s5 hG
  have hBl : BG.length = G.length := by have := congrArg List.length hBG; simpa using this
  obtain ⟨hr1, hr2, hr3⟩ := hBS.rows
  obtain ⟨bgo, bgc, hbg⟩ := hr1.form
  rw [List.length_map, hBl] at hbg
  subst hbg
  obtain ⟨bpo, bpc, hbp⟩ := hr3.form
  rw [scells_length] at hbp
  subst hbp
  rw [List.length_map] at fn
  have hsm : ∀ l ∈ G.map (·.2), l.length ≤ 256 := fun l hl => (fgs l hl).1
  have hBsm : GSmall (BG.map (·.2)) := by rw [hBG]; exact fgs
  have huse : usedN (BG.map (·.2)) = usedN (G.map (·.2)) := by rw [hBG]
  -- what is called
  obtain ⟨go, gc, rfl⟩ := own_form hS.grp
  have HFi : Hid (∀ n : KW w, Calls Try.prog 32 #[.pointer (some ⟨jb, 0, none⟩)] (Wk w n) fun e w' => e = .returned (.int .i64 pf) ∧ ∃ m, w' = Wk w m) := fun n =>
    (first_c (Wk w n) jb vb _ _ pv false (n.k.heap hS.box (by simp))).mono fun e w' h => ⟨h.1, n, h.2⟩
  have HLa : Hid (∀ n : KW w, Calls Try.prog 34 #[.pointer (some ⟨jb, 0, none⟩)] (Wk w n) fun e w' => e = .returned (.int .i64 ((pf : Int) + (G.length : Int) - 1)) ∧ ∃ m, w' = Wk w m) := fun n =>
    (last_c (Wk w n) jb vb _ _ G.length gc pv false (n.k.heap hS.box (by simp)) (by dsimp only; omega) (by omega)).mono fun e w' h => ⟨h.1, ⟨w', n.k.trans0 h.2⟩, rfl⟩
  have HFr : Hid (∀ n : KW w, Calls Try.prog 21 #[.pointer (some ⟨jb, 0, none⟩)] (Wk w n) fun e w' => e = .returned (.int .i64 ((r : Int) - (usedN (G.map (·.2)) : Nat))) ∧ ∃ m, w' = Wk w m) := fun n =>
    (free_c (Wk w n) jb vb mb _ _ pv pw false v r (n.k.heap hS.box (by simp)) (hva.keep n.k (by simp) (by simp) (by simp)) hR (by omega) (by dsimp only; omega)).mono fun e w' h => ⟨h.1, ⟨w', n.k.trans0 h.2⟩, rfl⟩
  have HUs : Hid (∀ n : KW w, Calls Try.prog 49 #[.pointer (some ⟨bk, 0, none⟩)] (Wk w n) fun e w' => e = .returned (.int .i64 (usedN (G.map (·.2)))) ∧ ∃ m, w' = Wk w m) := fun n => by
    have := used_c (Wk w n) bk r g pf p _ _ BG (n.k.heap hBS.box (by simp)) (hr1.keep0 n.k) (fun x hx => (hr2 x hx).keep0 n.k) hBsm (by omega) (by omega)
    rw [huse] at this
    exact this.mono fun e w' h => ⟨h.1, n, h.2⟩
  have HPe : Hid (∀ w', Keep [] w w' → Calls Try.prog 14 #[.pointer (some ⟨jb, 0, none⟩)] w' fun e w'' => ∃ v', e = .returned v' ∧ w''.ownsRow w'.heap.size 9 1 v' pend.length (scells pend) ∧ Keep [] w' w'') := fun w' hk =>
    pending_c w' jb vb _ _ _ pv pend (hk.heap hS.box (by simp)) (RowR.of_own (own_keep' hS.pnd hk (by simp))) (by omega)
  have HGr : Hid (∀ w', Keep [] w w' → ∀ i, i < G.length → ∀ x, G[i]? = some x → Calls Try.prog 30 #[.pointer (some ⟨jb, 0, none⟩), .int .i64 ((pf : Int) + (i : Int))] w' fun e w'' => ∃ vo vc, e = .returned (.tuple #[.slice vo x.2.length vc, .int .i64 0]) ∧ RowR w'' (.slice vo x.2.length vc) (scells x.2) ∧ Keep [] w' w'') := fun w' hk i hi x hx => by
    have hx' : G[i] = x := by rw [List.getElem?_eq_getElem hi] at hx; injection hx
    have := group_ok w' Fj jb vb _ ((jh_stab jb vb _).keep HJ0.out hk (by simp)) rfl (by dsimp only; omega) (by dsimp only; rw [List.length_map]; omega) i (by dsimp only; rw [List.length_map]; omega) (by dsimp only; rw [List.getElem_map]; exact hsm _ (List.mem_map.2 ⟨_, List.getElem_mem _, rfl⟩))
    dsimp only at this
    rw [List.getElem_map, hx'] at this
    exact this
  have HGn : Hid (∀ w', Keep [] w w' → ∀ n : Int, (n < pf ∨ (pf : Int) + G.length - 1 < n) → Calls Try.prog 30 #[.pointer (some ⟨jb, 0, none⟩), .int .i64 n] w' fun e w'' => e = .returned (.tuple #[.slice none 0 0, .int .i64 9]) ∧ Keep [] w' w'') := fun w' hk n hn => by
    refine group_no w' Fj jb vb _ ((jh_stab jb vb _).keep HJ0.out hk (by simp)) rfl (by dsimp only; omega) (by dsimp only; rw [List.length_map]; omega) n ?_
    dsimp only
    rw [List.length_map]
    exact hn
  have HBx : Hid (∀ w', Keep [] w w' → ∀ i, w'.cell? ⟨bk, i, none⟩ = (bcells r g pf p (.slice bgo G.length bgc) (.slice bpo pend.length bpc))[i]?) := fun w' hk => cell_of (hk.heap hBS.box (by simp))
  have HBp : Hid (∀ w', Keep [] w w' → RowR w' (.slice bpo pend.length bpc) (scells pend)) := fun w' hk => hr3.keep0 hk
  have HBe : Hid (∀ i, i < G.length → ∃ a o x y, bgo = some ⟨a, o, none⟩ ∧ G[i]? = some x ∧ BG[i]? = some y ∧ y.2 = x.2 ∧ x.2.length ≤ 256 ∧ ∀ w', Keep [] w w' → w'.cell? ⟨a, o + i, none⟩ = some y.1 ∧ RowR w' y.1 (scells x.2)) := by
    intro i hi
    have hi' : i < BG.length := by omega
    obtain ⟨a, o, c, he, hel⟩ := hr1.elem (by rw [List.length_map]; omega)
    injection he with he
    have hy2 : (BG[i]).2 = (G[i]).2 := by
      have := congrArg (fun L => L[i]?) hBG
      simp only [List.getElem?_map, List.getElem?_eq_getElem hi, List.getElem?_eq_getElem hi', Option.map_some] at this
      injection this
    have hal : a < w.heap.size := hr1.lt a (by rw [he]; simp [rowF])
    refine ⟨a, o, G[i], BG[i], he, List.getElem?_eq_getElem hi, List.getElem?_eq_getElem hi', hy2, hsm _ (List.mem_map.2 ⟨_, List.getElem_mem _, rfl⟩), fun w' hk => ⟨?_, ?_⟩⟩
    · rw [cell_same (w := w) (hk.block a hal (by simp))]
      exact hel i _ (by rw [List.getElem?_map, List.getElem?_eq_getElem hi']; rfl)
    · rw [← hy2]; exact (hr2 _ (List.getElem_mem hi')).keep0 hk
  have hc : ∀ n : KW w, ∀ i, (Wk w n).cell? ⟨bk, i, none⟩ = (bcells r g pf p (.slice bgo G.length bgc) (.slice bpo pend.length bpc))[i]? := fun n => HBx.out _ n.k
  have hx0 := fun n => hc n 0
  have hx2 := fun n => hc n 2
  have hx4 := fun n => hc n 4
  simp only [bcells, List.getElem?_toArray, List.getElem?_cons_zero, List.getElem?_cons_succ] at hx0 hx2 hx4
  clear hr1 hr2 hr3 hBS hS hva hc hsm hBsm fgs fs
  generalize hgl : G.length = gl at *
  generalize usedN (G.map (·.2)) = us at *
  go_enter Try.func24, Try.ntmps24
  go_wp2_with fail
  refine wp_region_keep (by kernel_rfl) (by kernel_rfl) ?_
  repeat (first
    | go_big_quiet_skip
    | (go_big_quiet_want; go_big_quiet_op; go_big_quiet_on))
  refine wpQuiet_nil ?_
  rintro w1 ⟨⟨_, hk1⟩, rfl⟩
  have Hk1 := Lib.hid hk1
  clear hk1 hx0 hx2 hx4
  have hx0 : ∀ n : KW w, (Wk w n).cell? ⟨bk, 0, none⟩ = some (.int .i64 r) := fun n => HBx.out _ n.k 0
  have hx2 : ∀ n : KW w, (Wk w n).cell? ⟨bk, 2, none⟩ = some (.int .i64 pf) := fun n => HBx.out _ n.k 2
  have hx4 : ∀ n : KW w, (Wk w n).cell? ⟨bk, 4, none⟩ = some (.slice bgo gl bgc) := fun n => HBx.out _ n.k 4
  go_wp2_with fail
  try simp only [List.append]
  refine wp_region_quiet_then (C := fun w' => ∃ n, w' = Wk w n) (S := fun W => W.cell? ⟨bk, 5, none⟩ = some (.slice bpo pend.length bpc)) 30 36 (by kernel_rfl) (by kernel_rfl) (fun _ _ d _ _ h => by cases d <;> exact h) ⟨⟨_, Hk1.out.trans0 (Keep.drew _ _)⟩, rfl⟩ ?_
  simp only [List.take_succ_cons, List.take_zero, List.drop_succ_cons, List.drop_zero]
  repeat (first
    | go_big_quiet_skip
    | (go_big_quiet_want; go_big_quiet_op; first | go_big_quiet_on | go_big_quiet_call (first
      | (go_at_call 32; exact HFi.out _)
      | (go_at_call 34; exact HLa.out _)
      | (go_at_call 21; exact HFr.out _)
      | (go_at_call 49; exact HUs.out _))))
  refine wpQuiet_nil ?_
  rintro w2 ⟨⟨_, hk2⟩, rfl⟩
  have Hk2 := Lib.hid hk2
  have hS0 : w2.cell? ⟨bk, 5, none⟩ = some (.slice bpo pend.length bpc) := HBx.out _ hk2 5
  show heldT _ _ _ _ _ _ _ 6 _ _ _
  refine' heldT_valg (v := _) 30 (by rfl) (by decide) (by kernel_rfl) (by kernel_rfl) (by rfl) hS0 (fun w hw => ?hrun30) (fun K hK => ?hnext30)
  case hrun30 => (go_simp; try rfl)
  rotate_left 0
  go_simp
  refine hK _ ?_
  clear hK K
  refine' heldT_valg (v := _) 32 (by rfl) (by decide) (by kernel_rfl) (by kernel_rfl) (by rfl) hS0 (fun w hw => ?hrun32) (fun K hK => ?hnext32)
  case hrun32 => (go_simp; try rfl)
  rotate_left 0
  go_simp
  refine hK _ ?_
  clear hK K
  refine' heldT_valg (v := _) 33 (by rfl) (by decide) (by kernel_rfl) (by kernel_rfl) (by rfl) hS0 (fun w hw => ?hrun33) (fun K hK => ?hnext33)
  case hrun33 => (go_simp; try rfl)
  rotate_left 0
  go_simp
  refine hK _ ?_
  clear hK K
  refine' heldT_valg (v := _) 34 (by rfl) (by decide) (by kernel_rfl) (by kernel_rfl) (by rfl) hS0 (fun w hw => ?hrun34) (fun K hK => ?hnext34)
  case hrun34 => (go_simp; try rfl)
  rotate_left 0
  go_simp
  refine hK _ ?_
  clear hK K
  refine' heldT_valg (v := _) 35 (by rfl) (by decide) (by kernel_rfl) (by kernel_rfl) (by rfl) hS0 (fun w hw => ?hrun35) (fun K hK => ?hnext35)
  case hrun35 => (go_simp; try rfl)
  rotate_left 0
  go_simp
  refine hK _ ?_
  clear hK K
  refine heldT_oneg 31 (by kernel_rfl) (by decide) (by rfl) (by rfl) (fun K hK => ?_)
  refine wp_enter 14 #[.pointer (some ⟨jb, 0, none⟩)] (by go_simp) ?_
  refine (HPe.out w2 Hk2.out).mono ?_
  rintro e w3 ⟨v3, rfl, ho, hk3⟩
  obtain ⟨po3, pc3, rfl⟩ := own_form (ownsRow_base0 ho)
  refine ⟨_, rfl, ?_⟩
  have Hk3 := Lib.hid (Hk2.out.trans0 hk3)
  refine hK _ _ (HBx.out _ Hk3.out 5) ?_
  clear hK K
  refine ⟨by kernel_rfl, ?_⟩
  have HSr := Lib.hid (same_t w3 _ _ pend (RowR.of_own (ownsRow_base0 ho)) (HBp.out _ Hk3.out) fl)
  clear ho hk3 hS0 hk2 hx0 hx2 hx4 HPe HFr HUs HLa HFi
  go_wp2_with fail
  refine HSr.out.mono ?_
  rintro e w4 ⟨rfl, hk4⟩
  dsimp only
  have Hk4 := Lib.hid (Hk3.out.trans0 hk4)
  clear hk4 HSr
  go_wp2_with fail
  go_loopw [6] (fun i wr => ∃ k : Nat, k ≤ gl ∧ i = .int .i64 k ∧ Keep [] w wr) (fun i _ => gl - (intOf i).toNat)
  case atStart => exact ⟨0, by omega, rfl, Hk4.out⟩
  case round =>
    obtain ⟨k, hk, rfl, hkr⟩ := hrel
    have Hkr := Lib.hid hkr
    clear hkr
    have hc := HBx.out wr Hkr.out
    simp only [bcells] at hc
    by_cases hlt : k < gl
    · obtain ⟨a, o, x, y, rfl, hx, hy, hyx, hxl, hcell⟩ := HBe.out k hlt
      have HGk := Lib.hid (HGr.out wr Hkr.out k hlt x hx)
      have Hce := Lib.hid hcell
      clear hcell hx hy
      go_wp2_with fail
      refine HGk.out.mono ?_
      rintro e w5 ⟨vo, vc, rfl, hrow, hk5⟩
      dsimp only
      have Hk5 := Lib.hid (Hkr.out.trans0 hk5)
      have hc := HBx.out w5 Hk5.out
      simp only [bcells] at hc
      obtain ⟨hy1, hy2⟩ := Hce.out w5 Hk5.out
      have HSr := Lib.hid (same_t w5 _ _ x.2 hrow hy2 hxl)
      obtain ⟨so, sc, hform⟩ := hy2.form
      rw [hform] at hy1 HSr
      clear hrow hk5 hy2 hform
      go_wp2_with fail
      refine HSr.out.mono ?_
      rintro e w6 ⟨rfl, hk6⟩
      dsimp only
      have Hk6 := Lib.hid (Hk5.out.trans0 hk6)
      clear hk6 HSr hy1 hc
      go_wp2_with fail
      go_roundw
      case rel => exact ⟨k + 1, by omega, by go_num, Hk6.out⟩
      case measure => simp [intOf]; omega
    · obtain rfl : k = gl := by omega
      have HG1 := Lib.hid (HGn.out wr Hkr.out ((pf : Int) - 1) (.inl (by omega)))
      go_wp2_with fail
      refine HG1.out.mono ?_
      rintro e w5 ⟨rfl, hk5⟩
      dsimp only
      have Hk5 := Lib.hid (Hkr.out.trans0 hk5)
      have HG2 := Lib.hid (HGn.out w5 Hk5.out ((pf : Int) + (k : Int)) (.inr (by omega)))
      clear hk5 hc
      go_wp2_with fail
      refine HG2.out.mono ?_
      rintro e w6 ⟨rfl, hk6⟩
      dsimp only
      have Hk6 := Lib.hid (Hk5.out.trans0 hk6)
      clear hk6
      go_wp2_with fail
      go_ret
      exact ⟨rfl, Hk6.out⟩
end Go.Proofs.Ytgmggmpkbfljfaa
