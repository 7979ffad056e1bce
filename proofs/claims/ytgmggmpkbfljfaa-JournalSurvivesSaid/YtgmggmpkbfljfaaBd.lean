/- The model of a journal: drop. -/
import Derived.Test.YtgmggmpkbfljfaaBa
import Derived.Deep.LoopGhost
set_option linter.unusedVariables false
set_option linter.unusedSimpArgs false
set_option maxRecDepth 100000
namespace Go.Proofs.Ytgmggmpkbfljfaa
open Go.RowKit
def bDropN (B : Bk) (c : Nat) : Bk := { B with gen := B.gen + 1, first := B.first + c, place := B.place + usedN (B.groups.take c), groups := B.groups.drop c }
def bDrop (B : Bk) (n : Int) : Int × Bk :=
  if (B.first : Int) + B.groups.length - 1 < n then (2, B) else if n < B.first then (0, B) else (0, bDropN B (n - B.first + 1).toNat)
/-- The first of the groups is let go. -/
theorem RowR.tail {w : World} {go : Option Addr} {x : Value} {xs : List Value} {n c : Nat} (h : RowR w (.slice go n c) (x :: xs)) (hc : n ≤ c) :
    RowR w (sliced go 1 n c 1) xs ∧ CapR (sliced go 1 n c 1) ∧ rowF (sliced go 1 n c 1) = rowF (.slice go n c) := by
  rcases h with ⟨_, h⟩ | ⟨g, o, c', he, hg, hc'⟩
  · cases h
  · have e1 : go = some ⟨g, o, none⟩ := by injection he
    have e2 : n = xs.length + 1 := by injection he
    subst e1
    subst e2
    unfold sliced
    by_cases h1 : c = 1
    · subst h1
      have : xs = [] := List.eq_nil_of_length_eq_zero (by omega)
      subst this
      rw [if_pos rfl]
      exact ⟨.inr ⟨g, o, 0, rfl, hg, by simp⟩, fun a n c e => by injection e with _ e2 e3; omega, rfl⟩
    · rw [if_neg h1]
      refine ⟨.inr ⟨g, o + 1, c - 1, rfl, hg, fun i v hi => ?_⟩, fun a n c' e => by injection e with _ e2 e3; omega, rfl⟩
      have := hc' (i + 1) v (by simpa using hi)
      rwa [show o + 1 + i = o + (i + 1) by omega]
theorem usedN_pos_le (L : List (List ByteArray)) (k : Nat) (h : k < L.length) : secsN L[k] ≤ usedN L := by
  have h1 := usedN_take L k h
  have h2 := usedN_take_le L (k + 1)
  omega
set_option maxHeartbeats 4000000 in
theorem bdrop_ok (bk : Nat) (B : Bk) (n : Int) (c : Nat) (hB : BFit B) (hc1 : 1 ≤ c) (hc2 : c ≤ B.groups.length) (hn : n = (B.first : Int) + c - 1) :
    MetB bk Try.prog 59 #[.pointer (some ⟨bk, 0, none⟩), .int .i64 n] (.int .i64 0) (BH bk B) (BH bk (bDropN B c)) := by
  rintro w F ⟨gv, pv, G, hG, hS⟩
  obtain ⟨r, g, f, p, groups, pend⟩ := B
  obtain ⟨fr, fg, ff, fp, fn, fl, fs, fgs, fu⟩ := hB
  unfold bDropN
  dsimp only at fr fg ff fp fn fl fs fgs fu hG hS hc2 hn ⊢
  subst hG
  rw [List.length_map] at fn hc2
  obtain ⟨go, gc, hgv⟩ := hS.rows.1.form
  rw [List.length_map] at hgv
  subst hgv
  have hcb := cell_of hS.box
  have hfb := frozen_of hS.box
  have hlt := lt_of_heap hS.box
  simp only [bcells] at hcb
  have hle1 : n ≤ (f : Int) + (G.length : Int) - 1 := by omega
  have hle2 : (f : Int) ≤ n := by omega
  have HS := Lib.hid hS
  have Hgs := Lib.hid fgs
  have Hn := Lib.hid hn
  clear hS fgs fs hn
  go_enter Try.func59, Try.ntmps59
  go_wp2_with fail
  go_big_quiet (fail)
  go_wp2_with fail
  clear hcb hfb hlt
  go_loopg [] c (fun m wr => ∃ k : Nat, k ≤ c ∧ m = c - k ∧ ∃ gv', ToB bk (BS bk r g (f + k) (p + usedN ((G.map (·.2)).take k)) gv' pv (G.drop k) pend) F w wr)
  case atStart => exact ⟨0, by omega, by omega, .slice go G.length gc, by
    show ToB bk (BS bk r g f p _ pv G pend) F w _
    exact ToB.of_keep (bs_stab bk r g f p _ pv G pend) HS.out (Keep.drewN [] w _)⟩
  case round =>
    obtain ⟨k, hk, hm, gv', ht⟩ := hrel
    obtain ⟨F1, h1, hk1, hs1⟩ := ht
    have hcb := cell_of h1.box
    have hfb := frozen_of h1.box
    have hlt := lt_of_heap h1.box
    simp only [bcells] at hcb
    have H1 := Lib.hid h1
    have Hk1 := Lib.hid hk1
    have Hs1 := Lib.hid hs1
    clear hk1 hs1
    by_cases hkc : k < c
    · have hkg : k < G.length := by omega
      have hdr : G.drop k = G[k] :: G.drop (k + 1) := List.drop_eq_getElem_cons hkg
      have hr1 := h1.rows.1
      obtain ⟨go', gc', rfl⟩ := hr1.form
      have hdl : ((G.drop k).map (·.1)).length = G.length - k := by rw [List.length_map, List.length_drop]
      rw [hdl] at hr1 hcb H1
      have hcap : G.length - k ≤ gc' := H1.out.cap _ _ _ rfl
      have hTl := hr1
      rw [hdr, List.map_cons] at hTl
      obtain ⟨a, o, c', he, hel⟩ := hr1.elem (by rw [hdl]; omega)
      have e1 : go' = some ⟨a, o, none⟩ := by injection he
      subst e1
      have hel0 := hel 0 (G[k]).1 (by rw [hdr]; rfl)
      have hrow := H1.out.rows.2.1 G[k] (by rw [hdr]; exact List.mem_cons_self ..)
      obtain ⟨so, sc, hform⟩ := hrow.form
      have hsm := Hgs.out (G[k]).2 (List.mem_map.2 ⟨G[k], List.getElem_mem _, rfl⟩)
      have hkm : k < (G.map (·.2)).length := by rw [List.length_map]; exact hkg
      have hus := usedN_take (G.map (·.2)) k hkm
      have hule2 := usedN_take_le (G.map (·.2)) (k + 1)
      rw [List.getElem_map] at hus
      have HSe : Hid (∀ n : KW wr, Calls Try.prog 48 #[(G[k]).1] (Wk wr n) fun e w' => e = .returned (.int .i64 (secsN (G[k]).2)) ∧ ∃ m, w' = Wk wr m) := fun n =>
        (sectors_c (Wk wr n) (G[k]).1 (G[k]).2 (hrow.keep0 n.k) hsm.1 hsm.2).mono fun e w' h => ⟨h.1, n, h.2⟩
      have Hus := Lib.hid hus
      have hga : a < wr.heap.size := hr1.lt a (by simp [rowF])
      rw [Nat.add_zero] at hel0
      have hx0 : ∀ n : KW wr, (Wk wr n).cell? ⟨a, o, none⟩ = some (G[k]).1 := fun n => by
        rw [cell_same (w := wr) (n.k.block a hga (by simp))]; exact hel0
      have hbx : ∀ n : KW wr, ∀ i, (Wk wr n).cell? ⟨bk, i, none⟩ = (bcells r g (f + k) (p + usedN ((G.map (·.2)).take k)) (.slice (some ⟨a, o, none⟩) (G.length - k) gc') pv)[i]? := fun n => cell_of (n.k.heap H1.out.box (by simp))
      rw [hform] at hx0 HSe
      generalize usedN ((G.map (·.2)).take k) = u at *
      generalize secsN (G[k]).2 = q at *
      have hx3 := fun n => hbx n 3
      have hx4 := fun n => hbx n 4
      simp only [bcells, List.getElem?_toArray, List.getElem?_cons_zero, List.getElem?_cons_succ] at hx3 hx4
      have hle : ((f + k : Nat) : Int) ≤ n := by rw [Hn.out]; omega
      have hqb : u + q ≤ 1000000 := by omega
      have HT := Lib.hid hTl
      clear hbx hdl hrow hform hsm hus hr1 hel hel0 he hTl hule2 h1 hkm
      go_wp2_with fail
      refine wp_region_keep_tail 13 (by kernel_rfl) (by kernel_rfl) ?_
      simp only [List.take_succ_cons, List.take_zero, List.drop_succ_cons, List.drop_zero]
      repeat (first
        | go_big_quiet_skip
        | (go_big_quiet_want; go_big_quiet_op; first | go_big_quiet_on | go_big_quiet_call (first
          | (go_at_call 48; exact HSe.out _))))
      refine wpQuiet_nil ?_
      rintro w2 ⟨⟨_, hk2⟩, rfl⟩
      have H2 := Lib.hid ((bs_stab _ _ _ _ _ _ _ _ _).keep H1.out hk2 (by simp))
      have hcb := cell_of H2.out.box
      have hfb := frozen_of H2.out.box
      have hlt := lt_of_heap H2.out.box
      simp only [bcells] at hcb
      have Hk2 := Lib.hid hk2
      clear hk2 hx0 hx3 hx4 HSe
      go_wp2_with fail
      have hh1 : (1 : Int) ≤ ((G.length - k : Nat) : Int) := by omega
      have Hh := Lib.hid hdr
      have hnum : ((p : Int) + (u : Int) + (q : Int)) = ((p + (u + q) : Nat) : Int) := by omega
      have hnum2 : ((f : Int) + (k : Int) + 1) = ((f + (k + 1) : Nat) : Int) := by omega
      have Hn1 := Lib.hid hnum
      have Hn2 := Lib.hid hnum2
      have hstep : ∀ gv' w3, sliced (some ⟨a, o, none⟩) 1 (G.length - k) gc' 1 = gv' → Keep [bk] w2 w3 → w3.heap[bk]? = some (.cells (bcells r g (f + (k + 1)) (p + (u + q)) gv' pv) 43 (0, 0)) →
          ToB bk (BS bk r g (f + (k + 1)) (p + usedN ((G.map (·.2)).take (k + 1))) gv' pv (G.drop (k + 1)) pend) F w w3 := by
        intro gv' w3 e hk3 hb3
        subst e
        obtain ⟨t1, t2, t3⟩ := HT.out.tail hcap
        rw [Hus.out]
        refine (H1.out.put Hk2.out ⟨⟨t1.keep0 Hk2.out, t2⟩, fun x hx => (H1.out.rows.2.1 x (by rw [Hh.out]; exact List.mem_cons_of_mem _ hx)).keep0 Hk2.out, H1.out.rows.2.2.keep0 Hk2.out, rfl⟩ (fun x hx => ?_) hk3 hb3).before Hk1.out Hs1.out
        left
        rw [t3] at hx
        rcases List.mem_append.1 hx with h | h
        · exact List.mem_append_left _ h
        · refine List.mem_append_right _ ?_
          rcases List.mem_append.1 h with h | h
          · refine List.mem_append_left _ ?_
            obtain ⟨y, hy, h⟩ := List.mem_flatMap.1 h
            exact List.mem_flatMap.2 ⟨y, by rw [Hh.out]; exact List.mem_cons_of_mem _ hy, h⟩
          · exact List.mem_append_right _ h
      have Hst := Lib.hid hstep
      clear hstep hnum hnum2 hdr
      by_cases hgc : gc' = 1
      · subst hgc
        have hl1 : G.length - k = 1 := by omega
        go_region
        go_wp2_with fail
        rw [Hn1.out, Hn2.out]
        go_roundg (c - (k + 1))
        case measure => omega
        case rel =>
          refine ⟨k + 1, by omega, rfl, .slice (some ⟨a, o, none⟩) 0 0, Hst.out _ _ (by rw [hl1]; rfl) ((((Keep.setCell [bk] _ _ _ _ (by simp)).trans (Keep.setCell [bk] _ _ _ _ (by simp)) (fun x hx => .inl hx)).trans (Keep.setCell [bk] _ _ _ _ (by simp)) (fun x hx => .inl hx)).trans ((Keep.drew [] _).mono (by simp)) (fun x hx => .inl hx)) ?_⟩
          exact set_same (set_same (set_same H2.out.box 3 _) 4 _) 2 _
      · go_region
        go_wp2_with fail
        rw [Hn1.out, Hn2.out]
        go_roundg (c - (k + 1))
        case measure => omega
        case rel =>
          refine ⟨k + 1, by omega, rfl, .slice (some ⟨a, o + 1, none⟩) (G.length - k - 1) (gc' - 1), Hst.out _ _ (by unfold sliced; rw [if_neg hgc]; rfl) ((((Keep.setCell [bk] _ _ _ _ (by simp)).trans (Keep.setCell [bk] _ _ _ _ (by simp)) (fun x hx => .inl hx)).trans (Keep.setCell [bk] _ _ _ _ (by simp)) (fun x hx => .inl hx)).trans ((Keep.drew [] _).mono (by simp)) (fun x hx => .inl hx)) ?_⟩
          exact set_same (set_same (set_same H2.out.box 3 _) 4 _) 2 _
    · obtain rfl : k = c := by omega
      clear h1
      have hnle : ¬ ((f + k : Nat) : Int) ≤ n := by rw [Hn.out]; omega
      go_wp2_with fail
      have hq2 : ((g : Int) + 1) = ((g + 1 : Nat) : Int) := by omega
      rw [hq2]
      go_ret
      refine ⟨rfl, ((H1.out.put (Keep.refl [] _) (r' := r) (g' := g + 1) (f' := f + k) (p' := p + usedN ((G.map (·.2)).take k)) (gv' := gv') (pv' := pv) (G' := G.drop k) (l' := pend) ⟨⟨H1.out.rows.1, H1.out.cap⟩, H1.out.rows.2.1, H1.out.rows.2.2, rfl⟩ (fun x hx => .inl hx) (Keep.setCell [bk] _ _ _ _ (by simp)) (set_same H1.out.box 1 _)).before Hk1.out Hs1.out).imp fun w F h => ⟨_, _, _, by simp, h⟩⟩
set_option maxHeartbeats 2000000 in
theorem bdrop_e (bk : Nat) (B : Bk) (n : Int) (hB : BFit B) (hno : (B.first : Int) + B.groups.length - 1 < n ∨ n < B.first) (w : World) (F : List Nat) (h : BH bk B w F) :
    Calls Try.prog 59 #[.pointer (some ⟨bk, 0, none⟩), .int .i64 n] w fun e w' => e = .returned (.int .i64 (bDrop B n).1) ∧ Keep [] w w' := by
  obtain ⟨gv, pv, G, hG, hS⟩ := h
  obtain ⟨r, g, f, p, groups, pend⟩ := B
  obtain ⟨fr, fg, ff, fp, fn, fl, fs, fgs, fu⟩ := hB
  unfold bDrop
  dsimp only at fr fg ff fp fn fl fs fgs fu hG hS hno ⊢
  subst hG
  rw [List.length_map] at fn hno
  rw [List.length_map]
  obtain ⟨go, gc, hgv⟩ := hS.rows.1.form
  rw [List.length_map] at hgv
  subst hgv
  have hcb := cell_of hS.box
  have hfb := frozen_of hS.box
  have hlt := lt_of_heap hS.box
  simp only [bcells] at hcb
  clear hS fgs fs
  by_cases h1 : (f : Int) + (G.length : Int) - 1 < n
  · rw [if_pos h1]
    clear hno
    go_enter Try.func59, Try.ntmps59
    go_wp2_with fail
    go_big_quiet (fail)
    go_wp2_with fail
    go_ret
    exact ⟨rfl, Keep.drewN [] _ _⟩
  · have h2 : n < f := hno.resolve_left h1
    rw [if_neg h1, if_pos h2]
    have h3 : n ≤ (f : Int) + (G.length : Int) - 1 := by omega
    clear hno h1
    go_enter Try.func59, Try.ntmps59
    go_wp2_with fail
    go_big_quiet (fail)
    go_wp2_with fail
    go_ret
    exact ⟨rfl, Keep.drewN [] _ _⟩
theorem bdrop_b (bk : Nat) (B : Bk) (n : Int) (hB : BFit B) :
    MetB bk Try.prog 59 #[.pointer (some ⟨bk, 0, none⟩), .int .i64 n] (.int .i64 (bDrop B n).1) (BH bk B) (BH bk (bDrop B n).2) := by
  by_cases hno : (B.first : Int) + B.groups.length - 1 < n ∨ n < B.first
  · have e : (bDrop B n).2 = B := by
      unfold bDrop
      split
      · rfl
      split
      · rfl
      · rename_i h1 h2; rcases hno with h | h
        · exact absurd h h1
        · exact absurd h h2
    rw [e]
    intro w F hF
    exact (bdrop_e bk B n hB hno w F hF).mono fun e w' hk => ⟨hk.1, ToB.of_keep (bh_stab _ _) hF hk.2⟩
  · have e : bDrop B n = (0, bDropN B (n - B.first + 1).toNat) := by
      unfold bDrop
      rw [if_neg (fun h => hno (.inl h)), if_neg (fun h => hno (.inr h))]
    rw [e]
    exact bdrop_ok bk B n (n - B.first + 1).toNat hB (by omega) (by omega) (by omega)
theorem bdrop_m (bk : Nat) (B : Bk) (n : Int) (hB : BFit B) :
    Met Try.prog 59 #[.pointer (some ⟨bk, 0, none⟩), .int .i64 n] (.int .i64 (bDrop B n).1) (BH bk B) (BH bk (bDrop B n).2) :=
  (bdrop_b bk B n hB).met bh_mem
end Go.Proofs.Ytgmggmpkbfljfaa
