/- image: true where the device has the page and the sectors. -/
import Derived.Test.YtgmggmpkbfljfaaBa
import Derived.Test.YtgmggmpkbfljfaaOp
set_option linter.unusedVariables false
set_option linter.unusedSimpArgs false
set_option maxRecDepth 100000
namespace Go.Proofs.Ytgmggmpkbfljfaa
open Go.RowKit
def numI (n : Nat) (k : Int) : ByteArray := numS n k.toNat
theorem numI8 (n : Nat) : numI n 8 = numS n 8 := by unfold numI; rw [show ((8 : Int).toNat) = 8 from rfl]
theorem numI4 (n : Nat) : numI n 4 = numS n 4 := by unfold numI; rw [show ((4 : Int).toNat) = 4 from rfl]
/-- The device has the page and the sectors of a book. -/
structure Image (v : Vol) (B : Bk) : Prop where
  down : v.down = false
  secs : v.sectors = B.ring + 2
  r0 : 0 < B.ring
  r9 : B.ring ≤ 900
  pend : v.pend.length ≤ 4096
  page : (vRead v ((B.gen : Int) % 2)).1 = pageS B.gen B.first B.place (usedN B.groups)
  data : ∀ i (h : i < B.groups.length), ∀ k, k < secsN B.groups[i] → rdAt v B.ring B.place (usedN (B.groups.take i) + k) = chunk (encS (B.first + i) B.groups[i]) k
theorem vRead_ok (v : Vol) (s : Int) (hd : v.down = false) (h0 : 0 ≤ s) (h1 : s < v.sectors) : (vRead v s).2 = 0 := by
  unfold vRead; rw [hd, if_neg (by decide), if_neg (by omega)]
set_option maxHeartbeats 8000000 in
theorem image_t (w : World) (F : List Nat) (bk vb mb : Nat) (B : Bk) (v : Vol) (hV : VolH vb mb v w F) (P : List Nat) (hBH : BH bk B w P) (hB : BFit B) (hI : Image v B) :
    Calls Try.prog 28 #[.pointer (some ⟨bk, 0, none⟩), .pointer (some ⟨vb, 0, none⟩)] w fun e w' => e = .returned (.bool true) ∧ Keep [] w w' := by
  obtain ⟨gv, pv, G, hG, hS⟩ := hBH
  obtain ⟨r, g, f, p, groups, pend⟩ := B
  obtain ⟨fr, fg, ff, fp, fn, fl, fs, fgs, fu⟩ := hB
  obtain ⟨idn, isec, ir0, ir9, ipn, ipg, idt⟩ := hI
  dsimp only at fr fg ff fp fn fl fs fgs fu hG hS isec ir0 ir9 ipg idt
  subst hG
  obtain ⟨hr1, hr2, hr3⟩ := hS.rows
  obtain ⟨go, gc, rfl⟩ := hr1.form
  rw [List.length_map] at hS hr1 fn
  have hbx := hS.box
  have HUse : Hid (∀ n : KW w, Calls Try.prog 49 #[.pointer (some ⟨bk, 0, none⟩)] (Wk w n) fun e w' => e = .returned (.int .i64 (usedN (G.map (·.2)))) ∧ ∃ m, w' = Wk w m) := fun n =>
    (used_c (Wk w n) bk r g f p _ _ G (n.k.heap hbx (by simp)) (hr1.keep0 n.k) (fun x hx => (hr2 x hx).keep0 n.k) fgs (by omega) (by omega)).mono fun e w' h => ⟨h.1, n, h.2⟩
  have hc : ∀ n : KW w, ∀ i, (Wk w n).cell? ⟨bk, i, none⟩ = (bcells r g f p (.slice go G.length gc) pv)[i]? := fun n => cell_of (n.k.heap hbx (by simp))
  simp only [bcells] at hc
  have hc1 := fun n => hc n 1
  have hc2 := fun n => hc n 2
  have hc3 := fun n => hc n 3
  simp only [List.getElem?_toArray, List.getElem?_cons_zero, List.getElem?_cons_succ] at hc1 hc2 hc3
  have HNk : Hid (∀ (n : Nat) (k : Int), k = 8 ∨ k = 4 → n ≤ 140737488355328 → ∀ m : KW w, Calls Try.prog 41 #[.int .i64 n, .int .i64 k] (Wk w m) fun e w' => e = .returned (.string (numI n k)) ∧ ∃ m, w' = Wk w m) := by
    rintro n k (rfl | rfl) hn m
    · rw [numI8]; exact number_k n 8 hn (by omega) w m
    · rw [numI4]; exact number_k n 4 hn (by omega) w m
  have HPd : Hid (∀ n : KW w, Calls Try.prog 42 #[.string (magicS ++ numI g 8 ++ numI f 8 ++ numI p 8 ++ numI (usedN (G.map (·.2))) 4)] (Wk w n) fun e w' => e = .returned (.string (pageS g f p (usedN (G.map (·.2))))) ∧ ∃ m, w' = Wk w m) := fun n => by
    rw [numI8, numI8, numI8, numI4]
    exact (paddedM_c (Wk w n) (magicS ++ numS g 8 ++ numS f 8 ++ numS p 8 ++ numS (usedN (G.map (·.2))) 4) (by simp only [ByteArray.size_append, numS_size]; show 4 + 8 + 8 + 8 + 4 ≤ _; omega) (by simp only [ByteArray.size_append, numS_size]; omega)).mono fun e w' h => ⟨h.1, ⟨w', n.k.trans0 h.2⟩, rfl⟩
  have hmg : magicS = ⟨#[86, 71, 74, 49]⟩ := rfl
  rw [hmg] at HPd
  have hz1 : (numI g 8).size = 8 := by rw [numI8, numS_size]
  have hz2 : (numI f 8).size = 8 := by rw [numI8, numS_size]
  have hz3 : (numI p 8).size = 8 := by rw [numI8, numS_size]
  have hz4 : (numI (usedN (G.map (·.2))) 4).size = 4 := by rw [numI4, numS_size]
  obtain ⟨NS, hNS⟩ : ∃ NS, numI = NS := ⟨_, rfl⟩
  rw [hNS] at HNk HPd hz1 hz2 hz3 hz4
  obtain ⟨PG, hPG⟩ : ∃ PG, pageS g f p (usedN (G.map (·.2))) = PG := ⟨_, rfl⟩
  rw [hPG] at HPd ipg
  have HV := Lib.hid hV
  have HR1 := Lib.hid hr1
  have HR2 := Lib.hid hr2
  have Hbx := Lib.hid hbx
  have Hgs := Lib.hid fgs
  have Hdt := Lib.hid idt
  have Hpg := Lib.hid ipg
  have Hus := Lib.hid fu
  have Hsec := Lib.hid isec
  have Hdn := Lib.hid idn
  have Hpn := Lib.hid ipn
  clear hS hr1 hr2 hr3 hbx fs fgs hc hV idt ipg hmg hPG isec idn ipn
  obtain ⟨us, hus⟩ : ∃ us, usedN (G.map (·.2)) = us := ⟨_, rfl⟩
  rw [hus] at HUse fu HPd hz4
  clear hus hNS
  go_enter Try.func28, Try.ntmps28
  go_wp2_with fail
  try simp only [List.append]
  refine wp_region_keep (by kernel_rfl) (by kernel_rfl) ?_
  repeat (first
    | go_big_quiet_skip
    | (go_big_quiet_want; go_big_quiet_op; first | go_big_quiet_on | go_big_quiet_call (first
      | (go_at_call 41; exact HNk.out _ _ (by first | exact .inl rfl | exact .inr rfl) (by omega) _)
      | (go_at_call 49; exact HUse.out _)
      | (go_at_call 42; exact HPd.out _))))
  refine wpQuiet_nil ?_
  rintro w1 ⟨⟨_, hk1⟩, rfl⟩
  have Hk1 := Lib.hid hk1
  have hcb := cell_of (hk1.heap Hbx.out (by simp))
  simp only [bcells] at hcb
  obtain ⟨pw, hva, hFe⟩ := HV.out
  have HVA := Lib.hid hva
  have HRd : Hid (∀ wr, Keep [] w wr → ∀ s : Int, 0 ≤ s → s < r + 2 → Calls Try.prog 53 #[.pointer (some ⟨vb, 0, none⟩), .int .i64 s] wr fun e w' => e = .returned (.tuple #[.string (vRead v s).1, .int .i64 0]) ∧ Keep [] w w') := by
    intro wr hk s h0 h1
    have := read_c wr vb mb pw v s (HVA.out.keep hk (by simp) (by simp) (by simp)) Hpn.out
    rw [vRead_ok v s Hdn.out h0 (by rw [Hsec.out]; omega)] at this
    exact this.mono fun e w' h => ⟨h.1, hk.trans0 h.2⟩
  clear hva hFe hk1 hc1 hc2 hc3 HNk HUse HPd hz1 hz2 hz3 hz4
  have HR0 := Lib.hid (HRd.out w1 Hk1.out ((g : Int) % 2) (by omega) (by omega))
  rw [Hpg.out] at HR0
  have hpt := str_yes (rfl : PG = PG)
  go_wp2_with fail
  refine HR0.out.mono ?_
  rintro e w2 ⟨rfl, hk2⟩
  dsimp only
  have Hk2 := Lib.hid hk2
  have hcb2 := cell_of (hk2.heap Hbx.out (by simp))
  simp only [bcells] at hcb2
  clear hk2 hcb
  go_wp2_with fail
  go_loopw [8, 9] (fun at' i wr => ∃ k : Nat, k ≤ G.length ∧ i = .int .i64 k ∧ (∃ A : Nat, A = p + usedN ((G.map (·.2)).take k) ∧ at' = .int .i64 A) ∧ Keep [] w wr) (fun _ i _ => G.length - (intOf i).toNat)
  case atStart => exact ⟨0, by omega, rfl, ⟨p, rfl, rfl⟩, Hk2.out⟩
  case round =>
    obtain ⟨k, hk, rfl, ⟨A, hA, rfl⟩, hkr⟩ := hrel
    have Hkr := Lib.hid hkr
    have hcr := cell_of (hkr.heap Hbx.out (by simp))
    simp only [bcells] at hcr
    have hule := usedN_take_le (G.map (·.2)) k
    have hus6 := Hus.out
    clear hkr hcb2
    by_cases hlt : k < G.length
    · have hkm : k < (G.map (·.2)).length := by rw [List.length_map]; exact hlt
      have hsm := Hgs.out (G[k]).2 (List.mem_map.2 ⟨G[k], List.getElem_mem _, rfl⟩)
      have hx := HR2.out G[k] (List.getElem_mem hlt)
      obtain ⟨so, sc, hform⟩ := hx.form
      have hu1 := usedN_take (G.map (·.2)) k hkm
      have hu2 := usedN_take_le (G.map (·.2)) (k + 1)
      have hdt := Hdt.out k hkm
      rw [List.getElem_map] at hu1 hdt
      obtain ⟨a, o, c0, he, hcell⟩ := HR1.out.elem (by rw [List.length_map]; omega)
      have he' : go = some ⟨a, o, none⟩ := by injection he
      clear he
      subst he'
      have hck := hcell k (G[k]).1 (by rw [List.getElem?_map, List.getElem?_eq_getElem hlt]; rfl)
      rw [hform] at hck hx
      have hcw : ∀ n : KW wr, (Wk wr n).cell? ⟨a, o + k, none⟩ = some (.slice so (scells (G[k]).2).length sc) := fun n => by
        have halt : a < w.heap.size := by
          rcases HR1.out with ⟨h, _⟩ | ⟨g', o', c', h, hg', _⟩
          · cases h
          · injection h with h; injection h with h; injection h with h; rw [h]; exact hg'
        rw [cell_same (w := w) ((Hkr.out.trans0 n.k).block a halt (by simp))]
        exact hck
      have HEnc : Hid (∀ n : KW wr, Calls Try.prog 20 #[.int .i64 ((f : Int) + (k : Int)), .slice so (scells (G[k]).2).length sc] (Wk wr n) fun e w' => e = .returned (.string (encS (f + k) (G[k]).2)) ∧ ∃ m, w' = Wk wr m) := fun n => by
        have := encoded_c (Wk wr n) (f + k) (.slice so (scells (G[k]).2).length sc) (G[k]).2 (hx.keep0 (Hkr.out.trans0 n.k)) (by omega) hsm.1 hsm.2
        rw [show ((f + k : Nat) : Int) = (f : Int) + (k : Int) by omega] at this
        exact this.mono fun e w' h => ⟨h.1, ⟨w', n.k.trans0 h.2⟩, rfl⟩
      have hez := encS_size (f + k) (G[k]).2
      have hcw2 : ∀ n : KW wr, ∀ i, (Wk wr n).cell? ⟨bk, i, none⟩ = (bcells r g f p (.slice (some ⟨a, o, none⟩) G.length gc) pv)[i]? := fun n => cell_of ((Hkr.out.trans0 n.k).heap Hbx.out (by simp))
      have hw2 := fun n => hcw2 n 2
      have hw4 := fun n => hcw2 n 4
      simp only [bcells, List.getElem?_toArray, List.getElem?_cons_zero, List.getElem?_cons_succ] at hw2 hw4
      have Hdtk := Lib.hid hdt
      have Hu1 := Lib.hid hu1
      have HA := Lib.hid hA
      rw [hu1] at hu2
      generalize (G[k]).2 = l at *
      generalize encS (f + k) l = E at *
      obtain ⟨q, hq⟩ : ∃ q, secsN l = q := ⟨_, rfl⟩
      rw [hq] at hu2 hez Hu1 Hdtk
      obtain ⟨u, hu⟩ : ∃ u, usedN ((G.map (·.2)).take k) = u := ⟨_, rfl⟩
      rw [hu] at hu2 HA Hu1 Hdtk hA hule
      have hAb : A ≤ 2000000 := by omega
      have Hcw := Lib.hid hcw
      have Hw2 := Lib.hid hw2
      have Hw4 := Lib.hid hw4
      clear hu hq hdt hu1 hcell hck hx hsm hform hA hcw2 hkm hcw hw2 hw4
      go_wp2_with fail
      try simp only [List.append]
      have hcw := Hcw.out
      have hw2 := Hw2.out
      have hw4 := Hw4.out
      refine wp_region_keep (by kernel_rfl) (by kernel_rfl) ?_
      repeat (first
        | go_big_quiet_skip
        | (go_big_quiet_want; go_big_quiet_op; first | go_big_quiet_on | go_big_quiet_call (first
          | (go_at_call 20; exact HEnc.out _))))
      refine wpQuiet_nil ?_
      rintro w3 ⟨⟨_, hk3⟩, rfl⟩
      have Hk3 := Lib.hid (Hkr.out.trans0 hk3)
      have hrz : ((r : Int) == 0) = false := by rw [beq_eq_false_iff_ne]; omega
      clear hk3 hcw hw2 hw4 HEnc hcr
      go_wp2_with fail
      go_loopw [8, 11] (fun at' i wr => ∃ c : Nat, c ≤ q ∧ i = .int .i64 ((c * 128 : Nat) : Int) ∧ (∃ B : Nat, B = p + (u + c) ∧ at' = .int .i64 B) ∧ Keep [] w wr) (fun _ i _ => q * 128 - (intOf i).toNat)
      case atStart => exact ⟨0, by omega, rfl, ⟨A, by rw [HA.out]; omega, rfl⟩, Hk3.out⟩
      case round =>
        obtain ⟨c, hcq, rfl, ⟨B, hB, rfl⟩, hkq⟩ := hrel
        have hcr := cell_of (hkq.heap Hbx.out (by simp))
        simp only [bcells] at hcr
        have Hkq := Lib.hid hkq
        have HB := Lib.hid hB
        have hBb : B ≤ 3000000 := by omega
        obtain ⟨z, hz⟩ : ∃ z, c * 128 = z := ⟨_, rfl⟩
        rw [hz]
        clear hkq
        by_cases hlc : c < q
        · have hmod := Nat.mod_lt B ir0
          have hmi : (0 : Int) ≤ (B : Int) % (r : Int) := Int.emod_nonneg _ (by omega)
          have hmi2 : (B : Int) % (r : Int) < r := Int.emod_lt_of_pos _ (by omega)
          have HRk := Lib.hid (HRd.out wr Hkq.out (2 + (B : Int) % (r : Int)) (by omega) (by omega))
          have hdat : (vRead v (2 + (B : Int) % (r : Int))).1 = chunk E c := by
            have h1 := Hdtk.out c hlc
            unfold rdAt at h1
            rw [← hB, show ((2 + B % r : Nat) : Int) = 2 + (B : Int) % (r : Int) by push_cast; rfl] at h1
            exact h1
          rw [hdat] at HRk
          have hex : E.extract z (z + 128) = chunk E c := by unfold chunk; rw [hz]
          have Hex := Lib.hid hex
          have hzs : z + 128 ≤ E.size := by omega
          have hzl : z < E.size := by omega
          generalize hck : chunk E c = ck at *
          have hct : (ck.toList == (E.extract z (z + 128)).toList) = true := str_yes (by rw [Hex.out])
          have Hz := Lib.hid hz
          clear hdat hex hB hck hmod hz
          go_wp2_with fail
          refine HRk.out.mono ?_
          rintro e w4 ⟨rfl, hk4⟩
          dsimp only
          have Hk4 := Lib.hid hk4
          clear hk4
          go_wp2_with fail
          go_roundw
          case rel => exact ⟨c + 1, by omega, by rw [← Hz.out]; go_num, ⟨B + 1, by rw [HB.out]; omega, by go_num⟩, Hk4.out⟩
          case measure => simp [intOf]; omega
        · have hge : E.size ≤ z := by omega
          obtain rfl : c = q := by omega
          clear hB hz
          go_wp2_with fail
          go_roundw
          case rel => exact ⟨k + 1, by omega, by go_num, ⟨B, by rw [HB.out, Hu1.out], rfl⟩, Hkq.out⟩
          case measure => simp [intOf]; omega
    · obtain rfl : k = G.length := by omega
      go_wp2_with fail
      go_ret
      exact ⟨rfl, Hkr.out⟩
end Go.Proofs.Ytgmggmpkbfljfaa
