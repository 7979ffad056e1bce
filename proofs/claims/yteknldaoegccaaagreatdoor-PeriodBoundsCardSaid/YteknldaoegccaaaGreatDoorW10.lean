/- Parts of a proof about this translation: Zg, Ez, Ri. -/
import Derived.Deep.LoopGhost
import Derived.Test.YteknldaoegccaaaGreatDoorW09
set_option linter.unusedVariables false
set_option linter.unusedSimpArgs false
set_option maxRecDepth 100000
namespace Go.Proofs.YteknldaoegccaaaGreatDoor
open Go.RowKit
theorem magS_mono {x y k : Nat} (h : (magS y).size ≤ k) (hx : x ≤ y) : (magS x).size ≤ k := by
 rw [magS_size] at *
 omega
set_option maxHeartbeats 4000000 in
theorem Gcd_c (a b : Int) (ha : Fit 100000000000 a) (hb : Fit 100000000000 b) (w : World) :
  Calls Tryz.prog 138 #[zv a, zv b] w fun e w' => e = .returned (zv (Int.gcd a b : Nat)) ∧ Keep [] w w' := by
 have hg : Int.gcd a b = Nat.gcd a.natAbs b.natAbs := rfl
 have hm := made_c false (Int.gcd a b)
 have e : mk false (Int.gcd a b) = ((Int.gcd a b : Nat) : Int) := by unfold mk; simp
 rw [e] at hm
 have Hm := Lib.hid hm
 rw [hg] at *
 clear e hg hm
 generalize hge : Nat.gcd a.natAbs b.natAbs = g at *
 unfold zv at Hm ⊢
 generalize sgB (g : Int) = nr at *
 generalize mgS (g : Int) = sr at *
 generalize sgB a = na at *
 generalize sgB b = nb at *
 have hfa : (magS a.natAbs).size ≤ 100000000000 := ha
 have hfb : (magS b.natAbs).size ≤ 100000000000 := hb
 unfold mgS
 clear ha hb
 generalize a.natAbs = xa at *
 generalize b.natAbs = xb at *
 have Hge := Lib.hid hge
 have Hfa := Lib.hid hfa
 have Hfb := Lib.hid hfb
 clear hge hfa hfb
 go_enter Tryz.func138, Tryz.ntmps138
 go_wp2_with fail
 obtain ⟨W, hW, ba, bb, bc, hz, hkW⟩ := alloc3 w (.cells #[.bool na, .string (magS xa)] 27) (.cells #[.bool nb, .string (magS xb)] 27) (.cells #[.bool false, .string ⟨#[]⟩] 27)
 rw [← hW]
 have HkW := Lib.hid hkW
 have Hba := Lib.hid ba
 have Hbb := Lib.hid bb
 have Hbc := Lib.hid bc
 clear hW ba bb bc hkW
 have ka0 : ∀ m : KW W, (Wk W m).cell? ⟨w.heap.size, 0, none⟩ = some (.bool na) := kw_cell Hba.out (by rw [cell_of Hba.out]; rfl)
 have ka1 : ∀ m : KW W, (Wk W m).cell? ⟨w.heap.size, 1, none⟩ = some (.string (magS xa)) := kw_cell Hba.out (by rw [cell_of Hba.out]; rfl)
 have kb0 : ∀ m : KW W, (Wk W m).cell? ⟨w.heap.size + 1, 0, none⟩ = some (.bool nb) := kw_cell Hbb.out (by rw [cell_of Hbb.out]; rfl)
 have kb1 : ∀ m : KW W, (Wk W m).cell? ⟨w.heap.size + 1, 1, none⟩ = some (.string (magS xb)) := kw_cell Hbb.out (by rw [cell_of Hbb.out]; rfl)
 refine wp_region_keep (by kernel_rfl) (by kernel_rfl) ?_
 repeat (first
  | go_big_quiet_skip
  | (go_big_quiet_want; go_big_quiet_op; go_big_quiet_on))
 refine wpQuiet_nil ?_
 rintro w1 ⟨⟨_, hk_w1⟩, rfl⟩
 have Hbc1 := Lib.hid (hk_w1.heap Hbc.out (by simp))
 have HkW1 := Lib.hid (HkW.out.trans0 hk_w1)
 clear hk_w1 HkW Hba Hbb Hbc ka0 ka1 kb0 kb1
 go_wp2_with fail
 go_loopg [5, 6] xb (fun gn sx sy wx => ∃ x y : Nat, gn = y ∧ sx = .string (magS x) ∧ sy = .string (magS y) ∧ Nat.gcd x y = g ∧ (magS x).size ≤ 100000000000 ∧ (magS y).size ≤ 100000000000 ∧ Keep [] w1 wx)
 case atStart => exact ⟨xa, xb, rfl, rfl, rfl, Hge.out, Hfa.out, Hfb.out, Keep.refl _ _⟩
 case round =>
  obtain ⟨x, y, hgn, rfl, rfl, hgc, hx, hy, hk⟩ := hrel
  have Hgn := Lib.hid hgn
  have Hgc := Lib.hid hgc
  have Hx := Lib.hid hx
  have Hy := Lib.hid hy
  have Hbc := Lib.hid (hk.heap Hbc1.out (by simp))
  have HkW := Lib.hid (HkW1.out.trans0 hk)
  have Hk := Lib.hid hk
  clear hgn hgc hx hy hk
  by_cases hy0 : y = 0
  ·subst hy0
   have hxg : x = g := by rw [← Hgc.out, Nat.gcd_zero_right]
   subst hxg
   rw [magS_zero]
   have Hm' := Hm
   clear Hgn Hgc Hx Hy Hk Hm
   go_wp2_with fail
   refine (Hm'.out _).mono ?_
   rintro e wz ⟨rfl, hk_wz⟩
   dsimp only
   clear Hm'
   have bz := hk_wz.heap Hbc.out (by simp)
   have cz0 : wz.cell? ⟨(w.heap.size + 2), 0, none⟩ = some (.bool false) := by rw [cell_of bz]; rfl
   have cz1 : wz.cell? ⟨(w.heap.size + 2), 1, none⟩ = some (.string ⟨#[]⟩) := by rw [cell_of bz]; rfl
   have fz := frozen_of bz
   have lz := lt_of_heap bz
   have Hkz := Lib.hid (HkW.out.trans0 hk_wz)
   clear bz hk_wz
   go_wp2_with fail
   refine bodyPost_ret (v := .agg #[.bool nr, .string sr]) ?_ rfl ⟨rfl, ?_⟩
   ·rw [results_cell1 rfl]; go_simp
   ·exact (Hkz.out.setPast _ _ _ (by omega)).setPast _ _ _ (by omega)
  ·have hyne : magS y ≠ ⟨#[]⟩ := fun h => hy0 (magS_empty.1 h)
   have s1 := str_no hyne
   have s2 := str_full hyne
   clear hyne
   by_cases h8 : (magS x).size ≤ 8 ∧ (magS y).size ≤ 8
   ·have Hw := Lib.hid (fun w => words_ok (magS x) (magS y) h8.1 h8.2 w)
    have hx64 := (magS_size x 8).1 h8.1
    have hy64 := (magS_size y 8).1 h8.2
    rw [show (256 : Nat) ^ 8 = 18446744073709551616 from rfl] at hx64 hy64
    rw [natB_mag, natB_mag] at Hw
    have Hm' := Hm
    clear h8 Hgn Hx Hy Hk Hm
    generalize magS y = sy at *
    generalize magS x = sx at *
    go_wp2_with fail
    refine (Hw.out _).mono ?_
    rintro e w2 ⟨rfl, rfl⟩
    dsimp only
    clear Hw
    go_wp2_with fail
    obtain ⟨wo, rfl⟩ : ∃ wo : World, wo = w2 := ⟨_, rfl⟩
    go_loopw [7, 8] (fun uv vv wx => ∃ u v : Nat, uv = .int .u64 (u : Int) ∧ vv = .int .u64 (v : Int) ∧ Nat.gcd u v = g ∧ u < 18446744073709551616 ∧ v < 18446744073709551616 ∧ Keep [] wo wx) (fun _ vv _ => (intOf vv).toNat)
    case atStart => exact ⟨x, y, rfl, rfl, Hgc.out, hx64, hy64, Keep.refl _ _⟩
    case round =>
     obtain ⟨u, v, rfl, rfl, hgc, hu, hv, hk⟩ := hrel
     have Hgc2 := Lib.hid hgc
     have Hk2 := Lib.hid hk
     clear hgc hk Hgc hx64 hy64
     by_cases hv0 : v = 0
     ·subst hv0
      have hug : u = g := by rw [← Hgc2.out, Nat.gcd_zero_right]
      subst hug
      have Hmg := Lib.hid (magnitude_c u hu)
      have Hbc2 := Lib.hid (Hk2.out.heap Hbc.out (by simp))
      have HkW2 := Lib.hid (HkW.out.trans0 Hk2.out)
      clear Hgc2 Hk2 Hbc HkW
      go_wp2_with fail
      refine (Hmg.out _).mono ?_
      rintro e w4 ⟨rfl, hk4⟩
      dsimp only
      have Hbc := Lib.hid (hk4.heap Hbc2.out (by simp))
      have HkW := Lib.hid (HkW2.out.trans0 hk4)
      clear hk4 Hmg Hbc2 HkW2
      go_wp2_with fail
      refine (Hm'.out _).mono ?_
      rintro e wz ⟨rfl, hk_wz⟩
      dsimp only
      clear Hm'
      have bz := hk_wz.heap Hbc.out (by simp)
      have cz0 : wz.cell? ⟨(w.heap.size + 2), 0, none⟩ = some (.bool false) := by rw [cell_of bz]; rfl
      have cz1 : wz.cell? ⟨(w.heap.size + 2), 1, none⟩ = some (.string ⟨#[]⟩) := by rw [cell_of bz]; rfl
      have fz := frozen_of bz
      have lz := lt_of_heap bz
      have Hkz := Lib.hid (HkW.out.trans0 hk_wz)
      clear bz hk_wz
      go_wp2_with fail
      refine bodyPost_ret (v := .agg #[.bool nr, .string sr]) ?_ rfl ⟨rfl, ?_⟩
      ·rw [results_cell1 rfl]; go_simp
      ·exact (Hkz.out.setPast _ _ _ (by omega)).setPast _ _ _ (by omega)
     ·have hne : ((v : Int) != 0) = true := by rw [bne_iff_ne]; omega
      have hne2 : ((v : Int) == 0) = false := by rw [beq_eq_false_iff_ne]; omega
      have hmod : (u : Int) % (v : Int) = ((u % v : Nat) : Int) := by push_cast; rfl
      have hlt := Nat.mod_lt u (show 0 < v by omega)
      have hgc3 : Nat.gcd v (u % v) = g := by rw [← Hgc2.out, Nat.gcd_comm v, ← Nat.gcd_rec, Nat.gcd_comm]
      have Hgc3 := Lib.hid hgc3
      have Hmod := Lib.hid hmod
      clear hgc3
      generalize u % v = r at *
      go_wp2_with fail
      refine wp_region_keep (by kernel_rfl) (by kernel_rfl) ?_
      repeat (first
       | go_big_quiet_skip
       | (go_big_quiet_want; go_big_quiet_op; go_big_quiet_on))
      refine wpQuiet_nil ?_
      rintro w5 ⟨⟨_, hk_w5⟩, rfl⟩
      clear hmod
      have Hk5 := Lib.hid (Hk2.out.trans0 hk_w5)
      clear hk_w5
      go_wp2_with fail
      go_roundw
      case rel => exact ⟨v, r, rfl, congrArg (Value.int .u64) (by first | exact Hmod.out | rfl), Hgc3.out, by omega, by omega, Hk5.out⟩
      case measure => first | (simp [intOf]; omega) | (rw [Hmod.out]; simp [intOf]; omega)
   ·have Hw := Lib.hid (fun w => words_e (magS x) (magS y) h8 (by unfold maxLen; have := Hx.out; omega) (by unfold maxLen; have := Hy.out; omega) w)
    have Hd := Lib.hid (fun w => div_c (magS x) (magS y) Hx.out Hy.out (magS_can x) (magS_can y) (by rw [natB_mag]; omega) w)
    rw [natB_mag, natB_mag] at Hd
    have hlt := Nat.mod_lt x (show 0 < y by omega)
    have hgc3 : Nat.gcd y (x % y) = g := by rw [← Hgc.out, Nat.gcd_comm y, ← Nat.gcd_rec, Nat.gcd_comm]
    have Hgc3 := Lib.hid hgc3
    have hr9 := magS_mono Hx.out (Nat.mod_le x y)
    have Hr9 := Lib.hid hr9
    have Hlt := Lib.hid hlt
    clear hgc3 hr9 hlt h8
    generalize x % y = r at *
    generalize magS (x / y) = sq at *
    go_wp2_with fail
    refine (Hw.out _).mono ?_
    rintro e w2 ⟨⟨_, _, rfl⟩, rfl⟩
    dsimp only
    go_wp2_with fail
    refine (Hd.out _).mono ?_
    rintro e w3 ⟨rfl, hk3⟩
    dsimp only
    have Hk3 := Lib.hid (Hk.out.trans0 hk3)
    clear hk3 Hd Hw
    go_wp2_with fail
    go_roundg r
    case measure => have := Hgn.out; have := Hlt.out; omega
    case rel => exact ⟨y, r, rfl, rfl, rfl, Hgc3.out, Hy.out, Hr9.out, Hk3.out⟩
end Go.Proofs.YteknldaoegccaaaGreatDoor
set_option maxRecDepth 100000
namespace Go.Proofs.YteknldaoegccaaaGreatDoor
open Go.RowKit
theorem al1 (w : World) (A : Obj) : ∃ (W : World) (ga : Nat), W = w.alloc A ∧ w.heap.size = ga ∧ W.heap[ga]? = some A ∧ w.heap.size ≤ ga ∧ ga < W.heap.size ∧ Keep [] w W := by
 exact ⟨_, _, rfl, rfl, World.alloc_heap_new w A, Nat.le_refl _, by simp, Keep.alloc _ _ _⟩
theorem al2 (w : World) (A B : Obj) : ∃ (W : World) (ga gb : Nat), W = (w.alloc A).alloc B ∧ w.heap.size = ga ∧ w.heap.size + 1 = gb ∧ W.heap[ga]? = some A ∧ W.heap[gb]? = some B ∧ w.heap.size ≤ ga ∧ ga < gb ∧ gb < W.heap.size ∧ Keep [] w W := by
 obtain ⟨W1, ga, e1, qga, bga, hga, z1, k1⟩ := al1 w A
 have es : W1.heap.size = w.heap.size + 1 := by rw [e1]; simp
 have a2 : (W1.alloc B).heap[W1.heap.size]? = some B := World.alloc_heap_new W1 B
 have k2 := Keep.alloc [] W1 B
 refine ⟨W1.alloc B, ga, W1.heap.size, by rw [e1], qga, es.symm, k2.heap bga (by simp), a2, hga, z1, by simp, k1.trans k2 (by simp)⟩
theorem al3 (w : World) (A B C : Obj) : ∃ (W : World) (ga gb gc : Nat), W = ((w.alloc A).alloc B).alloc C ∧ w.heap.size = ga ∧ w.heap.size + 1 = gb ∧ w.heap.size + 1 + 1 = gc ∧ W.heap[ga]? = some A ∧ W.heap[gb]? = some B ∧ W.heap[gc]? = some C ∧ w.heap.size ≤ ga ∧ ga < gb ∧ gb < gc ∧ gc < W.heap.size ∧ Keep [] w W := by
 obtain ⟨W1, ga, gb, e1, qga, qgb, bga, bgb, hga, hgb, z1, k1⟩ := al2 w A B
 have es : W1.heap.size = w.heap.size + 1 + 1 := by rw [e1]; simp
 have a2 : (W1.alloc C).heap[W1.heap.size]? = some C := World.alloc_heap_new W1 C
 have k2 := Keep.alloc [] W1 C
 refine ⟨W1.alloc C, ga, gb, W1.heap.size, by rw [e1], qga, qgb, es.symm, k2.heap bga (by simp), k2.heap bgb (by simp), a2, hga, hgb, z1, by simp, k1.trans k2 (by simp)⟩
theorem al4 (w : World) (A B C D : Obj) : ∃ (W : World) (ga gb gc gd : Nat), W = (((w.alloc A).alloc B).alloc C).alloc D ∧ w.heap.size = ga ∧ w.heap.size + 1 = gb ∧ w.heap.size + 1 + 1 = gc ∧ w.heap.size + 1 + 1 + 1 = gd ∧ W.heap[ga]? = some A ∧ W.heap[gb]? = some B ∧ W.heap[gc]? = some C ∧ W.heap[gd]? = some D ∧ w.heap.size ≤ ga ∧ ga < gb ∧ gb < gc ∧ gc < gd ∧ gd < W.heap.size ∧ Keep [] w W := by
 obtain ⟨W1, ga, gb, gc, e1, qga, qgb, qgc, bga, bgb, bgc, hga, hgb, hgc, z1, k1⟩ := al3 w A B C
 have es : W1.heap.size = w.heap.size + 1 + 1 + 1 := by rw [e1]; simp
 have a2 : (W1.alloc D).heap[W1.heap.size]? = some D := World.alloc_heap_new W1 D
 have k2 := Keep.alloc [] W1 D
 refine ⟨W1.alloc D, ga, gb, gc, W1.heap.size, by rw [e1], qga, qgb, qgc, es.symm, k2.heap bga (by simp), k2.heap bgb (by simp), k2.heap bgc (by simp), a2, hga, hgb, hgc, z1, by simp, k1.trans k2 (by simp)⟩
theorem al5 (w : World) (A B C D E : Obj) : ∃ (W : World) (ga gb gc gd ge : Nat), W = ((((w.alloc A).alloc B).alloc C).alloc D).alloc E ∧ w.heap.size = ga ∧ w.heap.size + 1 = gb ∧ w.heap.size + 1 + 1 = gc ∧ w.heap.size + 1 + 1 + 1 = gd ∧ w.heap.size + 1 + 1 + 1 + 1 = ge ∧ W.heap[ga]? = some A ∧ W.heap[gb]? = some B ∧ W.heap[gc]? = some C ∧ W.heap[gd]? = some D ∧ W.heap[ge]? = some E ∧ w.heap.size ≤ ga ∧ ga < gb ∧ gb < gc ∧ gc < gd ∧ gd < ge ∧ ge < W.heap.size ∧ Keep [] w W := by
 obtain ⟨W1, ga, gb, gc, gd, e1, qga, qgb, qgc, qgd, bga, bgb, bgc, bgd, hga, hgb, hgc, hgd, z1, k1⟩ := al4 w A B C D
 have es : W1.heap.size = w.heap.size + 1 + 1 + 1 + 1 := by rw [e1]; simp
 have a2 : (W1.alloc E).heap[W1.heap.size]? = some E := World.alloc_heap_new W1 E
 have k2 := Keep.alloc [] W1 E
 refine ⟨W1.alloc E, ga, gb, gc, gd, W1.heap.size, by rw [e1], qga, qgb, qgc, qgd, es.symm, k2.heap bga (by simp), k2.heap bgb (by simp), k2.heap bgc (by simp), k2.heap bgd (by simp), a2, hga, hgb, hgc, hgd, z1, by simp, k1.trans k2 (by simp)⟩
theorem kw_cells {w : World} {b : Nat} {cs : Array Value} {t : TypeId} {f : Nat × Nat} (h : w.heap[b]? = some (.cells cs t f)) (m : KW w) (i : Nat) : (Wk w m).cell? ⟨b, i, none⟩ = cs[i]? := by
 show m.x.cell? _ = _
 rw [cell_of (m.k.heap h (by simp))]
theorem st2 {w : World} {g : Nat} {a b x y : Value} {t : TypeId} (h : w.heap[g]? = some (.cells #[a, b] t (0, 0))) :
  ∃ W, W = (w.setCell ⟨g, 0, none⟩ x).setCell ⟨g, 1, none⟩ y ∧ W.heap[g]? = some (.cells #[x, y] t (0, 0)) ∧ Keep [g] w W :=
 ⟨_, rfl, by rw [set_same (set_same h 0 x) 1 y]; rfl, (Keep.setCell [g] w g 0 x (by simp)).trans (Keep.setCell [g] _ g 1 y (by simp)) (by simp)⟩
theorem st4 {w : World} {g : Nat} {a b c d x y z u : Value} {t : TypeId} (h : w.heap[g]? = some (.cells #[a, b, c, d] t (0, 0))) :
  ∃ W, W = (((w.setCell ⟨g, 0, none⟩ x).setCell ⟨g, 1, none⟩ y).setCell ⟨g, 2, none⟩ z).setCell ⟨g, 3, none⟩ u ∧ W.heap[g]? = some (.cells #[x, y, z, u] t (0, 0)) ∧ Keep [g] w W :=
 ⟨_, rfl, by rw [set_same (set_same (set_same (set_same h 0 x) 1 y) 2 z) 3 u]; rfl,
  (((Keep.setCell [g] w g 0 x (by simp)).trans (Keep.setCell [g] _ g 1 y (by simp)) (by simp)).trans (Keep.setCell [g] _ g 2 z (by simp)) (by simp)).trans (Keep.setCell [g] _ g 3 u (by simp)) (by simp)⟩
theorem eqZ_in (d : Nat) (a b : Bool) (s t : ByteArray) (w : World) : (Op.equalIn (d + 2) 27 (.agg #[.bool a, .string s]) (.agg #[.bool b, .string t])).run Tryz.prog w = .ok ((a == b) && decide (s = t)) w := by
 have u3 := Tryz.underlying4
 have a3 := Tryz.isAgg4
 have z3 := Tryz.sizeOf4
 have u9 := Tryz.underlying9
 have a9 := Tryz.isAgg9
 have z9 := Tryz.sizeOf9
 have hS : Tryz.prog.underlying 27 = some (.struct (Tryz.prog.fieldsOf 27)) := by kernel_rfl
 have hp : Tryz.prog.stoodInHeld 27 = false := by kernel_rfl
 rw [run_equalIn_agg w (d + 1) 27 _ _ hS hp]
 simp only [Program.fieldsOf, Tryz.underlying27]
 go_simp
 by_cases h : s = t
 ·have h2 := str_yes h
  cases a <;> cases b <;> simp [h, h2]
 ·have h2 := str_no h
  have h3 : ¬ s.toList = t.toList := fun e => h (str_inj e)
  cases a <;> cases b <;> simp [h, h2, h3]
theorem eqZ_g : Tryz.prog.eqGuardType Tryz.prog.depth 27 = false := by kernel_rfl
theorem eqQ_in (d : Nat) (a1 b1 a2 b2 : Bool) (s1 t1 s2 t2 : ByteArray) (w : World) : (Op.equalIn (d + 3) 29 (.agg #[.bool a1, .string s1, .bool a2, .string s2]) (.agg #[.bool b1, .string t1, .bool b2, .string t2])).run Tryz.prog w = .ok (((a1 == b1) && decide (s1 = t1)) && ((a2 == b2) && decide (s2 = t2))) w := by
 have u3 := Tryz.underlying27
 have a3 := Tryz.isAgg27
 have z3 := Tryz.sizeOf27
 have e1 := eqZ_in d a1 b1 s1 t1
 have e2 := eqZ_in d a2 b2 s2 t2
 have hS : Tryz.prog.underlying 29 = some (.struct (Tryz.prog.fieldsOf 29)) := by kernel_rfl
 have hp : Tryz.prog.stoodInHeld 29 = false := by kernel_rfl
 rw [run_equalIn_agg w (d + 2) 29 _ _ hS hp]
 simp only [Program.fieldsOf, Tryz.underlying29]
 go_simp
 by_cases h1 : s1 = t1 <;> by_cases h2 : s2 = t2 <;> cases a1 <;> cases b1 <;> cases a2 <;> cases b2 <;> simp [h1, h2]
theorem eqQ_g : Tryz.prog.eqGuardType Tryz.prog.depth 29 = false := by kernel_rfl
theorem eqR_in (d : Nat) (a1 b1 a2 b2 a3' b3' a4 b4 a5 b5 : Bool) (s1 t1 s2 t2 s3 t3 s4 t4 : ByteArray) (w : World) : (Op.equalIn (d + 4) 31 (.agg #[.bool a1, .string s1, .bool a2, .string s2, .bool a3', .string s3, .bool a4, .string s4, .bool a5]) (.agg #[.bool b1, .string t1, .bool b2, .string t2, .bool b3', .string t3, .bool b4, .string t4, .bool b5])).run Tryz.prog w =
  .ok ((((a1 == b1) && decide (s1 = t1)) && ((a2 == b2) && decide (s2 = t2))) && ((((a3' == b3') && decide (s3 = t3)) && ((a4 == b4) && decide (s4 = t4))) && (a5 == b5))) w := by
 have u3 := Tryz.underlying29
 have a3 := Tryz.isAgg29
 have z3 := Tryz.sizeOf29
 have u4 := Tryz.underlying4
 have aa4 := Tryz.isAgg4
 have z4 := Tryz.sizeOf4
 have e1 := eqQ_in d a1 b1 a2 b2 s1 t1 s2 t2
 have e2 := eqQ_in d a3' b3' a4 b4 s3 t3 s4 t4
 have hS : Tryz.prog.underlying 31 = some (.struct (Tryz.prog.fieldsOf 31)) := by kernel_rfl
 have hp : Tryz.prog.stoodInHeld 31 = false := by kernel_rfl
 rw [run_equalIn_agg w (d + 3) 31 _ _ hS hp]
 simp only [Program.fieldsOf, Tryz.underlying31]
 generalize (((a1 == b1) && decide (s1 = t1)) && ((a2 == b2) && decide (s2 = t2))) = x1 at *
 generalize (((a3' == b3') && decide (s3 = t3)) && ((a4 == b4) && decide (s4 = t4))) = x2 at *
 go_simp
 cases x1 <;> cases x2 <;> cases a5 <;> cases b5 <;> simp
def zc (z : Int) : List Value := [.bool (sgB z), .string (mgS z)]
def dnS (n : Nat) : ByteArray := if n = 1 then ⟨#[]⟩ else magS n
def rc (q : Rat) : List Value := [.bool (sgB q.num), .string (mgS q.num), .bool false, .string (dnS q.den)]
def rv (q : Rat) : Value := .agg #[.bool (sgB q.num), .string (mgS q.num), .bool false, .string (dnS q.den)]
theorem mg_sg_inj {a b : Int} (h1 : sgB a = sgB b) (h2 : mgS a = mgS b) : a = b := by
 unfold mgS at h2
 rw [magS_inj] at h2
 unfold sgB at h1
 rw [decide_eq_decide] at h1
 omega
theorem eqZ_dec (a b : Int) : ((sgB a == sgB b) && decide (mgS a = mgS b)) = decide (a = b) := by
 by_cases h : a = b
 ·subst h; simp
 ·rw [decide_eq_false h]
  by_cases h1 : sgB a = sgB b
  ·have h2 : mgS a ≠ mgS b := fun e => h (mg_sg_inj h1 e)
   simp [h2]
  ·simp [h1]
theorem dnS_inj {m n : Nat} (hm : m ≠ 0) (hn : n ≠ 0) (h : dnS m = dnS n) : m = n := by
 unfold dnS at h
 by_cases h1 : m = 1 <;> by_cases h2 : n = 1
 ·omega
 ·rw [if_pos h1, if_neg h2] at h
  exact absurd (magS_empty.1 h.symm) hn
 ·rw [if_neg h1, if_pos h2] at h
  exact absurd (magS_empty.1 h) hm
 ·rw [if_neg h1, if_neg h2, magS_inj] at h
  exact h
theorem eqD_dec (a b : Rat) : ((false == false) && decide (dnS a.den = dnS b.den)) = decide (a.den = b.den) := by
 by_cases h : a.den = b.den
 ·rw [h]; simp
 ·have : dnS a.den ≠ dnS b.den := fun e => h (dnS_inj a.den_nz b.den_nz e)
  simp [h, this]
theorem eqQ_dec (a b : Rat) : (((sgB a.num == sgB b.num) && decide (mgS a.num = mgS b.num)) && ((false == false) && decide (dnS a.den = dnS b.den))) = decide (a = b) := by
 rw [eqZ_dec, eqD_dec]
 by_cases h : a = b
 ·subst h; simp
 ·rw [decide_eq_false h]
  by_cases h1 : a.num = b.num
  ·have h2 : a.den ≠ b.den := fun e => h (Rat.ext h1 e)
   simp [h2]
  ·simp [h1]
theorem eqZ_run (a b : Int) (w : World) : (binOp .eql 27 (.agg #[.bool (sgB a), .string (mgS a)]) (.agg #[.bool (sgB b), .string (mgS b)])).run Tryz.prog w = .ok (.bool (decide (a = b))) w := by
 rw [run_eql_struct, show (10000 : Nat) = 9998 + 2 from rfl, eqZ_in, eqZ_dec]; rfl
theorem eqD_run (a b : Rat) (w : World) : (binOp .eql 27 (.agg #[.bool false, .string (dnS a.den)]) (.agg #[.bool false, .string (dnS b.den)])).run Tryz.prog w = .ok (.bool (decide (a.den = b.den))) w := by
 rw [run_eql_struct, show (10000 : Nat) = 9998 + 2 from rfl, eqZ_in, eqD_dec]; rfl
theorem eqQ_run (a b : Rat) (w : World) : (binOp .eql 29 (rv a) (rv b)).run Tryz.prog w = .ok (.bool (decide (a = b))) w := by
 unfold rv
 rw [run_eql_struct, show (10000 : Nat) = 9997 + 3 from rfl, eqQ_in, eqQ_dec]; rfl
theorem dn_one {n : Nat} (h : n = 1) : dnS n = ⟨#[]⟩ := by unfold dnS; rw [if_pos h]
theorem dn_big {n : Nat} (h : n ≠ 1) : dnS n = magS n := by unfold dnS; rw [if_neg h]
theorem mg_nat (n : Nat) : mgS (n : Int) = magS n := by unfold mgS; rw [Int.natAbs_natCast]
theorem sg_nat (n : Nat) : sgB (n : Int) = false := by unfold sgB; simp
end Go.Proofs.YteknldaoegccaaaGreatDoor
set_option maxRecDepth 100000
namespace Go.Proofs.YteknldaoegccaaaGreatDoor
open Go.RowKit
def ints (l : List Nat) : List Value := l.map fun (d : Nat) => .int .i64 (d : Int)
theorem ints_length (l : List Nat) : (ints l).length = l.length := by simp [ints]
theorem ints_get (l : List Nat) (i : Nat) (h : i < l.length) : (ints l)[i]? = some (.int .i64 ((l[i] : Nat) : Int)) := by simp [ints, h]
theorem ints_snoc (l : List Nat) (d : Nat) : ints l ++ [.int .i64 (d : Int)] = ints (l ++ [d]) := by simp [ints]
theorem own_keep' {w w' : World} {e : TypeId} {size : Nat} {v : Value} {n : Nat} {xs : List Value} {F : List Nat} (h : w.ownsRow 0 e size v n xs) (hk : Keep F w w') (hF : ∀ g, v.ownBlock = some g → g ∉ F) : w'.ownsRow 0 e size v n xs := by
 refine ⟨h.1, ?_⟩
 rcases h.2 with hn | ⟨g, cap, cur, hv, hb, hg, rest⟩
 ·exact .inl hn
 ·exact .inr ⟨g, cap, cur, hv, hb, hk.heap hg (hF g (by rw [hv]; rfl)), rest⟩
theorem own_form {w : World} {e : TypeId} {size : Nat} {v : Value} {n : Nat} {xs : List Value} (h : w.ownsRow 0 e size v n xs) : ∃ po pc, v = .slice po n pc := by
 rcases h.2 with ⟨hv, h0⟩ | ⟨g, cap, cur, hv, _⟩
 ·exact ⟨none, 0, by rw [hv, h0]⟩
 ·exact ⟨_, cap, hv⟩
theorem one_news (w : World) (v : Value) (t : TypeId) : ∀ (j : Nat) (u : Value), [v][j]? = some u → (w.alloc (.cells #[v] t)).cell? ((⟨w.heap.size, 0, none⟩ : Addr).add j) = some u := by
 intro j u hj
 match j, hj with
 | 0, hj => simp at hj; subst hj; simp [Addr.add, go_sem]
structure OI (w0 w : World) (v : Value) (l : List Nat) : Prop where
 row : w.ownsRow 0 3 1 v l.length (ints l)
 base : ∀ g, v.ownBlock = some g → w0.heap.size ≤ g
 keep : Keep [] w0 w
theorem OI.nil (w : World) : OI w w (.slice none 0 0) [] := ⟨⟨rfl, .inl ⟨rfl, rfl⟩⟩, by simp [Value.ownBlock], Keep.refl _ _⟩
theorem OI.later {w0 w w' : World} {v : Value} {l : List Nat} (h : OI w0 w v l) (hk : Keep [] w w') : OI w0 w' v l :=
 ⟨own_keep' h.row hk (by simp), h.base, h.keep.trans0 hk⟩
theorem OI.form {w0 w : World} {v : Value} {l : List Nat} (h : OI w0 w v l) : ∃ po pc, v = .slice po l.length pc := own_form h.row
theorem OI.read {w0 w : World} {v : Value} {l : List Nat} (h : OI w0 w v l) : RowR w v (ints l) := by
 exact RowR.of_own h.row
theorem OI.step {w0 wr wa : World} {v : Value} {l : List Nat} (h : OI w0 wr v l) {g cap d : Nat} {t : TypeId} (hoa : wa.ownsRow 0 3 1 (.slice (some ⟨g, 0, none⟩) (l.length + 1) cap) (l.length + 1) (ints l ++ [.int .i64 (d : Int)]))
  (hga : (wr.alloc (.cells #[.int .i64 (d : Int)] t)).grownBy wa v.ownBlock) (hfa : some g = v.ownBlock ∨ wr.heap.size + 1 ≤ g) (hda : (wr.alloc (.cells #[.int .i64 (d : Int)] t)).drawn ≤ wa.drawn) :
  OI w0 wa (.slice (some ⟨g, 0, none⟩) (l.length + 1) cap) (l ++ [d]) := by
 refine ⟨?_, ?_, ?_⟩
 ·rw [← ints_snoc, List.length_append]; exact hoa
 ·intro k hk
  simp [Value.ownBlock] at hk
  subst hk
  rcases hfa with h1 | h1
  ·exact h.base _ h1.symm
  ·have := h.keep.size
   omega
 ·exact (h.keep.allocPast _).grownPast hga hda (fun k hk => h.base k hk)
theorem infoInt : (Tryz.prog.info? 3).map (fun i => (i.zero, i.size, i.bytes)) = some (some (.int .i64 0), 1, 8) := by kernel_rfl
def CapOk (v : Value) : Prop := ∀ a n c, v = .slice a n c → n ≤ c
theorem OI.cap {w0 w : World} {v : Value} {l : List Nat} (h : OI w0 w v l) : CapOk v := by
 intro a n c e
 rcases h.row.2 with ⟨hv, _⟩ | ⟨g, cap, cur, hv, _, _, hc, _⟩
 ·rw [hv] at e; injection e with _ e2 e3; omega
 ·rw [hv] at e; injection e with _ e2 e3; omega
def DR (w : World) (v : Value) (N : Nat) : Prop := RowR w v (ints (digs 256 N)) ∧ CapOk v
theorem DR.later {w w' : World} {v : Value} {N : Nat} (h : DR w v N) (hk : Keep [] w w') : DR w' v N := ⟨h.1.keep0 hk, h.2⟩
def Trimmed (w : World) (l : List Nat) (e : Ending) : Prop := ∃ v, e = .returned v ∧ RowR w v (ints (trimD l)) ∧ CapOk v
theorem trimmed_of {w : World} {l : List Nat} {g o c m : Nat} (hm : m ≤ l.length) (hc : l.length ≤ c) (ht : trimD l = l.take m) (hg : g < w.heap.size) (h : ∀ i u, (ints l)[i]? = some u → w.cell? ⟨g, o + i, none⟩ = some u) :
  Trimmed w l (.returned (.slice (some ⟨g, o, none⟩) m c)) := by
 have hlen : (ints (trimD l)).length = m := by rw [ints_length, ht, List.length_take, Nat.min_eq_left hm]
 refine ⟨_, rfl, .inr ⟨g, o, c, by rw [hlen], hg, fun i u hi => h i u ?_⟩, fun a n c' e => ?_⟩
 ·have hlt : i < (ints (trimD l)).length := (List.getElem?_eq_some_iff.1 hi).1
  rw [hlen] at hlt
  rw [ht] at hi
  have : ints (l.take m) = (ints l).take m := by simp [ints, List.map_take]
  rw [this, List.getElem?_take_of_lt hlt] at hi
  exact hi
 ·injection e with _ e2 e3; omega
set_option maxHeartbeats 2000000 in
theorem rtrim_c (w : World) (sv : Value) (l : List Nat) (hl9 : l.length ≤ 1000000000000) (h : RowR w sv (ints l)) (hcap : CapOk sv) :
  Calls Tryz.prog 123 #[sv] w fun e w' => Trimmed w l e ∧ w' = w := by
 rcases h with ⟨rfl, h0⟩ | ⟨g, o, c, rfl, hg, hc⟩
 ·have h1 : l = [] := by simpa [ints] using h0
  subst h1
  go_enter Tryz.func123, Tryz.ntmps123
  go_wp2_with fail
  go_rounds 1
  go_wp2_with fail
  go_ret
  exact ⟨⟨_, rfl, .inl ⟨rfl, rfl⟩, fun a n c e => by injection e with _ e2 e3; omega⟩, rfl⟩
 ·rw [ints_length] at hcap ⊢
  have hlc : l.length ≤ c := hcap _ _ _ rfl
  have Hc := Lib.hid hc
  clear hc hcap
  go_enter Tryz.func123, Tryz.ntmps123
  go_wp2_with fail
  go_loop [3] (fun x => ∃ m : Nat, m ≤ l.length ∧ x = .int .i64 (m : Int) ∧ trimD (l.take m) = trimD l) (fun x => (intOf x).toNat)
  case atStart => exact ⟨l.length, Nat.le_refl _, rfl, by rw [List.take_length]⟩
  case round =>
   obtain ⟨m, hm, rfl, ht⟩ := hrel
   have Ht := Lib.hid ht
   clear ht
   match m, hm, Ht with
   | 0, hm, Ht =>
    have hT := Lib.hid (trimmed_of (c := c) hm hlc Ht.out.symm hg Hc.out)
    go_wp2_with fail
    go_ret
    exact ⟨hT.out, rfl⟩
   | k + 1, hm, Ht =>
    have hcell := Hc.out k _ (ints_get l k (by omega))
    have hi : (((k + 1 : Nat) : Int) - 1).toNat = k := by omega
    by_cases hz : l[k] = 0
    ·have hstep := trimD_take_zero l k (by omega) hz
     rw [hz] at hcell
     have Hstep := Lib.hid (hstep.symm.trans Ht.out)
     clear hstep hz
     go_wp2_with fail
     go_round
     case rel => exact ⟨k, by omega, congrArg (Value.int .i64) (by omega), Hstep.out⟩
     case measure => simp [intOf]
    ·have hstep := trimD_take_ne l k (by omega) hz
     have hT := Lib.hid (trimmed_of (c := c) hm hlc (Ht.out.symm.trans hstep) hg Hc.out)
     have hne : (((l[k] : Nat) : Int) == 0) = false := by rw [beq_eq_false_iff_ne]; omega
     generalize l[k] = d at *
     clear hstep hz
     go_wp2_with fail
     go_ret
     exact ⟨hT.out, rfl⟩
end Go.Proofs.YteknldaoegccaaaGreatDoor
