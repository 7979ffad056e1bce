/- Parts of a proof about this translation: Rd, Or, Oq. -/
import Derived.Lib.Hide
import Derived.Test.YteknldaoegccaaaGreatDoorW13
set_option linter.unusedVariables false
set_option linter.unusedSimpArgs false
set_option maxRecDepth 100000
namespace Go.Proofs.YteknldaoegccaaaGreatDoor
open Go.RowKit
set_option maxHeartbeats 4000000 in
theorem QAdd_c (a b : Rat) (ha : FitQ 10000000000 a) (hb : FitQ 10000000000 b) (w : World) :
  Calls Tryz.prog 105 #[rv a, rv b] w fun e w' => e = .returned (rv (a + b)) ∧ Keep [] w w' := by
 obtain ⟨f1, f2, f3⟩ := cr_fit ha hb
 have Hc := Lib.hid (cross_c a b ha hb)
 have Hs := Lib.hid (Add_c (crX a b) (crY a b) (f1.mono (by decide)) (f2.mono (by decide)))
 have Hn := Lib.hid (canonical_c (crX a b + crY a b) (crD a b) ((f1.add f2).mono (by decide)) (f3.mono (by decide)) (crD_pos a b))
 rw [cr_add] at Hn
 unfold rv zv at *
 generalize crX a b + crY a b = z at *
 generalize crX a b = x at *
 generalize crY a b = y at *
 generalize crD a b = d at *
 generalize sgB (x) = nx at *
 generalize mgS (x) = sx at *
 generalize sgB (y) = ny at *
 generalize mgS (y) = sy at *
 generalize sgB (d) = nd at *
 generalize mgS (d) = sd at *
 generalize sgB (z) = nz at *
 generalize mgS (z) = sz at *
 generalize sgB (a + b).num = nr at *
 generalize mgS (a + b).num = sr at *
 generalize dnS (a + b).den = dr at *
 generalize sgB (a).num = na at *
 generalize mgS (a).num = sa at *
 generalize dnS (a).den = da at *
 generalize sgB (b).num = nb at *
 generalize mgS (b).num = sb at *
 generalize dnS (b).den = db at *
 clear f1 f2 f3 ha hb
 go_enter Tryz.func105, Tryz.ntmps105
 go_wp2_with fail
 obtain ⟨W, ga, gb, gc, hW, ega, egb, egc, bga, bgb, bgc, hga, hgb, hgc, hgW, hkW⟩ := al3 w (.cells #[.bool na, .string sa, .bool false, .string da] 29) (.cells #[.bool nb, .string sb, .bool false, .string db] 29) (.cells #[.bool false, .string ⟨#[]⟩, .bool false, .string ⟨#[]⟩] 29)
 rw [← hW]
 try rw [egc]
 try rw [egb]
 try rw [ega]
 have Bga := Lib.hid bga
 have Bgb := Lib.hid bgb
 have Bgc := Lib.hid bgc
 have HkW := Lib.hid hkW
 clear hW hkW ega egb egc bga bgb bgc
 refine (Hc.out W).mono ?_
 rintro e w1 ⟨rfl, hk1⟩
 dsimp only
 clear Hc
 have B2ga := Lib.hid (hk1.heap Bga.out (by simp))
 have B2gb := Lib.hid (hk1.heap Bgb.out (by simp))
 have B2gc := Lib.hid (hk1.heap Bgc.out (by simp))
 have HkW2 := Lib.hid (HkW.out.trans0 hk1)
 clear HkW hk1 Bga Bgb Bgc
 have Bga := B2ga
 have Bgb := B2gb
 have Bgc := B2gc
 have HkW := HkW2
 clear HkW2 B2ga B2gb B2gc
 go_wp2_with fail
 obtain ⟨W2, gd, ge, gf, hW2, egd, ege, egf, bgd, bge, bgf, hgd, hge, hgf, hgW2, hkW2⟩ := al3 w1 (.cells #[.bool nx, .string sx] 27) (.cells #[.bool ny, .string sy] 27) (.cells #[.bool nd, .string sd] 27)
 rw [← hW2]
 try rw [egf]
 try rw [ege]
 try rw [egd]
 have Bgd := Lib.hid bgd
 have Bge := Lib.hid bge
 have Bgf := Lib.hid bgf
 clear hW2 egd ege egf bgd bge bgf
 have B2ga := Lib.hid (hkW2.heap Bga.out (by simp))
 have B2gb := Lib.hid (hkW2.heap Bgb.out (by simp))
 have B2gc := Lib.hid (hkW2.heap Bgc.out (by simp))
 have HkW2 := Lib.hid (HkW.out.trans0 hkW2)
 clear HkW hkW2 Bga Bgb Bgc
 have Bga := B2ga
 have Bgb := B2gb
 have Bgc := B2gc
 have HkW := HkW2
 clear HkW2 B2ga B2gb B2gc
 have kgd := kw_cells Bgd.out
 have kge := kw_cells Bge.out
 have kgf := kw_cells Bgf.out
 have Q1 : Hid (∀ m : KW W2, Calls Tryz.prog 130 #[.agg #[.bool nx, .string sx], .agg #[.bool ny, .string sy]] (Wk W2 m) fun e w' => e = .returned (.agg #[.bool nz, .string sz]) ∧ ∃ m, w' = Wk W2 m) := fun m => qk m (Hs.out _)
 have Q2 : Hid (∀ m : KW W2, Calls Tryz.prog 129 #[.agg #[.bool nz, .string sz], .agg #[.bool nd, .string sd]] (Wk W2 m) fun e w' => e = .returned (.agg #[.bool nr, .string sr, .bool false, .string dr]) ∧ ∃ m, w' = Wk W2 m) := fun m => qk m (Hn.out _)
 clear Hs Hn
 go_wp2_with fail
 refine wp_region_keep_tail 5 (by kernel_rfl) (by kernel_rfl) ?_
 simp only [List.take_succ_cons, List.take_zero, List.drop_succ_cons, List.drop_zero]
 repeat (first
  | go_big_quiet_skip
  | (go_big_quiet_want; go_big_quiet_op; first | go_big_quiet_on | go_big_quiet_call (first
   | (go_at_call 130; with_reducible exact (Q1).out _) | (go_at_call 129; with_reducible exact (Q2).out _))))
 refine wpQuiet_nil ?_
 rintro wz ⟨⟨_, hk_wz⟩, rfl⟩
 clear kgd kge kgf Q1 Q2
 have B2ga := Lib.hid (hk_wz.heap Bga.out (by simp))
 have B2gb := Lib.hid (hk_wz.heap Bgb.out (by simp))
 have B2gc := Lib.hid (hk_wz.heap Bgc.out (by simp))
 have HkW2 := Lib.hid (HkW.out.trans0 hk_wz)
 clear HkW hk_wz Bga Bgb Bgc
 have Bga := B2ga
 have Bgb := B2gb
 have Bgc := B2gc
 have HkW := HkW2
 clear HkW2 B2ga B2gb B2gc
 have pgc := cell_of Bgc.out
 have fgc := frozen_of Bgc.out
 have lgc := lt_of_heap Bgc.out
 go_wp2_with fail
 refine bodyPost_ret (v := .agg #[.bool nr, .string sr, .bool false, .string dr]) ?_ rfl ⟨rfl, by repeat (first | (with_reducible exact HkW.out) | (refine Keep.setPast ?_ _ _ _ (by omega)) | (refine Keep.allocPast ?_ _) | (refine Keep.drewPast ?_))⟩
 rw [results_cell1 rfl]; go_simp
set_option maxHeartbeats 4000000 in
theorem QNeg_c (a : Rat) (w : World) :
  Calls Tryz.prog 102 #[rv a] w fun e w' => e = .returned (rv (-a)) ∧ Keep [] w w' := by
 have Hn := Lib.hid (Negate_c a.num)
 unfold rv zv at *
 rw [Rat.neg_num, Rat.neg_den]
 generalize sgB (-a.num) = nr at *
 generalize mgS (-a.num) = sr at *
 generalize sgB (a).num = na at *
 generalize mgS (a).num = sa at *
 generalize dnS (a).den = da at *
 go_enter Tryz.func102, Tryz.ntmps102
 go_wp2_with fail
 obtain ⟨W, ga, gb, hW, ega, egb, bga, bgb, hga, hgb, hgW, hkW⟩ := al2 w (.cells #[.bool na, .string sa, .bool false, .string da] 29) (.cells #[.bool false, .string ⟨#[]⟩, .bool false, .string ⟨#[]⟩] 29)
 rw [← hW]
 try rw [egb]
 try rw [ega]
 have Bga := Lib.hid bga
 have Bgb := Lib.hid bgb
 have HkW := Lib.hid hkW
 clear hW hkW ega egb bga bgb
 have kga := kw_cells Bga.out
 have Q1 : Hid (∀ m : KW W, Calls Tryz.prog 125 #[.agg #[.bool na, .string sa]] (Wk W m) fun e w' => e = .returned (.agg #[.bool nr, .string sr]) ∧ ∃ m, w' = Wk W m) := fun m => qk m (Hn.out _)
 clear Hn
 refine wp_region_keep_tail 6 (by kernel_rfl) (by kernel_rfl) ?_
 simp only [List.take_succ_cons, List.take_zero, List.drop_succ_cons, List.drop_zero]
 repeat (first
  | go_big_quiet_skip
  | (go_big_quiet_want; go_big_quiet_op; first | go_big_quiet_on | go_big_quiet_call (first
   | (go_at_call 125; with_reducible exact (Q1).out _))))
 refine wpQuiet_nil ?_
 rintro wz ⟨⟨_, hk_wz⟩, rfl⟩
 clear kga Q1
 have B2ga := Lib.hid (hk_wz.heap Bga.out (by simp))
 have B2gb := Lib.hid (hk_wz.heap Bgb.out (by simp))
 have HkW2 := Lib.hid (HkW.out.trans0 hk_wz)
 clear HkW hk_wz Bga Bgb
 have Bga := B2ga
 have Bgb := B2gb
 have HkW := HkW2
 clear HkW2 B2ga B2gb
 have pgb := cell_of Bgb.out
 have fgb := frozen_of Bgb.out
 have lgb := lt_of_heap Bgb.out
 go_wp2_with fail
 refine bodyPost_ret (v := .agg #[.bool nr, .string sr, .bool false, .string da]) ?_ rfl ⟨rfl, by repeat (first | (with_reducible exact HkW.out) | (refine Keep.setPast ?_ _ _ _ (by omega)) | (refine Keep.allocPast ?_ _) | (refine Keep.drewPast ?_))⟩
 rw [results_cell1 rfl]; go_simp
set_option maxHeartbeats 4000000 in
theorem QMul_c (a b : Rat) (ha : FitQ 10000000000 a) (hb : FitQ 10000000000 b) (w : World) :
  Calls Tryz.prog 106 #[rv a, rv b] w fun e w' => e = .returned (rv (a * b)) ∧ Keep [] w w' := by
 have h1 := a.den_pos
 have h2 := b.den_pos
 have Hm1 := Lib.hid (Mul_c a.num b.num (ha.1.mono (by decide)) (hb.1.mono (by decide)))
 have Hm2 := Lib.hid (Mul_c a.den b.den (ha.2.mono (by decide)) (hb.2.mono (by decide)))
 have Hn := Lib.hid (canonical_c (a.num * b.num) ((a.den : Int) * b.den) ((ha.1.mul hb.1).mono (by decide)) ((ha.2.mul hb.2).mono (by decide)) (Int.mul_pos (by omega) (by omega)))
 rw [mul_eq] at Hn
 have Hda := Lib.hid (Den_c a)
 have Hdb := Lib.hid (Den_c b)
 unfold rv zv at *
 generalize sgB (a.num * b.num) = nx at *
 generalize mgS (a.num * b.num) = sx at *
 generalize sgB ((a.den : Int) * b.den) = ny at *
 generalize mgS ((a.den : Int) * b.den) = sy at *
 generalize sgB ((a.den : Int)) = nd at *
 generalize mgS ((a.den : Int)) = sd at *
 generalize sgB ((b.den : Int)) = ne at *
 generalize mgS ((b.den : Int)) = se at *
 generalize sgB (a * b).num = nr at *
 generalize mgS (a * b).num = sr at *
 generalize dnS (a * b).den = dr at *
 generalize sgB (a).num = na at *
 generalize mgS (a).num = sa at *
 generalize dnS (a).den = da at *
 generalize sgB (b).num = nb at *
 generalize mgS (b).num = sb at *
 generalize dnS (b).den = db at *
 clear h1 h2 ha hb
 go_enter Tryz.func106, Tryz.ntmps106
 go_wp2_with fail
 obtain ⟨W, ga, gb, gc, hW, ega, egb, egc, bga, bgb, bgc, hga, hgb, hgc, hgW, hkW⟩ := al3 w (.cells #[.bool na, .string sa, .bool false, .string da] 29) (.cells #[.bool nb, .string sb, .bool false, .string db] 29) (.cells #[.bool false, .string ⟨#[]⟩, .bool false, .string ⟨#[]⟩] 29)
 rw [← hW]
 try rw [egc]
 try rw [egb]
 try rw [ega]
 have Bga := Lib.hid bga
 have Bgb := Lib.hid bgb
 have Bgc := Lib.hid bgc
 have HkW := Lib.hid hkW
 clear hW hkW ega egb egc bga bgb bgc
 have kga := kw_cells Bga.out
 have kgb := kw_cells Bgb.out
 have Q1 : Hid (∀ m : KW W, Calls Tryz.prog 131 #[.agg #[.bool na, .string sa], .agg #[.bool nb, .string sb]] (Wk W m) fun e w' => e = .returned (.agg #[.bool nx, .string sx]) ∧ ∃ m, w' = Wk W m) := fun m => qk m (Hm1.out _)
 have Q2 : Hid (∀ m : KW W, Calls Tryz.prog 131 #[.agg #[.bool nd, .string sd], .agg #[.bool ne, .string se]] (Wk W m) fun e w' => e = .returned (.agg #[.bool ny, .string sy]) ∧ ∃ m, w' = Wk W m) := fun m => qk m (Hm2.out _)
 have Q3 : Hid (∀ m : KW W, Calls Tryz.prog 132 #[.agg #[.bool na, .string sa, .bool false, .string da]] (Wk W m) fun e w' => e = .returned (.agg #[.bool nd, .string sd]) ∧ ∃ m, w' = Wk W m) := fun m => qk m (Hda.out _)
 have Q4 : Hid (∀ m : KW W, Calls Tryz.prog 132 #[.agg #[.bool nb, .string sb, .bool false, .string db]] (Wk W m) fun e w' => e = .returned (.agg #[.bool ne, .string se]) ∧ ∃ m, w' = Wk W m) := fun m => qk m (Hdb.out _)
 have Q5 : Hid (∀ m : KW W, Calls Tryz.prog 129 #[.agg #[.bool nx, .string sx], .agg #[.bool ny, .string sy]] (Wk W m) fun e w' => e = .returned (.agg #[.bool nr, .string sr, .bool false, .string dr]) ∧ ∃ m, w' = Wk W m) := fun m => qk m (Hn.out _)
 clear Hm1 Hm2 Hn Hda Hdb
 refine wp_region_keep_tail 11 (by kernel_rfl) (by kernel_rfl) ?_
 simp only [List.take_succ_cons, List.take_zero, List.drop_succ_cons, List.drop_zero]
 repeat (first
  | go_big_quiet_skip
  | (go_big_quiet_want; go_big_quiet_op; first | go_big_quiet_on | go_big_quiet_call (first
   | (go_at_call 131; with_reducible exact (Q1).out _) | (go_at_call 131; with_reducible exact (Q2).out _) | (go_at_call 132; with_reducible exact (Q3).out _) | (go_at_call 132; with_reducible exact (Q4).out _) | (go_at_call 129; with_reducible exact (Q5).out _))))
 refine wpQuiet_nil ?_
 rintro wz ⟨⟨_, hk_wz⟩, rfl⟩
 clear kga kgb Q1 Q2 Q3 Q4 Q5
 have B2ga := Lib.hid (hk_wz.heap Bga.out (by simp))
 have B2gb := Lib.hid (hk_wz.heap Bgb.out (by simp))
 have B2gc := Lib.hid (hk_wz.heap Bgc.out (by simp))
 have HkW2 := Lib.hid (HkW.out.trans0 hk_wz)
 clear HkW hk_wz Bga Bgb Bgc
 have Bga := B2ga
 have Bgb := B2gb
 have Bgc := B2gc
 have HkW := HkW2
 clear HkW2 B2ga B2gb B2gc
 have pgc := cell_of Bgc.out
 have fgc := frozen_of Bgc.out
 have lgc := lt_of_heap Bgc.out
 go_wp2_with fail
 refine bodyPost_ret (v := .agg #[.bool nr, .string sr, .bool false, .string dr]) ?_ rfl ⟨rfl, by repeat (first | (with_reducible exact HkW.out) | (refine Keep.setPast ?_ _ _ _ (by omega)) | (refine Keep.allocPast ?_ _) | (refine Keep.drewPast ?_))⟩
 rw [results_cell1 rfl]; go_simp
end Go.Proofs.YteknldaoegccaaaGreatDoor
namespace Go.Proofs.YteknldaoegccaaaGreatDoor
theorem rmul_le {a b c : Rat} (h : a ≤ b) (hc : 0 ≤ c) : a * c ≤ b * c := Rat.mul_le_mul_of_nonneg_right h hc
theorem rmul_pos {a b : Rat} (h : 0 < a) (h2 : 0 < b) : 0 < a * b := Rat.mul_pos h h2
theorem rmul_nn {a b : Rat} (h : 0 ≤ a) (h2 : 0 ≤ b) : 0 ≤ a * b := Rat.mul_nonneg h h2
theorem sq_nn (a : Rat) : 0 ≤ a * a := by
 rcases Rat.le_total (a := 0) (b := a) with h | h
 ·exact rmul_nn h h
 ·have := rmul_nn (a := -a) (b := -a) (by grind) (by grind)
  grind
theorem sq_lt {a b : Rat} (h : 0 ≤ a) (h2 : a < b) : a * a < b * b := by
 have h3 : 0 < b - a := by grind
 have h4 : 0 < b + a := by grind
 have := rmul_pos h3 h4
 grind
theorem sq_le {a b : Rat} (h : 0 ≤ a) (h2 : a ≤ b) : a * a ≤ b * b := by
 have := rmul_nn (a := b - a) (b := b + a) (by grind) (by grind)
 grind
theorem lt_of_sq {a b : Rat} (h : 0 ≤ b) (h2 : a * a < b * b) : a < b := by
 rcases Rat.le_total (a := b) (b := a) with h3 | h3
 ·have := sq_le h h3
  grind
 ·by_cases h4 : a = b
  ·subst h4; grind
  ·grind
theorem le_of_sq {a b : Rat} (h : 0 ≤ b) (h2 : a * a ≤ b * b) : a ≤ b := by
 by_cases h3 : a ≤ b
 ·exact h3
 ·have := sq_lt h (show b < a by grind)
  grind
def Pos (a b r : Rat) : Prop := (0 < a ∧ (0 ≤ b ∨ b * b * r < a * a)) ∨ (a ≤ 0 ∧ 0 < b ∧ a * a < b * b * r)
structure Near (r t e : Rat) : Prop where
 nn : 0 ≤ t
 le : t * t ≤ r
 lt : r < (t + e) * (t + e)
theorem Near.top {r t e : Rat} (h : Near r t e) (hr : 0 ≤ r) : t ≤ r + 1 := by
 refine le_of_sq (by grind) ?_
 have := h.le
 have := sq_nn r
 grind
theorem ex_div {d m : Rat} (hd : 0 < d) (hm : 0 < m) : ∃ g, 0 < g ∧ g * m ≤ d := by
 refine ⟨d / m, ?_, ?_⟩
 ·rw [Rat.lt_div_iff hm]; grind
 ·rw [Rat.div_mul_cancel (by grind)]; grind
theorem ex_small {d m : Rat} (hd : 0 < d) (hm : 0 < m) : ∃ g, 0 < g ∧ g ≤ 1 ∧ g * m ≤ d := by
 obtain ⟨g, h1, h2⟩ := ex_div hd hm
 by_cases h : g ≤ 1
 ·exact ⟨g, h1, h, h2⟩
 ·refine ⟨1, by grind, by grind, ?_⟩
  have := rmul_le (show (1 : Rat) ≤ g by grind) (Rat.le_of_lt hm)
  grind
theorem Pos.gap {a b r : Rat} (hr : 0 ≤ r) (h : Pos a b r) : ∃ g e0 : Rat, 0 < g ∧ 0 < e0 ∧ ∀ e t, 0 < e → e ≤ e0 → Near r t e → g ≤ a + b * t := by
 rcases h with ⟨ha, hb | hb⟩ | ⟨ha, hb, hab⟩
 ·refine ⟨a, 1, ha, by grind, fun e t he _ hn => ?_⟩
  have := rmul_nn hb hn.nn
  grind
 ·obtain ⟨g, hg, hgm⟩ := ex_div (d := a * a - b * b * r) (m := 2 * a) (by grind) (by grind)
  refine ⟨g, 1, hg, by grind, fun e t he _ hn => ?_⟩
  have h1 : b * b * (t * t) ≤ b * b * r := by
   have := rmul_le hn.le (sq_nn b)
   grind
  have h2 : b * t < a := lt_of_sq (Rat.le_of_lt ha) (by grind)
  have h3 : -(b * t) < a := lt_of_sq (Rat.le_of_lt ha) (by grind)
  have h4 := rmul_nn (a := a + b * t) (b := a + b * t) (by grind) (by grind)
  by_cases h5 : g ≤ a + b * t
  ·exact h5
  ·exfalso
   have h6 := rmul_pos (a := g - (a + b * t)) (b := 2 * a) (by grind) (by grind)
   grind
 ·obtain ⟨g, hg, hgm⟩ := ex_div (d := b * b * r - a * a) (m := 2 * (b * (r + 2) - a + 1)) (by grind) (by
   have := rmul_nn (a := b) (b := r + 2) (by grind) (by grind)
   grind)
  obtain ⟨e0, he0, he1, heb⟩ := ex_small hg hb
  refine ⟨g, e0, hg, he0, fun e t he hle hn => ?_⟩
  have h1 : b * e ≤ g := by
   have := rmul_le hle (Rat.le_of_lt hb)
   grind
  have h2 := hn.top hr
  have h3 : b * (t + e) ≤ b * (r + 2) := by
   have := rmul_le (a := t + e) (b := r + 2) (c := b) (by grind) (Rat.le_of_lt hb)
   grind
  have h4 : b * b * r ≤ b * b * ((t + e) * (t + e)) := by
   have := rmul_le (Rat.le_of_lt hn.lt) (sq_nn b)
   grind
  have h5 : 0 ≤ b * (t + e) := rmul_nn (Rat.le_of_lt hb) (by have := hn.nn; grind)
  by_cases h6 : g ≤ a + b * t
  ·exact h6
  ·exfalso
   -- W = b (t + e) + a < 2 g
   have h7 : b * (t + e) + a < 2 * g := by grind
   have h8 : 0 < b * (t + e) + a := by
    have : -a < b * (t + e) := lt_of_sq h5 (by grind)
    grind
   have h9 := rmul_nn (a := b * (t + e) + a) (b := (b * (r + 2) - a + 1) - (b * (t + e) - a)) (by grind) (by grind)
   have h10 := rmul_pos (a := 2 * g - (b * (t + e) + a)) (b := b * (r + 2) - a + 1) (by grind) (by grind)
   grind
theorem Near.zero {t e : Rat} (h : Near 0 t e) : t = 0 := by
 have h1 := h.le
 have h2 := h.nn
 by_cases h3 : t = 0
 ·exact h3
 ·have := rmul_pos (a := t) (b := t) (by grind) (by grind)
  grind
inductive Pos3 (a b r c s : Rat) : Prop
 | same (h : Pos a b r) (hc : s = 0 ∨ c = 1)
 | none (h1 : ¬ Pos a b r) (h2 : ¬ Pos (-a) (-b) r) (hc : c = 1) (hs : 0 < s)
 | less (h : Pos a b r) (hc : c = -1) (hs : 0 < s) (h2 : Pos (a * a + r - s) (2 * (a * b)) r)
 | more (h : Pos (-a) (-b) r) (hc : c = 1) (hs : 0 < s) (h2 : Pos (-(a * a + r - s)) (-(2 * (a * b))) r)
theorem ex_min {x y : Rat} (hx : 0 < x) (hy : 0 < y) : ∃ e, 0 < e ∧ e ≤ x ∧ e ≤ y := by
 by_cases h : x ≤ y
 ·exact ⟨x, hx, by grind, h⟩
 ·exact ⟨y, hy, by grind, by grind⟩
theorem near_none {a b r t e : Rat} (hb : b = 1 ∨ b = -1) (h1 : ¬ Pos a b r) (h2 : ¬ Pos (-a) (-b) r) (he : 0 < e) (ht : Near r t e) : -e ≤ a + b * t := by
 have t1 := ht.nn
 have t2 := ht.le
 have t3 := ht.lt
 unfold Pos at h1 h2
 rcases hb with rfl | rfl
 ·have ha : a ≤ 0 := by grind
  by_cases h0 : a = 0
  ·subst h0; grind
  ·have h4 : (-a) * (-a) ≤ r := by grind
   have h5 : -a < t + e := lt_of_sq (by grind) (by grind)
   grind
 ·have ha : 0 ≤ a := by grind
  have h4 : r ≤ a * a := by grind
  have h5 : t ≤ a := le_of_sq ha (by grind)
  grind
theorem abs_le_sq (a : Rat) : a ≤ a * a + 1 ∧ -a ≤ a * a + 1 := by
 have h1 := sq_nn (a - 1)
 have h2 := sq_nn (a + 1)
 have h3 := sq_nn a
 constructor <;> grind
theorem prod_gap {x y g M d : Rat} (h : d ≤ x * y) (hd : 0 < d) (hy : 0 ≤ y) (hM : y ≤ M) (hM0 : 0 < M) (hg : g * M ≤ d) (hg0 : 0 < g) : g ≤ x := by
 by_cases h1 : g ≤ x
 ·exact h1
 ·exfalso
  by_cases h2 : x ≤ 0
  ·have := rmul_nn (a := -x) (b := y) (by grind) hy
   grind
  ·have h3 := rmul_nn (a := x) (b := M - y) (by grind) (by grind)
   have h4 := rmul_pos (a := g - x) (b := M) (by grind) hM0
   grind
theorem Pos3.gap {a b r c s : Rat} (hr : 0 ≤ r) (hs0 : 0 ≤ s) (hb : b = 1 ∨ b = -1) (h : Pos3 a b r c s) :
  ∃ g e0 : Rat, 0 < g ∧ 0 < e0 ∧ ∀ e t u, 0 < e → e ≤ e0 → Near r t e → Near s u e → g ≤ a + b * t + c * u := by
 have hbb : b * b = 1 := by rcases hb with rfl | rfl <;> grind
 cases h with
 | same h hc =>
  obtain ⟨g, e0, hg, he0, k⟩ := h.gap hr
  refine ⟨g, e0, hg, he0, fun e t u he hle ht hu => ?_⟩
  have k1 := k e t he hle ht
  rcases hc with rfl | rfl
  ·rw [hu.zero]; grind
  ·have := hu.nn; grind
 | none h1 h2 hc hs =>
  subst hc
  obtain ⟨g, e0, hg, he0, k⟩ := Pos.gap (a := 0) (b := 1) (r := s) hs0 (.inr ⟨by grind, by grind, by grind⟩)
  obtain ⟨e1, h4, h5, h6⟩ := ex_min he0 (show 0 < g / 2 by grind)
  refine ⟨g / 2, e1, by grind, h4, fun e t u he hle ht hu => ?_⟩
  have k1 := k e u he (by grind) hu
  have k2 := near_none hb h1 h2 he ht
  grind
 | less h hc hs h2 =>
  subst hc
  obtain ⟨g1, e1, hg1, he1, k1⟩ := h.gap hr
  obtain ⟨g2, e2, hg2, he2, k2⟩ := h2.gap hr
  obtain ⟨e3, he3, h31, h32⟩ := ex_small (d := g2 / 2) (m := 2 * (r + 1) + 1) (by grind) (by grind)
  obtain ⟨e4, he4, h41, h42⟩ := ex_min he1 he2
  obtain ⟨e5, he5, h51, h52⟩ := ex_min he3 he4
  have hM0 : 0 < a * a + r + s + 4 := by have := sq_nn a; grind
  obtain ⟨g, hg, hgM⟩ := ex_div (d := g2 / 2) (m := a * a + r + s + 4) (by grind) hM0
  refine ⟨g, e5, hg, he5, fun e t u he hle ht hu => ?_⟩
  have p1 := k1 e t he (by grind) ht
  have p2 := k2 e t he (by grind) ht
  have t1 := ht.nn
  have t2 := ht.le
  have t3 := ht.lt
  have t4 := ht.top hr
  have u1 := hu.nn
  have u2 := hu.le
  have u4 := hu.top hs0
  have q1 : e * (2 * t + e) ≤ e3 * (2 * (r + 1) + 1) := by
   have x1 := rmul_le (a := e) (b := e3) (c := 2 * t + e) (by grind) (by grind)
   have x2 := rmul_le (a := 2 * t + e) (b := 2 * (r + 1) + 1) (c := e3) (by grind) (by grind)
   grind
  have q2 : (a + b * t) * (a + b * t) = a * a + 2 * (a * b) * t + t * t := by
   have : (a + b * t) * (a + b * t) = a * a + 2 * (a * b) * t + (b * b) * (t * t) := by grind
   rw [this, hbb]; grind
  have q3 : g2 / 2 ≤ ((a + b * t) - u) * ((a + b * t) + u) := by grind
  have q4 : b * t ≤ t := by rcases hb with rfl | rfl <;> grind
  have q5 := abs_le_sq a
  have := prod_gap q3 (by grind) (by grind) (M := a * a + r + s + 4) (by grind) hM0 hgM hg
  grind
 | more h hc hs h2 =>
  subst hc
  obtain ⟨g1, e1, hg1, he1, k1⟩ := h.gap hr
  obtain ⟨g2, e2, hg2, he2, k2⟩ := h2.gap hr
  obtain ⟨e3, he3, h31, h32⟩ := ex_small (d := g2 / 2) (m := 2 * (s + 1) + 1) (by grind) (by grind)
  obtain ⟨e4, he4, h41, h42⟩ := ex_min he1 he2
  obtain ⟨e5, he5, h51, h52⟩ := ex_min he3 he4
  have hM0 : 0 < a * a + r + s + 4 := by have := sq_nn a; grind
  obtain ⟨g, hg, hgM⟩ := ex_div (d := g2 / 2) (m := a * a + r + s + 4) (by grind) hM0
  refine ⟨g, e5, hg, he5, fun e t u he hle ht hu => ?_⟩
  have p1 := k1 e t he (by grind) ht
  have p2 := k2 e t he (by grind) ht
  have t1 := ht.nn
  have t2 := ht.le
  have t4 := ht.top hr
  have u1 := hu.nn
  have u2 := hu.le
  have u3 := hu.lt
  have u4 := hu.top hs0
  have q1 : e * (2 * u + e) ≤ e3 * (2 * (s + 1) + 1) := by
   have x1 := rmul_le (a := e) (b := e3) (c := 2 * u + e) (by grind) (by grind)
   have x2 := rmul_le (a := 2 * u + e) (b := 2 * (s + 1) + 1) (c := e3) (by grind) (by grind)
   grind
  have q2 : (a + b * t) * (a + b * t) = a * a + 2 * (a * b) * t + t * t := by
   have : (a + b * t) * (a + b * t) = a * a + 2 * (a * b) * t + (b * b) * (t * t) := by grind
   rw [this, hbb]; grind
  have q3 : g2 / 2 ≤ (u + (a + b * t)) * (u - (a + b * t)) := by grind
  have q4 : -(b * t) ≤ t := by rcases hb with rfl | rfl <;> grind
  have q5 := abs_le_sq a
  have := prod_gap q3 (by grind) (by grind) (M := a * a + r + s + 4) (by grind) hM0 hgM hg
  grind
end Go.Proofs.YteknldaoegccaaaGreatDoor
namespace Go.Proofs.YteknldaoegccaaaGreatDoor
theorem Pos.mono {a a' b r : Rat} (hr : 0 ≤ r) (h : Pos a b r) (ha : a ≤ a') : Pos a' b r := by
 rcases h with ⟨h1, h2 | h2⟩ | ⟨h1, h2, h3⟩
 ·exact .inl ⟨by grind, .inl h2⟩
 ·refine .inl ⟨by grind, .inr ?_⟩
  have := sq_le (Rat.le_of_lt h1) ha
  grind
 ·by_cases h4 : 0 < a'
  ·exact .inl ⟨h4, .inl (by grind)⟩
  ·refine .inr ⟨by grind, h2, ?_⟩
   have := sq_le (a := -a') (b := -a) (by grind) (by grind)
   grind
theorem near_pos {w r t e h : Rat} (hr : 0 ≤ r) (hw : w = 1 ∨ w = -1) (ht : Near r t e) (he : 0 < e) (hh : e ≤ h) : Pos (h + w * t) (-w) r := by
 have t1 := ht.nn
 have t2 := ht.le
 have t3 := ht.lt
 rcases hw with rfl | rfl
 ·refine .inl ⟨by grind, .inr ?_⟩
  have := sq_le (a := t + e) (b := h + 1 * t) (by grind) (by grind)
  grind
 ·by_cases h4 : 0 < h + -1 * t
  ·exact .inl ⟨h4, .inl (by grind)⟩
  ·refine .inr ⟨by grind, by grind, ?_⟩
   have := sq_lt (a := t - h) (b := t) (by grind) (by grind)
   grind
theorem ex_nat (x : Rat) : ∃ n : Nat, x ≤ n := by
 refine ⟨x.ceil.toNat, ?_⟩
 have h1 := @Rat.le_ceil x
 have h2 : (x.ceil : Rat) ≤ ((x.ceil.toNat : Int) : Rat) := by
  rw [Rat.intCast_le_intCast]; omega
 have h3 : ((x.ceil.toNat : Int) : Rat) = ((x.ceil.toNat : Nat) : Rat) := rfl
 grind
theorem ex_near {r e : Rat} (hr : 0 ≤ r) (he : 0 < e) : ∃ t, Near r t e := by
 have step : ∀ n : Nat, r < ((n : Rat) * e) * ((n : Rat) * e) → ∃ t, Near r t e := by
  intro n
  induction n with
  | zero => intro h; exfalso; have : ((0 : Nat) : Rat) = 0 := rfl; grind
  | succ n ih =>
   intro h
   by_cases h1 : r < ((n : Rat) * e) * ((n : Rat) * e)
   ·exact ih h1
   ·have hn : (0 : Rat) ≤ (n : Rat) := by exact Rat.natCast_nonneg
    have hc : ((n + 1 : Nat) : Rat) = (n : Rat) + 1 := by simp
    refine ⟨(n : Rat) * e, rmul_nn hn (Rat.le_of_lt he), by grind, ?_⟩
    rw [hc] at h
    grind
 obtain ⟨n, hn⟩ := ex_nat ((r + 1) / e)
 refine step n ?_
 have h1 : r + 1 ≤ (n : Rat) * e := by
  have := rmul_le hn (Rat.le_of_lt he)
  rw [Rat.div_mul_cancel (by grind)] at this
  exact this
 have := sq_le (a := r + 1) (b := (n : Rat) * e) (by grind) h1
 have := sq_nn r
 grind
structure Qn where
 p : Rat
 r : Rat
 neg : Bool
def Qn.u (x : Qn) : Rat := if x.neg then -1 else 1
theorem Qn.u_or (x : Qn) : x.u = 1 ∨ x.u = -1 := by unfold Qn.u; cases x.neg <;> simp
structure Qn.Ok (x : Qn) : Prop where
 nn : 0 ≤ x.r
 zero : x.r = 0 → x.neg = false
 sq : x.r ≠ 0 → ∀ q : Rat, q * q ≠ x.r
def Below1 (q : Rat) (x : Qn) : Prop := Pos (x.p - q) x.u x.r
def Above1 (q : Rat) (x : Qn) : Prop := Pos (q - x.p) (-x.u) x.r
theorem Below1.mono {q q' : Rat} {x : Qn} (hx : 0 ≤ x.r) (h : Below1 q x) (hq : q' ≤ q) : Below1 q' x := Pos.mono hx h (by grind)
theorem Above1.mono {q q' : Rat} {x : Qn} (hx : 0 ≤ x.r) (h : Above1 q x) (hq : q ≤ q') : Above1 q' x := Pos.mono hx h (by grind)
theorem below_above {q q' : Rat} {x : Qn} (hx : 0 ≤ x.r) (h : Below1 q x) (h' : Above1 q' x) : q < q' := by
 obtain ⟨g, e0, hg, he, k⟩ := Pos.gap hx h
 obtain ⟨g', e0', hg', he', k'⟩ := Pos.gap hx h'
 obtain ⟨e, h1, h2, h3⟩ := ex_min he he'
 obtain ⟨t, ht⟩ := ex_near hx h1
 have := k e t h1 h2 ht
 have := k' e t h1 h3 ht
 grind
def Lt (x y : Qn) : Prop := ∃ q, Above1 q x ∧ Below1 q y
theorem Lt.trans {x y z : Qn} (hx : 0 ≤ x.r) (hy : 0 ≤ y.r) (h : Lt x y) (h' : Lt y z) : Lt x z := by
 obtain ⟨q, h1, h2⟩ := h
 obtain ⟨q', h3, h4⟩ := h'
 exact ⟨q', h1.mono hx (Rat.le_of_lt (below_above hy h2 h3)), h4⟩
theorem Lt.irrefl {x : Qn} (hx : 0 ≤ x.r) (h : Lt x x) : False := by
 obtain ⟨q, h1, h2⟩ := h
 have := below_above hx h2 h1
 grind
theorem lt_of_pos3 {x y : Qn} (hx : 0 ≤ x.r) (hy : 0 ≤ y.r) (h : Pos3 (x.p - y.p) x.u x.r (-y.u) y.r) : Lt y x := by
 obtain ⟨g, e0, hg, he0, k⟩ := h.gap hx hy x.u_or
 obtain ⟨e, h1, h2, h3⟩ := ex_min he0 (show 0 < g / 2 by grind)
 obtain ⟨t, ht⟩ := ex_near hx h1
 obtain ⟨v, hv⟩ := ex_near hy h1
 have hk := k e t v h1 h2 ht hv
 refine ⟨y.p + y.u * v + g / 2, ?_, ?_⟩
 ·have := near_pos hy y.u_or hv h1 h3
  exact Pos.mono hy this (by grind)
 ·have hw : -x.u = 1 ∨ -x.u = -1 := by rcases x.u_or with h | h <;> rw [h] <;> simp
  have := near_pos hx hw ht h1 h3
  rw [Rat.neg_neg] at this
  exact Pos.mono hx this (by grind)
theorem lt_of_pos3' {x y : Qn} (hx : 0 ≤ x.r) (hy : 0 ≤ y.r) (h : Pos3 (-(x.p - y.p)) (-x.u) x.r (-(-y.u)) y.r) : Lt x y := by
 have hw : -x.u = 1 ∨ -x.u = -1 := by rcases x.u_or with h | h <;> rw [h] <;> simp
 obtain ⟨g, e0, hg, he0, k⟩ := h.gap hx hy hw
 obtain ⟨e, h1, h2, h3⟩ := ex_min he0 (show 0 < g / 2 by grind)
 obtain ⟨t, ht⟩ := ex_near hx h1
 obtain ⟨v, hv⟩ := ex_near hy h1
 have hk := k e t v h1 h2 ht hv
 refine ⟨x.p + x.u * t + g / 2, ?_, ?_⟩
 ·have := near_pos hx x.u_or ht h1 h3
  exact Pos.mono hx this (by grind)
 ·have hw' : -y.u = 1 ∨ -y.u = -1 := by rcases y.u_or with h | h <;> rw [h] <;> simp
  have := near_pos hy hw' hv h1 h3
  rw [Rat.neg_neg] at this
  exact Pos.mono hy this (by grind)
end Go.Proofs.YteknldaoegccaaaGreatDoor
