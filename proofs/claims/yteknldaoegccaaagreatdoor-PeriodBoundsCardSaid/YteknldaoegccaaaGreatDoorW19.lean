/- Parts of a proof about this translation: Oc, Re, Rl. -/
import Derived.Test.YteknldaoegccaaaGreatDoorW18
set_option linter.unusedVariables false
set_option linter.unusedSimpArgs false
namespace Go.Proofs.YteknldaoegccaaaGreatDoor
def sgn (q : Rat) : Int := if q < 0 then -1 else if 0 < q then 1 else 0
theorem sgn_cases (q : Rat) : (q < 0 ∧ sgn q = -1) ∨ (q = 0 ∧ sgn q = 0) ∨ (0 < q ∧ sgn q = 1) := by
 unfold sgn
 by_cases h : q < 0
 ·exact .inl ⟨h, if_pos h⟩
 ·rw [if_neg h]
  by_cases h2 : 0 < q
  ·exact .inr (.inr ⟨h2, if_pos h2⟩)
  ·exact .inr (.inl ⟨by grind, if_neg h2⟩)
def sg1 (a b r : Rat) : Int :=
 if sgn b * sgn r = 0 ∨ sgn a = sgn b * sgn r then sgn a else if sgn a = 0 then sgn b * sgn r else sgn a * sgn (a * a - b * b * r)
theorem sg1_cases {a b r : Rat} (hr : 0 ≤ r) :
  (sg1 a b r = 1 ∧ Pos a b r) ∨ (sg1 a b r = -1 ∧ Pos (-a) (-b) r) ∨ (sg1 a b r = 0 ∧ ¬ Pos a b r ∧ ¬ Pos (-a) (-b) r ∧ a * a = b * b * r ∧ (r = 0 ∨ a * b ≤ 0)) := by
 have f1 : a < 0 ∨ 0 < a → 0 < a * a := fun h => by
  rcases h with h | h
  ·have := rmul_pos (a := -a) (b := -a) (by grind) (by grind)
   grind
  ·exact rmul_pos h h
 have f2 : (b < 0 ∨ 0 < b) → 0 < r → 0 < b * b * r := fun h h2 => by
  rcases h with h | h
  ·have := rmul_pos (rmul_pos (a := -b) (b := -b) (by grind) (by grind)) h2
   grind
  ·exact rmul_pos (rmul_pos h h) h2
 have f3 : a < 0 → 0 < b → a * b < 0 := fun h h2 => by
  have := rmul_pos (a := -a) (b := b) (by grind) h2
  grind
 have f4 : 0 < a → b < 0 → a * b < 0 := fun h h2 => by
  have := rmul_pos (a := a) (b := -b) h (by grind)
  grind
 unfold sg1
 rcases sgn_cases a with ⟨a1, a2⟩ | ⟨a1, a2⟩ | ⟨a1, a2⟩ <;> rcases sgn_cases b with ⟨b1, b2⟩ | ⟨b1, b2⟩ | ⟨b1, b2⟩ <;> rcases sgn_cases r with ⟨r1, r2⟩ | ⟨r1, r2⟩ | ⟨r1, r2⟩ <;>
  rcases sgn_cases (a * a - b * b * r) with ⟨d1, d2⟩ | ⟨d1, d2⟩ | ⟨d1, d2⟩ <;> rw [a2, b2, r2, d2] <;> simp
 all_goals unfold Pos
 all_goals first | grind | (subst r1; grind) | (subst a1; grind) | (subst r1; simp; grind) | (subst a1; simp; grind)
def cmpQ (x y : Qn) : Int :=
 if sgn (-y.u) * sgn y.r = 0 ∨ sg1 (x.p - y.p) x.u x.r = sgn (-y.u) * sgn y.r then sg1 (x.p - y.p) x.u x.r
 else if sg1 (x.p - y.p) x.u x.r = 0 then sgn (-y.u) * sgn y.r
 else sg1 (x.p - y.p) x.u x.r * sg1 ((x.p - y.p) * (x.p - y.p) + x.r - y.r) (2 * ((x.p - y.p) * x.u)) x.r
theorem sgn_neg_one : sgn (-1) = -1 := by decide
theorem Qn.eq_of {x y : Qn} (hx : x.Ok) (hy : y.Ok) (hp : x.p = y.p) (hr : x.r = y.r) (hu : x.r ≠ 0 → x.u = y.u) : x = y := by
 obtain ⟨p, r, neg⟩ := x
 obtain ⟨p', r', neg'⟩ := y
 dsimp only at hp hr
 subst hp hr
 by_cases h : r = 0
 ·have h1 := hx.zero h
  have h2 := hy.zero h
  dsimp only at h1 h2
  rw [h1, h2]
 ·have := hu h
  unfold Qn.u at this
  dsimp only at this
  cases neg <;> cases neg' <;> simp_all <;> grind
theorem rsq_zero {a : Rat} (h : a * a = 0) : a = 0 := by
 by_cases h0 : a = 0
 ·exact h0
 ·exfalso
  rcases Rat.le_total (a := 0) (b := a) with h1 | h1
  ·have := rmul_pos (a := a) (b := a) (by grind) (by grind)
   grind
  ·have := rmul_pos (a := -a) (b := -a) (by grind) (by grind)
   grind
theorem no_root {A B r : Rat} (h : A * A = B * B * r) (hB : B ≠ 0) : (A / B) * (A / B) = r := by
 have h1 : A / B * B = A := Rat.div_mul_cancel hB
 have h2 : (A / B * B) * (A / B * B) = B * B * r := by rw [h1]; exact h
 have h3 : (B * B) * ((A / B) * (A / B) - r) = 0 := by grind
 have h4 : B * B ≠ 0 := fun e => hB (rsq_zero e)
 rcases Rat.mul_eq_zero.1 h3 with h5 | h5
 ·exact absurd h5 h4
 ·grind
theorem same_root {x y : Qn} (hx : x.Ok) (hy : y.Ok) (r1 : 0 < y.r) {a : Rat} (k4 : (a * a + x.r - y.r) * (a * a + x.r - y.r) = 2 * (a * x.u) * (2 * (a * x.u)) * x.r) : a = 0 ∧ x.r = y.r ∧ x.r ≠ 0 := by
 have hu := x.u_or
 by_cases h : x.r = 0
 ·exfalso
  rw [h] at k4
  have h1 : a * a + 0 - y.r = 0 := rsq_zero (by grind)
  exact hy.sq (by grind) a (by grind)
 ·have h0 : a = 0 := by
   by_cases h0 : a = 0
   ·exact h0
   ·exfalso
    have hB : 2 * (a * x.u) ≠ 0 := by rcases hu with e | e <;> rw [e] <;> grind
    exact hx.sq h _ (no_root k4 hB)
  subst h0
  have h1 : 0 * 0 + x.r - y.r = 0 := rsq_zero (by grind)
  exact ⟨rfl, by grind, h⟩
theorem cmpQ_cases {x y : Qn} (hx : x.Ok) (hy : y.Ok) : (cmpQ x y = 1 ∧ Lt y x) ∨ (cmpQ x y = -1 ∧ Lt x y) ∨ (cmpQ x y = 0 ∧ x = y) := by
 have hxn := hx.nn
 have hyn := hy.nn
 have hu := x.u_or
 have hu2 : x.u * x.u = 1 := by rcases hu with h | h <;> rw [h] <;> grind
 have g1 : Pos3 (x.p - y.p) x.u x.r (-y.u) y.r → Lt y x := lt_of_pos3 hxn hyn
 have g2 : Pos3 (-(x.p - y.p)) (-x.u) x.r (-(-y.u)) y.r → Lt x y := lt_of_pos3' hxn hyn
 unfold cmpQ
 generalize ha : x.p - y.p = a at *
 rcases sgn_cases y.r with ⟨r1, r2⟩ | ⟨r1, r2⟩ | ⟨r1, r2⟩
 ·exfalso; grind
 ·-- the second number is a fraction
  rw [r2, Int.mul_zero, if_pos (.inl rfl)]
  rcases sg1_cases (a := a) (b := x.u) hxn with ⟨m1, m2⟩ | ⟨m1, m2⟩ | ⟨m1, m2, m3, m4, m5⟩
  ·exact .inl ⟨m1, g1 (.same m2 (.inl r1))⟩
  ·exact .inr (.inl ⟨m1, g2 (.same m2 (.inl r1))⟩)
  ·refine .inr (.inr ⟨m1, ?_⟩)
   rw [hu2] at m4
   have hxr : x.r = 0 := by
    by_cases h : x.r = 0
    ·exact h
    ·exact absurd (by grind) (hx.sq h a)
   have ha0 : a = 0 := by
    by_cases h : a = 0
    ·exact h
    ·exfalso
     have : 0 < a * a := by
      rcases Rat.le_total (a := 0) (b := a) with h1 | h1
      ·exact rmul_pos (by grind) (by grind)
      ·have := rmul_pos (a := -a) (b := -a) (by grind) (by grind)
       grind
     grind
   exact Qn.eq_of hx hy (by grind) (by grind) (fun h => absurd hxr h)
 ·rcases y.u_or with hv | hv
  ·-- root is taken away
   have hn : sgn (-y.u) = -1 := by rw [hv]; exact sgn_neg_one
   rw [hn, r2]
   have hc : (-y.u : Rat) = -1 := by rw [hv]
   rcases sg1_cases (a := a) (b := x.u) hxn with ⟨m1, m2⟩ | ⟨m1, m2⟩ | ⟨m1, m2, m3, m4, m5⟩
   ·rw [m1, if_neg (by decide), if_neg (by decide)]
    rcases sg1_cases (a := a * a + x.r - y.r) (b := 2 * (a * x.u)) hxn with ⟨k1, k2⟩ | ⟨k1, k2⟩ | ⟨k1, k2, k3, k4, k5⟩
    ·rw [k1]; exact .inl ⟨by decide, g1 (.less m2 hc r1 k2)⟩
    ·rw [k1]
     refine .inr (.inl ⟨by decide, g2 (.more ?_ (by grind) r1 ?_)⟩)
     ·rw [Rat.neg_neg, Rat.neg_neg]; exact m2
     ·have e1 : -(-a * -a + x.r - y.r) = -(a * a + x.r - y.r) := by grind
      have e2 : -(2 * (-a * -x.u)) = -(2 * (a * x.u)) := by grind
      rw [e1, e2]; exact k2
    ·rw [k1]
     refine .inr (.inr ⟨by decide, ?_⟩)
     obtain ⟨z1, z2, z3⟩ := same_root hx hy r1 k4
     refine Qn.eq_of hx hy (by grind) z2 (fun _ => ?_)
     rw [z1] at m2
     unfold Pos at m2
     rcases hu with e | e
     ·rw [e, hv]
     ·rw [e] at m2; grind
   ·rw [m1, if_pos (.inr (by decide))]
    exact .inr (.inl ⟨rfl, g2 (.same m2 (.inr (by grind)))⟩)
   ·rw [m1, if_neg (by decide), if_pos rfl]
    refine .inr (.inl ⟨by decide, g2 (.none m3 ?_ (by grind) r1)⟩)
    rw [Rat.neg_neg, Rat.neg_neg]; exact m2
  ·have hn : sgn (-y.u) = 1 := by rw [hv]; decide
   rw [hn, r2]
   have hc : (-y.u : Rat) = 1 := by rw [hv]; decide
   rcases sg1_cases (a := a) (b := x.u) hxn with ⟨m1, m2⟩ | ⟨m1, m2⟩ | ⟨m1, m2, m3, m4, m5⟩
   ·rw [m1, if_pos (.inr (by decide))]
    exact .inl ⟨rfl, g1 (.same m2 (.inr hc))⟩
   ·rw [m1, if_neg (by decide), if_neg (by decide)]
    rcases sg1_cases (a := a * a + x.r - y.r) (b := 2 * (a * x.u)) hxn with ⟨k1, k2⟩ | ⟨k1, k2⟩ | ⟨k1, k2, k3, k4, k5⟩
    ·rw [k1]
     refine .inr (.inl ⟨by decide, g2 (.less m2 (by grind) r1 ?_)⟩)
     have e1 : -a * -a + x.r - y.r = a * a + x.r - y.r := by grind
     have e2 : 2 * (-a * -x.u) = 2 * (a * x.u) := by grind
     rw [e1, e2]; exact k2
    ·rw [k1]; exact .inl ⟨by decide, g1 (.more m2 hc r1 k2)⟩
    ·rw [k1]
     refine .inr (.inr ⟨by decide, ?_⟩)
     obtain ⟨z1, z2, z3⟩ := same_root hx hy r1 k4
     refine Qn.eq_of hx hy (by grind) z2 (fun _ => ?_)
     rw [z1] at m2
     unfold Pos at m2
     rcases hu with e | e
     ·rw [e] at m2; grind
     ·rw [e, hv]
   ·rw [m1, if_neg (by decide), if_pos rfl]
    exact .inl ⟨by decide, g1 (.none m2 m3 hc r1)⟩
end Go.Proofs.YteknldaoegccaaaGreatDoor
set_option maxRecDepth 100000
namespace Go.Proofs.YteknldaoegccaaaGreatDoor
open Go.RowKit
theorem zsgn_sgn (q : Rat) : zsgn q.num = sgn q := by
 unfold zsgn sgn
 by_cases h : q < 0
 ·have h1 : ¬ 0 ≤ q.num := fun e => absurd (Rat.num_nonneg.1 e) (by grind)
  rw [if_pos (by omega), if_pos h]
 ·have h1 : 0 ≤ q.num := Rat.num_nonneg.2 (Rat.not_lt.1 h)
  rw [if_neg (by omega), if_neg h]
  by_cases h2 : q.num = 0
  ·rw [if_pos h2]
   have : q = 0 := Rat.num_eq_zero.1 h2
   subst this
   rfl
  ·have h3 : q ≠ 0 := fun e => h2 (Rat.num_eq_zero.2 e)
   have h4 : 0 < q := by grind
   rw [if_neg h2, if_pos h4]
theorem qcmp_sgn (a b : Rat) : qcmp a b = sgn (a - b) := by
 unfold qcmp sgn Lib.compareInt
 have h1 := Rat.lt_iff a b
 have h2 := Rat.lt_iff b a
 by_cases h : a < b
 ·have e1 : a - b < 0 := by grind
  rw [if_pos (h1.1 h), if_pos e1]
 ·have e1 : ¬ a - b < 0 := by grind
  rw [if_neg (fun e => h (h1.2 e)), if_neg e1]
  by_cases h' : b < a
  ·have e2 : 0 < a - b := by grind
   rw [if_pos (h2.1 h'), if_pos e2]
  ·have e2 : ¬ 0 < a - b := by grind
   rw [if_neg (fun e => h' (h2.2 e)), if_neg e2]
theorem sgn_range (q : Rat) : -1 ≤ sgn q ∧ sgn q ≤ 1 := by
 unfold sgn; split
 ·omega
 ·split <;> omega
set_option maxHeartbeats 1000000 in
theorem QSub_c (a b : Rat) (ha : FitQ 10000000000 a) (hb : FitQ 10000000000 b) (w : World) :
  Calls Tryz.prog 100 #[rv a, rv b] w fun e w' => e = .returned (rv (a - b)) ∧ Keep [] w w' := by
 have Hn := Lib.hid (QNeg_c b)
 have Hs := Lib.hid (QAdd_c a (-b) ha hb.neg)
 rw [← Rat.sub_eq_add_neg] at Hs
 unfold rv at *
 generalize sgB (a - b).num = nr at *
 generalize mgS (a - b).num = sr at *
 generalize dnS (a - b).den = dr at *
 generalize sgB (-b).num = nc at *
 generalize mgS (-b).num = sc at *
 generalize dnS (-b).den = dc at *
 generalize sgB (a).num = na at *
 generalize mgS (a).num = sa at *
 generalize dnS (a).den = da at *
 generalize sgB (b).num = nb at *
 generalize mgS (b).num = sb at *
 generalize dnS (b).den = db at *
 clear ha hb
 go_enter Tryz.func100, Tryz.ntmps100
 go_wp2_with fail
 obtain ⟨W, ga, gb, gc, hW, ega, egb, egc, bga, bgb, bgc, hga, hgb, hgc, hgW, hkW⟩ := al3 w (.cells #[.bool na, .string sa, .bool false, .string da] 29) (.cells #[.bool nb, .string sb, .bool false, .string db] 29) (.cells #[.bool false, .string ⟨#[]⟩, .bool false, .string ⟨#[]⟩] 29)
 rw [← hW]
 try rw [egc]
 try rw [egb]
 try rw [ega]
 have Bga := Lib.hid bga
 have Bgb := Lib.hid bgb
 have Bgc := Lib.hid bgc
 have HkW := Lib.hid hkW
 clear hW hkW ega egb egc bga bgb bgc
 have kga := kw_cells Bga.out
 have kgb := kw_cells Bgb.out
 have Q1 : Hid (∀ m : KW W, Calls Tryz.prog 102 #[.agg #[.bool nb, .string sb, .bool false, .string db]] (Wk W m) fun e w' => e = .returned (.agg #[.bool nc, .string sc, .bool false, .string dc]) ∧ ∃ m, w' = Wk W m) := fun m => qk m (Hn.out _)
 have Q2 : Hid (∀ m : KW W, Calls Tryz.prog 105 #[.agg #[.bool na, .string sa, .bool false, .string da], .agg #[.bool nc, .string sc, .bool false, .string dc]] (Wk W m) fun e w' => e = .returned (.agg #[.bool nr, .string sr, .bool false, .string dr]) ∧ ∃ m, w' = Wk W m) := fun m => qk m (Hs.out _)
 clear Hn Hs
 refine wp_region_keep_tail 4 (by kernel_rfl) (by kernel_rfl) ?_
 simp only [List.take_succ_cons, List.take_zero, List.drop_succ_cons, List.drop_zero]
 repeat (first
  | go_big_quiet_skip
  | (go_big_quiet_want; go_big_quiet_op; first | go_big_quiet_on | go_big_quiet_call (first
   | (go_at_call 102; with_reducible exact (Q1).out _) | (go_at_call 105; with_reducible exact (Q2).out _))))
 refine wpQuiet_nil ?_
 rintro wz ⟨⟨_, hk_wz⟩, rfl⟩
 clear kga kgb Q1 Q2
 have B2ga := Lib.hid (hk_wz.heap Bga.out (by simp))
 have B2gb := Lib.hid (hk_wz.heap Bgb.out (by simp))
 have B2gc := Lib.hid (hk_wz.heap Bgc.out (by simp))
 have HkW2 := Lib.hid (HkW.out.trans0 hk_wz)
 clear HkW hk_wz Bga Bgb Bgc
 have Bga := B2ga
 have Bgb := B2gb
 have Bgc := B2gc
 have HkW := HkW2
 clear HkW2 B2ga B2gb B2gc
 have pgc := cell_of Bgc.out
 have fgc := frozen_of Bgc.out
 have lgc := lt_of_heap Bgc.out
 go_wp2_with fail
 refine bodyPost_ret (v := .agg #[.bool nr, .string sr, .bool false, .string dr]) ?_ rfl ⟨rfl, by repeat (first | (with_reducible exact HkW.out) | (refine Keep.setPast ?_ _ _ _ (by omega)) | (refine Keep.allocPast ?_ _) | (refine Keep.drewPast ?_))⟩
 rw [results_cell1 rfl]; go_simp
set_option maxHeartbeats 1000000 in
theorem QSign_c (a : Rat) (w : World) :
  Calls Tryz.prog 104 #[rv a] w fun e w' => e = .returned (.int .i64 (sgn a)) ∧ Keep [] w w' := by
 have Hs := Lib.hid (Sign_c a.num)
 rw [zsgn_sgn] at Hs
 unfold rv zv at *
 generalize sgB (a).num = na at *
 generalize mgS (a).num = sa at *
 generalize dnS (a).den = da at *
 generalize sgn a = c at *
 go_enter Tryz.func104, Tryz.ntmps104
 go_wp2_with fail
 have HkW := Lib.hid (Keep.alloc [] w (.cells #[.bool na, .string sa, .bool false, .string da] 29))
 refine (Hs.out _).mono ?_
 rintro e w1 ⟨rfl, hk1⟩
 dsimp only
 have Hk := Lib.hid (HkW.out.trans0 hk1)
 clear hk1 Hs
 go_wp2_with fail
 go_ret
 exact ⟨rfl, Hk.out⟩
set_option maxHeartbeats 1000000 in
theorem QFromInt_c (n : Int) (h1 : -9223372036854775808 ≤ n) (h2 : n ≤ 9223372036854775807) (w : World) :
  Calls Tryz.prog 107 #[.int .i64 n] w fun e w' => e = .returned (rv (n : Rat)) ∧ Keep [] w w' := by
 have Hs := Lib.hid (FromInt_c n h1 h2)
 unfold rv zv at *
 rw [show ((n : Rat)).num = n from rfl, show ((n : Rat)).den = 1 from rfl, dn_one rfl]
 generalize sgB (n) = nr at *
 generalize mgS (n) = sr at *
 clear h1 h2
 go_enter Tryz.func107, Tryz.ntmps107
 go_wp2_with fail
 obtain ⟨W, ga, hW, ega, bga, hga, hgW, hkW⟩ := al1 w (.cells #[.bool false, .string ⟨#[]⟩, .bool false, .string ⟨#[]⟩] 29)
 rw [← hW]
 try rw [ega]
 have Bga := Lib.hid bga
 have HkW := Lib.hid hkW
 clear hW hkW ega bga
 refine (Hs.out _).mono ?_
 rintro e wz ⟨rfl, hk_wz⟩
 dsimp only
 clear Hs
 have B2ga := Lib.hid (hk_wz.heap Bga.out (by simp))
 have HkW2 := Lib.hid (HkW.out.trans0 hk_wz)
 clear HkW hk_wz Bga
 have Bga := B2ga
 have HkW := HkW2
 clear HkW2 B2ga
 have pga := cell_of Bga.out
 have fga := frozen_of Bga.out
 have lga := lt_of_heap Bga.out
 go_wp2_with fail
 refine bodyPost_ret (v := .agg #[.bool nr, .string sr, .bool false, .string ⟨#[]⟩]) ?_ rfl ⟨rfl, by repeat (first | (with_reducible exact HkW.out) | (refine Keep.setPast ?_ _ _ _ (by omega)) | (refine Keep.allocPast ?_ _) | (refine Keep.drewPast ?_))⟩
 rw [results_cell1 rfl]; go_simp
set_option maxHeartbeats 4000000 in
theorem QCompare_c (a b : Rat) (ha : FitQ 10000000000 a) (hb : FitQ 10000000000 b) (w : World) :
  Calls Tryz.prog 126 #[rv a, rv b] w fun e w' => e = .returned (.int .i64 (sgn (a - b))) ∧ Keep [] w w' := by
 have hgd := eqQ_g
 have heq := eqQ_run a b
 by_cases hab : a = b
 ·rw [show decide (a = b) = true by simpa using hab] at heq
  have e0 : sgn (a - b) = 0 := by rw [hab, Rat.sub_self]; rfl
  rw [e0]
  unfold rv at *
  generalize sgB (a).num = na at *
  generalize mgS (a).num = sa at *
  generalize dnS (a).den = da at *
  generalize sgB (b).num = nb at *
  generalize mgS (b).num = sb at *
  generalize dnS (b).den = db at *
  clear hab e0 ha hb
  go_enter Tryz.func126, Tryz.ntmps126
  go_wp2_with fail
  go_ret
  exact ⟨rfl, (Keep.alloc [] _ _).allocPast _⟩
 ·rw [show decide (a = b) = false by simpa using hab] at heq
  have Hc := Lib.hid (cross_c a b ha hb)
  have hcm := Compare_c (crX a b) (crY a b)
  rw [cr_cmp] at hcm
  have e0 := qcmp_sgn a b
  unfold qcmp at e0
  rw [e0] at hcm
  have Hm := Lib.hid hcm
  unfold rv zv at *
  generalize sgn (a - b) = c at *
  generalize crX a b = x at *
  generalize crY a b = y at *
  generalize crD a b = d at *
  generalize sgB (x) = nx at *
  generalize mgS (x) = sx at *
  generalize sgB (y) = ny at *
  generalize mgS (y) = sy at *
  generalize sgB (d) = nd at *
  generalize mgS (d) = sd at *
  generalize sgB (a).num = na at *
  generalize mgS (a).num = sa at *
  generalize dnS (a).den = da at *
  generalize sgB (b).num = nb at *
  generalize mgS (b).num = sb at *
  generalize dnS (b).den = db at *
  clear hab e0 ha hb hcm
  go_enter Tryz.func126, Tryz.ntmps126
  go_wp2_with fail
  obtain ⟨W, ga, gb, hW, ega, egb, bga, bgb, hga, hgb, hgW, hkW⟩ := al2 w (.cells #[.bool na, .string sa, .bool false, .string da] 29) (.cells #[.bool nb, .string sb, .bool false, .string db] 29)
  rw [← hW]
  try rw [egb]
  try rw [ega]
  have Bga := Lib.hid bga
  have Bgb := Lib.hid bgb
  have HkW := Lib.hid hkW
  clear hW hkW ega egb bga bgb
  refine (Hc.out W).mono ?_
  rintro e w1 ⟨rfl, hk1⟩
  dsimp only
  clear Hc
  have B2ga := Lib.hid (hk1.heap Bga.out (by simp))
  have B2gb := Lib.hid (hk1.heap Bgb.out (by simp))
  have HkW2 := Lib.hid (HkW.out.trans0 hk1)
  clear HkW hk1 Bga Bgb
  have Bga := B2ga
  have Bgb := B2gb
  have HkW := HkW2
  clear HkW2 B2ga B2gb
  go_wp2_with fail
  refine (Hm.out _).mono ?_
  rintro e w2 ⟨rfl, hk2⟩
  dsimp only
  clear Hm
  have Hk := Lib.hid ((((HkW.out.allocPast _).allocPast _).allocPast _).trans0 hk2)
  clear hk2
  go_wp2_with fail
  go_ret
  exact ⟨rfl, Hk.out⟩
end Go.Proofs.YteknldaoegccaaaGreatDoor
set_option maxRecDepth 100000
namespace Go.Proofs.YteknldaoegccaaaGreatDoor
open Go.RowKit
set_option maxHeartbeats 4000000 in
theorem sign_low (na nb nr : Bool) (sa sb sr da db dr : ByteArray) (ma mb mr n : Int) (hn : mb * mr = n) (hm : -1 ≤ ma ∧ ma ≤ 1) (hn1 : -1 ≤ n ∧ n ≤ 1) (hc : n = 0 ∨ ma = n ∨ ma = 0)
  (Ha : Hid (∀ w, Calls Tryz.prog 104 #[.agg #[.bool na, .string sa, .bool false, .string da]] w fun e w' => e = .returned (.int .i64 ma) ∧ Keep [] w w'))
  (Hb : Hid (∀ w, Calls Tryz.prog 104 #[.agg #[.bool nb, .string sb, .bool false, .string db]] w fun e w' => e = .returned (.int .i64 mb) ∧ Keep [] w w'))
  (Hr : Hid (∀ w, Calls Tryz.prog 104 #[.agg #[.bool nr, .string sr, .bool false, .string dr]] w fun e w' => e = .returned (.int .i64 mr) ∧ Keep [] w w')) (w : World) :
  Calls Tryz.prog 103 #[.agg #[.bool na, .string sa, .bool false, .string da], .agg #[.bool nb, .string sb, .bool false, .string db], .agg #[.bool nr, .string sr, .bool false, .string dr]] w fun e w' => e = .returned (.int .i64 (if n = 0 ∨ ma = n then ma else n)) ∧ Keep [] w w' := by
 have hw : IntKind.i64.wrap n = n := by simp [IntKind.wrap, IntKind.bits, IntKind.signed]; omega
 by_cases h0 : n = 0
 ·rw [if_pos (.inl h0)]
  have t0 : (n == 0) = true := by simpa using h0
  clear hc
  go_enter Tryz.func103, Tryz.ntmps103
  go_wp2_with fail
  obtain ⟨W, ga, gb, gc, hW, ega, egb, egc, bga, bgb, bgc, hga, hgb, hgc, hgW, hkW⟩ := al3 w (.cells #[.bool na, .string sa, .bool false, .string da] 29) (.cells #[.bool nb, .string sb, .bool false, .string db] 29) (.cells #[.bool nr, .string sr, .bool false, .string dr] 29)
  rw [← hW]
  try rw [egc]
  try rw [egb]
  try rw [ega]
  have Bga := Lib.hid bga
  have Bgb := Lib.hid bgb
  have Bgc := Lib.hid bgc
  have HkW := Lib.hid hkW
  clear hW hkW ega egb egc bga bgb bgc
  have kga := kw_cells Bga.out
  have kgb := kw_cells Bgb.out
  have kgc := kw_cells Bgc.out
  have Q1 : Hid (∀ m : KW W, Calls Tryz.prog 104 #[.agg #[.bool na, .string sa, .bool false, .string da]] (Wk W m) fun e w' => e = .returned (.int .i64 ma) ∧ ∃ m, w' = Wk W m) := fun m => qk m (Ha.out _)
  have Q2 : Hid (∀ m : KW W, Calls Tryz.prog 104 #[.agg #[.bool nb, .string sb, .bool false, .string db]] (Wk W m) fun e w' => e = .returned (.int .i64 mb) ∧ ∃ m, w' = Wk W m) := fun m => qk m (Hb.out _)
  have Q3 : Hid (∀ m : KW W, Calls Tryz.prog 104 #[.agg #[.bool nr, .string sr, .bool false, .string dr]] (Wk W m) fun e w' => e = .returned (.int .i64 mr) ∧ ∃ m, w' = Wk W m) := fun m => qk m (Hr.out _)
  clear Ha Hb Hr
  refine wp_region_keep (by kernel_rfl) (by kernel_rfl) ?_
  repeat (first
   | go_big_quiet_skip
   | (go_big_quiet_want; go_big_quiet_op; first | go_big_quiet_on | go_big_quiet_call (first
    | (go_at_call 104; with_reducible exact (Q1).out _) | (go_at_call 104; with_reducible exact (Q2).out _) | (go_at_call 104; with_reducible exact (Q3).out _))))
  refine wpQuiet_nil ?_
  rintro w1 ⟨⟨_, hk_w1⟩, rfl⟩
  clear Q1 Q2 Q3 kga kgb kgc
  have Hk := Lib.hid (HkW.out.trans0 hk_w1)
  clear hk_w1
  go_wp2_with fail
  go_ret
  exact ⟨rfl, Hk.out⟩
 ·have t0 : (n == 0) = false := by simpa using h0
  by_cases h1 : ma = n
  ·rw [if_pos (.inr h1)]
   have t1 : (ma == n) = true := by simpa using h1
   have H1 := Lib.hid h1
   clear hc h1
   go_enter Tryz.func103, Tryz.ntmps103
   go_wp2_with fail
   obtain ⟨W, ga, gb, gc, hW, ega, egb, egc, bga, bgb, bgc, hga, hgb, hgc, hgW, hkW⟩ := al3 w (.cells #[.bool na, .string sa, .bool false, .string da] 29) (.cells #[.bool nb, .string sb, .bool false, .string db] 29) (.cells #[.bool nr, .string sr, .bool false, .string dr] 29)
   rw [← hW]
   try rw [egc]
   try rw [egb]
   try rw [ega]
   have Bga := Lib.hid bga
   have Bgb := Lib.hid bgb
   have Bgc := Lib.hid bgc
   have HkW := Lib.hid hkW
   clear hW hkW ega egb egc bga bgb bgc
   have kga := kw_cells Bga.out
   have kgb := kw_cells Bgb.out
   have kgc := kw_cells Bgc.out
   have Q1 : Hid (∀ m : KW W, Calls Tryz.prog 104 #[.agg #[.bool na, .string sa, .bool false, .string da]] (Wk W m) fun e w' => e = .returned (.int .i64 ma) ∧ ∃ m, w' = Wk W m) := fun m => qk m (Ha.out _)
   have Q2 : Hid (∀ m : KW W, Calls Tryz.prog 104 #[.agg #[.bool nb, .string sb, .bool false, .string db]] (Wk W m) fun e w' => e = .returned (.int .i64 mb) ∧ ∃ m, w' = Wk W m) := fun m => qk m (Hb.out _)
   have Q3 : Hid (∀ m : KW W, Calls Tryz.prog 104 #[.agg #[.bool nr, .string sr, .bool false, .string dr]] (Wk W m) fun e w' => e = .returned (.int .i64 mr) ∧ ∃ m, w' = Wk W m) := fun m => qk m (Hr.out _)
   clear Ha Hb Hr
   refine wp_region_keep (by kernel_rfl) (by kernel_rfl) ?_
   repeat (first
    | go_big_quiet_skip
    | (go_big_quiet_want; go_big_quiet_op; first | go_big_quiet_on | go_big_quiet_call (first
     | (go_at_call 104; with_reducible exact (Q1).out _) | (go_at_call 104; with_reducible exact (Q2).out _) | (go_at_call 104; with_reducible exact (Q3).out _))))
   refine wpQuiet_nil ?_
   rintro w1 ⟨⟨_, hk_w1⟩, rfl⟩
   clear Q1 Q2 Q3 kga kgb kgc
   have Hk := Lib.hid (HkW.out.trans0 hk_w1)
   clear hk_w1
   go_wp2_with fail
   go_ret
   exact ⟨rfl, Hk.out⟩
  ·have h2 : ma = 0 := by rcases hc with h | h | h <;> simp_all
   rw [if_neg (by rintro (h | h) <;> simp_all)]
   have t1 : (ma == n) = false := by simpa using h1
   have t2 : (ma == 0) = true := by simpa using h2
   clear hc h1 h0 h2
   go_enter Tryz.func103, Tryz.ntmps103
   go_wp2_with fail
   obtain ⟨W, ga, gb, gc, hW, ega, egb, egc, bga, bgb, bgc, hga, hgb, hgc, hgW, hkW⟩ := al3 w (.cells #[.bool na, .string sa, .bool false, .string da] 29) (.cells #[.bool nb, .string sb, .bool false, .string db] 29) (.cells #[.bool nr, .string sr, .bool false, .string dr] 29)
   rw [← hW]
   try rw [egc]
   try rw [egb]
   try rw [ega]
   have Bga := Lib.hid bga
   have Bgb := Lib.hid bgb
   have Bgc := Lib.hid bgc
   have HkW := Lib.hid hkW
   clear hW hkW ega egb egc bga bgb bgc
   have kga := kw_cells Bga.out
   have kgb := kw_cells Bgb.out
   have kgc := kw_cells Bgc.out
   have Q1 : Hid (∀ m : KW W, Calls Tryz.prog 104 #[.agg #[.bool na, .string sa, .bool false, .string da]] (Wk W m) fun e w' => e = .returned (.int .i64 ma) ∧ ∃ m, w' = Wk W m) := fun m => qk m (Ha.out _)
   have Q2 : Hid (∀ m : KW W, Calls Tryz.prog 104 #[.agg #[.bool nb, .string sb, .bool false, .string db]] (Wk W m) fun e w' => e = .returned (.int .i64 mb) ∧ ∃ m, w' = Wk W m) := fun m => qk m (Hb.out _)
   have Q3 : Hid (∀ m : KW W, Calls Tryz.prog 104 #[.agg #[.bool nr, .string sr, .bool false, .string dr]] (Wk W m) fun e w' => e = .returned (.int .i64 mr) ∧ ∃ m, w' = Wk W m) := fun m => qk m (Hr.out _)
   clear Ha Hb Hr
   refine wp_region_keep (by kernel_rfl) (by kernel_rfl) ?_
   repeat (first
    | go_big_quiet_skip
    | (go_big_quiet_want; go_big_quiet_op; first | go_big_quiet_on | go_big_quiet_call (first
     | (go_at_call 104; with_reducible exact (Q1).out _) | (go_at_call 104; with_reducible exact (Q2).out _) | (go_at_call 104; with_reducible exact (Q3).out _))))
   refine wpQuiet_nil ?_
   rintro w1 ⟨⟨_, hk_w1⟩, rfl⟩
   clear Q1 Q2 Q3 kga kgb kgc
   have Hk := Lib.hid (HkW.out.trans0 hk_w1)
   clear hk_w1
   go_wp2_with fail
   go_ret
   exact ⟨rfl, Hk.out⟩
set_option maxHeartbeats 4000000 in
theorem sign_high (na nb nr n1 n2 n3 : Bool) (sa sb sr da db dr s1 s2 s3 d1 d2 d3 : ByteArray) (ma mb mr n c k : Int) (hn : mb * mr = n) (hm : -1 ≤ ma ∧ ma ≤ 1) (hn1 : -1 ≤ n ∧ n ≤ 1) (h0 : n ≠ 0) (h1 : ma ≠ n) (h2 : ma ≠ 0) (hk : ma * c = k) (hk1 : -1 ≤ k ∧ k ≤ 1)
  (Ha : Hid (∀ w, Calls Tryz.prog 104 #[.agg #[.bool na, .string sa, .bool false, .string da]] w fun e w' => e = .returned (.int .i64 ma) ∧ Keep [] w w'))
  (Hb : Hid (∀ w, Calls Tryz.prog 104 #[.agg #[.bool nb, .string sb, .bool false, .string db]] w fun e w' => e = .returned (.int .i64 mb) ∧ Keep [] w w'))
  (Hr : Hid (∀ w, Calls Tryz.prog 104 #[.agg #[.bool nr, .string sr, .bool false, .string dr]] w fun e w' => e = .returned (.int .i64 mr) ∧ Keep [] w w'))
  (Hm1 : Hid (∀ w, Calls Tryz.prog 106 #[.agg #[.bool na, .string sa, .bool false, .string da], .agg #[.bool na, .string sa, .bool false, .string da]] w fun e w' => e = .returned (.agg #[.bool n1, .string s1, .bool false, .string d1]) ∧ Keep [] w w'))
  (Hm2 : Hid (∀ w, Calls Tryz.prog 106 #[.agg #[.bool nb, .string sb, .bool false, .string db], .agg #[.bool nb, .string sb, .bool false, .string db]] w fun e w' => e = .returned (.agg #[.bool n2, .string s2, .bool false, .string d2]) ∧ Keep [] w w'))
  (Hm3 : Hid (∀ w, Calls Tryz.prog 106 #[.agg #[.bool n2, .string s2, .bool false, .string d2], .agg #[.bool nr, .string sr, .bool false, .string dr]] w fun e w' => e = .returned (.agg #[.bool n3, .string s3, .bool false, .string d3]) ∧ Keep [] w w'))
  (Hcm : Hid (∀ w, Calls Tryz.prog 126 #[.agg #[.bool n1, .string s1, .bool false, .string d1], .agg #[.bool n3, .string s3, .bool false, .string d3]] w fun e w' => e = .returned (.int .i64 c) ∧ Keep [] w w')) (w : World) :
  Calls Tryz.prog 103 #[.agg #[.bool na, .string sa, .bool false, .string da], .agg #[.bool nb, .string sb, .bool false, .string db], .agg #[.bool nr, .string sr, .bool false, .string dr]] w fun e w' => e = .returned (.int .i64 k) ∧ Keep [] w w' := by
 have hw : IntKind.i64.wrap n = n := by simp [IntKind.wrap, IntKind.bits, IntKind.signed]; omega
 have hw2 : IntKind.i64.wrap k = k := by simp [IntKind.wrap, IntKind.bits, IntKind.signed]; omega
 have t0 : (n == 0) = false := by simpa using h0
 have t1 : (ma == n) = false := by simpa using h1
 have t2 : (ma == 0) = false := by simpa using h2
 clear h0 h1 h2
 go_enter Tryz.func103, Tryz.ntmps103
 go_wp2_with fail
 obtain ⟨W, ga, gb, gc, hW, ega, egb, egc, bga, bgb, bgc, hga, hgb, hgc, hgW, hkW⟩ := al3 w (.cells #[.bool na, .string sa, .bool false, .string da] 29) (.cells #[.bool nb, .string sb, .bool false, .string db] 29) (.cells #[.bool nr, .string sr, .bool false, .string dr] 29)
 rw [← hW]
 try rw [egc]
 try rw [egb]
 try rw [ega]
 have Bga := Lib.hid bga
 have Bgb := Lib.hid bgb
 have Bgc := Lib.hid bgc
 have HkW := Lib.hid hkW
 clear hW hkW ega egb egc bga bgb bgc
 have kga := kw_cells Bga.out
 have kgb := kw_cells Bgb.out
 have kgc := kw_cells Bgc.out
 have Q1 : Hid (∀ m : KW W, Calls Tryz.prog 104 #[.agg #[.bool na, .string sa, .bool false, .string da]] (Wk W m) fun e w' => e = .returned (.int .i64 ma) ∧ ∃ m, w' = Wk W m) := fun m => qk m (Ha.out _)
 have Q2 : Hid (∀ m : KW W, Calls Tryz.prog 104 #[.agg #[.bool nb, .string sb, .bool false, .string db]] (Wk W m) fun e w' => e = .returned (.int .i64 mb) ∧ ∃ m, w' = Wk W m) := fun m => qk m (Hb.out _)
 have Q3 : Hid (∀ m : KW W, Calls Tryz.prog 104 #[.agg #[.bool nr, .string sr, .bool false, .string dr]] (Wk W m) fun e w' => e = .returned (.int .i64 mr) ∧ ∃ m, w' = Wk W m) := fun m => qk m (Hr.out _)
 clear Ha Hb Hr
 refine wp_region_keep (by kernel_rfl) (by kernel_rfl) ?_
 repeat (first
  | go_big_quiet_skip
  | (go_big_quiet_want; go_big_quiet_op; first | go_big_quiet_on | go_big_quiet_call (first
   | (go_at_call 104; with_reducible exact (Q1).out _) | (go_at_call 104; with_reducible exact (Q2).out _) | (go_at_call 104; with_reducible exact (Q3).out _))))
 refine wpQuiet_nil ?_
 rintro w1 ⟨⟨_, hk_w1⟩, rfl⟩
 clear Q1 Q2 Q3 kga kgb kgc
 have B2ga := Lib.hid (hk_w1.heap Bga.out (by simp))
 have B2gb := Lib.hid (hk_w1.heap Bgb.out (by simp))
 have B2gc := Lib.hid (hk_w1.heap Bgc.out (by simp))
 have HkW2 := Lib.hid (HkW.out.trans0 hk_w1)
 clear HkW hk_w1 Bga Bgb Bgc
 have Bga := B2ga
 have Bgb := B2gb
 have Bgc := B2gc
 have HkW := HkW2
 clear HkW2 B2ga B2gb B2gc
 go_wp2_with fail
 have kga := kw_cells Bga.out
 have kgb := kw_cells Bgb.out
 have kgc := kw_cells Bgc.out
 have Q1 : Hid (∀ m : KW w1, Calls Tryz.prog 106 #[.agg #[.bool na, .string sa, .bool false, .string da], .agg #[.bool na, .string sa, .bool false, .string da]] (Wk w1 m) fun e w' => e = .returned (.agg #[.bool n1, .string s1, .bool false, .string d1]) ∧ ∃ m, w' = Wk w1 m) := fun m => qk m (Hm1.out _)
 have Q2 : Hid (∀ m : KW w1, Calls Tryz.prog 106 #[.agg #[.bool nb, .string sb, .bool false, .string db], .agg #[.bool nb, .string sb, .bool false, .string db]] (Wk w1 m) fun e w' => e = .returned (.agg #[.bool n2, .string s2, .bool false, .string d2]) ∧ ∃ m, w' = Wk w1 m) := fun m => qk m (Hm2.out _)
 have Q3 : Hid (∀ m : KW w1, Calls Tryz.prog 106 #[.agg #[.bool n2, .string s2, .bool false, .string d2], .agg #[.bool nr, .string sr, .bool false, .string dr]] (Wk w1 m) fun e w' => e = .returned (.agg #[.bool n3, .string s3, .bool false, .string d3]) ∧ ∃ m, w' = Wk w1 m) := fun m => qk m (Hm3.out _)
 have Q4 : Hid (∀ m : KW w1, Calls Tryz.prog 126 #[.agg #[.bool n1, .string s1, .bool false, .string d1], .agg #[.bool n3, .string s3, .bool false, .string d3]] (Wk w1 m) fun e w' => e = .returned (.int .i64 c) ∧ ∃ m, w' = Wk w1 m) := fun m => qk m (Hcm.out _)
 clear Hm1 Hm2 Hm3 Hcm
 refine wp_region_keep (by kernel_rfl) (by kernel_rfl) ?_
 repeat (first
  | go_big_quiet_skip
  | (go_big_quiet_want; go_big_quiet_op; first | go_big_quiet_on | go_big_quiet_call (first
   | (go_at_call 106; with_reducible exact (Q1).out _) | (go_at_call 106; with_reducible exact (Q2).out _) | (go_at_call 106; with_reducible exact (Q3).out _) | (go_at_call 126; with_reducible exact (Q4).out _))))
 refine wpQuiet_nil ?_
 rintro w2 ⟨⟨_, hk_w2⟩, rfl⟩
 have Hk := Lib.hid (HkW.out.trans0 hk_w2)
 clear hk_w2 Q1 Q2 Q3 Q4 kga kgb kgc
 go_wp2_with fail
 go_ret
 exact ⟨rfl, Hk.out⟩
theorem sgn_mul_range (a b : Rat) : -1 ≤ sgn a * sgn b ∧ sgn a * sgn b ≤ 1 := by
 rcases sgn_cases a with ⟨_, h⟩ | ⟨_, h⟩ | ⟨_, h⟩ <;> rcases sgn_cases b with ⟨_, h'⟩ | ⟨_, h'⟩ | ⟨_, h'⟩ <;> rw [h, h'] <;> decide
theorem sign_c (a b r : Rat) (ha : FitQ 1000000000 a) (hb : FitQ 1000000000 b) (hr : FitQ 1000000000 r) (w : World) :
  Calls Tryz.prog 103 #[rv a, rv b, rv r] w fun e w' => e = .returned (.int .i64 (sg1 a b r)) ∧ Keep [] w w' := by
 have hma := sgn_range a
 have hmn := sgn_mul_range b r
 unfold sg1
 by_cases hc : sgn b * sgn r = 0 ∨ sgn a = sgn b * sgn r ∨ sgn a = 0
 ·have := sign_low _ _ _ _ _ _ _ _ _ (sgn a) (sgn b) (sgn r) _ rfl hma hmn hc (QSign_c a) (QSign_c b) (QSign_c r) w
  refine this.mono fun e w' h => ⟨?_, h.2⟩
  rw [h.1]
  by_cases h1 : sgn b * sgn r = 0 ∨ sgn a = sgn b * sgn r
  ·rw [if_pos h1, if_pos h1]
  ·rw [if_neg h1, if_neg h1, if_pos (by rcases hc with h | h | h; exact absurd (.inl h) h1; exact absurd (.inr h) h1; exact h)]
 ·have h0 : sgn b * sgn r ≠ 0 := fun h => hc (.inl h)
  have h1 : sgn a ≠ sgn b * sgn r := fun h => hc (.inr (.inl h))
  have h2 : sgn a ≠ 0 := fun h => hc (.inr (.inr h))
  rw [if_neg (by rintro (h | h); exact h0 h; exact h1 h), if_neg h2]
  exact sign_high _ _ _ _ _ _ _ _ _ _ _ _ _ _ _ _ _ _ (sgn a) (sgn b) (sgn r) _ _ _ rfl hma hmn h0 h1 h2 rfl (sgn_mul_range _ _) (QSign_c a) (QSign_c b) (QSign_c r)
   (QMul_c a a (ha.mono (by decide)) (ha.mono (by decide))) (QMul_c b b (hb.mono (by decide)) (hb.mono (by decide))) (QMul_c (b * b) r ((hb.mul hb).mono (by decide)) (hr.mono (by decide)))
   (QCompare_c (a * a) (b * b * r) ((ha.mul ha).mono (by decide)) (((hb.mul hb).mul hr).mono (by decide))) w
def qv (x : Qn) : Value := .agg #[.bool (sgB x.p.num), .string (mgS x.p.num), .bool false, .string (dnS x.p.den), .bool (sgB x.r.num), .string (mgS x.r.num), .bool false, .string (dnS x.r.den), .bool x.neg]
def FitR (k : Nat) (x : Qn) : Prop := FitQ k x.p ∧ FitQ k x.r
set_option maxHeartbeats 4000000 in
theorem factor_c (x : Qn) (w : World) :
  Calls Tryz.prog 101 #[qv x] w fun e w' => e = .returned (rv x.u) ∧ Keep [] w w' := by
 unfold Qn.u qv
 cases hx : x.neg with
 | true =>
  have Hs := Lib.hid (QFromInt_c (-1) (by decide) (by decide))
  rw [if_pos rfl]
  rw [show ((-1 : Int) : Rat) = (-1 : Rat) from rfl] at Hs
  unfold rv at *
  generalize sgB ((-1 : Rat)).num = nr at *
  generalize mgS ((-1 : Rat)).num = sr at *
  generalize dnS ((-1 : Rat)).den = dr at *
  generalize sgB (x.p).num = a1 at *
  generalize mgS (x.p).num = a2 at *
  generalize dnS (x.p).den = a3 at *
  generalize sgB (x.r).num = a4 at *
  generalize mgS (x.r).num = a5 at *
  generalize dnS (x.r).den = a6 at *
  clear hx
  go_enter Tryz.func101, Tryz.ntmps101
  go_wp2_with fail
  obtain ⟨W, ga, gb, hW, ega, egb, bga, bgb, hga, hgb, hgW, hkW⟩ := al2 w (.cells #[.bool a1, .string a2, .bool false, .string a3, .bool a4, .string a5, .bool false, .string a6, .bool true] 31) (.cells #[.bool false, .string ⟨#[]⟩, .bool false, .string ⟨#[]⟩] 29)
  rw [← hW]
  try rw [egb]
  try rw [ega]
  have Bga := Lib.hid bga
  have Bgb := Lib.hid bgb
  have HkW := Lib.hid hkW
  clear hW hkW ega egb bga bgb
  refine (Hs.out W).mono ?_
  rintro e wz ⟨rfl, hk_wz⟩
  dsimp only
  clear Hs
  have B2ga := Lib.hid (hk_wz.heap Bga.out (by simp))
  have B2gb := Lib.hid (hk_wz.heap Bgb.out (by simp))
  have HkW2 := Lib.hid (HkW.out.trans0 hk_wz)
  clear HkW hk_wz Bga Bgb
  have Bga := B2ga
  have Bgb := B2gb
  have HkW := HkW2
  clear HkW2 B2ga B2gb
  have pgb := cell_of Bgb.out
  have fgb := frozen_of Bgb.out
  have lgb := lt_of_heap Bgb.out
  go_wp2_with fail
  refine bodyPost_ret (v := .agg #[.bool nr, .string sr, .bool false, .string dr]) ?_ rfl ⟨rfl, by repeat (first | (with_reducible exact HkW.out) | (refine Keep.setPast ?_ _ _ _ (by omega)) | (refine Keep.allocPast ?_ _) | (refine Keep.drewPast ?_))⟩
  rw [results_cell1 rfl]; go_simp
 | false =>
  have Hs := Lib.hid (QFromInt_c 1 (by decide) (by decide))
  rw [if_neg (by decide)]
  rw [show ((1 : Int) : Rat) = (1 : Rat) from rfl] at Hs
  unfold rv at *
  generalize sgB ((1 : Rat)).num = nr at *
  generalize mgS ((1 : Rat)).num = sr at *
  generalize dnS ((1 : Rat)).den = dr at *
  generalize sgB (x.p).num = a1 at *
  generalize mgS (x.p).num = a2 at *
  generalize dnS (x.p).den = a3 at *
  generalize sgB (x.r).num = a4 at *
  generalize mgS (x.r).num = a5 at *
  generalize dnS (x.r).den = a6 at *
  clear hx
  go_enter Tryz.func101, Tryz.ntmps101
  go_wp2_with fail
  obtain ⟨W, ga, gb, hW, ega, egb, bga, bgb, hga, hgb, hgW, hkW⟩ := al2 w (.cells #[.bool a1, .string a2, .bool false, .string a3, .bool a4, .string a5, .bool false, .string a6, .bool false] 31) (.cells #[.bool false, .string ⟨#[]⟩, .bool false, .string ⟨#[]⟩] 29)
  rw [← hW]
  try rw [egb]
  try rw [ega]
  have Bga := Lib.hid bga
  have Bgb := Lib.hid bgb
  have HkW := Lib.hid hkW
  clear hW hkW ega egb bga bgb
  refine (Hs.out W).mono ?_
  rintro e wz ⟨rfl, hk_wz⟩
  dsimp only
  clear Hs
  have B2ga := Lib.hid (hk_wz.heap Bga.out (by simp))
  have B2gb := Lib.hid (hk_wz.heap Bgb.out (by simp))
  have HkW2 := Lib.hid (HkW.out.trans0 hk_wz)
  clear HkW hk_wz Bga Bgb
  have Bga := B2ga
  have Bgb := B2gb
  have HkW := HkW2
  clear HkW2 B2ga B2gb
  have pgb := cell_of Bgb.out
  have fgb := frozen_of Bgb.out
  have lgb := lt_of_heap Bgb.out
  go_wp2_with fail
  refine bodyPost_ret (v := .agg #[.bool nr, .string sr, .bool false, .string dr]) ?_ rfl ⟨rfl, by repeat (first | (with_reducible exact HkW.out) | (refine Keep.setPast ?_ _ _ _ (by omega)) | (refine Keep.allocPast ?_ _) | (refine Keep.drewPast ?_))⟩
  rw [results_cell1 rfl]; go_simp
set_option maxHeartbeats 4000000 in
theorem Shift_c (x : Qn) (q : Rat) (hx : FitQ 10000000000 x.p) (hq : FitQ 10000000000 q) (w : World) :
  Calls Tryz.prog 68 #[qv x, rv q] w fun e w' => e = .returned (qv ⟨x.p + q, x.r, x.neg⟩) ∧ Keep [] w w' := by
 have Hs := Lib.hid (QAdd_c x.p q hx hq)
 unfold qv rv at *
 dsimp only
 generalize sgB (x.p + q).num = nr at *
 generalize mgS (x.p + q).num = sr at *
 generalize dnS (x.p + q).den = dr at *
 generalize sgB (x.p).num = a1 at *
 generalize mgS (x.p).num = a2 at *
 generalize dnS (x.p).den = a3 at *
 generalize sgB (x.r).num = a4 at *
 generalize mgS (x.r).num = a5 at *
 generalize dnS (x.r).den = a6 at *
 generalize sgB (q).num = b1 at *
 generalize mgS (q).num = b2 at *
 generalize dnS (q).den = b3 at *
 generalize x.neg = a7 at *
 clear hx hq
 go_enter Tryz.func68, Tryz.ntmps68
 go_wp2_with fail
 obtain ⟨W, ga, gb, gc, hW, ega, egb, egc, bga, bgb, bgc, hga, hgb, hgc, hgW, hkW⟩ := al3 w (.cells #[.bool a1, .string a2, .bool false, .string a3, .bool a4, .string a5, .bool false, .string a6, .bool a7] 31) (.cells #[.bool b1, .string b2, .bool false, .string b3] 29) (.cells #[.bool false, .string ⟨#[]⟩, .bool false, .string ⟨#[]⟩, .bool false, .string ⟨#[]⟩, .bool false, .string ⟨#[]⟩, .bool false] 31)
 rw [← hW]
 try rw [egc]
 try rw [egb]
 try rw [ega]
 have Bga := Lib.hid bga
 have Bgb := Lib.hid bgb
 have Bgc := Lib.hid bgc
 have HkW := Lib.hid hkW
 clear hW hkW ega egb egc bga bgb bgc
 refine (Hs.out _).mono ?_
 rintro e wz ⟨rfl, hk_wz⟩
 dsimp only
 clear Hs
 have B2ga := Lib.hid (hk_wz.heap Bga.out (by simp))
 have B2gb := Lib.hid (hk_wz.heap Bgb.out (by simp))
 have B2gc := Lib.hid (hk_wz.heap Bgc.out (by simp))
 have HkW2 := Lib.hid (HkW.out.trans0 hk_wz)
 clear HkW hk_wz Bga Bgb Bgc
 have Bga := B2ga
 have Bgb := B2gb
 have Bgc := B2gc
 have HkW := HkW2
 clear HkW2 B2ga B2gb B2gc
 have pga := cell_of Bga.out
 have fga := frozen_of Bga.out
 have lga := lt_of_heap Bga.out
 have pgc := cell_of Bgc.out
 have fgc := frozen_of Bgc.out
 have lgc := lt_of_heap Bgc.out
 go_wp2_with fail
 refine bodyPost_ret (v := .agg #[.bool nr, .string sr, .bool false, .string dr, .bool a4, .string a5, .bool false, .string a6, .bool a7]) ?_ rfl ⟨rfl, by repeat (first | (with_reducible exact HkW.out) | (refine Keep.setPast ?_ _ _ _ (by omega)) | (refine Keep.allocPast ?_ _) | (refine Keep.drewPast ?_))⟩
 rw [results_cell1 rfl]; go_simp
end Go.Proofs.YteknldaoegccaaaGreatDoor
