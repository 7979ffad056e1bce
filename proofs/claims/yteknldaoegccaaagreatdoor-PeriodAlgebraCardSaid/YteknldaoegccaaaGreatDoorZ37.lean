/- Parts of a proof about this translation: Ug, Uh, Ui. -/
import Derived.Test.YteknldaoegccaaaGreatDoorZ36
import Derived.Test.YteknldaoegccaaaGreatDoorZ29
set_option linter.unusedVariables false
set_option linter.unusedSimpArgs false
set_option maxRecDepth 100000
namespace Go.Proofs.YteknldaoegccaaaGreatDoor
open Go.RowKit
open Classical
structure RawR where
 a1 : Bool
 a2 : ByteArray
 a3 : Bool
 a4 : ByteArray
 b1 : Bool
 b2 : ByteArray
 b3 : Bool
 b4 : ByteArray
 n : Bool
def RawR.cells (x : RawR) : List Value := [.bool x.a1, .string x.a2, .bool x.a3, .string x.a4, .bool x.b1, .string x.b2, .bool x.b3, .string x.b4, .bool x.n]
def RawR.v (x : RawR) : Value := .agg #[.bool x.a1, .string x.a2, .bool x.a3, .string x.a4, .bool x.b1, .string x.b2, .bool x.b3, .string x.b4, .bool x.n]
def RawR.of (x : Qn) : RawR := ⟨sgB x.p.num, mgS x.p.num, false, dnS x.p.den, sgB x.r.num, mgS x.r.num, false, dnS x.r.den, x.neg⟩
def RawR.isK (x : RawR) : Prop := ∃ q : Qn, q.Ok ∧ x = RawR.of q
def RawR.sz (x : RawR) (k : Nat) : Prop := x.a2.size ≤ k ∧ x.a4.size ≤ k ∧ x.b2.size ≤ k ∧ x.b4.size ≤ k
theorem RawR.of_inj {x y : Qn} (h : RawR.of x = RawR.of y) : x = y := by
 unfold RawR.of at h
 injection h with h1 h2 h3 h4 h5 h6 h7 h8 h9
 have hp : x.p = y.p := by
  have := (eqQ_dec x.p y.p).symm
  rw [h1, h2, h4] at this
  simpa using this
 have hr : x.r = y.r := by
  have := (eqQ_dec x.r y.r).symm
  rw [h5, h6, h8] at this
  simpa using this
 cases x; cases y; simp_all
set_option maxHeartbeats 8000000 in
theorem isreal_c (x : RawR) (hs : x.sz 1000000) (w : World) : Calls Tryz.prog 47 #[x.v] w fun e w' => e = .returned (.bool (decide x.isK)) ∧ Keep [] w w' := by
 obtain ⟨a1, a2, a3, a4, b1, b2, b3, b4, n⟩ := x
 obtain ⟨hs1, hs2, hs3, hs4⟩ := hs
 dsimp only at hs1 hs2 hs3 hs4
 unfold RawR.v
 dsimp only
 have H1 := Lib.hid (rcheck_c a1 a2 a3 a4 (by omega) (by omega))
 have H2 := Lib.hid (rcheck_c b1 b2 b3 b4 (by omega) (by omega))
 have HX : Hid ((RawR.mk a1 a2 a3 a4 b1 b2 b3 b4 n).isK → chkQ a1 a2 a3 a4 = true ∧ chkQ b1 b2 b3 b4 = true) := by
  rintro ⟨q, hq, he⟩
  unfold RawR.of at he
  injection he with h1 h2 h3 h4 h5 h6 h7 h8 h9
  exact ⟨chkQ_iff.2 ⟨q.p, h1, h2, h3, h4⟩, chkQ_iff.2 ⟨q.r, h5, h6, h7, h8⟩⟩
 clear hs1 hs2
 cases hca : chkQ a1 a2 a3 a4 with
 | false =>
  rw [hca] at H1
  have hres : decide (RawR.mk a1 a2 a3 a4 b1 b2 b3 b4 n).isK = false := decide_eq_false (fun h => by have := (HX.out h).1; rw [hca] at this; cases this)
  rw [hres]
  clear hres hca HX hs3 hs4 H2
  go_enter Tryz.func47, Tryz.ntmps47
  go_wp2_with fail
  obtain ⟨W, ga, hW, ega, bga, hga, hgW, hkW⟩ := al1 w (.cells #[.bool a1, .string a2, .bool a3, .string a4, .bool b1, .string b2, .bool b3, .string b4, .bool n] 31)
  rw [← hW]
  try rw [ega]
  have Bga := Lib.hid bga
  have HkW := Lib.hid hkW
  clear hW hkW ega bga
  have pga := cell_of Bga.out
  have fga := frozen_of Bga.out
  have lga := lt_of_heap Bga.out
  go_wp2_with fail
  refine (H1.out _).mono ?_
  rintro e w1 ⟨rfl, hk_w1⟩
  dsimp only
  clear pga fga lga
  have B2ga := Lib.hid (hk_w1.heap Bga.out (by simp))
  have HkW2 := Lib.hid (HkW.out.trans0 hk_w1)
  clear HkW hk_w1 Bga
  have Bga := B2ga
  have HkW := HkW2
  clear HkW2 B2ga
  have pga := cell_of Bga.out
  have fga := frozen_of Bga.out
  have lga := lt_of_heap Bga.out
  go_wp2_with fail
  go_ret
  exact ⟨rfl, by repeat (first | (with_reducible exact HkW.out) | (refine Keep.setPast ?_ _ _ _ (by omega)) | (refine Keep.allocPast ?_ _) | (refine Keep.drewPast ?_))⟩
 | true =>
  rw [hca] at H1
  cases hcb : chkQ b1 b2 b3 b4 with
  | false =>
   rw [hcb] at H2
   have hres : decide (RawR.mk a1 a2 a3 a4 b1 b2 b3 b4 n).isK = false := decide_eq_false (fun h => by have := (HX.out h).2; rw [hcb] at this; cases this)
   rw [hres]
   clear hres hca hcb HX hs3 hs4
   go_enter Tryz.func47, Tryz.ntmps47
   go_wp2_with fail
   obtain ⟨W, ga, hW, ega, bga, hga, hgW, hkW⟩ := al1 w (.cells #[.bool a1, .string a2, .bool a3, .string a4, .bool b1, .string b2, .bool b3, .string b4, .bool n] 31)
   rw [← hW]
   try rw [ega]
   have Bga := Lib.hid bga
   have HkW := Lib.hid hkW
   clear hW hkW ega bga
   have pga := cell_of Bga.out
   have fga := frozen_of Bga.out
   have lga := lt_of_heap Bga.out
   go_wp2_with fail
   refine (H1.out _).mono ?_
   rintro e w1 ⟨rfl, hk_w1⟩
   dsimp only
   clear pga fga lga
   have B2ga := Lib.hid (hk_w1.heap Bga.out (by simp))
   have HkW2 := Lib.hid (HkW.out.trans0 hk_w1)
   clear HkW hk_w1 Bga
   have Bga := B2ga
   have HkW := HkW2
   clear HkW2 B2ga
   have pga := cell_of Bga.out
   have fga := frozen_of Bga.out
   have lga := lt_of_heap Bga.out
   go_wp2_with fail
   refine (H2.out _).mono ?_
   rintro e w2 ⟨rfl, hk_w2⟩
   dsimp only
   clear pga fga lga
   have B2ga := Lib.hid (hk_w2.heap Bga.out (by simp))
   have HkW2 := Lib.hid (HkW.out.trans0 hk_w2)
   clear HkW hk_w2 Bga
   have Bga := B2ga
   have HkW := HkW2
   clear HkW2 B2ga
   have pga := cell_of Bga.out
   have fga := frozen_of Bga.out
   have lga := lt_of_heap Bga.out
   go_wp2_with fail
   go_ret
   exact ⟨rfl, by repeat (first | (with_reducible exact HkW.out) | (refine Keep.setPast ?_ _ _ _ (by omega)) | (refine Keep.allocPast ?_ _) | (refine Keep.drewPast ?_))⟩
  | true =>
   rw [hcb] at H2
   obtain ⟨p, e1, e2, e3, e4⟩ := chkQ_iff.1 hca
   obtain ⟨r, e5, e6, e7, e8⟩ := chkQ_iff.1 hcb
   have hfit : FitQ 10000000 r := by
    refine ⟨?_, ?_⟩
    ·have := hs3; rw [e6] at this; exact Nat.le_trans this (by decide)
    ·have := hs4; rw [e8] at this
     unfold dnS at this
     unfold Fit mgS
     rw [Int.natAbs_natCast]
     split at this
     ·rename_i h1; rw [h1]; exact Nat.le_trans ((magS_size 1 1).2 (by decide)) (by decide)
     ·exact Nat.le_trans this (by decide)
   have HR := Lib.hid (rroot_c r hfit)
   have HS := Lib.hid (rsign_c r)
   rw [zsgn_sgn] at HS
   clear hs3 hs4 hca hcb hfit HX
   subst e1 e2 e3 e4 e5 e6 e7 e8
   have HK1 : Hid (∀ q : Qn, q.Ok → q.p = p → q.r = r → q.neg = n → (RawR.mk (sgB p.num) (mgS p.num) false (dnS p.den) (sgB r.num) (mgS r.num) false (dnS r.den) n).isK) := fun q hq h1 h2 h3 => ⟨q, hq, by unfold RawR.of; rw [h1, h2, h3]⟩
   have HK2 : Hid ((RawR.mk (sgB p.num) (mgS p.num) false (dnS p.den) (sgB r.num) (mgS r.num) false (dnS r.den) n).isK → (⟨p, r, n⟩ : Qn).Ok) := by
    rintro ⟨q, hq, he⟩
    have := RawR.of_inj (x := ⟨p, r, n⟩) (y := q) he
    rw [this]; exact hq
   generalize (RawR.mk (sgB p.num) (mgS p.num) false (dnS p.den) (sgB r.num) (mgS r.num) false (dnS r.den) n).isK = KK at *
   unfold rv at HR HS
   have hsg := sgn_cases r
   unfold Root2Post rv at HR
   rcases hsg with ⟨hr0, hsg⟩ | ⟨hr0, hsg⟩ | ⟨hr0, hsg⟩
   ·have hres : decide KK = false := decide_eq_false (fun h => by have := (HK2.out h).nn; dsimp only at this; grind)
    rw [hres]
    rw [hsg] at HS
    clear hres HK1 HK2 hsg HR hr0
    generalize sgB (p).num = a1 at *
    generalize mgS (p).num = a2 at *
    generalize dnS (p).den = a4 at *
    generalize sgB (r).num = b1 at *
    generalize mgS (r).num = b2 at *
    generalize dnS (r).den = b4 at *
    go_enter Tryz.func47, Tryz.ntmps47
    go_wp2_with fail
    obtain ⟨W, ga, hW, ega, bga, hga, hgW, hkW⟩ := al1 w (.cells #[.bool a1, .string a2, .bool false, .string a4, .bool b1, .string b2, .bool false, .string b4, .bool n] 31)
    rw [← hW]
    try rw [ega]
    have Bga := Lib.hid bga
    have HkW := Lib.hid hkW
    clear hW hkW ega bga
    have pga := cell_of Bga.out
    have fga := frozen_of Bga.out
    have lga := lt_of_heap Bga.out
    go_wp2_with fail
    refine (H1.out _).mono ?_
    rintro e w1 ⟨rfl, hk_w1⟩
    dsimp only
    clear pga fga lga
    have B2ga := Lib.hid (hk_w1.heap Bga.out (by simp))
    have HkW2 := Lib.hid (HkW.out.trans0 hk_w1)
    clear HkW hk_w1 Bga
    have Bga := B2ga
    have HkW := HkW2
    clear HkW2 B2ga
    have pga := cell_of Bga.out
    have fga := frozen_of Bga.out
    have lga := lt_of_heap Bga.out
    go_wp2_with fail
    refine (H2.out _).mono ?_
    rintro e w2 ⟨rfl, hk_w2⟩
    dsimp only
    clear pga fga lga
    have B2ga := Lib.hid (hk_w2.heap Bga.out (by simp))
    have HkW2 := Lib.hid (HkW.out.trans0 hk_w2)
    clear HkW hk_w2 Bga
    have Bga := B2ga
    have HkW := HkW2
    clear HkW2 B2ga
    have pga := cell_of Bga.out
    have fga := frozen_of Bga.out
    have lga := lt_of_heap Bga.out
    go_wp2_with fail
    refine (HS.out _).mono ?_
    rintro e w3 ⟨rfl, hk_w3⟩
    dsimp only
    clear pga fga lga
    have B2ga := Lib.hid (hk_w3.heap Bga.out (by simp))
    have HkW2 := Lib.hid (HkW.out.trans0 hk_w3)
    clear HkW hk_w3 Bga
    have Bga := B2ga
    have HkW := HkW2
    clear HkW2 B2ga
    have pga := cell_of Bga.out
    have fga := frozen_of Bga.out
    have lga := lt_of_heap Bga.out
    go_wp2_with fail
    go_ret
    exact ⟨rfl, by repeat (first | (with_reducible exact HkW.out) | (refine Keep.setPast ?_ _ _ _ (by omega)) | (refine Keep.allocPast ?_ _) | (refine Keep.drewPast ?_))⟩
   ·have hres : decide KK = !n := by
     cases n with
     | true => exact decide_eq_false (fun h => by have := (HK2.out h).zero hr0; cases this)
     | false => exact decide_eq_true (HK1.out ⟨p, r, false⟩ ⟨by show (0 : Rat) ≤ r; rw [hr0]; grind, fun _ => rfl, fun h => absurd hr0 h⟩ rfl rfl rfl)
    rw [hres]
    rw [hsg] at HS
    clear hres HK1 HK2 hsg HR hr0
    generalize sgB (p).num = a1 at *
    generalize mgS (p).num = a2 at *
    generalize dnS (p).den = a4 at *
    generalize sgB (r).num = b1 at *
    generalize mgS (r).num = b2 at *
    generalize dnS (r).den = b4 at *
    go_enter Tryz.func47, Tryz.ntmps47
    go_wp2_with fail
    obtain ⟨W, ga, hW, ega, bga, hga, hgW, hkW⟩ := al1 w (.cells #[.bool a1, .string a2, .bool false, .string a4, .bool b1, .string b2, .bool false, .string b4, .bool n] 31)
    rw [← hW]
    try rw [ega]
    have Bga := Lib.hid bga
    have HkW := Lib.hid hkW
    clear hW hkW ega bga
    have pga := cell_of Bga.out
    have fga := frozen_of Bga.out
    have lga := lt_of_heap Bga.out
    go_wp2_with fail
    refine (H1.out _).mono ?_
    rintro e w1 ⟨rfl, hk_w1⟩
    dsimp only
    clear pga fga lga
    have B2ga := Lib.hid (hk_w1.heap Bga.out (by simp))
    have HkW2 := Lib.hid (HkW.out.trans0 hk_w1)
    clear HkW hk_w1 Bga
    have Bga := B2ga
    have HkW := HkW2
    clear HkW2 B2ga
    have pga := cell_of Bga.out
    have fga := frozen_of Bga.out
    have lga := lt_of_heap Bga.out
    go_wp2_with fail
    refine (H2.out _).mono ?_
    rintro e w2 ⟨rfl, hk_w2⟩
    dsimp only
    clear pga fga lga
    have B2ga := Lib.hid (hk_w2.heap Bga.out (by simp))
    have HkW2 := Lib.hid (HkW.out.trans0 hk_w2)
    clear HkW hk_w2 Bga
    have Bga := B2ga
    have HkW := HkW2
    clear HkW2 B2ga
    have pga := cell_of Bga.out
    have fga := frozen_of Bga.out
    have lga := lt_of_heap Bga.out
    go_wp2_with fail
    refine (HS.out _).mono ?_
    rintro e w3 ⟨rfl, hk_w3⟩
    dsimp only
    clear pga fga lga
    have B2ga := Lib.hid (hk_w3.heap Bga.out (by simp))
    have HkW2 := Lib.hid (HkW.out.trans0 hk_w3)
    clear HkW hk_w3 Bga
    have Bga := B2ga
    have HkW := HkW2
    clear HkW2 B2ga
    have pga := cell_of Bga.out
    have fga := frozen_of Bga.out
    have lga := lt_of_heap Bga.out
    go_wp2_with fail
    refine (HS.out _).mono ?_
    rintro e w4 ⟨rfl, hk_w4⟩
    dsimp only
    clear pga fga lga
    have B2ga := Lib.hid (hk_w4.heap Bga.out (by simp))
    have HkW2 := Lib.hid (HkW.out.trans0 hk_w4)
    clear HkW hk_w4 Bga
    have Bga := B2ga
    have HkW := HkW2
    clear HkW2 B2ga
    have pga := cell_of Bga.out
    have fga := frozen_of Bga.out
    have lga := lt_of_heap Bga.out
    go_wp2_with fail
    go_ret
    exact ⟨rfl, by repeat (first | (with_reducible exact HkW.out) | (refine Keep.setPast ?_ _ _ _ (by omega)) | (refine Keep.allocPast ?_ _) | (refine Keep.drewPast ?_))⟩
   ·have HRes : Hid (∀ q ok, QRoot r q ok → decide KK = !ok) := by
     intro q ok hq
     cases ok with
     | true => exact decide_eq_false (fun h => (HK2.out h).sq (by dsimp only; grind) q (hq.1 rfl).2)
     | false => exact decide_eq_true (HK1.out ⟨p, r, n⟩ ⟨by show (0 : Rat) ≤ r; grind, fun h => absurd h (by dsimp only; grind), fun _ => (hq.2 rfl).2⟩ rfl rfl rfl)
    generalize decide KK = res at *
    rw [hsg] at HS
    have HR : Hid (∀ w : World, Calls Tryz.prog 85 #[.agg #[.bool (sgB r.num), .string (mgS r.num), .bool false, .string (dnS r.den)]] w fun e w' => ∃ n s d ok, e = .returned (.tuple #[.agg #[.bool n, .string s, .bool false, .string d], .bool ok]) ∧ res = !ok ∧ Keep [] w w') := fun w => (HR.out w).mono (fun e w' h => by
     obtain ⟨q, ok, he, hq, hk⟩ := h
     exact ⟨_, _, _, ok, he, HRes.out q ok hq, hk⟩)
    clear HRes HK1 HK2 hsg hr0
    generalize sgB (p).num = a1 at *
    generalize mgS (p).num = a2 at *
    generalize dnS (p).den = a4 at *
    generalize sgB (r).num = b1 at *
    generalize mgS (r).num = b2 at *
    generalize dnS (r).den = b4 at *
    go_enter Tryz.func47, Tryz.ntmps47
    go_wp2_with fail
    obtain ⟨W, ga, hW, ega, bga, hga, hgW, hkW⟩ := al1 w (.cells #[.bool a1, .string a2, .bool false, .string a4, .bool b1, .string b2, .bool false, .string b4, .bool n] 31)
    rw [← hW]
    try rw [ega]
    have Bga := Lib.hid bga
    have HkW := Lib.hid hkW
    clear hW hkW ega bga
    have pga := cell_of Bga.out
    have fga := frozen_of Bga.out
    have lga := lt_of_heap Bga.out
    go_wp2_with fail
    refine (H1.out _).mono ?_
    rintro e w1 ⟨rfl, hk_w1⟩
    dsimp only
    clear pga fga lga
    have B2ga := Lib.hid (hk_w1.heap Bga.out (by simp))
    have HkW2 := Lib.hid (HkW.out.trans0 hk_w1)
    clear HkW hk_w1 Bga
    have Bga := B2ga
    have HkW := HkW2
    clear HkW2 B2ga
    have pga := cell_of Bga.out
    have fga := frozen_of Bga.out
    have lga := lt_of_heap Bga.out
    go_wp2_with fail
    refine (H2.out _).mono ?_
    rintro e w2 ⟨rfl, hk_w2⟩
    dsimp only
    clear pga fga lga
    have B2ga := Lib.hid (hk_w2.heap Bga.out (by simp))
    have HkW2 := Lib.hid (HkW.out.trans0 hk_w2)
    clear HkW hk_w2 Bga
    have Bga := B2ga
    have HkW := HkW2
    clear HkW2 B2ga
    have pga := cell_of Bga.out
    have fga := frozen_of Bga.out
    have lga := lt_of_heap Bga.out
    go_wp2_with fail
    refine (HS.out _).mono ?_
    rintro e w3 ⟨rfl, hk_w3⟩
    dsimp only
    clear pga fga lga
    have B2ga := Lib.hid (hk_w3.heap Bga.out (by simp))
    have HkW2 := Lib.hid (HkW.out.trans0 hk_w3)
    clear HkW hk_w3 Bga
    have Bga := B2ga
    have HkW := HkW2
    clear HkW2 B2ga
    have pga := cell_of Bga.out
    have fga := frozen_of Bga.out
    have lga := lt_of_heap Bga.out
    go_wp2_with fail
    refine (HS.out _).mono ?_
    rintro e w4 ⟨rfl, hk_w4⟩
    dsimp only
    clear pga fga lga
    have B2ga := Lib.hid (hk_w4.heap Bga.out (by simp))
    have HkW2 := Lib.hid (HkW.out.trans0 hk_w4)
    clear HkW hk_w4 Bga
    have Bga := B2ga
    have HkW := HkW2
    clear HkW2 B2ga
    have pga := cell_of Bga.out
    have fga := frozen_of Bga.out
    have lga := lt_of_heap Bga.out
    go_wp2_with fail
    refine (HR.out _).mono ?_
    rintro e w5 ⟨qn, qs, qd, ok, rfl, rfl, hk_w5⟩
    dsimp only
    clear pga fga lga
    have B2ga := Lib.hid (hk_w5.heap Bga.out (by simp))
    have HkW2 := Lib.hid (HkW.out.trans0 hk_w5)
    clear HkW hk_w5 Bga
    have Bga := B2ga
    have HkW := HkW2
    clear HkW2 B2ga
    go_wp2_with fail
    go_ret
    exact ⟨rfl, by repeat (first | (with_reducible exact HkW.out) | (refine Keep.setPast ?_ _ _ _ (by omega)) | (refine Keep.allocPast ?_ _) | (refine Keep.drewPast ?_))⟩
end Go.Proofs.YteknldaoegccaaaGreatDoor
set_option maxRecDepth 100000
namespace Go.Proofs.YteknldaoegccaaaGreatDoor
open Go.RowKit
open Classical
def MI (w0 w : World) (L : List (Value × List (Iv K))) : Prop := Keep [] w0 w ∧ ∀ p ∈ L, IvR w p.1 p.2
theorem MI.start (w : World) : MI w w [] := ⟨Keep.refl _ _, by simp⟩
theorem MI.add {w0 w w' : World} {L : List (Value × List (Iv K))} (h : MI w0 w L) {v : Value} {l : List (Iv K)} (hk : Keep [] w w') (hv : IvR w' v l) : MI w0 w' ((v, l) :: L) :=
 ⟨h.1.trans0 hk, fun p hp => by
  rcases List.mem_cons.1 hp with rfl | hp
  ·exact hv
  ·exact (h.2 p hp).later hk⟩
theorem MI.move {w0 w w' : World} {L : List (Value × List (Iv K))} (h : MI w0 w L) (hk : Keep [] w w') : MI w0 w' L := ⟨h.1.trans0 hk, fun p hp => (h.2 p hp).later hk⟩
theorem MI.get {w0 w : World} {L : List (Value × List (Iv K))} (h : MI w0 w L) (v : Value) (l : List (Iv K)) (hm : (v, l) ∈ L) : IvR w v l := h.2 (v, l) hm
theorem equal_t {l m : List (Iv K)} (he : l = m) (w : World) (sv tv : Value) (hr : IvR w sv l) (hs : IvR w tv m) (h9 : l.length ≤ 1000000000) :
  Calls Tryz.prog 17 #[sv, tv] w fun e w' => e = .returned (.bool true) ∧ Keep [] w w' := by
 have := equal_c l m w sv tv hr hs h9 (by rw [← he]; exact h9)
 rw [decide_eq_true he] at this
 exact this
theorem isrealK_c (x : K) (w : World) : Calls Tryz.prog 47 #[kv x] w fun e w' => e = .returned (.bool true) ∧ Keep [] w w' := by
 have hf := x.2.2
 have hd : ∀ n : Nat, FitQ 100000 n → True := fun _ _ => trivial
 have hs : (RawR.of x.1).sz 1000000 := by
  have h1 : ∀ n : Nat, Fit 100000 (n : Int) → (dnS n).size ≤ 1000000 := fun n h => by
   unfold dnS
   split
   ·exact Nat.zero_le _
   ·unfold Fit mgS at h
    rw [Int.natAbs_natCast] at h
    exact Nat.le_trans h (by decide)
  refine ⟨?_, h1 _ hf.1.2, ?_, h1 _ hf.2.2⟩
  ·exact Nat.le_trans hf.1.1 (by decide)
  ·exact Nat.le_trans hf.2.1 (by decide)
 have := isreal_c (RawR.of x.1) hs w
 have hK : (RawR.of x.1).isK := ⟨x.1, x.2.1, rfl⟩
 rw [decide_eq_true hK] at this
 exact this
theorem isivT_c {i : Iv K} (h : i.f < i.l) (w : World) : Calls Tryz.prog 55 #[iv i] w fun e w' => e = .returned (.bool true) ∧ Keep [] w w' := by
 have := isiv_c i w
 rw [(isIvV_iff i).2 h] at this
 exact this
set_option maxHeartbeats 4000000 in
theorem pinstant_c (x : K) (w : World) : Calls Tryz.prog 49 #[kv x] w fun e w' => ∃ v, e = .returned v ∧ IvR w' v [⟨⟨x, false⟩, ⟨x, true⟩⟩] ∧ Keep [] w w' := by
 have HB := Lib.hid (iv_b01 x x)
 show Calls Tryz.prog 49 #[.agg (kC x)] w _
 go_enter Tryz.func49, Tryz.ntmps49
 go_upto_region 1 with (fail)
 obtain ⟨W, ga, hW, ega, bga, hga, hgW, hkW⟩ := al1 w (.cells (kC x) 31)
 rw [← hW]
 try rw [ega]
 have Bga := Lib.hid bga
 have HkW := Lib.hid hkW
 clear hW hkW ega bga
 refine wp_region_lit ?_
 refine wpList_R (v := kv x) (by rfl) (exec_load _ _ ⟨ga, 0, none⟩ _ rfl rfl (load_real _ _ _ _ (kAt_box Bga.out))) (fun K hK => ?_)
 go_simp
 refine hK _ _ ?_
 clear hK K
 refine wpList_R (v := kv x) (by rfl) (exec_load _ _ ⟨ga, 0, none⟩ _ rfl rfl (load_real _ _ _ _ (kAt_box Bga.out))) (fun K hK => ?_)
 go_simp
 refine hK _ _ ?_
 clear hK K
 refine wpList_R (v := iv ⟨⟨x, false⟩, ⟨x, true⟩⟩) (by rfl) (exec_build _ #[(0, .tmp 3), (1, .tmp 4)] #[(0, kv x), (1, kv x)] _ rfl (by simp only [List.map_toArray, List.map_cons, List.map_nil]; rfl) HB.out) (fun K hK => ?_)
 go_simp
 refine hK _ _ ?_
 clear hK K
 obtain ⟨ub, gy, e3, e4, hz1, hkx, hx⟩ := IvR.single ⟨⟨x, false⟩, ⟨x, true⟩⟩ W
 refine wpList_K (v := .slice (some ⟨W.heap.size, 0, none⟩) 1 1) (by rfl) (exec_bs 23 1 #[(0, .tmp 5)] #[(0, iv ⟨⟨x, false⟩, ⟨x, true⟩⟩)] _ rfl (by simp only [List.map_toArray, List.map_cons, List.map_nil]; rfl) (build1_i _ _)) (fun K hK => ?_)
 rw [e3, e4]
 clear e3
 go_simp
 refine hK _ _ ?_
 clear hK K
 have Hx := Lib.hid hx
 have Hk := Lib.hid (HkW.out.trans0 hkx)
 clear hx hkx
 go_wp2_with fail
 go_ret
 exact ⟨_, rfl, Hx.out, Hk.out⟩
theorem covers_c (a b : List (Iv K)) (ha : ∀ i ∈ a, i.f < i.l) (hb : ∀ i ∈ b, i.f < i.l) (w : World) (sv tv : Value) (hr : IvR w sv a) (hs : IvR w tv b) (h9 : a.length ≤ 10000) (h8 : b.length ≤ 10000) :
  Calls Tryz.prog 25 #[sv, tv] w fun e w' => e = .returned (.bool (decide (combK 3 b a = []))) ∧ Keep [] w w' := by
 have H := Lib.hid (Minus_p b a hb ha w tv sv hs hr h8 h9)
 obtain ⟨ao, ac, rfl, _⟩ := hr.form
 obtain ⟨bo, bc, rfl, _⟩ := hs.form
 clear hr hs ha hb
 go_enter Tryz.func25, Tryz.ntmps25
 go_wp2_with fail
 refine H.out.mono ?_
 rintro e w1 ⟨v, rfl, hv, hk⟩
 dsimp only
 have HK := Lib.hid hk
 obtain ⟨vo, vc, rfl, _⟩ := hv.form
 obtain ⟨r, hr⟩ : ∃ r, decide (combK 3 b a = []) = r := ⟨_, rfl⟩
 have hd : (((combK 3 b a).length : Int) == 0) = r := by
  rw [← hr, Bool.eq_iff_iff, beq_iff_eq, decide_eq_true_iff, ← List.length_eq_zero_iff]; omega
 have HRr := Lib.hid hr
 clear hv hk H hr
 generalize (combK 3 b a).length = n at *
 go_wp2_with fail
 go_ret
 exact ⟨by rw [HRr.out]; rfl, HK.out⟩
theorem overlaps_c (a b : List (Iv K)) (ha : ∀ i ∈ a, i.f < i.l) (hb : ∀ i ∈ b, i.f < i.l) (w : World) (sv tv : Value) (hr : IvR w sv a) (hs : IvR w tv b) (h9 : a.length ≤ 10000) (h8 : b.length ≤ 10000) :
  Calls Tryz.prog 26 #[sv, tv] w fun e w' => e = .returned (.bool (decide (combK 2 a b ≠ []))) ∧ Keep [] w w' := by
 have H := Lib.hid (Intersect_p a b ha hb w sv tv hr hs h9 h8)
 obtain ⟨ao, ac, rfl, _⟩ := hr.form
 obtain ⟨bo, bc, rfl, _⟩ := hs.form
 clear hr hs ha hb
 go_enter Tryz.func26, Tryz.ntmps26
 go_wp2_with fail
 refine H.out.mono ?_
 rintro e w1 ⟨v, rfl, hv, hk⟩
 dsimp only
 have HK := Lib.hid hk
 obtain ⟨vo, vc, rfl, _⟩ := hv.form
 obtain ⟨r, hr⟩ : ∃ r, decide (combK 2 a b ≠ []) = r := ⟨_, rfl⟩
 have hd : decide (0 < (combK 2 a b).length) = r := by
  rw [← hr, Bool.eq_iff_iff, decide_eq_true_iff, decide_eq_true_iff, ne_eq, ← List.length_eq_zero_iff]; omega
 have HRr := Lib.hid hr
 clear hv hk H hr
 generalize (combK 2 a b).length = n at *
 go_wp2_with fail
 go_ret
 exact ⟨by rw [HRr.out]; rfl, HK.out⟩
end Go.Proofs.YteknldaoegccaaaGreatDoor
set_option maxRecDepth 100000
namespace Go.Proofs.YteknldaoegccaaaGreatDoor
open Go.RowKit
open Classical
theorem iv_b013r (f1 f4 f7 t1 t4 t7 : Bool) (f2 f3 f5 f6 t2 t3 t5 t6 : ByteArray) : Tryz.prog.built 33 [(0, .agg #[.bool f1, .string f2, .bool false, .string f3, .bool f4, .string f5, .bool false, .string f6, .bool f7]), (1, .agg #[.bool t1, .string t2, .bool false, .string t3, .bool t4, .string t5, .bool false, .string t6, .bool t7]), (3, .bool true)] = some #[.bool f1, .string f2, .bool false, .string f3, .bool f4, .string f5, .bool false, .string f6, .bool f7, .bool t1, .string t2, .bool false, .string t3, .bool t4, .string t5, .bool false, .string t6, .bool t7, .bool false, .bool true] := by kernel_rfl
theorem iv_b013 (x y : K) : Tryz.prog.built 33 [(0, kv x), (1, kv y), (3, .bool true)] = some (iC ⟨⟨x, false⟩, ⟨y, false⟩⟩) := iv_b013r _ _ _ _ _ _ _ _ _ _ _ _ _ _
theorem iv_b012r (f1 f4 f7 t1 t4 t7 : Bool) (f2 f3 f5 f6 t2 t3 t5 t6 : ByteArray) : Tryz.prog.built 33 [(0, .agg #[.bool f1, .string f2, .bool false, .string f3, .bool f4, .string f5, .bool false, .string f6, .bool f7]), (1, .agg #[.bool t1, .string t2, .bool false, .string t3, .bool t4, .string t5, .bool false, .string t6, .bool t7]), (2, .bool true)] = some #[.bool f1, .string f2, .bool false, .string f3, .bool f4, .string f5, .bool false, .string f6, .bool f7, .bool t1, .string t2, .bool false, .string t3, .bool t4, .string t5, .bool false, .string t6, .bool t7, .bool true, .bool false] := by kernel_rfl
theorem iv_b012 (x y : K) : Tryz.prog.built 33 [(0, kv x), (1, kv y), (2, .bool true)] = some (iC ⟨⟨x, true⟩, ⟨y, true⟩⟩) := iv_b012r _ _ _ _ _ _ _ _ _ _ _ _ _ _
theorem eqT_run (i : Iv K) (w : World) : (binOp .eql 33 (iv i) (iv i)).run Tryz.prog w = .ok (.bool true) w := by rw [eqlI_run]; simp
theorem one_has (i : Iv K) (x : Bd K) : hasL [i] x = i.has x := by rw [hasL_cons, hasL_nil, Bool.or_false]
theorem known_u {k0 k2 k3 : K} (h1 : k0 < k2) (h2 : k2 < k3) : combK 1 [⟨⟨k0, false⟩, ⟨k2, false⟩⟩] [⟨⟨k2, false⟩, ⟨k3, true⟩⟩] = [⟨⟨k0, false⟩, ⟨k3, true⟩⟩] := by
 refine combK_eq ?_ (fun x => ?_)
 ·refine ⟨?_, trivial⟩
  rw [Bd.lt_def]; exact .inl (by dsimp only; grind)
 ·rw [one_has, one_has, one_has]
  unfold decV
  rw [if_pos rfl, Bool.eq_iff_iff, Bool.or_eq_true, Iv.has_iff, Iv.has_iff, Iv.has_iff]
  have a1 : (⟨k0, false⟩ : Bd K) < ⟨k2, false⟩ := Bd.lt_def.2 (.inl h1)
  have a2 : (⟨k2, false⟩ : Bd K) < ⟨k3, true⟩ := Bd.lt_def.2 (.inl h2)
  dsimp only
  grind
theorem known_m {k0 k1 k3 : K} (h1 : k0 < k1) (h2 : k1 < k3) : combK 3 [⟨⟨k0, false⟩, ⟨k3, true⟩⟩] [⟨⟨k1, false⟩, ⟨k1, true⟩⟩] = [⟨⟨k0, false⟩, ⟨k1, false⟩⟩, ⟨⟨k1, true⟩, ⟨k3, true⟩⟩] := by
 have a1 : (⟨k0, false⟩ : Bd K) < ⟨k1, false⟩ := Bd.lt_def.2 (.inl h1)
 have a2 : (⟨k1, false⟩ : Bd K) < ⟨k1, true⟩ := Bd.lt_def.2 (.inr ⟨rfl, rfl, rfl⟩)
 have a3 : (⟨k1, true⟩ : Bd K) < ⟨k3, true⟩ := Bd.lt_def.2 (.inl h2)
 refine combK_eq ?_ (fun x => ?_)
 ·exact ⟨a1, a2, a3, trivial⟩
 ·rw [one_has, one_has, hasL_cons, one_has]
  unfold decV
  rw [if_neg (by decide), if_neg (by decide), Bool.eq_iff_iff, Bool.or_eq_true, Bool.and_eq_true, Bool.not_eq_true', ← Bool.not_eq_true, Iv.has_iff, Iv.has_iff, Iv.has_iff, Iv.has_iff]
  dsimp only
  grind
set_option maxHeartbeats 8000000 in
theorem known_c0 (k0 k1 k2 k3 : K) (h1 : k0 < k1) (h2 : k1 < k2) (h3 : k2 < k3) (c0 : ∀ w, Calls Tryz.prog 54 #[.int .i64 0] w fun e w' => e = .returned (kv k0) ∧ Keep [] w w') (c1 : ∀ w, Calls Tryz.prog 54 #[.int .i64 1] w fun e w' => e = .returned (kv k1) ∧ Keep [] w w')
  (c2 : ∀ w, Calls Tryz.prog 54 #[.int .i64 2] w fun e w' => e = .returned (kv k2) ∧ Keep [] w w') (c3 : ∀ w, Calls Tryz.prog 54 #[.int .i64 3] w fun e w' => e = .returned (kv k3) ∧ Keep [] w w') (w : World) :
  Calls Tryz.prog 16 #[] w fun e w' => e = .returned (.bool true) ∧ Keep [] w w' := by
 have C0 := Lib.hid c0
 have C1 := Lib.hid c1
 have C2 := Lib.hid c2
 have C3 := Lib.hid c3
 have hv1 : (⟨⟨k0, false⟩, ⟨k2, false⟩⟩ : Iv K).f < (⟨⟨k0, false⟩, ⟨k2, false⟩⟩ : Iv K).l := Bd.lt_def.2 (.inl (by dsimp only; grind))
 have hv2 : (⟨⟨k2, false⟩, ⟨k3, true⟩⟩ : Iv K).f < (⟨⟨k2, false⟩, ⟨k3, true⟩⟩ : Iv K).l := Bd.lt_def.2 (.inl (by dsimp only; grind))
 have hv3 : (⟨⟨k0, false⟩, ⟨k3, true⟩⟩ : Iv K).f < (⟨⟨k0, false⟩, ⟨k3, true⟩⟩ : Iv K).l := Bd.lt_def.2 (.inl (by dsimp only; grind))
 have hv4 : (⟨⟨k1, false⟩, ⟨k1, true⟩⟩ : Iv K).f < (⟨⟨k1, false⟩, ⟨k1, true⟩⟩ : Iv K).l := Bd.lt_def.2 (.inr ⟨rfl, rfl, rfl⟩)
 have HU := Lib.hid (fun w sv tv hr hs => Union_p [⟨⟨k0, false⟩, ⟨k2, false⟩⟩] [⟨⟨k2, false⟩, ⟨k3, true⟩⟩] (fun i hi => by simp at hi; subst hi; exact hv1) (fun i hi => by simp at hi; subst hi; exact hv2) w sv tv hr hs (by simp) (by simp))
 have HM := Lib.hid (fun w sv tv hr hs => Minus_p [⟨⟨k0, false⟩, ⟨k3, true⟩⟩] [⟨⟨k1, false⟩, ⟨k1, true⟩⟩] (fun i hi => by simp at hi; subst hi; exact hv3) (fun i hi => by simp at hi; subst hi; exact hv4) w sv tv hr hs (by simp) (by simp))
 rw [known_u (by grind) h3] at HU
 rw [known_m h1 (by grind)] at HM
 have HI := Lib.hid (pinstant_c k1)
 clear c0 c1 c2 c3 h1 h2 h3 hv1 hv2 hv3 hv4
 go_enter Tryz.func16, Tryz.ntmps16
 go_upto_region 1 with (fail)
 refine wp_region_lit ?_
 refine wpList_plain (by rfl) (fun K hK => ?_)
 refine wp_enter 54 #[.int .i64 0] (by go_simp) ?_
 refine (C0.out _).mono ?_
 rintro e w1 ⟨rfl, hk_w1⟩
 refine ⟨_, rfl, ?_⟩
 go_simp
 refine hK _ _ ?_
 clear hK K
 refine wpList_plain (by rfl) (fun K hK => ?_)
 refine wp_enter 54 #[.int .i64 2] (by go_simp) ?_
 refine (C2.out _).mono ?_
 rintro e w2 ⟨rfl, hk_w2⟩
 refine ⟨_, rfl, ?_⟩
 go_simp
 refine hK _ _ ?_
 clear hK K
 refine wpList_R (v := iv ⟨⟨k0, false⟩, ⟨k2, false⟩⟩) (by rfl) (exec_build _ #[(0, .tmp 5), (1, .tmp 6), (3, .const (.bool true))] #[(0, kv k0), (1, kv k2), (3, .bool true)] _ rfl (by simp only [List.map_toArray, List.map_cons, List.map_nil]; rfl) (iv_b013 k0 k2)) (fun K hK => ?_)
 go_simp
 refine hK _ _ ?_
 clear hK K
 obtain ⟨w3, ga, e3, e4, _, hk3, hx3⟩ := IvR.single ⟨⟨k0, false⟩, ⟨k2, false⟩⟩ w2
 refine wpList_K (v := .slice (some ⟨(w2).heap.size, 0, none⟩) 1 1) (by rfl) (exec_bs 23 1 #[(0, .tmp 7)] #[(0, iv ⟨⟨k0, false⟩, ⟨k2, false⟩⟩)] _ rfl (by simp only [List.map_toArray, List.map_cons, List.map_nil]; rfl) (build1_i _ _)) (fun K hK => ?_)
 rw [e3, e4]
 clear e3 e4
 go_simp
 refine hK _ _ ?_
 clear hK K
 have HMI := Lib.hid ((MI.start w).add ((hk_w1.trans0 hk_w2).trans0 hk3) hx3)
 clear hk_w1 hk_w2 hk3 hx3
 go_upto_region 2 with (fail)
 refine wp_region_lit ?_
 refine wpList_plain (by rfl) (fun K hK => ?_)
 refine wp_enter 54 #[.int .i64 2] (by go_simp) ?_
 refine (C2.out _).mono ?_
 rintro e w4 ⟨rfl, hk_w4⟩
 refine ⟨_, rfl, ?_⟩
 go_simp
 refine hK _ _ ?_
 clear hK K
 refine wpList_plain (by rfl) (fun K hK => ?_)
 refine wp_enter 54 #[.int .i64 3] (by go_simp) ?_
 refine (C3.out _).mono ?_
 rintro e w5 ⟨rfl, hk_w5⟩
 refine ⟨_, rfl, ?_⟩
 go_simp
 refine hK _ _ ?_
 clear hK K
 refine wpList_R (v := iv ⟨⟨k2, false⟩, ⟨k3, true⟩⟩) (by rfl) (exec_build _ #[(0, .tmp 9), (1, .tmp 10)] #[(0, kv k2), (1, kv k3)] _ rfl (by simp only [List.map_toArray, List.map_cons, List.map_nil]; rfl) (iv_b01 k2 k3)) (fun K hK => ?_)
 go_simp
 refine hK _ _ ?_
 clear hK K
 obtain ⟨w6, gb, e3, e4, _, hk6, hx6⟩ := IvR.single ⟨⟨k2, false⟩, ⟨k3, true⟩⟩ w5
 refine wpList_K (v := .slice (some ⟨(w5).heap.size, 0, none⟩) 1 1) (by rfl) (exec_bs 23 1 #[(0, .tmp 11)] #[(0, iv ⟨⟨k2, false⟩, ⟨k3, true⟩⟩)] _ rfl (by simp only [List.map_toArray, List.map_cons, List.map_nil]; rfl) (build1_i _ _)) (fun K hK => ?_)
 rw [e3, e4]
 clear e3 e4
 go_simp
 refine hK _ _ ?_
 clear hK K
 have HMI := Lib.hid (HMI.out.add ((hk_w4.trans0 hk_w5).trans0 hk6) hx6)
 clear hk_w4 hk_w5 hk6 hx6
 go_wp2_with fail
 refine (HU.out _ _ _ (HMI.out.get _ _ (by simp)) (HMI.out.get _ _ (by simp))).mono ?_
 rintro e w7 ⟨v7, rfl, hv7, hk7⟩
 dsimp only
 have HMI := Lib.hid (HMI.out.add hk7 hv7)
 obtain ⟨ou, cu, rfl, _⟩ := hv7.form
 clear hv7 hk7
 go_upto_region 4 with (fail)
 refine wp_region_lit ?_
 refine' wpList_R (v := _) (by rfl) (?hruna) (fun K hK => ?hnexta)
 case hruna => (go_simp; try rfl)
 rotate_left 0
 go_simp
 refine hK _ _ ?_
 clear hK K
 refine wpList_plain (by rfl) (fun K hK => ?_)
 refine wp_enter 54 #[.int .i64 1] (by go_simp) ?_
 refine (C1.out _).mono ?_
 rintro e w8 ⟨rfl, hk_w8⟩
 refine ⟨_, rfl, ?_⟩
 go_simp
 refine hK _ _ ?_
 clear hK K
 refine wpList_plain (by rfl) (fun K hK => ?_)
 refine wp_enter 49 #[kv k1] (by go_simp) ?_
 refine (HI.out _).mono ?_
 rintro e w9 ⟨v9, rfl, hv9, hk9⟩
 refine ⟨_, rfl, ?_⟩
 go_simp
 refine hK _ _ ?_
 clear hK K
 have HMI := Lib.hid (HMI.out.add (hk_w8.trans0 hk9) hv9)
 clear hk_w8 hk9 hv9
 refine wpList_plain (by rfl) (fun K hK => ?_)
 refine wp_enter 24 #[.slice ou 1 cu, v9] (by go_simp) ?_
 refine (HM.out _ _ _ (HMI.out.get _ _ (by simp)) (HMI.out.get v9 _ (by simp))).mono ?_
 rintro e w10 ⟨v10, rfl, hv10, hk10⟩
 refine ⟨_, rfl, ?_⟩
 go_simp
 refine hK _ _ ?_
 clear hK K
 have HMI := Lib.hid (HMI.out.add hk10 hv10)
 obtain ⟨om, cm, rfl, _⟩ := hv10.form
 clear hv10 hk10 HU HM HI
 obtain ⟨gu, pu, rfl, hgu, hatu⟩ := IvR.elem (HMI.out.get (.slice ou 1 cu) [⟨⟨k0, false⟩, ⟨k3, true⟩⟩] (by simp)) 0 (by simp)
 obtain ⟨gm, pm, rfl, hgm, hat0⟩ := IvR.elem (HMI.out.get (.slice om 2 cm) [⟨⟨k0, false⟩, ⟨k1, false⟩⟩, ⟨⟨k1, true⟩, ⟨k3, true⟩⟩] (by simp)) 0 (by simp)
 obtain ⟨gm', pm', hgm', _, hat1⟩ := IvR.elem (HMI.out.get (.slice (some ⟨gm, pm, none⟩) 2 cm) [⟨⟨k0, false⟩, ⟨k1, false⟩⟩, ⟨⟨k1, true⟩, ⟨k3, true⟩⟩] (by simp)) 1 (by simp)
 injection hgm' with hgm'
 injection hgm' with q1 q2
 subst q1 q2
 have HLu := Lib.hid (hatu.ld hgu)
 have HL0 := Lib.hid (hat0.ld hgm)
 have HL1 := Lib.hid (hat1.ld hgm)
 simp only [Nat.zero_mul, Nat.one_mul, Nat.add_zero, List.getElem_cons_zero, List.getElem_cons_succ] at HLu HL0 HL1
 have E1 := Lib.hid (eqT_run ⟨⟨k0, false⟩, ⟨k3, true⟩⟩)
 have E2 := Lib.hid (eqT_run ⟨⟨k0, false⟩, ⟨k1, false⟩⟩)
 have E3 := Lib.hid (eqT_run ⟨⟨k1, true⟩, ⟨k3, true⟩⟩)
 have B1 := Lib.hid (iv_b01 k0 k3)
 have B2 := Lib.hid (iv_b013 k0 k1)
 have B3 := Lib.hid (iv_b012 k1 k3)
 have HKz := Lib.hid HMI.out.1
 clear hatu hat0 hat1 HMI
 have Q0 : Hid (∀ m : KW w10, Calls Tryz.prog 54 #[.int .i64 0] (Wk w10 m) fun e w' => e = .returned (kv k0) ∧ ∃ m, w' = Wk w10 m) := fun m => qk m (C0.out _)
 have Q1 : Hid (∀ m : KW w10, Calls Tryz.prog 54 #[.int .i64 1] (Wk w10 m) fun e w' => e = .returned (kv k1) ∧ ∃ m, w' = Wk w10 m) := fun m => qk m (C1.out _)
 have Q3 : Hid (∀ m : KW w10, Calls Tryz.prog 54 #[.int .i64 3] (Wk w10 m) fun e w' => e = .returned (kv k3) ∧ ∃ m, w' = Wk w10 m) := fun m => qk m (C3.out _)
 clear C0 C1 C2 C3
 unfold kv iv at *
 generalize kC k0 = K0 at *
 generalize kC k1 = K1 at *
 generalize kC k2 = K2 at *
 generalize kC k3 = K3 at *
 generalize iC ⟨⟨k0, false⟩, ⟨k3, true⟩⟩ = I1 at *
 generalize iC ⟨⟨k0, false⟩, ⟨k1, false⟩⟩ = I2 at *
 generalize iC ⟨⟨k1, true⟩, ⟨k3, true⟩⟩ = I3 at *
 go_upto_region 5 with (fail)
 refine wp_region_keep (by kernel_rfl) (by kernel_rfl) ?_
 repeat (first
  | go_big_quiet_skip
  | (go_big_quiet_want; first
   | (refine quiet_load _ _ _ (.agg I1) rfl rfl (by rintro _ ⟨m, rfl⟩; exact HLu.out m) ?_; go_simp; go_big_quiet_on) | (refine quiet_load _ _ _ (.agg I2) rfl rfl (by rintro _ ⟨m, rfl⟩; exact HL0.out m) ?_; go_simp; go_big_quiet_on) | (refine quiet_load _ _ _ (.agg I3) rfl rfl (by rintro _ ⟨m, rfl⟩; exact HL1.out m) ?_; go_simp; go_big_quiet_on) | (refine quiet_build _ _ #[(0, .agg K0), (1, .agg K3)] (I1) rfl (by simp only [List.map_toArray, List.map_cons, List.map_nil]; rfl) B1.out ?_; go_simp; go_big_quiet_on) | (refine quiet_build _ _ #[(0, .agg K0), (1, .agg K1), (3, .bool true)] (I2) rfl (by simp only [List.map_toArray, List.map_cons, List.map_nil]; rfl) B2.out ?_; go_simp; go_big_quiet_on) | (refine quiet_build _ _ #[(0, .agg K1), (1, .agg K3), (2, .bool true)] (I3) rfl (by simp only [List.map_toArray, List.map_cons, List.map_nil]; rfl) B3.out ?_; go_simp; go_big_quiet_on) | (refine quiet_bin _ _ _ _ _ _ _ (.bool true) rfl rfl rfl eqI_g (by intro w; exact E1.out w) ?_; go_simp; go_big_quiet_on) | (refine quiet_bin _ _ _ _ _ _ _ (.bool true) rfl rfl rfl eqI_g (by intro w; exact E2.out w) ?_; go_simp; go_big_quiet_on) | (refine quiet_bin _ _ _ _ _ _ _ (.bool true) rfl rfl rfl eqI_g (by intro w; exact E3.out w) ?_; go_simp; go_big_quiet_on)
   | (go_big_quiet_op; first | go_big_quiet_on | go_big_quiet_call (first
    | (go_at_call 54; with_reducible exact (Q0).out _) | (go_at_call 54; with_reducible exact (Q1).out _) | (go_at_call 54; with_reducible exact (Q3).out _)))))
 refine wpQuiet_nil ?_
 rintro wz ⟨⟨_, hk_wz⟩, rfl⟩
 have HkZ := Lib.hid (HKz.out.trans0 hk_wz)
 clear hk_wz
 go_wp2_with fail
 go_ret
 exact ⟨rfl, HkZ.out⟩
theorem known_c (w : World) : Calls Tryz.prog 16 #[] w fun e w' => e = .returned (.bool true) ∧ Keep [] w w' :=
 known_c0 (kN 0 (by decide)) (kN 1 (by decide)) (kN 2 (by decide)) (kN 3 (by decide)) (kN_lt.2 (by decide)) (kN_lt.2 (by decide)) (kN_lt.2 (by decide)) (fun w => lwhole_c 0 (by decide) w) (fun w => lwhole_c 1 (by decide) w) (fun w => lwhole_c 2 (by decide) w) (fun w => lwhole_c 3 (by decide) w) w
end Go.Proofs.YteknldaoegccaaaGreatDoor
