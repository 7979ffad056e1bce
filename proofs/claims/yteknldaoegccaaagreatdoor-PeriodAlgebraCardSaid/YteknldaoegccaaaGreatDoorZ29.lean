/- Parts of a proof about this translation: Sl, Ps, Sm. -/
import Derived.Test.YteknldaoegccaaaGreatDoorZ28
import Derived.Test.YteknldaoegccaaaGreatDoorZ01
set_option linter.unusedVariables false
set_option linter.unusedSimpArgs false
set_option maxRecDepth 100000
namespace Go.Proofs.YteknldaoegccaaaGreatDoor
open Go.RowKit
def isI (n : Bool) (s : ByteArray) : Bool := if h : 0 < s.size then (((s[0]'h).toNat : Nat) : Int) != 0 else !n
set_option maxHeartbeats 2000000 in
theorem risint_c (n : Bool) (s : ByteArray) (hs : s.size ≤ 1000000000000) (w : World) :
  Calls Tryz.prog 114 #[.agg #[.bool n, .string s]] w fun e w' => e = .returned (.bool (isI n s)) ∧ Keep [] w w' := by
 by_cases h0 : s.size = 0
 ·have hi : isI n s = !n := dif_neg (by omega)
  rw [hi]
  have hz : ((s.size : Int) == 0) = true := by rw [beq_iff_eq]; omega
  cases n
  all_goals
   clear hi h0
   go_enter Tryz.func114, Tryz.ntmps114
   go_wp2_with fail
   obtain ⟨W, ga, hW, ega, bga, hga, hgW, hkW⟩ := al1 w (.cells #[.bool _, .string s] 27)
   rw [← hW]
   try rw [ega]
   have Bga := Lib.hid bga
   have HkW := Lib.hid hkW
   clear hW hkW ega bga
   have pga := cell_of Bga.out
   have fga := frozen_of Bga.out
   have lga := lt_of_heap Bga.out
   go_wp2_with fail
   go_ret
   exact ⟨rfl, by repeat (first | (with_reducible exact HkW.out) | (refine Keep.setPast ?_ _ _ _ (by omega)) | (refine Keep.allocPast ?_ _) | (refine Keep.drewPast ?_))⟩
 ·have hlt : 0 < s.size := by omega
  have hi : isI n s = ((((s[0]'hlt).toNat : Nat) : Int) != 0) := dif_pos hlt
  rw [hi]
  have hz : ((s.size : Int) == 0) = false := by rw [beq_eq_false_iff_ne]; omega
  clear hi h0
  go_enter Tryz.func114, Tryz.ntmps114
  go_wp2_with fail
  obtain ⟨W, ga, hW, ega, bga, hga, hgW, hkW⟩ := al1 w (.cells #[.bool n, .string s] 27)
  rw [← hW]
  try rw [ega]
  have Bga := Lib.hid bga
  have HkW := Lib.hid hkW
  clear hW hkW ega bga
  have pga := cell_of Bga.out
  have fga := frozen_of Bga.out
  have lga := lt_of_heap Bga.out
  go_wp2_with fail
  go_ret
  exact ⟨rfl, by repeat (first | (with_reducible exact HkW.out) | (refine Keep.setPast ?_ _ _ _ (by omega)) | (refine Keep.allocPast ?_ _) | (refine Keep.drewPast ?_))⟩
theorem size_zero {s : ByteArray} (h : s.size = 0) : s = ⟨#[]⟩ := ByteArray.ext (by apply Array.eq_empty_of_size_eq_zero; exact h)
theorem isI_can {n : Bool} {s : ByteArray} : isI n s = true ↔ CanS s ∧ (s.size = 0 → n = false) := by
 unfold isI
 split
 ·rename_i h
  obtain ⟨⟨l⟩⟩ := s
  cases l with
  | nil => exact absurd h (by simp [ByteArray.size])
  | cons b l =>
   have e : (⟨⟨b :: l⟩⟩ : ByteArray)[0]'h = b := rfl
   rw [e]
   unfold CanS CanL
   simp only [List.head?_cons, Option.some.injEq, forall_eq', bne_iff_ne, ne_eq]
   constructor
   ·intro h2
    refine ⟨fun h3 => h2 (by rw [h3]; rfl), fun h3 => absurd h3 (by simp [ByteArray.size])⟩
   ·rintro ⟨h2, _⟩ h3
    exact h2 (UInt8.toNat_inj.1 (by simpa using h3))
 ·rename_i h
  have h0 : s.size = 0 := by omega
  have e := size_zero h0
  subst e
  unfold CanS CanL
  simp [h0]
theorem isI_iff {n : Bool} {s : ByteArray} : isI n s = true ↔ ∃ z : Int, sgB z = n ∧ mgS z = s := by
 rw [isI_can]
 constructor
 ·rintro ⟨h1, h2⟩
  refine ⟨mk n (natB s), ?_, ?_⟩
  ·rw [mk_sg]
   cases n
   ·rfl
   ·by_cases h0 : natB s = 0
    ·exfalso
     have := magS_nat s h1
     rw [h0, show magS 0 = ⟨#[]⟩ from mg_empty.2 (rfl : (0 : Int) = 0)] at this
     have h3 := h2 (by rw [← this]; rfl)
     cases h3
    ·simp [h0]
  ·rw [mk_mg, magS_nat s h1]
 ·rintro ⟨z, rfl, rfl⟩
  refine ⟨mg_can z, fun h => ?_⟩
  have := mg_empty.1 (size_zero h)
  subst this
  rfl
def chkQ (n : Bool) (s : ByteArray) (m : Bool) (t : ByteArray) : Bool := isI n s && isI m t && !m && (decide (t.size = 0) || (decide (t ≠ ⟨#[1]⟩) && decide (Nat.gcd (natB s) (natB t) = 1)))
theorem magS_one : magS 1 = ⟨#[1]⟩ := by
 have h := magS_nat ⟨#[1]⟩ (by unfold CanS CanL; simp)
 have e : natB ⟨#[1]⟩ = 1 := rfl
 rw [e] at h
 exact h
theorem chkQ_iff {n : Bool} {s : ByteArray} {m : Bool} {t : ByteArray} : chkQ n s m t = true ↔ ∃ q : Rat, n = sgB q.num ∧ s = mgS q.num ∧ m = false ∧ t = dnS q.den := by
 unfold chkQ
 simp only [Bool.and_eq_true, Bool.or_eq_true, decide_eq_true_eq, Bool.not_eq_true']
 constructor
 ·rintro ⟨⟨⟨h1, h2⟩, rfl⟩, h3⟩
  obtain ⟨z, rfl, rfl⟩ := isI_iff.1 h1
  have ht := (isI_can.1 h2).1
  rcases h3 with h3 | ⟨h3, h4⟩
  ·exact ⟨(z : Rat), rfl, rfl, rfl, by rw [size_zero h3]; exact (dn_one rfl).symm⟩
  ·rw [natB_mg] at h4
   have hd1 : natB t ≠ 1 := fun e => h3 (by rw [← magS_nat t ht, e, magS_one])
   by_cases hd0 : natB t = 0
   ·have e : t = ⟨#[]⟩ := by rw [← magS_nat t ht, hd0, magS_zero]
    exact ⟨(z : Rat), rfl, rfl, rfl, by rw [e]; exact (dn_one rfl).symm⟩
   ·refine ⟨⟨z, natB t, hd0, h4⟩, rfl, rfl, rfl, ?_⟩
    show t = dnS (natB t)
    rw [dn_big hd1, magS_nat t ht]
 ·rintro ⟨q, rfl, rfl, rfl, rfl⟩
  refine ⟨⟨⟨isI_iff.2 ⟨_, rfl, rfl⟩, ?_⟩, rfl⟩, ?_⟩
  ·by_cases h1 : q.den = 1
   ·rw [h1, dn_one rfl]; rfl
   ·rw [dn_big h1]
    refine isI_iff.2 ⟨(q.den : Int), ?_, ?_⟩
    ·unfold sgB; simp
    ·unfold mgS; simp
  ·by_cases h1 : q.den = 1
   ·rw [h1, dn_one rfl]; exact .inl rfl
   ·rw [dn_big h1]
    refine .inr ⟨fun e => h1 ?_, ?_⟩
    ·have := congrArg natB e
     rw [natB_mag] at this
     exact this
    ·rw [natB_mg, natB_mag]; exact q.reduced
set_option maxHeartbeats 4000000 in
theorem rcheck_c (n : Bool) (s : ByteArray) (m : Bool) (t : ByteArray) (hs : s.size ≤ 100000000) (ht : t.size ≤ 100000000) (w : World) :
  Calls Tryz.prog 84 #[.agg #[.bool n, .string s, .bool m, .string t]] w fun e w' => e = .returned (.bool (chkQ n s m t)) ∧ Keep [] w w' := by
 have H1 := Lib.hid (risint_c n s (by omega))
 have H2 := Lib.hid (risint_c m t (by omega))
 have HL : Hid (∀ n s w', Hid (s.size ≤ 100000000) → Calls Tryz.prog 116 #[.agg #[.bool n, .string s]] w' (Digits w' (natB s))) := fun n s w' h => rdigits_s n s (by have := h.out; omega) w'
 have HD1 := Lib.hid (fun w' => HL.out n s w' hs)
 have HD2 := Lib.hid (fun w' => HL.out m t w' ht)
 have hl1 : Ln (natB s) ≤ 100000000 := by
  have := natB_lt s
  exact Nat.le_trans (Ln_le.2 this) hs
 have hl2 : Ln (natB t) ≤ 100000000 := by
  have := natB_lt t
  exact Nat.le_trans (Ln_le.2 this) ht
 have HLL := Lib.hid (And.intro hl1 hl2)
 clear HL hs ht hl1 hl2
 have HR : Hid (chkQ n s m t = (isI n s && isI m t && !m && (decide (t.size = 0) || (decide (t ≠ ⟨#[1]⟩) && decide (Nat.gcd (natB s) (natB t) = 1))))) := rfl
 generalize chkQ n s m t = res at *
 generalize isI n s = b1 at *
 generalize isI m t = b2 at *
 generalize natB s = A at *
 generalize natB t = B at *
 cases b1 with
 | false =>
  have hr : res = false := by rw [HR.out]; rfl
  subst hr
  clear HR HD1 HD2 HLL H2
  go_enter Tryz.func84, Tryz.ntmps84
  go_wp2_with fail
  obtain ⟨W, ga, hW, ega, bga, hga, hgW, hkW⟩ := al1 w (.cells #[.bool n, .string s, .bool m, .string t] 29)
  rw [← hW]
  try rw [ega]
  have Bga := Lib.hid bga
  have HkW := Lib.hid hkW
  clear hW hkW ega bga
  have pga := cell_of Bga.out
  have fga := frozen_of Bga.out
  have lga := lt_of_heap Bga.out
  go_wp2_with fail
  refine (H1.out _).mono ?_
  rintro e w1 ⟨rfl, hk1⟩
  dsimp only
  clear pga fga lga H1
  have B2ga := Lib.hid (hk1.heap Bga.out (by simp))
  have HkW2 := Lib.hid (HkW.out.trans0 hk1)
  clear HkW hk1 Bga
  have Bga := B2ga
  have HkW := HkW2
  clear HkW2 B2ga
  have pga := cell_of Bga.out
  have fga := frozen_of Bga.out
  have lga := lt_of_heap Bga.out
  go_wp2_with fail
  go_ret
  exact ⟨rfl, by repeat (first | (with_reducible exact HkW.out) | (refine Keep.setPast ?_ _ _ _ (by omega)) | (refine Keep.allocPast ?_ _) | (refine Keep.drewPast ?_))⟩
 | true =>
  cases b2 with
  | false =>
   have hr : res = false := by rw [HR.out]; rfl
   subst hr
   clear HR HD1 HD2 HLL
   go_enter Tryz.func84, Tryz.ntmps84
   go_wp2_with fail
   obtain ⟨W, ga, hW, ega, bga, hga, hgW, hkW⟩ := al1 w (.cells #[.bool n, .string s, .bool m, .string t] 29)
   rw [← hW]
   try rw [ega]
   have Bga := Lib.hid bga
   have HkW := Lib.hid hkW
   clear hW hkW ega bga
   have pga := cell_of Bga.out
   have fga := frozen_of Bga.out
   have lga := lt_of_heap Bga.out
   go_wp2_with fail
   refine (H1.out _).mono ?_
   rintro e w1 ⟨rfl, hk1⟩
   dsimp only
   clear pga fga lga H1
   have B2ga := Lib.hid (hk1.heap Bga.out (by simp))
   have HkW2 := Lib.hid (HkW.out.trans0 hk1)
   clear HkW hk1 Bga
   have Bga := B2ga
   have HkW := HkW2
   clear HkW2 B2ga
   have pga := cell_of Bga.out
   have fga := frozen_of Bga.out
   have lga := lt_of_heap Bga.out
   go_wp2_with fail
   refine (H2.out _).mono ?_
   rintro e w2 ⟨rfl, hk2⟩
   dsimp only
   clear pga fga lga H2
   have B2ga := Lib.hid (hk2.heap Bga.out (by simp))
   have HkW2 := Lib.hid (HkW.out.trans0 hk2)
   clear HkW hk2 Bga
   have Bga := B2ga
   have HkW := HkW2
   clear HkW2 B2ga
   have pga := cell_of Bga.out
   have fga := frozen_of Bga.out
   have lga := lt_of_heap Bga.out
   go_wp2_with fail
   go_ret
   exact ⟨rfl, by repeat (first | (with_reducible exact HkW.out) | (refine Keep.setPast ?_ _ _ _ (by omega)) | (refine Keep.allocPast ?_ _) | (refine Keep.drewPast ?_))⟩
  | true =>
   cases m with
   | true =>
    have hr : res = false := by rw [HR.out]; rfl
    subst hr
    clear HR HD1 HD2 HLL
    go_enter Tryz.func84, Tryz.ntmps84
    go_wp2_with fail
    obtain ⟨W, ga, hW, ega, bga, hga, hgW, hkW⟩ := al1 w (.cells #[.bool n, .string s, .bool true, .string t] 29)
    rw [← hW]
    try rw [ega]
    have Bga := Lib.hid bga
    have HkW := Lib.hid hkW
    clear hW hkW ega bga
    have pga := cell_of Bga.out
    have fga := frozen_of Bga.out
    have lga := lt_of_heap Bga.out
    go_wp2_with fail
    refine (H1.out _).mono ?_
    rintro e w1 ⟨rfl, hk1⟩
    dsimp only
    clear pga fga lga H1
    have B2ga := Lib.hid (hk1.heap Bga.out (by simp))
    have HkW2 := Lib.hid (HkW.out.trans0 hk1)
    clear HkW hk1 Bga
    have Bga := B2ga
    have HkW := HkW2
    clear HkW2 B2ga
    have pga := cell_of Bga.out
    have fga := frozen_of Bga.out
    have lga := lt_of_heap Bga.out
    go_wp2_with fail
    refine (H2.out _).mono ?_
    rintro e w2 ⟨rfl, hk2⟩
    dsimp only
    clear pga fga lga H2
    have B2ga := Lib.hid (hk2.heap Bga.out (by simp))
    have HkW2 := Lib.hid (HkW.out.trans0 hk2)
    clear HkW hk2 Bga
    have Bga := B2ga
    have HkW := HkW2
    clear HkW2 B2ga
    have pga := cell_of Bga.out
    have fga := frozen_of Bga.out
    have lga := lt_of_heap Bga.out
    go_wp2_with fail
    go_ret
    exact ⟨rfl, by repeat (first | (with_reducible exact HkW.out) | (refine Keep.setPast ?_ _ _ _ (by omega)) | (refine Keep.allocPast ?_ _) | (refine Keep.drewPast ?_))⟩
   | false =>
    by_cases h0 : t.size = 0
    ·have hr : res = true := by rw [HR.out]; simp [h0]
     subst hr
     have e := size_zero h0
     subst e
     clear HR HD1 HD2 HLL h0
     go_enter Tryz.func84, Tryz.ntmps84
     go_wp2_with fail
     obtain ⟨W, ga, hW, ega, bga, hga, hgW, hkW⟩ := al1 w (.cells #[.bool n, .string s, .bool false, .string ⟨#[]⟩] 29)
     rw [← hW]
     try rw [ega]
     have Bga := Lib.hid bga
     have HkW := Lib.hid hkW
     clear hW hkW ega bga
     have pga := cell_of Bga.out
     have fga := frozen_of Bga.out
     have lga := lt_of_heap Bga.out
     go_wp2_with fail
     refine (H1.out _).mono ?_
     rintro e w1 ⟨rfl, hk1⟩
     dsimp only
     clear pga fga lga H1
     have B2ga := Lib.hid (hk1.heap Bga.out (by simp))
     have HkW2 := Lib.hid (HkW.out.trans0 hk1)
     clear HkW hk1 Bga
     have Bga := B2ga
     have HkW := HkW2
     clear HkW2 B2ga
     have pga := cell_of Bga.out
     have fga := frozen_of Bga.out
     have lga := lt_of_heap Bga.out
     go_wp2_with fail
     refine (H2.out _).mono ?_
     rintro e w2 ⟨rfl, hk2⟩
     dsimp only
     clear pga fga lga H2
     have B2ga := Lib.hid (hk2.heap Bga.out (by simp))
     have HkW2 := Lib.hid (HkW.out.trans0 hk2)
     clear HkW hk2 Bga
     have Bga := B2ga
     have HkW := HkW2
     clear HkW2 B2ga
     have pga := cell_of Bga.out
     have fga := frozen_of Bga.out
     have lga := lt_of_heap Bga.out
     go_wp2_with fail
     go_ret
     exact ⟨rfl, by repeat (first | (with_reducible exact HkW.out) | (refine Keep.setPast ?_ _ _ _ (by omega)) | (refine Keep.allocPast ?_ _) | (refine Keep.drewPast ?_))⟩
    ·have hte : t.toList.isEmpty = false := by
      rw [List.isEmpty_eq_false_iff]
      intro h
      have e := str_inj (s := t) (t := ⟨#[]⟩) (by rw [h, Go.Lib.toList_data])
      exact h0 (by rw [e]; rfl)
     have hr2 : res = (decide (t ≠ ⟨#[1]⟩) && (Nat.gcd A B == 1)) := by
      have := HR.out
      rw [this]
      simp [h0]
      rfl
     have HR2 := Lib.hid hr2
     clear hr2
     clear HR h0
     go_enter Tryz.func84, Tryz.ntmps84
     go_wp2_with fail
     obtain ⟨W, ga, hW, ega, bga, hga, hgW, hkW⟩ := al1 w (.cells #[.bool n, .string s, .bool false, .string t] 29)
     rw [← hW]
     try rw [ega]
     have Bga := Lib.hid bga
     have HkW := Lib.hid hkW
     clear hW hkW ega bga
     have pga := cell_of Bga.out
     have fga := frozen_of Bga.out
     have lga := lt_of_heap Bga.out
     go_wp2_with fail
     refine (H1.out _).mono ?_
     rintro e w1 ⟨rfl, hk1⟩
     dsimp only
     clear pga fga lga H1
     have B2ga := Lib.hid (hk1.heap Bga.out (by simp))
     have HkW2 := Lib.hid (HkW.out.trans0 hk1)
     clear HkW hk1 Bga
     have Bga := B2ga
     have HkW := HkW2
     clear HkW2 B2ga
     have pga := cell_of Bga.out
     have fga := frozen_of Bga.out
     have lga := lt_of_heap Bga.out
     go_wp2_with fail
     refine (H2.out _).mono ?_
     rintro e w2 ⟨rfl, hk2⟩
     dsimp only
     clear pga fga lga H2
     have B2ga := Lib.hid (hk2.heap Bga.out (by simp))
     have HkW2 := Lib.hid (HkW.out.trans0 hk2)
     clear HkW hk2 Bga
     have Bga := B2ga
     have HkW := HkW2
     clear HkW2 B2ga
     have pga := cell_of Bga.out
     have fga := frozen_of Bga.out
     have lga := lt_of_heap Bga.out
     go_wp2_with fail
     refine wp_region_heldT (S := fun u => Keep [] w2 u) 7 (by kernel_rfl) (by kernel_rfl) (fun _ _ d _ _ h => by cases d <;> exact h) ?_
     have hS0 := Keep.drew [] w2
     have HM := Lib.hid (MSt.start hS0)
     generalize World.drew w2 = u at *
     have Bea := Bga
     refine' heldT_valg (v := _) 0 (by rfl) (by decide) (by kernel_rfl) (by kernel_rfl) (by rfl) hS0 (fun w hw => ?hrunf0) (fun K hK => ?hnextf0)
     case hrunf0 => (have pea := cell_of (hw.heap Bea.out (by simp)); go_simp; try rfl)
     rotate_left 0
     go_simp
     refine hK _ ?_
     clear hK K
     refine' heldT_valg (v := _) 1 (by rfl) (by decide) (by kernel_rfl) (by kernel_rfl) (by rfl) hS0 (fun w hw => ?hrunf1) (fun K hK => ?hnextf1)
     case hrunf1 => (have pea := cell_of (hw.heap Bea.out (by simp)); go_simp; try rfl)
     rotate_left 0
     go_simp
     refine hK _ ?_
     clear hK K
     refine' heldT_valg (v := _) 3 (by rfl) (by decide) (by kernel_rfl) (by kernel_rfl) (by rfl) hS0 (fun w hw => ?hrunf3) (fun K hK => ?hnextf3)
     case hrunf3 => (have pea := cell_of (hw.heap Bea.out (by simp)); go_simp; try rfl)
     rotate_left 0
     go_simp
     refine hK _ ?_
     clear hK K
     refine' heldT_valg (v := _) 4 (by rfl) (by decide) (by kernel_rfl) (by kernel_rfl) (by rfl) hS0 (fun w hw => ?hrunf4) (fun K hK => ?hnextf4)
     case hrunf4 => (have pea := cell_of (hw.heap Bea.out (by simp)); go_simp; try rfl)
     rotate_left 0
     go_simp
     refine hK _ ?_
     clear hK K
     refine heldT_oneg 2 (by kernel_rfl) (by decide) (by rfl) (by rfl) (fun K hK => ?_)
     refine wp_enter 116 #[.agg #[.bool n, .string s]] (by go_simp) ?_
     refine (HD1.out _).mono ?_
     rintro e u1 ⟨r, rfl, hd1, hk1⟩
     obtain ⟨rb, rc, rfl, _⟩ := hd1.form
     have hS0 := hS0.trans0 hk1
     have HM := Lib.hid (HM.out.call1 hk1 hd1)
     refine ⟨_, rfl, ?_⟩
     refine hK _ _ hS0 ?_
     clear hK K hk1 hd1
     refine heldT_oneg 5 (by kernel_rfl) (by decide) (by rfl) (by rfl) (fun K hK => ?_)
     refine wp_enter 116 #[.agg #[.bool false, .string t]] (by go_simp) ?_
     refine (HD2.out _).mono ?_
     rintro e u1 ⟨r2, rfl, hd1, hk1⟩
     obtain ⟨tb, tc, rfl, _⟩ := hd1.form
     have hS0 := hS0.trans0 hk1
     have HM := Lib.hid (HM.out.call1 hk1 hd1)
     refine ⟨_, rfl, ?_⟩
     refine hK _ _ hS0 ?_
     clear hK K hk1 hd1
     refine heldT_oneg 6 (by kernel_rfl) (by decide) (by rfl) (by rfl) (fun K hK => ?_)
     refine wp_enter 115 #[.slice rb (Ln A) rc, .slice tb (Ln B) tc] (by go_simp) ?_
     refine (common_c _ _ _ _ _ (HM.out.dr (.slice rb (Ln A) rc) A (by simp)) (HM.out.dr (.slice tb (Ln B) tc) B (by simp)) HLL.out.1 HLL.out.2).mono ?_
     rintro e u1 ⟨gv, rfl, hd1, hk1⟩
     obtain ⟨gb, gc, rfl, _⟩ := hd1.form
     have hS0 := hS0.trans0 hk1
     have HM := Lib.hid (HM.out.call1 hk1 hd1)
     refine ⟨_, rfl, ?_⟩
     refine hK _ _ hS0 ?_
     clear hK K hk1 hd1
     refine ⟨by kernel_rfl, ?_⟩
     simp only [List.drop_succ_cons, List.drop_zero]
     have HkW := Lib.hid (HkW.out.trans0 HM.out.1)
     have Bga := Lib.hid (HM.out.1.heap Bga.out (by simp))
     have hdr := HM.out.dr (.slice gb (Ln (Nat.gcd A B)) gc) (Nat.gcd A B) (by simp)
     generalize Nat.gcd A B = G at *
     clear HM hS0 HD1 HD2 HLL Bea pga fga lga
     have pga := cell_of Bga.out
     have fga := frozen_of Bga.out
     have lga := lt_of_heap Bga.out
     by_cases ht1 : t = ⟨#[1]⟩
     ·have hr : res = false := by rw [HR2.out, ht1]; rfl
      subst hr ht1
      clear HR2
      go_wp2_with fail
      go_ret
      exact ⟨rfl, by repeat (first | (with_reducible exact HkW.out) | (refine Keep.setPast ?_ _ _ _ (by omega)) | (refine Keep.allocPast ?_ _) | (refine Keep.drewPast ?_))⟩
     ·have hr : res = (G == 1) := by rw [HR2.out]; simp [ht1]
      have hns := str_no ht1
      rw [Go.Lib.toList_data ⟨#[1]⟩] at hns
      clear HR2 ht1
      by_cases hl : Ln G = 1
      ·have hG : 0 < G := by
        rcases Nat.eq_zero_or_pos G with h | h
        ·subst h; rw [Ln_zero] at hl; omega
        ·exact h
       have hG2 : G < 256 := by have := Ln_lt G; rw [hl] at this; omega
       have e : digs 256 G = [G] := by rw [digs_pos (by decide) hG, Nat.div_eq_of_lt hG2, digs_zero, Nat.mod_eq_of_lt hG2]
       have h1 := hdr.1
       rw [e] at h1
       obtain ⟨b, o, c, hsl, hc⟩ := h1.elem (by simp [ints])
       have hc0 := hc 0 _ rfl
       injection hsl with e1 e2 e3
       subst e1
       rw [hl] at *
       have hgd : (G == 1) = ((G : Int) == 1) := by
        by_cases h : G = 1
        ·subst h; rfl
        ·have h2 : ((G : Int) == 1) = false := by rw [beq_eq_false_iff_ne]; omega
         rw [h2]; simpa using h
       rw [hgd] at hr
       subst hr
       have hlb := World.block_lt_of_cell? _ _ hc0
       rw [Nat.add_zero] at hc0
       clear hgd e hl hc h1 hdr e2
       go_wp2_with fail
       go_ret
       exact ⟨rfl, by repeat (first | (with_reducible exact HkW.out) | (refine Keep.setPast ?_ _ _ _ (by omega)) | (refine Keep.allocPast ?_ _) | (refine Keep.drewPast ?_))⟩
      ·have hl2 : ((Ln G : Int) == 1) = false := by rw [beq_eq_false_iff_ne]; omega
       have hgd : (G == 1) = false := by
        have : G ≠ 1 := fun h => hl (by rw [h]; exact Ln_small (by decide) (by decide))
        simpa using this
       rw [hgd] at hr
       subst hr
       clear hgd hl hdr
       go_wp2_with fail
       go_ret
       exact ⟨rfl, by repeat (first | (with_reducible exact HkW.out) | (refine Keep.setPast ?_ _ _ _ (by omega)) | (refine Keep.allocPast ?_ _) | (refine Keep.drewPast ?_))⟩
end Go.Proofs.YteknldaoegccaaaGreatDoor
namespace Go.Proofs.YteknldaoegccaaaGreatDoor
theorem neg1_cast : ((-1 : Int) : Rat) = -1 := rfl
theorem one_cast : ((1 : Int) : Rat) = 1 := rfl
theorem neg1_sq : ((-1 : Int) : Rat) * ((-1 : Int) : Rat) = 1 := by rw [neg1_cast]; grind
theorem one_sq : ((1 : Int) : Rat) * ((1 : Int) : Rat) = 1 := by rw [one_cast]; grind
theorem sgn_pos {q : Rat} (h : 0 < q) : sgn q = 1 := by unfold sgn; rw [if_neg (by grind), if_pos h]
theorem sgn_neg {q : Rat} (h : q < 0) : sgn q = -1 := by unfold sgn; rw [if_pos h]
theorem sgn_zero : sgn 0 = 0 := by decide
theorem sgn_sign (q : Rat) : sgn ((sgn q : Int) : Rat) = sgn q := by
 rcases sgn_cases q with ⟨_, h⟩ | ⟨_, h⟩ | ⟨_, h⟩ <;> rw [h] <;> decide
theorem sgn_mul (a b : Rat) : sgn (a * b) = sgn a * sgn b := by
 rcases sgn_cases a with ⟨a1, a2⟩ | ⟨a1, a2⟩ | ⟨a1, a2⟩ <;> rcases sgn_cases b with ⟨b1, b2⟩ | ⟨b1, b2⟩ | ⟨b1, b2⟩ <;> rw [a2, b2]
 ·have := rmul_pos (a := -a) (b := -b) (by grind) (by grind)
  rw [sgn_pos (by grind)]; decide
 ·rw [b1, Rat.mul_zero, sgn_zero]; decide
 ·have := rmul_pos (a := -a) (b := b) (by grind) b1
  rw [sgn_neg (by grind)]; decide
 ·rw [a1, Rat.zero_mul, sgn_zero]; decide
 ·rw [a1, Rat.zero_mul, sgn_zero]; decide
 ·rw [a1, Rat.zero_mul, sgn_zero]; decide
 ·have := rmul_pos (a := a) (b := -b) a1 (by grind)
  rw [sgn_neg (by grind)]; decide
 ·rw [b1, Rat.mul_zero, sgn_zero]; decide
 ·have := rmul_pos a1 b1
  rw [sgn_pos this]; decide
def Unit1 (u : Int) : Prop := u = -1 ∨ u = 0 ∨ u = 1
def d1 (a : Rat) (u : Int) (r : Rat) : Int :=
 if sgn a = 0 then u * sgn r else if u * sgn r = 0 ∨ sgn a = u * sgn r then sgn a else sgn a * sgn (a * a - r)
theorem d1_sg1 {u : Int} (hu : Unit1 u) (a r : Rat) : d1 a u r = sg1 a (u : Rat) r := by
 have hs : sgn ((u : Int) : Rat) = u := by rcases hu with rfl | rfl | rfl <;> decide
 unfold d1 sg1
 rw [hs]
 rcases hu with rfl | rfl | rfl
 ·have e : a * a - ((-1 : Int) : Rat) * ((-1 : Int) : Rat) * r = a * a - r := by
   rw [neg1_sq, Rat.one_mul]
  rw [e]
  generalize sgn a = x
  generalize sgn r = y
  generalize sgn (a * a - r) = z
  grind
 ·simp
  intro h; exact h.symm
 ·have e : a * a - ((1 : Int) : Rat) * ((1 : Int) : Rat) * r = a * a - r := by
   rw [one_sq, Rat.one_mul]
  rw [e]
  generalize sgn a = x
  generalize sgn r = y
  generalize sgn (a * a - r) = z
  grind
theorem sg1_four {u : Int} (hu : u = -1 ∨ u = 1) (A a r : Rat) : sg1 A ((u * sgn a : Int) : Rat) (4 * (a * a * r)) = sg1 A (2 * (a * (u : Rat))) r := by
 have hu2 : ((u : Int) : Rat) * (u : Rat) = 1 := by
  rcases hu with rfl | rfl
  ·exact neg1_sq
  ·exact one_sq
 have hsu : sgn ((u : Int) : Rat) = u := by rcases hu with rfl | rfl <;> decide
 have h1 : sgn ((u * sgn a : Int) : Rat) * sgn (4 * (a * a * r)) = sgn (2 * (a * (u : Rat))) * sgn r := by
  rw [Rat.intCast_mul, sgn_mul, sgn_mul, sgn_mul, sgn_mul, sgn_mul, sgn_mul, sgn_sign, hsu, show sgn 4 = 1 by decide, show sgn 2 = 1 by decide]
  rcases sgn_cases a with ⟨_, h⟩ | ⟨_, h⟩ | ⟨_, h⟩ <;> rw [h] <;> simp
 have h2 : ((u * sgn a : Int) : Rat) * ((u * sgn a : Int) : Rat) * (4 * (a * a * r)) = 2 * (a * (u : Rat)) * (2 * (a * (u : Rat))) * r := by
  rw [Rat.intCast_mul]
  have h3 : ((sgn a : Int) : Rat) * (sgn a : Rat) * (a * a) = a * a := by
   rcases sgn_cases a with ⟨_, h⟩ | ⟨h0, h⟩ | ⟨_, h⟩
   ·rw [h, neg1_sq, Rat.one_mul]
   ·rw [h0]; simp
   ·rw [h, one_sq, Rat.one_mul]
  generalize ((sgn a : Int) : Rat) = x at *
  generalize ((u : Int) : Rat) = y at *
  grind
 unfold sg1
 rw [h1, h2]
def d2 (a : Rat) (u : Int) (r : Rat) (v : Int) (s : Rat) : Int :=
 if d1 a u r ≠ v * sgn s ∨ d1 a u r = 0 then (if v * sgn s < d1 a u r then 1 else d1 a u r - v * sgn s) else d1 a u r * d1 (a * a + r - s) (u * sgn a) (4 * (a * a * r))
def sideQ (x : Qn) : Int := if x.neg then -1 else 1
theorem sideQ_u (x : Qn) : ((sideQ x : Int) : Rat) = x.u := by unfold sideQ Qn.u; cases x.neg <;> decide
theorem sideQ_or (x : Qn) : sideQ x = -1 ∨ sideQ x = 1 := by unfold sideQ; cases x.neg <;> simp
def signI (n : Int) : Int := if n < 0 then -1 else if 0 < n then 1 else 0
theorem sgn_tri (q : Rat) : sgn q = -1 ∨ sgn q = 0 ∨ sgn q = 1 := by rcases sgn_cases q with h | h | h <;> simp [h.2]
theorem d1_range {u : Int} (hu : Unit1 u) (a r : Rat) : d1 a u r = -1 ∨ d1 a u r = 0 ∨ d1 a u r = 1 := by
 unfold d1
 have h1 := sgn_tri a
 have h2 := sgn_tri r
 have h3 := sgn_tri (a * a - r)
 generalize sgn a = x at *
 generalize sgn r = y at *
 generalize sgn (a * a - r) = z at *
 split
 ·rcases hu with rfl | rfl | rfl <;> omega
 ·split
  ·exact h1
  ·rcases h1 with rfl | rfl | rfl <;> omega
theorem d2_cmp (x y : Qn) : signI (d2 (x.p - y.p) (sideQ x) x.r (sideQ y) y.r) = cmpQ x y := by
 have hx : Unit1 (sideQ x) := by rcases sideQ_or x with h | h <;> rw [h] <;> simp [Unit1]
 have e1 : d1 (x.p - y.p) (sideQ x) x.r = sg1 (x.p - y.p) x.u x.r := by rw [d1_sg1 hx, sideQ_u]
 have hxa : Unit1 (sideQ x * sgn (x.p - y.p)) := by
  rcases sideQ_or x with h | h <;> rw [h] <;> rcases sgn_tri (x.p - y.p) with k | k | k <;> rw [k] <;> simp [Unit1]
 have e2 : d1 ((x.p - y.p) * (x.p - y.p) + x.r - y.r) (sideQ x * sgn (x.p - y.p)) (4 * ((x.p - y.p) * (x.p - y.p) * x.r)) = sg1 ((x.p - y.p) * (x.p - y.p) + x.r - y.r) (2 * ((x.p - y.p) * x.u)) x.r := by
  rw [d1_sg1 hxa, sg1_four (sideQ_or x), sideQ_u]
 have r1 := d1_range hx (x.p - y.p) x.r
 have r2 := d1_range hxa ((x.p - y.p) * (x.p - y.p) + x.r - y.r) (4 * ((x.p - y.p) * (x.p - y.p) * x.r))
 rw [e1] at r1
 rw [e2] at r2
 have e3 : sgn (-y.u) = -sideQ y := by unfold Qn.u sideQ; cases y.neg <;> decide
 unfold d2 cmpQ
 rw [e1, e2, e3]
 have r3 := sgn_tri y.r
 have r4 := sideQ_or y
 generalize sg1 (x.p - y.p) x.u x.r = A at *
 generalize sg1 ((x.p - y.p) * (x.p - y.p) + x.r - y.r) (2 * ((x.p - y.p) * x.u)) x.r = B at *
 generalize sgn y.r = s at *
 generalize sideQ y = v at *
 clear e1 e2 e3 hx hxa
 unfold signI
 rcases r1 with rfl | rfl | rfl <;> rcases r2 with rfl | rfl | rfl <;> rcases r3 with rfl | rfl | rfl <;> rcases r4 with rfl | rfl <;> decide
end Go.Proofs.YteknldaoegccaaaGreatDoor
set_option maxRecDepth 100000
namespace Go.Proofs.YteknldaoegccaaaGreatDoor
open Go.RowKit
theorem unit_mul {u m : Int} (hu : Unit1 u) (hm : m = -1 ∨ m = 0 ∨ m = 1) : Unit1 (u * m) := by
 unfold Unit1 at *
 rcases hu with rfl | rfl | rfl <;> rcases hm with rfl | rfl | rfl <;> decide
set_option maxHeartbeats 4000000 in
theorem sign1_c (a : Rat) (u : Int) (r : Rat) (hu : Unit1 u) (ha : FitQ 5000000 a) (hr : FitQ 5000000 r) (w : World) :
  Calls Tryz.prog 92 #[rv a, .int .i64 u, rv r] w fun e w' => e = .returned (.int .i64 (d1 a u r)) ∧ Keep [] w w' := by
 have HA := Lib.hid (rsign_c a)
 have HR := Lib.hid (rsign_c r)
 rw [zsgn_sgn] at HA HR
 have HM := Lib.hid (rmul_c a a (ha.mono (by decide)) (ha.mono (by decide)))
 have HC := Lib.hid (rcmp_c (a * a) r ((ha.mul ha).mono (by decide)) (hr.mono (by decide)))
 have hx := sgn_tri a
 have hy := sgn_tri r
 have hz := sgn_tri (a * a - r)
 unfold d1
 generalize sgn (a * a - r) = z at *
 generalize sgn a = x at *
 generalize sgn r = y at *
 unfold rv at *
 generalize sgB (a * a).num = nm at *
 generalize mgS (a * a).num = sm at *
 generalize dnS (a * a).den = dm at *
 generalize sgB (a).num = na at *
 generalize mgS (a).num = sa at *
 generalize dnS (a).den = da at *
 generalize sgB (r).num = nr at *
 generalize mgS (r).num = sr at *
 generalize dnS (r).den = dr at *
 clear ha hr
 have hp := unit_mul hu hy
 obtain ⟨p, hpe⟩ : ∃ p, u * y = p := ⟨_, rfl⟩
 rw [hpe] at hp ⊢
 have hpb : -1 ≤ p ∧ p ≤ 1 := by rcases hp with h | h | h <;> omega
 have hwp : IntKind.i64.wrap p = p := by simp [IntKind.wrap, IntKind.bits, IntKind.signed]; omega
 have Hub : Hid (-1 ≤ u ∧ u ≤ 1) := by rcases hu with h | h | h <;> subst h <;> exact ⟨by decide, by decide⟩
 have Hyb : Hid (-1 ≤ y ∧ y ≤ 1) := by rcases hy with h | h | h <;> subst h <;> exact ⟨by decide, by decide⟩
 clear hu hp hy
 by_cases h0 : x = 0
 ·rw [if_pos h0]
  have t0 : (x == 0) = true := by simpa using h0
  clear HM HC hz hx h0
  go_enter Tryz.func92, Tryz.ntmps92
  go_wp2_with fail
  obtain ⟨W, ga, gb, hW, ega, egb, bga, bgb, hga, hgb, hgW, hkW⟩ := al2 w (.cells #[.bool na, .string sa, .bool false, .string da] 29) (.cells #[.bool nr, .string sr, .bool false, .string dr] 29)
  rw [← hW]
  try rw [egb]
  try rw [ega]
  have Bga := Lib.hid bga
  have Bgb := Lib.hid bgb
  have HkW := Lib.hid hkW
  clear hW hkW ega egb bga bgb
  have kga := kw_cells Bga.out
  have kgb := kw_cells Bgb.out
  have Q1 : Hid (∀ m : KW W, Calls Tryz.prog 50 #[.agg #[.bool na, .string sa, .bool false, .string da]] (Wk W m) fun e w' => e = .returned (.int .i64 x) ∧ ∃ m, w' = Wk W m) := fun m => qk m (HA.out _)
  have Q2 : Hid (∀ m : KW W, Calls Tryz.prog 50 #[.agg #[.bool nr, .string sr, .bool false, .string dr]] (Wk W m) fun e w' => e = .returned (.int .i64 y) ∧ ∃ m, w' = Wk W m) := fun m => qk m (HR.out _)
  refine wp_region_keep (by kernel_rfl) (by kernel_rfl) ?_
  repeat (first
   | go_big_quiet_skip
   | (go_big_quiet_want; go_big_quiet_op; first | go_big_quiet_on | go_big_quiet_call (first
    | (go_at_call 50; with_reducible exact (Q1).out _) | (go_at_call 50; with_reducible exact (Q2).out _))))
  refine wpQuiet_nil ?_
  rintro w1 ⟨⟨_, hk_w1⟩, rfl⟩
  clear kga kgb Q1 Q2 HA HR
  have B2ga := Lib.hid (hk_w1.heap Bga.out (by simp))
  have B2gb := Lib.hid (hk_w1.heap Bgb.out (by simp))
  have HkW2 := Lib.hid (HkW.out.trans0 hk_w1)
  clear HkW hk_w1 Bga Bgb
  have Bga := B2ga
  have Bgb := B2gb
  have HkW := HkW2
  clear HkW2 B2ga B2gb
  go_wp2_with fail
  go_ret
  exact ⟨rfl, by repeat (first | (with_reducible exact HkW.out) | (refine Keep.setPast ?_ _ _ _ (by omega)) | (refine Keep.allocPast ?_ _) | (refine Keep.drewPast ?_))⟩
 ·rw [if_neg h0]
  have t0 : (x == 0) = false := by simpa using h0
  by_cases h1 : p = 0
  ·rw [if_pos (.inl h1)]
   have t1 : (p == 0) = true := by simpa using h1
   clear HM HC hz hx h0 h1
   go_enter Tryz.func92, Tryz.ntmps92
   go_wp2_with fail
   obtain ⟨W, ga, gb, hW, ega, egb, bga, bgb, hga, hgb, hgW, hkW⟩ := al2 w (.cells #[.bool na, .string sa, .bool false, .string da] 29) (.cells #[.bool nr, .string sr, .bool false, .string dr] 29)
   rw [← hW]
   try rw [egb]
   try rw [ega]
   have Bga := Lib.hid bga
   have Bgb := Lib.hid bgb
   have HkW := Lib.hid hkW
   clear hW hkW ega egb bga bgb
   have kga := kw_cells Bga.out
   have kgb := kw_cells Bgb.out
   have Q1 : Hid (∀ m : KW W, Calls Tryz.prog 50 #[.agg #[.bool na, .string sa, .bool false, .string da]] (Wk W m) fun e w' => e = .returned (.int .i64 x) ∧ ∃ m, w' = Wk W m) := fun m => qk m (HA.out _)
   have Q2 : Hid (∀ m : KW W, Calls Tryz.prog 50 #[.agg #[.bool nr, .string sr, .bool false, .string dr]] (Wk W m) fun e w' => e = .returned (.int .i64 y) ∧ ∃ m, w' = Wk W m) := fun m => qk m (HR.out _)
   refine wp_region_keep (by kernel_rfl) (by kernel_rfl) ?_
   repeat (first
    | go_big_quiet_skip
    | (go_big_quiet_want; go_big_quiet_op; first | go_big_quiet_on | go_big_quiet_call (first
     | (go_at_call 50; with_reducible exact (Q1).out _) | (go_at_call 50; with_reducible exact (Q2).out _))))
   refine wpQuiet_nil ?_
   rintro w1 ⟨⟨_, hk_w1⟩, rfl⟩
   clear kga kgb Q1 Q2 HA HR
   have B2ga := Lib.hid (hk_w1.heap Bga.out (by simp))
   have B2gb := Lib.hid (hk_w1.heap Bgb.out (by simp))
   have HkW2 := Lib.hid (HkW.out.trans0 hk_w1)
   clear HkW hk_w1 Bga Bgb
   have Bga := B2ga
   have Bgb := B2gb
   have HkW := HkW2
   clear HkW2 B2ga B2gb
   go_wp2_with fail
   go_ret
   exact ⟨rfl, by repeat (first | (with_reducible exact HkW.out) | (refine Keep.setPast ?_ _ _ _ (by omega)) | (refine Keep.allocPast ?_ _) | (refine Keep.drewPast ?_))⟩
  ·have t1 : (p == 0) = false := by simpa using h1
   by_cases h2 : x = p
   ·rw [if_pos (.inr h2)]
    have t2 : (x == p) = true := by simpa using h2
    clear HM HC hz hx h0 h1 h2
    go_enter Tryz.func92, Tryz.ntmps92
    go_wp2_with fail
    obtain ⟨W, ga, gb, hW, ega, egb, bga, bgb, hga, hgb, hgW, hkW⟩ := al2 w (.cells #[.bool na, .string sa, .bool false, .string da] 29) (.cells #[.bool nr, .string sr, .bool false, .string dr] 29)
    rw [← hW]
    try rw [egb]
    try rw [ega]
    have Bga := Lib.hid bga
    have Bgb := Lib.hid bgb
    have HkW := Lib.hid hkW
    clear hW hkW ega egb bga bgb
    have kga := kw_cells Bga.out
    have kgb := kw_cells Bgb.out
    have Q1 : Hid (∀ m : KW W, Calls Tryz.prog 50 #[.agg #[.bool na, .string sa, .bool false, .string da]] (Wk W m) fun e w' => e = .returned (.int .i64 x) ∧ ∃ m, w' = Wk W m) := fun m => qk m (HA.out _)
    have Q2 : Hid (∀ m : KW W, Calls Tryz.prog 50 #[.agg #[.bool nr, .string sr, .bool false, .string dr]] (Wk W m) fun e w' => e = .returned (.int .i64 y) ∧ ∃ m, w' = Wk W m) := fun m => qk m (HR.out _)
    refine wp_region_keep (by kernel_rfl) (by kernel_rfl) ?_
    repeat (first
     | go_big_quiet_skip
     | (go_big_quiet_want; go_big_quiet_op; first | go_big_quiet_on | go_big_quiet_call (first
      | (go_at_call 50; with_reducible exact (Q1).out _) | (go_at_call 50; with_reducible exact (Q2).out _))))
    refine wpQuiet_nil ?_
    rintro w1 ⟨⟨_, hk_w1⟩, rfl⟩
    clear kga kgb Q1 Q2 HA HR
    have B2ga := Lib.hid (hk_w1.heap Bga.out (by simp))
    have B2gb := Lib.hid (hk_w1.heap Bgb.out (by simp))
    have HkW2 := Lib.hid (HkW.out.trans0 hk_w1)
    clear HkW hk_w1 Bga Bgb
    have Bga := B2ga
    have Bgb := B2gb
    have HkW := HkW2
    clear HkW2 B2ga B2gb
    go_wp2_with fail
    go_ret
    exact ⟨rfl, by repeat (first | (with_reducible exact HkW.out) | (refine Keep.setPast ?_ _ _ _ (by omega)) | (refine Keep.allocPast ?_ _) | (refine Keep.drewPast ?_))⟩
   ·rw [if_neg (by rintro (h | h); exact h1 h; exact h2 h)]
    have t2 : (x == p) = false := by simpa using h2
    obtain ⟨k, hk⟩ : ∃ k, x * z = k := ⟨_, rfl⟩
    rw [hk]
    have hkb : -1 ≤ k ∧ k ≤ 1 := by rcases hx with h | h | h <;> rcases hz with h' | h' | h' <;> subst h h' <;> omega
    have hwk : IntKind.i64.wrap k = k := by simp [IntKind.wrap, IntKind.bits, IntKind.signed]; omega
    have Hkb := Lib.hid hkb
    clear hz hx h0 h1 h2 hkb
    go_enter Tryz.func92, Tryz.ntmps92
    go_wp2_with fail
    obtain ⟨W, ga, gb, hW, ega, egb, bga, bgb, hga, hgb, hgW, hkW⟩ := al2 w (.cells #[.bool na, .string sa, .bool false, .string da] 29) (.cells #[.bool nr, .string sr, .bool false, .string dr] 29)
    rw [← hW]
    try rw [egb]
    try rw [ega]
    have Bga := Lib.hid bga
    have Bgb := Lib.hid bgb
    have HkW := Lib.hid hkW
    clear hW hkW ega egb bga bgb
    have kga := kw_cells Bga.out
    have kgb := kw_cells Bgb.out
    have Q1 : Hid (∀ m : KW W, Calls Tryz.prog 50 #[.agg #[.bool na, .string sa, .bool false, .string da]] (Wk W m) fun e w' => e = .returned (.int .i64 x) ∧ ∃ m, w' = Wk W m) := fun m => qk m (HA.out _)
    have Q2 : Hid (∀ m : KW W, Calls Tryz.prog 50 #[.agg #[.bool nr, .string sr, .bool false, .string dr]] (Wk W m) fun e w' => e = .returned (.int .i64 y) ∧ ∃ m, w' = Wk W m) := fun m => qk m (HR.out _)
    refine wp_region_keep (by kernel_rfl) (by kernel_rfl) ?_
    repeat (first
     | go_big_quiet_skip
     | (go_big_quiet_want; go_big_quiet_op; first | go_big_quiet_on | go_big_quiet_call (first
      | (go_at_call 50; with_reducible exact (Q1).out _) | (go_at_call 50; with_reducible exact (Q2).out _))))
    refine wpQuiet_nil ?_
    rintro w1 ⟨⟨_, hk_w1⟩, rfl⟩
    clear kga kgb Q1 Q2 HA HR
    have B2ga := Lib.hid (hk_w1.heap Bga.out (by simp))
    have B2gb := Lib.hid (hk_w1.heap Bgb.out (by simp))
    have HkW2 := Lib.hid (HkW.out.trans0 hk_w1)
    clear HkW hk_w1 Bga Bgb
    have Bga := B2ga
    have Bgb := B2gb
    have HkW := HkW2
    clear HkW2 B2ga B2gb
    go_wp2_with fail
    have kga := kw_cells Bga.out
    have kgb := kw_cells Bgb.out
    have Q1 : Hid (∀ m : KW w1, Calls Tryz.prog 93 #[.agg #[.bool na, .string sa, .bool false, .string da], .agg #[.bool na, .string sa, .bool false, .string da]] (Wk w1 m) fun e w' => e = .returned (.agg #[.bool nm, .string sm, .bool false, .string dm]) ∧ ∃ m, w' = Wk w1 m) := fun m => qk m (HM.out _)
    have Q2 : Hid (∀ m : KW w1, Calls Tryz.prog 51 #[.agg #[.bool nm, .string sm, .bool false, .string dm], .agg #[.bool nr, .string sr, .bool false, .string dr]] (Wk w1 m) fun e w' => e = .returned (.int .i64 z) ∧ ∃ m, w' = Wk w1 m) := fun m => qk m (HC.out _)
    refine wp_region_keep (by kernel_rfl) (by kernel_rfl) ?_
    repeat (first
     | go_big_quiet_skip
     | (go_big_quiet_want; go_big_quiet_op; first | go_big_quiet_on | go_big_quiet_call (first
      | (go_at_call 93; with_reducible exact (Q1).out _) | (go_at_call 51; with_reducible exact (Q2).out _))))
    refine wpQuiet_nil ?_
    rintro w2 ⟨⟨_, hk_w2⟩, rfl⟩
    clear kga kgb Q1 Q2 HM HC
    have B2ga := Lib.hid (hk_w2.heap Bga.out (by simp))
    have B2gb := Lib.hid (hk_w2.heap Bgb.out (by simp))
    have HkW2 := Lib.hid (HkW.out.trans0 hk_w2)
    clear HkW hk_w2 Bga Bgb
    have Bga := B2ga
    have Bgb := B2gb
    have HkW := HkW2
    clear HkW2 B2ga B2gb
    go_wp2_with fail
    go_ret
    exact ⟨rfl, by repeat (first | (with_reducible exact HkW.out) | (refine Keep.setPast ?_ _ _ _ (by omega)) | (refine Keep.allocPast ?_ _) | (refine Keep.drewPast ?_))⟩
end Go.Proofs.YteknldaoegccaaaGreatDoor
