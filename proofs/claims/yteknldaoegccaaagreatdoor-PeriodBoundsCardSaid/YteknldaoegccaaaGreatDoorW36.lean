/- Parts of a proof about this translation: Pn, Ue, Uf, Sw, Sx. -/
import Derived.Test.YteknldaoegccaaaGreatDoorW34
import Derived.Test.YteknldaoegccaaaGreatDoorW32
import Derived.Test.YteknldaoegccaaaGreatDoorW35
import Derived.Test.YteknldaoegccaaaGreatDoorW29
import Derived.Test.YteknldaoegccaaaGreatDoorW22
import Derived.Test.YteknldaoegccaaaGreatDoorW24
import Derived.Test.YteknldaoegccaaaGreatDoorW26
set_option linter.unusedVariables false
set_option linter.unusedSimpArgs false
namespace Go.Proofs.YteknldaoegccaaaGreatDoor
noncomputable def combK (op : Int) (a b : List (Iv K)) : List (Iv K) := cells (decV op) a b (sortS (ptsL (a ++ b)))
theorem ptsL_mem {l : List (Iv K)} {x : K} : x ∈ ptsL l ↔ ∃ i ∈ l, x = i.f.pt ∨ x = i.l.pt := by
 unfold ptsL
 rw [List.mem_flatMap]
 simp
theorem endsOf_all {l a : List (Iv K)} (h : ∀ i ∈ a, i ∈ l) : EndsOf (sortS (ptsL l)) a :=
 ⟨sortS_ord _, fun i hi => sortS_mem.2 (ptsL_mem.2 ⟨i, h i hi, .inl rfl⟩), fun i hi => sortS_mem.2 (ptsL_mem.2 ⟨i, h i hi, .inr rfl⟩)⟩
theorem combK_norm (op : Int) (a b : List (Iv K)) : Norm (combK op a b) :=
 (cells_law (decV_zero op) (endsOf_all (l := a ++ b) (fun i hi => List.mem_append_left _ hi)) (endsOf_all (l := a ++ b) (fun i hi => List.mem_append_right _ hi))).1
theorem combK_has (op : Int) (a b : List (Iv K)) (x : Bd K) : hasL (combK op a b) x = decV op (hasL a x) (hasL b x) :=
 (cells_law (decV_zero op) (endsOf_all (l := a ++ b) (fun i hi => List.mem_append_left _ hi)) (endsOf_all (l := a ++ b) (fun i hi => List.mem_append_right _ hi))).2 x
def PtsIn (S : List K) (l : List (Iv K)) : Prop := ∀ i ∈ l, i.f.pt ∈ S ∧ i.l.pt ∈ S
theorem PtsIn.mono {S T : List K} {l : List (Iv K)} (h : PtsIn S l) (hT : ∀ x ∈ S, x ∈ T) : PtsIn T l := fun i hi => ⟨hT _ (h i hi).1, hT _ (h i hi).2⟩
theorem PtsIn.nil (S : List K) : PtsIn S [] := fun _ h => by cases h
theorem PtsIn.self (l : List (Iv K)) : PtsIn (ptsL l) l := fun i hi => ⟨ptsL_mem.2 ⟨i, hi, .inl rfl⟩, ptsL_mem.2 ⟨i, hi, .inr rfl⟩⟩
theorem PtsIn.app {S : List K} {l m : List (Iv K)} (h : PtsIn S l) (k : PtsIn S m) : PtsIn S (l ++ m) := fun i hi => by
 rcases List.mem_append.1 hi with hi | hi
 ·exact h i hi
 ·exact k i hi
theorem PtsIn.sub {S : List K} {l m : List (Iv K)} (h : PtsIn S l) (hm : ∀ i ∈ m, i ∈ l) : PtsIn S m := fun i hi => h i (hm i hi)
theorem combT_pts {S : List K} {here op : Bool} {t : K} {out : List (Iv K)} (ht : t ∈ S) (h : PtsIn S out) : PtsIn S (combT here op t out) := by
 unfold combT
 cases op
 ·cases here
  ·exact h
  ·exact h.app (fun i hi => by simp at hi; subst hi; exact ⟨ht, ht⟩)
 ·rw [if_pos rfl]
  rcases List.eq_nil_or_concat out with rfl | ⟨r, i, rfl⟩
  ·exact h
  ·rw [List.concat_eq_append] at h ⊢
   rw [setLast_snoc]
   intro j hj
   rcases List.mem_append.1 hj with hj | hj
   ·exact h j (List.mem_append_left _ hj)
   ·simp at hj; subst hj
    exact ⟨(h i (by simp)).1, ht⟩
theorem combB_pts {S : List K} {here btw : Bool} {t n : K} {out : List (Iv K)} (ht : t ∈ S) (hn : n ∈ S) (h : PtsIn S out) : PtsIn S (combB here btw t n out) := by
 unfold combB
 split
 ·exact h.app (fun i hi => by simp at hi; subst hi; exact ⟨ht, hn⟩)
 ·exact h
theorem combL_pts {S : List K} {H : K → Bool} {P : K → K → Bool} : ∀ (l : List K) (op : Bool) (out : List (Iv K)), (∀ x ∈ l, x ∈ S) → PtsIn S out → PtsIn S (combL H P l op out)
 | [], _, _, _, h => h
 | [t], op, out, hl, h => combT_pts (hl t (by simp)) h
 | t :: n :: r, op, out, hl, h => combL_pts (n :: r) _ _ (fun x hx => hl x (by simp at hx ⊢; exact .inr hx)) (combB_pts (hl t (by simp)) (hl n (by simp)) (combT_pts (hl t (by simp)) h))
theorem combK_pts {S : List K} {op : Int} {a b : List (Iv K)} (ha : PtsIn S a) (hb : PtsIn S b) : PtsIn S (combK op a b) := by
 refine combL_pts _ _ _ (fun x hx => ?_) (PtsIn.nil S)
 obtain ⟨i, hi, h⟩ := ptsL_mem.1 (sortS_mem.1 hx)
 have := ha.app hb i hi
 rcases h with rfl | rfl
 ·exact this.1
 ·exact this.2
theorem NormF.pair {l : List (Iv K)} : ∀ {b : Bd K}, NormF l b → (∀ i ∈ l, b < i.f) ∧ l.Pairwise (fun i j => i.l < j.f) := by
 induction l with
 | nil => intro b _; exact ⟨by simp, List.Pairwise.nil⟩
 | cons i l ih =>
  intro b h
  obtain ⟨h1, h2, h3⟩ := h
  obtain ⟨k1, k2⟩ := ih h3
  refine ⟨fun j hj => ?_, List.pairwise_cons.2 ⟨k1, k2⟩⟩
  rcases List.mem_cons.1 hj with rfl | hj
  ·exact h1
  ·have := k1 j hj; grind
theorem NormF.val {l : List (Iv K)} : ∀ {b : Bd K}, NormF l b → ∀ i ∈ l, i.f < i.l := by
 induction l with
 | nil => intro b _ i hi; cases hi
 | cons j l ih =>
  intro b h i hi
  rcases List.mem_cons.1 hi with rfl | hi
  ·exact h.2.1
  ·exact ih h.2.2 i hi
theorem Norm.val {l : List (Iv K)} (h : Norm l) : ∀ i ∈ l, i.f < i.l := by
 cases l with
 | nil => intro i hi; cases hi
 | cons j l =>
  intro i hi
  rcases List.mem_cons.1 hi with rfl | hi
  ·exact h.1
  ·exact h.2.val i hi
theorem Norm.pair {l : List (Iv K)} (h : Norm l) : l.Pairwise (fun i j => i.l < j.f) := by
 cases l with
 | nil => exact List.Pairwise.nil
 | cons j l => exact List.pairwise_cons.2 ⟨h.2.pair.1, h.2.pair.2⟩
theorem NormF.of {l : List (Iv K)} : ∀ {b : Bd K}, (∀ i ∈ l, b < i.f) → (∀ i ∈ l, i.f < i.l) → l.Pairwise (fun i j => i.l < j.f) → NormF l b := by
 induction l with
 | nil => intro b _ _ _; trivial
 | cons i l ih =>
  intro b h1 h2 h3
  obtain ⟨h4, h5⟩ := List.pairwise_cons.1 h3
  exact ⟨h1 i (by simp), h2 i (by simp), ih h4 (fun j hj => h2 j (by simp [hj])) h5⟩
theorem Norm.of {l : List (Iv K)} (h2 : ∀ i ∈ l, i.f < i.l) (h3 : l.Pairwise (fun i j => i.l < j.f)) : Norm l := by
 cases l with
 | nil => trivial
 | cons i l =>
  obtain ⟨h4, h5⟩ := List.pairwise_cons.1 h3
  exact ⟨h2 i (by simp), NormF.of h4 (fun j hj => h2 j (by simp [hj])) h5⟩
theorem nodup_sub_len {α : Type} : ∀ {l m : List α}, l.Nodup → (∀ x ∈ l, x ∈ m) → l.length ≤ m.length := by
 intro l
 induction l with
 | nil => intro m _ _; simp
 | cons x l ih =>
  intro m h hs
  obtain ⟨h1, h2⟩ := List.nodup_cons.1 h
  obtain ⟨s, t, rfl⟩ := List.append_of_mem (hs x (by simp))
  have := ih (m := s ++ t) h2 (fun y hy => by
   have h3 := hs y (by simp [hy])
   rw [List.mem_append, List.mem_cons] at h3
   rw [List.mem_append]
   rcases h3 with h3 | h3 | h3
   ·exact .inl h3
   ·subst h3; exact absurd hy h1
   ·exact .inr h3)
  simp at this ⊢
  omega
theorem Norm.len {S : List K} {l : List (Iv K)} (h : Norm l) (hp : PtsIn S l) : l.length ≤ 2 * S.length := by
 have hv := h.val
 have hn : (l.map Iv.f).Nodup := by
  unfold List.Nodup
  rw [List.pairwise_map]
  refine h.pair.imp_of_mem (fun {i j} hi hj hij he => ?_)
  have := hv i hi
  rw [he] at this
  grind
 have hs : ∀ x ∈ l.map Iv.f, x ∈ S.flatMap (fun s => [(⟨s, false⟩ : Bd K), ⟨s, true⟩]) := fun x hx => by
  obtain ⟨i, hi, rfl⟩ := List.mem_map.1 hx
  rw [List.mem_flatMap]
  refine ⟨_, (hp i hi).1, ?_⟩
  rcases hb : i.f with ⟨p, b⟩
  cases b <;> simp
 have := nodup_sub_len hn hs
 have hl : (S.flatMap (fun s => [(⟨s, false⟩ : Bd K), ⟨s, true⟩])).length = 2 * S.length := by
  clear this hs hn hv hp h
  induction S with
  | nil => rfl
  | cons s S ih => rw [List.flatMap_cons, List.length_append, ih]; simp; omega
 rw [List.length_map, hl] at this
 exact this
structure Per (S : List K) (l : List (Iv K)) : Prop where
 norm : Norm l
 pts : PtsIn S l
theorem Per.len {S : List K} {l : List (Iv K)} (h : Per S l) : l.length ≤ 2 * S.length := h.norm.len h.pts
theorem Per.nil (S : List K) : Per S [] := ⟨trivial, PtsIn.nil S⟩
theorem combK_per {S : List K} (op : Int) {a b : List (Iv K)} (ha : PtsIn S a) (hb : PtsIn S b) : Per S (combK op a b) := ⟨combK_norm op a b, combK_pts ha hb⟩
theorem combK_eq {op : Int} {a b l : List (Iv K)} (hl : Norm l) (h : ∀ x, hasL l x = decV op (hasL a x) (hasL b x)) : combK op a b = l :=
 norm_unique (combK_norm op a b) hl (fun x => by rw [combK_has, h])
noncomputable abbrev normK (l : List (Iv K)) : List (Iv K) := combK 1 l []
end Go.Proofs.YteknldaoegccaaaGreatDoor
set_option maxRecDepth 100000
namespace Go.Proofs.YteknldaoegccaaaGreatDoor
open Go.RowKit
theorem sweep_comb {op : Int} {a b out : List (Iv K)} (h1 : Norm out) (h2 : ∀ x, hasL out x = decV op (hasL a x) (hasL b x)) : out = combK op a b := (combK_eq h1 h2).symm
theorem Union_c (a b : Bool) (w : World) : Calls Tryz.prog 57 #[.bool a, .bool b] w fun e w' => e = .returned (.bool (decV 1 a b)) ∧ Keep [] w w' := by
 cases a <;> cases b
 all_goals
  go_enter Tryz.func57, Tryz.ntmps57
  go_wp2_with fail
  go_ret
  exact ⟨rfl, Keep.refl _ _⟩
theorem Union_p (a b : List (Iv K)) (ha : ∀ i ∈ a, i.f < i.l) (hb : ∀ i ∈ b, i.f < i.l) (w : World) (sv tv : Value) (hr : IvR w sv a) (hs : IvR w tv b) (h9 : a.length ≤ 10000) (h8 : b.length ≤ 10000) :
  Calls Tryz.prog 21 #[sv, tv] w fun e w' => ∃ v, e = .returned v ∧ IvR w' v (combK 1 a b) ∧ Keep [] w w' := by
 have H := Lib.hid (sweep_c (decV 1) 57 (enters_of Tryz.func57 (by kernel_rfl) rfl) (fun x y w => Union_c x y w) (decV_zero 1) a b ha hb w sv tv hr hs h9 h8)
 obtain ⟨ao, ac, rfl, _⟩ := hr.form
 obtain ⟨bo, bc, rfl, _⟩ := hs.form
 clear hr hs ha hb
 go_enter Tryz.func21, Tryz.ntmps21
 go_wp2_with fail
 refine H.out.mono ?_
 rintro e w1 ⟨v, out, rfl, hv, h1, h2, hk⟩
 dsimp only
 have HV := Lib.hid (show IvR w1 v (combK 1 a b) by rw [← sweep_comb h1 h2]; exact hv)
 have HK := Lib.hid hk
 obtain ⟨vo, vc, rfl, _⟩ := hv.form
 clear hv h1 h2 hk
 go_wp2_with fail
 go_ret
 exact ⟨_, rfl, HV.out, HK.out⟩
theorem Minus_c (a b : Bool) (w : World) : Calls Tryz.prog 61 #[.bool a, .bool b] w fun e w' => e = .returned (.bool (decV 3 a b)) ∧ Keep [] w w' := by
 cases a <;> cases b
 all_goals
  go_enter Tryz.func61, Tryz.ntmps61
  go_wp2_with fail
  go_ret
  exact ⟨rfl, Keep.refl _ _⟩
theorem Minus_p (a b : List (Iv K)) (ha : ∀ i ∈ a, i.f < i.l) (hb : ∀ i ∈ b, i.f < i.l) (w : World) (sv tv : Value) (hr : IvR w sv a) (hs : IvR w tv b) (h9 : a.length ≤ 10000) (h8 : b.length ≤ 10000) :
  Calls Tryz.prog 24 #[sv, tv] w fun e w' => ∃ v, e = .returned v ∧ IvR w' v (combK 3 a b) ∧ Keep [] w w' := by
 have H := Lib.hid (sweep_c (decV 3) 61 (enters_of Tryz.func61 (by kernel_rfl) rfl) (fun x y w => Minus_c x y w) (decV_zero 3) a b ha hb w sv tv hr hs h9 h8)
 obtain ⟨ao, ac, rfl, _⟩ := hr.form
 obtain ⟨bo, bc, rfl, _⟩ := hs.form
 clear hr hs ha hb
 go_enter Tryz.func24, Tryz.ntmps24
 go_wp2_with fail
 refine H.out.mono ?_
 rintro e w1 ⟨v, out, rfl, hv, h1, h2, hk⟩
 dsimp only
 have HV := Lib.hid (show IvR w1 v (combK 3 a b) by rw [← sweep_comb h1 h2]; exact hv)
 have HK := Lib.hid hk
 obtain ⟨vo, vc, rfl, _⟩ := hv.form
 clear hv h1 h2 hk
 go_wp2_with fail
 go_ret
 exact ⟨_, rfl, HV.out, HK.out⟩
theorem rcombine_c (op : Int) (hop : op = 1 ∨ op = 2 ∨ op = 3) (a b : List (Iv K)) (w : World) (sv tv : Value) (hr : IvR w sv a) (hs : IvR w tv b) (h9 : a.length ≤ 10000) (h8 : b.length ≤ 10000) :
  Calls Tryz.prog 22 #[.int .i64 op, sv, tv] w fun e w' => ∃ v, e = .returned v ∧ IvR w' v (combK op a b) ∧ Keep [] w w' := combine_c op hop a b w sv tv hr hs h9 h8
theorem rnormal_c (a : List (Iv K)) (w : World) (sv : Value) (hr : IvR w sv a) (h9 : a.length ≤ 10000) :
  Calls Tryz.prog 18 #[sv] w fun e w' => ∃ v, e = .returned v ∧ IvR w' v (normK a) ∧ Keep [] w w' := by
 have H := Lib.hid (rcombine_c 1 (.inl rfl) a [] w sv (.slice none 0 0) hr (RowE.nil w) h9 (by simp))
 obtain ⟨ao, ac, rfl, _⟩ := hr.form
 clear hr
 go_enter Tryz.func18, Tryz.ntmps18
 go_wp2_with fail
 refine H.out.mono ?_
 rintro e w1 ⟨v, rfl, hv, hk⟩
 dsimp only
 have HV := Lib.hid hv
 have HK := Lib.hid hk
 obtain ⟨vo, vc, rfl, _⟩ := hv.form
 clear hv hk
 go_wp2_with fail
 go_ret
 exact ⟨_, rfl, HV.out, HK.out⟩
noncomputable def perOf (l : List SpanA) : List (Iv K) := normK (ivsOf l)
theorem ivsOf_len (l : List SpanA) : (ivsOf l).length ≤ 8 := by unfold ivsOf; rw [List.length_map, List.length_take]; omega
theorem perOf_per (l : List SpanA) : Per (ptsL (ivsOf l)) (perOf l) := combK_per _ (PtsIn.self _) (PtsIn.nil _)
theorem ptsOf_len (l : List SpanA) : (ptsL (ivsOf l)).length ≤ 16 := by rw [ptsL_len]; have := ivsOf_len l; omega
theorem lperiod_c (l : List SpanA) (w : World) (sv : Value) (hr : SpQ w sv l) (h9 : l.length ≤ 9223372036854775807) :
  Calls Tryz.prog 20 #[sv] w fun e w' => ∃ v, e = .returned v ∧ IvR w' v (perOf l) ∧ Keep [] w w' := by
 have H := Lib.hid (intervals_c l w sv hr h9)
 have H2 := Lib.hid (fun w v (h : IvR w v (ivsOf l)) => rnormal_c (ivsOf l) w v h (by have := ivsOf_len l; omega))
 obtain ⟨ao, ac, rfl, _⟩ := hr
 go_enter Tryz.func20, Tryz.ntmps20
 go_wp2_with fail
 refine H.out.mono ?_
 rintro e w1 ⟨v, rfl, hv, hk⟩
 dsimp only
 have HV := Lib.hid hv
 have HK := Lib.hid hk
 obtain ⟨vo, vc, rfl, _⟩ := hv.form
 clear hv hk H
 go_wp2_with fail
 refine (H2.out _ _ HV.out).mono ?_
 rintro e w2 ⟨v, rfl, hv, hk⟩
 dsimp only
 have HV2 := Lib.hid hv
 have HK2 := Lib.hid (HK.out.trans0 hk)
 obtain ⟨vo, vc, rfl, _⟩ := hv.form
 clear hv hk H2 HV HK
 go_wp2_with fail
 go_ret
 exact ⟨_, rfl, HV2.out, HK2.out⟩
end Go.Proofs.YteknldaoegccaaaGreatDoor
set_option maxRecDepth 100000
namespace Go.Proofs.YteknldaoegccaaaGreatDoor
open Go.RowKit
def kQ (q : Rat) (h : FitQ 100000 q) : K := ⟨⟨q, 0, false⟩, ⟨by show (0 : Rat) ≤ 0; grind, fun _ => rfl, fun h => absurd rfl h⟩, h, fit0.mono (by decide)⟩
theorem cmp_frac (a b : Rat) : cmpQ ⟨a, 0, false⟩ ⟨b, 0, false⟩ = sgn (a - b) := by
 have h1 : sg1 (a - b) (Qn.u ⟨a, 0, false⟩) 0 = sgn (a - b) := by
  unfold sg1
  rw [sgn_zero, Int.mul_zero, if_pos (.inl rfl)]
 unfold cmpQ
 dsimp only
 rw [sgn_zero, Int.mul_zero, if_pos (.inl rfl), h1]
theorem kQ_lt {a b : Rat} {ha : FitQ 100000 a} {hb : FitQ 100000 b} : kQ a ha < kQ b hb ↔ a < b := by
 rw [← K.cmp_neg]
 show cmpQ ⟨a, 0, false⟩ ⟨b, 0, false⟩ = -1 ↔ _
 rw [cmp_frac]
 rcases sgn_cases (a - b) with ⟨h, h2⟩ | ⟨h, h2⟩ | ⟨h, h2⟩ <;> rw [h2] <;> constructor <;> intro h3 <;> first | grind | (exact absurd h3 (by decide))
theorem fit_nat1 (n : Nat) (h : n < 256) : FitQ 1 (n : Rat) := by
 refine ⟨?_, ?_⟩
 ·rw [Fit_iff]
  have e : (n : Rat).num = (n : Int) := rfl
  rw [e]
  simpa using h
 ·rw [Fit_iff]
  have e : (n : Rat).den = 1 := rfl
  rw [e]
  decide
theorem fit_nat (n : Nat) (h : n < 256) : FitQ 100000 (n : Rat) := (fit_nat1 n h).mono (by decide)
def kN (n : Nat) (h : n < 256) : K := kQ n (fit_nat n h)
theorem kN_lt {m n : Nat} {hm : m < 256} {hn : n < 256} : kN m hm < kN n hn ↔ m < n := by
 unfold kN
 rw [kQ_lt]
 exact_mod_cast Iff.rfl
theorem divInt_nat (n : Nat) : Rat.divInt (n : Int) 1 = (n : Rat) := by
 exact Rat.num_divInt_den (n : Rat)
theorem real_built (n : Bool) (s d : ByteArray) : Tryz.prog.built 31 [(0, .agg #[.bool n, .string s, .bool false, .string d])] = some #[.bool n, .string s, .bool false, .string d, .bool false, .string ⟨#[]⟩, .bool false, .string ⟨#[]⟩, .bool false] := by kernel_rfl
theorem kQ_C (q : Rat) (h : FitQ 100000 q) : kC (kQ q h) = #[.bool (sgB q.num), .string (mgS q.num), .bool false, .string (dnS q.den), .bool false, .string ⟨#[]⟩, .bool false, .string ⟨#[]⟩, .bool false] := by
 have h1 : sgB (0 : Rat).num = false := by decide
 have h2 : mgS (0 : Rat).num = ⟨#[]⟩ := mg_empty.2 rfl
 have h3 : dnS (0 : Rat).den = ⟨#[]⟩ := by unfold dnS; rfl
 unfold kC kQ kcells
 dsimp only
 rw [h1, h2, h3]
theorem real_built' (q : Rat) (h : FitQ 100000 q) : Tryz.prog.built 31 [(0, rv q)] = some (kC (kQ q h)) := by
 rw [kQ_C]
 exact real_built _ _ _
set_option maxHeartbeats 4000000 in
theorem lwhole_c (n : Nat) (hn : n < 256) (w : World) : Calls Tryz.prog 54 #[.int .i64 (n : Int)] w fun e w' => e = .returned (kv (kN n hn)) ∧ Keep [] w w' := by
 have H := Lib.hid (fun w => rof_c (n : Int) 1 (by decide) (by omega) (by omega) (by decide) (by decide) w)
 rw [divInt_nat] at H
 have HB := Lib.hid (real_built' (n : Rat) (fit_nat n hn))
 have HS : Hid ((kC (kN n hn)).size = 9) := rfl
 have HO := Lib.hid (all_oneCell_toArray (kcells_one (kN n hn).1))
 have HL := Lib.hid (fun w g (h : w.heap[g]? = some (.cells (kC (kN n hn)) 31)) => load_real w g 0 _ (kAt_box h))
 rw [show qv (kN n hn).1 = kv (kN n hn) from rfl] at HL
 rw [show kQ (n : Rat) (fit_nat n hn) = kN n hn from rfl] at HB
 unfold kv at *
 rw [show (kcells (kN n hn).1).toArray = kC (kN n hn) from rfl] at HO
 unfold rv at *
 generalize sgB ((n : Rat)).num = a1 at *
 generalize mgS ((n : Rat)).num = a2 at *
 generalize dnS ((n : Rat)).den = a3 at *
 generalize kC (kN n hn) = C at *
 go_enter Tryz.func54, Tryz.ntmps54
 go_upto_region 1 with (fail)
 obtain ⟨W, ga, hW, ega, bga, hga, hgW, hkW⟩ := al1 w (.cells #[.bool false, .string ⟨#[]⟩, .bool false, .string ⟨#[]⟩, .bool false, .string ⟨#[]⟩, .bool false, .string ⟨#[]⟩, .bool false] 31)
 rw [← hW]
 try rw [ega]
 have Bga := Lib.hid bga
 have HkW := Lib.hid hkW
 clear hW hkW ega bga
 refine wp_region_lit ?_
 refine' wpList_R (v := _) (by rfl) (?hruna) (fun K hK => ?hnexta)
 case hruna => (go_simp; try rfl)
 rotate_left 0
 go_simp
 refine hK _ _ ?_
 clear hK K
 refine wpList_plain (by rfl) (fun K hK => ?_)
 refine wp_enter 70 #[.int .i64 (n : Int), .int .i64 1] (by go_simp) ?_
 refine (H.out _).mono ?_
 rintro e w5 ⟨rfl, hk5⟩
 refine ⟨_, rfl, ?_⟩
 go_simp
 refine hK _ _ ?_
 clear hK K
 have B2ga := Lib.hid (hk5.heap Bga.out (by simp))
 have HkW2 := Lib.hid (HkW.out.trans0 hk5)
 clear HkW hk5 Bga
 have Bga := B2ga
 have HkW := HkW2
 clear HkW2 B2ga
 refine wpList_R (v := .agg C) (by rfl) (exec_build _ #[(0, .tmp 4)] #[(0, .agg #[.bool a1, .string a2, .bool false, .string a3])] _ rfl (by simp only [List.map_toArray, List.map_cons, List.map_nil]; rfl) HB.out) (fun K hK => ?_)
 go_simp
 refine hK _ _ ?_
 clear hK K
 refine wpList_rowK (by rfl) _ _ _ rfl ga C rfl rfl _ _ Bga.out (by rw [HS.out]; exact k_size) (by rw [HS.out]; rfl) HO.out (fun K hK => ?_)
 obtain ⟨W4, e4, b4, k4⟩ := setRow_at (cs := C) Bga.out
 rw [e4]
 go_simp
 refine hK _ _ ?_
 clear hK K
 have Hb4 := Lib.hid b4
 have HkZ := Lib.hid (HkW.out.trans k4 (by simp; omega))
 clear b4 k4 e4
 go_wp2_with fail
 refine bodyPost_ret (v := .agg C) ?_ rfl ⟨rfl, HkZ.out⟩
 rw [results_cell1 rfl]
 exact HL.out _ _ Hb4.out
end Go.Proofs.YteknldaoegccaaaGreatDoor
set_option maxRecDepth 100000
namespace Go.Proofs.YteknldaoegccaaaGreatDoor
open Go.RowKit
theorem eqR_dec (x y : Qn) : ((((sgB x.p.num == sgB y.p.num) && decide (mgS x.p.num = mgS y.p.num)) && ((false == false) && decide (dnS x.p.den = dnS y.p.den))) && ((((sgB x.r.num == sgB y.r.num) && decide (mgS x.r.num = mgS y.r.num)) && ((false == false) && decide (dnS x.r.den = dnS y.r.den))) && (x.neg == y.neg))) = (decide (x.p = y.p) && (decide (x.r = y.r) && (x.neg == y.neg))) := by
 rw [eqQ_dec, eqQ_dec]
theorem Qn.eq_dec (x y : Qn) : (decide (x.p = y.p) && (decide (x.r = y.r) && (x.neg == y.neg))) = true ↔ x = y := by
 obtain ⟨p, r, n⟩ := x
 obtain ⟨p', r', n'⟩ := y
 simp
theorem K.ext_iff {x y : K} : x = y ↔ x.1 = y.1 := Subtype.ext_iff
open Classical in
theorem eqI_dec (i j : Iv K) : ((decide (i.f.pt.1.p = j.f.pt.1.p) && (decide (i.f.pt.1.r = j.f.pt.1.r) && (i.f.pt.1.neg == j.f.pt.1.neg))) && ((decide (i.l.pt.1.p = j.l.pt.1.p) && (decide (i.l.pt.1.r = j.l.pt.1.r) && (i.l.pt.1.neg == j.l.pt.1.neg))) && ((i.f.beh == j.f.beh) && ((!i.l.beh) == (!j.l.beh))))) = decide (i = j) := by
 rw [Bool.eq_iff_iff, decide_eq_true_iff, Bool.and_eq_true, Qn.eq_dec, Bool.and_eq_true, Qn.eq_dec, ← K.ext_iff, ← K.ext_iff]
 obtain ⟨⟨a, b⟩, ⟨c, d⟩⟩ := i
 obtain ⟨⟨a', b'⟩, ⟨c', d'⟩⟩ := j
 simp
 constructor
 ·rintro ⟨rfl, rfl, rfl, h⟩
  exact ⟨⟨rfl, rfl⟩, rfl, h⟩
 ·rintro ⟨⟨rfl, rfl⟩, rfl, h⟩
  exact ⟨rfl, rfl, rfl, h⟩
open Classical
theorem eqI_in (d : Nat) (x0 x1 x2 x3 x4 x5 x6 x7 x8 y0 y1 y2 y3 y4 y5 y6 y7 y8 u0 u1 u2 u3 u4 u5 u6 u7 u8 v0 v1 v2 v3 v4 v5 v6 v7 v8 : Value) (o1 c1 o2 c2 k1 k2 : Bool)
  (e1 : ∀ w, (Op.equalIn (d + 4) 31 (.agg #[x0, x1, x2, x3, x4, x5, x6, x7, x8]) (.agg #[u0, u1, u2, u3, u4, u5, u6, u7, u8])).run Tryz.prog w = .ok k1 w) (e2 : ∀ w, (Op.equalIn (d + 4) 31 (.agg #[y0, y1, y2, y3, y4, y5, y6, y7, y8]) (.agg #[v0, v1, v2, v3, v4, v5, v6, v7, v8])).run Tryz.prog w = .ok k2 w) (w : World) :
  (Op.equalIn (d + 5) 33 (.agg #[x0, x1, x2, x3, x4, x5, x6, x7, x8, y0, y1, y2, y3, y4, y5, y6, y7, y8, .bool o1, .bool c1]) (.agg #[u0, u1, u2, u3, u4, u5, u6, u7, u8, v0, v1, v2, v3, v4, v5, v6, v7, v8, .bool o2, .bool c2])).run Tryz.prog w = .ok (k1 && (k2 && ((o1 == o2) && (c1 == c2)))) w := by
 have u3 := Tryz.underlying31
 have a3 := Tryz.isAgg31
 have z3 := Tryz.sizeOf31
 have u4 := Tryz.underlying4
 have aa4 := Tryz.isAgg4
 have z4 := Tryz.sizeOf4
 have hS : Tryz.prog.underlying 33 = some (.struct (Tryz.prog.fieldsOf 33)) := by kernel_rfl
 have hp : Tryz.prog.stoodInHeld 33 = false := by kernel_rfl
 rw [run_equalIn_agg w (d + 4) 33 _ _ hS hp]
 simp only [Program.fieldsOf, Tryz.underlying33]
 go_simp
 cases k1 <;> cases k2 <;> cases o1 <;> cases o2 <;> cases c1 <;> cases c2 <;> simp
theorem eqI_g : Tryz.prog.eqGuardType Tryz.prog.depth 33 = false := by kernel_rfl
theorem neqR_run (x y : K) (w : World) : (binOp .neq 31 (kv x) (kv y)).run Tryz.prog w = .ok (.bool (!decide (x = y))) w := by
 rw [kv_cells, kv_cells, run_neq_struct, show (10000 : Nat) = 9996 + 4 from rfl, eqR_in, eqR_dec]
 have h : (decide (x.1.p = y.1.p) && (decide (x.1.r = y.1.r) && (x.1.neg == y.1.neg))) = decide (x = y) := by rw [Bool.eq_iff_iff, Qn.eq_dec, decide_eq_true_iff, K.ext_iff]
 rw [h]; rfl
theorem eqR_run (x y : K) (w : World) : (binOp .eql 31 (kv x) (kv y)).run Tryz.prog w = .ok (.bool (decide (x = y))) w := by
 rw [kv_cells, kv_cells, run_eql_struct, show (10000 : Nat) = 9996 + 4 from rfl, eqR_in, eqR_dec]
 have h : (decide (x.1.p = y.1.p) && (decide (x.1.r = y.1.r) && (x.1.neg == y.1.neg))) = decide (x = y) := by rw [Bool.eq_iff_iff, Qn.eq_dec, decide_eq_true_iff, K.ext_iff]
 rw [h]; rfl
theorem eqI_at (i j : Iv K) (w : World) : (Op.equalIn 10000 33 (iv i) (iv j)).run Tryz.prog w = .ok (decide (i = j)) w := by
 rw [iv_cells, iv_cells, show (10000 : Nat) = 9995 + 5 from rfl, eqI_in 9995 _ _ _ _ _ _ _ _ _ _ _ _ _ _ _ _ _ _ _ _ _ _ _ _ _ _ _ _ _ _ _ _ _ _ _ _ _ _ _ _ _ _ (fun w => eqR_in 9995 _ _ _ _ _ _ _ _ _ _ _ _ _ _ _ _ _ _ w) (fun w => eqR_in 9995 _ _ _ _ _ _ _ _ _ _ _ _ _ _ _ _ _ _ w), eqR_dec, eqR_dec, eqI_dec]
theorem neqI_run (i j : Iv K) (w : World) : (binOp .neq 33 (iv i) (iv j)).run Tryz.prog w = .ok (.bool (!decide (i = j))) w := by
 have h := eqI_at i j w
 unfold iv at *
 rw [run_neq_struct, h]; rfl
theorem eqlI_run (i j : Iv K) (w : World) : (binOp .eql 33 (iv i) (iv j)).run Tryz.prog w = .ok (.bool (decide (i = j))) w := by
 have h := eqI_at i j w
 unfold iv at *
 rw [run_eql_struct, h]; rfl
end Go.Proofs.YteknldaoegccaaaGreatDoor
set_option maxRecDepth 100000
namespace Go.Proofs.YteknldaoegccaaaGreatDoor
open Go.RowKit
open Classical
theorem quiet_bin {C : World → Prop} {o : Oper} {a : Act} {K : Act → Prop} (op : BinOp) (t : TypeId) (x y : Operand) (s : TypeId) (cx cy : Array Value) (v : Value) (ho : o.op = .binOp op t x y s) (hx : a.eval x = .agg cx) (hy : a.eval y = .agg cy) (hg : Tryz.prog.eqGuardType Tryz.prog.depth t = false)
  (h : ∀ w, (binOp op t (.agg cx) (.agg cy)).run Tryz.prog w = .ok v w) (hk : K (a.put o.dst v)) : o.quiet Tryz.prog a C K :=
 ⟨v, fun w hw => by
  unfold Oper.quietAt execOp
  simp only [ho, hx, hy, Sem.run_bind, run_eqGuard_agg (hm := hg), Result.andThen_ok, h w, Sem.run_pure]
  exact ⟨rfl, rfl⟩, hk⟩
set_option maxHeartbeats 8000000 in
theorem equal_c (l m : List (Iv K)) (w : World) (sv tv : Value) (hr : IvR w sv l) (hs : IvR w tv m) (h9 : l.length ≤ 1000000000) (h8 : m.length ≤ 1000000000) :
  Calls Tryz.prog 17 #[sv, tv] w fun e w' => e = .returned (.bool (decide (l = m))) ∧ Keep [] w w' := by
 have HR := Lib.hid hr
 have HS := Lib.hid hs
 obtain ⟨ao, ac, rfl, _⟩ := hr.form
 obtain ⟨bo, bc, rfl, _⟩ := hs.form
 clear hr hs
 by_cases hlen : l.length = m.length
 ·have hne : ((l.length : Int) != (m.length : Int)) = false := by rw [hlen]; simp
  have Hlen := Lib.hid hlen
  clear hlen
  go_enter Tryz.func17, Tryz.ntmps17
  go_wp2_with fail
  go_loopw [5] (fun c wr => ∃ k : Nat, k ≤ l.length ∧ c = .int .i64 (k : Int) ∧ l.take k = m.take k ∧ Keep [] w wr) (fun c _ => l.length - (intOf c).toNat)
  case atStart => exact ⟨0, Nat.zero_le _, rfl, rfl, Keep.refl _ _⟩
  case round =>
   obtain ⟨k, hk, rfl, heq, hkeep⟩ := hrel
   have Heq := Lib.hid heq
   have HKr := Lib.hid hkeep
   clear heq hkeep
   by_cases hlt : k < l.length
   ·have hlt2 : k < m.length := by rw [← Hlen.out]; exact hlt
    obtain ⟨g, o, rfl, hg, hat⟩ := IvR.elem (HR.out.later HKr.out) k hlt
    obtain ⟨g2, o2, rfl, hg2, hat2⟩ := IvR.elem (HS.out.later HKr.out) k hlt2
    obtain ⟨i, hi⟩ : ∃ i, l[k] = i := ⟨_, rfl⟩
    obtain ⟨j, hj⟩ : ∃ j, m[k] = j := ⟨_, rfl⟩
    have Hi := Lib.hid hi
    have Hj := Lib.hid hj
    rw [hi] at hat
    rw [hj] at hat2
    clear hi hj
    obtain ⟨p, hp⟩ : ∃ p, o + k * 20 = p := ⟨_, rfl⟩
    obtain ⟨q, hq⟩ : ∃ q, o2 + k * 20 = q := ⟨_, rfl⟩
    rw [hp] at hat
    rw [hq] at hat2
    have HLa := Lib.hid (hat.ld hg)
    have HLb := Lib.hid (hat2.ld hg2)
    have HN := Lib.hid (neqI_run i j)
    clear hat hat2
    unfold iv at *
    generalize iC i = I at *
    generalize iC j = J at *
    by_cases hij : i = j
    ·rw [decide_eq_true hij] at HN
     have Hij := Lib.hid hij
     clear hij
     go_wp2_with fail
     refine wp_region_keep (by kernel_rfl) (by kernel_rfl) ?_
     repeat (first
      | go_big_quiet_skip
      | (go_big_quiet_want; first
       | (refine quiet_load _ _ _ (.agg I) rfl rfl (by rintro _ ⟨m, rfl⟩; exact HLa.out m) ?_; go_simp; go_big_quiet_on) | (refine quiet_load _ _ _ (.agg J) rfl rfl (by rintro _ ⟨m, rfl⟩; exact HLb.out m) ?_; go_simp; go_big_quiet_on) | (refine quiet_bin _ _ _ _ _ _ _ (_) rfl rfl rfl eqI_g (by intro w; exact HN.out w) ?_; go_simp; go_big_quiet_on)
       | (go_big_quiet_op; first | go_big_quiet_on | go_big_quiet_call (first
        | fail))))
     refine wpQuiet_nil ?_
     rintro w1 ⟨⟨_, hk_w1⟩, rfl⟩
     clear HLa HLb HN
     have Hk1 := Lib.hid hk_w1
     clear hk_w1
     go_wp2_with fail
     go_roundw
     case rel => exact ⟨k + 1, by omega, congrArg (Value.int .i64) (by omega), by rw [List.take_succ_eq_append_getElem hlt, List.take_succ_eq_append_getElem hlt2, Heq.out, Hi.out, Hj.out, Hij.out], HKr.out.trans0 Hk1.out⟩
     case measure => simp [intOf]; omega
    ·rw [decide_eq_false hij] at HN
     have Hij := Lib.hid hij
     clear hij
     go_wp2_with fail
     refine wp_region_keep (by kernel_rfl) (by kernel_rfl) ?_
     repeat (first
      | go_big_quiet_skip
      | (go_big_quiet_want; first
       | (refine quiet_load _ _ _ (.agg I) rfl rfl (by rintro _ ⟨m, rfl⟩; exact HLa.out m) ?_; go_simp; go_big_quiet_on) | (refine quiet_load _ _ _ (.agg J) rfl rfl (by rintro _ ⟨m, rfl⟩; exact HLb.out m) ?_; go_simp; go_big_quiet_on) | (refine quiet_bin _ _ _ _ _ _ _ (_) rfl rfl rfl eqI_g (by intro w; exact HN.out w) ?_; go_simp; go_big_quiet_on)
       | (go_big_quiet_op; first | go_big_quiet_on | go_big_quiet_call (first
        | fail))))
     refine wpQuiet_nil ?_
     rintro w1 ⟨⟨_, hk_w1⟩, rfl⟩
     clear HLa HLb HN
     have Hk1 := Lib.hid hk_w1
     clear hk_w1
     go_wp2_with fail
     go_ret
     have hno : l ≠ m := fun e => Hij.out (by rw [← Hi.out, ← Hj.out]; simp only [e])
     exact ⟨by rw [decide_eq_false hno]; rfl, HKr.out.trans0 Hk1.out⟩
   ·obtain rfl : k = l.length := by omega
    go_wp2_with fail
    go_ret
    have he : l = m := by
     have := Heq.out
     rw [List.take_length, Hlen.out, List.take_length] at this
     exact this
    exact ⟨by rw [decide_eq_true he]; rfl, HKr.out⟩
 ·have hne : ((l.length : Int) != (m.length : Int)) = true := by rw [bne_iff_ne]; omega
  have hno : l ≠ m := fun e => hlen (by rw [e])
  rw [decide_eq_false hno]
  clear hno hlen
  go_enter Tryz.func17, Tryz.ntmps17
  go_wp2_with fail
  go_ret
  exact ⟨rfl, Keep.refl _ _⟩
end Go.Proofs.YteknldaoegccaaaGreatDoor
