/- Parts of a proof about this translation: Tk, Ue, Uf, Sw, Sx. -/
import Derived.Test.YteknldaoegccaaaGreatDoorZ35
import Derived.Test.YteknldaoegccaaaGreatDoorZ20
import Derived.Test.YteknldaoegccaaaGreatDoorZ33
import Derived.Test.YteknldaoegccaaaGreatDoorZ34
import Derived.Test.YteknldaoegccaaaGreatDoorZ27
import Derived.Test.YteknldaoegccaaaGreatDoorZ29
import Derived.Test.YteknldaoegccaaaGreatDoorZ14
set_option linter.unusedVariables false
set_option linter.unusedSimpArgs false
set_option maxRecDepth 100000
namespace Go.Proofs.YteknldaoegccaaaGreatDoor
open Go.RowKit
def spcells (s : SpanA) : List Value := [.int .u8 s.a.P, .int .u8 s.a.D, .int .u8 s.a.R, .int .u8 s.a.E, .bool s.a.neg, .int .u8 s.b.P, .int .u8 s.b.D, .int .u8 s.b.R, .int .u8 s.b.E, .bool s.b.neg, .bool s.oa, .bool s.ob]
theorem spcells_len (s : SpanA) : (spcells s).length = 12 := rfl
abbrev SpR := RowE (fun s : SpanA => spcells s)
theorem infoSpan : ∃ ie, Tryz.prog.info? 63 = some ie ∧ ie.size = 12 := by
 have h : (Tryz.prog.info? 63).map (·.size) = some 12 := by kernel_rfl
 cases hi : Tryz.prog.info? 63 with
 | none => rw [hi] at h; cases h
 | some ie => rw [hi] at h; exact ⟨ie, rfl, by simpa using h⟩
theorem load_span (w : World) (b o : Nat) (s : SpanA) (hc : ∀ k v, (spcells s)[k]? = some v → w.cell? ⟨b, o + k, none⟩ = some v) : (loadVar 63 ⟨b, o, none⟩).run Tryz.prog w = .ok s.v w := by
 obtain ⟨ie, hie, hs⟩ := infoSpan
 exact Go.Lib.rl_loadVar_cells 63 ie hie Tryz.isAgg63 b o (spcells s) (by rw [hs]; rfl) w hc
theorem SpR.elem {w : World} {a : Option Addr} {n c : Nat} {l : List SpanA} (h : SpR w (.slice a n c) l) (i : Nat) (hi : i < l.length) : ∃ g o, a = some ⟨g, o, none⟩ ∧ g < w.heap.size ∧ ∀ j v, (spcells l[i])[j]? = some v → w.cell? ⟨g, o + i * 12 + j, none⟩ = some v := RowE.elem spcells_len h i hi
theorem span_keep {w w' : World} {g p : Nat} {s : SpanA} (h : ∀ j v, (spcells s)[j]? = some v → w.cell? ⟨g, p + j, none⟩ = some v) (hb : w'.heap[g]? = w.heap[g]?) : ∀ j v, (spcells s)[j]? = some v → w'.cell? ⟨g, p + j, none⟩ = some v := fun j v hj => by
 rw [World.cell?_of_block hb]; exact h j v hj
def SpQ (w : World) (v : Value) (l : List SpanA) : Prop := ∃ (a : Option Addr) (c : Nat), v = .slice a l.length c ∧ (l = [] ∨ SpR w v l)
theorem SpQ.elem {w : World} {a : Option Addr} {n c : Nat} {l : List SpanA} (h : SpQ w (.slice a n c) l) (i : Nat) (hi : i < l.length) : ∃ g o, a = some ⟨g, o, none⟩ ∧ g < w.heap.size ∧ ∀ j v, (spcells l[i])[j]? = some v → w.cell? ⟨g, o + i * 12 + j, none⟩ = some v := by
 obtain ⟨_, _, _, h | h⟩ := h
 ·subst h; simp at hi
 ·exact SpR.elem h i hi
theorem SpQ.later {w w' : World} {v : Value} {l : List SpanA} (h : SpQ w v l) (hk : Keep [] w w') : SpQ w' v l := by
 obtain ⟨a, c, h1, h2⟩ := h
 exact ⟨a, c, h1, h2.imp id (fun h => h.later hk)⟩
noncomputable def ivsOf (l : List SpanA) : List (Iv K) := (l.take 8).map SpanA.i
set_option maxHeartbeats 8000000 in
theorem intervals_c (l : List SpanA) (w : World) (sv : Value) (hr : SpQ w sv l) (h9 : l.length ≤ 9223372036854775807) :
  Calls Tryz.prog 14 #[sv] w fun e w' => ∃ v, e = .returned v ∧ IvR w' v (ivsOf l) ∧ Keep [] w w' := by
 have HR := Lib.hid hr
 have HC := Lib.hid (fun s w => interval_c s w)
 obtain ⟨ao, ac, rfl, _⟩ := hr
 go_enter Tryz.func14, Tryz.ntmps14
 go_wp2_with fail
 go_loopw [3, 4] (fun ov c wr => ∃ k : Nat, k ≤ l.length ∧ k ≤ 8 ∧ c = .int .i64 (k : Int) ∧ OI_ w wr ov ((l.take k).map SpanA.i)) (fun _ c _ => l.length - (intOf c).toNat)
 case atStart => exact ⟨0, Nat.zero_le _, Nat.zero_le _, rfl, OE.nil w⟩
 case round =>
  obtain ⟨k, hk, hk8, rfl, hov⟩ := hrel
  obtain ⟨out, hout⟩ : ∃ out, (l.take k).map SpanA.i = out := ⟨_, rfl⟩
  rw [hout] at hov
  have Hlen := Lib.hid (show out.length = k by rw [← hout, List.length_map, List.length_take, Nat.min_eq_left hk])
  have Hout := Lib.hid hout
  have HO := Lib.hid hov
  obtain ⟨oo, oc, rfl⟩ := hov.form
  clear hov hout
  by_cases hlt : k < l.length
  ·by_cases hlt8 : k < 8
   ·obtain ⟨g, o, rfl, hg, hat⟩ := SpQ.elem HR.out k hlt
    have Hstep : Hid ((l.take (k + 1)).map SpanA.i = (l.take k).map SpanA.i ++ [l[k].i]) := by rw [List.take_succ_eq_append_getElem hlt, List.map_append]; rfl
    generalize l[k] = s at *
    obtain ⟨p, hp⟩ : ∃ p, o + k * 12 = p := ⟨_, rfl⟩
    rw [hp] at hat
    have HL := Lib.hid (load_span wr g p s (span_keep hat (HO.out.keep.block g hg (by simp))))
    have H1 := Lib.hid (HC.out s)
    clear hat
    go_upto_region 5 with (fail)
    refine wp_region_lit ?_
    refine' wpList_R (v := _) (by rfl) (?hruna) (fun K hK => ?hnexta)
    case hruna => (go_simp; try rfl)
    rotate_left 0
    go_simp
    refine hK _ _ ?_
    clear hK K
    refine' wpList_R (v := _) (by rfl) (?hrunb) (fun K hK => ?hnextb)
    case hrunb => (go_simp; try rfl)
    rotate_left 0
    go_simp
    refine hK _ _ ?_
    clear hK K
    refine' wpList_R (v := _) (by rfl) (?hrunc) (fun K hK => ?hnextc)
    case hrunc => (go_simp; try rfl)
    rotate_left 0
    go_simp
    refine hK _ _ ?_
    clear hK K
    refine' wpList_R (v := _) (by rfl) (?hrund) (fun K hK => ?hnextd)
    case hrund => (go_simp; try rfl)
    rotate_left 0
    go_simp
    refine hK _ _ ?_
    clear hK K
    refine wpList_R (v := s.v) (by rfl) (exec_load _ _ ⟨g, p, none⟩ _ rfl rfl HL.out) (fun K hK => ?_)
    go_simp
    refine hK _ _ ?_
    clear hK K
    refine wpList_plain (by rfl) (fun K hK => ?_)
    refine wp_enter 44 #[s.v] (by go_simp) ?_
    refine (H1.out _).mono ?_
    rintro e w5 ⟨rfl, hk5⟩
    refine ⟨_, rfl, ?_⟩
    go_simp
    refine hK _ _ ?_
    clear hK K
    obtain ⟨ub, gx, e3, e4, hz1, hkx, hx⟩ := IvR.single s.i w5
    have hW := hk5.trans0 hkx
    refine wpList_K (v := .slice (some ⟨w5.heap.size, 0, none⟩) 1 1) (by rfl) (exec_bs 23 1 #[(0, .tmp 20)] #[(0, iv s.i)] _ rfl (by simp only [List.map_toArray, List.map_cons, List.map_nil]; rfl) (build1_i s.i _)) (fun K hK => ?_)
    rw [e3, e4]
    clear e3
    go_simp
    refine hK _ _ ?_
    clear hK K
    obtain ⟨v4, u4, hr4, ho4, hn4, _⟩ := IvR.app (ty := 23) (HO.out.later hW) (.inr (by simp)) hx (by rw [Hlen.out]; simp; omega)
    refine wpList_K (by rfl) (exec_app (.tmp 15) (.tmp 21) 23 _ _ _ rfl rfl rfl hr4) (fun K hK => ?_)
    go_simp
    refine hK _ _ ?_
    clear hK K hr4 hx hkx hW hk5
    have HN := Lib.hid ho4
    obtain ⟨no, nc, rfl⟩ := ho4.form
    clear ho4 hn4
    go_wp2_with fail
    go_roundw
    case rel => exact ⟨k + 1, by omega, by omega, congrArg (Value.int .i64) (by omega), by rw [Hstep.out, Hout.out]; exact HN.out⟩
    case measure => simp [intOf]; omega
   ·obtain rfl : k = 8 := by omega
    have HF : Hid (out = ivsOf l) := Hout.out.symm
    go_wp2_with fail
    go_ret
    exact ⟨_, rfl, by rw [← HF.out]; exact HO.out.read, HO.out.keep⟩
  ·have hkl : l.take k = l.take 8 := by rw [List.take_of_length_le (by omega), List.take_of_length_le (by omega)]
   have HF : Hid (out = ivsOf l) := by
    unfold ivsOf
    rw [← hkl]
    exact Hout.out.symm
   clear hkl
   go_wp2_with fail
   go_ret
   exact ⟨_, rfl, by rw [← HF.out]; exact HO.out.read, HO.out.keep⟩
end Go.Proofs.YteknldaoegccaaaGreatDoor
set_option maxRecDepth 100000
namespace Go.Proofs.YteknldaoegccaaaGreatDoor
open Go.RowKit
theorem sweep_comb {op : Int} {a b out : List (Iv K)} (h1 : Norm out) (h2 : ∀ x, hasL out x = decV op (hasL a x) (hasL b x)) : out = combK op a b := (combK_eq h1 h2).symm
theorem Union_c (a b : Bool) (w : World) : Calls Tryz.prog 57 #[.bool a, .bool b] w fun e w' => e = .returned (.bool (decV 1 a b)) ∧ Keep [] w w' := by
 cases a <;> cases b
 all_goals
  go_enter Tryz.func57, Tryz.ntmps57
  go_wp2_with fail
  go_ret
  exact ⟨rfl, Keep.refl _ _⟩
theorem Union_p (a b : List (Iv K)) (ha : ∀ i ∈ a, i.f < i.l) (hb : ∀ i ∈ b, i.f < i.l) (w : World) (sv tv : Value) (hr : IvR w sv a) (hs : IvR w tv b) (h9 : a.length ≤ 10000) (h8 : b.length ≤ 10000) :
  Calls Tryz.prog 21 #[sv, tv] w fun e w' => ∃ v, e = .returned v ∧ IvR w' v (combK 1 a b) ∧ Keep [] w w' := by
 have H := Lib.hid (sweep_c (decV 1) 57 (enters_of Tryz.func57 (by kernel_rfl) rfl) (fun x y w => Union_c x y w) (decV_zero 1) a b ha hb w sv tv hr hs h9 h8)
 obtain ⟨ao, ac, rfl, _⟩ := hr.form
 obtain ⟨bo, bc, rfl, _⟩ := hs.form
 clear hr hs ha hb
 go_enter Tryz.func21, Tryz.ntmps21
 go_wp2_with fail
 refine H.out.mono ?_
 rintro e w1 ⟨v, out, rfl, hv, h1, h2, hk⟩
 dsimp only
 have HV := Lib.hid (show IvR w1 v (combK 1 a b) by rw [← sweep_comb h1 h2]; exact hv)
 have HK := Lib.hid hk
 obtain ⟨vo, vc, rfl, _⟩ := hv.form
 clear hv h1 h2 hk
 go_wp2_with fail
 go_ret
 exact ⟨_, rfl, HV.out, HK.out⟩
theorem Intersect_c (a b : Bool) (w : World) : Calls Tryz.prog 60 #[.bool a, .bool b] w fun e w' => e = .returned (.bool (decV 2 a b)) ∧ Keep [] w w' := by
 cases a <;> cases b
 all_goals
  go_enter Tryz.func60, Tryz.ntmps60
  go_wp2_with fail
  go_ret
  exact ⟨rfl, Keep.refl _ _⟩
theorem Intersect_p (a b : List (Iv K)) (ha : ∀ i ∈ a, i.f < i.l) (hb : ∀ i ∈ b, i.f < i.l) (w : World) (sv tv : Value) (hr : IvR w sv a) (hs : IvR w tv b) (h9 : a.length ≤ 10000) (h8 : b.length ≤ 10000) :
  Calls Tryz.prog 23 #[sv, tv] w fun e w' => ∃ v, e = .returned v ∧ IvR w' v (combK 2 a b) ∧ Keep [] w w' := by
 have H := Lib.hid (sweep_c (decV 2) 60 (enters_of Tryz.func60 (by kernel_rfl) rfl) (fun x y w => Intersect_c x y w) (decV_zero 2) a b ha hb w sv tv hr hs h9 h8)
 obtain ⟨ao, ac, rfl, _⟩ := hr.form
 obtain ⟨bo, bc, rfl, _⟩ := hs.form
 clear hr hs ha hb
 go_enter Tryz.func23, Tryz.ntmps23
 go_wp2_with fail
 refine H.out.mono ?_
 rintro e w1 ⟨v, out, rfl, hv, h1, h2, hk⟩
 dsimp only
 have HV := Lib.hid (show IvR w1 v (combK 2 a b) by rw [← sweep_comb h1 h2]; exact hv)
 have HK := Lib.hid hk
 obtain ⟨vo, vc, rfl, _⟩ := hv.form
 clear hv h1 h2 hk
 go_wp2_with fail
 go_ret
 exact ⟨_, rfl, HV.out, HK.out⟩
theorem Minus_c (a b : Bool) (w : World) : Calls Tryz.prog 61 #[.bool a, .bool b] w fun e w' => e = .returned (.bool (decV 3 a b)) ∧ Keep [] w w' := by
 cases a <;> cases b
 all_goals
  go_enter Tryz.func61, Tryz.ntmps61
  go_wp2_with fail
  go_ret
  exact ⟨rfl, Keep.refl _ _⟩
theorem Minus_p (a b : List (Iv K)) (ha : ∀ i ∈ a, i.f < i.l) (hb : ∀ i ∈ b, i.f < i.l) (w : World) (sv tv : Value) (hr : IvR w sv a) (hs : IvR w tv b) (h9 : a.length ≤ 10000) (h8 : b.length ≤ 10000) :
  Calls Tryz.prog 24 #[sv, tv] w fun e w' => ∃ v, e = .returned v ∧ IvR w' v (combK 3 a b) ∧ Keep [] w w' := by
 have H := Lib.hid (sweep_c (decV 3) 61 (enters_of Tryz.func61 (by kernel_rfl) rfl) (fun x y w => Minus_c x y w) (decV_zero 3) a b ha hb w sv tv hr hs h9 h8)
 obtain ⟨ao, ac, rfl, _⟩ := hr.form
 obtain ⟨bo, bc, rfl, _⟩ := hs.form
 clear hr hs ha hb
 go_enter Tryz.func24, Tryz.ntmps24
 go_wp2_with fail
 refine H.out.mono ?_
 rintro e w1 ⟨v, out, rfl, hv, h1, h2, hk⟩
 dsimp only
 have HV := Lib.hid (show IvR w1 v (combK 3 a b) by rw [← sweep_comb h1 h2]; exact hv)
 have HK := Lib.hid hk
 obtain ⟨vo, vc, rfl, _⟩ := hv.form
 clear hv h1 h2 hk
 go_wp2_with fail
 go_ret
 exact ⟨_, rfl, HV.out, HK.out⟩
theorem pnormal_c (a : List (Iv K)) (ha : ∀ i ∈ a, i.f < i.l) (w : World) (sv : Value) (hr : IvR w sv a) (h9 : a.length ≤ 10000) :
  Calls Tryz.prog 15 #[sv] w fun e w' => ∃ v, e = .returned v ∧ IvR w' v (normK a) ∧ Keep [] w w' := by
 have H := Lib.hid (Union_p a [] ha (by simp) w sv (.slice none 0 0) hr (RowE.nil w) h9 (by simp))
 obtain ⟨ao, ac, rfl, _⟩ := hr.form
 clear hr ha
 go_enter Tryz.func15, Tryz.ntmps15
 go_wp2_with fail
 refine H.out.mono ?_
 rintro e w1 ⟨v, rfl, hv, hk⟩
 dsimp only
 have HV := Lib.hid hv
 have HK := Lib.hid hk
 obtain ⟨vo, vc, rfl, _⟩ := hv.form
 clear hv hk
 go_wp2_with fail
 go_ret
 exact ⟨_, rfl, HV.out, HK.out⟩
theorem rcombine_c (op : Int) (hop : op = 1 ∨ op = 2 ∨ op = 3) (a b : List (Iv K)) (w : World) (sv tv : Value) (hr : IvR w sv a) (hs : IvR w tv b) (h9 : a.length ≤ 10000) (h8 : b.length ≤ 10000) :
  Calls Tryz.prog 22 #[.int .i64 op, sv, tv] w fun e w' => ∃ v, e = .returned v ∧ IvR w' v (combK op a b) ∧ Keep [] w w' := combine_c op hop a b w sv tv hr hs h9 h8
theorem rnormal_c (a : List (Iv K)) (w : World) (sv : Value) (hr : IvR w sv a) (h9 : a.length ≤ 10000) :
  Calls Tryz.prog 18 #[sv] w fun e w' => ∃ v, e = .returned v ∧ IvR w' v (normK a) ∧ Keep [] w w' := by
 have H := Lib.hid (rcombine_c 1 (.inl rfl) a [] w sv (.slice none 0 0) hr (RowE.nil w) h9 (by simp))
 obtain ⟨ao, ac, rfl, _⟩ := hr.form
 clear hr
 go_enter Tryz.func18, Tryz.ntmps18
 go_wp2_with fail
 refine H.out.mono ?_
 rintro e w1 ⟨v, rfl, hv, hk⟩
 dsimp only
 have HV := Lib.hid hv
 have HK := Lib.hid hk
 obtain ⟨vo, vc, rfl, _⟩ := hv.form
 clear hv hk
 go_wp2_with fail
 go_ret
 exact ⟨_, rfl, HV.out, HK.out⟩
noncomputable def perOf (l : List SpanA) : List (Iv K) := normK (ivsOf l)
theorem ivsOf_len (l : List SpanA) : (ivsOf l).length ≤ 8 := by unfold ivsOf; rw [List.length_map, List.length_take]; omega
theorem ivsOf_valid (l : List SpanA) : ∀ i ∈ ivsOf l, i.f < i.l := by
 intro i hi
 unfold ivsOf at hi
 obtain ⟨s, _, rfl⟩ := List.mem_map.1 hi
 exact s.valid
theorem perOf_norm (l : List SpanA) : Norm (perOf l) := combK_norm _ _ _
theorem perOf_per (l : List SpanA) : Per (ptsL (ivsOf l)) (perOf l) := combK_per _ (PtsIn.self _) (PtsIn.nil _)
theorem ptsOf_len (l : List SpanA) : (ptsL (ivsOf l)).length ≤ 16 := by rw [ptsL_len]; have := ivsOf_len l; omega
theorem lperiod_c (l : List SpanA) (w : World) (sv : Value) (hr : SpQ w sv l) (h9 : l.length ≤ 9223372036854775807) :
  Calls Tryz.prog 20 #[sv] w fun e w' => ∃ v, e = .returned v ∧ IvR w' v (perOf l) ∧ Keep [] w w' := by
 have H := Lib.hid (intervals_c l w sv hr h9)
 have H2 := Lib.hid (fun w v (h : IvR w v (ivsOf l)) => rnormal_c (ivsOf l) w v h (by have := ivsOf_len l; omega))
 obtain ⟨ao, ac, rfl, _⟩ := hr
 go_enter Tryz.func20, Tryz.ntmps20
 go_wp2_with fail
 refine H.out.mono ?_
 rintro e w1 ⟨v, rfl, hv, hk⟩
 dsimp only
 have HV := Lib.hid hv
 have HK := Lib.hid hk
 obtain ⟨vo, vc, rfl, _⟩ := hv.form
 clear hv hk H
 go_wp2_with fail
 refine (H2.out _ _ HV.out).mono ?_
 rintro e w2 ⟨v, rfl, hv, hk⟩
 dsimp only
 have HV2 := Lib.hid hv
 have HK2 := Lib.hid (HK.out.trans0 hk)
 obtain ⟨vo, vc, rfl, _⟩ := hv.form
 clear hv hk H2 HV HK
 go_wp2_with fail
 go_ret
 exact ⟨_, rfl, HV2.out, HK2.out⟩
end Go.Proofs.YteknldaoegccaaaGreatDoor
set_option maxRecDepth 100000
namespace Go.Proofs.YteknldaoegccaaaGreatDoor
open Go.RowKit
def kQ (q : Rat) (h : FitQ 100000 q) : K := ⟨⟨q, 0, false⟩, ⟨by show (0 : Rat) ≤ 0; grind, fun _ => rfl, fun h => absurd rfl h⟩, h, fit0.mono (by decide)⟩
theorem cmp_frac (a b : Rat) : cmpQ ⟨a, 0, false⟩ ⟨b, 0, false⟩ = sgn (a - b) := by
 have h1 : sg1 (a - b) (Qn.u ⟨a, 0, false⟩) 0 = sgn (a - b) := by
  unfold sg1
  rw [sgn_zero, Int.mul_zero, if_pos (.inl rfl)]
 unfold cmpQ
 dsimp only
 rw [sgn_zero, Int.mul_zero, if_pos (.inl rfl), h1]
theorem kQ_lt {a b : Rat} {ha : FitQ 100000 a} {hb : FitQ 100000 b} : kQ a ha < kQ b hb ↔ a < b := by
 rw [← K.cmp_neg]
 show cmpQ ⟨a, 0, false⟩ ⟨b, 0, false⟩ = -1 ↔ _
 rw [cmp_frac]
 rcases sgn_cases (a - b) with ⟨h, h2⟩ | ⟨h, h2⟩ | ⟨h, h2⟩ <;> rw [h2] <;> constructor <;> intro h3 <;> first | grind | (exact absurd h3 (by decide))
theorem fit_nat1 (n : Nat) (h : n < 256) : FitQ 1 (n : Rat) := by
 refine ⟨?_, ?_⟩
 ·rw [Fit_iff]
  have e : (n : Rat).num = (n : Int) := rfl
  rw [e]
  simpa using h
 ·rw [Fit_iff]
  have e : (n : Rat).den = 1 := rfl
  rw [e]
  decide
theorem fit_nat (n : Nat) (h : n < 256) : FitQ 100000 (n : Rat) := (fit_nat1 n h).mono (by decide)
def kN (n : Nat) (h : n < 256) : K := kQ n (fit_nat n h)
theorem kN_lt {m n : Nat} {hm : m < 256} {hn : n < 256} : kN m hm < kN n hn ↔ m < n := by
 unfold kN
 rw [kQ_lt]
 exact_mod_cast Iff.rfl
theorem divInt_nat (n : Nat) : Rat.divInt (n : Int) 1 = (n : Rat) := by
 exact Rat.num_divInt_den (n : Rat)
theorem real_built (n : Bool) (s d : ByteArray) : Tryz.prog.built 31 [(0, .agg #[.bool n, .string s, .bool false, .string d])] = some #[.bool n, .string s, .bool false, .string d, .bool false, .string ⟨#[]⟩, .bool false, .string ⟨#[]⟩, .bool false] := by kernel_rfl
theorem kQ_C (q : Rat) (h : FitQ 100000 q) : kC (kQ q h) = #[.bool (sgB q.num), .string (mgS q.num), .bool false, .string (dnS q.den), .bool false, .string ⟨#[]⟩, .bool false, .string ⟨#[]⟩, .bool false] := by
 have h1 : sgB (0 : Rat).num = false := by decide
 have h2 : mgS (0 : Rat).num = ⟨#[]⟩ := mg_empty.2 rfl
 have h3 : dnS (0 : Rat).den = ⟨#[]⟩ := by unfold dnS; rfl
 unfold kC kQ kcells
 dsimp only
 rw [h1, h2, h3]
theorem real_built' (q : Rat) (h : FitQ 100000 q) : Tryz.prog.built 31 [(0, rv q)] = some (kC (kQ q h)) := by
 rw [kQ_C]
 exact real_built _ _ _
set_option maxHeartbeats 4000000 in
theorem lwhole_c (n : Nat) (hn : n < 256) (w : World) : Calls Tryz.prog 54 #[.int .i64 (n : Int)] w fun e w' => e = .returned (kv (kN n hn)) ∧ Keep [] w w' := by
 have H := Lib.hid (fun w => rof_c (n : Int) 1 (by decide) (by omega) (by omega) (by decide) (by decide) w)
 rw [divInt_nat] at H
 have HB := Lib.hid (real_built' (n : Rat) (fit_nat n hn))
 have HS : Hid ((kC (kN n hn)).size = 9) := rfl
 have HO := Lib.hid (all_oneCell_toArray (kcells_one (kN n hn).1))
 have HL := Lib.hid (fun w g (h : w.heap[g]? = some (.cells (kC (kN n hn)) 31)) => load_real w g 0 _ (kAt_box h))
 rw [show qv (kN n hn).1 = kv (kN n hn) from rfl] at HL
 rw [show kQ (n : Rat) (fit_nat n hn) = kN n hn from rfl] at HB
 unfold kv at *
 rw [show (kcells (kN n hn).1).toArray = kC (kN n hn) from rfl] at HO
 unfold rv at *
 generalize sgB ((n : Rat)).num = a1 at *
 generalize mgS ((n : Rat)).num = a2 at *
 generalize dnS ((n : Rat)).den = a3 at *
 generalize kC (kN n hn) = C at *
 go_enter Tryz.func54, Tryz.ntmps54
 go_upto_region 1 with (fail)
 obtain ⟨W, ga, hW, ega, bga, hga, hgW, hkW⟩ := al1 w (.cells #[.bool false, .string ⟨#[]⟩, .bool false, .string ⟨#[]⟩, .bool false, .string ⟨#[]⟩, .bool false, .string ⟨#[]⟩, .bool false] 31)
 rw [← hW]
 try rw [ega]
 have Bga := Lib.hid bga
 have HkW := Lib.hid hkW
 clear hW hkW ega bga
 refine wp_region_lit ?_
 refine' wpList_R (v := _) (by rfl) (?hruna) (fun K hK => ?hnexta)
 case hruna => (go_simp; try rfl)
 rotate_left 0
 go_simp
 refine hK _ _ ?_
 clear hK K
 refine wpList_plain (by rfl) (fun K hK => ?_)
 refine wp_enter 70 #[.int .i64 (n : Int), .int .i64 1] (by go_simp) ?_
 refine (H.out _).mono ?_
 rintro e w5 ⟨rfl, hk5⟩
 refine ⟨_, rfl, ?_⟩
 go_simp
 refine hK _ _ ?_
 clear hK K
 have B2ga := Lib.hid (hk5.heap Bga.out (by simp))
 have HkW2 := Lib.hid (HkW.out.trans0 hk5)
 clear HkW hk5 Bga
 have Bga := B2ga
 have HkW := HkW2
 clear HkW2 B2ga
 refine wpList_R (v := .agg C) (by rfl) (exec_build _ #[(0, .tmp 4)] #[(0, .agg #[.bool a1, .string a2, .bool false, .string a3])] _ rfl (by simp only [List.map_toArray, List.map_cons, List.map_nil]; rfl) HB.out) (fun K hK => ?_)
 go_simp
 refine hK _ _ ?_
 clear hK K
 refine wpList_rowK (by rfl) _ _ _ rfl ga C rfl rfl _ _ Bga.out (by rw [HS.out]; exact k_size) (by rw [HS.out]; rfl) HO.out (fun K hK => ?_)
 obtain ⟨W4, e4, b4, k4⟩ := setRow_at (cs := C) Bga.out
 rw [e4]
 go_simp
 refine hK _ _ ?_
 clear hK K
 have Hb4 := Lib.hid b4
 have HkZ := Lib.hid (HkW.out.trans k4 (by simp; omega))
 clear b4 k4 e4
 go_wp2_with fail
 refine bodyPost_ret (v := .agg C) ?_ rfl ⟨rfl, HkZ.out⟩
 rw [results_cell1 rfl]
 exact HL.out _ _ Hb4.out
end Go.Proofs.YteknldaoegccaaaGreatDoor
set_option maxRecDepth 100000
namespace Go.Proofs.YteknldaoegccaaaGreatDoor
open Go.RowKit
theorem eqR_dec (x y : Qn) : ((((sgB x.p.num == sgB y.p.num) && decide (mgS x.p.num = mgS y.p.num)) && ((false == false) && decide (dnS x.p.den = dnS y.p.den))) && ((((sgB x.r.num == sgB y.r.num) && decide (mgS x.r.num = mgS y.r.num)) && ((false == false) && decide (dnS x.r.den = dnS y.r.den))) && (x.neg == y.neg))) = (decide (x.p = y.p) && (decide (x.r = y.r) && (x.neg == y.neg))) := by
 rw [eqQ_dec, eqQ_dec]
theorem Qn.eq_dec (x y : Qn) : (decide (x.p = y.p) && (decide (x.r = y.r) && (x.neg == y.neg))) = true ↔ x = y := by
 obtain ⟨p, r, n⟩ := x
 obtain ⟨p', r', n'⟩ := y
 simp
theorem K.ext_iff {x y : K} : x = y ↔ x.1 = y.1 := Subtype.ext_iff
open Classical in
theorem eqI_dec (i j : Iv K) : ((decide (i.f.pt.1.p = j.f.pt.1.p) && (decide (i.f.pt.1.r = j.f.pt.1.r) && (i.f.pt.1.neg == j.f.pt.1.neg))) && ((decide (i.l.pt.1.p = j.l.pt.1.p) && (decide (i.l.pt.1.r = j.l.pt.1.r) && (i.l.pt.1.neg == j.l.pt.1.neg))) && ((i.f.beh == j.f.beh) && ((!i.l.beh) == (!j.l.beh))))) = decide (i = j) := by
 rw [Bool.eq_iff_iff, decide_eq_true_iff, Bool.and_eq_true, Qn.eq_dec, Bool.and_eq_true, Qn.eq_dec, ← K.ext_iff, ← K.ext_iff]
 obtain ⟨⟨a, b⟩, ⟨c, d⟩⟩ := i
 obtain ⟨⟨a', b'⟩, ⟨c', d'⟩⟩ := j
 simp
 constructor
 ·rintro ⟨rfl, rfl, rfl, h⟩
  exact ⟨⟨rfl, rfl⟩, rfl, h⟩
 ·rintro ⟨⟨rfl, rfl⟩, rfl, h⟩
  exact ⟨rfl, rfl, rfl, h⟩
open Classical
theorem eqI_in (d : Nat) (x0 x1 x2 x3 x4 x5 x6 x7 x8 y0 y1 y2 y3 y4 y5 y6 y7 y8 u0 u1 u2 u3 u4 u5 u6 u7 u8 v0 v1 v2 v3 v4 v5 v6 v7 v8 : Value) (o1 c1 o2 c2 k1 k2 : Bool)
  (e1 : ∀ w, (Op.equalIn (d + 4) 31 (.agg #[x0, x1, x2, x3, x4, x5, x6, x7, x8]) (.agg #[u0, u1, u2, u3, u4, u5, u6, u7, u8])).run Tryz.prog w = .ok k1 w) (e2 : ∀ w, (Op.equalIn (d + 4) 31 (.agg #[y0, y1, y2, y3, y4, y5, y6, y7, y8]) (.agg #[v0, v1, v2, v3, v4, v5, v6, v7, v8])).run Tryz.prog w = .ok k2 w) (w : World) :
  (Op.equalIn (d + 5) 33 (.agg #[x0, x1, x2, x3, x4, x5, x6, x7, x8, y0, y1, y2, y3, y4, y5, y6, y7, y8, .bool o1, .bool c1]) (.agg #[u0, u1, u2, u3, u4, u5, u6, u7, u8, v0, v1, v2, v3, v4, v5, v6, v7, v8, .bool o2, .bool c2])).run Tryz.prog w = .ok (k1 && (k2 && ((o1 == o2) && (c1 == c2)))) w := by
 have u3 := Tryz.underlying31
 have a3 := Tryz.isAgg31
 have z3 := Tryz.sizeOf31
 have u4 := Tryz.underlying4
 have aa4 := Tryz.isAgg4
 have z4 := Tryz.sizeOf4
 have hS : Tryz.prog.underlying 33 = some (.struct (Tryz.prog.fieldsOf 33)) := by kernel_rfl
 have hp : Tryz.prog.stoodInHeld 33 = false := by kernel_rfl
 rw [run_equalIn_agg w (d + 4) 33 _ _ hS hp]
 simp only [Program.fieldsOf, Tryz.underlying33]
 go_simp
 cases k1 <;> cases k2 <;> cases o1 <;> cases o2 <;> cases c1 <;> cases c2 <;> simp
theorem eqI_g : Tryz.prog.eqGuardType Tryz.prog.depth 33 = false := by kernel_rfl
theorem eqI_at (i j : Iv K) (w : World) : (Op.equalIn 10000 33 (iv i) (iv j)).run Tryz.prog w = .ok (decide (i = j)) w := by
 rw [iv_cells, iv_cells, show (10000 : Nat) = 9995 + 5 from rfl, eqI_in 9995 _ _ _ _ _ _ _ _ _ _ _ _ _ _ _ _ _ _ _ _ _ _ _ _ _ _ _ _ _ _ _ _ _ _ _ _ _ _ _ _ _ _ (fun w => eqR_in 9995 _ _ _ _ _ _ _ _ _ _ _ _ _ _ _ _ _ _ w) (fun w => eqR_in 9995 _ _ _ _ _ _ _ _ _ _ _ _ _ _ _ _ _ _ w), eqR_dec, eqR_dec, eqI_dec]
theorem neqI_run (i j : Iv K) (w : World) : (binOp .neq 33 (iv i) (iv j)).run Tryz.prog w = .ok (.bool (!decide (i = j))) w := by
 have h := eqI_at i j w
 unfold iv at *
 rw [run_neq_struct, h]; rfl
theorem eqlI_run (i j : Iv K) (w : World) : (binOp .eql 33 (iv i) (iv j)).run Tryz.prog w = .ok (.bool (decide (i = j))) w := by
 have h := eqI_at i j w
 unfold iv at *
 rw [run_eql_struct, h]; rfl
end Go.Proofs.YteknldaoegccaaaGreatDoor
set_option maxRecDepth 100000
namespace Go.Proofs.YteknldaoegccaaaGreatDoor
open Go.RowKit
open Classical
theorem quiet_bin {C : World → Prop} {o : Oper} {a : Act} {K : Act → Prop} (op : BinOp) (t : TypeId) (x y : Operand) (s : TypeId) (cx cy : Array Value) (v : Value) (ho : o.op = .binOp op t x y s) (hx : a.eval x = .agg cx) (hy : a.eval y = .agg cy) (hg : Tryz.prog.eqGuardType Tryz.prog.depth t = false)
  (h : ∀ w, (binOp op t (.agg cx) (.agg cy)).run Tryz.prog w = .ok v w) (hk : K (a.put o.dst v)) : o.quiet Tryz.prog a C K :=
 ⟨v, fun w hw => by
  unfold Oper.quietAt execOp
  simp only [ho, hx, hy, Sem.run_bind, run_eqGuard_agg (hm := hg), Result.andThen_ok, h w, Sem.run_pure]
  exact ⟨rfl, rfl⟩, hk⟩
set_option maxHeartbeats 8000000 in
theorem equal_c (l m : List (Iv K)) (w : World) (sv tv : Value) (hr : IvR w sv l) (hs : IvR w tv m) (h9 : l.length ≤ 1000000000) (h8 : m.length ≤ 1000000000) :
  Calls Tryz.prog 17 #[sv, tv] w fun e w' => e = .returned (.bool (decide (l = m))) ∧ Keep [] w w' := by
 have HR := Lib.hid hr
 have HS := Lib.hid hs
 obtain ⟨ao, ac, rfl, _⟩ := hr.form
 obtain ⟨bo, bc, rfl, _⟩ := hs.form
 clear hr hs
 by_cases hlen : l.length = m.length
 ·have hne : ((l.length : Int) != (m.length : Int)) = false := by rw [hlen]; simp
  have Hlen := Lib.hid hlen
  clear hlen
  go_enter Tryz.func17, Tryz.ntmps17
  go_wp2_with fail
  go_loopw [5] (fun c wr => ∃ k : Nat, k ≤ l.length ∧ c = .int .i64 (k : Int) ∧ l.take k = m.take k ∧ Keep [] w wr) (fun c _ => l.length - (intOf c).toNat)
  case atStart => exact ⟨0, Nat.zero_le _, rfl, rfl, Keep.refl _ _⟩
  case round =>
   obtain ⟨k, hk, rfl, heq, hkeep⟩ := hrel
   have Heq := Lib.hid heq
   have HKr := Lib.hid hkeep
   clear heq hkeep
   by_cases hlt : k < l.length
   ·have hlt2 : k < m.length := by rw [← Hlen.out]; exact hlt
    obtain ⟨g, o, rfl, hg, hat⟩ := IvR.elem (HR.out.later HKr.out) k hlt
    obtain ⟨g2, o2, rfl, hg2, hat2⟩ := IvR.elem (HS.out.later HKr.out) k hlt2
    obtain ⟨i, hi⟩ : ∃ i, l[k] = i := ⟨_, rfl⟩
    obtain ⟨j, hj⟩ : ∃ j, m[k] = j := ⟨_, rfl⟩
    have Hi := Lib.hid hi
    have Hj := Lib.hid hj
    rw [hi] at hat
    rw [hj] at hat2
    clear hi hj
    obtain ⟨p, hp⟩ : ∃ p, o + k * 20 = p := ⟨_, rfl⟩
    obtain ⟨q, hq⟩ : ∃ q, o2 + k * 20 = q := ⟨_, rfl⟩
    rw [hp] at hat
    rw [hq] at hat2
    have HLa := Lib.hid (hat.ld hg)
    have HLb := Lib.hid (hat2.ld hg2)
    have HN := Lib.hid (neqI_run i j)
    clear hat hat2
    unfold iv at *
    generalize iC i = I at *
    generalize iC j = J at *
    by_cases hij : i = j
    ·rw [decide_eq_true hij] at HN
     have Hij := Lib.hid hij
     clear hij
     go_wp2_with fail
     refine wp_region_keep (by kernel_rfl) (by kernel_rfl) ?_
     repeat (first
      | go_big_quiet_skip
      | (go_big_quiet_want; first
       | (refine quiet_load _ _ _ (.agg I) rfl rfl (by rintro _ ⟨m, rfl⟩; exact HLa.out m) ?_; go_simp; go_big_quiet_on) | (refine quiet_load _ _ _ (.agg J) rfl rfl (by rintro _ ⟨m, rfl⟩; exact HLb.out m) ?_; go_simp; go_big_quiet_on) | (refine quiet_bin _ _ _ _ _ _ _ (_) rfl rfl rfl eqI_g (by intro w; exact HN.out w) ?_; go_simp; go_big_quiet_on)
       | (go_big_quiet_op; first | go_big_quiet_on | go_big_quiet_call (first
        | fail))))
     refine wpQuiet_nil ?_
     rintro w1 ⟨⟨_, hk_w1⟩, rfl⟩
     clear HLa HLb HN
     have Hk1 := Lib.hid hk_w1
     clear hk_w1
     go_wp2_with fail
     go_roundw
     case rel => exact ⟨k + 1, by omega, congrArg (Value.int .i64) (by omega), by rw [List.take_succ_eq_append_getElem hlt, List.take_succ_eq_append_getElem hlt2, Heq.out, Hi.out, Hj.out, Hij.out], HKr.out.trans0 Hk1.out⟩
     case measure => simp [intOf]; omega
    ·rw [decide_eq_false hij] at HN
     have Hij := Lib.hid hij
     clear hij
     go_wp2_with fail
     refine wp_region_keep (by kernel_rfl) (by kernel_rfl) ?_
     repeat (first
      | go_big_quiet_skip
      | (go_big_quiet_want; first
       | (refine quiet_load _ _ _ (.agg I) rfl rfl (by rintro _ ⟨m, rfl⟩; exact HLa.out m) ?_; go_simp; go_big_quiet_on) | (refine quiet_load _ _ _ (.agg J) rfl rfl (by rintro _ ⟨m, rfl⟩; exact HLb.out m) ?_; go_simp; go_big_quiet_on) | (refine quiet_bin _ _ _ _ _ _ _ (_) rfl rfl rfl eqI_g (by intro w; exact HN.out w) ?_; go_simp; go_big_quiet_on)
       | (go_big_quiet_op; first | go_big_quiet_on | go_big_quiet_call (first
        | fail))))
     refine wpQuiet_nil ?_
     rintro w1 ⟨⟨_, hk_w1⟩, rfl⟩
     clear HLa HLb HN
     have Hk1 := Lib.hid hk_w1
     clear hk_w1
     go_wp2_with fail
     go_ret
     have hno : l ≠ m := fun e => Hij.out (by rw [← Hi.out, ← Hj.out]; simp only [e])
     exact ⟨by rw [decide_eq_false hno]; rfl, HKr.out.trans0 Hk1.out⟩
   ·obtain rfl : k = l.length := by omega
    go_wp2_with fail
    go_ret
    have he : l = m := by
     have := Heq.out
     rw [List.take_length, Hlen.out, List.take_length] at this
     exact this
    exact ⟨by rw [decide_eq_true he]; rfl, HKr.out⟩
 ·have hne : ((l.length : Int) != (m.length : Int)) = true := by rw [bne_iff_ne]; omega
  have hno : l ≠ m := fun e => hlen (by rw [e])
  rw [decide_eq_false hno]
  clear hno hlen
  go_enter Tryz.func17, Tryz.ntmps17
  go_wp2_with fail
  go_ret
  exact ⟨rfl, Keep.refl _ _⟩
end Go.Proofs.YteknldaoegccaaaGreatDoor
