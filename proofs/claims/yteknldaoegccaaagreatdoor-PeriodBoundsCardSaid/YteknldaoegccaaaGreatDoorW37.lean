/- Parts of a proof about this translation: Ug, Uh, Ui, Uj, Vf, Vb, Vk. -/
import Derived.IntWalk
import Derived.Test.YteknldaoegccaaaGreatDoorW36
import Derived.Test.YteknldaoegccaaaGreatDoorW24
import Derived.Test.YteknldaoegccaaaGreatDoorW29
set_option linter.unusedVariables false
set_option linter.unusedSimpArgs false
set_option maxRecDepth 100000
namespace Go.Proofs.YteknldaoegccaaaGreatDoor
open Go.RowKit
open Classical
structure RawR where
 a1 : Bool
 a2 : ByteArray
 a3 : Bool
 a4 : ByteArray
 b1 : Bool
 b2 : ByteArray
 b3 : Bool
 b4 : ByteArray
 n : Bool
def RawR.cells (x : RawR) : List Value := [.bool x.a1, .string x.a2, .bool x.a3, .string x.a4, .bool x.b1, .string x.b2, .bool x.b3, .string x.b4, .bool x.n]
def RawR.v (x : RawR) : Value := .agg #[.bool x.a1, .string x.a2, .bool x.a3, .string x.a4, .bool x.b1, .string x.b2, .bool x.b3, .string x.b4, .bool x.n]
def RawR.of (x : Qn) : RawR := ⟨sgB x.p.num, mgS x.p.num, false, dnS x.p.den, sgB x.r.num, mgS x.r.num, false, dnS x.r.den, x.neg⟩
def RawR.sz (x : RawR) (k : Nat) : Prop := x.a2.size ≤ k ∧ x.a4.size ≤ k ∧ x.b2.size ≤ k ∧ x.b4.size ≤ k
end Go.Proofs.YteknldaoegccaaaGreatDoor
set_option maxRecDepth 100000
namespace Go.Proofs.YteknldaoegccaaaGreatDoor
open Go.RowKit
open Classical
def MI (w0 w : World) (L : List (Value × List (Iv K))) : Prop := Keep [] w0 w ∧ ∀ p ∈ L, IvR w p.1 p.2
theorem MI.start (w : World) : MI w w [] := ⟨Keep.refl _ _, by simp⟩
theorem MI.add {w0 w w' : World} {L : List (Value × List (Iv K))} (h : MI w0 w L) {v : Value} {l : List (Iv K)} (hk : Keep [] w w') (hv : IvR w' v l) : MI w0 w' ((v, l) :: L) :=
 ⟨h.1.trans0 hk, fun p hp => by
  rcases List.mem_cons.1 hp with rfl | hp
  ·exact hv
  ·exact (h.2 p hp).later hk⟩
theorem MI.move {w0 w w' : World} {L : List (Value × List (Iv K))} (h : MI w0 w L) (hk : Keep [] w w') : MI w0 w' L := ⟨h.1.trans0 hk, fun p hp => (h.2 p hp).later hk⟩
theorem MI.get {w0 w : World} {L : List (Value × List (Iv K))} (h : MI w0 w L) (v : Value) (l : List (Iv K)) (hm : (v, l) ∈ L) : IvR w v l := h.2 (v, l) hm
theorem equal_t {l m : List (Iv K)} (he : l = m) (w : World) (sv tv : Value) (hr : IvR w sv l) (hs : IvR w tv m) (h9 : l.length ≤ 1000000000) :
  Calls Tryz.prog 17 #[sv, tv] w fun e w' => e = .returned (.bool true) ∧ Keep [] w w' := by
 have := equal_c l m w sv tv hr hs h9 (by rw [← he]; exact h9)
 rw [decide_eq_true he] at this
 exact this
set_option maxHeartbeats 4000000 in
theorem pinstant_c (x : K) (w : World) : Calls Tryz.prog 49 #[kv x] w fun e w' => ∃ v, e = .returned v ∧ IvR w' v [⟨⟨x, false⟩, ⟨x, true⟩⟩] ∧ Keep [] w w' := by
 have HB := Lib.hid (iv_b01 x x)
 show Calls Tryz.prog 49 #[.agg (kC x)] w _
 go_enter Tryz.func49, Tryz.ntmps49
 go_upto_region 1 with (fail)
 obtain ⟨W, ga, hW, ega, bga, hga, hgW, hkW⟩ := al1 w (.cells (kC x) 31)
 rw [← hW]
 try rw [ega]
 have Bga := Lib.hid bga
 have HkW := Lib.hid hkW
 clear hW hkW ega bga
 refine wp_region_lit ?_
 refine wpList_R (v := kv x) (by rfl) (exec_load _ _ ⟨ga, 0, none⟩ _ rfl rfl (load_real _ _ _ _ (kAt_box Bga.out))) (fun K hK => ?_)
 go_simp
 refine hK _ _ ?_
 clear hK K
 refine wpList_R (v := kv x) (by rfl) (exec_load _ _ ⟨ga, 0, none⟩ _ rfl rfl (load_real _ _ _ _ (kAt_box Bga.out))) (fun K hK => ?_)
 go_simp
 refine hK _ _ ?_
 clear hK K
 refine wpList_R (v := iv ⟨⟨x, false⟩, ⟨x, true⟩⟩) (by rfl) (exec_build _ #[(0, .tmp 3), (1, .tmp 4)] #[(0, kv x), (1, kv x)] _ rfl (by simp only [List.map_toArray, List.map_cons, List.map_nil]; rfl) HB.out) (fun K hK => ?_)
 go_simp
 refine hK _ _ ?_
 clear hK K
 obtain ⟨ub, gy, e3, e4, hz1, hkx, hx⟩ := IvR.single ⟨⟨x, false⟩, ⟨x, true⟩⟩ W
 refine wpList_K (v := .slice (some ⟨W.heap.size, 0, none⟩) 1 1) (by rfl) (exec_bs 23 1 #[(0, .tmp 5)] #[(0, iv ⟨⟨x, false⟩, ⟨x, true⟩⟩)] _ rfl (by simp only [List.map_toArray, List.map_cons, List.map_nil]; rfl) (build1_i _ _)) (fun K hK => ?_)
 rw [e3, e4]
 clear e3
 go_simp
 refine hK _ _ ?_
 clear hK K
 have Hx := Lib.hid hx
 have Hk := Lib.hid (HkW.out.trans0 hkx)
 clear hx hkx
 go_wp2_with fail
 go_ret
 exact ⟨_, rfl, Hx.out, Hk.out⟩
end Go.Proofs.YteknldaoegccaaaGreatDoor
set_option maxRecDepth 100000
namespace Go.Proofs.YteknldaoegccaaaGreatDoor
open Go.RowKit
open Classical
theorem iv_b013r (f1 f4 f7 t1 t4 t7 : Bool) (f2 f3 f5 f6 t2 t3 t5 t6 : ByteArray) : Tryz.prog.built 33 [(0, .agg #[.bool f1, .string f2, .bool false, .string f3, .bool f4, .string f5, .bool false, .string f6, .bool f7]), (1, .agg #[.bool t1, .string t2, .bool false, .string t3, .bool t4, .string t5, .bool false, .string t6, .bool t7]), (3, .bool true)] = some #[.bool f1, .string f2, .bool false, .string f3, .bool f4, .string f5, .bool false, .string f6, .bool f7, .bool t1, .string t2, .bool false, .string t3, .bool t4, .string t5, .bool false, .string t6, .bool t7, .bool false, .bool true] := by kernel_rfl
theorem iv_b013 (x y : K) : Tryz.prog.built 33 [(0, kv x), (1, kv y), (3, .bool true)] = some (iC ⟨⟨x, false⟩, ⟨y, false⟩⟩) := iv_b013r _ _ _ _ _ _ _ _ _ _ _ _ _ _
theorem iv_b012r (f1 f4 f7 t1 t4 t7 : Bool) (f2 f3 f5 f6 t2 t3 t5 t6 : ByteArray) : Tryz.prog.built 33 [(0, .agg #[.bool f1, .string f2, .bool false, .string f3, .bool f4, .string f5, .bool false, .string f6, .bool f7]), (1, .agg #[.bool t1, .string t2, .bool false, .string t3, .bool t4, .string t5, .bool false, .string t6, .bool t7]), (2, .bool true)] = some #[.bool f1, .string f2, .bool false, .string f3, .bool f4, .string f5, .bool false, .string f6, .bool f7, .bool t1, .string t2, .bool false, .string t3, .bool t4, .string t5, .bool false, .string t6, .bool t7, .bool true, .bool false] := by kernel_rfl
theorem iv_b012 (x y : K) : Tryz.prog.built 33 [(0, kv x), (1, kv y), (2, .bool true)] = some (iC ⟨⟨x, true⟩, ⟨y, true⟩⟩) := iv_b012r _ _ _ _ _ _ _ _ _ _ _ _ _ _
theorem eqT_run (i : Iv K) (w : World) : (binOp .eql 33 (iv i) (iv i)).run Tryz.prog w = .ok (.bool true) w := by rw [eqlI_run]; simp
theorem one_has (i : Iv K) (x : Bd K) : hasL [i] x = i.has x := by rw [hasL_cons, hasL_nil, Bool.or_false]
theorem known_u {k0 k2 k3 : K} (h1 : k0 < k2) (h2 : k2 < k3) : combK 1 [⟨⟨k0, false⟩, ⟨k2, false⟩⟩] [⟨⟨k2, false⟩, ⟨k3, true⟩⟩] = [⟨⟨k0, false⟩, ⟨k3, true⟩⟩] := by
 refine combK_eq ?_ (fun x => ?_)
 ·refine ⟨?_, trivial⟩
  rw [Bd.lt_def]; exact .inl (by dsimp only; grind)
 ·rw [one_has, one_has, one_has]
  unfold decV
  rw [if_pos rfl, Bool.eq_iff_iff, Bool.or_eq_true, Iv.has_iff, Iv.has_iff, Iv.has_iff]
  have a1 : (⟨k0, false⟩ : Bd K) < ⟨k2, false⟩ := Bd.lt_def.2 (.inl h1)
  have a2 : (⟨k2, false⟩ : Bd K) < ⟨k3, true⟩ := Bd.lt_def.2 (.inl h2)
  dsimp only
  grind
theorem known_m {k0 k1 k3 : K} (h1 : k0 < k1) (h2 : k1 < k3) : combK 3 [⟨⟨k0, false⟩, ⟨k3, true⟩⟩] [⟨⟨k1, false⟩, ⟨k1, true⟩⟩] = [⟨⟨k0, false⟩, ⟨k1, false⟩⟩, ⟨⟨k1, true⟩, ⟨k3, true⟩⟩] := by
 have a1 : (⟨k0, false⟩ : Bd K) < ⟨k1, false⟩ := Bd.lt_def.2 (.inl h1)
 have a2 : (⟨k1, false⟩ : Bd K) < ⟨k1, true⟩ := Bd.lt_def.2 (.inr ⟨rfl, rfl, rfl⟩)
 have a3 : (⟨k1, true⟩ : Bd K) < ⟨k3, true⟩ := Bd.lt_def.2 (.inl h2)
 refine combK_eq ?_ (fun x => ?_)
 ·exact ⟨a1, a2, a3, trivial⟩
 ·rw [one_has, one_has, hasL_cons, one_has]
  unfold decV
  rw [if_neg (by decide), if_neg (by decide), Bool.eq_iff_iff, Bool.or_eq_true, Bool.and_eq_true, Bool.not_eq_true', ← Bool.not_eq_true, Iv.has_iff, Iv.has_iff, Iv.has_iff, Iv.has_iff]
  dsimp only
  grind
set_option maxHeartbeats 8000000 in
theorem known_c0 (k0 k1 k2 k3 : K) (h1 : k0 < k1) (h2 : k1 < k2) (h3 : k2 < k3) (c0 : ∀ w, Calls Tryz.prog 54 #[.int .i64 0] w fun e w' => e = .returned (kv k0) ∧ Keep [] w w') (c1 : ∀ w, Calls Tryz.prog 54 #[.int .i64 1] w fun e w' => e = .returned (kv k1) ∧ Keep [] w w')
  (c2 : ∀ w, Calls Tryz.prog 54 #[.int .i64 2] w fun e w' => e = .returned (kv k2) ∧ Keep [] w w') (c3 : ∀ w, Calls Tryz.prog 54 #[.int .i64 3] w fun e w' => e = .returned (kv k3) ∧ Keep [] w w') (w : World) :
  Calls Tryz.prog 16 #[] w fun e w' => e = .returned (.bool true) ∧ Keep [] w w' := by
 have C0 := Lib.hid c0
 have C1 := Lib.hid c1
 have C2 := Lib.hid c2
 have C3 := Lib.hid c3
 have hv1 : (⟨⟨k0, false⟩, ⟨k2, false⟩⟩ : Iv K).f < (⟨⟨k0, false⟩, ⟨k2, false⟩⟩ : Iv K).l := Bd.lt_def.2 (.inl (by dsimp only; grind))
 have hv2 : (⟨⟨k2, false⟩, ⟨k3, true⟩⟩ : Iv K).f < (⟨⟨k2, false⟩, ⟨k3, true⟩⟩ : Iv K).l := Bd.lt_def.2 (.inl (by dsimp only; grind))
 have hv3 : (⟨⟨k0, false⟩, ⟨k3, true⟩⟩ : Iv K).f < (⟨⟨k0, false⟩, ⟨k3, true⟩⟩ : Iv K).l := Bd.lt_def.2 (.inl (by dsimp only; grind))
 have hv4 : (⟨⟨k1, false⟩, ⟨k1, true⟩⟩ : Iv K).f < (⟨⟨k1, false⟩, ⟨k1, true⟩⟩ : Iv K).l := Bd.lt_def.2 (.inr ⟨rfl, rfl, rfl⟩)
 have HU := Lib.hid (fun w sv tv hr hs => Union_p [⟨⟨k0, false⟩, ⟨k2, false⟩⟩] [⟨⟨k2, false⟩, ⟨k3, true⟩⟩] (fun i hi => by simp at hi; subst hi; exact hv1) (fun i hi => by simp at hi; subst hi; exact hv2) w sv tv hr hs (by simp) (by simp))
 have HM := Lib.hid (fun w sv tv hr hs => Minus_p [⟨⟨k0, false⟩, ⟨k3, true⟩⟩] [⟨⟨k1, false⟩, ⟨k1, true⟩⟩] (fun i hi => by simp at hi; subst hi; exact hv3) (fun i hi => by simp at hi; subst hi; exact hv4) w sv tv hr hs (by simp) (by simp))
 rw [known_u (by grind) h3] at HU
 rw [known_m h1 (by grind)] at HM
 have HI := Lib.hid (pinstant_c k1)
 clear c0 c1 c2 c3 h1 h2 h3 hv1 hv2 hv3 hv4
 go_enter Tryz.func16, Tryz.ntmps16
 go_upto_region 1 with (fail)
 refine wp_region_lit ?_
 refine wpList_plain (by rfl) (fun K hK => ?_)
 refine wp_enter 54 #[.int .i64 0] (by go_simp) ?_
 refine (C0.out _).mono ?_
 rintro e w1 ⟨rfl, hk_w1⟩
 refine ⟨_, rfl, ?_⟩
 go_simp
 refine hK _ _ ?_
 clear hK K
 refine wpList_plain (by rfl) (fun K hK => ?_)
 refine wp_enter 54 #[.int .i64 2] (by go_simp) ?_
 refine (C2.out _).mono ?_
 rintro e w2 ⟨rfl, hk_w2⟩
 refine ⟨_, rfl, ?_⟩
 go_simp
 refine hK _ _ ?_
 clear hK K
 refine wpList_R (v := iv ⟨⟨k0, false⟩, ⟨k2, false⟩⟩) (by rfl) (exec_build _ #[(0, .tmp 5), (1, .tmp 6), (3, .const (.bool true))] #[(0, kv k0), (1, kv k2), (3, .bool true)] _ rfl (by simp only [List.map_toArray, List.map_cons, List.map_nil]; rfl) (iv_b013 k0 k2)) (fun K hK => ?_)
 go_simp
 refine hK _ _ ?_
 clear hK K
 obtain ⟨w3, ga, e3, e4, _, hk3, hx3⟩ := IvR.single ⟨⟨k0, false⟩, ⟨k2, false⟩⟩ w2
 refine wpList_K (v := .slice (some ⟨(w2).heap.size, 0, none⟩) 1 1) (by rfl) (exec_bs 23 1 #[(0, .tmp 7)] #[(0, iv ⟨⟨k0, false⟩, ⟨k2, false⟩⟩)] _ rfl (by simp only [List.map_toArray, List.map_cons, List.map_nil]; rfl) (build1_i _ _)) (fun K hK => ?_)
 rw [e3, e4]
 clear e3 e4
 go_simp
 refine hK _ _ ?_
 clear hK K
 have HMI := Lib.hid ((MI.start w).add ((hk_w1.trans0 hk_w2).trans0 hk3) hx3)
 clear hk_w1 hk_w2 hk3 hx3
 go_upto_region 2 with (fail)
 refine wp_region_lit ?_
 refine wpList_plain (by rfl) (fun K hK => ?_)
 refine wp_enter 54 #[.int .i64 2] (by go_simp) ?_
 refine (C2.out _).mono ?_
 rintro e w4 ⟨rfl, hk_w4⟩
 refine ⟨_, rfl, ?_⟩
 go_simp
 refine hK _ _ ?_
 clear hK K
 refine wpList_plain (by rfl) (fun K hK => ?_)
 refine wp_enter 54 #[.int .i64 3] (by go_simp) ?_
 refine (C3.out _).mono ?_
 rintro e w5 ⟨rfl, hk_w5⟩
 refine ⟨_, rfl, ?_⟩
 go_simp
 refine hK _ _ ?_
 clear hK K
 refine wpList_R (v := iv ⟨⟨k2, false⟩, ⟨k3, true⟩⟩) (by rfl) (exec_build _ #[(0, .tmp 9), (1, .tmp 10)] #[(0, kv k2), (1, kv k3)] _ rfl (by simp only [List.map_toArray, List.map_cons, List.map_nil]; rfl) (iv_b01 k2 k3)) (fun K hK => ?_)
 go_simp
 refine hK _ _ ?_
 clear hK K
 obtain ⟨w6, gb, e3, e4, _, hk6, hx6⟩ := IvR.single ⟨⟨k2, false⟩, ⟨k3, true⟩⟩ w5
 refine wpList_K (v := .slice (some ⟨(w5).heap.size, 0, none⟩) 1 1) (by rfl) (exec_bs 23 1 #[(0, .tmp 11)] #[(0, iv ⟨⟨k2, false⟩, ⟨k3, true⟩⟩)] _ rfl (by simp only [List.map_toArray, List.map_cons, List.map_nil]; rfl) (build1_i _ _)) (fun K hK => ?_)
 rw [e3, e4]
 clear e3 e4
 go_simp
 refine hK _ _ ?_
 clear hK K
 have HMI := Lib.hid (HMI.out.add ((hk_w4.trans0 hk_w5).trans0 hk6) hx6)
 clear hk_w4 hk_w5 hk6 hx6
 go_wp2_with fail
 refine (HU.out _ _ _ (HMI.out.get _ _ (by simp)) (HMI.out.get _ _ (by simp))).mono ?_
 rintro e w7 ⟨v7, rfl, hv7, hk7⟩
 dsimp only
 have HMI := Lib.hid (HMI.out.add hk7 hv7)
 obtain ⟨ou, cu, rfl, _⟩ := hv7.form
 clear hv7 hk7
 go_upto_region 4 with (fail)
 refine wp_region_lit ?_
 refine' wpList_R (v := _) (by rfl) (?hruna) (fun K hK => ?hnexta)
 case hruna => (go_simp; try rfl)
 rotate_left 0
 go_simp
 refine hK _ _ ?_
 clear hK K
 refine wpList_plain (by rfl) (fun K hK => ?_)
 refine wp_enter 54 #[.int .i64 1] (by go_simp) ?_
 refine (C1.out _).mono ?_
 rintro e w8 ⟨rfl, hk_w8⟩
 refine ⟨_, rfl, ?_⟩
 go_simp
 refine hK _ _ ?_
 clear hK K
 refine wpList_plain (by rfl) (fun K hK => ?_)
 refine wp_enter 49 #[kv k1] (by go_simp) ?_
 refine (HI.out _).mono ?_
 rintro e w9 ⟨v9, rfl, hv9, hk9⟩
 refine ⟨_, rfl, ?_⟩
 go_simp
 refine hK _ _ ?_
 clear hK K
 have HMI := Lib.hid (HMI.out.add (hk_w8.trans0 hk9) hv9)
 clear hk_w8 hk9 hv9
 refine wpList_plain (by rfl) (fun K hK => ?_)
 refine wp_enter 24 #[.slice ou 1 cu, v9] (by go_simp) ?_
 refine (HM.out _ _ _ (HMI.out.get _ _ (by simp)) (HMI.out.get v9 _ (by simp))).mono ?_
 rintro e w10 ⟨v10, rfl, hv10, hk10⟩
 refine ⟨_, rfl, ?_⟩
 go_simp
 refine hK _ _ ?_
 clear hK K
 have HMI := Lib.hid (HMI.out.add hk10 hv10)
 obtain ⟨om, cm, rfl, _⟩ := hv10.form
 clear hv10 hk10 HU HM HI
 obtain ⟨gu, pu, rfl, hgu, hatu⟩ := IvR.elem (HMI.out.get (.slice ou 1 cu) [⟨⟨k0, false⟩, ⟨k3, true⟩⟩] (by simp)) 0 (by simp)
 obtain ⟨gm, pm, rfl, hgm, hat0⟩ := IvR.elem (HMI.out.get (.slice om 2 cm) [⟨⟨k0, false⟩, ⟨k1, false⟩⟩, ⟨⟨k1, true⟩, ⟨k3, true⟩⟩] (by simp)) 0 (by simp)
 obtain ⟨gm', pm', hgm', _, hat1⟩ := IvR.elem (HMI.out.get (.slice (some ⟨gm, pm, none⟩) 2 cm) [⟨⟨k0, false⟩, ⟨k1, false⟩⟩, ⟨⟨k1, true⟩, ⟨k3, true⟩⟩] (by simp)) 1 (by simp)
 injection hgm' with hgm'
 injection hgm' with q1 q2
 subst q1 q2
 have HLu := Lib.hid (hatu.ld hgu)
 have HL0 := Lib.hid (hat0.ld hgm)
 have HL1 := Lib.hid (hat1.ld hgm)
 simp only [Nat.zero_mul, Nat.one_mul, Nat.add_zero, List.getElem_cons_zero, List.getElem_cons_succ] at HLu HL0 HL1
 have E1 := Lib.hid (eqT_run ⟨⟨k0, false⟩, ⟨k3, true⟩⟩)
 have E2 := Lib.hid (eqT_run ⟨⟨k0, false⟩, ⟨k1, false⟩⟩)
 have E3 := Lib.hid (eqT_run ⟨⟨k1, true⟩, ⟨k3, true⟩⟩)
 have B1 := Lib.hid (iv_b01 k0 k3)
 have B2 := Lib.hid (iv_b013 k0 k1)
 have B3 := Lib.hid (iv_b012 k1 k3)
 have HKz := Lib.hid HMI.out.1
 clear hatu hat0 hat1 HMI
 have Q0 : Hid (∀ m : KW w10, Calls Tryz.prog 54 #[.int .i64 0] (Wk w10 m) fun e w' => e = .returned (kv k0) ∧ ∃ m, w' = Wk w10 m) := fun m => qk m (C0.out _)
 have Q1 : Hid (∀ m : KW w10, Calls Tryz.prog 54 #[.int .i64 1] (Wk w10 m) fun e w' => e = .returned (kv k1) ∧ ∃ m, w' = Wk w10 m) := fun m => qk m (C1.out _)
 have Q3 : Hid (∀ m : KW w10, Calls Tryz.prog 54 #[.int .i64 3] (Wk w10 m) fun e w' => e = .returned (kv k3) ∧ ∃ m, w' = Wk w10 m) := fun m => qk m (C3.out _)
 clear C0 C1 C2 C3
 unfold kv iv at *
 generalize kC k0 = K0 at *
 generalize kC k1 = K1 at *
 generalize kC k2 = K2 at *
 generalize kC k3 = K3 at *
 generalize iC ⟨⟨k0, false⟩, ⟨k3, true⟩⟩ = I1 at *
 generalize iC ⟨⟨k0, false⟩, ⟨k1, false⟩⟩ = I2 at *
 generalize iC ⟨⟨k1, true⟩, ⟨k3, true⟩⟩ = I3 at *
 go_upto_region 5 with (fail)
 refine wp_region_keep (by kernel_rfl) (by kernel_rfl) ?_
 repeat (first
  | go_big_quiet_skip
  | (go_big_quiet_want; first
   | (refine quiet_load _ _ _ (.agg I1) rfl rfl (by rintro _ ⟨m, rfl⟩; exact HLu.out m) ?_; go_simp; go_big_quiet_on) | (refine quiet_load _ _ _ (.agg I2) rfl rfl (by rintro _ ⟨m, rfl⟩; exact HL0.out m) ?_; go_simp; go_big_quiet_on) | (refine quiet_load _ _ _ (.agg I3) rfl rfl (by rintro _ ⟨m, rfl⟩; exact HL1.out m) ?_; go_simp; go_big_quiet_on) | (refine quiet_build _ _ #[(0, .agg K0), (1, .agg K3)] (I1) rfl (by simp only [List.map_toArray, List.map_cons, List.map_nil]; rfl) B1.out ?_; go_simp; go_big_quiet_on) | (refine quiet_build _ _ #[(0, .agg K0), (1, .agg K1), (3, .bool true)] (I2) rfl (by simp only [List.map_toArray, List.map_cons, List.map_nil]; rfl) B2.out ?_; go_simp; go_big_quiet_on) | (refine quiet_build _ _ #[(0, .agg K1), (1, .agg K3), (2, .bool true)] (I3) rfl (by simp only [List.map_toArray, List.map_cons, List.map_nil]; rfl) B3.out ?_; go_simp; go_big_quiet_on) | (refine quiet_bin _ _ _ _ _ _ _ (.bool true) rfl rfl rfl eqI_g (by intro w; exact E1.out w) ?_; go_simp; go_big_quiet_on) | (refine quiet_bin _ _ _ _ _ _ _ (.bool true) rfl rfl rfl eqI_g (by intro w; exact E2.out w) ?_; go_simp; go_big_quiet_on) | (refine quiet_bin _ _ _ _ _ _ _ (.bool true) rfl rfl rfl eqI_g (by intro w; exact E3.out w) ?_; go_simp; go_big_quiet_on)
   | (go_big_quiet_op; first | go_big_quiet_on | go_big_quiet_call (first
    | (go_at_call 54; with_reducible exact (Q0).out _) | (go_at_call 54; with_reducible exact (Q1).out _) | (go_at_call 54; with_reducible exact (Q3).out _)))))
 refine wpQuiet_nil ?_
 rintro wz ⟨⟨_, hk_wz⟩, rfl⟩
 have HkZ := Lib.hid (HKz.out.trans0 hk_wz)
 clear hk_wz
 go_wp2_with fail
 go_ret
 exact ⟨rfl, HkZ.out⟩
theorem known_c (w : World) : Calls Tryz.prog 16 #[] w fun e w' => e = .returned (.bool true) ∧ Keep [] w w' :=
 known_c0 (kN 0 (by decide)) (kN 1 (by decide)) (kN 2 (by decide)) (kN 3 (by decide)) (kN_lt.2 (by decide)) (kN_lt.2 (by decide)) (kN_lt.2 (by decide)) (fun w => lwhole_c 0 (by decide) w) (fun w => lwhole_c 1 (by decide) w) (fun w => lwhole_c 2 (by decide) w) (fun w => lwhole_c 3 (by decide) w) w
end Go.Proofs.YteknldaoegccaaaGreatDoor
set_option maxRecDepth 100000
namespace Go.Proofs.YteknldaoegccaaaGreatDoor
open Go.RowKit
set_option maxHeartbeats 4000000 in
theorem Rat_c (a : FrA) (w : World) : Calls Tryz.prog 27 #[a.v] w fun e w' => e = .returned (rv a.q) ∧ Keep [] w w' := by
 have H := Lib.hid (rat_c a)
 unfold FrA.v at *
 generalize a.q = q at *
 generalize a.num = n at *
 generalize a.den = d0 at *
 generalize a.up = u at *
 generalize a.down = v at *
 unfold rv at *
 go_enter Tryz.func27, Tryz.ntmps27
 go_upto_region 1 with (fail)
 obtain ⟨W, ga, gb, hW, ega, egb, bga, bgb, hga, hgb, hgW, hkW⟩ := al2 w (.cells #[.int .i64 n, .int .i64 d0, .int .u8 u, .int .u8 v] 44) (.cells #[.bool false, .string ⟨#[]⟩, .bool false, .string ⟨#[]⟩] 29)
 rw [← hW]
 try rw [egb]
 try rw [ega]
 have Bga := Lib.hid bga
 have Bgb := Lib.hid bgb
 have HkW := Lib.hid hkW
 clear hW hkW ega egb bga bgb
 have pga := cell_of Bga.out
 go_wp2_with fail
 refine (H.out _).mono ?_
 rintro e w9 ⟨rfl, hk9⟩
 dsimp only
 have HK9 := Lib.hid (HkW.out.trans0 hk9)
 have Bgb := Lib.hid (hk9.heap Bgb.out (by simp))
 clear hk9 pga
 have pgb := cell_of Bgb.out
 have fgb := frozen_of Bgb.out
 have lgb := lt_of_heap Bgb.out
 go_wp2_with fail
 obtain ⟨w10, e10, b10, k10⟩ := st4 (x := .bool (sgB q.num)) (y := .string (mgS q.num)) (z := .bool false) (u := .string (dnS q.den)) Bgb.out
 rw [← e10]
 clear e10 pgb fgb lgb
 have pgb := cell_of b10
 refine bodyPost_ret (v := .agg #[.bool (sgB q.num), .string (mgS q.num), .bool false, .string (dnS q.den)]) ?_ rfl ⟨rfl, HK9.out.trans k10 (by simp; omega)⟩
 rw [results_cell1 rfl]
 go_simp
set_option maxHeartbeats 4000000 in
theorem moved_c (x : Qn) (q : Rat) (hx : FitQ 20000000 x.p) (hq : FitQ 20000000 q) (w : World) :
  Calls Tryz.prog 29 #[qv x, rv q] w fun e w' => e = .returned (qv ⟨x.p + q, x.r, x.neg⟩) ∧ Keep [] w w' := by
 have Hs := Lib.hid (radd_c x.p q hx hq)
 unfold qv rv at *
 dsimp only
 generalize sgB (x.p + q).num = nr at *
 generalize mgS (x.p + q).num = sr at *
 generalize dnS (x.p + q).den = dr at *
 generalize sgB (x.p).num = a1 at *
 generalize mgS (x.p).num = a2 at *
 generalize dnS (x.p).den = a3 at *
 generalize sgB (x.r).num = a4 at *
 generalize mgS (x.r).num = a5 at *
 generalize dnS (x.r).den = a6 at *
 generalize sgB (q).num = b1 at *
 generalize mgS (q).num = b2 at *
 generalize dnS (q).den = b3 at *
 generalize x.neg = a7 at *
 clear hx hq
 go_enter Tryz.func29, Tryz.ntmps29
 go_upto_region 1 with (fail)
 obtain ⟨W, ga, gb, gc, hW, ega, egb, egc, bga, bgb, bgc, hga, hgb, hgc, hgW, hkW⟩ := al3 w (.cells #[.bool a1, .string a2, .bool false, .string a3, .bool a4, .string a5, .bool false, .string a6, .bool a7] 31) (.cells #[.bool b1, .string b2, .bool false, .string b3] 29) (.cells #[.bool false, .string ⟨#[]⟩, .bool false, .string ⟨#[]⟩, .bool false, .string ⟨#[]⟩, .bool false, .string ⟨#[]⟩, .bool false] 31)
 rw [← hW]
 try rw [egc]
 try rw [egb]
 try rw [ega]
 have Bga := Lib.hid bga
 have Bgb := Lib.hid bgb
 have Bgc := Lib.hid bgc
 have HkW := Lib.hid hkW
 clear hW hkW ega egb egc bga bgb bgc
 have pga := cell_of Bga.out
 have fga := frozen_of Bga.out
 have lga := lt_of_heap Bga.out
 have pgb := cell_of Bgb.out
 have fgb := frozen_of Bgb.out
 have lgb := lt_of_heap Bgb.out
 go_wp2_with fail
 refine (Hs.out _).mono ?_
 rintro e wz ⟨rfl, hk_wz⟩
 dsimp only
 clear Hs pga fga lga pgb fgb lgb
 have B2ga := Lib.hid (hk_wz.heap Bga.out (by simp))
 have B2gb := Lib.hid (hk_wz.heap Bgb.out (by simp))
 have B2gc := Lib.hid (hk_wz.heap Bgc.out (by simp))
 have HkW2 := Lib.hid (HkW.out.trans0 hk_wz)
 clear HkW hk_wz Bga Bgb Bgc
 have Bga := B2ga
 have Bgb := B2gb
 have Bgc := B2gc
 have HkW := HkW2
 clear HkW2 B2ga B2gb B2gc
 have pga := cell_of Bga.out
 have fga := frozen_of Bga.out
 have lga := lt_of_heap Bga.out
 have pgc := cell_of Bgc.out
 have fgc := frozen_of Bgc.out
 have lgc := lt_of_heap Bgc.out
 go_wp2_with fail
 refine bodyPost_ret (v := .agg #[.bool nr, .string sr, .bool false, .string dr, .bool a4, .string a5, .bool false, .string a6, .bool a7]) ?_ rfl ⟨rfl, by repeat (first | (with_reducible exact HkW.out) | (refine Keep.setPast ?_ _ _ _ (by omega)) | (refine Keep.allocPast ?_ _) | (refine Keep.drewPast ?_))⟩
 rw [results_cell1 rfl]; go_simp
end Go.Proofs.YteknldaoegccaaaGreatDoor
set_option maxRecDepth 100000
namespace Go.Proofs.YteknldaoegccaaaGreatDoor
open Go.RowKit
open Classical
structure MP (S : List K) (w0 w : World) (L : List (Value × List (Iv K))) : Prop where
 mi : MI w0 w L
 per : ∀ p ∈ L, Per S p.2
 few : S.length ≤ 1000
section
variable {S : List K} {w0 w w' : World} {L : List (Value × List (Iv K))}
theorem MP.start (h : S.length ≤ 1000) (w : World) : MP S w w [] := ⟨MI.start w, by simp, h⟩
theorem MP.move (h : MP S w0 w L) (hk : Keep [] w w') : MP S w0 w' L := ⟨h.mi.move hk, h.per, h.few⟩
theorem MP.add (h : MP S w0 w L) {v : Value} {l : List (Iv K)} (hk : Keep [] w w') (hv : IvR w' v l) (hp : Per S l) : MP S w0 w' ((v, l) :: L) :=
 ⟨h.mi.add hk hv, fun p hp' => by
  rcases List.mem_cons.1 hp' with rfl | hp'
  ·exact hp
  ·exact h.per p hp', h.few⟩
theorem MP.keep (h : MP S w0 w L) : Keep [] w0 w := h.mi.1
theorem MP.get (h : MP S w0 w L) {v : Value} {l : List (Iv K)} (hm : (v, l) ∈ L) : IvR w v l := h.mi.2 _ hm
theorem MP.val (h : MP S w0 w L) {v : Value} {l : List (Iv K)} (hm : (v, l) ∈ L) : ∀ i ∈ l, i.f < i.l := (h.per _ hm).norm.val
theorem MP.len (h : MP S w0 w L) {v : Value} {l : List (Iv K)} (hm : (v, l) ∈ L) : l.length ≤ 2000 := by have := (h.per _ hm).len; have := h.few; dsimp only at *; omega
variable {v u : Value} {a b : List (Iv K)}
def BoolPost (S : List K) (w0 : World) (L : List (Value × List (Iv K))) (r : Bool) (e : Ending) (w' : World) : Prop := e = .returned (.bool r) ∧ MP S w0 w' L
theorem boolPost_of (h : MP S w0 w L) {r : Bool} {f : Nat} {args : Array Value} (hc : Calls Tryz.prog f args w fun e w' => e = .returned (.bool r) ∧ Keep [] w w') : Calls Tryz.prog f args w (BoolPost S w0 L r) :=
 hc.mono fun e w' ⟨he, hk⟩ => ⟨he, h.move hk⟩
theorem MP.eq (h : MP S w0 w L) (hv : (v, a) ∈ L) (hu : (u, b) ∈ L) (he : a = b) : Calls Tryz.prog 17 #[v, u] w (BoolPost S w0 L true) :=
 boolPost_of h (equal_t he w v u (h.get hv) (h.get hu) (by have := h.len hv; omega))
end
end Go.Proofs.YteknldaoegccaaaGreatDoor
set_option maxRecDepth 100000
namespace Go.Proofs.YteknldaoegccaaaGreatDoor
open Go.RowKit
theorem IvR.laterBox {u u' : World} {v : Value} {l : List (Iv K)} {g : Nat} {cs : Array Value} {t : TypeId} (h : IvR u v l) (hb : u.heap[g]? = some (.cells cs t)) (hs : cs.size < 20) (hk : Keep [g] u u') : IvR u' v l := by
 rcases h with h | ⟨g', o, c, rfl, hc, hg, hx⟩
 ·exact .inl h
 ·refine .inr ⟨g', o, c, rfl, hc, Nat.lt_of_lt_of_le hg hk.size, fun i v hv => ?_⟩
  by_cases hgg : g' = g
  ·subst hgg
   exfalso
   cases l with
   | nil => simp at hv
   | cons x r =>
    have := hx 19 (.bool (!x.l.beh)) (by rw [List.flatMap_cons, List.getElem?_append_left (by rw [icells_len]; decide)]; rfl)
    rw [cell_of hb] at this
    have := (Array.getElem?_eq_some_iff.1 this).1
    omega
  ·rw [World.cell?_of_block (hk.block g' hg (by simp; exact hgg))]
   exact hx i v hv
def MQ (W u : World) (l : List (Value × List (Iv K))) (bs : List (Nat × Obj)) : Prop := Keep [] W u ∧ (∀ p ∈ l, IvR u p.1 p.2) ∧ ∀ b ∈ bs, u.heap[b.1]? = some b.2 ∧ W.heap.size ≤ b.1
theorem MQ.start {W u : World} (h : Keep [] W u) : MQ W u [] [] := ⟨h, by simp, by simp⟩
theorem MQ.move {W u u' : World} {l : List (Value × List (Iv K))} {bs : List (Nat × Obj)} (h : MQ W u l bs) (hk : Keep [] u u') : MQ W u' l bs :=
 ⟨h.1.trans0 hk, fun p hp => (h.2.1 p hp).later hk, fun b hb => ⟨hk.heap (h.2.2 b hb).1 (by simp), (h.2.2 b hb).2⟩⟩
theorem MQ.add {W u u' : World} {l : List (Value × List (Iv K))} {bs : List (Nat × Obj)} (h : MQ W u l bs) (hk : Keep [] u u') {v : Value} {m : List (Iv K)} (hv : IvR u' v m) : MQ W u' ((v, m) :: l) bs := by
 obtain ⟨a1, a2, a3⟩ := h.move hk
 refine ⟨a1, fun p hp => ?_, a3⟩
 rcases List.mem_cons.1 hp with rfl | hp
 ·exact hv
 ·exact a2 p hp
theorem MQ.new' {W u : World} {l : List (Value × List (Iv K))} {bs : List (Nat × Obj)} (h : MQ W u l bs) (z : Obj) : ∃ u' g, u.alloc z = u' ∧ u.heap.size = g ∧ MQ W u' l ((g, z) :: bs) := by
 have hk := Keep.alloc [] u z
 obtain ⟨a1, a2, a3⟩ := h.move hk
 refine ⟨_, _, rfl, rfl, a1, a2, fun b hb => ?_⟩
 rcases List.mem_cons.1 hb with rfl | hb
 ·exact ⟨World.alloc_heap_new u z, h.1.size⟩
 ·exact a3 b hb
theorem MQ.put {W u u' : World} {l : List (Value × List (Iv K))} {g : Nat} {cs : Array Value} {t : TypeId} {o : Obj} (h : MQ W u l [(g, .cells cs t)]) (hs : cs.size < 20) (hb : u'.heap[g]? = some o) (hk : Keep [g] u u') : MQ W u' l [(g, o)] := by
 obtain ⟨a1, a2, a3⟩ := h
 have hg := a3 (g, .cells cs t) (by simp)
 refine ⟨a1.trans hk (by simp; exact hg.2), fun p hp => (a2 p hp).laterBox hg.1 hs hk, fun b hb' => ?_⟩
 simp at hb'
 subst hb'
 exact ⟨hb, hg.2⟩
theorem MQ.get {W u : World} {l : List (Value × List (Iv K))} {bs : List (Nat × Obj)} (h : MQ W u l bs) (v : Value) (m : List (Iv K)) (hm : (v, m) ∈ l) : IvR u v m := h.2.1 (v, m) hm
theorem MQ.box {W u : World} {l : List (Value × List (Iv K))} {bs : List (Nat × Obj)} (h : MQ W u l bs) (g : Nat) (o : Obj) (hm : (g, o) ∈ bs) : u.heap[g]? = some o := (h.2.2 (g, o) hm).1
end Go.Proofs.YteknldaoegccaaaGreatDoor
