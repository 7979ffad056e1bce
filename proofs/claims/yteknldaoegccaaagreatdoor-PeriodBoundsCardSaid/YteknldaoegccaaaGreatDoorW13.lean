/- Parts of a proof about this translation: Ra, Rc, Rt. -/
import Derived.Test.YteknldaoegccaaaGreatDoorW12
set_option linter.unusedVariables false
set_option linter.unusedSimpArgs false
set_option maxRecDepth 100000
namespace Go.Proofs.YteknldaoegccaaaGreatDoor
open Go.RowKit
def FitQ (k : Nat) (q : Rat) : Prop := Fit k q.num ∧ Fit k (q.den : Int)
theorem FitQ.mono {k l : Nat} {q : Rat} (h : FitQ k q) (hl : k ≤ l) : FitQ l q := ⟨h.1.mono hl, h.2.mono hl⟩
def crX (a b : Rat) : Int := if a.den = b.den then a.num else a.num * b.den
def crY (a b : Rat) : Int := if a.den = b.den then b.num else b.num * a.den
def crD (a b : Rat) : Int := if a.den = b.den then a.den else (a.den : Int) * b.den
theorem crD_pos (a b : Rat) : 0 < crD a b := by
 have h1 := a.den_pos
 have h2 := b.den_pos
 unfold crD
 split
 ·omega
 ·exact Int.mul_pos (by omega) (by omega)
theorem crX_eq (a b : Rat) : Rat.divInt (crX a b) (crD a b) = a := by
 have h2 := b.den_pos
 unfold crX crD
 split
 ·exact Rat.num_divInt_den a
 ·rw [Rat.divInt_mul_right (by omega)]; exact Rat.num_divInt_den a
theorem crY_eq (a b : Rat) : Rat.divInt (crY a b) (crD a b) = b := by
 have h2 := a.den_pos
 unfold crY crD
 split
 ·rename_i h; rw [h]; exact Rat.num_divInt_den b
 ·rw [Int.mul_comm (a.den : Int), Rat.divInt_mul_right (by omega)]; exact Rat.num_divInt_den b
theorem cr_add (a b : Rat) : Rat.divInt (crX a b + crY a b) (crD a b) = a + b := by
 have hp := crD_pos a b
 have h : Rat.divInt (crX a b + crY a b) (crD a b) = Rat.divInt (crX a b) (crD a b) + Rat.divInt (crY a b) (crD a b) := by
  rw [Rat.divInt_eq_div, Rat.divInt_eq_div, Rat.divInt_eq_div, Rat.intCast_add, Rat.div_def, Rat.div_def, Rat.div_def, Rat.add_mul]
 rw [h, crX_eq, crY_eq]
theorem cr_cmp (a b : Rat) : Lib.compareInt (crX a b) (crY a b) = Lib.compareInt (a.num * b.den) (b.num * a.den) := by
 have h1 := a.den_pos
 unfold crX crY
 split
 ·rename_i h
  rw [← h]
  have key : ∀ x y : Int, x < y ↔ x * a.den < y * a.den := fun x y => by
   constructor
   ·intro hxy; exact Int.mul_lt_mul_of_pos_right hxy (by omega)
   ·intro hxy; exact Int.lt_of_mul_lt_mul_right hxy (by omega)
  unfold Lib.compareInt
  simp only [gt_iff_lt, ← key]
 ·rfl
theorem cr_fit {a b : Rat} {k l : Nat} (ha : FitQ k a) (hb : FitQ l b) : Fit (k + l) (crX a b) ∧ Fit (k + l) (crY a b) ∧ Fit (k + l) (crD a b) := by
 unfold crX crY crD
 split
 ·exact ⟨ha.1.mono (by omega), hb.1.mono (by omega), ha.2.mono (by omega)⟩
 ·exact ⟨ha.1.mul hb.2, (hb.1.mul ha.2).mono (by omega), ha.2.mul hb.2⟩
theorem divInt_fit {a b : Int} {k : Nat} (ha : Fit k a) (hb : Fit k b) (h0 : 0 < b) : FitQ k (Rat.divInt a b) := by
 have hgp : 0 < Int.gcd a b := Int.gcd_pos_of_ne_zero_right _ (by omega)
 refine ⟨ha.le ?_, hb.le ?_⟩
 ·rw [Rat.num_divInt, Int.sign_eq_one_of_pos h0, Int.one_mul]
  rw [Int.natAbs_ediv_of_dvd (by rw [Int.gcd_comm]; exact Int.gcd_dvd_left a b)]
  exact Nat.div_le_self _ _
 ·rw [Rat.den_divInt, if_neg (by omega), Int.natAbs_natCast]
  exact Nat.div_le_self _ _
theorem FitQ.add {a b : Rat} {k l : Nat} (ha : FitQ k a) (hb : FitQ l b) : FitQ (k + l + 1) (a + b) := by
 obtain ⟨h1, h2, h3⟩ := cr_fit ha hb
 rw [← cr_add]
 exact divInt_fit (h1.add h2) (h3.mono (by omega)) (crD_pos a b)
theorem FitQ.neg {a : Rat} {k : Nat} (ha : FitQ k a) : FitQ k (-a) := by
 refine ⟨?_, ?_⟩
 ·rw [Rat.neg_num]; exact ha.1.neg
 ·rw [Rat.neg_den]; exact ha.2
theorem mul_eq (a b : Rat) : Rat.divInt (a.num * b.num) ((a.den : Int) * b.den) = a * b := by
 rw [← Rat.divInt_mul_divInt, Rat.num_divInt_den, Rat.num_divInt_den]
theorem FitQ.mul {a b : Rat} {k l : Nat} (ha : FitQ k a) (hb : FitQ l b) : FitQ (k + l) (a * b) := by
 rw [← mul_eq]
 exact divInt_fit (ha.1.mul hb.1) (ha.2.mul hb.2) (Int.mul_pos (by have := a.den_pos; omega) (by have := b.den_pos; omega))
theorem FitQ.sub {a b : Rat} {k l : Nat} (ha : FitQ k a) (hb : FitQ l b) : FitQ (k + l + 1) (a - b) := by
 rw [Rat.sub_eq_add_neg]; exact ha.add hb.neg
def qcmp (a b : Rat) : Int := Lib.compareInt (a.num * b.den) (b.num * a.den)
end Go.Proofs.YteknldaoegccaaaGreatDoor
set_option maxRecDepth 100000
namespace Go.Proofs.YteknldaoegccaaaGreatDoor
open Go.RowKit
theorem wp_enter {P : Program} {o : Oper} {a : Act} {w : World} {K : Act → World → Prop} {Q : Exit → Act → World → Prop} (f : FuncId) (args : Array Value) (h : (execOp a.eval o).run P w = .ok (.enter f args) w)
  (hc : Calls P f args w fun e w'' => ∃ v, e = .returned v ∧ K (a.put o.dst v) w'') : o.wp P a w K Q := by
 unfold Oper.wp
 rw [h, Oper.upon_enter]
 refine hc.mono ?_
 rintro e w ⟨v, rfl, hk⟩
 exact hk
set_option maxHeartbeats 4000000 in
theorem cross_eq (na nb nd : Bool) (sa sb da db sd : ByteArray) (heq : ∀ w, (binOp .eql 27 (.agg #[.bool false, .string da]) (.agg #[.bool false, .string db])).run Tryz.prog w = .ok (.bool true) w)
  (Hd : Hid (∀ w, Calls Tryz.prog 132 #[.agg #[.bool na, .string sa, .bool false, .string da]] w fun e w' => e = .returned (.agg #[.bool nd, .string sd]) ∧ Keep [] w w')) (w : World) :
  Calls Tryz.prog 128 #[.agg #[.bool na, .string sa, .bool false, .string da], .agg #[.bool nb, .string sb, .bool false, .string db]] w fun e w' => e = .returned (.tuple #[.agg #[.bool na, .string sa], .agg #[.bool nb, .string sb], .agg #[.bool nd, .string sd]]) ∧ Keep [] w w' := by
 have hgd := eqZ_g
 go_enter Tryz.func128, Tryz.ntmps128
 go_wp2_with fail
 obtain ⟨W, ga, gb, gc, gd, ge, hW, ega, egb, egc, egd, ege, bga, bgb, bgc, bgd, bge, hga, hgb, hgc, hgd, hge, hgW, hkW⟩ := al5 w (.cells #[.bool na, .string sa, .bool false, .string da] 29) (.cells #[.bool nb, .string sb, .bool false, .string db] 29) (.cells #[.bool false, .string ⟨#[]⟩] 27) (.cells #[.bool false, .string ⟨#[]⟩] 27) (.cells #[.bool false, .string ⟨#[]⟩] 27)
 rw [← hW]
 try rw [ege]
 try rw [egd]
 try rw [egc]
 try rw [egb]
 try rw [ega]
 have Bga := Lib.hid bga
 have Bgb := Lib.hid bgb
 have Bgc := Lib.hid bgc
 have Bgd := Lib.hid bgd
 have Bge := Lib.hid bge
 have HkW := Lib.hid hkW
 clear hW hkW ega egb egc egd ege bga bgb bgc bgd bge
 go_wp2_with fail
 have HSk : Hid (∀ W', Keep [gc, gd, ge] W W' → (∀ i, W'.cell? ⟨ga, i, none⟩ = (#[.bool na, .string sa, .bool false, .string da] : Array Value)[i]?) ∧ (∀ i, W'.cell? ⟨gb, i, none⟩ = (#[.bool nb, .string sb, .bool false, .string db] : Array Value)[i]?)) :=
  fun W' hk => ⟨cell_of (hk.heap Bga.out (by simp; omega)), cell_of (hk.heap Bgb.out (by simp; omega))⟩
 refine wp_region_heldT (S := fun W' => (∀ i, W'.cell? ⟨ga, i, none⟩ = (#[.bool na, .string sa, .bool false, .string da] : Array Value)[i]?) ∧ (∀ i, W'.cell? ⟨gb, i, none⟩ = (#[.bool nb, .string sb, .bool false, .string db] : Array Value)[i]?)) 8 (by kernel_rfl) (by kernel_rfl) (fun _ _ d _ _ h => by cases d <;> exact h) ?_
 have hk0 := Keep.drew [gc, gd, ge] W
 have hS0 := HSk.out _ hk0
 have Bgc := Lib.hid ((Keep.drew [] W).heap Bgc.out (by simp))
 have Bgd := Lib.hid ((Keep.drew [] W).heap Bgd.out (by simp))
 have Bge := Lib.hid ((Keep.drew [] W).heap Bge.out (by simp))
 generalize W.drew = u0 at *
 refine' heldT_val (v := _) 0 (by rfl) (by decide) (by kernel_rfl) (by kernel_rfl) (by rfl) hS0 (fun w hw => ?hrun0) (fun K hK => ?hnext0)
 case hrun0 => (obtain ⟨s1, s2⟩ := hw; go_simp; try rfl)
 rotate_left 0
 go_simp
 refine hK _ ?_
 clear hK K
 refine' heldT_val (v := _) 1 (by rfl) (by decide) (by kernel_rfl) (by kernel_rfl) (by rfl) hS0 (fun w hw => ?hrun1) (fun K hK => ?hnext1)
 case hrun1 => (obtain ⟨s1, s2⟩ := hw; go_simp; try rfl)
 rotate_left 0
 go_simp
 refine hK _ ?_
 clear hK K
 refine' heldT_val (v := _) 2 (by rfl) (by decide) (by kernel_rfl) (by kernel_rfl) (by rfl) hS0 (fun w hw => ?hrun2) (fun K hK => ?hnext2)
 case hrun2 => (obtain ⟨s1, s2⟩ := hw; go_simp; try rfl)
 rotate_left 0
 go_simp
 refine hK _ ?_
 clear hK K
 refine' heldT_val (v := _) 3 (by rfl) (by decide) (by kernel_rfl) (by kernel_rfl) (by rfl) hS0 (fun w hw => ?hrun3) (fun K hK => ?hnext3)
 case hrun3 => (obtain ⟨s1, s2⟩ := hw; go_simp; try rfl)
 rotate_left 0
 go_simp
 refine hK _ ?_
 clear hK K
 refine' heldT_val (v := _) 4 (by rfl) (by decide) (by kernel_rfl) (by kernel_rfl) (by rfl) hS0 (fun w hw => ?hrun4) (fun K hK => ?hnext4)
 case hrun4 => (obtain ⟨s1, s2⟩ := hw; go_simp; try rfl)
 rotate_left 0
 go_simp
 refine hK _ ?_
 clear hK K
 refine heldT_one 5 (by kernel_rfl) (by decide) (by rfl) (by rfl) (fun K hK => ?_)
 refine wp_enter 132 #[.agg #[.bool na, .string sa, .bool false, .string da]] (by go_simp) ?_
 refine (Hd.out u0).mono ?_
 rintro e u1 ⟨rfl, hk2⟩
 have hk0 := hk0.trans hk2 (by simp)
 have hS0 := HSk.out _ hk0
 have Bgc := Lib.hid (hk2.heap Bgc.out (by simp))
 have Bgd := Lib.hid (hk2.heap Bgd.out (by simp))
 have Bge := Lib.hid (hk2.heap Bge.out (by simp))
 refine ⟨_, rfl, ?_⟩
 refine hK _ _ hS0 ?_
 clear hK K hk2
 have pgc := cell_of Bgc.out
 have fgc := frozen_of Bgc.out
 have lgc := lt_of_heap Bgc.out
 refine heldT_one 6 (by kernel_rfl) (by decide) (by rfl) (by rfl) (fun K hK => ?_)
 go_simp
 obtain ⟨v1, hv1, bgc1, hkv⟩ := st2 (x := .bool na) (y := .string sa) Bgc.out
 rw [← hv1]
 have hk1 := hk0.trans hkv (by simp)
 have hS1 := HSk.out _ hk1
 have Bgc1 := Lib.hid bgc1
 have Bgd1 := Lib.hid (hkv.heap Bgd.out (by simp; omega))
 have Bge1 := Lib.hid (hkv.heap Bge.out (by simp; omega))
 refine hK _ _ hS1 ?_
 clear hK K hv1 bgc1 hkv Bgc Bgd Bge hk0 hS0 pgc fgc lgc
 have pgd := cell_of Bgd1.out
 have fgd := frozen_of Bgd1.out
 have lgd := lt_of_heap Bgd1.out
 refine heldT_one 7 (by kernel_rfl) (by decide) (by rfl) (by rfl) (fun K hK => ?_)
 go_simp
 obtain ⟨v2, hv2, bgd2, hkv⟩ := st2 (x := .bool nb) (y := .string sb) Bgd1.out
 rw [← hv2]
 have hk2 := hk1.trans hkv (by simp)
 have hS2 := HSk.out _ hk2
 have Bgd := Lib.hid bgd2
 have Bgc := Lib.hid (hkv.heap Bgc1.out (by simp; omega))
 have Bge := Lib.hid (hkv.heap Bge1.out (by simp; omega))
 refine hK _ _ hS2 ?_
 clear hK K hv2 bgd2 hkv Bgc1 Bgd1 Bge1 hk1 hS1 pgd fgd lgd
 refine ⟨by kernel_rfl, ?_⟩
 simp only [List.drop_succ_cons, List.drop_zero]
 have HkW := Lib.hid (HkW.out.trans hk2 (by simp; omega))
 clear hS2 hk2 HSk
 have pgc := cell_of Bgc.out
 have fgc := frozen_of Bgc.out
 have lgc := lt_of_heap Bgc.out
 have pgd := cell_of Bgd.out
 have fgd := frozen_of Bgd.out
 have lgd := lt_of_heap Bgd.out
 have pge := cell_of Bge.out
 have fge := frozen_of Bge.out
 have lge := lt_of_heap Bge.out
 go_wp2_with fail
 refine bodyPost_ret (v := .tuple #[.agg #[.bool na, .string sa], .agg #[.bool nb, .string sb], .agg #[.bool nd, .string sd]]) ?_ rfl ⟨rfl, by repeat (first | (with_reducible exact HkW.out) | (refine Keep.setPast ?_ _ _ _ (by omega)) | (refine Keep.allocPast ?_ _) | (refine Keep.drewPast ?_))⟩
 simp [results, Tryz.results128, go_sem]
 go_simp
set_option maxHeartbeats 4000000 in
theorem cross_ne (na nb nd ne n1 n2 n3 : Bool) (sa sb da db sd se s1 s2 s3 : ByteArray) (heq : ∀ w, (binOp .eql 27 (.agg #[.bool false, .string da]) (.agg #[.bool false, .string db])).run Tryz.prog w = .ok (.bool false) w)
  (Hda : Hid (∀ w, Calls Tryz.prog 132 #[.agg #[.bool na, .string sa, .bool false, .string da]] w fun e w' => e = .returned (.agg #[.bool nd, .string sd]) ∧ Keep [] w w'))
  (Hdb : Hid (∀ w, Calls Tryz.prog 132 #[.agg #[.bool nb, .string sb, .bool false, .string db]] w fun e w' => e = .returned (.agg #[.bool ne, .string se]) ∧ Keep [] w w'))
  (Hm1 : Hid (∀ w, Calls Tryz.prog 131 #[.agg #[.bool na, .string sa], .agg #[.bool ne, .string se]] w fun e w' => e = .returned (.agg #[.bool n1, .string s1]) ∧ Keep [] w w'))
  (Hm2 : Hid (∀ w, Calls Tryz.prog 131 #[.agg #[.bool nb, .string sb], .agg #[.bool nd, .string sd]] w fun e w' => e = .returned (.agg #[.bool n2, .string s2]) ∧ Keep [] w w'))
  (Hm3 : Hid (∀ w, Calls Tryz.prog 131 #[.agg #[.bool nd, .string sd], .agg #[.bool ne, .string se]] w fun e w' => e = .returned (.agg #[.bool n3, .string s3]) ∧ Keep [] w w')) (w : World) :
  Calls Tryz.prog 128 #[.agg #[.bool na, .string sa, .bool false, .string da], .agg #[.bool nb, .string sb, .bool false, .string db]] w fun e w' => e = .returned (.tuple #[.agg #[.bool n1, .string s1], .agg #[.bool n2, .string s2], .agg #[.bool n3, .string s3]]) ∧ Keep [] w w' := by
 have hgd := eqZ_g
 go_enter Tryz.func128, Tryz.ntmps128
 go_wp2_with fail
 obtain ⟨W, ga, gb, gc, gd, ge, hW, ega, egb, egc, egd, ege, bga, bgb, bgc, bgd, bge, hga, hgb, hgc, hgd, hge, hgW, hkW⟩ := al5 w (.cells #[.bool na, .string sa, .bool false, .string da] 29) (.cells #[.bool nb, .string sb, .bool false, .string db] 29) (.cells #[.bool false, .string ⟨#[]⟩] 27) (.cells #[.bool false, .string ⟨#[]⟩] 27) (.cells #[.bool false, .string ⟨#[]⟩] 27)
 rw [← hW]
 try rw [ege]
 try rw [egd]
 try rw [egc]
 try rw [egb]
 try rw [ega]
 have Bga := Lib.hid bga
 have Bgb := Lib.hid bgb
 have Bgc := Lib.hid bgc
 have Bgd := Lib.hid bgd
 have Bge := Lib.hid bge
 have HkW := Lib.hid hkW
 clear hW hkW ega egb egc egd ege bga bgb bgc bgd bge
 go_wp2_with fail
 have HSk : Hid (∀ W', Keep [gc, gd, ge] W W' → (∀ i, W'.cell? ⟨ga, i, none⟩ = (#[.bool na, .string sa, .bool false, .string da] : Array Value)[i]?) ∧ (∀ i, W'.cell? ⟨gb, i, none⟩ = (#[.bool nb, .string sb, .bool false, .string db] : Array Value)[i]?)) :=
  fun W' hk => ⟨cell_of (hk.heap Bga.out (by simp; omega)), cell_of (hk.heap Bgb.out (by simp; omega))⟩
 refine wp_region_heldT (S := fun W' => (∀ i, W'.cell? ⟨ga, i, none⟩ = (#[.bool na, .string sa, .bool false, .string da] : Array Value)[i]?) ∧ (∀ i, W'.cell? ⟨gb, i, none⟩ = (#[.bool nb, .string sb, .bool false, .string db] : Array Value)[i]?)) 17 (by kernel_rfl) (by kernel_rfl) (fun _ _ d _ _ h => by cases d <;> exact h) ?_
 have hk0 := Keep.drew [gc, gd, ge] W
 have hS0 := HSk.out _ hk0
 have Bgc := Lib.hid ((Keep.drew [] W).heap Bgc.out (by simp))
 have Bgd := Lib.hid ((Keep.drew [] W).heap Bgd.out (by simp))
 have Bge := Lib.hid ((Keep.drew [] W).heap Bge.out (by simp))
 generalize W.drew = u0 at *
 refine' heldT_val (v := _) 0 (by rfl) (by decide) (by kernel_rfl) (by kernel_rfl) (by rfl) hS0 (fun w hw => ?hrun0) (fun K hK => ?hnext0)
 case hrun0 => (obtain ⟨s1, s2⟩ := hw; go_simp; try rfl)
 rotate_left 0
 go_simp
 refine hK _ ?_
 clear hK K
 refine' heldT_val (v := _) 1 (by rfl) (by decide) (by kernel_rfl) (by kernel_rfl) (by rfl) hS0 (fun w hw => ?hrun1) (fun K hK => ?hnext1)
 case hrun1 => (obtain ⟨s1, s2⟩ := hw; go_simp; try rfl)
 rotate_left 0
 go_simp
 refine hK _ ?_
 clear hK K
 refine' heldT_val (v := _) 2 (by rfl) (by decide) (by kernel_rfl) (by kernel_rfl) (by rfl) hS0 (fun w hw => ?hrun2) (fun K hK => ?hnext2)
 case hrun2 => (obtain ⟨s1, s2⟩ := hw; go_simp; try rfl)
 rotate_left 0
 go_simp
 refine hK _ ?_
 clear hK K
 refine' heldT_val (v := _) 5 (by rfl) (by decide) (by kernel_rfl) (by kernel_rfl) (by rfl) hS0 (fun w hw => ?hrun5) (fun K hK => ?hnext5)
 case hrun5 => (obtain ⟨s1, s2⟩ := hw; go_simp; try rfl)
 rotate_left 0
 go_simp
 refine hK _ ?_
 clear hK K
 refine' heldT_val (v := _) 6 (by rfl) (by decide) (by kernel_rfl) (by kernel_rfl) (by rfl) hS0 (fun w hw => ?hrun6) (fun K hK => ?hnext6)
 case hrun6 => (obtain ⟨s1, s2⟩ := hw; go_simp; try rfl)
 rotate_left 0
 go_simp
 refine hK _ ?_
 clear hK K
 refine' heldT_val (v := _) 7 (by rfl) (by decide) (by kernel_rfl) (by kernel_rfl) (by rfl) hS0 (fun w hw => ?hrun7) (fun K hK => ?hnext7)
 case hrun7 => (obtain ⟨s1, s2⟩ := hw; go_simp; try rfl)
 rotate_left 0
 go_simp
 refine hK _ ?_
 clear hK K
 refine' heldT_val (v := _) 10 (by rfl) (by decide) (by kernel_rfl) (by kernel_rfl) (by rfl) hS0 (fun w hw => ?hrun10) (fun K hK => ?hnext10)
 case hrun10 => (obtain ⟨s1, s2⟩ := hw; go_simp; try rfl)
 rotate_left 0
 go_simp
 refine hK _ ?_
 clear hK K
 refine' heldT_val (v := _) 12 (by rfl) (by decide) (by kernel_rfl) (by kernel_rfl) (by rfl) hS0 (fun w hw => ?hrun12) (fun K hK => ?hnext12)
 case hrun12 => (obtain ⟨s1, s2⟩ := hw; go_simp; try rfl)
 rotate_left 0
 go_simp
 refine hK _ ?_
 clear hK K
 refine heldT_one 3 (by kernel_rfl) (by decide) (by rfl) (by rfl) (fun K hK => ?_)
 refine wp_enter 132 #[.agg #[.bool nb, .string sb, .bool false, .string db]] (by go_simp) ?_
 refine (Hdb.out u0).mono ?_
 rintro e u1 ⟨rfl, hk2⟩
 have hk0 := hk0.trans hk2 (by simp)
 have hS0 := HSk.out _ hk0
 have Bgc := Lib.hid (hk2.heap Bgc.out (by simp))
 have Bgd := Lib.hid (hk2.heap Bgd.out (by simp))
 have Bge := Lib.hid (hk2.heap Bge.out (by simp))
 refine ⟨_, rfl, ?_⟩
 refine hK _ _ hS0 ?_
 clear hK K hk2
 refine heldT_one 4 (by kernel_rfl) (by decide) (by rfl) (by rfl) (fun K hK => ?_)
 refine wp_enter 131 #[.agg #[.bool na, .string sa], .agg #[.bool ne, .string se]] (by go_simp) ?_
 refine (Hm1.out u1).mono ?_
 rintro e u2 ⟨rfl, hk2⟩
 have hk0 := hk0.trans hk2 (by simp)
 have hS0 := HSk.out _ hk0
 have Bgc := Lib.hid (hk2.heap Bgc.out (by simp))
 have Bgd := Lib.hid (hk2.heap Bgd.out (by simp))
 have Bge := Lib.hid (hk2.heap Bge.out (by simp))
 refine ⟨_, rfl, ?_⟩
 refine hK _ _ hS0 ?_
 clear hK K hk2
 refine heldT_one 8 (by kernel_rfl) (by decide) (by rfl) (by rfl) (fun K hK => ?_)
 refine wp_enter 132 #[.agg #[.bool na, .string sa, .bool false, .string da]] (by go_simp) ?_
 refine (Hda.out u2).mono ?_
 rintro e u3 ⟨rfl, hk2⟩
 have hk0 := hk0.trans hk2 (by simp)
 have hS0 := HSk.out _ hk0
 have Bgc := Lib.hid (hk2.heap Bgc.out (by simp))
 have Bgd := Lib.hid (hk2.heap Bgd.out (by simp))
 have Bge := Lib.hid (hk2.heap Bge.out (by simp))
 refine ⟨_, rfl, ?_⟩
 refine hK _ _ hS0 ?_
 clear hK K hk2
 refine heldT_one 9 (by kernel_rfl) (by decide) (by rfl) (by rfl) (fun K hK => ?_)
 refine wp_enter 131 #[.agg #[.bool nb, .string sb], .agg #[.bool nd, .string sd]] (by go_simp) ?_
 refine (Hm2.out u3).mono ?_
 rintro e u4 ⟨rfl, hk2⟩
 have hk0 := hk0.trans hk2 (by simp)
 have hS0 := HSk.out _ hk0
 have Bgc := Lib.hid (hk2.heap Bgc.out (by simp))
 have Bgd := Lib.hid (hk2.heap Bgd.out (by simp))
 have Bge := Lib.hid (hk2.heap Bge.out (by simp))
 refine ⟨_, rfl, ?_⟩
 refine hK _ _ hS0 ?_
 clear hK K hk2
 refine heldT_one 11 (by kernel_rfl) (by decide) (by rfl) (by rfl) (fun K hK => ?_)
 refine wp_enter 132 #[.agg #[.bool na, .string sa, .bool false, .string da]] (by go_simp) ?_
 refine (Hda.out u4).mono ?_
 rintro e u5 ⟨rfl, hk2⟩
 have hk0 := hk0.trans hk2 (by simp)
 have hS0 := HSk.out _ hk0
 have Bgc := Lib.hid (hk2.heap Bgc.out (by simp))
 have Bgd := Lib.hid (hk2.heap Bgd.out (by simp))
 have Bge := Lib.hid (hk2.heap Bge.out (by simp))
 refine ⟨_, rfl, ?_⟩
 refine hK _ _ hS0 ?_
 clear hK K hk2
 refine heldT_one 13 (by kernel_rfl) (by decide) (by rfl) (by rfl) (fun K hK => ?_)
 refine wp_enter 132 #[.agg #[.bool nb, .string sb, .bool false, .string db]] (by go_simp) ?_
 refine (Hdb.out u5).mono ?_
 rintro e u6 ⟨rfl, hk2⟩
 have hk0 := hk0.trans hk2 (by simp)
 have hS0 := HSk.out _ hk0
 have Bgc := Lib.hid (hk2.heap Bgc.out (by simp))
 have Bgd := Lib.hid (hk2.heap Bgd.out (by simp))
 have Bge := Lib.hid (hk2.heap Bge.out (by simp))
 refine ⟨_, rfl, ?_⟩
 refine hK _ _ hS0 ?_
 clear hK K hk2
 refine heldT_one 14 (by kernel_rfl) (by decide) (by rfl) (by rfl) (fun K hK => ?_)
 refine wp_enter 131 #[.agg #[.bool nd, .string sd], .agg #[.bool ne, .string se]] (by go_simp) ?_
 refine (Hm3.out u6).mono ?_
 rintro e u7 ⟨rfl, hk2⟩
 have hk0 := hk0.trans hk2 (by simp)
 have hS0 := HSk.out _ hk0
 have Bgc := Lib.hid (hk2.heap Bgc.out (by simp))
 have Bgd := Lib.hid (hk2.heap Bgd.out (by simp))
 have Bge := Lib.hid (hk2.heap Bge.out (by simp))
 refine ⟨_, rfl, ?_⟩
 refine hK _ _ hS0 ?_
 clear hK K hk2
 have pgc := cell_of Bgc.out
 have fgc := frozen_of Bgc.out
 have lgc := lt_of_heap Bgc.out
 refine heldT_one 15 (by kernel_rfl) (by decide) (by rfl) (by rfl) (fun K hK => ?_)
 go_simp
 obtain ⟨v1, hv1, bgc1, hkv⟩ := st2 (x := .bool n1) (y := .string s1) Bgc.out
 rw [← hv1]
 have hk1 := hk0.trans hkv (by simp)
 have hS1 := HSk.out _ hk1
 have Bgc1 := Lib.hid bgc1
 have Bgd1 := Lib.hid (hkv.heap Bgd.out (by simp; omega))
 have Bge1 := Lib.hid (hkv.heap Bge.out (by simp; omega))
 refine hK _ _ hS1 ?_
 clear hK K hv1 bgc1 hkv Bgc Bgd Bge hk0 hS0 pgc fgc lgc
 have pgd := cell_of Bgd1.out
 have fgd := frozen_of Bgd1.out
 have lgd := lt_of_heap Bgd1.out
 refine heldT_one 16 (by kernel_rfl) (by decide) (by rfl) (by rfl) (fun K hK => ?_)
 go_simp
 obtain ⟨v2, hv2, bgd2, hkv⟩ := st2 (x := .bool n2) (y := .string s2) Bgd1.out
 rw [← hv2]
 have hk2 := hk1.trans hkv (by simp)
 have hS2 := HSk.out _ hk2
 have Bgd := Lib.hid bgd2
 have Bgc := Lib.hid (hkv.heap Bgc1.out (by simp; omega))
 have Bge := Lib.hid (hkv.heap Bge1.out (by simp; omega))
 refine hK _ _ hS2 ?_
 clear hK K hv2 bgd2 hkv Bgc1 Bgd1 Bge1 hk1 hS1 pgd fgd lgd
 refine ⟨by kernel_rfl, ?_⟩
 simp only [List.drop_succ_cons, List.drop_zero]
 have HkW := Lib.hid (HkW.out.trans hk2 (by simp; omega))
 clear hS2 hk2 HSk
 have pgc := cell_of Bgc.out
 have fgc := frozen_of Bgc.out
 have lgc := lt_of_heap Bgc.out
 have pgd := cell_of Bgd.out
 have fgd := frozen_of Bgd.out
 have lgd := lt_of_heap Bgd.out
 have pge := cell_of Bge.out
 have fge := frozen_of Bge.out
 have lge := lt_of_heap Bge.out
 go_wp2_with fail
 refine bodyPost_ret (v := .tuple #[.agg #[.bool n1, .string s1], .agg #[.bool n2, .string s2], .agg #[.bool n3, .string s3]]) ?_ rfl ⟨rfl, by repeat (first | (with_reducible exact HkW.out) | (refine Keep.setPast ?_ _ _ _ (by omega)) | (refine Keep.allocPast ?_ _) | (refine Keep.drewPast ?_))⟩
 simp [results, Tryz.results128, go_sem]
 go_simp
theorem cross_c (a b : Rat) (ha : FitQ 10000000000 a) (hb : FitQ 10000000000 b) (w : World) :
  Calls Tryz.prog 128 #[rv a, rv b] w fun e w' => e = .returned (.tuple #[zv (crX a b), zv (crY a b), zv (crD a b)]) ∧ Keep [] w w' := by
 have heq := eqD_run a b
 unfold crX crY crD
 by_cases h : a.den = b.den
 ·rw [if_pos h, if_pos h, if_pos h]
  have hdt : decide (a.den = b.den) = true := by simpa using h
  rw [hdt] at heq
  exact cross_eq _ _ _ _ _ _ _ _ heq (Den_c a) w
 ·rw [if_neg h, if_neg h, if_neg h]
  have hdt : decide (a.den = b.den) = false := by simpa using h
  rw [hdt] at heq
  exact cross_ne _ _ _ _ _ _ _ _ _ _ _ _ _ _ _ _ heq (Den_c a) (Den_c b) (Mul_c a.num b.den (ha.1.mono (by decide)) (hb.2.mono (by decide))) (Mul_c b.num a.den (hb.1.mono (by decide)) (ha.2.mono (by decide))) (Mul_c a.den b.den (ha.2.mono (by decide)) (hb.2.mono (by decide))) w
end Go.Proofs.YteknldaoegccaaaGreatDoor
set_option maxRecDepth 100000
namespace Go.Proofs.YteknldaoegccaaaGreatDoor
open Go.RowKit
def DivPost (w0 : World) (A B : Nat) (e : Ending) (w' : World) : Prop := ∃ v1 v2, e = .returned (.tuple #[v1, v2]) ∧ DR w' v1 (A / B) ∧ DR w' v2 (A % B) ∧ Keep [] w0 w'
theorem quo_nat (a b : Nat) : Int.tdiv (a : Int) (b : Int) = ((a / b : Nat) : Int) := rfl
theorem rem_nat (a b : Nat) : Int.tmod (a : Int) (b : Int) = ((a % b : Nat) : Int) := rfl
set_option maxHeartbeats 4000000 in
theorem divide_s (w : World) (v1 v2 : Value) (A B : Nat) (h1 : DR w v1 A) (h2 : DR w v2 B) (hA : Ln A ≤ 7) (hB : Ln B ≤ 7) (hB0 : 0 < B) :
  Calls Tryz.prog 124 #[v1, v2] w (DivPost w A B) := by
 have HS1 := Lib.hid (small_ok w v1 A h1 hA)
 have HS2 := Lib.hid (small_ok w v2 B h2 hB)
 have hA9 : A < 72057594037927936 := Nat.lt_of_lt_of_le (Ln_lt A) (Nat.le_trans (Nat.pow_le_pow_right (by decide) hA) (by decide))
 have hB9 : B < 72057594037927936 := Nat.lt_of_lt_of_le (Ln_lt B) (Nat.le_trans (Nat.pow_le_pow_right (by decide) hB) (by decide))
 have HL1 : Hid (∀ w', Calls Tryz.prog 158 #[.int .i64 ((A / B : Nat) : Int)] w' (Digits w' (A / B))) := fun w' => large_c w' _ (by have := Nat.div_le_self A B; omega)
 have HL2 : Hid (∀ w', Calls Tryz.prog 158 #[.int .i64 ((A % B : Nat) : Int)] w' (Digits w' (A % B))) := fun w' => large_c w' _ (by have := Nat.mod_lt A hB0; omega)
 obtain ⟨ao, ac, rfl, _⟩ := h1.form
 obtain ⟨bo, bc, rfl, _⟩ := h2.form
 clear h1 h2 hA hB
 generalize Ln A = n at *
 generalize Ln B = m at *
 have hq := quo_nat A B
 have hr := rem_nat A B
 have hq2 : (A : Int) / (B : Int) = ((A / B : Nat) : Int) := rfl
 have hr2 : (A : Int) % (B : Int) = ((A % B : Nat) : Int) := rfl
 have hB00 : ¬ B = 0 := by omega
 have hq9 : A / B < 72057594037927936 := by have := Nat.div_le_self A B; omega
 have hr9 : A % B < 72057594037927936 := by have := Nat.mod_lt A hB0; omega
 have hbz : ¬ ((B : Int) = 0) := by omega
 have hbz2 : ((B : Int) == 0) = false := by rw [beq_eq_false_iff_ne]; omega
 have hbp : (0 : Int) < (B : Int) := by omega
 generalize hQ : A / B = Q at *
 generalize hR : A % B = R at *
 have HQ := Lib.hid hQ
 have HR := Lib.hid hR
 clear hQ hR
 go_enter Tryz.func124, Tryz.ntmps124
 go_wp2_with fail
 refine HS1.out.mono ?_
 rintro e w2 ⟨rfl, rfl⟩
 dsimp only
 go_wp2_with fail
 refine HS2.out.mono ?_
 rintro e w3 ⟨rfl, rfl⟩
 dsimp only
 clear HS1 HS2
 go_wp2_with fail
 refine wp_region_heldT (S := fun _ => True) 9 (by kernel_rfl) (by kernel_rfl) (fun _ _ d _ _ h => by cases d <;> exact h) ?_
 have hk0 := Keep.drew [] w3
 generalize w3.drew = u0 at *
 refine' heldT_val (v := _) 0 (by rfl) (by decide) (by kernel_rfl) (by kernel_rfl) (by rfl) trivial (fun w hw => ?hrun0) (fun K hK => ?hnext0)
 case hrun0 => (go_simp; try rfl)
 rotate_left 0
 go_simp
 refine hK _ ?_
 clear hK K
 refine' heldT_val (v := _) 1 (by rfl) (by decide) (by kernel_rfl) (by kernel_rfl) (by rfl) trivial (fun w hw => ?hrun1) (fun K hK => ?hnext1)
 case hrun1 => (go_simp; try rfl)
 rotate_left 0
 go_simp
 refine hK _ ?_
 clear hK K
 refine' heldT_val (v := _) 2 (by rfl) (by decide) (by kernel_rfl) (by kernel_rfl) (by rfl) trivial (fun w hw => ?hrun2) (fun K hK => ?hnext2)
 case hrun2 => (go_simp; try rfl)
 rotate_left 0
 go_simp
 refine hK _ ?_
 clear hK K
 refine' heldT_val (v := _) 4 (by rfl) (by decide) (by kernel_rfl) (by kernel_rfl) (by rfl) trivial (fun w hw => ?hrun4) (fun K hK => ?hnext4)
 case hrun4 => (go_simp; try rfl)
 rotate_left 0
 go_simp
 refine hK _ ?_
 clear hK K
 refine' heldT_val (v := _) 5 (by rfl) (by decide) (by kernel_rfl) (by kernel_rfl) (by rfl) trivial (fun w hw => ?hrun5) (fun K hK => ?hnext5)
 case hrun5 => (go_simp; try rfl)
 rotate_left 0
 go_simp
 refine hK _ ?_
 clear hK K
 refine' heldT_val (v := _) 6 (by rfl) (by decide) (by kernel_rfl) (by kernel_rfl) (by rfl) trivial (fun w hw => ?hrun6) (fun K hK => ?hnext6)
 case hrun6 => (go_simp; try rfl)
 rotate_left 0
 go_simp
 refine hK _ ?_
 clear hK K
 have hw1 : IntKind.i64.wrap (Q : Int) = (Q : Int) := by simp [IntKind.wrap, IntKind.bits, IntKind.signed]; omega
 have hw2 : IntKind.i64.wrap (R : Int) = (R : Int) := by simp [IntKind.wrap, IntKind.bits, IntKind.signed]; omega
 refine heldT_one 3 (by kernel_rfl) (by decide) (by rfl) (by rfl) (fun K hK => ?_)
 refine wp_enter 158 #[.int .i64 (Q : Int)] (by go_simp) ?_
 refine (HL1.out _).mono ?_
 rintro e u1 ⟨x1, rfl, hd1, hk1⟩
 refine ⟨_, rfl, ?_⟩
 refine hK _ _ trivial ?_
 clear hK K
 refine heldT_one 7 (by kernel_rfl) (by decide) (by rfl) (by rfl) (fun K hK => ?_)
 refine wp_enter 158 #[.int .i64 (R : Int)] (by go_simp) ?_
 refine (HL2.out _).mono ?_
 rintro e u2 ⟨x2, rfl, hd2, hk2⟩
 refine ⟨_, rfl, ?_⟩
 refine hK _ _ trivial ?_
 clear hK K
 have HD1 := Lib.hid (hd1.later hk2)
 have HD2 := Lib.hid hd2
 have HK := Lib.hid ((hk0.trans0 hk1).trans0 hk2)
 clear hd1 hd2 hk0 hk1 hk2 HL1 HL2
 refine' heldT_val (v := _) 8 (by rfl) (by decide) (by kernel_rfl) (by kernel_rfl) (by rfl) trivial (fun w hw => ?hrun8) (fun K hK => ?hnext8)
 case hrun8 => (go_simp; try rfl)
 rotate_left 0
 go_simp
 refine hK _ ?_
 clear hK K
 refine ⟨by kernel_rfl, ?_⟩
 simp only [List.drop_succ_cons, List.drop_zero]
 go_wp2_with fail
 go_ret2
 exact ⟨x1, x2, rfl, by rw [HQ.out]; exact HD1.out, by rw [HR.out]; exact HD2.out, HK.out⟩
theorem dr_nil (w : World) : DR w (.slice none 0 0) 0 := ⟨.inl ⟨rfl, by unfold digs; rfl⟩, fun a n c e => by injection e with _ e2 e3; omega⟩
theorem small_any (w : World) (v : Value) (N : Nat) (h : DR w v N) (h9 : Ln N ≤ 1000000000) :
  Calls Tryz.prog 157 #[v] w fun e w' => ∃ (y : Int) (f : Bool), e = .returned (.tuple #[.int .i64 y, .bool f]) ∧ w' = w ∧ (7 < Ln N → f = false) := by
 by_cases h7 : Ln N ≤ 7
 ·refine (small_ok w v N h h7).mono ?_
  rintro e w' ⟨h1, h2⟩
  exact ⟨_, _, h1, h2, fun h => by omega⟩
 ·refine (small_no w v N h (by omega) h9).mono ?_
  rintro e w' ⟨h1, h2⟩
  exact ⟨_, _, h1, h2, fun h => rfl⟩
set_option maxHeartbeats 4000000 in
theorem divide_l (w : World) (v1 v2 : Value) (A B : Nat) (h1 : DR w v1 A) (h2 : DR w v2 B) (hA : Ln A ≤ 1000000000) (hB : Ln B ≤ 1000000000) (hB7 : 7 < Ln B) (hAB : A < B) :
  Calls Tryz.prog 124 #[v1, v2] w (DivPost w A B) := by
 have HS1 := Lib.hid (small_any w v1 A h1 hA)
 have HS2 := Lib.hid (small_any w v2 B h2 hB)
 have HC := Lib.hid (rcompare_c w v1 v2 A B h1 h2 hA hB)
 rw [cmpN_lt hAB] at HC
 have HE1 := Lib.hid (Nat.div_eq_of_lt hAB)
 have HE2 := Lib.hid (Nat.mod_eq_of_lt hAB)
 have H1 := Lib.hid h1
 have HB7 := Lib.hid hB7
 obtain ⟨ao, ac, rfl, _⟩ := h1.form
 obtain ⟨bo, bc, rfl, _⟩ := h2.form
 clear h1 h2 hA hB hAB hB7
 generalize Ln A = n at *
 generalize Ln B = m at *
 go_enter Tryz.func124, Tryz.ntmps124
 go_wp2_with fail
 refine HS1.out.mono ?_
 rintro e w2 ⟨y1, f1, rfl, rfl, _⟩
 dsimp only
 go_wp2_with fail
 refine HS2.out.mono ?_
 rintro e w3 ⟨y2, f2, rfl, rfl, hf2⟩
 obtain rfl := hf2 HB7.out
 dsimp only
 clear HS1 HS2 hf2
 cases f1
 ·go_wp2_with fail
  refine HC.out.mono ?_
  rintro e w4 ⟨rfl, hk⟩
  have Hk := Lib.hid hk
  clear hk
  dsimp only
  go_wp2_with fail
  go_ret2
  exact ⟨_, _, rfl, by rw [HE1.out]; exact dr_nil _, by rw [HE2.out]; exact H1.out.later Hk.out, Hk.out⟩
 ·go_wp2_with fail
  refine HC.out.mono ?_
  rintro e w4 ⟨rfl, hk⟩
  have Hk := Lib.hid hk
  clear hk
  dsimp only
  go_wp2_with fail
  go_ret2
  exact ⟨_, _, rfl, by rw [HE1.out]; exact dr_nil _, by rw [HE2.out]; exact H1.out.later Hk.out, Hk.out⟩
end Go.Proofs.YteknldaoegccaaaGreatDoor
