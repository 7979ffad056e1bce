import Derived.Test.YtgmggmpkbfljfaaSua
/- perform on a device that can fail. -/
set_option linter.unusedVariables false
set_option linter.unusedSimpArgs false
set_option maxRecDepth 100000
namespace Go.Proofs.Ytgmggmpkbfljfaa
open Go.RowKit
section
variable {t vb mb jb bk : Nat} {B : Bk} {A : Nat → Bk → HP}
def PL (A : Nat → Bk → HP) (vb mb t jb : Nat) (B : Bk) : HP := Sep (DvL t vb mb jb B) (A t B)
theorem pl_stab (I : BookI bk A) : Stab (PL A vb mb t jb B) := (dvl_stab _ _ _ _ _).sep (I.stab _ _)
theorem To.noPendL (I : BookI bk A) {R : HP} (hR : Stab R) {B' : Bk} {F : List Nat} {w wk : World} (h : To (Sep (Sep (DvL t vb mb jb B) (A t B')) R) F w wk) :
    ∃ gv pv, wk.heap[bk]? = some (.cells (bcells B'.ring B'.gen B'.first B'.place gv pv) 43 (0, 0)) ∧
      ∀ w', Keep [bk] wk w' → w'.heap[bk]? = some (.cells (bcells B'.ring B'.gen B'.first B'.place gv (.slice none 0 0)) 43 (0, 0)) → To (Sep (Sep (DvL t vb mb jb B) (A t { B' with pend := [] })) R) F w w' := by
  obtain ⟨F', ⟨F12, F3, ⟨F1, F2, h1, h2, d12, rfl⟩, h3, d3, rfl⟩, hk, hs⟩ := h
  obtain ⟨gv, pv, h4, h5⟩ := I.box _ _ _ _ h2
  exact ⟨gv, pv, h4, fun w' hk' hb => (To.sepL hR h3 d3 (To.sepR (dvl_stab _ _ _ _ _) h1 d12 (h5 w' hk' hb))).before hk hs⟩
theorem open_pl (I : BookI bk A) {R : HP} (hR : Stab R) {B' : Bk} {F : List Nat} {w wk : World} (h : To (Sep (Sep (DvL t vb mb jb B) (A t B')) R) F w wk) :
    Calls Try.prog 26 #[.pointer (some ⟨vb, 0, none⟩)] wk fun e w' => ∃ jb', e = .returned (.tuple #[.pointer (some ⟨jb', 0, none⟩), .int .i64 0]) ∧ To (Sep (Sep (DvL t vb mb jb' { B with pend := [] }) (A t B')) R) F w w' := by
  obtain ⟨F', ⟨F12, F3, ⟨F1, F2, h1, h2, d12, rfl⟩, h3, d3, rfl⟩, hk, hs⟩ := h
  refine (open_l wk F1 h1).mono ?_
  rintro e w' ⟨jb', rfl, ht⟩
  exact ⟨jb', rfl, (To.sepL hR h3 d3 (To.sepL (I.stab t B') h2 d12 ht)).before hk hs⟩
set_option maxHeartbeats 4000000 in
theorem perl_app0 (I : BookI bk A) (ht : t + 1 ≤ 900) (x : OpJ) (hx : x.ok) (hk : x.kind % 8 = 0) (w : World) (F : List Nat) (h : PL A vb mb t jb B w F) : Calls Try.prog 33 #[.pointer (some ⟨vb, 0, none⟩), .pointer (some ⟨jb, 0, none⟩), .pointer (some ⟨bk, 0, none⟩), .agg #[.int .u8 x.kind, .int .i8 x.num, .int .u16 x.rcd]] w fun e w' => ∃ jb', e = .returned (.tuple #[.pointer (some ⟨jb', 0, none⟩), .bool true]) ∧ (x.kind % 8 ≠ 7 → jb' = jb) ∧ To (PL A vb mb (t + 1) jb' (bOp x B)) F w w' := by
  have HX := Lib.hid (To.addBox (pl_stab I) h #[.int .u8 x.kind, .int .i8 x.num, .int .u16 x.rcd] 64)
  have hcx := cell_of HX.out.boxAt
  clear h
  have hR := Lib.hid (fun w => record_c x.rcd hx.rcd w)
  have hsz := recN_size x.rcd
  have hb : bOp x B = (bApp B (recN x.rcd)).2 := if_pos (by omega)
  rw [hb]
  clear hb
  generalize recN x.rcd = s at *
  have HM1 := Lib.hid (((append_l (t := t) (vb := vb) (mb := mb) (jb := jb) (B := B) s (by omega)).L (I.stab t B)).L (boxH_stab w.heap.size #[.int .u8 x.kind, .int .i8 x.num, .int .u16 x.rcd] 64))
  have HM2 := Lib.hid (((I.app t B s (by omega)).R (dvl_stab t vb mb jb (bApp B s).2)).L (boxH_stab w.heap.size #[.int .u8 x.kind, .int .i8 x.num, .int .u16 x.rcd] 64))
  have HE : Hid (∀ wk, To (Sep (PL A vb mb t jb (bApp B s).2) (BoxH w.heap.size #[.int .u8 x.kind, .int .i8 x.num, .int .u16 x.rcd] 64)) F w wk → To (PL A vb mb (t + 1) jb (bApp B s).2) F w wk) := fun wk h => h.fst.imp fun w F ⟨F1, F2, h1, h2, h3⟩ => ⟨F1, F2, h1.up (by omega) ht, I.up _ _ _ _ _ h2 (by omega) ht, h3⟩
  have hstab : Hid (∀ B1 B2, Stab (Sep (Sep (DvL t vb mb jb B1) (A t B2)) (BoxH w.heap.size #[.int .u8 x.kind, .int .i8 x.num, .int .u16 x.rcd] 64))) := fun B1 B2 => ((dvl_stab _ _ _ _ _).sep (I.stab _ _)).sep (boxH_stab _ _ _)
  generalize (bApp B s).1 = rc at *
  generalize (bApp B s).2 = B1 at *
  obtain ⟨kd, nm, rd⟩ := x
  dsimp only at hk hx hcx HM1 HM2 HE hstab HX hR ⊢
  obtain ⟨hx1, hx2, hx3⟩ := hx
  dsimp only at hx1 hx2 hx3
  have HX1 : Hid (∀ wk, Keep [] (w.alloc (.cells #[.int .u8 kd, .int .i8 nm, .int .u16 rd] 64)) wk → To (Sep (PL A vb mb t jb B) (BoxH w.heap.size #[.int .u8 kd, .int .i8 nm, .int .u16 rd] 64)) F w wk) := fun wk hk => HX.out.keptF (hstab.out _ _) hk
  clear HX
  have hk' : kd % 8 = 0 := hk
  have t0 : ((kd : Int) % 8 == 0) = true := by rw [beq_iff_eq]; omega
  go_enter Try.func33, Try.ntmps33
  go_wp2_with fail
  refine wp_region_heldT (S := fun W => W.cell? ⟨w.heap.size, 2, none⟩ = some (.int .u16 rd)) 13 (by kernel_rfl) (by kernel_rfl) (fun _ _ d _ _ h => by cases d <;> exact h) ?_
  have hS0 : (w.alloc (.cells #[.int .u8 kd, .int .i8 nm, .int .u16 rd] 64)).drew.cell? ⟨w.heap.size, 2, none⟩ = some (.int .u16 rd) := hcx 2
  have hk0 : Keep [] (w.alloc (.cells #[.int .u8 kd, .int .i8 nm, .int .u16 rd] 64)) (w.alloc (.cells #[.int .u8 kd, .int .i8 nm, .int .u16 rd] 64)).drew := Keep.drew _ _
  have HX2 := Lib.hid (HX1.out _ hk0)
  generalize (w.alloc (.cells #[.int .u8 kd, .int .i8 nm, .int .u16 rd] 64)).drew = w1 at *
  clear hcx hk0 HX1
  refine' heldT_val (v := _) 0 (by rfl) (by decide) (by kernel_rfl) (by kernel_rfl) (by rfl) hS0 (fun w hw => ?hrun0) (fun K hK => ?hnext0)
  case hrun0 => (go_simp; try rfl)
  rotate_left 0
  go_simp
  refine hK _ ?_
  clear hK K
  refine' heldT_val (v := _) 1 (by rfl) (by decide) (by kernel_rfl) (by kernel_rfl) (by rfl) hS0 (fun w hw => ?hrun1) (fun K hK => ?hnext1)
  case hrun1 => (go_simp; try rfl)
  rotate_left 0
  go_simp
  refine hK _ ?_
  clear hK K
  refine' heldT_val (v := _) 2 (by rfl) (by decide) (by kernel_rfl) (by kernel_rfl) (by rfl) hS0 (fun w hw => ?hrun2) (fun K hK => ?hnext2)
  case hrun2 => (go_simp; try rfl)
  rotate_left 0
  go_simp
  refine hK _ ?_
  clear hK K
  refine' heldT_val (v := _) 3 (by rfl) (by decide) (by kernel_rfl) (by kernel_rfl) (by rfl) hS0 (fun w hw => ?hrun3) (fun K hK => ?hnext3)
  case hrun3 => (go_simp; try rfl)
  rotate_left 0
  go_simp
  refine hK _ ?_
  clear hK K
  refine' heldT_val (v := _) 6 (by rfl) (by decide) (by kernel_rfl) (by kernel_rfl) (by rfl) hS0 (fun w hw => ?hrun6) (fun K hK => ?hnext6)
  case hrun6 => (go_simp; try rfl)
  rotate_left 0
  go_simp
  refine hK _ ?_
  clear hK K
  refine' heldT_val (v := _) 7 (by rfl) (by decide) (by kernel_rfl) (by kernel_rfl) (by rfl) hS0 (fun w hw => ?hrun7) (fun K hK => ?hnext7)
  case hrun7 => (go_simp; try rfl)
  rotate_left 0
  go_simp
  refine hK _ ?_
  clear hK K
  refine' heldT_val (v := _) 8 (by rfl) (by decide) (by kernel_rfl) (by kernel_rfl) (by rfl) hS0 (fun w hw => ?hrun8) (fun K hK => ?hnext8)
  case hrun8 => (go_simp; try rfl)
  rotate_left 0
  go_simp
  refine hK _ ?_
  clear hK K
  refine heldT_one 4 (by kernel_rfl) (by decide) (by rfl) (by rfl) (fun K hK => ?_)
  refine wp_enter 17 #[.int .u16 rd] (by go_simp) ?_
  refine (hR.out w1).mono ?_
  rintro e w2 ⟨rfl, hb2⟩
  have HX3 := Lib.hid (HX2.out.keptF (hstab.out _ _) (Keep.of_below hb2))
  have hS0 : w2.cell? ⟨w.heap.size, 2, none⟩ = some (.int .u16 rd) := cell_of HX3.out.boxAt 2
  refine ⟨_, rfl, ?_⟩
  refine hK _ _ hS0 ?_
  clear hK K hb2 HX2
  refine heldT_one 5 (by kernel_rfl) (by decide) (by rfl) (by rfl) (fun K hK => ?_)
  refine wp_enter 13 #[.pointer (some ⟨jb, 0, none⟩), .string s] (by go_simp) ?_
  refine (HX3.out.callF HM1.out).mono ?_
  rintro e w3 ⟨rfl, ht3⟩
  have HX4 := Lib.hid ht3
  have hS0 : w3.cell? ⟨w.heap.size, 2, none⟩ = some (.int .u16 rd) := cell_of HX4.out.boxAt 2
  refine ⟨_, rfl, ?_⟩
  refine hK _ _ hS0 ?_
  clear hK K ht3 HX3
  refine heldT_one 9 (by kernel_rfl) (by decide) (by rfl) (by rfl) (fun K hK => ?_)
  refine wp_enter 17 #[.int .u16 rd] (by go_simp) ?_
  refine (hR.out w3).mono ?_
  rintro e w4 ⟨rfl, hb4⟩
  have HX5 := Lib.hid (HX4.out.keptF (hstab.out _ _) (Keep.of_below hb4))
  have hS0 : w4.cell? ⟨w.heap.size, 2, none⟩ = some (.int .u16 rd) := cell_of HX5.out.boxAt 2
  refine ⟨_, rfl, ?_⟩
  refine hK _ _ hS0 ?_
  clear hK K hb4 HX4
  refine heldT_one 10 (by kernel_rfl) (by decide) (by rfl) (by rfl) (fun K hK => ?_)
  refine wp_enter 18 #[.pointer (some ⟨bk, 0, none⟩), .string s] (by go_simp) ?_
  refine (HX5.out.callF HM2.out).mono ?_
  rintro e w5 ⟨rfl, ht5⟩
  have HX6 := Lib.hid ht5
  have hS0 : w5.cell? ⟨w.heap.size, 2, none⟩ = some (.int .u16 rd) := cell_of HX6.out.boxAt 2
  refine ⟨_, rfl, ?_⟩
  refine hK _ _ hS0 ?_
  clear hK K ht5 HX5
  refine' heldT_val (v := _) 11 (by rfl) (by decide) (by kernel_rfl) (by kernel_rfl) (by rfl) hS0 (fun w hw => ?hrun11) (fun K hK => ?hnext11)
  case hrun11 => (go_simp; try rfl)
  rotate_left 0
  go_simp
  refine hK _ ?_
  clear hK K
  refine' heldT_val (v := _) 12 (by rfl) (by decide) (by kernel_rfl) (by kernel_rfl) (by rfl) hS0 (fun w hw => ?hrun12) (fun K hK => ?hnext12)
  case hrun12 => (go_simp; try rfl)
  rotate_left 0
  go_simp
  refine hK _ ?_
  clear hK K
  refine ⟨by kernel_rfl, ?_⟩
  simp only [List.drop_succ_cons, List.drop_zero]
  go_wp2_with fail
  go_ret2
  exact ⟨jb, rfl, fun _ => rfl, HE.out _ HX6.out⟩
set_option maxHeartbeats 4000000 in
theorem perl_app1 (I : BookI bk A) (ht : t + 1 ≤ 900) (x : OpJ) (hx : x.ok) (hk : x.kind % 8 = 1) (w : World) (F : List Nat) (h : PL A vb mb t jb B w F) : Calls Try.prog 33 #[.pointer (some ⟨vb, 0, none⟩), .pointer (some ⟨jb, 0, none⟩), .pointer (some ⟨bk, 0, none⟩), .agg #[.int .u8 x.kind, .int .i8 x.num, .int .u16 x.rcd]] w fun e w' => ∃ jb', e = .returned (.tuple #[.pointer (some ⟨jb', 0, none⟩), .bool true]) ∧ (x.kind % 8 ≠ 7 → jb' = jb) ∧ To (PL A vb mb (t + 1) jb' (bOp x B)) F w w' := by
  have HX := Lib.hid (To.addBox (pl_stab I) h #[.int .u8 x.kind, .int .i8 x.num, .int .u16 x.rcd] 64)
  have hcx := cell_of HX.out.boxAt
  clear h
  have hR := Lib.hid (fun w => record_c x.rcd hx.rcd w)
  have hsz := recN_size x.rcd
  have hb : bOp x B = (bApp B (recN x.rcd)).2 := if_pos (by omega)
  rw [hb]
  clear hb
  generalize recN x.rcd = s at *
  have HM1 := Lib.hid (((append_l (t := t) (vb := vb) (mb := mb) (jb := jb) (B := B) s (by omega)).L (I.stab t B)).L (boxH_stab w.heap.size #[.int .u8 x.kind, .int .i8 x.num, .int .u16 x.rcd] 64))
  have HM2 := Lib.hid (((I.app t B s (by omega)).R (dvl_stab t vb mb jb (bApp B s).2)).L (boxH_stab w.heap.size #[.int .u8 x.kind, .int .i8 x.num, .int .u16 x.rcd] 64))
  have HE : Hid (∀ wk, To (Sep (PL A vb mb t jb (bApp B s).2) (BoxH w.heap.size #[.int .u8 x.kind, .int .i8 x.num, .int .u16 x.rcd] 64)) F w wk → To (PL A vb mb (t + 1) jb (bApp B s).2) F w wk) := fun wk h => h.fst.imp fun w F ⟨F1, F2, h1, h2, h3⟩ => ⟨F1, F2, h1.up (by omega) ht, I.up _ _ _ _ _ h2 (by omega) ht, h3⟩
  have hstab : Hid (∀ B1 B2, Stab (Sep (Sep (DvL t vb mb jb B1) (A t B2)) (BoxH w.heap.size #[.int .u8 x.kind, .int .i8 x.num, .int .u16 x.rcd] 64))) := fun B1 B2 => ((dvl_stab _ _ _ _ _).sep (I.stab _ _)).sep (boxH_stab _ _ _)
  generalize (bApp B s).1 = rc at *
  generalize (bApp B s).2 = B1 at *
  obtain ⟨kd, nm, rd⟩ := x
  dsimp only at hk hx hcx HM1 HM2 HE hstab HX hR ⊢
  obtain ⟨hx1, hx2, hx3⟩ := hx
  dsimp only at hx1 hx2 hx3
  have HX1 : Hid (∀ wk, Keep [] (w.alloc (.cells #[.int .u8 kd, .int .i8 nm, .int .u16 rd] 64)) wk → To (Sep (PL A vb mb t jb B) (BoxH w.heap.size #[.int .u8 kd, .int .i8 nm, .int .u16 rd] 64)) F w wk) := fun wk hk => HX.out.keptF (hstab.out _ _) hk
  clear HX
  have hk' : kd % 8 = 1 := hk
  have t0 : ((kd : Int) % 8 == 0) = false := by rw [beq_eq_false_iff_ne]; omega
  have t1 : ((kd : Int) % 8 == 1) = true := by rw [beq_iff_eq]; omega
  go_enter Try.func33, Try.ntmps33
  go_wp2_with fail
  refine wp_region_heldT (S := fun W => W.cell? ⟨w.heap.size, 2, none⟩ = some (.int .u16 rd)) 13 (by kernel_rfl) (by kernel_rfl) (fun _ _ d _ _ h => by cases d <;> exact h) ?_
  have hS0 : (w.alloc (.cells #[.int .u8 kd, .int .i8 nm, .int .u16 rd] 64)).drew.cell? ⟨w.heap.size, 2, none⟩ = some (.int .u16 rd) := hcx 2
  have hk0 : Keep [] (w.alloc (.cells #[.int .u8 kd, .int .i8 nm, .int .u16 rd] 64)) (w.alloc (.cells #[.int .u8 kd, .int .i8 nm, .int .u16 rd] 64)).drew := Keep.drew _ _
  have HX2 := Lib.hid (HX1.out _ hk0)
  generalize (w.alloc (.cells #[.int .u8 kd, .int .i8 nm, .int .u16 rd] 64)).drew = w1 at *
  clear hcx hk0 HX1
  refine' heldT_val (v := _) 0 (by rfl) (by decide) (by kernel_rfl) (by kernel_rfl) (by rfl) hS0 (fun w hw => ?hrun0) (fun K hK => ?hnext0)
  case hrun0 => (go_simp; try rfl)
  rotate_left 0
  go_simp
  refine hK _ ?_
  clear hK K
  refine' heldT_val (v := _) 1 (by rfl) (by decide) (by kernel_rfl) (by kernel_rfl) (by rfl) hS0 (fun w hw => ?hrun1) (fun K hK => ?hnext1)
  case hrun1 => (go_simp; try rfl)
  rotate_left 0
  go_simp
  refine hK _ ?_
  clear hK K
  refine' heldT_val (v := _) 2 (by rfl) (by decide) (by kernel_rfl) (by kernel_rfl) (by rfl) hS0 (fun w hw => ?hrun2) (fun K hK => ?hnext2)
  case hrun2 => (go_simp; try rfl)
  rotate_left 0
  go_simp
  refine hK _ ?_
  clear hK K
  refine' heldT_val (v := _) 3 (by rfl) (by decide) (by kernel_rfl) (by kernel_rfl) (by rfl) hS0 (fun w hw => ?hrun3) (fun K hK => ?hnext3)
  case hrun3 => (go_simp; try rfl)
  rotate_left 0
  go_simp
  refine hK _ ?_
  clear hK K
  refine' heldT_val (v := _) 6 (by rfl) (by decide) (by kernel_rfl) (by kernel_rfl) (by rfl) hS0 (fun w hw => ?hrun6) (fun K hK => ?hnext6)
  case hrun6 => (go_simp; try rfl)
  rotate_left 0
  go_simp
  refine hK _ ?_
  clear hK K
  refine' heldT_val (v := _) 7 (by rfl) (by decide) (by kernel_rfl) (by kernel_rfl) (by rfl) hS0 (fun w hw => ?hrun7) (fun K hK => ?hnext7)
  case hrun7 => (go_simp; try rfl)
  rotate_left 0
  go_simp
  refine hK _ ?_
  clear hK K
  refine' heldT_val (v := _) 8 (by rfl) (by decide) (by kernel_rfl) (by kernel_rfl) (by rfl) hS0 (fun w hw => ?hrun8) (fun K hK => ?hnext8)
  case hrun8 => (go_simp; try rfl)
  rotate_left 0
  go_simp
  refine hK _ ?_
  clear hK K
  refine heldT_one 4 (by kernel_rfl) (by decide) (by rfl) (by rfl) (fun K hK => ?_)
  refine wp_enter 17 #[.int .u16 rd] (by go_simp) ?_
  refine (hR.out w1).mono ?_
  rintro e w2 ⟨rfl, hb2⟩
  have HX3 := Lib.hid (HX2.out.keptF (hstab.out _ _) (Keep.of_below hb2))
  have hS0 : w2.cell? ⟨w.heap.size, 2, none⟩ = some (.int .u16 rd) := cell_of HX3.out.boxAt 2
  refine ⟨_, rfl, ?_⟩
  refine hK _ _ hS0 ?_
  clear hK K hb2 HX2
  refine heldT_one 5 (by kernel_rfl) (by decide) (by rfl) (by rfl) (fun K hK => ?_)
  refine wp_enter 13 #[.pointer (some ⟨jb, 0, none⟩), .string s] (by go_simp) ?_
  refine (HX3.out.callF HM1.out).mono ?_
  rintro e w3 ⟨rfl, ht3⟩
  have HX4 := Lib.hid ht3
  have hS0 : w3.cell? ⟨w.heap.size, 2, none⟩ = some (.int .u16 rd) := cell_of HX4.out.boxAt 2
  refine ⟨_, rfl, ?_⟩
  refine hK _ _ hS0 ?_
  clear hK K ht3 HX3
  refine heldT_one 9 (by kernel_rfl) (by decide) (by rfl) (by rfl) (fun K hK => ?_)
  refine wp_enter 17 #[.int .u16 rd] (by go_simp) ?_
  refine (hR.out w3).mono ?_
  rintro e w4 ⟨rfl, hb4⟩
  have HX5 := Lib.hid (HX4.out.keptF (hstab.out _ _) (Keep.of_below hb4))
  have hS0 : w4.cell? ⟨w.heap.size, 2, none⟩ = some (.int .u16 rd) := cell_of HX5.out.boxAt 2
  refine ⟨_, rfl, ?_⟩
  refine hK _ _ hS0 ?_
  clear hK K hb4 HX4
  refine heldT_one 10 (by kernel_rfl) (by decide) (by rfl) (by rfl) (fun K hK => ?_)
  refine wp_enter 18 #[.pointer (some ⟨bk, 0, none⟩), .string s] (by go_simp) ?_
  refine (HX5.out.callF HM2.out).mono ?_
  rintro e w5 ⟨rfl, ht5⟩
  have HX6 := Lib.hid ht5
  have hS0 : w5.cell? ⟨w.heap.size, 2, none⟩ = some (.int .u16 rd) := cell_of HX6.out.boxAt 2
  refine ⟨_, rfl, ?_⟩
  refine hK _ _ hS0 ?_
  clear hK K ht5 HX5
  refine' heldT_val (v := _) 11 (by rfl) (by decide) (by kernel_rfl) (by kernel_rfl) (by rfl) hS0 (fun w hw => ?hrun11) (fun K hK => ?hnext11)
  case hrun11 => (go_simp; try rfl)
  rotate_left 0
  go_simp
  refine hK _ ?_
  clear hK K
  refine' heldT_val (v := _) 12 (by rfl) (by decide) (by kernel_rfl) (by kernel_rfl) (by rfl) hS0 (fun w hw => ?hrun12) (fun K hK => ?hnext12)
  case hrun12 => (go_simp; try rfl)
  rotate_left 0
  go_simp
  refine hK _ ?_
  clear hK K
  refine ⟨by kernel_rfl, ?_⟩
  simp only [List.drop_succ_cons, List.drop_zero]
  go_wp2_with fail
  go_ret2
  exact ⟨jb, rfl, fun _ => rfl, HE.out _ HX6.out⟩
set_option maxHeartbeats 4000000 in
theorem perl_app2 (I : BookI bk A) (ht : t + 1 ≤ 900) (x : OpJ) (hx : x.ok) (hk : x.kind % 8 = 2) (w : World) (F : List Nat) (h : PL A vb mb t jb B w F) : Calls Try.prog 33 #[.pointer (some ⟨vb, 0, none⟩), .pointer (some ⟨jb, 0, none⟩), .pointer (some ⟨bk, 0, none⟩), .agg #[.int .u8 x.kind, .int .i8 x.num, .int .u16 x.rcd]] w fun e w' => ∃ jb', e = .returned (.tuple #[.pointer (some ⟨jb', 0, none⟩), .bool true]) ∧ (x.kind % 8 ≠ 7 → jb' = jb) ∧ To (PL A vb mb (t + 1) jb' (bOp x B)) F w w' := by
  have HX := Lib.hid (To.addBox (pl_stab I) h #[.int .u8 x.kind, .int .i8 x.num, .int .u16 x.rcd] 64)
  have hcx := cell_of HX.out.boxAt
  clear h
  have hR := Lib.hid (fun w => record_c x.rcd hx.rcd w)
  have hsz := recN_size x.rcd
  have hb : bOp x B = (bApp B (recN x.rcd)).2 := if_pos (by omega)
  rw [hb]
  clear hb
  generalize recN x.rcd = s at *
  have HM1 := Lib.hid (((append_l (t := t) (vb := vb) (mb := mb) (jb := jb) (B := B) s (by omega)).L (I.stab t B)).L (boxH_stab w.heap.size #[.int .u8 x.kind, .int .i8 x.num, .int .u16 x.rcd] 64))
  have HM2 := Lib.hid (((I.app t B s (by omega)).R (dvl_stab t vb mb jb (bApp B s).2)).L (boxH_stab w.heap.size #[.int .u8 x.kind, .int .i8 x.num, .int .u16 x.rcd] 64))
  have HE : Hid (∀ wk, To (Sep (PL A vb mb t jb (bApp B s).2) (BoxH w.heap.size #[.int .u8 x.kind, .int .i8 x.num, .int .u16 x.rcd] 64)) F w wk → To (PL A vb mb (t + 1) jb (bApp B s).2) F w wk) := fun wk h => h.fst.imp fun w F ⟨F1, F2, h1, h2, h3⟩ => ⟨F1, F2, h1.up (by omega) ht, I.up _ _ _ _ _ h2 (by omega) ht, h3⟩
  have hstab : Hid (∀ B1 B2, Stab (Sep (Sep (DvL t vb mb jb B1) (A t B2)) (BoxH w.heap.size #[.int .u8 x.kind, .int .i8 x.num, .int .u16 x.rcd] 64))) := fun B1 B2 => ((dvl_stab _ _ _ _ _).sep (I.stab _ _)).sep (boxH_stab _ _ _)
  generalize (bApp B s).1 = rc at *
  generalize (bApp B s).2 = B1 at *
  obtain ⟨kd, nm, rd⟩ := x
  dsimp only at hk hx hcx HM1 HM2 HE hstab HX hR ⊢
  obtain ⟨hx1, hx2, hx3⟩ := hx
  dsimp only at hx1 hx2 hx3
  have HX1 : Hid (∀ wk, Keep [] (w.alloc (.cells #[.int .u8 kd, .int .i8 nm, .int .u16 rd] 64)) wk → To (Sep (PL A vb mb t jb B) (BoxH w.heap.size #[.int .u8 kd, .int .i8 nm, .int .u16 rd] 64)) F w wk) := fun wk hk => HX.out.keptF (hstab.out _ _) hk
  clear HX
  have hk' : kd % 8 = 2 := hk
  have t0 : ((kd : Int) % 8 == 0) = false := by rw [beq_eq_false_iff_ne]; omega
  have t1 : ((kd : Int) % 8 == 1) = false := by rw [beq_eq_false_iff_ne]; omega
  have t2 : ((kd : Int) % 8 == 2) = true := by rw [beq_iff_eq]; omega
  go_enter Try.func33, Try.ntmps33
  go_wp2_with fail
  refine wp_region_heldT (S := fun W => W.cell? ⟨w.heap.size, 2, none⟩ = some (.int .u16 rd)) 13 (by kernel_rfl) (by kernel_rfl) (fun _ _ d _ _ h => by cases d <;> exact h) ?_
  have hS0 : (w.alloc (.cells #[.int .u8 kd, .int .i8 nm, .int .u16 rd] 64)).drew.cell? ⟨w.heap.size, 2, none⟩ = some (.int .u16 rd) := hcx 2
  have hk0 : Keep [] (w.alloc (.cells #[.int .u8 kd, .int .i8 nm, .int .u16 rd] 64)) (w.alloc (.cells #[.int .u8 kd, .int .i8 nm, .int .u16 rd] 64)).drew := Keep.drew _ _
  have HX2 := Lib.hid (HX1.out _ hk0)
  generalize (w.alloc (.cells #[.int .u8 kd, .int .i8 nm, .int .u16 rd] 64)).drew = w1 at *
  clear hcx hk0 HX1
  refine' heldT_val (v := _) 0 (by rfl) (by decide) (by kernel_rfl) (by kernel_rfl) (by rfl) hS0 (fun w hw => ?hrun0) (fun K hK => ?hnext0)
  case hrun0 => (go_simp; try rfl)
  rotate_left 0
  go_simp
  refine hK _ ?_
  clear hK K
  refine' heldT_val (v := _) 1 (by rfl) (by decide) (by kernel_rfl) (by kernel_rfl) (by rfl) hS0 (fun w hw => ?hrun1) (fun K hK => ?hnext1)
  case hrun1 => (go_simp; try rfl)
  rotate_left 0
  go_simp
  refine hK _ ?_
  clear hK K
  refine' heldT_val (v := _) 2 (by rfl) (by decide) (by kernel_rfl) (by kernel_rfl) (by rfl) hS0 (fun w hw => ?hrun2) (fun K hK => ?hnext2)
  case hrun2 => (go_simp; try rfl)
  rotate_left 0
  go_simp
  refine hK _ ?_
  clear hK K
  refine' heldT_val (v := _) 3 (by rfl) (by decide) (by kernel_rfl) (by kernel_rfl) (by rfl) hS0 (fun w hw => ?hrun3) (fun K hK => ?hnext3)
  case hrun3 => (go_simp; try rfl)
  rotate_left 0
  go_simp
  refine hK _ ?_
  clear hK K
  refine' heldT_val (v := _) 6 (by rfl) (by decide) (by kernel_rfl) (by kernel_rfl) (by rfl) hS0 (fun w hw => ?hrun6) (fun K hK => ?hnext6)
  case hrun6 => (go_simp; try rfl)
  rotate_left 0
  go_simp
  refine hK _ ?_
  clear hK K
  refine' heldT_val (v := _) 7 (by rfl) (by decide) (by kernel_rfl) (by kernel_rfl) (by rfl) hS0 (fun w hw => ?hrun7) (fun K hK => ?hnext7)
  case hrun7 => (go_simp; try rfl)
  rotate_left 0
  go_simp
  refine hK _ ?_
  clear hK K
  refine' heldT_val (v := _) 8 (by rfl) (by decide) (by kernel_rfl) (by kernel_rfl) (by rfl) hS0 (fun w hw => ?hrun8) (fun K hK => ?hnext8)
  case hrun8 => (go_simp; try rfl)
  rotate_left 0
  go_simp
  refine hK _ ?_
  clear hK K
  refine heldT_one 4 (by kernel_rfl) (by decide) (by rfl) (by rfl) (fun K hK => ?_)
  refine wp_enter 17 #[.int .u16 rd] (by go_simp) ?_
  refine (hR.out w1).mono ?_
  rintro e w2 ⟨rfl, hb2⟩
  have HX3 := Lib.hid (HX2.out.keptF (hstab.out _ _) (Keep.of_below hb2))
  have hS0 : w2.cell? ⟨w.heap.size, 2, none⟩ = some (.int .u16 rd) := cell_of HX3.out.boxAt 2
  refine ⟨_, rfl, ?_⟩
  refine hK _ _ hS0 ?_
  clear hK K hb2 HX2
  refine heldT_one 5 (by kernel_rfl) (by decide) (by rfl) (by rfl) (fun K hK => ?_)
  refine wp_enter 13 #[.pointer (some ⟨jb, 0, none⟩), .string s] (by go_simp) ?_
  refine (HX3.out.callF HM1.out).mono ?_
  rintro e w3 ⟨rfl, ht3⟩
  have HX4 := Lib.hid ht3
  have hS0 : w3.cell? ⟨w.heap.size, 2, none⟩ = some (.int .u16 rd) := cell_of HX4.out.boxAt 2
  refine ⟨_, rfl, ?_⟩
  refine hK _ _ hS0 ?_
  clear hK K ht3 HX3
  refine heldT_one 9 (by kernel_rfl) (by decide) (by rfl) (by rfl) (fun K hK => ?_)
  refine wp_enter 17 #[.int .u16 rd] (by go_simp) ?_
  refine (hR.out w3).mono ?_
  rintro e w4 ⟨rfl, hb4⟩
  have HX5 := Lib.hid (HX4.out.keptF (hstab.out _ _) (Keep.of_below hb4))
  have hS0 : w4.cell? ⟨w.heap.size, 2, none⟩ = some (.int .u16 rd) := cell_of HX5.out.boxAt 2
  refine ⟨_, rfl, ?_⟩
  refine hK _ _ hS0 ?_
  clear hK K hb4 HX4
  refine heldT_one 10 (by kernel_rfl) (by decide) (by rfl) (by rfl) (fun K hK => ?_)
  refine wp_enter 18 #[.pointer (some ⟨bk, 0, none⟩), .string s] (by go_simp) ?_
  refine (HX5.out.callF HM2.out).mono ?_
  rintro e w5 ⟨rfl, ht5⟩
  have HX6 := Lib.hid ht5
  have hS0 : w5.cell? ⟨w.heap.size, 2, none⟩ = some (.int .u16 rd) := cell_of HX6.out.boxAt 2
  refine ⟨_, rfl, ?_⟩
  refine hK _ _ hS0 ?_
  clear hK K ht5 HX5
  refine' heldT_val (v := _) 11 (by rfl) (by decide) (by kernel_rfl) (by kernel_rfl) (by rfl) hS0 (fun w hw => ?hrun11) (fun K hK => ?hnext11)
  case hrun11 => (go_simp; try rfl)
  rotate_left 0
  go_simp
  refine hK _ ?_
  clear hK K
  refine' heldT_val (v := _) 12 (by rfl) (by decide) (by kernel_rfl) (by kernel_rfl) (by rfl) hS0 (fun w hw => ?hrun12) (fun K hK => ?hnext12)
  case hrun12 => (go_simp; try rfl)
  rotate_left 0
  go_simp
  refine hK _ ?_
  clear hK K
  refine ⟨by kernel_rfl, ?_⟩
  simp only [List.drop_succ_cons, List.drop_zero]
  go_wp2_with fail
  go_ret2
  exact ⟨jb, rfl, fun _ => rfl, HE.out _ HX6.out⟩
set_option maxHeartbeats 4000000 in
theorem perl_disc (I : BookI bk A) (ht : t + 1 ≤ 900) (x : OpJ) (hx : x.ok) (hk : x.kind % 8 = 6) (w : World) (F : List Nat) (h : PL A vb mb t jb B w F) : Calls Try.prog 33 #[.pointer (some ⟨vb, 0, none⟩), .pointer (some ⟨jb, 0, none⟩), .pointer (some ⟨bk, 0, none⟩), .agg #[.int .u8 x.kind, .int .i8 x.num, .int .u16 x.rcd]] w fun e w' => ∃ jb', e = .returned (.tuple #[.pointer (some ⟨jb', 0, none⟩), .bool true]) ∧ (x.kind % 8 ≠ 7 → jb' = jb) ∧ To (PL A vb mb (t + 1) jb' (bOp x B)) F w w' := by
  obtain ⟨kd, nm, rd⟩ := x
  obtain ⟨hx1, hx2, hx3⟩ := hx
  dsimp only at hx1 hx2 hx3 ⊢
  have HX := Lib.hid (To.addBox (pl_stab I) h #[.int .u8 kd, .int .i8 nm, .int .u16 rd] 64)
  have hcx := cell_of HX.out.boxAt
  clear h
  have hk' : kd % 8 = 6 := hk
  obtain ⟨gv, pv, hbx, hnp⟩ := To.noPendL I (boxH_stab _ _ _) HX.out
  have hcb := cell_of hbx
  have hfb := frozen_of hbx
  have hlt := lt_of_heap hbx
  simp only [bcells] at hcb
  have hb : bOp ⟨kd, nm, rd⟩ B = { B with pend := [] } := by
    unfold bOp
    dsimp only at hk ⊢
    rw [if_neg (by omega), if_neg (by omega), if_neg (by omega)]
  rw [hb]
  clear hb
  have HM1 := Lib.hid (((discard_l (t := t) (vb := vb) (mb := mb) (jb := jb) (B := B)).L (I.stab t { B with pend := [] })).L (boxH_stab w.heap.size #[.int .u8 kd, .int .i8 nm, .int .u16 rd] 64))
  have HE : Hid (∀ wk, To (Sep (PL A vb mb t jb { B with pend := [] }) (BoxH w.heap.size #[.int .u8 kd, .int .i8 nm, .int .u16 rd] 64)) F w wk → To (PL A vb mb (t + 1) jb { B with pend := [] }) F w wk) := fun wk h => h.fst.imp fun w F ⟨F1, F2, h1, h2, h3⟩ => ⟨F1, F2, h1.up (by omega) ht, I.up _ _ _ _ _ h2 (by omega) ht, h3⟩
  have t0 : ((kd : Int) % 8 == 0) = false := by rw [beq_eq_false_iff_ne]; omega
  have t1 : ((kd : Int) % 8 == 1) = false := by rw [beq_eq_false_iff_ne]; omega
  have t2 : ((kd : Int) % 8 == 2) = false := by rw [beq_eq_false_iff_ne]; omega
  have t3 : ((kd : Int) % 8 == 3) = false := by rw [beq_eq_false_iff_ne]; omega
  have t4 : ((kd : Int) % 8 == 4) = false := by rw [beq_eq_false_iff_ne]; omega
  have t5 : ((kd : Int) % 8 == 5) = false := by rw [beq_eq_false_iff_ne]; omega
  have t6 : ((kd : Int) % 8 == 6) = true := by rw [beq_iff_eq]; omega
  have Hnp := Lib.hid hnp
  have Hbx := Lib.hid hbx
  clear hk hk' hnp hbx
  go_enter Try.func33, Try.ntmps33
  go_wp2_with fail
  have HX2 := Lib.hid (Hnp.out _ (Keep.setCell [bk] _ _ _ _ (by simp)) (set_same Hbx.out 5 (.slice none 0 0)))
  generalize (w.alloc (.cells #[.int .u8 kd, .int .i8 nm, .int .u16 rd] 64)).setCell ⟨bk, 5, none⟩ (.slice none 0 0) = w1 at *
  clear HX hcx hcb hfb hlt Hnp Hbx
  refine (HX2.out.callF HM1.out).mono ?_
  rintro e w2 ⟨rfl, ht2⟩
  dsimp only
  have HX3 := Lib.hid ht2
  clear ht2 HX2
  go_wp2_with fail
  go_ret2
  exact ⟨jb, rfl, fun _ => rfl, HE.out _ HX3.out⟩
set_option maxHeartbeats 4000000 in
theorem perl_open (I : BookI bk A) (ht : t + 1 ≤ 900) (x : OpJ) (hx : x.ok) (hk : x.kind % 8 = 7) (w : World) (F : List Nat) (h : PL A vb mb t jb B w F) : Calls Try.prog 33 #[.pointer (some ⟨vb, 0, none⟩), .pointer (some ⟨jb, 0, none⟩), .pointer (some ⟨bk, 0, none⟩), .agg #[.int .u8 x.kind, .int .i8 x.num, .int .u16 x.rcd]] w fun e w' => ∃ jb', e = .returned (.tuple #[.pointer (some ⟨jb', 0, none⟩), .bool true]) ∧ (x.kind % 8 ≠ 7 → jb' = jb) ∧ To (PL A vb mb (t + 1) jb' (bOp x B)) F w w' := by
  obtain ⟨kd, nm, rd⟩ := x
  obtain ⟨hx1, hx2, hx3⟩ := hx
  dsimp only at hx1 hx2 hx3 ⊢
  have HX := Lib.hid (To.addBox (pl_stab I) h #[.int .u8 kd, .int .i8 nm, .int .u16 rd] 64)
  have hcx := cell_of HX.out.boxAt
  clear h
  have hk' : kd % 8 = 7 := hk
  have hb : bOp ⟨kd, nm, rd⟩ B = { B with pend := [] } := by
    unfold bOp
    dsimp only at hk ⊢
    rw [if_neg (by omega), if_neg (by omega), if_neg (by omega)]
  rw [hb]
  clear hb
  have HO := Lib.hid (open_pl I (boxH_stab _ _ _) HX.out)
  have HN : Hid (∀ jb' w', To (Sep (Sep (DvL t vb mb jb' { B with pend := [] }) (A t B)) (BoxH w.heap.size #[.int .u8 kd, .int .i8 nm, .int .u16 rd] 64)) F w w' → ∃ gv pv, w'.heap[bk]? = some (.cells (bcells B.ring B.gen B.first B.place gv pv) 43 (0, 0)) ∧
      ∀ w'', Keep [bk] w' w'' → w''.heap[bk]? = some (.cells (bcells B.ring B.gen B.first B.place gv (.slice none 0 0)) 43 (0, 0)) → To (Sep (Sep (DvL t vb mb jb' { B with pend := [] }) (A t { B with pend := [] })) (BoxH w.heap.size #[.int .u8 kd, .int .i8 nm, .int .u16 rd] 64)) F w w'') := fun jb' w' h => To.noPendL I (boxH_stab _ _ _) h
  have HE : Hid (∀ jb' wk, To (Sep (PL A vb mb t jb' { B with pend := [] }) (BoxH w.heap.size #[.int .u8 kd, .int .i8 nm, .int .u16 rd] 64)) F w wk → To (PL A vb mb (t + 1) jb' { B with pend := [] }) F w wk) := fun jb' wk h => h.fst.imp fun w F ⟨F1, F2, h1, h2, h3⟩ => ⟨F1, F2, h1.up (by omega) ht, I.up _ _ _ _ _ h2 (by omega) ht, h3⟩
  have t0 : ((kd : Int) % 8 == 0) = false := by rw [beq_eq_false_iff_ne]; omega
  have t1 : ((kd : Int) % 8 == 1) = false := by rw [beq_eq_false_iff_ne]; omega
  have t2 : ((kd : Int) % 8 == 2) = false := by rw [beq_eq_false_iff_ne]; omega
  have t3 : ((kd : Int) % 8 == 3) = false := by rw [beq_eq_false_iff_ne]; omega
  have t4 : ((kd : Int) % 8 == 4) = false := by rw [beq_eq_false_iff_ne]; omega
  have t5 : ((kd : Int) % 8 == 5) = false := by rw [beq_eq_false_iff_ne]; omega
  have t6 : ((kd : Int) % 8 == 6) = false := by rw [beq_eq_false_iff_ne]; omega
  clear hk hcx HX
  go_enter Try.func33, Try.ntmps33
  go_wp2_with fail
  refine HO.out.mono ?_
  rintro e w2 ⟨jb', rfl, ht2⟩
  dsimp only
  obtain ⟨gv, pv, hbx, hnp⟩ := HN.out jb' w2 ht2
  have hcb := cell_of hbx
  have hfb := frozen_of hbx
  have hlt := lt_of_heap hbx
  simp only [bcells] at hcb
  have Hnp := Lib.hid hnp
  have Hbx := Lib.hid hbx
  clear hnp hbx HN HO ht2
  go_wp2_with fail
  go_ret2
  refine ⟨jb', rfl, fun h => absurd hk' h, HE.out jb' _ (Hnp.out _ (Keep.setCell [bk] _ _ _ _ (by simp)) (set_same Hbx.out 5 (.slice none 0 0)))⟩
end
end Go.Proofs.Ytgmggmpkbfljfaa

/- perform on a device that can fail: committing, dropping; all of it. -/
set_option linter.unusedVariables false
set_option linter.unusedSimpArgs false
set_option maxRecDepth 100000
namespace Go.Proofs.Ytgmggmpkbfljfaa
open Go.RowKit
section
variable {t vb mb jb bk : Nat} {B : Bk} {A : Nat → Bk → HP}
theorem commit_pl (I : BookI bk A) (ht : t + 1 ≤ 900) {R : HP} (hR : Stab R) {B' : Bk} {F : List Nat} {w wk : World} (h : To (Sep (Sep (DvL t vb mb jb B) (A t B')) R) F w wk) :
    Calls Try.prog 22 #[.pointer (some ⟨jb, 0, none⟩)] wk fun e w' =>
      (e = .returned (.tuple #[.int .i64 (bCommit B).1.1, .int .i64 (bCommit B).1.2]) ∧ To (Sep (Sep (DvL (t + 1) vb mb jb (bCommit B).2) (A t B')) R) F w w') ∨
      (e = .returned (.tuple #[.int .i64 0, .int .i64 20]) ∧ (bCommit B).1.2 = 0 ∧ To (Sep (Sep (DvX (t + 1) vb mb jb B (bCommit B).2) (A t B')) R) F w w') := by
  obtain ⟨F', ⟨F12, F3, ⟨F1, F2, h1, h2, d12, rfl⟩, h3, d3, rfl⟩, hk, hs⟩ := h
  refine (commit_l ht wk F1 h1).mono ?_
  rintro e w' (⟨rfl, ht⟩ | ⟨rfl, h0, ht⟩)
  · exact .inl ⟨rfl, (To.sepL hR h3 d3 (To.sepL (I.stab t B') h2 d12 ht)).before hk hs⟩
  · exact .inr ⟨rfl, h0, (To.sepL hR h3 d3 (To.sepL (I.stab t B') h2 d12 ht)).before hk hs⟩
theorem drop_pl (I : BookI bk A) (n : Int) (ht : t + 1 ≤ 900) {R : HP} (hR : Stab R) {B' : Bk} {F : List Nat} {w wk : World} (h : To (Sep (Sep (DvL t vb mb jb B) (A t B')) R) F w wk) :
    Calls Try.prog 31 #[.pointer (some ⟨jb, 0, none⟩), .int .i64 n] wk fun e w' =>
      (e = .returned (.int .i64 (bDrop B n).1) ∧ To (Sep (Sep (DvL (t + 1) vb mb jb (bDrop B n).2) (A t B')) R) F w w') ∨
      (e = .returned (.int .i64 20) ∧ (bDrop B n).1 = 0 ∧ To (Sep (Sep (DvX (t + 1) vb mb jb B (bDrop B n).2) (A t B')) R) F w w') := by
  obtain ⟨F', ⟨F12, F3, ⟨F1, F2, h1, h2, d12, rfl⟩, h3, d3, rfl⟩, hk, hs⟩ := h
  refine (drop_l n ht wk F1 h1).mono ?_
  rintro e w' (⟨rfl, ht⟩ | ⟨rfl, h0, ht⟩)
  · exact .inl ⟨rfl, (To.sepL hR h3 d3 (To.sepL (I.stab t B') h2 d12 ht)).before hk hs⟩
  · exact .inr ⟨rfl, h0, (To.sepL hR h3 d3 (To.sepL (I.stab t B') h2 d12 ht)).before hk hs⟩
set_option maxHeartbeats 4000000 in
theorem perl_com3 (I : BookI bk A) (ht : t + 1 ≤ 900) (x : OpJ) (hx : x.ok) (hk : x.kind % 8 = 3) (w : World) (F : List Nat) (h : PL A vb mb t jb B w F) : Calls Try.prog 33 #[.pointer (some ⟨vb, 0, none⟩), .pointer (some ⟨jb, 0, none⟩), .pointer (some ⟨bk, 0, none⟩), .agg #[.int .u8 x.kind, .int .i8 x.num, .int .u16 x.rcd]] w fun e w' => ∃ jb' ok, e = .returned (.tuple #[.pointer (some ⟨jb', 0, none⟩), .bool ok]) ∧ ((ok = true ∧ To (PL A vb mb (t + 1) jb' (bOp x B)) F w w') ∨ To (Sep (DvX (t + 1) vb mb jb' B (bOp x B)) (A (t + 1) (bOp x B))) F w w') := by
  obtain ⟨kd, nm, rd⟩ := x
  obtain ⟨hx1, hx2, hx3⟩ := hx
  dsimp only at hx1 hx2 hx3 ⊢
  have HX := Lib.hid (To.addBox (pl_stab I) h #[.int .u8 kd, .int .i8 nm, .int .u16 rd] 64)
  have hcx := cell_of HX.out.boxAt
  clear h
  have hb : bOp ⟨kd, nm, rd⟩ B = (bCommit B).2 := by
    unfold bOp
    dsimp only at hk ⊢
    rw [if_neg (by omega), if_pos (by omega)]
  rw [hb]
  clear hb
  have HC := Lib.hid (commit_pl I ht (boxH_stab w.heap.size #[.int .u8 kd, .int .i8 nm, .int .u16 rd] 64) HX.out)
  have HM2 := Lib.hid (((I.com t B ht).R (dvl_stab (t + 1) vb mb jb (bCommit B).2)).L (boxH_stab w.heap.size #[.int .u8 kd, .int .i8 nm, .int .u16 rd] 64))
  have HM3 := Lib.hid (((I.com t B ht).R (dvx_stab (t + 1) vb mb jb B (bCommit B).2)).L (boxH_stab w.heap.size #[.int .u8 kd, .int .i8 nm, .int .u16 rd] 64))
  generalize (bCommit B).1.1 = r1 at *
  generalize (bCommit B).1.2 = r2 at *
  generalize (bCommit B).2 = B1 at *
  have hk' : kd % 8 = 3 := hk
  have t0 : ((kd : Int) % 8 == 0) = false := by rw [beq_eq_false_iff_ne]; omega
  have t1 : ((kd : Int) % 8 == 1) = false := by rw [beq_eq_false_iff_ne]; omega
  have t2 : ((kd : Int) % 8 == 2) = false := by rw [beq_eq_false_iff_ne]; omega
  have t3 : ((kd : Int) % 8 == 3) = true := by rw [beq_iff_eq]; omega
  go_enter Try.func33, Try.ntmps33
  go_wp2_with fail
  refine HC.out.mono ?_
  rintro e w2 (⟨rfl, ht2⟩ | ⟨rfl, h0, ht2⟩)
  · dsimp only
    have HX2 := Lib.hid ht2
    clear ht2 HX hcx HC
    go_wp2_with fail
    refine (HX2.out.callF HM2.out).mono ?_
    rintro e w3 ⟨rfl, ht3⟩
    dsimp only
    have HX3 := Lib.hid ht3
    clear ht3 HX2
    go_wp2_with fail
    go_ret2
    exact ⟨jb, true, rfl, .inl ⟨rfl, HX3.out.fst⟩⟩
  · subst h0
    dsimp only
    have HX2 := Lib.hid ht2
    clear ht2 HX hcx HC
    go_wp2_with fail
    refine (HX2.out.callF HM3.out).mono ?_
    rintro e w3 ⟨rfl, ht3⟩
    dsimp only
    have HX3 := Lib.hid ht3
    clear ht3 HX2
    by_cases hr : r1 = 0
    · subst hr
      go_wp2_with fail
      go_ret2
      exact ⟨jb, false, rfl, .inr HX3.out.fst⟩
    · have hr1 : ((0 : Int) == r1) = false := by rw [beq_eq_false_iff_ne]; exact fun e => hr e.symm
      clear hr
      go_wp2_with fail
      go_ret2
      exact ⟨jb, false, rfl, .inr HX3.out.fst⟩
set_option maxHeartbeats 4000000 in
theorem perl_com4 (I : BookI bk A) (ht : t + 1 ≤ 900) (x : OpJ) (hx : x.ok) (hk : x.kind % 8 = 4) (w : World) (F : List Nat) (h : PL A vb mb t jb B w F) : Calls Try.prog 33 #[.pointer (some ⟨vb, 0, none⟩), .pointer (some ⟨jb, 0, none⟩), .pointer (some ⟨bk, 0, none⟩), .agg #[.int .u8 x.kind, .int .i8 x.num, .int .u16 x.rcd]] w fun e w' => ∃ jb' ok, e = .returned (.tuple #[.pointer (some ⟨jb', 0, none⟩), .bool ok]) ∧ ((ok = true ∧ To (PL A vb mb (t + 1) jb' (bOp x B)) F w w') ∨ To (Sep (DvX (t + 1) vb mb jb' B (bOp x B)) (A (t + 1) (bOp x B))) F w w') := by
  obtain ⟨kd, nm, rd⟩ := x
  obtain ⟨hx1, hx2, hx3⟩ := hx
  dsimp only at hx1 hx2 hx3 ⊢
  have HX := Lib.hid (To.addBox (pl_stab I) h #[.int .u8 kd, .int .i8 nm, .int .u16 rd] 64)
  have hcx := cell_of HX.out.boxAt
  clear h
  have hb : bOp ⟨kd, nm, rd⟩ B = (bCommit B).2 := by
    unfold bOp
    dsimp only at hk ⊢
    rw [if_neg (by omega), if_pos (by omega)]
  rw [hb]
  clear hb
  have HC := Lib.hid (commit_pl I ht (boxH_stab w.heap.size #[.int .u8 kd, .int .i8 nm, .int .u16 rd] 64) HX.out)
  have HM2 := Lib.hid (((I.com t B ht).R (dvl_stab (t + 1) vb mb jb (bCommit B).2)).L (boxH_stab w.heap.size #[.int .u8 kd, .int .i8 nm, .int .u16 rd] 64))
  have HM3 := Lib.hid (((I.com t B ht).R (dvx_stab (t + 1) vb mb jb B (bCommit B).2)).L (boxH_stab w.heap.size #[.int .u8 kd, .int .i8 nm, .int .u16 rd] 64))
  generalize (bCommit B).1.1 = r1 at *
  generalize (bCommit B).1.2 = r2 at *
  generalize (bCommit B).2 = B1 at *
  have hk' : kd % 8 = 4 := hk
  have t0 : ((kd : Int) % 8 == 0) = false := by rw [beq_eq_false_iff_ne]; omega
  have t1 : ((kd : Int) % 8 == 1) = false := by rw [beq_eq_false_iff_ne]; omega
  have t2 : ((kd : Int) % 8 == 2) = false := by rw [beq_eq_false_iff_ne]; omega
  have t3 : ((kd : Int) % 8 == 3) = false := by rw [beq_eq_false_iff_ne]; omega
  have t4 : ((kd : Int) % 8 == 4) = true := by rw [beq_iff_eq]; omega
  go_enter Try.func33, Try.ntmps33
  go_wp2_with fail
  refine HC.out.mono ?_
  rintro e w2 (⟨rfl, ht2⟩ | ⟨rfl, h0, ht2⟩)
  · dsimp only
    have HX2 := Lib.hid ht2
    clear ht2 HX hcx HC
    go_wp2_with fail
    refine (HX2.out.callF HM2.out).mono ?_
    rintro e w3 ⟨rfl, ht3⟩
    dsimp only
    have HX3 := Lib.hid ht3
    clear ht3 HX2
    go_wp2_with fail
    go_ret2
    exact ⟨jb, true, rfl, .inl ⟨rfl, HX3.out.fst⟩⟩
  · subst h0
    dsimp only
    have HX2 := Lib.hid ht2
    clear ht2 HX hcx HC
    go_wp2_with fail
    refine (HX2.out.callF HM3.out).mono ?_
    rintro e w3 ⟨rfl, ht3⟩
    dsimp only
    have HX3 := Lib.hid ht3
    clear ht3 HX2
    by_cases hr : r1 = 0
    · subst hr
      go_wp2_with fail
      go_ret2
      exact ⟨jb, false, rfl, .inr HX3.out.fst⟩
    · have hr1 : ((0 : Int) == r1) = false := by rw [beq_eq_false_iff_ne]; exact fun e => hr e.symm
      clear hr
      go_wp2_with fail
      go_ret2
      exact ⟨jb, false, rfl, .inr HX3.out.fst⟩
set_option maxHeartbeats 4000000 in
theorem perl_drop (I : BookI bk A) (ht : t + 1 ≤ 900) (x : OpJ) (hx : x.ok) (hk : x.kind % 8 = 5) (w : World) (F : List Nat) (h : PL A vb mb t jb B w F) : Calls Try.prog 33 #[.pointer (some ⟨vb, 0, none⟩), .pointer (some ⟨jb, 0, none⟩), .pointer (some ⟨bk, 0, none⟩), .agg #[.int .u8 x.kind, .int .i8 x.num, .int .u16 x.rcd]] w fun e w' => ∃ jb' ok, e = .returned (.tuple #[.pointer (some ⟨jb', 0, none⟩), .bool ok]) ∧ ((ok = true ∧ To (PL A vb mb (t + 1) jb' (bOp x B)) F w w') ∨ To (Sep (DvX (t + 1) vb mb jb' B (bOp x B)) (A (t + 1) (bOp x B))) F w w') := by
  have hf : B.first + B.groups.length ≤ t + 1 := by obtain ⟨_, _, ⟨_, _, _, _, h1, _⟩, _⟩ := h; exact h1.f
  obtain ⟨kd, nm, rd⟩ := x
  obtain ⟨hx1, hx2, hx3⟩ := hx
  dsimp only at hx1 hx2 hx3 ⊢
  have HX := Lib.hid (To.addBox (pl_stab I) h #[.int .u8 kd, .int .i8 nm, .int .u16 rd] 64)
  have hcx := cell_of HX.out.boxAt
  clear h
  have hk' : kd % 8 = 5 := hk
  obtain ⟨gv, pv, hbx, _⟩ := To.noPendL I (boxH_stab _ _ _) HX.out
  have hcb := cell_of hbx
  simp only [bcells] at hcb
  have hb : bOp ⟨kd, nm, rd⟩ B = (bDrop B ((B.first : Int) + nm.tmod 6 - 1)).2 := by
    unfold bOp
    dsimp only at hk ⊢
    rw [if_neg (by omega), if_neg (by omega), if_pos (by omega)]
  rw [hb]
  clear hb hbx
  have hstab : Stab (Sep (PL A vb mb t jb B) (BoxH w.heap.size #[.int .u8 kd, .int .i8 nm, .int .u16 rd] 64)) := (pl_stab I).sep (boxH_stab _ _ _)
  have HC := Lib.hid (fun n => drop_pl I ((B.first : Int) + nm.tmod 6 - 1) ht (boxH_stab w.heap.size #[.int .u8 kd, .int .i8 nm, .int .u16 rd] 64) (HX.out.keptF hstab (Keep.drewN [] _ n)))
  have HM2 := Lib.hid (((I.drop t B ((B.first : Int) + nm.tmod 6 - 1) ht).R (dvl_stab (t + 1) vb mb jb (bDrop B ((B.first : Int) + nm.tmod 6 - 1)).2)).L (boxH_stab w.heap.size #[.int .u8 kd, .int .i8 nm, .int .u16 rd] 64))
  have HM3 := Lib.hid (((I.drop t B ((B.first : Int) + nm.tmod 6 - 1) ht).R (dvx_stab (t + 1) vb mb jb B (bDrop B ((B.first : Int) + nm.tmod 6 - 1)).2)).L (boxH_stab w.heap.size #[.int .u8 kd, .int .i8 nm, .int .u16 rd] 64))
  generalize (bDrop B ((B.first : Int) + nm.tmod 6 - 1)).1 = r1 at *
  generalize (bDrop B ((B.first : Int) + nm.tmod 6 - 1)).2 = B1 at *
  have t0 : ((kd : Int) % 8 == 0) = false := by rw [beq_eq_false_iff_ne]; omega
  have t1 : ((kd : Int) % 8 == 1) = false := by rw [beq_eq_false_iff_ne]; omega
  have t2 : ((kd : Int) % 8 == 2) = false := by rw [beq_eq_false_iff_ne]; omega
  have t3 : ((kd : Int) % 8 == 3) = false := by rw [beq_eq_false_iff_ne]; omega
  have t4 : ((kd : Int) % 8 == 4) = false := by rw [beq_eq_false_iff_ne]; omega
  have t5 : ((kd : Int) % 8 == 5) = true := by rw [beq_iff_eq]; omega
  obtain ⟨hq1, hq2⟩ := tmod6 nm
  have hws : IntKind.i64.wrap nm = nm := IntWalk.i64_in _ ⟨by omega, by omega⟩
  have hfb : B.first ≤ 901 := by omega
  clear hk hk' hstab
  go_enter Try.func33, Try.ntmps33
  go_wp2_with fail
  go_big_quiet (fail)
  go_wp2_with fail
  refine (HC.out _).mono ?_
  rintro e w2 (⟨rfl, ht2⟩ | ⟨rfl, h0, ht2⟩)
  · dsimp only
    have HX3 := Lib.hid ht2
    clear ht2 HC HX hcx hcb
    go_wp2_with fail
    refine (HX3.out.callF HM2.out).mono ?_
    rintro e w3 ⟨rfl, ht3⟩
    dsimp only
    have HX4 := Lib.hid ht3
    clear ht3 HX3
    go_wp2_with fail
    go_ret2
    exact ⟨jb, true, rfl, .inl ⟨rfl, HX4.out.fst⟩⟩
  · subst h0
    dsimp only
    have HX3 := Lib.hid ht2
    clear ht2 HC HX hcx hcb
    go_wp2_with fail
    refine (HX3.out.callF HM3.out).mono ?_
    rintro e w3 ⟨rfl, ht3⟩
    dsimp only
    have HX4 := Lib.hid ht3
    clear ht3 HX3
    go_wp2_with fail
    go_ret2
    exact ⟨jb, false, rfl, .inr HX4.out.fst⟩
theorem perform_l (I : BookI bk A) (ht : t + 1 ≤ 900) (x : OpJ) (hx : x.ok) (w : World) (F : List Nat) (h : PL A vb mb t jb B w F) : Calls Try.prog 33 #[.pointer (some ⟨vb, 0, none⟩), .pointer (some ⟨jb, 0, none⟩), .pointer (some ⟨bk, 0, none⟩), .agg #[.int .u8 x.kind, .int .i8 x.num, .int .u16 x.rcd]] w fun e w' => ∃ jb' ok, e = .returned (.tuple #[.pointer (some ⟨jb', 0, none⟩), .bool ok]) ∧ ((ok = true ∧ To (PL A vb mb (t + 1) jb' (bOp x B)) F w w') ∨ To (Sep (DvX (t + 1) vb mb jb' B (bOp x B)) (A (t + 1) (bOp x B))) F w w') := by
  have up : ∀ {e : Ending} {w' : World}, (∃ jb', e = .returned (.tuple #[.pointer (some ⟨jb', 0, none⟩), .bool true]) ∧ (x.kind % 8 ≠ 7 → jb' = jb) ∧ To (PL A vb mb (t + 1) jb' (bOp x B)) F w w') →
      ∃ jb' ok, e = .returned (.tuple #[.pointer (some ⟨jb', 0, none⟩), .bool ok]) ∧ ((ok = true ∧ To (PL A vb mb (t + 1) jb' (bOp x B)) F w w') ∨ To (Sep (DvX (t + 1) vb mb jb' B (bOp x B)) (A (t + 1) (bOp x B))) F w w') := by
    rintro e w' ⟨jb', h1, _, h2⟩; exact ⟨jb', true, h1, .inl ⟨rfl, h2⟩⟩
  rcases (by omega : x.kind % 8 = 0 ∨ x.kind % 8 = 1 ∨ x.kind % 8 = 2 ∨ x.kind % 8 = 3 ∨ x.kind % 8 = 4 ∨ x.kind % 8 = 5 ∨ x.kind % 8 = 6 ∨ x.kind % 8 = 7) with k | k | k | k | k | k | k | k
  · exact (perl_app0 I ht x hx k w F h).mono fun e w' h => up h
  · exact (perl_app1 I ht x hx k w F h).mono fun e w' h => up h
  · exact (perl_app2 I ht x hx k w F h).mono fun e w' h => up h
  · exact perl_com3 I ht x hx k w F h
  · exact perl_com4 I ht x hx k w F h
  · exact perl_drop I ht x hx k w F h
  · exact (perl_disc I ht x hx k w F h).mono fun e w' h => up h
  · exact (perl_open I ht x hx k w F h).mono fun e w' h => up h
end
end Go.Proofs.Ytgmggmpkbfljfaa
