/- Parts of a proof about this translation: Tj. -/
import Derived.Test.YteknldaoegccaaaGreatDoorW26
import Derived.Test.YteknldaoegccaaaGreatDoorW27
set_option linter.unusedVariables false
set_option linter.unusedSimpArgs false
set_option maxRecDepth 100000
namespace Go.Proofs.YteknldaoegccaaaGreatDoor
open Go.RowKit
structure SpanA where
 a : InsA
 b : InsA
 oa : Bool
 ob : Bool
def SpanA.v (s : SpanA) : Value := .agg #[.int .u8 s.a.P, .int .u8 s.a.D, .int .u8 s.a.R, .int .u8 s.a.E, .bool s.a.neg, .int .u8 s.b.P, .int .u8 s.b.D, .int .u8 s.b.R, .int .u8 s.b.E, .bool s.b.neg, .bool s.oa, .bool s.ob]
open Classical in
noncomputable def SpanA.i (s : SpanA) : Iv K := if s.b.k < s.a.k then ⟨⟨s.b.k, s.oa⟩, ⟨s.a.k, !s.ob⟩⟩ else if s.a.k = s.b.k then ⟨⟨s.a.k, false⟩, ⟨s.b.k, true⟩⟩ else ⟨⟨s.a.k, s.oa⟩, ⟨s.b.k, !s.ob⟩⟩
theorem SpanA.valid (s : SpanA) : s.i.f < s.i.l := by
 unfold SpanA.i
 split
 ·rw [Bd.lt_def]; exact .inl (by assumption)
 ·split
  ·rw [Bd.lt_def]; exact .inr ⟨by assumption, rfl, rfl⟩
  ·rw [Bd.lt_def]; refine .inl ?_
   dsimp only
   grind
theorem al_iv (ev : Operand → Value) (w : World) (o : Oper) (ho : o.op = .alloc 33) : (execOp ev o).run Tryz.prog w = .ok (.value (.pointer (some ⟨w.heap.size, 0, none⟩))) (w.alloc (.cells #[.bool false, .string ⟨#[]⟩, .bool false, .string ⟨#[]⟩, .bool false, .string ⟨#[]⟩, .bool false, .string ⟨#[]⟩, .bool false, .bool false, .string ⟨#[]⟩, .bool false, .string ⟨#[]⟩, .bool false, .string ⟨#[]⟩, .bool false, .string ⟨#[]⟩, .bool false, .bool false, .bool false] 33)) := by
 unfold execOp
 simp only [ho]
 go_simp
theorem ones20 (f1 f4 f7 t1 t4 t7 o c : Bool) (f2 f3 f5 f6 t2 t3 t5 t6 : ByteArray) : (#[.bool f1, .string f2, .bool false, .string f3, .bool f4, .string f5, .bool false, .string f6, .bool f7, .bool t1, .string t2, .bool false, .string t3, .bool t4, .string t5, .bool false, .string t6, .bool t7, .bool o, .bool c] : Array Value).all (·.oneCell') = true := by kernel_rfl
theorem put_from (f1 f4 f7 t1 t4 t7 o c : Bool) (f2 f3 f5 f6 t2 t3 t5 t6 : ByteArray) : putAt #[.bool f1, .string f2, .bool false, .string f3, .bool f4, .string f5, .bool false, .string f6, .bool f7, .bool t1, .string t2, .bool false, .string t3, .bool t4, .string t5, .bool false, .string t6, .bool t7, .bool o, .bool c] 0 [.bool t1, .string t2, .bool false, .string t3, .bool t4, .string t5, .bool false, .string t6, .bool t7] = #[.bool t1, .string t2, .bool false, .string t3, .bool t4, .string t5, .bool false, .string t6, .bool t7, .bool t1, .string t2, .bool false, .string t3, .bool t4, .string t5, .bool false, .string t6, .bool t7, .bool o, .bool c] := by kernel_rfl
theorem put_to (f1 f4 f7 t1 t4 t7 o c : Bool) (f2 f3 f5 f6 t2 t3 t5 t6 : ByteArray) : putAt #[.bool t1, .string t2, .bool false, .string t3, .bool t4, .string t5, .bool false, .string t6, .bool t7, .bool t1, .string t2, .bool false, .string t3, .bool t4, .string t5, .bool false, .string t6, .bool t7, .bool o, .bool c] 9 [.bool f1, .string f2, .bool false, .string f3, .bool f4, .string f5, .bool false, .string f6, .bool f7] = #[.bool t1, .string t2, .bool false, .string t3, .bool t4, .string t5, .bool false, .string t6, .bool t7, .bool f1, .string f2, .bool false, .string f3, .bool f4, .string f5, .bool false, .string f6, .bool f7, .bool o, .bool c] := by kernel_rfl
theorem ones9 (f1 f4 f7 : Bool) (f2 f3 f5 f6 : ByteArray) : (#[.bool f1, .string f2, .bool false, .string f3, .bool f4, .string f5, .bool false, .string f6, .bool f7] : Array Value).all (·.oneCell') = true := by kernel_rfl
set_option maxHeartbeats 4000000 in
theorem interval_c (s : SpanA) (w : World) : Calls Tryz.prog 44 #[s.v] w fun e w' => e = .returned (iv s.i) ∧ Keep [] w w' := by
 have H1 := Lib.hid (instant_c s.a)
 have H2 := Lib.hid (instant_c s.b)
 have H3 := Lib.hid (kcmp_c s.a.k s.b.k)
 have htri := K.tri s.a.k s.b.k
 have hI := s.valid
 generalize hi : s.i = I at *
 unfold SpanA.i at hi
 unfold SpanA.v InsA.v at *
 rw [kv_cells] at H1 H2
 rw [kv_cells, kv_cells] at H3
 generalize s.a.k = A at *
 generalize s.b.k = B at *
 generalize s.a.P = P1 at *
 generalize s.a.D = D1 at *
 generalize s.a.R = R1 at *
 generalize s.a.E = E1 at *
 generalize s.a.neg = n1 at *
 generalize s.b.P = P2 at *
 generalize s.b.D = D2 at *
 generalize s.b.R = R2 at *
 generalize s.b.E = E2 at *
 generalize s.b.neg = n2 at *
 generalize s.oa = o at *
 generalize s.ob = c at *
 have HS : Hid ((Tryz.prog.info? 33).map (·.size) = some 20) := iv_size ⟨⟨A, o⟩, ⟨B, !c⟩⟩
 have HI := Lib.hid hi
 have HV := Lib.hid (iv_cells I)
 have HZ := Lib.hid (iv_size I)
 have HO := Lib.hid (iv_ones I)
 clear hi hI
 have HL := Lib.hid (fun w g (h : w.heap[g]? = some (.cells (iC I) 33)) => load_iv w g 0 I (ivAt_box h))
 have HR : Hid (iv I = .agg (iC I)) := rfl
 clear HV
 rcases htri with ⟨hc, hlt⟩ | ⟨hc, hlt⟩ | ⟨hc, hlt⟩
 ·rw [hc] at H3
  have hC : iC I = #[.bool (sgB B.1.p.num), .string (mgS B.1.p.num), .bool false, .string (dnS B.1.p.den), .bool (sgB B.1.r.num), .string (mgS B.1.r.num), .bool false, .string (dnS B.1.r.den), .bool B.1.neg, .bool (sgB A.1.p.num), .string (mgS A.1.p.num), .bool false, .string (dnS A.1.p.den), .bool (sgB A.1.r.num), .string (mgS A.1.r.num), .bool false, .string (dnS A.1.r.den), .bool A.1.neg, .bool o, .bool c] := by
   rw [← HI.out, if_pos hlt]
   show _ = _
   cases c <;> rfl
  clear hc hlt HI
  generalize sgB (A.1).p.num = f1 at *
  generalize mgS (A.1).p.num = f2 at *
  generalize dnS (A.1).p.den = f3 at *
  generalize sgB (A.1).r.num = f4 at *
  generalize mgS (A.1).r.num = f5 at *
  generalize dnS (A.1).r.den = f6 at *
  generalize (A.1).neg = f7 at *
  generalize sgB (B.1).p.num = t1 at *
  generalize mgS (B.1).p.num = t2 at *
  generalize dnS (B.1).p.den = t3 at *
  generalize sgB (B.1).r.num = t4 at *
  generalize mgS (B.1).r.num = t5 at *
  generalize dnS (B.1).r.den = t6 at *
  generalize (B.1).neg = t7 at *
  rw [hC] at HZ HO HL HR
  clear hC
  have hbd := fun w => run_build (P := Tryz.prog) w 33 #[(0, .agg #[.bool f1, .string f2, .bool false, .string f3, .bool f4, .string f5, .bool false, .string f6, .bool f7]), (1, .agg #[.bool t1, .string t2, .bool false, .string t3, .bool t4, .string t5, .bool false, .string t6, .bool t7]), (2, .bool o), (3, .bool c)] _ (iv_built _ _ _ _ _ _ _ _ _ _ _ _ _ _ _ _)
  go_enter Tryz.func44, Tryz.ntmps44
  go_wp2_with fail
  obtain ⟨W, ga, gb, hW, ega, egb, bga, bgb, hga, hgb, hgW, hkW⟩ := al2 w (.cells #[.int .u8 P1, .int .u8 D1, .int .u8 R1, .int .u8 E1, .bool n1, .int .u8 P2, .int .u8 D2, .int .u8 R2, .int .u8 E2, .bool n2, .bool o, .bool c] 63) (.cells #[.bool false, .string ⟨#[]⟩, .bool false, .string ⟨#[]⟩, .bool false, .string ⟨#[]⟩, .bool false, .string ⟨#[]⟩, .bool false, .bool false, .string ⟨#[]⟩, .bool false, .string ⟨#[]⟩, .bool false, .string ⟨#[]⟩, .bool false, .string ⟨#[]⟩, .bool false, .bool false, .bool false] 33)
  rw [← hW]
  try rw [egb]
  try rw [ega]
  have Bga := Lib.hid bga
  have Bgb := Lib.hid bgb
  have HkW := Lib.hid hkW
  clear hW hkW ega egb bga bgb
  refine wp_region_new 12 [(3, 33)] (fun _ => .cells #[.bool false, .string ⟨#[]⟩, .bool false, .string ⟨#[]⟩, .bool false, .string ⟨#[]⟩, .bool false, .string ⟨#[]⟩, .bool false, .bool false, .string ⟨#[]⟩, .bool false, .string ⟨#[]⟩, .bool false, .string ⟨#[]⟩, .bool false, .string ⟨#[]⟩, .bool false, .bool false, .bool false] 33) (by kernel_rfl) (by kernel_rfl) (by kernel_rfl) (fun t ht ev w o ho => by simp at ht; subst ht; exact al_iv ev w o ho) ?_
  intro U hU
  have kga := kw_cells (hU.heap Bga.out (by simp))
  have Q1 : Hid (∀ m : KW U, Calls Tryz.prog 31 #[.agg #[.int .u8 P1, .int .u8 D1, .int .u8 R1, .int .u8 E1, .bool n1]] (Wk U m) fun e w' => e = .returned (.agg #[.bool f1, .string f2, .bool false, .string f3, .bool f4, .string f5, .bool false, .string f6, .bool f7]) ∧ ∃ m, w' = Wk U m) := fun m => qk m (H1.out _)
  have Q2 : Hid (∀ m : KW U, Calls Tryz.prog 31 #[.agg #[.int .u8 P2, .int .u8 D2, .int .u8 R2, .int .u8 E2, .bool n2]] (Wk U m) fun e w' => e = .returned (.agg #[.bool t1, .string t2, .bool false, .string t3, .bool t4, .string t5, .bool false, .string t6, .bool t7]) ∧ ∃ m, w' = Wk U m) := fun m => qk m (H2.out _)
  simp only [List.map_cons, List.map_nil, unal, isAl, if_true, if_false, Bool.false_eq_true, List.take_succ_cons, List.take_zero]
  repeat (first
   | go_big_quiet_skip
   | (go_big_quiet_want; go_big_quiet_op; first | go_big_quiet_on | go_big_quiet_call (first
    | (go_at_call 31; with_reducible exact (Q1).out _) | (go_at_call 31; with_reducible exact (Q2).out _))))
  refine wpQuiet_nil ?_
  intro p hp1 hp2 w1 hk_w1 hz
  have bgx := hz (3, 33) (by simp)
  have hgx := hp1 3 (by simp)
  simp only [List.map_cons, List.map_nil, pl, List.drop_succ_cons, List.drop_zero]
  dsimp only at bgx
  generalize p 3 = gd at *
  have Bgd := Lib.hid bgx
  have hgd := hgx
  clear hz hp1 hp2 bgx hgx
  clear kga Q1 Q2 hU U p H1 H2
  have B2ga := Lib.hid (hk_w1.heap Bga.out (by simp))
  have B2gb := Lib.hid (hk_w1.heap Bgb.out (by simp))
  have HkW2 := Lib.hid (HkW.out.trans0 hk_w1)
  clear HkW hk_w1 Bga Bgb
  have Bga := B2ga
  have Bgb := B2gb
  have HkW := HkW2
  clear HkW2 B2ga B2gb
  refine wpList_rowK (by rfl) _ _ _ rfl gd #[.bool f1, .string f2, .bool false, .string f3, .bool f4, .string f5, .bool false, .string f6, .bool f7, .bool t1, .string t2, .bool false, .string t3, .bool t4, .string t5, .bool false, .string t6, .bool t7, .bool o, .bool c] rfl rfl _ _ Bgd.out (by exact HS.out) (by rfl) (ones20 _ _ _ _ _ _ _ _ _ _ _ _ _ _ _ _) (fun K hK => ?_)
  obtain ⟨W4, e4, b4, hkW2⟩ := setRow_at (cs := #[.bool f1, .string f2, .bool false, .string f3, .bool f4, .string f5, .bool false, .string f6, .bool f7, .bool t1, .string t2, .bool false, .string t3, .bool t4, .string t5, .bool false, .string t6, .bool t7, .bool o, .bool c]) Bgd.out
  rw [e4]
  go_simp
  refine hK _ _ ?_
  clear hK K
  have Bgd := Lib.hid b4
  clear b4 e4
  have B2ga := Lib.hid (hkW2.heap Bga.out (by simp; omega))
  clear Bga
  have Bga := B2ga
  clear B2ga
  have B2gb := Lib.hid (hkW2.heap Bgb.out (by simp; omega))
  clear Bgb
  have Bgb := B2gb
  clear B2gb
  have HkW2 := Lib.hid (HkW.out.trans hkW2 (by simp; omega))
  clear HkW hkW2
  have HkW := HkW2
  clear HkW2
  have pgd := cell_of Bgd.out
  have fgd := frozen_of Bgd.out
  have lgd := lt_of_heap Bgd.out
  go_wp2_with fail
  refine (H3.out _).mono ?_
  rintro e w5 ⟨rfl, hk5⟩
  dsimp only
  have Bgb := Lib.hid (hk5.heap Bgb.out (by simp))
  have Bgd := Lib.hid (hk5.heap Bgd.out (by simp))
  have HkW := Lib.hid (HkW.out.trans0 hk5)
  clear pgd fgd lgd H3
  go_upto_region 4 with (fail)
  refine wp_region_lit ?_
  have pgd := cell_of Bgd.out
  have fgd := frozen_of Bgd.out
  have lgd := lt_of_heap Bgd.out
  refine' wpList_R (v := _) (by rfl) (?hruna) (fun K hK => ?hnexta)
  case hruna => (go_simp; try rfl)
  rotate_left 0
  go_simp
  refine hK _ _ ?_
  clear hK K
  refine' wpList_R (v := _) (by rfl) (?hrunb) (fun K hK => ?hnextb)
  case hrunb => (go_simp; try rfl)
  rotate_left 0
  go_simp
  refine hK _ _ ?_
  clear hK K
  refine' wpList_R (v := _) (by rfl) (?hrunc) (fun K hK => ?hnextc)
  case hrunc => (go_simp; try rfl)
  rotate_left 0
  go_simp
  refine hK _ _ ?_
  clear hK K
  refine' wpList_R (v := _) (by rfl) (?hrund) (fun K hK => ?hnextd)
  case hrund => (go_simp; try rfl)
  rotate_left 0
  go_simp
  refine hK _ _ ?_
  clear hK K
  refine' wpList_R (v := _) (by rfl) (?hrune) (fun K hK => ?hnexte)
  case hrune => (go_simp; try rfl)
  rotate_left 0
  go_simp
  refine hK _ _ ?_
  clear hK K
  clear pgd fgd lgd
  refine wpList_midK (by rfl) _ _ _ rfl gd 0 #[.bool t1, .string t2, .bool false, .string t3, .bool t4, .string t5, .bool false, .string t6, .bool t7] rfl rfl (there_of Bgd.out _ _ (by simp)) k_size (ones9 _ _ _ _ _ _ _) (fun K hK => ?_)
  obtain ⟨b6, k6⟩ := setCells_at [.bool t1, .string t2, .bool false, .string t3, .bool t4, .string t5, .bool false, .string t6, .bool t7] 0 _ _ Bgd.out
  rw [put_from] at b6
  have b6' := k6.heap Bgb.out (by simp; omega)
  have HkW := Lib.hid (HkW.out.trans k6 (by simp; omega))
  show K _ (w5.setCells gd 0 [.bool t1, .string t2, .bool false, .string t3, .bool t4, .string t5, .bool false, .string t6, .bool t7])
  generalize w5.setCells gd 0 [.bool t1, .string t2, .bool false, .string t3, .bool t4, .string t5, .bool false, .string t6, .bool t7] = w6 at *
  go_simp
  refine hK _ _ ?_
  clear hK K k6
  have Bgd := Lib.hid b6
  have Bgb := Lib.hid b6'
  clear b6 b6'
  refine' wpList_R (v := _) (by rfl) (?hrung) (fun K hK => ?hnextg)
  case hrung => (go_simp; try rfl)
  rotate_left 0
  go_simp
  refine hK _ _ ?_
  clear hK K
  refine wpList_midK (by rfl) _ _ _ rfl gd 9 #[.bool f1, .string f2, .bool false, .string f3, .bool f4, .string f5, .bool false, .string f6, .bool f7] rfl rfl (there_of Bgd.out _ _ (by simp)) k_size (ones9 _ _ _ _ _ _ _) (fun K hK => ?_)
  obtain ⟨b7, k7⟩ := setCells_at [.bool f1, .string f2, .bool false, .string f3, .bool f4, .string f5, .bool false, .string f6, .bool f7] 9 _ _ Bgd.out
  rw [put_to] at b7
  have b7' := k7.heap Bgb.out (by simp; omega)
  have HkW := Lib.hid (HkW.out.trans k7 (by simp; omega))
  show K _ (w6.setCells gd 9 [.bool f1, .string f2, .bool false, .string f3, .bool f4, .string f5, .bool false, .string f6, .bool f7])
  generalize w6.setCells gd 9 [.bool f1, .string f2, .bool false, .string f3, .bool f4, .string f5, .bool false, .string f6, .bool f7] = w7 at *
  go_simp
  refine hK _ _ ?_
  clear hK K k7
  have Bgd := Lib.hid b7
  have Bgb := Lib.hid b7'
  clear b7 b7'
  go_upto_region 7 with (fail)
  refine wp_region_lit ?_
  refine wpList_R (v := .agg #[.bool t1, .string t2, .bool false, .string t3, .bool t4, .string t5, .bool false, .string t6, .bool t7, .bool f1, .string f2, .bool false, .string f3, .bool f4, .string f5, .bool false, .string f6, .bool f7, .bool o, .bool c]) (by rfl) (exec_load _ _ ⟨gd, 0, none⟩ _ rfl rfl (by have := HL.out _ _ Bgd.out; rw [HR.out] at this; exact this)) (fun K hK => ?_)
  go_simp
  refine hK _ _ ?_
  clear hK K
  refine wpList_rowK (by rfl) _ _ _ rfl gb #[.bool t1, .string t2, .bool false, .string t3, .bool t4, .string t5, .bool false, .string t6, .bool t7, .bool f1, .string f2, .bool false, .string f3, .bool f4, .string f5, .bool false, .string f6, .bool f7, .bool o, .bool c] rfl rfl _ _ Bgb.out HZ.out (by rfl) HO.out (fun K hK => ?_)
  obtain ⟨W8, e8, b8, k8⟩ := setRow_at (cs := #[.bool t1, .string t2, .bool false, .string t3, .bool t4, .string t5, .bool false, .string t6, .bool t7, .bool f1, .string f2, .bool false, .string f3, .bool f4, .string f5, .bool false, .string f6, .bool f7, .bool o, .bool c]) Bgb.out
  rw [e8]
  go_simp
  refine hK _ _ ?_
  clear hK K
  have Hb8 := Lib.hid b8
  have HkZ := Lib.hid (HkW.out.trans k8 (by simp; omega))
  clear b8 k8 e8
  go_wp2_with fail
  refine bodyPost_ret (v := iv I) ?_ rfl ⟨rfl, HkZ.out⟩
  rw [results_cell1 rfl]
  exact HL.out _ _ Hb8.out
 ·rw [hc] at H3
  have hC : iC I = #[.bool (sgB A.1.p.num), .string (mgS A.1.p.num), .bool false, .string (dnS A.1.p.den), .bool (sgB A.1.r.num), .string (mgS A.1.r.num), .bool false, .string (dnS A.1.r.den), .bool A.1.neg, .bool (sgB B.1.p.num), .string (mgS B.1.p.num), .bool false, .string (dnS B.1.p.den), .bool (sgB B.1.r.num), .string (mgS B.1.r.num), .bool false, .string (dnS B.1.r.den), .bool B.1.neg, .bool o, .bool c] := by
   rw [← HI.out, if_neg (by grind), if_neg (by grind)]
   show _ = _
   cases c <;> rfl
  clear hc hlt HI
  generalize sgB (A.1).p.num = f1 at *
  generalize mgS (A.1).p.num = f2 at *
  generalize dnS (A.1).p.den = f3 at *
  generalize sgB (A.1).r.num = f4 at *
  generalize mgS (A.1).r.num = f5 at *
  generalize dnS (A.1).r.den = f6 at *
  generalize (A.1).neg = f7 at *
  generalize sgB (B.1).p.num = t1 at *
  generalize mgS (B.1).p.num = t2 at *
  generalize dnS (B.1).p.den = t3 at *
  generalize sgB (B.1).r.num = t4 at *
  generalize mgS (B.1).r.num = t5 at *
  generalize dnS (B.1).r.den = t6 at *
  generalize (B.1).neg = t7 at *
  rw [hC] at HZ HO HL HR
  clear hC
  have hbd := fun w => run_build (P := Tryz.prog) w 33 #[(0, .agg #[.bool f1, .string f2, .bool false, .string f3, .bool f4, .string f5, .bool false, .string f6, .bool f7]), (1, .agg #[.bool t1, .string t2, .bool false, .string t3, .bool t4, .string t5, .bool false, .string t6, .bool t7]), (2, .bool o), (3, .bool c)] _ (iv_built _ _ _ _ _ _ _ _ _ _ _ _ _ _ _ _)
  go_enter Tryz.func44, Tryz.ntmps44
  go_wp2_with fail
  obtain ⟨W, ga, gb, hW, ega, egb, bga, bgb, hga, hgb, hgW, hkW⟩ := al2 w (.cells #[.int .u8 P1, .int .u8 D1, .int .u8 R1, .int .u8 E1, .bool n1, .int .u8 P2, .int .u8 D2, .int .u8 R2, .int .u8 E2, .bool n2, .bool o, .bool c] 63) (.cells #[.bool false, .string ⟨#[]⟩, .bool false, .string ⟨#[]⟩, .bool false, .string ⟨#[]⟩, .bool false, .string ⟨#[]⟩, .bool false, .bool false, .string ⟨#[]⟩, .bool false, .string ⟨#[]⟩, .bool false, .string ⟨#[]⟩, .bool false, .string ⟨#[]⟩, .bool false, .bool false, .bool false] 33)
  rw [← hW]
  try rw [egb]
  try rw [ega]
  have Bga := Lib.hid bga
  have Bgb := Lib.hid bgb
  have HkW := Lib.hid hkW
  clear hW hkW ega egb bga bgb
  refine wp_region_new 12 [(3, 33)] (fun _ => .cells #[.bool false, .string ⟨#[]⟩, .bool false, .string ⟨#[]⟩, .bool false, .string ⟨#[]⟩, .bool false, .string ⟨#[]⟩, .bool false, .bool false, .string ⟨#[]⟩, .bool false, .string ⟨#[]⟩, .bool false, .string ⟨#[]⟩, .bool false, .string ⟨#[]⟩, .bool false, .bool false, .bool false] 33) (by kernel_rfl) (by kernel_rfl) (by kernel_rfl) (fun t ht ev w o ho => by simp at ht; subst ht; exact al_iv ev w o ho) ?_
  intro U hU
  have kga := kw_cells (hU.heap Bga.out (by simp))
  have Q1 : Hid (∀ m : KW U, Calls Tryz.prog 31 #[.agg #[.int .u8 P1, .int .u8 D1, .int .u8 R1, .int .u8 E1, .bool n1]] (Wk U m) fun e w' => e = .returned (.agg #[.bool f1, .string f2, .bool false, .string f3, .bool f4, .string f5, .bool false, .string f6, .bool f7]) ∧ ∃ m, w' = Wk U m) := fun m => qk m (H1.out _)
  have Q2 : Hid (∀ m : KW U, Calls Tryz.prog 31 #[.agg #[.int .u8 P2, .int .u8 D2, .int .u8 R2, .int .u8 E2, .bool n2]] (Wk U m) fun e w' => e = .returned (.agg #[.bool t1, .string t2, .bool false, .string t3, .bool t4, .string t5, .bool false, .string t6, .bool t7]) ∧ ∃ m, w' = Wk U m) := fun m => qk m (H2.out _)
  simp only [List.map_cons, List.map_nil, unal, isAl, if_true, if_false, Bool.false_eq_true, List.take_succ_cons, List.take_zero]
  repeat (first
   | go_big_quiet_skip
   | (go_big_quiet_want; go_big_quiet_op; first | go_big_quiet_on | go_big_quiet_call (first
    | (go_at_call 31; with_reducible exact (Q1).out _) | (go_at_call 31; with_reducible exact (Q2).out _))))
  refine wpQuiet_nil ?_
  intro p hp1 hp2 w1 hk_w1 hz
  have bgx := hz (3, 33) (by simp)
  have hgx := hp1 3 (by simp)
  simp only [List.map_cons, List.map_nil, pl, List.drop_succ_cons, List.drop_zero]
  dsimp only at bgx
  generalize p 3 = gd at *
  have Bgd := Lib.hid bgx
  have hgd := hgx
  clear hz hp1 hp2 bgx hgx
  clear kga Q1 Q2 hU U p H1 H2
  have B2ga := Lib.hid (hk_w1.heap Bga.out (by simp))
  have B2gb := Lib.hid (hk_w1.heap Bgb.out (by simp))
  have HkW2 := Lib.hid (HkW.out.trans0 hk_w1)
  clear HkW hk_w1 Bga Bgb
  have Bga := B2ga
  have Bgb := B2gb
  have HkW := HkW2
  clear HkW2 B2ga B2gb
  refine wpList_rowK (by rfl) _ _ _ rfl gd #[.bool f1, .string f2, .bool false, .string f3, .bool f4, .string f5, .bool false, .string f6, .bool f7, .bool t1, .string t2, .bool false, .string t3, .bool t4, .string t5, .bool false, .string t6, .bool t7, .bool o, .bool c] rfl rfl _ _ Bgd.out (by exact HS.out) (by rfl) (ones20 _ _ _ _ _ _ _ _ _ _ _ _ _ _ _ _) (fun K hK => ?_)
  obtain ⟨W4, e4, b4, hkW2⟩ := setRow_at (cs := #[.bool f1, .string f2, .bool false, .string f3, .bool f4, .string f5, .bool false, .string f6, .bool f7, .bool t1, .string t2, .bool false, .string t3, .bool t4, .string t5, .bool false, .string t6, .bool t7, .bool o, .bool c]) Bgd.out
  rw [e4]
  go_simp
  refine hK _ _ ?_
  clear hK K
  have Bgd := Lib.hid b4
  clear b4 e4
  have B2ga := Lib.hid (hkW2.heap Bga.out (by simp; omega))
  clear Bga
  have Bga := B2ga
  clear B2ga
  have B2gb := Lib.hid (hkW2.heap Bgb.out (by simp; omega))
  clear Bgb
  have Bgb := B2gb
  clear B2gb
  have HkW2 := Lib.hid (HkW.out.trans hkW2 (by simp; omega))
  clear HkW hkW2
  have HkW := HkW2
  clear HkW2
  have pgd := cell_of Bgd.out
  have fgd := frozen_of Bgd.out
  have lgd := lt_of_heap Bgd.out
  go_wp2_with fail
  refine (H3.out _).mono ?_
  rintro e w5 ⟨rfl, hk5⟩
  dsimp only
  have Bgb := Lib.hid (hk5.heap Bgb.out (by simp))
  have Bgd := Lib.hid (hk5.heap Bgd.out (by simp))
  have HkW := Lib.hid (HkW.out.trans0 hk5)
  clear pgd fgd lgd H3
  go_upto_region 7 with (fail)
  refine wp_region_lit ?_
  refine wpList_R (v := .agg #[.bool f1, .string f2, .bool false, .string f3, .bool f4, .string f5, .bool false, .string f6, .bool f7, .bool t1, .string t2, .bool false, .string t3, .bool t4, .string t5, .bool false, .string t6, .bool t7, .bool o, .bool c]) (by rfl) (exec_load _ _ ⟨gd, 0, none⟩ _ rfl rfl (by have := HL.out _ _ Bgd.out; rw [HR.out] at this; exact this)) (fun K hK => ?_)
  go_simp
  refine hK _ _ ?_
  clear hK K
  refine wpList_rowK (by rfl) _ _ _ rfl gb #[.bool f1, .string f2, .bool false, .string f3, .bool f4, .string f5, .bool false, .string f6, .bool f7, .bool t1, .string t2, .bool false, .string t3, .bool t4, .string t5, .bool false, .string t6, .bool t7, .bool o, .bool c] rfl rfl _ _ Bgb.out HZ.out (by rfl) HO.out (fun K hK => ?_)
  obtain ⟨W8, e8, b8, k8⟩ := setRow_at (cs := #[.bool f1, .string f2, .bool false, .string f3, .bool f4, .string f5, .bool false, .string f6, .bool f7, .bool t1, .string t2, .bool false, .string t3, .bool t4, .string t5, .bool false, .string t6, .bool t7, .bool o, .bool c]) Bgb.out
  rw [e8]
  go_simp
  refine hK _ _ ?_
  clear hK K
  have Hb8 := Lib.hid b8
  have HkZ := Lib.hid (HkW.out.trans k8 (by simp; omega))
  clear b8 k8 e8
  go_wp2_with fail
  refine bodyPost_ret (v := iv I) ?_ rfl ⟨rfl, HkZ.out⟩
  rw [results_cell1 rfl]
  exact HL.out _ _ Hb8.out
 ·rw [hc] at H3
  have hC : iC I = #[.bool (sgB A.1.p.num), .string (mgS A.1.p.num), .bool false, .string (dnS A.1.p.den), .bool (sgB A.1.r.num), .string (mgS A.1.r.num), .bool false, .string (dnS A.1.r.den), .bool A.1.neg, .bool (sgB B.1.p.num), .string (mgS B.1.p.num), .bool false, .string (dnS B.1.p.den), .bool (sgB B.1.r.num), .string (mgS B.1.r.num), .bool false, .string (dnS B.1.r.den), .bool B.1.neg, .bool false, .bool false] := by
   rw [← HI.out, if_neg (by grind), if_pos hlt]
   rfl
  clear hc hlt HI
  generalize sgB (A.1).p.num = f1 at *
  generalize mgS (A.1).p.num = f2 at *
  generalize dnS (A.1).p.den = f3 at *
  generalize sgB (A.1).r.num = f4 at *
  generalize mgS (A.1).r.num = f5 at *
  generalize dnS (A.1).r.den = f6 at *
  generalize (A.1).neg = f7 at *
  generalize sgB (B.1).p.num = t1 at *
  generalize mgS (B.1).p.num = t2 at *
  generalize dnS (B.1).p.den = t3 at *
  generalize sgB (B.1).r.num = t4 at *
  generalize mgS (B.1).r.num = t5 at *
  generalize dnS (B.1).r.den = t6 at *
  generalize (B.1).neg = t7 at *
  rw [hC] at HZ HO HL HR
  clear hC
  have hbd := fun w => run_build (P := Tryz.prog) w 33 #[(0, .agg #[.bool f1, .string f2, .bool false, .string f3, .bool f4, .string f5, .bool false, .string f6, .bool f7]), (1, .agg #[.bool t1, .string t2, .bool false, .string t3, .bool t4, .string t5, .bool false, .string t6, .bool t7]), (2, .bool o), (3, .bool c)] _ (iv_built _ _ _ _ _ _ _ _ _ _ _ _ _ _ _ _)
  go_enter Tryz.func44, Tryz.ntmps44
  go_wp2_with fail
  obtain ⟨W, ga, gb, hW, ega, egb, bga, bgb, hga, hgb, hgW, hkW⟩ := al2 w (.cells #[.int .u8 P1, .int .u8 D1, .int .u8 R1, .int .u8 E1, .bool n1, .int .u8 P2, .int .u8 D2, .int .u8 R2, .int .u8 E2, .bool n2, .bool o, .bool c] 63) (.cells #[.bool false, .string ⟨#[]⟩, .bool false, .string ⟨#[]⟩, .bool false, .string ⟨#[]⟩, .bool false, .string ⟨#[]⟩, .bool false, .bool false, .string ⟨#[]⟩, .bool false, .string ⟨#[]⟩, .bool false, .string ⟨#[]⟩, .bool false, .string ⟨#[]⟩, .bool false, .bool false, .bool false] 33)
  rw [← hW]
  try rw [egb]
  try rw [ega]
  have Bga := Lib.hid bga
  have Bgb := Lib.hid bgb
  have HkW := Lib.hid hkW
  clear hW hkW ega egb bga bgb
  refine wp_region_new 12 [(3, 33)] (fun _ => .cells #[.bool false, .string ⟨#[]⟩, .bool false, .string ⟨#[]⟩, .bool false, .string ⟨#[]⟩, .bool false, .string ⟨#[]⟩, .bool false, .bool false, .string ⟨#[]⟩, .bool false, .string ⟨#[]⟩, .bool false, .string ⟨#[]⟩, .bool false, .string ⟨#[]⟩, .bool false, .bool false, .bool false] 33) (by kernel_rfl) (by kernel_rfl) (by kernel_rfl) (fun t ht ev w o ho => by simp at ht; subst ht; exact al_iv ev w o ho) ?_
  intro U hU
  have kga := kw_cells (hU.heap Bga.out (by simp))
  have Q1 : Hid (∀ m : KW U, Calls Tryz.prog 31 #[.agg #[.int .u8 P1, .int .u8 D1, .int .u8 R1, .int .u8 E1, .bool n1]] (Wk U m) fun e w' => e = .returned (.agg #[.bool f1, .string f2, .bool false, .string f3, .bool f4, .string f5, .bool false, .string f6, .bool f7]) ∧ ∃ m, w' = Wk U m) := fun m => qk m (H1.out _)
  have Q2 : Hid (∀ m : KW U, Calls Tryz.prog 31 #[.agg #[.int .u8 P2, .int .u8 D2, .int .u8 R2, .int .u8 E2, .bool n2]] (Wk U m) fun e w' => e = .returned (.agg #[.bool t1, .string t2, .bool false, .string t3, .bool t4, .string t5, .bool false, .string t6, .bool t7]) ∧ ∃ m, w' = Wk U m) := fun m => qk m (H2.out _)
  simp only [List.map_cons, List.map_nil, unal, isAl, if_true, if_false, Bool.false_eq_true, List.take_succ_cons, List.take_zero]
  repeat (first
   | go_big_quiet_skip
   | (go_big_quiet_want; go_big_quiet_op; first | go_big_quiet_on | go_big_quiet_call (first
    | (go_at_call 31; with_reducible exact (Q1).out _) | (go_at_call 31; with_reducible exact (Q2).out _))))
  refine wpQuiet_nil ?_
  intro p hp1 hp2 w1 hk_w1 hz
  have bgx := hz (3, 33) (by simp)
  have hgx := hp1 3 (by simp)
  simp only [List.map_cons, List.map_nil, pl, List.drop_succ_cons, List.drop_zero]
  dsimp only at bgx
  generalize p 3 = gd at *
  have Bgd := Lib.hid bgx
  have hgd := hgx
  clear hz hp1 hp2 bgx hgx
  clear kga Q1 Q2 hU U p H1 H2
  have B2ga := Lib.hid (hk_w1.heap Bga.out (by simp))
  have B2gb := Lib.hid (hk_w1.heap Bgb.out (by simp))
  have HkW2 := Lib.hid (HkW.out.trans0 hk_w1)
  clear HkW hk_w1 Bga Bgb
  have Bga := B2ga
  have Bgb := B2gb
  have HkW := HkW2
  clear HkW2 B2ga B2gb
  refine wpList_rowK (by rfl) _ _ _ rfl gd #[.bool f1, .string f2, .bool false, .string f3, .bool f4, .string f5, .bool false, .string f6, .bool f7, .bool t1, .string t2, .bool false, .string t3, .bool t4, .string t5, .bool false, .string t6, .bool t7, .bool o, .bool c] rfl rfl _ _ Bgd.out (by exact HS.out) (by rfl) (ones20 _ _ _ _ _ _ _ _ _ _ _ _ _ _ _ _) (fun K hK => ?_)
  obtain ⟨W4, e4, b4, hkW2⟩ := setRow_at (cs := #[.bool f1, .string f2, .bool false, .string f3, .bool f4, .string f5, .bool false, .string f6, .bool f7, .bool t1, .string t2, .bool false, .string t3, .bool t4, .string t5, .bool false, .string t6, .bool t7, .bool o, .bool c]) Bgd.out
  rw [e4]
  go_simp
  refine hK _ _ ?_
  clear hK K
  have Bgd := Lib.hid b4
  clear b4 e4
  have B2ga := Lib.hid (hkW2.heap Bga.out (by simp; omega))
  clear Bga
  have Bga := B2ga
  clear B2ga
  have B2gb := Lib.hid (hkW2.heap Bgb.out (by simp; omega))
  clear Bgb
  have Bgb := B2gb
  clear B2gb
  have HkW2 := Lib.hid (HkW.out.trans hkW2 (by simp; omega))
  clear HkW hkW2
  have HkW := HkW2
  clear HkW2
  have pgd := cell_of Bgd.out
  have fgd := frozen_of Bgd.out
  have lgd := lt_of_heap Bgd.out
  go_wp2_with fail
  refine (H3.out _).mono ?_
  rintro e w5 ⟨rfl, hk5⟩
  dsimp only
  have Bgb := Lib.hid (hk5.heap Bgb.out (by simp))
  have Bgd := Lib.hid (hk5.heap Bgd.out (by simp))
  have HkW := Lib.hid (HkW.out.trans0 hk5)
  clear pgd fgd lgd H3
  have pgd := cell_of Bgd.out
  have fgd := frozen_of Bgd.out
  have lgd := lt_of_heap Bgd.out
  go_upto_region 7 with (fail)
  have b9 := set_same (set_same Bgd.out 18 (.bool false)) 19 (.bool false)
  have k9 : Keep [gd] w5 ((w5.setCell ⟨gd, 18, none⟩ (.bool false)).setCell ⟨gd, 19, none⟩ (.bool false)) := (Keep.setCell [gd] w5 gd 18 _ (by simp)).trans (Keep.setCell [gd] _ gd 19 _ (by simp)) (by simp)
  have b10 := k9.heap Bgb.out (by simp; omega)
  have HkW := Lib.hid (HkW.out.trans k9 (by simp; omega))
  clear pgd fgd lgd k9
  generalize (w5.setCell ⟨gd, 18, none⟩ (.bool false)).setCell ⟨gd, 19, none⟩ (.bool false) = w6 at *
  have Bgd := Lib.hid (show w6.heap[gd]? = some (.cells #[.bool f1, .string f2, .bool false, .string f3, .bool f4, .string f5, .bool false, .string f6, .bool f7, .bool t1, .string t2, .bool false, .string t3, .bool t4, .string t5, .bool false, .string t6, .bool t7, .bool false, .bool false] 33) from b9)
  have Bgb := Lib.hid b10
  clear b9 b10
  refine wp_region_lit ?_
  refine wpList_R (v := .agg #[.bool f1, .string f2, .bool false, .string f3, .bool f4, .string f5, .bool false, .string f6, .bool f7, .bool t1, .string t2, .bool false, .string t3, .bool t4, .string t5, .bool false, .string t6, .bool t7, .bool false, .bool false]) (by rfl) (exec_load _ _ ⟨gd, 0, none⟩ _ rfl rfl (by have := HL.out _ _ Bgd.out; rw [HR.out] at this; exact this)) (fun K hK => ?_)
  go_simp
  refine hK _ _ ?_
  clear hK K
  refine wpList_rowK (by rfl) _ _ _ rfl gb #[.bool f1, .string f2, .bool false, .string f3, .bool f4, .string f5, .bool false, .string f6, .bool f7, .bool t1, .string t2, .bool false, .string t3, .bool t4, .string t5, .bool false, .string t6, .bool t7, .bool false, .bool false] rfl rfl _ _ Bgb.out HZ.out (by rfl) HO.out (fun K hK => ?_)
  obtain ⟨W8, e8, b8, k8⟩ := setRow_at (cs := #[.bool f1, .string f2, .bool false, .string f3, .bool f4, .string f5, .bool false, .string f6, .bool f7, .bool t1, .string t2, .bool false, .string t3, .bool t4, .string t5, .bool false, .string t6, .bool t7, .bool false, .bool false]) Bgb.out
  rw [e8]
  go_simp
  refine hK _ _ ?_
  clear hK K
  have Hb8 := Lib.hid b8
  have HkZ := Lib.hid (HkW.out.trans k8 (by simp; omega))
  clear b8 k8 e8
  go_wp2_with fail
  refine bodyPost_ret (v := iv I) ?_ rfl ⟨rfl, HkZ.out⟩
  rw [results_cell1 rfl]
  exact HL.out _ _ Hb8.out
end Go.Proofs.YteknldaoegccaaaGreatDoor
