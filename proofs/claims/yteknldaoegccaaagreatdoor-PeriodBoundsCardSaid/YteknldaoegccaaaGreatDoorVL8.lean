/- For any period of up to eight intervals, Bounds returns the least interval that contains it, and Ends the ends of its intervals; for every list. -/
import Derived.SevenTiedAt
import Derived.Lay
import Derived.MakeChecks
import Derived.LaidLaws
import Derived.Test.YteknldaoegccaaaGreatDoorW41
import Derived.Test.YteknldaoegccaaaGreatDoorW37
import Derived.Test.YteknldaoegccaaaGreatDoorChecked
import Derived.Test.YteknldaoegccaaaGreatDoorCards
import Derived.Test.YteknldaoegccaaaGreatDoorTie
set_option linter.unusedVariables false
set_option linter.unusedSimpArgs false
set_option maxRecDepth 100000
namespace Go.Proofs.YteknldaoegccaaaGreatDoor
open Go.RowKit
open Classical
section
variable {P : Program} {ops : Array Oper} {md : Region.Mode} {S : World → Prop} {Q : Exit → Act → World → Prop}
theorem wpList_wanted {rest : List Oper} {o : Oper} {a : Act} {w w' : World} {v : Value} (hw : Region.wanted o (yielded ops a.tmps) = true) (h : (execOp a.eval o).run P w = .ok (.value v) w')
  (hk : ∀ K : Act → World → Prop, (∀ a w, wpList P ops Q rest a w → K a w) → K (a.put o.dst v) w') : wpList P ops Q (o :: rest) a w := by
 unfold wpList
 rw [if_pos hw]
 exact .inl (wp_op v w' h (hk _ fun _ _ h => h))
theorem wpList_wantedR {rest : List Oper} {o : Oper} {a : Act} {w : World} {v : Value} (hw : Region.wanted o (yielded ops a.tmps) = true) (h : (execOp a.eval o).run P w = .ok (.value v) w)
  (hk : ∀ K : Act → World → Prop, (∀ a w, wpList P ops Q rest a w → K a w) → K (a.put o.dst v) w) : wpList P ops Q (o :: rest) a w := wpList_wanted hw h hk
theorem exec_bin {o : Oper} {ev : Operand → Value} {w : World} (op : BinOp) (t : TypeId) (x y : Operand) (s : TypeId) (cx cy : Array Value) (v : Value) (ho : o.op = .binOp op t x y s) (hx : ev x = .agg cx) (hy : ev y = .agg cy) (hg : P.eqGuardType P.depth t = false)
  (h : (binOp op t (.agg cx) (.agg cy)).run P w = .ok v w) : (execOp ev o).run P w = .ok (.value v) w := by
 unfold execOp
 simp only [ho, hx, hy, Sem.run_bind, run_eqGuard_agg (hm := hg), Result.andThen_ok, h, Sem.run_pure]
end
theorem MQ.addBox {W u u' : World} {l : List (Value × List (Iv K))} {bs : List (Nat × Obj)} (h : MQ W u l bs) (hk : Keep [] u u') {g : Nat} {o : Obj} (hb : u'.heap[g]? = some o) (hg : W.heap.size ≤ g) : MQ W u' l ((g, o) :: bs) := by
 obtain ⟨a1, a2, a3⟩ := h.move hk
 refine ⟨a1, a2, fun b hb' => ?_⟩
 rcases List.mem_cons.1 hb' with rfl | hb'
 ·exact ⟨hb, hg⟩
 ·exact a3 b hb'
set_option maxHeartbeats 8000000 in
theorem periodBounds_c (l : List SpanA) (w : World) (sv : Value) (hl : SpQ w sv l) (hl9 : l.length ≤ 9223372036854775807) :
  Calls Tryz.prog 10 #[sv] w fun e w' => e = .returned (.bool true) ∧ Keep [] w w' := by
 have HP := Lib.hid (lperiod_c l w sv hl hl9)
 have hN : (perOf l).length ≤ 1000 := by
  have h := (perOf_per l).len
  have h2 := ptsOf_len l
  omega
 obtain ⟨ao, ac, rfl, _⟩ := hl
 clear hl9
 generalize perOf l = P at *
 have HB := Lib.hid (fun u v (hv : IvR u v P) => bounds_c P u v hv (by omega))
 have HE := Lib.hid (fun u v (hv : IvR u v P) => pends_c P u v hv (by omega))
 have HF := Lib.hid (fun u v (hv : IvR u v P) => ends_c P u v hv (by omega))
 have HEl := Lib.hid (show (sortS (ptsL P)).length ≤ 100000 by
  have h3 := sortS_len (ptsL P)
  rw [ptsL_len] at h3
  omega)
 generalize sortS (ptsL P) = E at *
 obtain ⟨b0, hb0⟩ : ∃ b0, (!P.isEmpty) = b0 := ⟨_, rfl⟩
 rw [hb0] at HB
 have Hb0 := Lib.hid hb0
 clear hb0
 have HSz := Lib.hid (iv_size (bndL P))
 have HOn := Lib.hid (iv_ones (bndL P))
 have HLd := Lib.hid (fun W b (h : W.heap[b]? = some (.cells (iC (bndL P)) 33)) => load_iv W b 0 (bndL P) (ivAt_box h))
 have HCs : Hid ((iC (bndL P)).size = 20) := rfl
 go_enter Tryz.func10, Tryz.ntmps10
 go_wp2_with fail
 refine HP.out.mono ?_
 rintro e w1 ⟨v1, rfl, hv1, hk1⟩
 obtain ⟨po, pc, rfl, _⟩ := hv1.form
 dsimp only
 have HM := Lib.hid ((MQ.start (Keep.refl [] w)).add hk1 hv1)
 clear HP hv1 hk1
 go_upto_region 2 with (fail)
 refine wp_region_lit ?_
 refine' wpList_R (v := _) (by rfl) (?hruna) (fun K hK => ?hnexta)
 case hruna => (go_simp; try rfl)
 rotate_left 0
 go_simp
 refine hK _ _ ?_
 clear hK K
 refine wpList_plain (by rfl) (fun K hK => ?_)
 refine wp_enter 38 #[.slice po P.length pc] (by go_simp) ?_
 refine (HB.out _ _ (HM.out.get _ _ (by simp))).mono ?_
 rintro e w2 ⟨rfl, hk2⟩
 refine ⟨_, rfl, ?_⟩
 unfold iv at *
 generalize hCB : iC (bndL P) = B at *
 go_simp
 refine hK _ _ ?_
 clear hK K
 have HM := Lib.hid (HM.out.move hk2)
 refine' wpList_R (v := _) (by rfl) (?hrunb) (fun K hK => ?hnextb)
 case hrunb => (go_simp; try rfl)
 rotate_left 0
 go_simp
 refine hK _ _ ?_
 clear hK K
 refine' wpList_R (v := _) (by rfl) (?hrunc) (fun K hK => ?hnextc)
 case hrunc => (go_simp; try rfl)
 rotate_left 0
 go_simp
 refine hK _ _ ?_
 clear hK K
 refine' wpList_R (v := _) (by rfl) (?hrund) (fun K hK => ?hnextd)
 case hrund => (go_simp; try rfl)
 rotate_left 0
 go_simp
 refine hK _ _ ?_
 clear hK K
 obtain ⟨w3, gt, e1, e2, bgt, hgt, _, hk3⟩ := al1 w2 (.cells #[.bool false, .string ⟨#[]⟩, .bool false, .string ⟨#[]⟩, .bool false, .string ⟨#[]⟩, .bool false, .string ⟨#[]⟩, .bool false, .bool false, .string ⟨#[]⟩, .bool false, .string ⟨#[]⟩, .bool false, .string ⟨#[]⟩, .bool false, .string ⟨#[]⟩, .bool false, .bool false, .bool false] 33)
 refine wpList_K (v := .pointer (some ⟨w2.heap.size, 0, none⟩)) (w' := w2.alloc (.cells #[.bool false, .string ⟨#[]⟩, .bool false, .string ⟨#[]⟩, .bool false, .string ⟨#[]⟩, .bool false, .string ⟨#[]⟩, .bool false, .bool false, .string ⟨#[]⟩, .bool false, .string ⟨#[]⟩, .bool false, .string ⟨#[]⟩, .bool false, .string ⟨#[]⟩, .bool false, .bool false, .bool false] 33)) (by rfl) (al_iv _ _ _ rfl) (fun K hK => ?_)
 rw [← e1, e2]
 clear e1
 go_simp
 refine hK _ _ ?_
 clear hK K
 refine wpList_rowK (by rfl) _ _ _ rfl gt B rfl rfl _ _ bgt HSz.out (by rw [HCs.out]; rfl) HOn.out (fun K hK => ?_)
 obtain ⟨w4, e4, b4, k4⟩ := setRow_at (cs := B) bgt
 rw [e4]
 go_simp
 refine hK _ _ ?_
 clear hK K e4
 have HM := Lib.hid (HM.out.addBox (hk3.trans k4 (by simp; omega)) b4 (by have := HM.out.1.size; omega))
 clear b4 k4 hk3 bgt hk2 e2
 go_wp2_with fail
 refine (HE.out _ (.slice po P.length pc) (HM.out.get _ P (by simp))).mono ?_
 rintro e w5 ⟨v5, rfl, hv5, hk5⟩
 obtain ⟨ea, ec, rfl, _⟩ := hv5.form
 dsimp only
 have HM := Lib.hid (HM.out.move hk5)
 have HKa := Lib.hid hv5
 clear hv5 hk5
 go_wp2_with fail
 refine (HF.out _ (.slice po P.length pc) (HM.out.get _ P (by simp))).mono ?_
 rintro e w6 ⟨v6, rfl, hv6, hk6⟩
 obtain ⟨fa, fc, rfl, _⟩ := hv6.form
 dsimp only
 have HM := Lib.hid (HM.out.move hk6)
 have HKa := Lib.hid (HKa.out.later hk6)
 have HKb := Lib.hid hv6
 clear hv6 hk6 HE HF
 go_wp2_with fail
 refine (known_c _).mono ?_
 rintro e w7 ⟨rfl, hk7⟩
 dsimp only
 have HM := Lib.hid (HM.out.move hk7)
 have HKa := Lib.hid (HKa.out.later hk7)
 have HKb := Lib.hid (HKb.out.later hk7)
 clear hk7
 have hne : ((E.length : Int) != (E.length : Int)) = false := by simp
 have hE9 := HEl.out
 go_wp2_with fail
 clear hne
 go_loopw [8] (fun c wr => ∃ k : Nat, k ≤ E.length ∧ c = .int .i64 (k : Int) ∧ Keep [] w7 wr) (fun c _ => E.length - (intOf c).toNat)
 case atStart => exact ⟨0, Nat.zero_le _, rfl, Keep.refl _ _⟩
 case round =>
  obtain ⟨k, hk, rfl, hkp⟩ := hrel
  have HKp := Lib.hid hkp
  clear hkp
  by_cases hlt : k < E.length
  ·obtain ⟨g1, o1, rfl, hg1, hat1⟩ := KR.elem (HKa.out.later HKp.out) k hlt
   obtain ⟨g2, o2, rfl, hg2, hat2⟩ := KR.elem (HKb.out.later HKp.out) k hlt
   generalize E[k] = x at *
   obtain ⟨p, hp⟩ : ∃ p, o1 + k * 9 = p := ⟨_, rfl⟩
   obtain ⟨q, hq⟩ : ∃ q, o2 + k * 9 = q := ⟨_, rfl⟩
   rw [hp] at hat1
   rw [hq] at hat2
   have HLa := Lib.hid (KAt.ld hat1 hg1)
   have HLb := Lib.hid (KAt.ld hat2 hg2)
   have HN := Lib.hid (neqR_run x x)
   rw [decide_eq_true rfl] at HN
   clear hat1 hat2
   have hkc : (k : Int) < (E.length : Int) := by omega
   unfold kv at *
   generalize kC x = X at *
   go_wp2_with fail
   refine wp_region_keep (by kernel_rfl) (by kernel_rfl) ?_
   repeat (first
    | go_big_quiet_skip
    | (go_big_quiet_want; first
     | (refine quiet_load _ _ _ (.agg X) rfl rfl (by rintro _ ⟨m, rfl⟩; exact HLa.out m) ?_; go_simp; go_big_quiet_on) | (refine quiet_load _ _ _ (.agg X) rfl rfl (by rintro _ ⟨m, rfl⟩; exact HLb.out m) ?_; go_simp; go_big_quiet_on) | (refine quiet_bin _ _ _ _ _ _ _ (_) rfl rfl rfl eqK_g (by intro w; exact HN.out w) ?_; go_simp; go_big_quiet_on)
     | (go_big_quiet_op; first | go_big_quiet_on | go_big_quiet_call (first
      | fail))))
   refine wpQuiet_nil ?_
   rintro w9 ⟨⟨_, hk_w9⟩, rfl⟩
   have HK9 := Lib.hid (HKp.out.trans0 hk_w9)
   clear hk_w9 HLa HLb HN HKp
   go_wp2_with fail
   go_roundw
   case rel => exact ⟨k + 1, by omega, congrArg (Value.int .i64) (by omega), HK9.out⟩
   case measure => simp [intOf]; omega
  ·obtain rfl : k = E.length := by omega
   have HM := Lib.hid (HM.out.move HKp.out)
   have HBox := Lib.hid (HLd.out _ gt (HM.out.box gt _ (by simp)))
   have HCB := Lib.hid hCB
   clear HKa HKb HB hlt
   cases P with
   | nil =>
    have hb : b0 = false := Hb0.out.symm
    subst hb
    have hB : B = iC zI := HCB.out.symm
    have HEq := Lib.hid (eqT_run zI)
    unfold iv at HEq
    have HZb := Lib.hid zI_built
    rw [← hB] at HEq HZb
    clear hB HCB Hb0 hCB
    go_upto_region 12 with (fail)
    refine wp_region_lit ?_
    refine' wpList_R (v := _) (by rfl) (?hrunma) (fun K hK => ?hnextma)
    case hrunma => (go_simp; try rfl)
    rotate_left 0
    go_simp
    refine hK _ _ ?_
    clear hK K
    refine' wpList_R (v := _) (by rfl) (?hrunmb) (fun K hK => ?hnextmb)
    case hrunmb => (go_simp; try rfl)
    rotate_left 0
    go_simp
    refine hK _ _ ?_
    clear hK K
    refine' wpList_R (v := _) (by rfl) (?hrunmc) (fun K hK => ?hnextmc)
    case hrunmc => (go_simp; try rfl)
    rotate_left 0
    go_simp
    refine hK _ _ ?_
    clear hK K
    refine wpList_wantedR (v := .agg B) (by rfl) (exec_load _ _ ⟨gt, 0, none⟩ _ rfl rfl HBox.out) (fun K hK => ?_)
    go_simp
    refine hK _ _ ?_
    clear hK K
    refine wpList_wantedR (v := .agg B) (by rfl) (exec_build _ #[] #[] _ rfl (by simp) HZb.out) (fun K hK => ?_)
    go_simp
    refine hK _ _ ?_
    clear hK K
    refine wpList_wantedR (v := .bool true) (by rfl) (exec_bin _ _ _ _ _ B B _ rfl rfl rfl eqI_g (HEq.out _)) (fun K hK => ?_)
    go_simp
    refine hK _ _ ?_
    clear hK K
    go_wp2_with fail
    go_ret
    exact ⟨rfl, HM.out.1⟩
   | cons i r =>
    have hb : b0 = true := Hb0.out.symm
    subst hb
    obtain ⟨g0, o0, rfl, hg0, hat0⟩ := IvR.elem (HM.out.get (.slice po (i :: r).length pc) (i :: r) (by simp)) 0 (by simp)
    obtain ⟨g', o', e, _, hat2⟩ := IvR.elem (HM.out.get (.slice (some ⟨g0, o0, none⟩) (i :: r).length pc) (i :: r) (by simp)) r.length (by simp)
    injection e with e
    injection e with e1 e2
    subst e1 e2
    have hB := HCB.out
    rw [bndL_last i r] at hB
    rw [List.getElem_cons_zero] at hat0
    generalize (i :: r)[r.length]'(by simp) = j at *
    obtain ⟨p, hp⟩ : ∃ p, o0 + r.length * 20 = p := ⟨_, rfl⟩
    rw [hp] at hat2
    rw [Nat.zero_mul, Nat.add_zero] at hat0
    have HR1 : Hid (∀ u, Keep [] wr u → (loadVar 33 ⟨g0, o0, none⟩).run Tryz.prog u = .ok (.agg (iC i)) u) := fun u hu => load_iv u g0 o0 i (hat0.keep (hu.block g0 hg0 (by simp)))
    have HR2 : Hid (∀ u, Keep [] wr u → (loadVar 33 ⟨g0, p, none⟩).run Tryz.prog u = .ok (.agg (iC j)) u) := fun u hu => load_iv u g0 p j (hat2.keep (hu.block g0 hg0 (by simp)))
    have HSI := Lib.hid (And.intro (iv_size i) (And.intro (iv_ones i) (show (iC i).size = 20 from rfl)))
    have HSJ := Lib.hid (And.intro (iv_size j) (And.intro (iv_ones j) (show (iC j).size = 20 from rfl)))
    have HBi : Hid (∀ (u : World) (g : Nat), u.heap[g]? = some (.cells (iC i) 33) → (loadVar 31 ⟨g, 0, none⟩).run Tryz.prog u = .ok (kv i.f.pt) u ∧ u.cell? ⟨g, 18, none⟩ = some (.bool i.f.beh)) := fun u g h => ⟨load_real u g 0 i.f.pt.1 (ivAt_box h).frm, (ivAt_box h) 18 _ rfl⟩
    have HBj : Hid (∀ (u : World) (g : Nat), u.heap[g]? = some (.cells (iC j) 33) → (loadVar 31 ⟨g, 9, none⟩).run Tryz.prog u = .ok (kv j.l.pt) u ∧ u.cell? ⟨g, 19, none⟩ = some (.bool (!j.l.beh))) := fun u g h => ⟨load_real u g (0 + 9) j.l.pt.1 (ivAt_box h).upto, (ivAt_box h) 19 _ rfl⟩
    have HBd := Lib.hid (iv_built' i.f j.l)
    have HEq := Lib.hid (eqT_run ⟨i.f, j.l⟩)
    unfold iv at HEq
    rw [hB] at HBd HEq
    clear hat0 hat2 hB HCB hCB
    generalize iC i = I at *
    generalize iC j = J at *
    have hnm : (i :: r).length = r.length + 1 := rfl
    generalize (i :: r).length = n at *
    generalize r.length = m at *
    have hne : ((n : Int) == 0) = false := by rw [beq_eq_false_iff_ne]; omega
    have hsub : (n : Int) - 1 = (m : Int) := by omega
    have hlt0 : (0 : Int) < (n : Int) := by omega
    have hltm : (m : Int) < (n : Int) := by omega
    have hn0 : 0 < n := by omega
    have hmn : m < n := by omega
    have hwm : IntKind.i64.wrap (m : Int) = (m : Int) := IntWalk.i64_in _ (by omega)
    have hm0 : (0 : Int) ≤ (m : Int) := by omega
    have hmt : (m : Int).toNat = m := by omega
    clear hnm
    go_upto_region 13 with (fail)
    go_cut [9, 10] (fun xv yv wz => ∃ ga gb : Nat, xv = .pointer (some ⟨ga, 0, none⟩) ∧ yv = .pointer (some ⟨gb, 0, none⟩) ∧ wz.heap[ga]? = some (.cells I 33) ∧ wz.heap[gb]? = some (.cells J 33) ∧ Keep [] wr wz)
    case first =>
     refine wp_region_heldT (S := fun u => Keep [] wr u) 12 (by kernel_rfl) (by kernel_rfl) (fun _ _ d _ _ h => by cases d <;> exact h) ?_
     have hS0 := Keep.drew [] wr
     generalize World.drew wr = u at *
     have hz0 := hS0.size
     refine' heldT_val (v := _) 0 (by rfl) (by decide) (by kernel_rfl) (by kernel_rfl) (by rfl) hS0 (fun w hw => ?hruna0) (fun K hK => ?hnexta0)
     case hruna0 => (go_simp; try rfl)
     rotate_left 0
     go_simp
     refine hK _ ?_
     clear hK K
     refine' heldT_val (v := _) 1 (by rfl) (by decide) (by kernel_rfl) (by kernel_rfl) (by rfl) hS0 (fun w hw => ?hrunb1) (fun K hK => ?hnextb1)
     case hrunb1 => (go_simp; try rfl)
     rotate_left 0
     go_simp
     refine hK _ ?_
     clear hK K
     refine heldT_val (v := .agg I) 2 (by rfl) (by decide) (by kernel_rfl) (by kernel_rfl) (by rfl) hS0 (fun w hw => exec_load _ _ ⟨g0, o0, none⟩ _ rfl rfl (HR1.out w hw)) (fun K hK => ?_)
     go_simp
     refine hK _ ?_
     clear hK K
     refine' heldT_val (v := _) 3 (by rfl) (by decide) (by kernel_rfl) (by kernel_rfl) (by rfl) hS0 (fun w hw => ?hrunc3) (fun K hK => ?hnextc3)
     case hrunc3 => (go_simp; try rfl)
     rotate_left 0
     go_simp
     refine hK _ ?_
     clear hK K
     refine' heldT_val (v := _) 4 (by rfl) (by decide) (by kernel_rfl) (by kernel_rfl) (by rfl) hS0 (fun w hw => ?hrund4) (fun K hK => ?hnextd4)
     case hrund4 => (go_simp; try rfl)
     rotate_left 0
     go_simp
     refine hK _ ?_
     clear hK K
     refine' heldT_val (v := _) 5 (by rfl) (by decide) (by kernel_rfl) (by kernel_rfl) (by rfl) hS0 (fun w hw => ?hrune5) (fun K hK => ?hnexte5)
     case hrune5 => (go_simp; try rfl)
     rotate_left 0
     go_simp
     refine hK _ ?_
     clear hK K
     refine' heldT_val (v := _) 6 (by rfl) (by decide) (by kernel_rfl) (by kernel_rfl) (by rfl) hS0 (fun w hw => ?hrunf6) (fun K hK => ?hnextf6)
     case hrunf6 => (go_simp; try rfl)
     rotate_left 0
     go_simp
     refine hK _ ?_
     clear hK K
     refine' heldT_val (v := _) 7 (by rfl) (by decide) (by kernel_rfl) (by kernel_rfl) (by rfl) hS0 (fun w hw => ?hrung7) (fun K hK => ?hnextg7)
     case hrung7 => (go_simp; try rfl)
     rotate_left 0
     go_simp
     refine hK _ ?_
     clear hK K
     refine heldT_val (v := .agg J) 8 (by rfl) (by decide) (by kernel_rfl) (by kernel_rfl) (by rfl) hS0 (fun w hw => exec_load _ _ ⟨g0, p, none⟩ _ rfl rfl (HR2.out w hw)) (fun K hK => ?_)
     go_simp
     refine hK _ ?_
     clear hK K
     clear HR1 HR2
     refine heldT_two 9 10 (by kernel_rfl) (by decide) (by decide) (by rfl) (by rfl) (by rfl) (by rfl) (fun K hK => ?_) (fun K hK => ?_)
     ·skip
      obtain ⟨u2, ga, e1, e2, bga, hga, hsga, hk1⟩ := al1 u (.cells #[.bool false, .string ⟨#[]⟩, .bool false, .string ⟨#[]⟩, .bool false, .string ⟨#[]⟩, .bool false, .string ⟨#[]⟩, .bool false, .bool false, .string ⟨#[]⟩, .bool false, .string ⟨#[]⟩, .bool false, .string ⟨#[]⟩, .bool false, .string ⟨#[]⟩, .bool false, .bool false, .bool false] 33)
      refine wp_op (.pointer (some ⟨(u).heap.size, 0, none⟩)) ((u).alloc (.cells #[.bool false, .string ⟨#[]⟩, .bool false, .string ⟨#[]⟩, .bool false, .string ⟨#[]⟩, .bool false, .string ⟨#[]⟩, .bool false, .bool false, .string ⟨#[]⟩, .bool false, .string ⟨#[]⟩, .bool false, .string ⟨#[]⟩, .bool false, .string ⟨#[]⟩, .bool false, .bool false, .bool false] 33)) (al_iv _ _ _ rfl) ?_
      rw [← e1, e2]
      clear e1
      go_simp
      have hS0 := hS0.trans0 hk1
      refine hK _ _ hS0 ?_
      clear hK K
      refine heldT_one 10 (by kernel_rfl) (by decide) (by rfl) (by rfl) (fun K hK => ?_)
      obtain ⟨u3, gb, e1, e2, bgb, hgb, hsgb, hk1⟩ := al1 u2 (.cells #[.bool false, .string ⟨#[]⟩, .bool false, .string ⟨#[]⟩, .bool false, .string ⟨#[]⟩, .bool false, .string ⟨#[]⟩, .bool false, .bool false, .string ⟨#[]⟩, .bool false, .string ⟨#[]⟩, .bool false, .string ⟨#[]⟩, .bool false, .string ⟨#[]⟩, .bool false, .bool false, .bool false] 33)
      refine wp_op (.pointer (some ⟨(u2).heap.size, 0, none⟩)) ((u2).alloc (.cells #[.bool false, .string ⟨#[]⟩, .bool false, .string ⟨#[]⟩, .bool false, .string ⟨#[]⟩, .bool false, .string ⟨#[]⟩, .bool false, .bool false, .string ⟨#[]⟩, .bool false, .string ⟨#[]⟩, .bool false, .string ⟨#[]⟩, .bool false, .string ⟨#[]⟩, .bool false, .bool false, .bool false] 33)) (al_iv _ _ _ rfl) ?_
      rw [← e1, e2]
      clear e1
      go_simp
      have hS0 := hS0.trans0 hk1
      refine hK _ _ hS0 ?_
      clear hK K
      have Ba := Lib.hid (hk1.heap bga (by simp))
      have Bb := Lib.hid bgb
      clear bga bgb e2
      refine heldT_one 11 (by kernel_rfl) (by decide) (by rfl) (by rfl) (fun K hK => ?_)
      refine wp_rowK _ _ _ rfl ga I rfl rfl _ _ Ba.out HSI.out.1 (by rw [HSI.out.2.2]; rfl) HSI.out.2.1 ?_
      obtain ⟨u4, e4, b4, k4⟩ := setRow_at (cs := I) Ba.out
      rw [e4]
      go_simp
      have hS0 := hS0.trans k4 (by simp; omega)
      have Bb4 := Lib.hid (k4.heap Bb.out (by simp; omega))
      refine hK _ _ hS0 ?_
      clear hK K e4
      refine ⟨by kernel_rfl, ?_⟩
      simp only [List.drop_succ_cons, List.drop_zero]
      refine wpList_rowK (by rfl) _ _ _ rfl gb J rfl rfl _ _ Bb4.out HSJ.out.1 (by rw [HSJ.out.2.2]; rfl) HSJ.out.2.1 (fun K hK => ?_)
      obtain ⟨u5, e5, b5, k5⟩ := setRow_at (cs := J) Bb4.out
      rw [e5]
      go_simp
      refine hK _ _ ?_
      clear hK K e5
      have HZ := Lib.hid (And.intro (k5.heap b4 (by simp; omega)) (And.intro b5 (hS0.trans k5 (by simp; omega))))
      clear b4 b5 k4 k5 hS0 Ba Bb Bb4
      go_wp2_with fail
      go_meet
      exact ⟨ga, gb, rfl, rfl, HZ.out⟩
     ·skip
      obtain ⟨u2, gb, e1, e2, bgb, hgb, hsgb, hk1⟩ := al1 u (.cells #[.bool false, .string ⟨#[]⟩, .bool false, .string ⟨#[]⟩, .bool false, .string ⟨#[]⟩, .bool false, .string ⟨#[]⟩, .bool false, .bool false, .string ⟨#[]⟩, .bool false, .string ⟨#[]⟩, .bool false, .string ⟨#[]⟩, .bool false, .string ⟨#[]⟩, .bool false, .bool false, .bool false] 33)
      refine wp_op (.pointer (some ⟨(u).heap.size, 0, none⟩)) ((u).alloc (.cells #[.bool false, .string ⟨#[]⟩, .bool false, .string ⟨#[]⟩, .bool false, .string ⟨#[]⟩, .bool false, .string ⟨#[]⟩, .bool false, .bool false, .string ⟨#[]⟩, .bool false, .string ⟨#[]⟩, .bool false, .string ⟨#[]⟩, .bool false, .string ⟨#[]⟩, .bool false, .bool false, .bool false] 33)) (al_iv _ _ _ rfl) ?_
      rw [← e1, e2]
      clear e1
      go_simp
      have hS0 := hS0.trans0 hk1
      refine hK _ _ hS0 ?_
      clear hK K
      refine heldT_one 9 (by kernel_rfl) (by decide) (by rfl) (by rfl) (fun K hK => ?_)
      obtain ⟨u3, ga, e1, e2, bga, hga, hsga, hk1⟩ := al1 u2 (.cells #[.bool false, .string ⟨#[]⟩, .bool false, .string ⟨#[]⟩, .bool false, .string ⟨#[]⟩, .bool false, .string ⟨#[]⟩, .bool false, .bool false, .string ⟨#[]⟩, .bool false, .string ⟨#[]⟩, .bool false, .string ⟨#[]⟩, .bool false, .string ⟨#[]⟩, .bool false, .bool false, .bool false] 33)
      refine wp_op (.pointer (some ⟨(u2).heap.size, 0, none⟩)) ((u2).alloc (.cells #[.bool false, .string ⟨#[]⟩, .bool false, .string ⟨#[]⟩, .bool false, .string ⟨#[]⟩, .bool false, .string ⟨#[]⟩, .bool false, .bool false, .string ⟨#[]⟩, .bool false, .string ⟨#[]⟩, .bool false, .string ⟨#[]⟩, .bool false, .string ⟨#[]⟩, .bool false, .bool false, .bool false] 33)) (al_iv _ _ _ rfl) ?_
      rw [← e1, e2]
      clear e1
      go_simp
      have hS0 := hS0.trans0 hk1
      refine hK _ _ hS0 ?_
      clear hK K
      have Bb := Lib.hid (hk1.heap bgb (by simp))
      have Ba := Lib.hid bga
      clear bga bgb e2
      refine heldT_one 11 (by kernel_rfl) (by decide) (by rfl) (by rfl) (fun K hK => ?_)
      refine wp_rowK _ _ _ rfl ga I rfl rfl _ _ Ba.out HSI.out.1 (by rw [HSI.out.2.2]; rfl) HSI.out.2.1 ?_
      obtain ⟨u4, e4, b4, k4⟩ := setRow_at (cs := I) Ba.out
      rw [e4]
      go_simp
      have hS0 := hS0.trans k4 (by simp; omega)
      have Bb4 := Lib.hid (k4.heap Bb.out (by simp; omega))
      refine hK _ _ hS0 ?_
      clear hK K e4
      refine ⟨by kernel_rfl, ?_⟩
      simp only [List.drop_succ_cons, List.drop_zero]
      refine wpList_rowK (by rfl) _ _ _ rfl gb J rfl rfl _ _ Bb4.out HSJ.out.1 (by rw [HSJ.out.2.2]; rfl) HSJ.out.2.1 (fun K hK => ?_)
      obtain ⟨u5, e5, b5, k5⟩ := setRow_at (cs := J) Bb4.out
      rw [e5]
      go_simp
      refine hK _ _ ?_
      clear hK K e5
      have HZ := Lib.hid (And.intro (k5.heap b4 (by simp; omega)) (And.intro b5 (hS0.trans k5 (by simp; omega))))
      clear b4 b5 k4 k5 hS0 Ba Bb Bb4
      go_wp2_with fail
      go_meet
      exact ⟨ga, gb, rfl, rfl, HZ.out⟩
    obtain ⟨ga, gb, rfl, rfl, hz1, hz2, hz3⟩ := hcut
    rename World => wz
    have HM := Lib.hid (HM.out.move hz3)
    have HB2 := Lib.hid (HLd.out wz gt (HM.out.box gt _ (by simp)))
    have HL1 := Lib.hid (HBi.out wz ga hz1).1
    have HL2 := Lib.hid (HBj.out wz gb hz2).1
    have c1 := (HBi.out wz ga hz1).2
    have c2 := (HBj.out wz gb hz2).2
    clear hz1 hz2 hz3 HBi HBj HBox HR1 HR2
    go_upto_region 14 with (fail)
    refine wp_region_lit ?_
    refine' wpList_R (v := _) (by rfl) (?hrunpa) (fun K hK => ?hnextpa)
    case hrunpa => (go_simp; try rfl)
    rotate_left 0
    go_simp
    refine hK _ _ ?_
    clear hK K
    refine' wpList_R (v := _) (by rfl) (?hrunpb) (fun K hK => ?hnextpb)
    case hrunpb => (go_simp; try rfl)
    rotate_left 0
    go_simp
    refine hK _ _ ?_
    clear hK K
    refine wpList_wantedR (v := .agg B) (by rfl) (exec_load _ _ ⟨gt, 0, none⟩ _ rfl rfl HB2.out) (fun K hK => ?_)
    go_simp
    refine hK _ _ ?_
    clear hK K
    refine' wpList_wantedR (v := _) (by rfl) (?hrunpc) (fun K hK => ?hnextpc)
    case hrunpc => (go_simp; try rfl)
    rotate_left 0
    go_simp
    refine hK _ _ ?_
    clear hK K
    refine wpList_wantedR (v := kv i.f.pt) (by rfl) (exec_load _ _ ⟨ga, 0, none⟩ _ rfl rfl HL1.out) (fun K hK => ?_)
    go_simp
    refine hK _ _ ?_
    clear hK K
    refine' wpList_wantedR (v := _) (by rfl) (?hrunpd) (fun K hK => ?hnextpd)
    case hrunpd => (go_simp; try rfl)
    rotate_left 0
    go_simp
    refine hK _ _ ?_
    clear hK K
    refine wpList_wantedR (v := kv j.l.pt) (by rfl) (exec_load _ _ ⟨gb, 9, none⟩ _ rfl rfl HL2.out) (fun K hK => ?_)
    go_simp
    refine hK _ _ ?_
    clear hK K
    refine' wpList_wantedR (v := _) (by rfl) (?hrunpe) (fun K hK => ?hnextpe)
    case hrunpe => (go_simp; try rfl)
    rotate_left 0
    go_simp
    refine hK _ _ ?_
    clear hK K
    refine' wpList_wantedR (v := _) (by rfl) (?hrunpf) (fun K hK => ?hnextpf)
    case hrunpf => (go_simp; try rfl)
    rotate_left 0
    go_simp
    refine hK _ _ ?_
    clear hK K
    refine' wpList_wantedR (v := _) (by rfl) (?hrunpg) (fun K hK => ?hnextpg)
    case hrunpg => (go_simp; try rfl)
    rotate_left 0
    go_simp
    refine hK _ _ ?_
    clear hK K
    refine' wpList_wantedR (v := _) (by rfl) (?hrunph) (fun K hK => ?hnextph)
    case hrunph => (go_simp; try rfl)
    rotate_left 0
    go_simp
    refine hK _ _ ?_
    clear hK K
    refine wpList_wantedR (v := .agg B) (by rfl) (exec_build _ #[(0, .tmp 69), (1, .tmp 71), (2, .tmp 73), (3, .tmp 75)] #[(0, kv i.f.pt), (1, kv j.l.pt), (2, .bool i.f.beh), (3, .bool (!j.l.beh))] _ rfl (by simp only [List.map_toArray, List.map_cons, List.map_nil]; rfl) HBd.out) (fun K hK => ?_)
    go_simp
    refine hK _ _ ?_
    clear hK K
    refine wpList_wantedR (v := .bool true) (by rfl) (exec_bin _ _ _ _ _ B B _ rfl rfl rfl eqI_g (HEq.out _)) (fun K hK => ?_)
    go_simp
    refine hK _ _ ?_
    clear hK K
    go_wp2_with fail
    go_ret
    exact ⟨rfl, HM.out.1⟩
open Go.ChangeShapes Go.WideShapes Go.ChangeAt
open Go.ChangeMaps (open_string shut_string)
theorem periodBounds_walk (v0 : Value) (w : World) (m0 : SpArg w v0) :
  Calls Tryz.prog 10 #[v0] w fun e w' => e = .returned (.bool true) ∧ Below w.heap.size w w' :=
 by
 obtain ⟨l, hl, ql⟩ := m0
 exact (periodBounds_c l w v0 hl ql).mono fun e w2 h => ⟨h.1, h.2.below0⟩
theorem periodBounds_own : ownKnob Tryz.prog.godebug = none := by kernel_rfl
theorem periodBounds_laidOut : laidOutB Tryz.prog = true := by kernel_rfl
set_option maxRecDepth 100000 in
theorem periodBounds_lifted (os : Os) (started : os.Started) (H : Type) (enc : TypeId × Value → H) :
  ReturnsInHanded {} Tryz.checked os 10 .any (fun w args => (Rows.periodBoundsSpec.pre enc Tryz.prog Tryz.f10 Rows.periodBoundsRow.domain false w args ∧ laidMetH Tryz.prog Rows.periodBoundsRow.laid w) ∧ sizedMet enc Tryz.prog Tryz.f10 (OpenSpec.ofChange Rows.periodBoundsSpec) false w args)
   (Rows.periodBoundsSpec.post enc Tryz.prog Tryz.f10 false true false false) := by
 refine returnsInHanded_of_change_and (C := Tryz.checked) (X := fun w _ => laidMetH Tryz.prog Rows.periodBoundsRow.laid w) (fun _ _ _ hh h => h.of_heap hh) periodBounds_own started (by kernel_rfl) Tryz.func10
  (ChangeSpec.witness_shaped (enc := enc) (C := Tryz.checked) (os := os) (X := fun w _ => laidMetH Tryz.prog Rows.periodBoundsRow.laid w) false (World.laidAll Tryz.prog os Rows.periodBoundsRow.laid) #[.slice none 0 0] 8 (World.laidAll_os _ _ _)
   (World.shaped_of_ZipB (by kernel_rfl) (by kernel_rfl)) (by kernel_rfl) (by kernel_rfl) (by kernel_rfl)
   (by rw [MakeChecks.laidMetH_plain _ _ _ (by kernel_rfl)]; exact laidMet_laidAll _ (by kernel_rfl) (by kernel_rfl))) ?_
 intro W base args ds gs before hval0 hW hcnd _ _ _
 have hval : ∀ (j : Nat) t v, Tryz.f10.params[j]? = some t → args[j]? = some v → Value.okWide Tryz.prog W .any base t v := hval0
 have hW' := hW
 obtain ⟨p, q, hA0, hV, rfl, hfz, hnd⟩ := hW
 have hA : DataW.TrodAll enc Tryz.prog W 0 (fun _ => true) true Tryz.f10.params.toList args.toList ds p := hA0
 rw [Tryz.params10] at hA hval
 obtain ⟨v0, vs0, d0, ds0, p0, q0, hargs, rfl, rfl, h0, r0⟩ := trodAll_cons hA
 obtain ⟨rfl, rfl, rfl⟩ := trodAll_nil r0
 obtain rfl : args = #[v0] := by cases args; simp_all
 obtain ⟨rfl, rfl⟩ := trodVars_none hV
 have k0 := h0
 have lt0 : ∀ x ∈ p0, x.block < W.heap.size := by obtain ⟨m, hm⟩ := k0; exact DataW.trod_lt m _ _ _ hm
 have m0 : SpArg W v0 := SpArg_open (hval 0 22 v0 rfl rfl) h0
 clear hA0 hval0
 refine (periodBounds_walk v0 W m0).mono fun e W' ⟨he, bel⟩ => ?_
 subst he
 exact ⟨_, rfl, _, _, _, [], _, [], hW', trodAll_mk1 (shut_bool Tryz.underlying4 _), (trodAll_cons_mk (Below.trod periodBounds_laidOut (by kernel_rfl) (of_decide_eq_true (by kernel_rfl)) k0 bel lt0) trodAll_mk0), rfl, bel.frame _, fun h => by cases h⟩
theorem periodBounds_over : Rows.periodBoundsRow.holds Tryz.pinned (OpenSpec.ofChange Rows.periodBoundsSpec) :=
 OpenClaim.holds_of_wide 10 Tryz.f10 rfl rfl rfl rfl rfl rfl rfl ⟨rfl, rfl, rfl, rfl, rfl⟩ rfl rfl rfl rfl rfl (by kernel_rfl) Tryz.func10 (by kernel_rfl)
  (of_decide_eq_true (by kernel_rfl)) (by unfold Func.isWrapper; first | (rw [if_pos (by decide +kernel)]; kernel_rfl) | (rw [if_neg (by decide +kernel)]; exact ⟨rfl, rfl⟩))
  (fun os started H enc _ => periodBounds_lifted os started H enc)
theorem periodBounds_proved : Rows.PeriodBoundsCardSaid :=
 Claim7.holds_tied_plain_at .later [] [.data, .pinned] true Rows.periodBoundsCard.stood.harness false periodBounds_over (fun _ h => by cases h) (by kernel_rfl) (fun _ h => by cases h) periodBounds_row_tie rfl ⟨rfl, rfl⟩ (by kernel_rfl) rfl
  (fun f fn hf hfn => by
   obtain rfl : f = 10 := Option.some.inj ((show Tryz.prog.funcNamed Rows.periodBoundsRow.func = some 10 by kernel_rfl).symm.trans hf) |>.symm
   obtain rfl : fn = Tryz.f10 := (Option.some.inj (Tryz.func10.symm.trans hfn)).symm
   exact ⟨by kernel_rfl, fun j t ht => by
    rw [Tryz.params10] at ht
    have hm : t ∈ [22] := by simpa using Array.mem_of_getElem? ht
    have hall : ([22].all fun u => !Tryz.prog.wantsStandIn u) = true := by kernel_rfl
    exact (show Tryz.prog.wantsStandIn t = false by simpa using List.all_eq_true.1 hall t hm)⟩)
  (by kernel_rfl)
end Go.Proofs.YteknldaoegccaaaGreatDoor
