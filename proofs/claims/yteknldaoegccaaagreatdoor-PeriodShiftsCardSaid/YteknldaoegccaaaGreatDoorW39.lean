/- Parts of a proof about this translation: Vg. -/
import Derived.Test.YteknldaoegccaaaGreatDoorW37
import Derived.Test.YteknldaoegccaaaGreatDoorW35
set_option linter.unusedVariables false
set_option linter.unusedSimpArgs false
set_option maxRecDepth 100000
namespace Go.Proofs.YteknldaoegccaaaGreatDoor
open Go.RowKit
open Classical
def mvQ (x : Qn) (q : Rat) : Qn := ⟨x.p + q, x.r, x.neg⟩
noncomputable def longI (q : Rat) (i : Iv K) : Bool := decide (cmpQ (mvQ i.f.pt.1 q) i.l.pt.1 ≤ 0)
theorem filter_take {α : Type} (p : α → Bool) (l : List α) (k : Nat) (h : k < l.length) : (l.take (k + 1)).filter p = (l.take k).filter p ++ if p l[k] then [l[k]] else [] := by
 rw [List.take_succ_eq_append_getElem h, List.filter_append]
 congr 1
 by_cases hp : p l[k] <;> simp [hp]
theorem mv_fit {x : K} {q : Rat} (hq : FitQ 24 q) : FitR 200000 (mvQ x.1 q) := by
 have h := x.2.2
 exact ⟨(FitQ.add (h.1.mono (by decide : 100000 ≤ 100000)) hq).mono (by decide), h.2.mono (by decide)⟩
theorem FrA.fq (a : FrA) : FitQ 24 a.q := by
 have hn9 : a.num.natAbs < 256 ^ 8 := by have := a.hn; omega
 have hd9 : a.d.natAbs < 256 ^ 8 := by have := a.hd; unfold FrA.d; split <;> omega
 have hd0 : a.d ≠ 0 := by unfold FrA.d; split <;> omega
 have hN : Fit 24 (a.num * 256 ^ (a.up % 9)) := Nat.le_trans (mgS_up hn9) (by omega)
 have hD : Fit 24 (a.d * 256 ^ (a.down % 9)) := Nat.le_trans (mgS_up hd9) (by omega)
 unfold FrA.q
 have hD0 : a.d * 256 ^ (a.down % 9) ≠ 0 := fun h => (Int.mul_eq_zero.1 h).elim hd0 (fun h => absurd h (by have := Int.pow_pos (n := (256 : Int)) (m := a.down % 9) (by decide); omega))
 generalize a.num * 256 ^ (a.up % 9) = N at *
 generalize a.d * 256 ^ (a.down % 9) = D at *
 rcases Int.lt_trichotomy D 0 with h | h | h
 ·rw [← Rat.neg_divInt_neg]
  refine divInt_fit (Fit_iff.2 ?_) (Fit_iff.2 ?_) (by omega)
  ·rw [Int.natAbs_neg]; exact Fit_iff.1 hN
  ·rw [Int.natAbs_neg]; exact Fit_iff.1 hD
 ·exact absurd h hD0
 ·exact divInt_fit hN hD h
def rcells (q : Rat) : List Value := [.bool (sgB q.num), .string (mgS q.num), .bool false, .string (dnS q.den)]
def rC (q : Rat) : Array Value := (rcells q).toArray
theorem rv_cells (q : Rat) : rv q = .agg (rC q) := rfl
theorem infoRat : ∃ ie, Tryz.prog.info? 29 = some ie ∧ ie.size = 4 := by
 have h : (Tryz.prog.info? 29).map (·.size) = some 4 := by kernel_rfl
 cases hi : Tryz.prog.info? 29 with
 | none => rw [hi] at h; cases h
 | some ie => rw [hi] at h; exact ⟨ie, rfl, by simpa using h⟩
theorem load_rat {w : World} {g : Nat} {q : Rat} {t : TypeId} (h : w.heap[g]? = some (.cells (rC q) t)) : (loadVar 29 ⟨g, 0, none⟩).run Tryz.prog w = .ok (rv q) w := by
 obtain ⟨ie, hie, hs⟩ := infoRat
 refine Go.Lib.rl_loadVar_cells 29 ie hie Tryz.isAgg29 g 0 (rcells q) (by rw [hs]; rfl) w (fun k v hk => ?_)
 rw [Nat.zero_add, cell_of h]
 exact (List.getElem?_toArray ..).trans hk
theorem kw_q {w : World} {g : Nat} {q : Rat} {t : TypeId} (h : w.heap[g]? = some (.cells (rC q) t)) : ∀ m : KW w, (loadVar 29 ⟨g, 0, none⟩).run Tryz.prog (Wk w m) = .ok (rv q) (Wk w m) :=
 fun m => load_rat (m.k.heap h (by simp))
set_option maxHeartbeats 8000000 in
theorem longer_p (l : List (Iv K)) (q : Rat) (hq : FitQ 24 q) (w : World) (sv : Value) (hr : IvR w sv l) (h9 : l.length ≤ 10000) :
  Calls Tryz.prog 30 #[sv, rv q] w fun e w' => ∃ v, e = .returned v ∧ IvR w' v (l.filter (longI q)) ∧ Keep [] w w' := by
 have HR := Lib.hid hr
 have HS := Lib.hid (fun (x : K) => Shift_c x.1 q (x.2.2.1.mono (by decide)) (hq.mono (by decide)))
 have HC := Lib.hid (fun (i : Iv K) => RCompare_c (mvQ i.f.pt.1 q) i.l.pt.1 ⟨(mv_fit hq).1.mono (by decide), (mv_fit hq).2.mono (by decide)⟩ ⟨i.l.pt.2.2.1.mono (by decide), i.l.pt.2.2.2.mono (by decide)⟩)
 obtain ⟨ao, ac, rfl, _⟩ := hr.form
 clear hr hq
 rw [rv_cells] at *
 go_enter Tryz.func30, Tryz.ntmps30
 go_upto_region 1 with (fail)
 obtain ⟨W, ga, hW, ega, bga, hga, hgW, hkW⟩ := al1 w (.cells (rC q) 29)
 rw [← hW]
 try rw [ega]
 have Bga := Lib.hid bga
 have HkW := Lib.hid hkW
 clear hW hkW ega bga
 go_wp2_with fail
 go_loopw [5, 10] (fun ov c wr => ∃ k : Nat, k ≤ l.length ∧ c = .int .i64 (k : Int) ∧ OI_ W wr ov ((l.take k).filter (longI q))) (fun _ c _ => l.length - (intOf c).toNat)
 case atStart => exact ⟨0, Nat.zero_le _, rfl, OE.nil W⟩
 case round =>
  obtain ⟨k, hk, rfl, hov⟩ := hrel
  obtain ⟨out, hout⟩ : ∃ out, (l.take k).filter (longI q) = out := ⟨_, rfl⟩
  rw [hout] at hov
  have Hlen := Lib.hid (show out.length ≤ k by rw [← hout]; exact Nat.le_trans (List.length_filter_le _ _) (by rw [List.length_take]; omega))
  have Hout := Lib.hid hout
  have HO := Lib.hid hov
  obtain ⟨oo, oc, rfl⟩ := hov.form
  clear hov hout
  by_cases hlt : k < l.length
  ·obtain ⟨g, o, rfl, hg, hat⟩ := IvR.elem (HR.out.later (HkW.out.trans0 HO.out.keep)) k hlt
   have Hstep := Lib.hid (filter_take (longI q) l k hlt)
   generalize l[k] = s at *
   obtain ⟨p, hp⟩ : ∃ p, o + k * 20 = p := ⟨_, rfl⟩
   rw [hp] at hat
   have HL := Lib.hid (load_iv wr g p s hat)
   clear hat
   go_upto_region 4 with (fail)
   refine wp_region_lit ?_
   refine' wpList_R (v := _) (by rfl) (?hruna) (fun K hK => ?hnexta)
   case hruna => (go_simp; try rfl)
   rotate_left 0
   go_simp
   refine hK _ _ ?_
   clear hK K
   refine wpList_R (v := iv s) (by rfl) (exec_load _ _ ⟨g, p, none⟩ _ rfl rfl HL.out) (fun K hK => ?_)
   go_simp
   refine hK _ _ ?_
   clear hK K
   obtain ⟨w1, gt, e1, e2, bgt, hgt, _, hk1⟩ := al1 wr (.cells #[.bool false, .string ⟨#[]⟩, .bool false, .string ⟨#[]⟩, .bool false, .string ⟨#[]⟩, .bool false, .string ⟨#[]⟩, .bool false, .bool false, .string ⟨#[]⟩, .bool false, .string ⟨#[]⟩, .bool false, .string ⟨#[]⟩, .bool false, .string ⟨#[]⟩, .bool false, .bool false, .bool false] 33)
   refine wpList_K (v := .pointer (some ⟨wr.heap.size, 0, none⟩)) (w' := wr.alloc (.cells #[.bool false, .string ⟨#[]⟩, .bool false, .string ⟨#[]⟩, .bool false, .string ⟨#[]⟩, .bool false, .string ⟨#[]⟩, .bool false, .bool false, .string ⟨#[]⟩, .bool false, .string ⟨#[]⟩, .bool false, .string ⟨#[]⟩, .bool false, .string ⟨#[]⟩, .bool false, .bool false, .bool false] 33)) (by rfl) (al_iv _ _ _ rfl) (fun K hK => ?_)
   rw [← e1, e2]
   clear e1
   go_simp
   refine hK _ _ ?_
   clear hK K
   refine wpList_rowK (by rfl) _ _ _ rfl gt (iC s) rfl rfl _ _ bgt (by exact iv_size s) (by rfl) (iv_ones s) (fun K hK => ?_)
   obtain ⟨w2, e4, b4, k4⟩ := setRow_at (cs := iC s) bgt
   rw [e4]
   go_simp
   refine hK _ _ ?_
   clear hK K e4 HL
   have Bgt := Lib.hid b4
   have HW2 := Lib.hid (show Keep [] wr w2 from hk1.trans k4 (by simp; omega))
   have Bga := Lib.hid ((HO.out.keep.trans0 HW2.out).heap Bga.out (by simp))
   have HO2 := Lib.hid (HO.out.later HW2.out)
   clear b4 k4 hk1 bgt
   have HXf := Lib.hid ((ivAt_box Bgt.out).ldf (lt_of_heap Bgt.out))
   have HXt := Lib.hid ((ivAt_box Bgt.out).ldt (lt_of_heap Bgt.out))
   have HXq := Lib.hid (kw_q Bga.out)
   have HLi := Lib.hid (fun w (h : w.heap[gt]? = some (.cells (iC s) 33)) => load_iv w gt 0 s (ivAt_box h))
   have hPs : longI q s = decide (cmpQ (mvQ s.f.pt.1 q) s.l.pt.1 ≤ 0) := rfl
   rw [hPs] at Hstep
   clear hPs
   have H1 := Lib.hid (HS.out s.f.pt)
   have H2 := Lib.hid (HC.out s)
   rw [show (⟨s.f.pt.1.p + q, s.f.pt.1.r, s.f.pt.1.neg⟩ : Qn) = mvQ s.f.pt.1 q from rfl] at H1
   obtain ⟨M, hM⟩ : ∃ M, kcells (mvQ s.f.pt.1 q) = M := ⟨_, rfl⟩
   have e1 : qv (mvQ s.f.pt.1 q) = .agg M.toArray := by rw [← hM]; rfl
   have e2 : qv s.f.pt.1 = .agg (kC s.f.pt) := rfl
   have e3 : qv s.l.pt.1 = .agg (kC s.l.pt) := rfl
   have e4 : kv s.f.pt = .agg (kC s.f.pt) := rfl
   have e5 : kv s.l.pt = .agg (kC s.l.pt) := rfl
   rw [e1, e2] at H1
   rw [e1, e3] at H2
   rw [e4] at HXf
   rw [e5] at HXt
   rw [rv_cells] at HXq
   clear e1 e2 e3 e4 e5 hM
   have H0 := HLi.out w2 Bgt.out
   generalize cmpQ (mvQ s.f.pt.1 q) s.l.pt.1 = n at *
   generalize M.toArray = MA at *
   generalize kC s.f.pt = F at *
   generalize kC s.l.pt = L at *
   go_wp2_with fail
   have Q1 : Hid (∀ m : KW w2, Calls Tryz.prog 68 #[.agg F, .agg (rC q)] (Wk w2 m) fun e w' => e = .returned (.agg MA) ∧ ∃ m, w' = Wk w2 m) := fun m => qk m (H1.out _)
   have Q2 : Hid (∀ m : KW w2, Calls Tryz.prog 67 #[.agg MA, .agg L] (Wk w2 m) fun e w' => e = .returned (.int .i64 n) ∧ ∃ m, w' = Wk w2 m) := fun m => qk m (H2.out _)
   refine wp_region_keep (by kernel_rfl) (by kernel_rfl) ?_
   repeat (first
    | go_big_quiet_skip
    | (go_big_quiet_want; first
     | (refine quiet_load _ _ _ (.agg F) rfl rfl (by rintro _ ⟨m, rfl⟩; exact HXf.out m) ?_; go_simp; go_big_quiet_on) | (refine quiet_load _ _ _ (.agg L) rfl rfl (by rintro _ ⟨m, rfl⟩; exact HXt.out m) ?_; go_simp; go_big_quiet_on) | (refine quiet_load _ _ _ (.agg (rC q)) rfl rfl (by rintro _ ⟨m, rfl⟩; exact HXq.out m) ?_; go_simp; go_big_quiet_on)
     | (go_big_quiet_op; first | go_big_quiet_on | go_big_quiet_call (first
      | (go_at_call 68; with_reducible exact (Q1).out _) | (go_at_call 67; with_reducible exact (Q2).out _)))))
   refine wpQuiet_nil ?_
   rintro w3 ⟨⟨_, hk_w3⟩, rfl⟩
   have HW3 := Lib.hid (HW2.out.trans0 hk_w3)
   have Bgt3 := Lib.hid (hk_w3.heap Bgt.out (by simp))
   have HO3 := Lib.hid (HO2.out.later hk_w3)
   clear hk_w3 HXf HXt HXq H1 H2 Q1 Q2 H0 HO HO2 Bgt Bga
   by_cases hn : n ≤ 0
   ·have Hst : Hid ((l.take (k + 1)).filter (longI q) = out ++ [s]) := by
     have := Hstep.out
     rw [decide_eq_true hn, if_pos rfl] at this
     rw [this, Hout.out]
     try rfl
    clear Hstep
    go_upto_region 6 with (fail)
    refine wp_region_lit ?_
    refine' wpList_R (v := _) (by rfl) (?hrunc) (fun K hK => ?hnextc)
    case hrunc => (go_simp; try rfl)
    rotate_left 0
    go_simp
    refine hK _ _ ?_
    clear hK K
    refine wpList_R (v := iv s) (by rfl) (exec_load _ _ ⟨gt, 0, none⟩ _ rfl rfl (HLi.out w3 Bgt3.out)) (fun K hK => ?_)
    go_simp
    refine hK _ _ ?_
    clear hK K
    obtain ⟨ub, gx, e3, e4, hz1, hkx, hx⟩ := IvR.single s w3
    refine wpList_K (v := .slice (some ⟨w3.heap.size, 0, none⟩) 1 1) (by rfl) (exec_bs 23 1 #[(0, .tmp 23)] #[(0, iv s)] _ rfl (by simp only [List.map_toArray, List.map_cons, List.map_nil]; rfl) (build1_i s _)) (fun K hK => ?_)
    rw [e3, e4]
    clear e3
    go_simp
    refine hK _ _ ?_
    clear hK K
    obtain ⟨v4, u4, hr4, ho4, hn4, _⟩ := IvR.app (ty := 23) (HO3.out.later hkx) (.inr (by simp)) hx (by have := Hlen.out; simp; omega)
    refine wpList_K (by rfl) (exec_app (.tmp 22) (.tmp 24) 23 _ _ _ rfl rfl rfl hr4) (fun K hK => ?_)
    go_simp
    refine hK _ _ ?_
    clear hK K hr4 hx hkx
    have HN := Lib.hid ho4
    obtain ⟨no, nc, rfl⟩ := ho4.form
    clear ho4 hn4
    go_wp2_with fail
    go_roundw
    case rel => exact ⟨k + 1, by omega, congrArg (Value.int .i64) (by omega), by rw [Hst.out]; exact HN.out⟩
    case measure => simp [intOf]; omega
   ·have Hst : Hid ((l.take (k + 1)).filter (longI q) = out) := by
     have := Hstep.out
     rw [decide_eq_false hn, if_neg (by simp), List.append_nil] at this
     rw [this, Hout.out]
     try rfl
    clear Hstep
    go_wp2_with fail
    go_roundw
    case rel => exact ⟨k + 1, by omega, congrArg (Value.int .i64) (by omega), by rw [Hst.out]; exact HO3.out⟩
    case measure => simp [intOf]; omega
  ·obtain rfl : k = l.length := by omega
   have HX := Lib.hid (HO.out.read)
   have HK := Lib.hid (HkW.out.trans0 HO.out.keep)
   have hF : out = l.filter (longI q) := by rw [← Hout.out, List.take_length]
   have HF := Lib.hid hF
   clear HO Hout hF
   go_wp2_with fail
   go_ret
   exact ⟨_, rfl, by rw [← HF.out]; exact HX.out, HK.out⟩
end Go.Proofs.YteknldaoegccaaaGreatDoor
