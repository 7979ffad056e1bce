/- Parts of a proof about this translation: Tf, Tg, Sr. -/
import Derived.Deep.MidRow
import Derived.Test.YteknldaoegccaaaGreatDoorW26
import Derived.Test.YteknldaoegccaaaGreatDoorW25
set_option linter.unusedVariables false
set_option linter.unusedSimpArgs false
set_option maxRecDepth 100000
namespace Go.Proofs.YteknldaoegccaaaGreatDoor
open Go.RowKit
open Classical
theorem infoIvB : (Tryz.prog.info? 33).map (fun i => (i.zero.map Value.cells, i.size, i.bytes)) = some (some #[.bool false, .string ⟨#[]⟩, .bool false, .string ⟨#[]⟩, .bool false, .string ⟨#[]⟩, .bool false, .string ⟨#[]⟩, .bool false, .bool false, .string ⟨#[]⟩, .bool false, .string ⟨#[]⟩, .bool false, .string ⟨#[]⟩, .bool false, .string ⟨#[]⟩, .bool false, .bool false, .bool false], 20, 216) := by kernel_rfl
theorem iv_info : ∃ i z, Tryz.prog.info? 33 = some i ∧ i.zero = some z ∧ i.size = 20 ∧ i.bytes = 216 ∧ z.cells = #[.bool false, .string ⟨#[]⟩, .bool false, .string ⟨#[]⟩, .bool false, .string ⟨#[]⟩, .bool false, .string ⟨#[]⟩, .bool false, .bool false, .string ⟨#[]⟩, .bool false, .string ⟨#[]⟩, .bool false, .string ⟨#[]⟩, .bool false, .string ⟨#[]⟩, .bool false, .bool false, .bool false] := by
 have h := infoIvB
 cases hi : Tryz.prog.info? 33 with
 | none => rw [hi] at h; cases h
 | some i =>
  rw [hi] at h
  simp only [Option.map_some, Option.some.injEq, Prod.mk.injEq] at h
  obtain ⟨h1, h2, h3⟩ := h
  cases hz : i.zero with
  | none => rw [hz] at h1; cases h1
  | some z =>
   rw [hz] at h1
   injection h1 with h1
   exact ⟨i, z, rfl, hz, h2, h3, h1⟩
theorem fill_i (f1 f4 f7 t1 t4 t7 o c : Bool) (f2 f3 f5 f6 t2 t3 t5 t6 : ByteArray) : Instr.fill (fun i => some (i * 20, 20)) ((Array.range (1 * 20)).map ((#[.bool false, .string ⟨#[]⟩, .bool false, .string ⟨#[]⟩, .bool false, .string ⟨#[]⟩, .bool false, .string ⟨#[]⟩, .bool false, .bool false, .string ⟨#[]⟩, .bool false, .string ⟨#[]⟩, .bool false, .string ⟨#[]⟩, .bool false, .string ⟨#[]⟩, .bool false, .bool false, .bool false] : Array Value)[· % (#[.bool false, .string ⟨#[]⟩, .bool false, .string ⟨#[]⟩, .bool false, .string ⟨#[]⟩, .bool false, .string ⟨#[]⟩, .bool false, .bool false, .string ⟨#[]⟩, .bool false, .string ⟨#[]⟩, .bool false, .string ⟨#[]⟩, .bool false, .string ⟨#[]⟩, .bool false, .bool false, .bool false] : Array Value).size]!))
  #[(0, Value.agg #[.bool f1, .string f2, .bool false, .string f3, .bool f4, .string f5, .bool false, .string f6, .bool f7, .bool t1, .string t2, .bool false, .string t3, .bool t4, .string t5, .bool false, .string t6, .bool t7, .bool o, .bool c])].toList = some #[.bool f1, .string f2, .bool false, .string f3, .bool f4, .string f5, .bool false, .string f6, .bool f7, .bool t1, .string t2, .bool false, .string t3, .bool t4, .string t5, .bool false, .string t6, .bool t7, .bool o, .bool c] := by kernel_rfl
theorem build1_i (x : Iv K) (w : World) : (Instr.buildSlice 23 1 #[(0, iv x)]).run Tryz.prog w = .ok (.slice (some ⟨w.heap.size, 0, none⟩) 1 1) (w.alloc (.cells (iC x) 33)) := by
 obtain ⟨i, z, hi, hz, hs, hb, hzc⟩ := iv_info
 refine run_buildSlice (P := Tryz.prog) w 23 33 1 _ _ i z Tryz.underlying23 hi hz (by rw [hs]; decide) (by rw [hs]; decide) ?_
 rw [hs, hzc, iv_cells]
 exact fill_i _ _ _ _ _ _ _ _ _ _ _ _ _ _ _ _
theorem build0_i (w : World) : (Instr.buildSlice 23 0 #[]).run Tryz.prog w = .ok (.slice (some ⟨w.heap.size, 0, none⟩) 0 0) (w.alloc (.cells #[] 33)) := by
 go_simp
abbrev OI_ := OE (fun i : Iv K => icells i) 33 20
theorem IvR.app {ty : TypeId} {w0 w : World} {v y : Value} {l m : List (Iv K)} (h : OI_ w0 w v l) (hv : v.ownBlock ≠ none ∨ 0 < m.length) (hy : IvR w y m) (hb : l.length + m.length ≤ 1000000000) :
  ∃ v' w', (Builtin.append_ #[23, 23] ty #[v, y]).run Tryz.prog w = .ok v' w' ∧ OI_ w0 w' v' (l ++ m) ∧ v'.ownBlock ≠ none ∧ ∀ F, (∀ g, v.ownBlock = some g → g ∈ F) → Keep F w w' := by
 obtain ⟨i, z, hi, hz, hs, hbt, hzc⟩ := iv_info
 exact OE.app (P := Tryz.prog) (bytes := 216) Tryz.underlying23 hi hz hs hbt (by rw [hzc]; rfl) (by decide) icells_len icells_one h hv hy (by unfold maxLen; omega) (by omega)
theorem OI_.start (w : World) : ∃ u g, w.alloc (.cells #[] 33) = u ∧ w.heap.size = g ∧ u.heap.size = g + 1 ∧ OI_ w u (.slice (some ⟨g, 0, none⟩) 0 0) [] := ⟨_, _, rfl, rfl, by simp, OE.empty w⟩
theorem IvR.single (x : Iv K) (w : World) : ∃ u g, w.alloc (.cells (iC x) 33) = u ∧ w.heap.size = g ∧ u.heap.size = g + 1 ∧ Keep [] w u ∧ IvR u (.slice (some ⟨g, 0, none⟩) 1 1) [x] := by
 refine ⟨_, _, rfl, rfl, by simp, Keep.alloc [] w _, .inr ⟨w.heap.size, 0, 1, rfl, Nat.le_refl _, by simp, fun i v hv => ?_⟩⟩
 exact ivAt_box (World.alloc_heap_new w (.cells (iC x) 33)) i v (by simpa using hv)
section
variable {P : Program}
theorem wpList_opv {ops : Array Oper} {rest : List Oper} {o : Oper} {a : Act} {w : World} {Q : Exit → Act → World → Prop} (hgd : o.guard = none) (v : Value) (w' : World) (h : (execOp a.eval o).run P w = .ok (.value v) w') (hk : wpList P ops Q rest (a.put o.dst v) w') : wpList P ops Q (o :: rest) a w :=
 wpList_plain hgd fun K hK => wp_op v w' h (hK _ _ hk)
theorem wpList_K {ops : Array Oper} {rest : List Oper} {o : Oper} {a : Act} {w w' : World} {v : Value} {Q : Exit → Act → World → Prop} (hgd : o.guard = none) (h : (execOp a.eval o).run P w = .ok (.value v) w') (hk : ∀ K : Act → World → Prop, (∀ a w, wpList P ops Q rest a w → K a w) → K (a.put o.dst v) w') : wpList P ops Q (o :: rest) a w :=
 wpList_opv hgd v w' h (hk _ fun _ _ h => h)
theorem wpList_R {ops : Array Oper} {rest : List Oper} {o : Oper} {a : Act} {w : World} {v : Value} {Q : Exit → Act → World → Prop} (hgd : o.guard = none) (h : (execOp a.eval o).run P w = .ok (.value v) w) (hk : ∀ K : Act → World → Prop, (∀ a w, wpList P ops Q rest a w → K a w) → K (a.put o.dst v) w) : wpList P ops Q (o :: rest) a w :=
 wpList_opv hgd v w h (hk _ fun _ _ h => h)
theorem exec_build {o : Oper} {ev : Operand → Value} {w : World} (t : TypeId) (parts : Array (Nat × Operand)) (parts' : Array (Nat × Value)) (cells : Array Value) (ho : o.op = .build t parts) (hp : (parts.map fun (i, x) => (i, ev x)) = parts') (h : P.built t parts'.toList = some cells) : (execOp ev o).run P w = .ok (.value (.agg cells)) w := by
 unfold execOp
 simp only [ho, hp, Sem.run_bind, Sem.run_pure, Result.andThen_ok, run_build w t parts' cells h]
theorem wpList_rowK {ops : Array Oper} {rest : List Oper} {o : Oper} {a : Act} {w : World} {Q : Exit → Act → World → Prop} (hgd : o.guard = none) (ty : TypeId) (x y : Operand) (ho : o.op = .store ty x y)
  (g : Nat) (cells : Array Value) (hx : a.eval x = .pointer (some ⟨g, 0, none⟩)) (hy : a.eval y = .agg cells)
  (t : TypeId) (old : Array Value) (hg : w.heap[g]? = some (.cells old t (0, 0))) (hi : (P.info? ty).map (·.size) = some cells.size)
  (hold : old.size = cells.size) (h1 : cells.all (·.oneCell') = true)
  (h : ∀ K : Act → World → Prop, (∀ a w, wpList P ops Q rest a w → K a w) → K (a.put o.dst undef) (w.setRow g cells)) : wpList P ops Q (o :: rest) a w :=
 wpList_store_row hgd ty x y ho g cells hx hy t old hg hi hold h1 (h _ fun _ _ h => h)
theorem wpList_midK {ops : Array Oper} {rest : List Oper} {o : Oper} {a : Act} {w : World} {Q : Exit → Act → World → Prop} (hgd : o.guard = none) (ty : TypeId) (x y : Operand) (ho : o.op = .store ty x y)
  (b i : Nat) (cells : Array Value) (hx : a.eval x = .pointer (some ⟨b, i, none⟩)) (hy : a.eval y = .agg cells) (ht : w.there b i cells.size) (hi : (P.info? ty).map (·.size) = some cells.size) (h1 : cells.all (·.oneCell') = true)
  (h : ∀ K : Act → World → Prop, (∀ a w, wpList P ops Q rest a w → K a w) → K (a.put o.dst undef) (w.setCells b i cells.toList)) : wpList P ops Q (o :: rest) a w :=
 wpList_store_mid hgd ty x y ho b i cells hx hy ht hi h1 (h _ fun _ _ h => h)
theorem there_of {w : World} {g : Nat} {cs : Array Value} {t : TypeId} (h : w.heap[g]? = some (.cells cs t (0, 0))) (o n : Nat) (hn : o + n ≤ cs.size) : w.there g o n := fun j hj =>
 ⟨by rw [cell_of h, Array.getElem?_eq_getElem (by omega)]; rfl, frozen_of h _⟩
def putAt (cs : Array Value) (o : Nat) : List Value → Array Value
 | [] => cs
 | v :: r => putAt (cs.setIfInBounds o v) (o + 1) r
theorem setCells_at {g : Nat} {t : TypeId} : ∀ (vs : List Value) (o : Nat) (cs : Array Value) (w : World), w.heap[g]? = some (.cells cs t (0, 0)) → (w.setCells g o vs).heap[g]? = some (.cells (putAt cs o vs) t (0, 0)) ∧ Keep [g] w (w.setCells g o vs)
 | [], _, _, w, h => ⟨h, Keep.refl _ w⟩
 | v :: r, o, cs, w, h => by
  obtain ⟨h1, h2⟩ := setCells_at r (o + 1) _ _ (set_same h o v)
  exact ⟨h1, (Keep.setCell [g] w g o v (by simp)).trans h2 (by simp)⟩
theorem setRow_at {w : World} {g : Nat} {old cs : Array Value} {t : TypeId} (h : w.heap[g]? = some (.cells old t (0, 0))) : ∃ W, w.setRow g cs = W ∧ W.heap[g]? = some (.cells cs t (0, 0)) ∧ Keep [g] w W := by
 refine ⟨_, rfl, ?_, ⟨rfl, rfl, rfl, by simp [World.setRow], Nat.le_refl _, fun k hk hn => ?_⟩⟩
 ·simp [World.setRow, Array.getElem?_modify, h]
 ·simp only [World.setRow, Array.getElem?_modify]
  rw [if_neg (by intro e; subst e; simp at hn)]
end
theorem k_size : (Tryz.prog.info? 31).map (·.size) = some 9 := by
 obtain ⟨i, z, hi, hz, hs, hb, hzc⟩ := real_info
 rw [hi]
 exact congrArg some hs
theorem iv_size (x : Iv K) : (Tryz.prog.info? 33).map (·.size) = some (iC x).size := by
 obtain ⟨i, z, hi, hz, hs, hb, hzc⟩ := iv_info
 rw [hi]
 exact congrArg some hs
theorem iv_ones (x : Iv K) : (iC x).all (·.oneCell') = true := all_oneCell_toArray (icells_one x)
end Go.Proofs.YteknldaoegccaaaGreatDoor
set_option maxRecDepth 100000
namespace Go.Proofs.YteknldaoegccaaaGreatDoor
open Go.RowKit
def bcells (b : Bd K) : List Value := kcells b.pt.1 ++ [.bool b.beh]
def bv (b : Bd K) : Value := .agg (bcells b).toArray
theorem bv_cells (b : Bd K) : bv b = .agg #[.bool (sgB b.pt.1.p.num), .string (mgS b.pt.1.p.num), .bool false, .string (dnS b.pt.1.p.den), .bool (sgB b.pt.1.r.num), .string (mgS b.pt.1.r.num), .bool false, .string (dnS b.pt.1.r.den), .bool b.pt.1.neg, .bool b.beh] := rfl
theorem border_built (f1 f4 f7 o : Bool) (f2 f3 f5 f6 : ByteArray) : Tryz.prog.built 89 [(0, .agg #[.bool f1, .string f2, .bool false, .string f3, .bool f4, .string f5, .bool false, .string f6, .bool f7]), (1, .bool o)] = some #[.bool f1, .string f2, .bool false, .string f3, .bool f4, .string f5, .bool false, .string f6, .bool f7, .bool o] := by kernel_rfl
theorem iv_built (f1 f4 f7 t1 t4 t7 o c : Bool) (f2 f3 f5 f6 t2 t3 t5 t6 : ByteArray) : Tryz.prog.built 33 [(0, .agg #[.bool f1, .string f2, .bool false, .string f3, .bool f4, .string f5, .bool false, .string f6, .bool f7]), (1, .agg #[.bool t1, .string t2, .bool false, .string t3, .bool t4, .string t5, .bool false, .string t6, .bool t7]), (2, .bool o), (3, .bool c)] = some #[.bool f1, .string f2, .bool false, .string f3, .bool f4, .string f5, .bool false, .string f6, .bool f7, .bool t1, .string t2, .bool false, .string t3, .bool t4, .string t5, .bool false, .string t6, .bool t7, .bool o, .bool c] := by kernel_rfl
set_option maxHeartbeats 4000000 in
theorem first_c (i : Iv K) (w : World) : Calls Tryz.prog 74 #[iv i] w fun e w' => e = .returned (bv i.f) ∧ Keep [] w w' := by
 rw [iv_cells, bv_cells]
 generalize sgB (i.f.pt.1).p.num = f1 at *
 generalize mgS (i.f.pt.1).p.num = f2 at *
 generalize dnS (i.f.pt.1).p.den = f3 at *
 generalize sgB (i.f.pt.1).r.num = f4 at *
 generalize mgS (i.f.pt.1).r.num = f5 at *
 generalize dnS (i.f.pt.1).r.den = f6 at *
 generalize (i.f.pt.1).neg = f7 at *
 generalize sgB (i.l.pt.1).p.num = t1 at *
 generalize mgS (i.l.pt.1).p.num = t2 at *
 generalize dnS (i.l.pt.1).p.den = t3 at *
 generalize sgB (i.l.pt.1).r.num = t4 at *
 generalize mgS (i.l.pt.1).r.num = t5 at *
 generalize dnS (i.l.pt.1).r.den = t6 at *
 generalize (i.l.pt.1).neg = t7 at *
 generalize i.f.beh = o at *
 generalize (!i.l.beh) = c at *
 have hbd := fun w => run_build (P := Tryz.prog) w 89 #[(0, .agg #[.bool f1, .string f2, .bool false, .string f3, .bool f4, .string f5, .bool false, .string f6, .bool f7]), (1, .bool o)] _ (border_built _ _ _ _ _ _ _ _)
 go_enter Tryz.func74, Tryz.ntmps74
 go_upto_region 1 with (fail)
 obtain ⟨W, ga, gb, hW, ega, egb, bga, bgb, hga, hgb, hgW, hkW⟩ := al2 w (.cells #[.bool f1, .string f2, .bool false, .string f3, .bool f4, .string f5, .bool false, .string f6, .bool f7, .bool t1, .string t2, .bool false, .string t3, .bool t4, .string t5, .bool false, .string t6, .bool t7, .bool o, .bool c] 33) (.cells #[.bool false, .string ⟨#[]⟩, .bool false, .string ⟨#[]⟩, .bool false, .string ⟨#[]⟩, .bool false, .string ⟨#[]⟩, .bool false, .bool false] 89)
 rw [← hW]
 try rw [egb]
 try rw [ega]
 have Bga := Lib.hid bga
 have Bgb := Lib.hid bgb
 have HkW := Lib.hid hkW
 clear hW hkW ega egb bga bgb
 have pga := cell_of Bga.out
 have fga := frozen_of Bga.out
 have lga := lt_of_heap Bga.out
 have pgb := cell_of Bgb.out
 have fgb := frozen_of Bgb.out
 have lgb := lt_of_heap Bgb.out
 go_wp2_with fail
 refine bodyPost_ret (v := .agg #[.bool f1, .string f2, .bool false, .string f3, .bool f4, .string f5, .bool false, .string f6, .bool f7, .bool o]) ?_ rfl ⟨rfl, by repeat (first | (with_reducible exact HkW.out) | (refine Keep.setPast ?_ _ _ _ (by omega)) | (refine Keep.allocPast ?_ _) | (refine Keep.drewPast ?_))⟩
 rw [results_cell1 rfl]; go_simp
set_option maxHeartbeats 4000000 in
theorem last_c (i : Iv K) (w : World) : Calls Tryz.prog 75 #[iv i] w fun e w' => e = .returned (bv i.l) ∧ Keep [] w w' := by
 have hn : i.l.beh = !(!i.l.beh) := by simp
 rw [iv_cells, bv_cells, hn]
 rw [← hn]
 generalize sgB (i.f.pt.1).p.num = f1 at *
 generalize mgS (i.f.pt.1).p.num = f2 at *
 generalize dnS (i.f.pt.1).p.den = f3 at *
 generalize sgB (i.f.pt.1).r.num = f4 at *
 generalize mgS (i.f.pt.1).r.num = f5 at *
 generalize dnS (i.f.pt.1).r.den = f6 at *
 generalize (i.f.pt.1).neg = f7 at *
 generalize sgB (i.l.pt.1).p.num = t1 at *
 generalize mgS (i.l.pt.1).p.num = t2 at *
 generalize dnS (i.l.pt.1).p.den = t3 at *
 generalize sgB (i.l.pt.1).r.num = t4 at *
 generalize mgS (i.l.pt.1).r.num = t5 at *
 generalize dnS (i.l.pt.1).r.den = t6 at *
 generalize (i.l.pt.1).neg = t7 at *
 clear hn
 generalize i.f.beh = o at *
 generalize i.l.beh = c at *
 have hbd := fun w => run_build (P := Tryz.prog) w 89 #[(0, .agg #[.bool t1, .string t2, .bool false, .string t3, .bool t4, .string t5, .bool false, .string t6, .bool t7]), (1, .bool c)] _ (border_built _ _ _ _ _ _ _ _)
 go_enter Tryz.func75, Tryz.ntmps75
 go_upto_region 1 with (fail)
 obtain ⟨W, ga, gb, hW, ega, egb, bga, bgb, hga, hgb, hgW, hkW⟩ := al2 w (.cells #[.bool f1, .string f2, .bool false, .string f3, .bool f4, .string f5, .bool false, .string f6, .bool f7, .bool t1, .string t2, .bool false, .string t3, .bool t4, .string t5, .bool false, .string t6, .bool t7, .bool o, .bool (!c)] 33) (.cells #[.bool false, .string ⟨#[]⟩, .bool false, .string ⟨#[]⟩, .bool false, .string ⟨#[]⟩, .bool false, .string ⟨#[]⟩, .bool false, .bool false] 89)
 rw [← hW]
 try rw [egb]
 try rw [ega]
 have Bga := Lib.hid bga
 have Bgb := Lib.hid bgb
 have HkW := Lib.hid hkW
 clear hW hkW ega egb bga bgb
 have pga := cell_of Bga.out
 have fga := frozen_of Bga.out
 have lga := lt_of_heap Bga.out
 have pgb := cell_of Bgb.out
 have fgb := frozen_of Bgb.out
 have lgb := lt_of_heap Bgb.out
 go_wp2_with fail
 refine bodyPost_ret (v := .agg #[.bool t1, .string t2, .bool false, .string t3, .bool t4, .string t5, .bool false, .string t6, .bool t7, .bool c]) ?_ rfl ⟨rfl, by repeat (first | (with_reducible exact HkW.out) | (refine Keep.setPast ?_ _ _ _ (by omega)) | (refine Keep.allocPast ?_ _) | (refine Keep.drewPast ?_))⟩
 rw [results_cell1 rfl]; go_simp
theorem iv_built' (a b : Bd K) : Tryz.prog.built 33 [(0, kv a.pt), (1, kv b.pt), (2, .bool a.beh), (3, .bool (!b.beh))] = some (iC ⟨a, b⟩) := iv_built _ _ _ _ _ _ _ _ _ _ _ _ _ _ _ _
def bC (b : Bd K) : Array Value := (bcells b).toArray
theorem bAt_pt {w : World} {g : Nat} {b : Bd K} {t : TypeId} (h : w.heap[g]? = some (.cells (bC b) t)) : KAt w g 0 b.pt.1 := fun k v hk => by
 rw [Nat.zero_add, cell_of h]
 refine (List.getElem?_toArray ..).trans ?_
 unfold bcells
 rw [List.getElem?_append_left (List.getElem?_eq_some_iff.1 hk).1]
 exact hk
theorem bAt_beh {w : World} {g : Nat} {b : Bd K} {t : TypeId} (h : w.heap[g]? = some (.cells (bC b) t)) : w.cell? ⟨g, 9, none⟩ = some (.bool b.beh) := by
 rw [cell_of h]; rfl
set_option maxHeartbeats 4000000 in
theorem between_c (a b : Bd K) (w : World) : Calls Tryz.prog 78 #[bv a, bv b] w fun e w' => e = .returned (iv ⟨a, b⟩) ∧ Keep [] w w' := by
 show Calls Tryz.prog 78 #[.agg (bC a), .agg (bC b)] w _
 have HA := Lib.hid (fun w g => @bAt_pt w g a 89)
 have HB := Lib.hid (fun w g => @bAt_pt w g b 89)
 have HA2 := Lib.hid (fun w g => @bAt_beh w g a 89)
 have HB2 := Lib.hid (fun w g => @bAt_beh w g b 89)
 have HI := Lib.hid (iv_built' a b)
 have HS := Lib.hid (iv_size ⟨a, b⟩)
 have HO := Lib.hid (iv_ones ⟨a, b⟩)
 have HL := Lib.hid (fun w g (h : w.heap[g]? = some (.cells (iC ⟨a, b⟩) 33)) => load_iv w g 0 ⟨a, b⟩ (ivAt_box h))
 have Hsz : Hid ((iC ⟨a, b⟩).size = 20) := rfl
 generalize iv ⟨a, b⟩ = R at *
 generalize bC a = A at *
 generalize bC b = B at *
 generalize iC ⟨a, b⟩ = C at *
 go_enter Tryz.func78, Tryz.ntmps78
 go_upto_region 1 with (fail)
 obtain ⟨W, ga, gb, gc, hW, ega, egb, egc, bga, bgb, bgc, hga, hgb, hgc, hgW, hkW⟩ := al3 w (.cells A 89) (.cells B 89) (.cells #[.bool false, .string ⟨#[]⟩, .bool false, .string ⟨#[]⟩, .bool false, .string ⟨#[]⟩, .bool false, .string ⟨#[]⟩, .bool false, .bool false, .string ⟨#[]⟩, .bool false, .string ⟨#[]⟩, .bool false, .string ⟨#[]⟩, .bool false, .string ⟨#[]⟩, .bool false, .bool false, .bool false] 33)
 rw [← hW]
 try rw [egc]
 try rw [egb]
 try rw [ega]
 have Bga := Lib.hid bga
 have Bgb := Lib.hid bgb
 have Bgc := Lib.hid bgc
 have HkW := Lib.hid hkW
 clear hW hkW ega egb egc bga bgb bgc
 have La := HA.out _ _ Bga.out
 have Lb := HB.out _ _ Bgb.out
 have oa := HA2.out _ _ Bga.out
 have ob := HB2.out _ _ Bgb.out
 refine wp_region_lit ?_
 refine' wpList_R (v := _) (by rfl) (?hruna) (fun K hK => ?hnexta)
 case hruna => (go_simp; try rfl)
 rotate_left 0
 go_simp
 refine hK _ _ ?_
 clear hK K
 refine wpList_R (v := kv a.pt) (by rfl) (exec_load _ _ ⟨ga, 0, none⟩ _ rfl rfl (load_real _ _ _ _ La)) (fun K hK => ?_)
 go_simp
 refine hK _ _ ?_
 clear hK K
 refine' wpList_R (v := _) (by rfl) (?hrunb) (fun K hK => ?hnextb)
 case hrunb => (go_simp; try rfl)
 rotate_left 0
 go_simp
 refine hK _ _ ?_
 clear hK K
 refine wpList_R (v := kv b.pt) (by rfl) (exec_load _ _ ⟨gb, 0, none⟩ _ rfl rfl (load_real _ _ _ _ Lb)) (fun K hK => ?_)
 go_simp
 refine hK _ _ ?_
 clear hK K
 refine' wpList_R (v := _) (by rfl) (?hrunc) (fun K hK => ?hnextc)
 case hrunc => (go_simp; try rfl)
 rotate_left 0
 go_simp
 refine hK _ _ ?_
 clear hK K
 refine' wpList_R (v := _) (by rfl) (?hrund) (fun K hK => ?hnextd)
 case hrund => (go_simp; try rfl)
 rotate_left 0
 go_simp
 refine hK _ _ ?_
 clear hK K
 refine' wpList_R (v := _) (by rfl) (?hrune) (fun K hK => ?hnexte)
 case hrune => (go_simp; try rfl)
 rotate_left 0
 go_simp
 refine hK _ _ ?_
 clear hK K
 refine' wpList_R (v := _) (by rfl) (?hrunf) (fun K hK => ?hnextf)
 case hrunf => (go_simp; try rfl)
 rotate_left 0
 go_simp
 refine hK _ _ ?_
 clear hK K
 refine' wpList_R (v := _) (by rfl) (?hrung) (fun K hK => ?hnextg)
 case hrung => (go_simp; try rfl)
 rotate_left 0
 go_simp
 refine hK _ _ ?_
 clear hK K
 refine wpList_R (v := .agg C) (by rfl) (exec_build _ #[(0, .tmp 6), (1, .tmp 8), (2, .tmp 10), (3, .tmp 13)] #[(0, kv a.pt), (1, kv b.pt), (2, .bool a.beh), (3, .bool (!b.beh))] _ rfl (by simp only [List.map_toArray, List.map_cons, List.map_nil]; rfl) HI.out) (fun K hK => ?_)
 go_simp
 refine hK _ _ ?_
 clear hK K
 refine wpList_rowK (by rfl) _ _ _ rfl gc C rfl rfl _ _ Bgc.out HS.out (by rw [Hsz.out]; rfl) HO.out (fun K hK => ?_)
 obtain ⟨W4, e4, b4, k4⟩ := setRow_at (cs := C) Bgc.out
 rw [e4]
 go_simp
 refine hK _ _ ?_
 clear hK K
 have Hb4 := Lib.hid b4
 have HkZ := Lib.hid (HkW.out.trans k4 (by simp; omega))
 clear La Lb oa ob b4 k4 e4
 go_wp2_with fail
 refine bodyPost_ret (v := R) ?_ rfl ⟨rfl, HkZ.out⟩
 rw [results_cell1 rfl]
 exact HL.out _ _ Hb4.out
end Go.Proofs.YteknldaoegccaaaGreatDoor
set_option maxRecDepth 100000
namespace Go.Proofs.YteknldaoegccaaaGreatDoor
open Go.RowKit
theorem kcmp_c (x y : K) (w : World) : Calls Tryz.prog 28 #[kv x, kv y] w fun e w' => e = .returned (.int .i64 (cmpQ x.1 y.1)) ∧ Keep [] w w' :=
 fcmp_c x.1 y.1 ⟨x.2.2.1.mono (by decide), x.2.2.2.mono (by decide)⟩ ⟨y.2.2.1.mono (by decide), y.2.2.2.mono (by decide)⟩ w
def inV (a : Int) (o : Bool) : Bool := decide (a < 0) || (a == 0 && !o)
theorem inV_f (i : Iv K) (t : K) : inV (cmpQ i.f.pt.1 t.1) i.f.beh = true ↔ i.f ≤ ⟨t, false⟩ := by
 unfold inV
 rw [Bd.le_def]
 rcases K.tri i.f.pt t with ⟨h, g⟩ | ⟨h, g⟩ | ⟨h, g⟩ <;> rw [h] <;> cases i.f.beh <;> simp <;> grind
theorem inV_l (i : Iv K) (t : K) : inV (cmpQ t.1 i.l.pt.1) (!i.l.beh) = true ↔ (⟨t, true⟩ : Bd K) ≤ i.l := by
 unfold inV
 rw [Bd.le_def]
 rcases K.tri t i.l.pt with ⟨h, g⟩ | ⟨h, g⟩ | ⟨h, g⟩ <;> rw [h] <;> cases i.l.beh <;> simp <;> grind
open Classical in
theorem inV_in (i : Iv K) (t : K) : (inV (cmpQ i.f.pt.1 t.1) i.f.beh && inV (cmpQ t.1 i.l.pt.1) (!i.l.beh)) = decide (i.f ≤ ⟨t, false⟩ ∧ (⟨t, true⟩ : Bd K) ≤ i.l) := by
 rw [Bool.eq_iff_iff, Bool.and_eq_true, inV_f, inV_l, decide_eq_true_iff]
set_option maxHeartbeats 4000000 in
theorem in_c (i : Iv K) (y : K) (w : World) :
  Calls Tryz.prog 48 #[iv i, kv y] w fun e w' => e = .returned (.bool (inV (cmpQ i.f.pt.1 y.1) i.f.beh && inV (cmpQ y.1 i.l.pt.1) (!i.l.beh))) ∧ Keep [] w w' := by
 have H1 := Lib.hid (kcmp_c i.f.pt y)
 have H2 := Lib.hid (kcmp_c y i.l.pt)
 have ha : cmpQ i.f.pt.1 y.1 = -1 ∨ cmpQ i.f.pt.1 y.1 = 0 ∨ cmpQ i.f.pt.1 y.1 = 1 := by rcases K.tri i.f.pt y with h | h | h <;> simp [h.1]
 have hb : cmpQ y.1 i.l.pt.1 = -1 ∨ cmpQ y.1 i.l.pt.1 = 0 ∨ cmpQ y.1 i.l.pt.1 = 1 := by rcases K.tri y i.l.pt with h | h | h <;> simp [h.1]
 generalize cmpQ i.f.pt.1 y.1 = a at *
 generalize cmpQ y.1 i.l.pt.1 = b at *
 rw [iv_cells, kv_cells]
 rw [kv_cells, kv_cells] at H1 H2
 generalize sgB (i.f.pt.1).p.num = f1 at *
 generalize mgS (i.f.pt.1).p.num = f2 at *
 generalize dnS (i.f.pt.1).p.den = f3 at *
 generalize sgB (i.f.pt.1).r.num = f4 at *
 generalize mgS (i.f.pt.1).r.num = f5 at *
 generalize dnS (i.f.pt.1).r.den = f6 at *
 generalize (i.f.pt.1).neg = f7 at *
 generalize sgB (i.l.pt.1).p.num = t1 at *
 generalize mgS (i.l.pt.1).p.num = t2 at *
 generalize dnS (i.l.pt.1).p.den = t3 at *
 generalize sgB (i.l.pt.1).r.num = t4 at *
 generalize mgS (i.l.pt.1).r.num = t5 at *
 generalize dnS (i.l.pt.1).r.den = t6 at *
 generalize (i.l.pt.1).neg = t7 at *
 generalize sgB (y.1).p.num = x1 at *
 generalize mgS (y.1).p.num = x2 at *
 generalize dnS (y.1).p.den = x3 at *
 generalize sgB (y.1).r.num = x4 at *
 generalize mgS (y.1).r.num = x5 at *
 generalize dnS (y.1).r.den = x6 at *
 generalize (y.1).neg = x7 at *
 generalize i.f.beh = o at *
 generalize (!i.l.beh) = c at *
 have done : ∀ {r : Bool}, r = (inV a o && inV b c) → Calls Tryz.prog 48 #[.agg #[.bool f1, .string f2, .bool false, .string f3, .bool f4, .string f5, .bool false, .string f6, .bool f7, .bool t1, .string t2, .bool false, .string t3, .bool t4, .string t5, .bool false, .string t6, .bool t7, .bool o, .bool c], .agg #[.bool x1, .string x2, .bool false, .string x3, .bool x4, .string x5, .bool false, .string x6, .bool x7]] w (fun e w' => e = .returned (.bool r) ∧ Keep [] w w') → Calls Tryz.prog 48 #[.agg #[.bool f1, .string f2, .bool false, .string f3, .bool f4, .string f5, .bool false, .string f6, .bool f7, .bool t1, .string t2, .bool false, .string t3, .bool t4, .string t5, .bool false, .string t6, .bool t7, .bool o, .bool c], .agg #[.bool x1, .string x2, .bool false, .string x3, .bool x4, .string x5, .bool false, .string x6, .bool x7]] w (fun e w' => e = .returned (.bool (inV a o && inV b c)) ∧ Keep [] w w') := fun h h2 => by rw [← h]; exact h2
 rcases ha with rfl | rfl | rfl
 ·rcases hb with rfl | rfl | rfl
  ·refine done (r := true) rfl ?_
   clear done
   go_enter Tryz.func48, Tryz.ntmps48
   go_wp2_with fail
   obtain ⟨W, ga, gb, hW, ega, egb, bga, bgb, hga, hgb, hgW, hkW⟩ := al2 w (.cells #[.bool f1, .string f2, .bool false, .string f3, .bool f4, .string f5, .bool false, .string f6, .bool f7, .bool t1, .string t2, .bool false, .string t3, .bool t4, .string t5, .bool false, .string t6, .bool t7, .bool o, .bool c] 33) (.cells #[.bool x1, .string x2, .bool false, .string x3, .bool x4, .string x5, .bool false, .string x6, .bool x7] 31)
   rw [← hW]
   try rw [egb]
   try rw [ega]
   have Bga := Lib.hid bga
   have Bgb := Lib.hid bgb
   have HkW := Lib.hid hkW
   clear hW hkW ega egb bga bgb
   have kga := kw_cells Bga.out
   have kgb := kw_cells Bgb.out
   have Q1 : Hid (∀ m : KW W, Calls Tryz.prog 28 #[.agg #[.bool f1, .string f2, .bool false, .string f3, .bool f4, .string f5, .bool false, .string f6, .bool f7], .agg #[.bool x1, .string x2, .bool false, .string x3, .bool x4, .string x5, .bool false, .string x6, .bool x7]] (Wk W m) fun e w' => e = .returned (.int .i64 _) ∧ ∃ m, w' = Wk W m) := fun m => qk m (H1.out _)
   have Q2 : Hid (∀ m : KW W, Calls Tryz.prog 28 #[.agg #[.bool x1, .string x2, .bool false, .string x3, .bool x4, .string x5, .bool false, .string x6, .bool x7], .agg #[.bool t1, .string t2, .bool false, .string t3, .bool t4, .string t5, .bool false, .string t6, .bool t7]] (Wk W m) fun e w' => e = .returned (.int .i64 _) ∧ ∃ m, w' = Wk W m) := fun m => qk m (H2.out _)
   refine wp_region_keep (by kernel_rfl) (by kernel_rfl) ?_
   repeat (first
    | go_big_quiet_skip
    | (go_big_quiet_want; go_big_quiet_op; first | go_big_quiet_on | go_big_quiet_call (first
     | (go_at_call 28; with_reducible exact (Q1).out _) | (go_at_call 28; with_reducible exact (Q2).out _))))
   refine wpQuiet_nil ?_
   rintro w1 ⟨⟨_, hk_w1⟩, rfl⟩
   clear kga kgb Q1 Q2
   have B2ga := Lib.hid (hk_w1.heap Bga.out (by simp))
   have B2gb := Lib.hid (hk_w1.heap Bgb.out (by simp))
   have HkW2 := Lib.hid (HkW.out.trans0 hk_w1)
   clear HkW hk_w1 Bga Bgb
   have Bga := B2ga
   have Bgb := B2gb
   have HkW := HkW2
   clear HkW2 B2ga B2gb
   have pga := cell_of Bga.out
   have fga := frozen_of Bga.out
   have lga := lt_of_heap Bga.out
   go_wp2_with fail
   go_ret
   exact ⟨rfl, by repeat (first | (with_reducible exact HkW.out) | (refine Keep.setPast ?_ _ _ _ (by omega)) | (refine Keep.allocPast ?_ _) | (refine Keep.drewPast ?_))⟩
  ·refine done (r := !c) (by cases c <;> rfl) ?_
   clear done
   cases c
   all_goals
    go_enter Tryz.func48, Tryz.ntmps48
    go_wp2_with fail
    obtain ⟨W, ga, gb, hW, ega, egb, bga, bgb, hga, hgb, hgW, hkW⟩ := al2 w (.cells #[.bool f1, .string f2, .bool false, .string f3, .bool f4, .string f5, .bool false, .string f6, .bool f7, .bool t1, .string t2, .bool false, .string t3, .bool t4, .string t5, .bool false, .string t6, .bool t7, .bool o, .bool _] 33) (.cells #[.bool x1, .string x2, .bool false, .string x3, .bool x4, .string x5, .bool false, .string x6, .bool x7] 31)
    rw [← hW]
    try rw [egb]
    try rw [ega]
    have Bga := Lib.hid bga
    have Bgb := Lib.hid bgb
    have HkW := Lib.hid hkW
    clear hW hkW ega egb bga bgb
    have kga := kw_cells Bga.out
    have kgb := kw_cells Bgb.out
    have Q1 : Hid (∀ m : KW W, Calls Tryz.prog 28 #[.agg #[.bool f1, .string f2, .bool false, .string f3, .bool f4, .string f5, .bool false, .string f6, .bool f7], .agg #[.bool x1, .string x2, .bool false, .string x3, .bool x4, .string x5, .bool false, .string x6, .bool x7]] (Wk W m) fun e w' => e = .returned (.int .i64 _) ∧ ∃ m, w' = Wk W m) := fun m => qk m (H1.out _)
    have Q2 : Hid (∀ m : KW W, Calls Tryz.prog 28 #[.agg #[.bool x1, .string x2, .bool false, .string x3, .bool x4, .string x5, .bool false, .string x6, .bool x7], .agg #[.bool t1, .string t2, .bool false, .string t3, .bool t4, .string t5, .bool false, .string t6, .bool t7]] (Wk W m) fun e w' => e = .returned (.int .i64 _) ∧ ∃ m, w' = Wk W m) := fun m => qk m (H2.out _)
    refine wp_region_keep (by kernel_rfl) (by kernel_rfl) ?_
    repeat (first
     | go_big_quiet_skip
     | (go_big_quiet_want; go_big_quiet_op; first | go_big_quiet_on | go_big_quiet_call (first
      | (go_at_call 28; with_reducible exact (Q1).out _) | (go_at_call 28; with_reducible exact (Q2).out _))))
    refine wpQuiet_nil ?_
    rintro w1 ⟨⟨_, hk_w1⟩, rfl⟩
    clear kga kgb Q1 Q2
    have B2ga := Lib.hid (hk_w1.heap Bga.out (by simp))
    have B2gb := Lib.hid (hk_w1.heap Bgb.out (by simp))
    have HkW2 := Lib.hid (HkW.out.trans0 hk_w1)
    clear HkW hk_w1 Bga Bgb
    have Bga := B2ga
    have Bgb := B2gb
    have HkW := HkW2
    clear HkW2 B2ga B2gb
    have pga := cell_of Bga.out
    have fga := frozen_of Bga.out
    have lga := lt_of_heap Bga.out
    go_wp2_with fail
    go_ret
    exact ⟨rfl, by repeat (first | (with_reducible exact HkW.out) | (refine Keep.setPast ?_ _ _ _ (by omega)) | (refine Keep.allocPast ?_ _) | (refine Keep.drewPast ?_))⟩
  ·refine done (r := false) rfl ?_
   clear done
   go_enter Tryz.func48, Tryz.ntmps48
   go_wp2_with fail
   obtain ⟨W, ga, gb, hW, ega, egb, bga, bgb, hga, hgb, hgW, hkW⟩ := al2 w (.cells #[.bool f1, .string f2, .bool false, .string f3, .bool f4, .string f5, .bool false, .string f6, .bool f7, .bool t1, .string t2, .bool false, .string t3, .bool t4, .string t5, .bool false, .string t6, .bool t7, .bool o, .bool c] 33) (.cells #[.bool x1, .string x2, .bool false, .string x3, .bool x4, .string x5, .bool false, .string x6, .bool x7] 31)
   rw [← hW]
   try rw [egb]
   try rw [ega]
   have Bga := Lib.hid bga
   have Bgb := Lib.hid bgb
   have HkW := Lib.hid hkW
   clear hW hkW ega egb bga bgb
   have kga := kw_cells Bga.out
   have kgb := kw_cells Bgb.out
   have Q1 : Hid (∀ m : KW W, Calls Tryz.prog 28 #[.agg #[.bool f1, .string f2, .bool false, .string f3, .bool f4, .string f5, .bool false, .string f6, .bool f7], .agg #[.bool x1, .string x2, .bool false, .string x3, .bool x4, .string x5, .bool false, .string x6, .bool x7]] (Wk W m) fun e w' => e = .returned (.int .i64 _) ∧ ∃ m, w' = Wk W m) := fun m => qk m (H1.out _)
   have Q2 : Hid (∀ m : KW W, Calls Tryz.prog 28 #[.agg #[.bool x1, .string x2, .bool false, .string x3, .bool x4, .string x5, .bool false, .string x6, .bool x7], .agg #[.bool t1, .string t2, .bool false, .string t3, .bool t4, .string t5, .bool false, .string t6, .bool t7]] (Wk W m) fun e w' => e = .returned (.int .i64 _) ∧ ∃ m, w' = Wk W m) := fun m => qk m (H2.out _)
   refine wp_region_keep (by kernel_rfl) (by kernel_rfl) ?_
   repeat (first
    | go_big_quiet_skip
    | (go_big_quiet_want; go_big_quiet_op; first | go_big_quiet_on | go_big_quiet_call (first
     | (go_at_call 28; with_reducible exact (Q1).out _) | (go_at_call 28; with_reducible exact (Q2).out _))))
   refine wpQuiet_nil ?_
   rintro w1 ⟨⟨_, hk_w1⟩, rfl⟩
   clear kga kgb Q1 Q2
   have B2ga := Lib.hid (hk_w1.heap Bga.out (by simp))
   have B2gb := Lib.hid (hk_w1.heap Bgb.out (by simp))
   have HkW2 := Lib.hid (HkW.out.trans0 hk_w1)
   clear HkW hk_w1 Bga Bgb
   have Bga := B2ga
   have Bgb := B2gb
   have HkW := HkW2
   clear HkW2 B2ga B2gb
   have pga := cell_of Bga.out
   have fga := frozen_of Bga.out
   have lga := lt_of_heap Bga.out
   go_wp2_with fail
   go_ret
   exact ⟨rfl, by repeat (first | (with_reducible exact HkW.out) | (refine Keep.setPast ?_ _ _ _ (by omega)) | (refine Keep.allocPast ?_ _) | (refine Keep.drewPast ?_))⟩
 ·cases o
  ·rcases hb with rfl | rfl | rfl
   ·refine done (r := true) rfl ?_
    clear done
    go_enter Tryz.func48, Tryz.ntmps48
    go_wp2_with fail
    obtain ⟨W, ga, gb, hW, ega, egb, bga, bgb, hga, hgb, hgW, hkW⟩ := al2 w (.cells #[.bool f1, .string f2, .bool false, .string f3, .bool f4, .string f5, .bool false, .string f6, .bool f7, .bool t1, .string t2, .bool false, .string t3, .bool t4, .string t5, .bool false, .string t6, .bool t7, .bool false, .bool c] 33) (.cells #[.bool x1, .string x2, .bool false, .string x3, .bool x4, .string x5, .bool false, .string x6, .bool x7] 31)
    rw [← hW]
    try rw [egb]
    try rw [ega]
    have Bga := Lib.hid bga
    have Bgb := Lib.hid bgb
    have HkW := Lib.hid hkW
    clear hW hkW ega egb bga bgb
    have kga := kw_cells Bga.out
    have kgb := kw_cells Bgb.out
    have Q1 : Hid (∀ m : KW W, Calls Tryz.prog 28 #[.agg #[.bool f1, .string f2, .bool false, .string f3, .bool f4, .string f5, .bool false, .string f6, .bool f7], .agg #[.bool x1, .string x2, .bool false, .string x3, .bool x4, .string x5, .bool false, .string x6, .bool x7]] (Wk W m) fun e w' => e = .returned (.int .i64 _) ∧ ∃ m, w' = Wk W m) := fun m => qk m (H1.out _)
    have Q2 : Hid (∀ m : KW W, Calls Tryz.prog 28 #[.agg #[.bool x1, .string x2, .bool false, .string x3, .bool x4, .string x5, .bool false, .string x6, .bool x7], .agg #[.bool t1, .string t2, .bool false, .string t3, .bool t4, .string t5, .bool false, .string t6, .bool t7]] (Wk W m) fun e w' => e = .returned (.int .i64 _) ∧ ∃ m, w' = Wk W m) := fun m => qk m (H2.out _)
    refine wp_region_keep (by kernel_rfl) (by kernel_rfl) ?_
    repeat (first
     | go_big_quiet_skip
     | (go_big_quiet_want; go_big_quiet_op; first | go_big_quiet_on | go_big_quiet_call (first
      | (go_at_call 28; with_reducible exact (Q1).out _) | (go_at_call 28; with_reducible exact (Q2).out _))))
    refine wpQuiet_nil ?_
    rintro w1 ⟨⟨_, hk_w1⟩, rfl⟩
    clear kga kgb Q1 Q2
    have B2ga := Lib.hid (hk_w1.heap Bga.out (by simp))
    have B2gb := Lib.hid (hk_w1.heap Bgb.out (by simp))
    have HkW2 := Lib.hid (HkW.out.trans0 hk_w1)
    clear HkW hk_w1 Bga Bgb
    have Bga := B2ga
    have Bgb := B2gb
    have HkW := HkW2
    clear HkW2 B2ga B2gb
    have pga := cell_of Bga.out
    have fga := frozen_of Bga.out
    have lga := lt_of_heap Bga.out
    go_wp2_with fail
    go_ret
    exact ⟨rfl, by repeat (first | (with_reducible exact HkW.out) | (refine Keep.setPast ?_ _ _ _ (by omega)) | (refine Keep.allocPast ?_ _) | (refine Keep.drewPast ?_))⟩
   ·refine done (r := !c) (by cases c <;> rfl) ?_
    clear done
    cases c
    all_goals
     go_enter Tryz.func48, Tryz.ntmps48
     go_wp2_with fail
     obtain ⟨W, ga, gb, hW, ega, egb, bga, bgb, hga, hgb, hgW, hkW⟩ := al2 w (.cells #[.bool f1, .string f2, .bool false, .string f3, .bool f4, .string f5, .bool false, .string f6, .bool f7, .bool t1, .string t2, .bool false, .string t3, .bool t4, .string t5, .bool false, .string t6, .bool t7, .bool false, .bool _] 33) (.cells #[.bool x1, .string x2, .bool false, .string x3, .bool x4, .string x5, .bool false, .string x6, .bool x7] 31)
     rw [← hW]
     try rw [egb]
     try rw [ega]
     have Bga := Lib.hid bga
     have Bgb := Lib.hid bgb
     have HkW := Lib.hid hkW
     clear hW hkW ega egb bga bgb
     have kga := kw_cells Bga.out
     have kgb := kw_cells Bgb.out
     have Q1 : Hid (∀ m : KW W, Calls Tryz.prog 28 #[.agg #[.bool f1, .string f2, .bool false, .string f3, .bool f4, .string f5, .bool false, .string f6, .bool f7], .agg #[.bool x1, .string x2, .bool false, .string x3, .bool x4, .string x5, .bool false, .string x6, .bool x7]] (Wk W m) fun e w' => e = .returned (.int .i64 _) ∧ ∃ m, w' = Wk W m) := fun m => qk m (H1.out _)
     have Q2 : Hid (∀ m : KW W, Calls Tryz.prog 28 #[.agg #[.bool x1, .string x2, .bool false, .string x3, .bool x4, .string x5, .bool false, .string x6, .bool x7], .agg #[.bool t1, .string t2, .bool false, .string t3, .bool t4, .string t5, .bool false, .string t6, .bool t7]] (Wk W m) fun e w' => e = .returned (.int .i64 _) ∧ ∃ m, w' = Wk W m) := fun m => qk m (H2.out _)
     refine wp_region_keep (by kernel_rfl) (by kernel_rfl) ?_
     repeat (first
      | go_big_quiet_skip
      | (go_big_quiet_want; go_big_quiet_op; first | go_big_quiet_on | go_big_quiet_call (first
       | (go_at_call 28; with_reducible exact (Q1).out _) | (go_at_call 28; with_reducible exact (Q2).out _))))
     refine wpQuiet_nil ?_
     rintro w1 ⟨⟨_, hk_w1⟩, rfl⟩
     clear kga kgb Q1 Q2
     have B2ga := Lib.hid (hk_w1.heap Bga.out (by simp))
     have B2gb := Lib.hid (hk_w1.heap Bgb.out (by simp))
     have HkW2 := Lib.hid (HkW.out.trans0 hk_w1)
     clear HkW hk_w1 Bga Bgb
     have Bga := B2ga
     have Bgb := B2gb
     have HkW := HkW2
     clear HkW2 B2ga B2gb
     have pga := cell_of Bga.out
     have fga := frozen_of Bga.out
     have lga := lt_of_heap Bga.out
     go_wp2_with fail
     go_ret
     exact ⟨rfl, by repeat (first | (with_reducible exact HkW.out) | (refine Keep.setPast ?_ _ _ _ (by omega)) | (refine Keep.allocPast ?_ _) | (refine Keep.drewPast ?_))⟩
   ·refine done (r := false) rfl ?_
    clear done
    go_enter Tryz.func48, Tryz.ntmps48
    go_wp2_with fail
    obtain ⟨W, ga, gb, hW, ega, egb, bga, bgb, hga, hgb, hgW, hkW⟩ := al2 w (.cells #[.bool f1, .string f2, .bool false, .string f3, .bool f4, .string f5, .bool false, .string f6, .bool f7, .bool t1, .string t2, .bool false, .string t3, .bool t4, .string t5, .bool false, .string t6, .bool t7, .bool false, .bool c] 33) (.cells #[.bool x1, .string x2, .bool false, .string x3, .bool x4, .string x5, .bool false, .string x6, .bool x7] 31)
    rw [← hW]
    try rw [egb]
    try rw [ega]
    have Bga := Lib.hid bga
    have Bgb := Lib.hid bgb
    have HkW := Lib.hid hkW
    clear hW hkW ega egb bga bgb
    have kga := kw_cells Bga.out
    have kgb := kw_cells Bgb.out
    have Q1 : Hid (∀ m : KW W, Calls Tryz.prog 28 #[.agg #[.bool f1, .string f2, .bool false, .string f3, .bool f4, .string f5, .bool false, .string f6, .bool f7], .agg #[.bool x1, .string x2, .bool false, .string x3, .bool x4, .string x5, .bool false, .string x6, .bool x7]] (Wk W m) fun e w' => e = .returned (.int .i64 _) ∧ ∃ m, w' = Wk W m) := fun m => qk m (H1.out _)
    have Q2 : Hid (∀ m : KW W, Calls Tryz.prog 28 #[.agg #[.bool x1, .string x2, .bool false, .string x3, .bool x4, .string x5, .bool false, .string x6, .bool x7], .agg #[.bool t1, .string t2, .bool false, .string t3, .bool t4, .string t5, .bool false, .string t6, .bool t7]] (Wk W m) fun e w' => e = .returned (.int .i64 _) ∧ ∃ m, w' = Wk W m) := fun m => qk m (H2.out _)
    refine wp_region_keep (by kernel_rfl) (by kernel_rfl) ?_
    repeat (first
     | go_big_quiet_skip
     | (go_big_quiet_want; go_big_quiet_op; first | go_big_quiet_on | go_big_quiet_call (first
      | (go_at_call 28; with_reducible exact (Q1).out _) | (go_at_call 28; with_reducible exact (Q2).out _))))
    refine wpQuiet_nil ?_
    rintro w1 ⟨⟨_, hk_w1⟩, rfl⟩
    clear kga kgb Q1 Q2
    have B2ga := Lib.hid (hk_w1.heap Bga.out (by simp))
    have B2gb := Lib.hid (hk_w1.heap Bgb.out (by simp))
    have HkW2 := Lib.hid (HkW.out.trans0 hk_w1)
    clear HkW hk_w1 Bga Bgb
    have Bga := B2ga
    have Bgb := B2gb
    have HkW := HkW2
    clear HkW2 B2ga B2gb
    have pga := cell_of Bga.out
    have fga := frozen_of Bga.out
    have lga := lt_of_heap Bga.out
    go_wp2_with fail
    go_ret
    exact ⟨rfl, by repeat (first | (with_reducible exact HkW.out) | (refine Keep.setPast ?_ _ _ _ (by omega)) | (refine Keep.allocPast ?_ _) | (refine Keep.drewPast ?_))⟩
  ·refine done (r := false) rfl ?_
   clear done
   go_enter Tryz.func48, Tryz.ntmps48
   go_wp2_with fail
   obtain ⟨W, ga, gb, hW, ega, egb, bga, bgb, hga, hgb, hgW, hkW⟩ := al2 w (.cells #[.bool f1, .string f2, .bool false, .string f3, .bool f4, .string f5, .bool false, .string f6, .bool f7, .bool t1, .string t2, .bool false, .string t3, .bool t4, .string t5, .bool false, .string t6, .bool t7, .bool true, .bool c] 33) (.cells #[.bool x1, .string x2, .bool false, .string x3, .bool x4, .string x5, .bool false, .string x6, .bool x7] 31)
   rw [← hW]
   try rw [egb]
   try rw [ega]
   have Bga := Lib.hid bga
   have Bgb := Lib.hid bgb
   have HkW := Lib.hid hkW
   clear hW hkW ega egb bga bgb
   have kga := kw_cells Bga.out
   have kgb := kw_cells Bgb.out
   have Q1 : Hid (∀ m : KW W, Calls Tryz.prog 28 #[.agg #[.bool f1, .string f2, .bool false, .string f3, .bool f4, .string f5, .bool false, .string f6, .bool f7], .agg #[.bool x1, .string x2, .bool false, .string x3, .bool x4, .string x5, .bool false, .string x6, .bool x7]] (Wk W m) fun e w' => e = .returned (.int .i64 _) ∧ ∃ m, w' = Wk W m) := fun m => qk m (H1.out _)
   have Q2 : Hid (∀ m : KW W, Calls Tryz.prog 28 #[.agg #[.bool x1, .string x2, .bool false, .string x3, .bool x4, .string x5, .bool false, .string x6, .bool x7], .agg #[.bool t1, .string t2, .bool false, .string t3, .bool t4, .string t5, .bool false, .string t6, .bool t7]] (Wk W m) fun e w' => e = .returned (.int .i64 _) ∧ ∃ m, w' = Wk W m) := fun m => qk m (H2.out _)
   refine wp_region_keep (by kernel_rfl) (by kernel_rfl) ?_
   repeat (first
    | go_big_quiet_skip
    | (go_big_quiet_want; go_big_quiet_op; first | go_big_quiet_on | go_big_quiet_call (first
     | (go_at_call 28; with_reducible exact (Q1).out _) | (go_at_call 28; with_reducible exact (Q2).out _))))
   refine wpQuiet_nil ?_
   rintro w1 ⟨⟨_, hk_w1⟩, rfl⟩
   clear kga kgb Q1 Q2
   have B2ga := Lib.hid (hk_w1.heap Bga.out (by simp))
   have B2gb := Lib.hid (hk_w1.heap Bgb.out (by simp))
   have HkW2 := Lib.hid (HkW.out.trans0 hk_w1)
   clear HkW hk_w1 Bga Bgb
   have Bga := B2ga
   have Bgb := B2gb
   have HkW := HkW2
   clear HkW2 B2ga B2gb
   have pga := cell_of Bga.out
   have fga := frozen_of Bga.out
   have lga := lt_of_heap Bga.out
   go_wp2_with fail
   go_ret
   exact ⟨rfl, by repeat (first | (with_reducible exact HkW.out) | (refine Keep.setPast ?_ _ _ _ (by omega)) | (refine Keep.allocPast ?_ _) | (refine Keep.drewPast ?_))⟩
 ·refine done (r := false) rfl ?_
  clear done
  go_enter Tryz.func48, Tryz.ntmps48
  go_wp2_with fail
  obtain ⟨W, ga, gb, hW, ega, egb, bga, bgb, hga, hgb, hgW, hkW⟩ := al2 w (.cells #[.bool f1, .string f2, .bool false, .string f3, .bool f4, .string f5, .bool false, .string f6, .bool f7, .bool t1, .string t2, .bool false, .string t3, .bool t4, .string t5, .bool false, .string t6, .bool t7, .bool o, .bool c] 33) (.cells #[.bool x1, .string x2, .bool false, .string x3, .bool x4, .string x5, .bool false, .string x6, .bool x7] 31)
  rw [← hW]
  try rw [egb]
  try rw [ega]
  have Bga := Lib.hid bga
  have Bgb := Lib.hid bgb
  have HkW := Lib.hid hkW
  clear hW hkW ega egb bga bgb
  have kga := kw_cells Bga.out
  have kgb := kw_cells Bgb.out
  have Q1 : Hid (∀ m : KW W, Calls Tryz.prog 28 #[.agg #[.bool f1, .string f2, .bool false, .string f3, .bool f4, .string f5, .bool false, .string f6, .bool f7], .agg #[.bool x1, .string x2, .bool false, .string x3, .bool x4, .string x5, .bool false, .string x6, .bool x7]] (Wk W m) fun e w' => e = .returned (.int .i64 _) ∧ ∃ m, w' = Wk W m) := fun m => qk m (H1.out _)
  have Q2 : Hid (∀ m : KW W, Calls Tryz.prog 28 #[.agg #[.bool x1, .string x2, .bool false, .string x3, .bool x4, .string x5, .bool false, .string x6, .bool x7], .agg #[.bool t1, .string t2, .bool false, .string t3, .bool t4, .string t5, .bool false, .string t6, .bool t7]] (Wk W m) fun e w' => e = .returned (.int .i64 _) ∧ ∃ m, w' = Wk W m) := fun m => qk m (H2.out _)
  refine wp_region_keep (by kernel_rfl) (by kernel_rfl) ?_
  repeat (first
   | go_big_quiet_skip
   | (go_big_quiet_want; go_big_quiet_op; first | go_big_quiet_on | go_big_quiet_call (first
    | (go_at_call 28; with_reducible exact (Q1).out _) | (go_at_call 28; with_reducible exact (Q2).out _))))
  refine wpQuiet_nil ?_
  rintro w1 ⟨⟨_, hk_w1⟩, rfl⟩
  clear kga kgb Q1 Q2
  have B2ga := Lib.hid (hk_w1.heap Bga.out (by simp))
  have B2gb := Lib.hid (hk_w1.heap Bgb.out (by simp))
  have HkW2 := Lib.hid (HkW.out.trans0 hk_w1)
  clear HkW hk_w1 Bga Bgb
  have Bga := B2ga
  have Bgb := B2gb
  have HkW := HkW2
  clear HkW2 B2ga B2gb
  have pga := cell_of Bga.out
  have fga := frozen_of Bga.out
  have lga := lt_of_heap Bga.out
  go_wp2_with fail
  go_ret
  exact ⟨rfl, by repeat (first | (with_reducible exact HkW.out) | (refine Keep.setPast ?_ _ _ _ (by omega)) | (refine Keep.allocPast ?_ _) | (refine Keep.drewPast ?_))⟩
end Go.Proofs.YteknldaoegccaaaGreatDoor
