/- Parts of a proof about this translation: Sy, Tf, Tg. -/
import Derived.Great.BuildSlice
import Derived.Deep.MidRow
import Derived.Test.YteknldaoegccaaaGreatDoorZ14
set_option linter.unusedVariables false
set_option linter.unusedSimpArgs false
set_option maxRecDepth 100000
namespace Go.Proofs.YteknldaoegccaaaGreatDoor
open Go.RowKit
section
variable {P : Program}
theorem wp_op {o : Oper} {a : Act} {w : World} {K : Act → World → Prop} {Q : Exit → Act → World → Prop} (v : Value) (w' : World) (h : (execOp a.eval o).run P w = .ok (.value v) w') (hk : K (a.put o.dst v) w') : o.wp P a w K Q := by
 unfold Oper.wp
 rw [h]
 exact hk
theorem exec_load {o : Oper} {ev : Operand → Value} {w : World} (t : TypeId) (x : Operand) (ad : Addr) (v : Value) (ho : o.op = .load t x) (hx : ev x = .pointer (some ad)) (h : (loadVar t ad).run P w = .ok v w) : (execOp ev o).run P w = .ok (.value v) w := by
 unfold execOp
 simp only [ho, hx, Instr.loadAt, Instr.sureAddr, Sem.run_bind, Sem.run_pure, Result.andThen_ok, h]
theorem exec_bs {o : Oper} {ev : Operand → Value} {w w' : World} (t : TypeId) (n : Nat) (parts : Array (Nat × Operand)) (parts' : Array (Nat × Value)) (v : Value) (ho : o.op = .buildSlice t n parts) (hp : (parts.map fun (i, x) => (i, ev x)) = parts') (h : (Instr.buildSlice t n parts').run P w = .ok v w') : (execOp ev o).run P w = .ok (.value v) w' := by
 unfold execOp
 simp only [ho, hp, Sem.run_bind, Sem.run_pure, Result.andThen_ok, h]
theorem exec_app {o : Oper} {ev : Operand → Value} {w w' : World} (s x : Operand) (t : TypeId) (vs vx v : Value) (ho : o.op = .call { callee := .builtin .append, args := #[s, x], argTypes := #[t, t] }) (hs : ev s = vs) (hx : ev x = vx)
  (h : (Builtin.append_ #[t, t] o.type #[vs, vx]).run P w = .ok v w') : (execOp ev o).run P w = .ok (.value v) w' := by
 unfold execOp
 simp only [ho, resolve, invoke, builtin, Sem.run_bind, Sem.run_pure, Result.andThen_ok, List.map_toArray, List.map_cons, List.map_nil, hs, hx, h]
variable {α : Type} {enc : α → List Value} {e : TypeId} {k : Nat}
theorem OE.empty (w : World) : OE enc e k w (w.alloc (.cells #[] e)) (.slice (some ⟨w.heap.size, 0, none⟩) 0 0) [] := by
 refine ⟨⟨by simp, .inr ⟨w.heap.size, 0, #[], rfl, Nat.zero_le _, World.alloc_heap_new w _, Nat.le_refl _, by simp, by simp, by simp⟩⟩, ?_, Keep.alloc [] w _⟩
 intro g hg
 simp [Value.ownBlock] at hg
 omega
theorem OE.app {t ty : TypeId} {i : TypeInfo} {z : Value} {bytes : Nat} (ht : P.underlying t = some (.slice e)) (hi : P.info? e = some i) (hz : i.zero = some z) (hsize : i.size = k) (hby : i.bytes = bytes) (hzs : z.cells.size = k) (hk0 : 0 < k)
  (henc : ∀ x, (enc x).length = k) (hone : ∀ x, ∀ v ∈ enc x, v.oneCell' = true) {w0 w : World} {v y : Value} {l m : List α} (h : OE enc e k w0 w v l) (hv : v.ownBlock ≠ none ∨ 0 < m.length) (hy : RowE enc w y m)
  (h63 : l.length + m.length ≤ maxLen) (hbytes : (l.length + m.length) * bytes ≤ 140737488355328) :
  ∃ v' w', (Builtin.append_ #[t, t] ty #[v, y]).run P w = .ok v' w' ∧ OE enc e k w0 w' v' (l ++ m) ∧ v'.ownBlock ≠ none ∧ ∀ F, (∀ g, v.ownBlock = some g → g ∈ F) → Keep F w w' := by
 rcases hy with ⟨rfl, rfl⟩ | ⟨g, b, c, rfl, hc, hg, hx⟩
 ·have hvn : v.ownBlock ≠ none := by
   rcases hv with hv | hv
   ·exact hv
   ·simp at hv
  exact ⟨v, w, run_append_owned_none (P := P) (w := w) 0 t ty e i k ht hi v _ _ h.row, by simpa using h, hvn, fun F _ => Keep.refl F w⟩
 ·have hl := flat_len enc henc m
  have hnews : ∀ j u, (m.flatMap enc)[j]? = some u → w.cell? ((⟨g, b, none⟩ : Addr).add j) = some u := fun j u hj => by rw [Addr.add_lit]; exact hx j u hj
  have h1 : ∀ u ∈ m.flatMap enc, u.oneCell' = true := fun u hu => by
   obtain ⟨x, _, hxu⟩ := List.mem_flatMap.1 hu
   exact hone x u hxu
  obtain ⟨v', w', hr, ho, hgr, _⟩ := run_append_own (P := P) w 0 t ty e i z k bytes ht hi hz hsize hby hzs hk0 v _ _ h.row ⟨g, b, none⟩ m.length c _ hl hnews h1 h63 hbytes (Nat.zero_le _)
  have fin : ∀ g' cap, (Builtin.append_ #[t, t] ty #[v, .slice (some ⟨g, b, none⟩) m.length c]).run P w = .ok (.slice (some ⟨g', 0, none⟩) (l.length + m.length) cap) w' → (some g' = v.ownBlock ∨ w.heap.size ≤ g') → w.drawn ≤ w'.drawn →
    ∃ v' w', (Builtin.append_ #[t, t] ty #[v, .slice (some ⟨g, b, none⟩) m.length c]).run P w = .ok v' w' ∧ OE enc e k w0 w' v' (l ++ m) ∧ v'.ownBlock ≠ none ∧ ∀ F, (∀ g, v.ownBlock = some g → g ∈ F) → Keep F w w' := by
   intro g' cap h2 h3 h4
   have h5 := h2
   rw [hr] at h5
   injection h5 with h5 _
   subst h5
   refine ⟨_, w', hr, ⟨?_, ?_, ?_⟩, by simp [Value.ownBlock], fun F hF => Keep.grown hgr h4 hF⟩
   ·rw [List.flatMap_append, List.length_append]; exact ho
   ·intro x hx
    simp [Value.ownBlock] at hx
    subst hx
    rcases h3 with h3 | h3
    ·exact h.base _ h3.symm
    ·exact Nat.le_trans h.keep.size h3
   ·exact h.keep.grownPast hgr h4 (fun x hx => h.base x hx)
  rcases h.row.2 with ⟨rfl, hl0⟩ | ⟨g0, cap, cur, rfl, hb0, hgg, hnc, hcm, hcs, htake⟩
  ·have hm : 0 < m.length := by
    rcases hv with hv | hv
    ·exact absurd rfl hv
    ·exact hv
   have h2 := run_append_nil (P := P) w t ty e i z ht hi hz ⟨g, b, none⟩ m.length c _ (by rw [hl, hsize]) hnews hm (by simp only [maxLen] at h63; omega) (by rw [hby]; have hb := hbytes; simp only [hl0, Nat.zero_add] at hb; omega)
   have hw := h2
   rw [hr] at hw
   injection hw with _ hw
   rw [← hw] at h2
   refine fin w.heap.size _ (by rw [h2, hl0, Nat.zero_add]) (.inr (Nat.le_refl _)) (by rw [hw]; exact Nat.le_succ _)
  ·subst hsize
   by_cases hroom : l.length + m.length ≤ cap
   ·have hfit : l.length * i.size + (m.flatMap enc).length ≤ cur.size := by rw [hl, hcs, ← Nat.add_mul]; exact Nat.mul_le_mul_right _ hroom
    have h2 := run_append_room (P := P) w t ty e i ht hi g0 l.length cap cur hgg ⟨g, b, none⟩ m.length c _ hl hnews h1 hroom hfit
    have hw : w' = w.setRow g0 (cur.toList.take (l.length * i.size) ++ m.flatMap enc ++ cur.toList.drop (l.length * i.size + (m.flatMap enc).length)).toArray := by
     rw [hr] at h2
     injection h2
    rw [← hw] at h2
    exact fin g0 cap h2 (.inl rfl) (by rw [hw]; exact Nat.le_refl _)
   ·have holds : ∀ j u, (l.flatMap enc)[j]? = some u → w.cell? ((⟨g0, 0, none⟩ : Addr).add j) = some u := h.row.cells (g := g0) rfl
    have h2 := run_append_grow (P := P) w t ty e i z ht hi hz ⟨g0, 0, none⟩ l.length cap _ h.row.1 holds ⟨g, b, none⟩ m.length c _ hl hnews (by omega) (by simp only [maxLen] at h63; omega) (growslice_fits (by omega) (by rw [hby]; exact hbytes))
    have hw := h2
    rw [hr] at hw
    injection hw with _ hw
    rw [← hw] at h2
    exact fin _ _ h2 (.inr (Nat.le_refl _)) (by rw [hw]; exact Nat.le_succ _)
end
theorem RowE.keepF {α : Type} {enc : α → List Value} {w w' : World} {g o n c : Nat} {l : List α} {F : List Nat} (h : RowE enc w (.slice (some ⟨g, o, none⟩) n c) l) (hk : Keep F w w') (hg : g ∉ F) : RowE enc w' (.slice (some ⟨g, o, none⟩) n c) l := by
 rcases h with ⟨h, _⟩ | ⟨g', o', c', e, hc, hg', hx⟩
 ·cases h
 ·have hgg : g' = g := by injection e with e1; injection e1 with e1; injection e1 with e1; exact e1.symm
  refine .inr ⟨g', o', c', e, hc, Nat.lt_of_lt_of_le hg' hk.size, fun i v hv => ?_⟩
  rw [World.cell?_of_block (hk.block g' hg' (by rw [hgg]; exact hg))]
  exact hx i v hv
theorem RowE.take {α : Type} {enc : α → List Value} {k : Nat} (hk : ∀ x, (enc x).length = k) {w : World} {g o n c : Nat} {l : List α} (h : RowE enc w (.slice (some ⟨g, o, none⟩) n c) l) (i : Nat) (hi : i ≤ l.length) : RowE enc w (.slice (some ⟨g, o, none⟩) i c) (l.take i) := by
 rcases h with ⟨h, _⟩ | ⟨g', o', c', e, hc, hg, hx⟩
 ·cases h
 ·injection e with e1 e2 e3
  injection e1 with e1
  injection e1 with e1 e4
  subst e1 e4 e3
  refine .inr ⟨g, o, c, by rw [List.length_take, Nat.min_eq_left hi], by rw [List.length_take]; omega, hg, fun j v hj => hx j v ?_⟩
  have hs : l.flatMap enc = (l.take i).flatMap enc ++ (l.drop i).flatMap enc := by rw [← List.flatMap_append, List.take_append_drop]
  rw [hs, List.getElem?_append_left (List.getElem?_eq_some_iff.1 hj).1]
  exact hj
theorem RowE.drop {α : Type} {enc : α → List Value} {k : Nat} (hk : ∀ x, (enc x).length = k) {w : World} {g o n c : Nat} {l : List α} (h : RowE enc w (.slice (some ⟨g, o, none⟩) n c) l) (i : Nat) (hi : i ≤ l.length) : RowE enc w (.slice (some ⟨g, o + i * k, none⟩) (l.length - i) (c - i)) (l.drop i) := by
 rcases h with ⟨h, _⟩ | ⟨g', o', c', e, hc, hg, hx⟩
 ·cases h
 ·injection e with e1 e2 e3
  injection e1 with e1
  injection e1 with e1 e4
  subst e1 e4 e3
  refine .inr ⟨g, o + i * k, c - i, by rw [List.length_drop], by rw [List.length_drop]; omega, hg, fun j v hj => ?_⟩
  have hs : l.flatMap enc = (l.take i).flatMap enc ++ (l.drop i).flatMap enc := by rw [← List.flatMap_append, List.take_append_drop]
  have hlen : ((l.take i).flatMap enc).length = i * k := by rw [flat_len enc hk, List.length_take, Nat.min_eq_left hi]
  rw [Nat.add_assoc]
  refine hx _ v ?_
  rw [hs, List.getElem?_append_right (by rw [hlen]; omega), hlen, Nat.add_sub_cancel_left]
  exact hj
theorem infoRealB : (Tryz.prog.info? 31).map (fun i => (i.zero.map Value.cells, i.size, i.bytes)) = some (some #[.bool false, .string ⟨#[]⟩, .bool false, .string ⟨#[]⟩, .bool false, .string ⟨#[]⟩, .bool false, .string ⟨#[]⟩, .bool false], 9, 104) := by kernel_rfl
theorem real_info : ∃ i z, Tryz.prog.info? 31 = some i ∧ i.zero = some z ∧ i.size = 9 ∧ i.bytes = 104 ∧ z.cells = #[.bool false, .string ⟨#[]⟩, .bool false, .string ⟨#[]⟩, .bool false, .string ⟨#[]⟩, .bool false, .string ⟨#[]⟩, .bool false] := by
 have h := infoRealB
 cases hi : Tryz.prog.info? 31 with
 | none => rw [hi] at h; cases h
 | some i =>
  rw [hi] at h
  simp only [Option.map_some, Option.some.injEq, Prod.mk.injEq] at h
  obtain ⟨h1, h2, h3⟩ := h
  cases hz : i.zero with
  | none => rw [hz] at h1; cases h1
  | some z =>
   rw [hz] at h1
   injection h1 with h1
   exact ⟨i, z, rfl, hz, h2, h3, h1⟩
theorem fill_k (b1 b4 b7 : Bool) (s2 s3 s5 s6 : ByteArray) : Instr.fill (fun i => some (i * 9, 9)) ((Array.range (1 * 9)).map ((#[.bool false, .string ⟨#[]⟩, .bool false, .string ⟨#[]⟩, .bool false, .string ⟨#[]⟩, .bool false, .string ⟨#[]⟩, .bool false] : Array Value)[· % (#[.bool false, .string ⟨#[]⟩, .bool false, .string ⟨#[]⟩, .bool false, .string ⟨#[]⟩, .bool false, .string ⟨#[]⟩, .bool false] : Array Value).size]!))
  #[(0, Value.agg #[.bool b1, .string s2, .bool false, .string s3, .bool b4, .string s5, .bool false, .string s6, .bool b7])].toList = some #[.bool b1, .string s2, .bool false, .string s3, .bool b4, .string s5, .bool false, .string s6, .bool b7] := by kernel_rfl
theorem build1_k (x : K) (w : World) : (Instr.buildSlice 54 1 #[(0, kv x)]).run Tryz.prog w = .ok (.slice (some ⟨w.heap.size, 0, none⟩) 1 1) (w.alloc (.cells (kC x) 31)) := by
 obtain ⟨i, z, hi, hz, hs, hb, hzc⟩ := real_info
 refine run_buildSlice (P := Tryz.prog) w 54 31 1 _ _ i z Tryz.underlying54 hi hz (by rw [hs]; decide) (by rw [hs]; decide) ?_
 rw [hs, hzc, kv_cells]
 exact fill_k _ _ _ _ _ _ _
theorem build0_k (w : World) : (Instr.buildSlice 54 0 #[]).run Tryz.prog w = .ok (.slice (some ⟨w.heap.size, 0, none⟩) 0 0) (w.alloc (.cells #[] 31)) := by
 go_simp
abbrev OK_ := OE (fun x : K => kcells x.1) 31 9
theorem KR.app' {ty : TypeId} {w0 w : World} {v y : Value} {l m : List K} (h : OK_ w0 w v l) (hv : v.ownBlock ≠ none ∨ 0 < m.length) (hy : KR w y m) (hb : l.length + m.length ≤ 1000000000) :
  ∃ v' w', (Builtin.append_ #[54, 54] ty #[v, y]).run Tryz.prog w = .ok v' w' ∧ OK_ w0 w' v' (l ++ m) ∧ v'.ownBlock ≠ none ∧ ∀ F, (∀ g, v.ownBlock = some g → g ∈ F) → Keep F w w' := by
 obtain ⟨i, z, hi, hz, hs, hbt, hzc⟩ := real_info
 exact OE.app (P := Tryz.prog) (bytes := 104) Tryz.underlying54 hi hz hs hbt (by rw [hzc]; rfl) (by decide) (fun (x : K) => kcells_len x.1) (fun (x : K) => kcells_one x.1) h hv hy (by unfold maxLen; omega) (by omega)
theorem KR.app {ty : TypeId} {w0 w : World} {v y : Value} {l m : List K} (h : OK_ w0 w v l) (hv : v.ownBlock ≠ none) (hy : KR w y m) (hb : l.length + m.length ≤ 1000000000) :
  ∃ v' w', (Builtin.append_ #[54, 54] ty #[v, y]).run Tryz.prog w = .ok v' w' ∧ OK_ w0 w' v' (l ++ m) ∧ v'.ownBlock ≠ none ∧ ∀ F, (∀ g, v.ownBlock = some g → g ∈ F) → Keep F w w' := KR.app' h (.inl hv) hy hb
theorem OK_.start (w : World) : ∃ u g, w.alloc (.cells #[] 31) = u ∧ w.heap.size = g ∧ u.heap.size = g + 1 ∧ OK_ w u (.slice (some ⟨g, 0, none⟩) 0 0) [] := ⟨_, _, rfl, rfl, by simp, OE.empty w⟩
theorem KR.one (x : K) (w : World) : KR (w.alloc (.cells (kC x) 31)) (.slice (some ⟨w.heap.size, 0, none⟩) 1 1) [x] := by
 refine .inr ⟨w.heap.size, 0, 1, rfl, Nat.le_refl _, by simp, fun i v hv => ?_⟩
 have h := kAt_box (World.alloc_heap_new w (.cells (kC x) 31)) i v (by simpa using hv)
 exact h
theorem KR.single (x : K) (w : World) : ∃ u g, w.alloc (.cells (kC x) 31) = u ∧ w.heap.size = g ∧ u.heap.size = g + 1 ∧ Keep [] w u ∧ KR u (.slice (some ⟨g, 0, none⟩) 1 1) [x] := ⟨_, _, rfl, rfl, by simp, Keep.alloc [] w _, KR.one x w⟩
theorem fill_k2 (b1 b4 b7 d1 d4 d7 : Bool) (s2 s3 s5 s6 t2 t3 t5 t6 : ByteArray) : Instr.fill (fun i => some (i * 9, 9)) ((Array.range (2 * 9)).map ((#[.bool false, .string ⟨#[]⟩, .bool false, .string ⟨#[]⟩, .bool false, .string ⟨#[]⟩, .bool false, .string ⟨#[]⟩, .bool false] : Array Value)[· % (#[.bool false, .string ⟨#[]⟩, .bool false, .string ⟨#[]⟩, .bool false, .string ⟨#[]⟩, .bool false, .string ⟨#[]⟩, .bool false] : Array Value).size]!))
  #[(0, Value.agg #[.bool b1, .string s2, .bool false, .string s3, .bool b4, .string s5, .bool false, .string s6, .bool b7]), (1, Value.agg #[.bool d1, .string t2, .bool false, .string t3, .bool d4, .string t5, .bool false, .string t6, .bool d7])].toList = some #[.bool b1, .string s2, .bool false, .string s3, .bool b4, .string s5, .bool false, .string s6, .bool b7, .bool d1, .string t2, .bool false, .string t3, .bool d4, .string t5, .bool false, .string t6, .bool d7] := by kernel_rfl
theorem build2_k (x y : K) (w : World) : (Instr.buildSlice 54 2 #[(0, kv x), (1, kv y)]).run Tryz.prog w = .ok (.slice (some ⟨w.heap.size, 0, none⟩) 2 2) (w.alloc (.cells (kcells x.1 ++ kcells y.1).toArray 31)) := by
 obtain ⟨i, z, hi, hz, hs, hb, hzc⟩ := real_info
 refine run_buildSlice (P := Tryz.prog) w 54 31 2 _ _ i z Tryz.underlying54 hi hz (by rw [hs]; decide) (by rw [hs]; decide) ?_
 rw [hs, hzc, kv_cells, kv_cells]
 exact fill_k2 _ _ _ _ _ _ _ _ _ _ _ _ _ _
theorem KR.pair (x y : K) (w : World) : ∃ u g, w.alloc (.cells (kcells x.1 ++ kcells y.1).toArray 31) = u ∧ w.heap.size = g ∧ u.heap.size = g + 1 ∧ Keep [] w u ∧ KR u (.slice (some ⟨g, 0, none⟩) 2 2) [x, y] := by
 refine ⟨_, _, rfl, rfl, by simp, Keep.alloc [] w _, .inr ⟨w.heap.size, 0, 2, rfl, Nat.le_refl _, by simp, fun i v hv => ?_⟩⟩
 rw [Nat.zero_add, cell_of (World.alloc_heap_new w _)]
 exact (List.getElem?_toArray ..).trans (by simpa using hv)
end Go.Proofs.YteknldaoegccaaaGreatDoor
set_option maxRecDepth 100000
namespace Go.Proofs.YteknldaoegccaaaGreatDoor
open Go.RowKit
open Classical
theorem infoIvB : (Tryz.prog.info? 33).map (fun i => (i.zero.map Value.cells, i.size, i.bytes)) = some (some #[.bool false, .string ⟨#[]⟩, .bool false, .string ⟨#[]⟩, .bool false, .string ⟨#[]⟩, .bool false, .string ⟨#[]⟩, .bool false, .bool false, .string ⟨#[]⟩, .bool false, .string ⟨#[]⟩, .bool false, .string ⟨#[]⟩, .bool false, .string ⟨#[]⟩, .bool false, .bool false, .bool false], 20, 216) := by kernel_rfl
theorem iv_info : ∃ i z, Tryz.prog.info? 33 = some i ∧ i.zero = some z ∧ i.size = 20 ∧ i.bytes = 216 ∧ z.cells = #[.bool false, .string ⟨#[]⟩, .bool false, .string ⟨#[]⟩, .bool false, .string ⟨#[]⟩, .bool false, .string ⟨#[]⟩, .bool false, .bool false, .string ⟨#[]⟩, .bool false, .string ⟨#[]⟩, .bool false, .string ⟨#[]⟩, .bool false, .string ⟨#[]⟩, .bool false, .bool false, .bool false] := by
 have h := infoIvB
 cases hi : Tryz.prog.info? 33 with
 | none => rw [hi] at h; cases h
 | some i =>
  rw [hi] at h
  simp only [Option.map_some, Option.some.injEq, Prod.mk.injEq] at h
  obtain ⟨h1, h2, h3⟩ := h
  cases hz : i.zero with
  | none => rw [hz] at h1; cases h1
  | some z =>
   rw [hz] at h1
   injection h1 with h1
   exact ⟨i, z, rfl, hz, h2, h3, h1⟩
theorem fill_i (f1 f4 f7 t1 t4 t7 o c : Bool) (f2 f3 f5 f6 t2 t3 t5 t6 : ByteArray) : Instr.fill (fun i => some (i * 20, 20)) ((Array.range (1 * 20)).map ((#[.bool false, .string ⟨#[]⟩, .bool false, .string ⟨#[]⟩, .bool false, .string ⟨#[]⟩, .bool false, .string ⟨#[]⟩, .bool false, .bool false, .string ⟨#[]⟩, .bool false, .string ⟨#[]⟩, .bool false, .string ⟨#[]⟩, .bool false, .string ⟨#[]⟩, .bool false, .bool false, .bool false] : Array Value)[· % (#[.bool false, .string ⟨#[]⟩, .bool false, .string ⟨#[]⟩, .bool false, .string ⟨#[]⟩, .bool false, .string ⟨#[]⟩, .bool false, .bool false, .string ⟨#[]⟩, .bool false, .string ⟨#[]⟩, .bool false, .string ⟨#[]⟩, .bool false, .string ⟨#[]⟩, .bool false, .bool false, .bool false] : Array Value).size]!))
  #[(0, Value.agg #[.bool f1, .string f2, .bool false, .string f3, .bool f4, .string f5, .bool false, .string f6, .bool f7, .bool t1, .string t2, .bool false, .string t3, .bool t4, .string t5, .bool false, .string t6, .bool t7, .bool o, .bool c])].toList = some #[.bool f1, .string f2, .bool false, .string f3, .bool f4, .string f5, .bool false, .string f6, .bool f7, .bool t1, .string t2, .bool false, .string t3, .bool t4, .string t5, .bool false, .string t6, .bool t7, .bool o, .bool c] := by kernel_rfl
theorem build1_i (x : Iv K) (w : World) : (Instr.buildSlice 23 1 #[(0, iv x)]).run Tryz.prog w = .ok (.slice (some ⟨w.heap.size, 0, none⟩) 1 1) (w.alloc (.cells (iC x) 33)) := by
 obtain ⟨i, z, hi, hz, hs, hb, hzc⟩ := iv_info
 refine run_buildSlice (P := Tryz.prog) w 23 33 1 _ _ i z Tryz.underlying23 hi hz (by rw [hs]; decide) (by rw [hs]; decide) ?_
 rw [hs, hzc, iv_cells]
 exact fill_i _ _ _ _ _ _ _ _ _ _ _ _ _ _ _ _
theorem build0_i (w : World) : (Instr.buildSlice 23 0 #[]).run Tryz.prog w = .ok (.slice (some ⟨w.heap.size, 0, none⟩) 0 0) (w.alloc (.cells #[] 33)) := by
 go_simp
abbrev OI_ := OE (fun i : Iv K => icells i) 33 20
theorem IvR.app {ty : TypeId} {w0 w : World} {v y : Value} {l m : List (Iv K)} (h : OI_ w0 w v l) (hv : v.ownBlock ≠ none ∨ 0 < m.length) (hy : IvR w y m) (hb : l.length + m.length ≤ 1000000000) :
  ∃ v' w', (Builtin.append_ #[23, 23] ty #[v, y]).run Tryz.prog w = .ok v' w' ∧ OI_ w0 w' v' (l ++ m) ∧ v'.ownBlock ≠ none ∧ ∀ F, (∀ g, v.ownBlock = some g → g ∈ F) → Keep F w w' := by
 obtain ⟨i, z, hi, hz, hs, hbt, hzc⟩ := iv_info
 exact OE.app (P := Tryz.prog) (bytes := 216) Tryz.underlying23 hi hz hs hbt (by rw [hzc]; rfl) (by decide) icells_len icells_one h hv hy (by unfold maxLen; omega) (by omega)
theorem OI_.start (w : World) : ∃ u g, w.alloc (.cells #[] 33) = u ∧ w.heap.size = g ∧ u.heap.size = g + 1 ∧ OI_ w u (.slice (some ⟨g, 0, none⟩) 0 0) [] := ⟨_, _, rfl, rfl, by simp, OE.empty w⟩
theorem IvR.single (x : Iv K) (w : World) : ∃ u g, w.alloc (.cells (iC x) 33) = u ∧ w.heap.size = g ∧ u.heap.size = g + 1 ∧ Keep [] w u ∧ IvR u (.slice (some ⟨g, 0, none⟩) 1 1) [x] := by
 refine ⟨_, _, rfl, rfl, by simp, Keep.alloc [] w _, .inr ⟨w.heap.size, 0, 1, rfl, Nat.le_refl _, by simp, fun i v hv => ?_⟩⟩
 exact ivAt_box (World.alloc_heap_new w (.cells (iC x) 33)) i v (by simpa using hv)
section
variable {P : Program}
theorem wpList_opv {ops : Array Oper} {rest : List Oper} {o : Oper} {a : Act} {w : World} {Q : Exit → Act → World → Prop} (hgd : o.guard = none) (v : Value) (w' : World) (h : (execOp a.eval o).run P w = .ok (.value v) w') (hk : wpList P ops Q rest (a.put o.dst v) w') : wpList P ops Q (o :: rest) a w :=
 wpList_plain hgd fun K hK => wp_op v w' h (hK _ _ hk)
theorem wpList_K {ops : Array Oper} {rest : List Oper} {o : Oper} {a : Act} {w w' : World} {v : Value} {Q : Exit → Act → World → Prop} (hgd : o.guard = none) (h : (execOp a.eval o).run P w = .ok (.value v) w') (hk : ∀ K : Act → World → Prop, (∀ a w, wpList P ops Q rest a w → K a w) → K (a.put o.dst v) w') : wpList P ops Q (o :: rest) a w :=
 wpList_opv hgd v w' h (hk _ fun _ _ h => h)
theorem wpList_R {ops : Array Oper} {rest : List Oper} {o : Oper} {a : Act} {w : World} {v : Value} {Q : Exit → Act → World → Prop} (hgd : o.guard = none) (h : (execOp a.eval o).run P w = .ok (.value v) w) (hk : ∀ K : Act → World → Prop, (∀ a w, wpList P ops Q rest a w → K a w) → K (a.put o.dst v) w) : wpList P ops Q (o :: rest) a w :=
 wpList_opv hgd v w h (hk _ fun _ _ h => h)
theorem exec_build {o : Oper} {ev : Operand → Value} {w : World} (t : TypeId) (parts : Array (Nat × Operand)) (parts' : Array (Nat × Value)) (cells : Array Value) (ho : o.op = .build t parts) (hp : (parts.map fun (i, x) => (i, ev x)) = parts') (h : P.built t parts'.toList = some cells) : (execOp ev o).run P w = .ok (.value (.agg cells)) w := by
 unfold execOp
 simp only [ho, hp, Sem.run_bind, Sem.run_pure, Result.andThen_ok, run_build w t parts' cells h]
theorem wpList_rowK {ops : Array Oper} {rest : List Oper} {o : Oper} {a : Act} {w : World} {Q : Exit → Act → World → Prop} (hgd : o.guard = none) (ty : TypeId) (x y : Operand) (ho : o.op = .store ty x y)
  (g : Nat) (cells : Array Value) (hx : a.eval x = .pointer (some ⟨g, 0, none⟩)) (hy : a.eval y = .agg cells)
  (t : TypeId) (old : Array Value) (hg : w.heap[g]? = some (.cells old t (0, 0))) (hi : (P.info? ty).map (·.size) = some cells.size)
  (hold : old.size = cells.size) (h1 : cells.all (·.oneCell') = true)
  (h : ∀ K : Act → World → Prop, (∀ a w, wpList P ops Q rest a w → K a w) → K (a.put o.dst undef) (w.setRow g cells)) : wpList P ops Q (o :: rest) a w :=
 wpList_store_row hgd ty x y ho g cells hx hy t old hg hi hold h1 (h _ fun _ _ h => h)
theorem wpList_midK {ops : Array Oper} {rest : List Oper} {o : Oper} {a : Act} {w : World} {Q : Exit → Act → World → Prop} (hgd : o.guard = none) (ty : TypeId) (x y : Operand) (ho : o.op = .store ty x y)
  (b i : Nat) (cells : Array Value) (hx : a.eval x = .pointer (some ⟨b, i, none⟩)) (hy : a.eval y = .agg cells) (ht : w.there b i cells.size) (hi : (P.info? ty).map (·.size) = some cells.size) (h1 : cells.all (·.oneCell') = true)
  (h : ∀ K : Act → World → Prop, (∀ a w, wpList P ops Q rest a w → K a w) → K (a.put o.dst undef) (w.setCells b i cells.toList)) : wpList P ops Q (o :: rest) a w :=
 wpList_store_mid hgd ty x y ho b i cells hx hy ht hi h1 (h _ fun _ _ h => h)
theorem there_of {w : World} {g : Nat} {cs : Array Value} {t : TypeId} (h : w.heap[g]? = some (.cells cs t (0, 0))) (o n : Nat) (hn : o + n ≤ cs.size) : w.there g o n := fun j hj =>
 ⟨by rw [cell_of h, Array.getElem?_eq_getElem (by omega)]; rfl, frozen_of h _⟩
def putAt (cs : Array Value) (o : Nat) : List Value → Array Value
 | [] => cs
 | v :: r => putAt (cs.setIfInBounds o v) (o + 1) r
theorem setCells_at {g : Nat} {t : TypeId} : ∀ (vs : List Value) (o : Nat) (cs : Array Value) (w : World), w.heap[g]? = some (.cells cs t (0, 0)) → (w.setCells g o vs).heap[g]? = some (.cells (putAt cs o vs) t (0, 0)) ∧ Keep [g] w (w.setCells g o vs)
 | [], _, _, w, h => ⟨h, Keep.refl _ w⟩
 | v :: r, o, cs, w, h => by
  obtain ⟨h1, h2⟩ := setCells_at r (o + 1) _ _ (set_same h o v)
  exact ⟨h1, (Keep.setCell [g] w g o v (by simp)).trans h2 (by simp)⟩
theorem setRow_at {w : World} {g : Nat} {old cs : Array Value} {t : TypeId} (h : w.heap[g]? = some (.cells old t (0, 0))) : ∃ W, w.setRow g cs = W ∧ W.heap[g]? = some (.cells cs t (0, 0)) ∧ Keep [g] w W := by
 refine ⟨_, rfl, ?_, ⟨rfl, rfl, rfl, by simp [World.setRow], Nat.le_refl _, fun k hk hn => ?_⟩⟩
 ·simp [World.setRow, Array.getElem?_modify, h]
 ·simp only [World.setRow, Array.getElem?_modify]
  rw [if_neg (by intro e; subst e; simp at hn)]
end
theorem k_size : (Tryz.prog.info? 31).map (·.size) = some 9 := by
 obtain ⟨i, z, hi, hz, hs, hb, hzc⟩ := real_info
 rw [hi]
 exact congrArg some hs
theorem iv_size (x : Iv K) : (Tryz.prog.info? 33).map (·.size) = some (iC x).size := by
 obtain ⟨i, z, hi, hz, hs, hb, hzc⟩ := iv_info
 rw [hi]
 exact congrArg some hs
theorem iv_ones (x : Iv K) : (iC x).all (·.oneCell') = true := all_oneCell_toArray (icells_one x)
end Go.Proofs.YteknldaoegccaaaGreatDoor
set_option maxRecDepth 100000
namespace Go.Proofs.YteknldaoegccaaaGreatDoor
open Go.RowKit
def bcells (b : Bd K) : List Value := kcells b.pt.1 ++ [.bool b.beh]
def bv (b : Bd K) : Value := .agg (bcells b).toArray
theorem bv_cells (b : Bd K) : bv b = .agg #[.bool (sgB b.pt.1.p.num), .string (mgS b.pt.1.p.num), .bool false, .string (dnS b.pt.1.p.den), .bool (sgB b.pt.1.r.num), .string (mgS b.pt.1.r.num), .bool false, .string (dnS b.pt.1.r.den), .bool b.pt.1.neg, .bool b.beh] := rfl
theorem border_built (f1 f4 f7 o : Bool) (f2 f3 f5 f6 : ByteArray) : Tryz.prog.built 89 [(0, .agg #[.bool f1, .string f2, .bool false, .string f3, .bool f4, .string f5, .bool false, .string f6, .bool f7]), (1, .bool o)] = some #[.bool f1, .string f2, .bool false, .string f3, .bool f4, .string f5, .bool false, .string f6, .bool f7, .bool o] := by kernel_rfl
theorem iv_built (f1 f4 f7 t1 t4 t7 o c : Bool) (f2 f3 f5 f6 t2 t3 t5 t6 : ByteArray) : Tryz.prog.built 33 [(0, .agg #[.bool f1, .string f2, .bool false, .string f3, .bool f4, .string f5, .bool false, .string f6, .bool f7]), (1, .agg #[.bool t1, .string t2, .bool false, .string t3, .bool t4, .string t5, .bool false, .string t6, .bool t7]), (2, .bool o), (3, .bool c)] = some #[.bool f1, .string f2, .bool false, .string f3, .bool f4, .string f5, .bool false, .string f6, .bool f7, .bool t1, .string t2, .bool false, .string t3, .bool t4, .string t5, .bool false, .string t6, .bool t7, .bool o, .bool c] := by kernel_rfl
set_option maxHeartbeats 4000000 in
theorem first_c (i : Iv K) (w : World) : Calls Tryz.prog 74 #[iv i] w fun e w' => e = .returned (bv i.f) ∧ Keep [] w w' := by
 rw [iv_cells, bv_cells]
 generalize sgB (i.f.pt.1).p.num = f1 at *
 generalize mgS (i.f.pt.1).p.num = f2 at *
 generalize dnS (i.f.pt.1).p.den = f3 at *
 generalize sgB (i.f.pt.1).r.num = f4 at *
 generalize mgS (i.f.pt.1).r.num = f5 at *
 generalize dnS (i.f.pt.1).r.den = f6 at *
 generalize (i.f.pt.1).neg = f7 at *
 generalize sgB (i.l.pt.1).p.num = t1 at *
 generalize mgS (i.l.pt.1).p.num = t2 at *
 generalize dnS (i.l.pt.1).p.den = t3 at *
 generalize sgB (i.l.pt.1).r.num = t4 at *
 generalize mgS (i.l.pt.1).r.num = t5 at *
 generalize dnS (i.l.pt.1).r.den = t6 at *
 generalize (i.l.pt.1).neg = t7 at *
 generalize i.f.beh = o at *
 generalize (!i.l.beh) = c at *
 have hbd := fun w => run_build (P := Tryz.prog) w 89 #[(0, .agg #[.bool f1, .string f2, .bool false, .string f3, .bool f4, .string f5, .bool false, .string f6, .bool f7]), (1, .bool o)] _ (border_built _ _ _ _ _ _ _ _)
 go_enter Tryz.func74, Tryz.ntmps74
 go_upto_region 1 with (fail)
 obtain ⟨W, ga, gb, hW, ega, egb, bga, bgb, hga, hgb, hgW, hkW⟩ := al2 w (.cells #[.bool f1, .string f2, .bool false, .string f3, .bool f4, .string f5, .bool false, .string f6, .bool f7, .bool t1, .string t2, .bool false, .string t3, .bool t4, .string t5, .bool false, .string t6, .bool t7, .bool o, .bool c] 33) (.cells #[.bool false, .string ⟨#[]⟩, .bool false, .string ⟨#[]⟩, .bool false, .string ⟨#[]⟩, .bool false, .string ⟨#[]⟩, .bool false, .bool false] 89)
 rw [← hW]
 try rw [egb]
 try rw [ega]
 have Bga := Lib.hid bga
 have Bgb := Lib.hid bgb
 have HkW := Lib.hid hkW
 clear hW hkW ega egb bga bgb
 have pga := cell_of Bga.out
 have fga := frozen_of Bga.out
 have lga := lt_of_heap Bga.out
 have pgb := cell_of Bgb.out
 have fgb := frozen_of Bgb.out
 have lgb := lt_of_heap Bgb.out
 go_wp2_with fail
 refine bodyPost_ret (v := .agg #[.bool f1, .string f2, .bool false, .string f3, .bool f4, .string f5, .bool false, .string f6, .bool f7, .bool o]) ?_ rfl ⟨rfl, by repeat (first | (with_reducible exact HkW.out) | (refine Keep.setPast ?_ _ _ _ (by omega)) | (refine Keep.allocPast ?_ _) | (refine Keep.drewPast ?_))⟩
 rw [results_cell1 rfl]; go_simp
set_option maxHeartbeats 4000000 in
theorem last_c (i : Iv K) (w : World) : Calls Tryz.prog 75 #[iv i] w fun e w' => e = .returned (bv i.l) ∧ Keep [] w w' := by
 have hn : i.l.beh = !(!i.l.beh) := by simp
 rw [iv_cells, bv_cells, hn]
 rw [← hn]
 generalize sgB (i.f.pt.1).p.num = f1 at *
 generalize mgS (i.f.pt.1).p.num = f2 at *
 generalize dnS (i.f.pt.1).p.den = f3 at *
 generalize sgB (i.f.pt.1).r.num = f4 at *
 generalize mgS (i.f.pt.1).r.num = f5 at *
 generalize dnS (i.f.pt.1).r.den = f6 at *
 generalize (i.f.pt.1).neg = f7 at *
 generalize sgB (i.l.pt.1).p.num = t1 at *
 generalize mgS (i.l.pt.1).p.num = t2 at *
 generalize dnS (i.l.pt.1).p.den = t3 at *
 generalize sgB (i.l.pt.1).r.num = t4 at *
 generalize mgS (i.l.pt.1).r.num = t5 at *
 generalize dnS (i.l.pt.1).r.den = t6 at *
 generalize (i.l.pt.1).neg = t7 at *
 clear hn
 generalize i.f.beh = o at *
 generalize i.l.beh = c at *
 have hbd := fun w => run_build (P := Tryz.prog) w 89 #[(0, .agg #[.bool t1, .string t2, .bool false, .string t3, .bool t4, .string t5, .bool false, .string t6, .bool t7]), (1, .bool c)] _ (border_built _ _ _ _ _ _ _ _)
 go_enter Tryz.func75, Tryz.ntmps75
 go_upto_region 1 with (fail)
 obtain ⟨W, ga, gb, hW, ega, egb, bga, bgb, hga, hgb, hgW, hkW⟩ := al2 w (.cells #[.bool f1, .string f2, .bool false, .string f3, .bool f4, .string f5, .bool false, .string f6, .bool f7, .bool t1, .string t2, .bool false, .string t3, .bool t4, .string t5, .bool false, .string t6, .bool t7, .bool o, .bool (!c)] 33) (.cells #[.bool false, .string ⟨#[]⟩, .bool false, .string ⟨#[]⟩, .bool false, .string ⟨#[]⟩, .bool false, .string ⟨#[]⟩, .bool false, .bool false] 89)
 rw [← hW]
 try rw [egb]
 try rw [ega]
 have Bga := Lib.hid bga
 have Bgb := Lib.hid bgb
 have HkW := Lib.hid hkW
 clear hW hkW ega egb bga bgb
 have pga := cell_of Bga.out
 have fga := frozen_of Bga.out
 have lga := lt_of_heap Bga.out
 have pgb := cell_of Bgb.out
 have fgb := frozen_of Bgb.out
 have lgb := lt_of_heap Bgb.out
 go_wp2_with fail
 refine bodyPost_ret (v := .agg #[.bool t1, .string t2, .bool false, .string t3, .bool t4, .string t5, .bool false, .string t6, .bool t7, .bool c]) ?_ rfl ⟨rfl, by repeat (first | (with_reducible exact HkW.out) | (refine Keep.setPast ?_ _ _ _ (by omega)) | (refine Keep.allocPast ?_ _) | (refine Keep.drewPast ?_))⟩
 rw [results_cell1 rfl]; go_simp
theorem iv_built' (a b : Bd K) : Tryz.prog.built 33 [(0, kv a.pt), (1, kv b.pt), (2, .bool a.beh), (3, .bool (!b.beh))] = some (iC ⟨a, b⟩) := iv_built _ _ _ _ _ _ _ _ _ _ _ _ _ _ _ _
def bC (b : Bd K) : Array Value := (bcells b).toArray
theorem bAt_pt {w : World} {g : Nat} {b : Bd K} {t : TypeId} (h : w.heap[g]? = some (.cells (bC b) t)) : KAt w g 0 b.pt.1 := fun k v hk => by
 rw [Nat.zero_add, cell_of h]
 refine (List.getElem?_toArray ..).trans ?_
 unfold bcells
 rw [List.getElem?_append_left (List.getElem?_eq_some_iff.1 hk).1]
 exact hk
theorem bAt_beh {w : World} {g : Nat} {b : Bd K} {t : TypeId} (h : w.heap[g]? = some (.cells (bC b) t)) : w.cell? ⟨g, 9, none⟩ = some (.bool b.beh) := by
 rw [cell_of h]; rfl
set_option maxHeartbeats 4000000 in
theorem between_c (a b : Bd K) (w : World) : Calls Tryz.prog 78 #[bv a, bv b] w fun e w' => e = .returned (iv ⟨a, b⟩) ∧ Keep [] w w' := by
 show Calls Tryz.prog 78 #[.agg (bC a), .agg (bC b)] w _
 have HA := Lib.hid (fun w g => @bAt_pt w g a 89)
 have HB := Lib.hid (fun w g => @bAt_pt w g b 89)
 have HA2 := Lib.hid (fun w g => @bAt_beh w g a 89)
 have HB2 := Lib.hid (fun w g => @bAt_beh w g b 89)
 have HI := Lib.hid (iv_built' a b)
 have HS := Lib.hid (iv_size ⟨a, b⟩)
 have HO := Lib.hid (iv_ones ⟨a, b⟩)
 have HL := Lib.hid (fun w g (h : w.heap[g]? = some (.cells (iC ⟨a, b⟩) 33)) => load_iv w g 0 ⟨a, b⟩ (ivAt_box h))
 have Hsz : Hid ((iC ⟨a, b⟩).size = 20) := rfl
 generalize iv ⟨a, b⟩ = R at *
 generalize bC a = A at *
 generalize bC b = B at *
 generalize iC ⟨a, b⟩ = C at *
 go_enter Tryz.func78, Tryz.ntmps78
 go_upto_region 1 with (fail)
 obtain ⟨W, ga, gb, gc, hW, ega, egb, egc, bga, bgb, bgc, hga, hgb, hgc, hgW, hkW⟩ := al3 w (.cells A 89) (.cells B 89) (.cells #[.bool false, .string ⟨#[]⟩, .bool false, .string ⟨#[]⟩, .bool false, .string ⟨#[]⟩, .bool false, .string ⟨#[]⟩, .bool false, .bool false, .string ⟨#[]⟩, .bool false, .string ⟨#[]⟩, .bool false, .string ⟨#[]⟩, .bool false, .string ⟨#[]⟩, .bool false, .bool false, .bool false] 33)
 rw [← hW]
 try rw [egc]
 try rw [egb]
 try rw [ega]
 have Bga := Lib.hid bga
 have Bgb := Lib.hid bgb
 have Bgc := Lib.hid bgc
 have HkW := Lib.hid hkW
 clear hW hkW ega egb egc bga bgb bgc
 have La := HA.out _ _ Bga.out
 have Lb := HB.out _ _ Bgb.out
 have oa := HA2.out _ _ Bga.out
 have ob := HB2.out _ _ Bgb.out
 refine wp_region_lit ?_
 refine' wpList_R (v := _) (by rfl) (?hruna) (fun K hK => ?hnexta)
 case hruna => (go_simp; try rfl)
 rotate_left 0
 go_simp
 refine hK _ _ ?_
 clear hK K
 refine wpList_R (v := kv a.pt) (by rfl) (exec_load _ _ ⟨ga, 0, none⟩ _ rfl rfl (load_real _ _ _ _ La)) (fun K hK => ?_)
 go_simp
 refine hK _ _ ?_
 clear hK K
 refine' wpList_R (v := _) (by rfl) (?hrunb) (fun K hK => ?hnextb)
 case hrunb => (go_simp; try rfl)
 rotate_left 0
 go_simp
 refine hK _ _ ?_
 clear hK K
 refine wpList_R (v := kv b.pt) (by rfl) (exec_load _ _ ⟨gb, 0, none⟩ _ rfl rfl (load_real _ _ _ _ Lb)) (fun K hK => ?_)
 go_simp
 refine hK _ _ ?_
 clear hK K
 refine' wpList_R (v := _) (by rfl) (?hrunc) (fun K hK => ?hnextc)
 case hrunc => (go_simp; try rfl)
 rotate_left 0
 go_simp
 refine hK _ _ ?_
 clear hK K
 refine' wpList_R (v := _) (by rfl) (?hrund) (fun K hK => ?hnextd)
 case hrund => (go_simp; try rfl)
 rotate_left 0
 go_simp
 refine hK _ _ ?_
 clear hK K
 refine' wpList_R (v := _) (by rfl) (?hrune) (fun K hK => ?hnexte)
 case hrune => (go_simp; try rfl)
 rotate_left 0
 go_simp
 refine hK _ _ ?_
 clear hK K
 refine' wpList_R (v := _) (by rfl) (?hrunf) (fun K hK => ?hnextf)
 case hrunf => (go_simp; try rfl)
 rotate_left 0
 go_simp
 refine hK _ _ ?_
 clear hK K
 refine' wpList_R (v := _) (by rfl) (?hrung) (fun K hK => ?hnextg)
 case hrung => (go_simp; try rfl)
 rotate_left 0
 go_simp
 refine hK _ _ ?_
 clear hK K
 refine wpList_R (v := .agg C) (by rfl) (exec_build _ #[(0, .tmp 6), (1, .tmp 8), (2, .tmp 10), (3, .tmp 13)] #[(0, kv a.pt), (1, kv b.pt), (2, .bool a.beh), (3, .bool (!b.beh))] _ rfl (by simp only [List.map_toArray, List.map_cons, List.map_nil]; rfl) HI.out) (fun K hK => ?_)
 go_simp
 refine hK _ _ ?_
 clear hK K
 refine wpList_rowK (by rfl) _ _ _ rfl gc C rfl rfl _ _ Bgc.out HS.out (by rw [Hsz.out]; rfl) HO.out (fun K hK => ?_)
 obtain ⟨W4, e4, b4, k4⟩ := setRow_at (cs := C) Bgc.out
 rw [e4]
 go_simp
 refine hK _ _ ?_
 clear hK K
 have Hb4 := Lib.hid b4
 have HkZ := Lib.hid (HkW.out.trans k4 (by simp; omega))
 clear La Lb oa ob b4 k4 e4
 go_wp2_with fail
 refine bodyPost_ret (v := R) ?_ rfl ⟨rfl, HkZ.out⟩
 rw [results_cell1 rfl]
 exact HL.out _ _ Hb4.out
end Go.Proofs.YteknldaoegccaaaGreatDoor
