/- A map from int to string, read as a list of pairs: what a look-up, a store and a deletion do. -/
import Derived.Test.YtgmggmpkbfljfaaBase
import Derived.RangeFuncRecord
set_option linter.unusedVariables false
set_option linter.unusedSimpArgs false
set_option maxRecDepth 100000
namespace Go.Proofs.Ytgmggmpkbfljfaa
open Go.RowKit

abbrev IS := List (Int × ByteArray)
def kvE (e : MapEntry) : Value × Value := (e.key, e.val)
def kvP (p : Int × ByteArray) : Value × Value := (.int .i64 p.1, .string p.2)
def lookI (m : IS) (k : Int) : Option ByteArray := (m.find? (fun p => p.1 == k)).map (·.2)
def setI : IS → Int → ByteArray → IS
  | [], k, v => [(k, v)]
  | p :: m, k, v => if p.1 == k then (k, v) :: m else p :: setI m k v
def delI : IS → Int → IS
  | [], _ => []
  | p :: m, k => if p.1 == k then m else p :: delI m k

def MapAt (w : World) (mb : Nat) (m : IS) : Prop := ∃ es clk, w.heap[mb]? = some (.map es clk) ∧ (es.toList.map kvE = m.map kvP ∧ MapKept.Stamped es clk)

theorem findNow_is (k : Int) : ∀ (es : List MapEntry) (m : IS) (i : Nat), es.map kvE = m.map kvP →
    Instr.findNow (.int .i64) (.int .i64 k) es i = some ((m.findIdx? (fun p => p.1 == k)).bind fun j => (m[j]?).map fun p => (i + j, .string p.2))
  | [], m, i, h => by
    have : m = [] := by simpa using h.symm
    subst this; rfl
  | e :: es, [], i, h => by simp at h
  | e :: es, p :: m, i, h => by
    simp only [List.map_cons, List.cons.injEq] at h
    obtain ⟨h1, h2⟩ := h
    simp only [kvE, kvP, Prod.mk.injEq] at h1
    simp only [Instr.findNow, h1.1, Instr.sameNow, if_true, List.findIdx?_cons]
    by_cases hk : p.1 = k
    · subst hk; simp [h1.2]
    · have hk1 : (k == p.1) = false := by rw [beq_eq_false_iff_ne]; exact fun e => hk e.symm
      have hk2 : (p.1 == k) = false := by rw [beq_eq_false_iff_ne]; exact hk
      rw [hk1, hk2]
      simp only []
      rw [findNow_is k es m (i + 1) h2]
      cases m.findIdx? (fun p => p.1 == k) with
      | none => simp
      | some j => simp [Nat.add_assoc, Nat.add_comm 1 j]

theorem lookI_idx (m : IS) (k : Int) : lookI m k = (m.findIdx? (fun p => p.1 == k)).bind fun j => (m[j]?).map (·.2) := by
  induction m with
  | nil => rfl
  | cons p m ih =>
    unfold lookI at *
    rw [List.findIdx?_cons, List.find?_cons]
    cases hp : (p.1 == k) with
    | true => simp
    | false =>
      simp only [Bool.false_eq_true, if_false]
      rw [ih]
      cases m.findIdx? (fun p => p.1 == k) <;> simp

section
variable {P : Program} {w : World} {T K E mb : Nat} {m : IS}
theorem run_findKey_is (hK : P.underlying K = some (.int .i64)) {es : Array MapEntry} (h : es.toList.map kvE = m.map kvP) (k : Int) :
    (Instr.findKey K (.int .i64 k) es.toList).run P w = .ok ((m.findIdx? (fun p => p.1 == k)).bind fun j => (m[j]?).map fun p => (j, .string p.2)) w := by
  unfold Instr.findKey
  simp only [Sem.run_bind, run_underlying hK, Result.andThen_ok, findNow_is k _ m 0 h, Nat.zero_add]
  rfl
theorem run_checkKey_is (hK : P.underlying K = some (.int .i64)) (b : Bool) (k : Int) : (Instr.checkKey b 10000 K (.int .i64 k)).run P w = .ok () w := by
  rw [show (10000 : Nat) = 9999 + 1 from rfl, Instr.checkKey]
  simp only [Sem.run_bind, run_underlying hK, Result.andThen_ok]
  rfl
theorem run_lookup_is (hT : P.underlying T = some (.map K E)) (hK : P.underlying K = some (.int .i64)) (hE : ∀ w, (zeroValue E).run P w = .ok (.string ⟨#[]⟩) w) (h : MapAt w mb m) (k : Int) :
    (Instr.lookup T (.map (some mb)) (.int .i64 k) true).run P w = .ok (.tuple #[.string ((lookI m k).getD ⟨#[]⟩), .bool (lookI m k).isSome]) w := by
  obtain ⟨es, clk, hb, he, _⟩ := h
  unfold Instr.lookup
  have hg : (getObj mb).run P w = .ok (.map es clk) w := by simp [getObj, Sem.run, hb]
  simp only [Sem.run_bind, run_underlying hT, Result.andThen_ok, hg, Sem.run_pure, run_checkKey_is hK, run_findKey_is hK he]
  rw [lookI_idx]
  cases m.findIdx? (fun p => p.1 == k) with
  | none => simp [Sem.run_pure, hE, Sem.run_bind, Result.andThen]
  | some j =>
    cases hj : m[j]? with
    | none => simp [hj, Sem.run_pure, hE, Sem.run_bind, Result.andThen]
    | some p => simp [hj, Sem.run_pure, Sem.run_bind, Result.andThen]

theorem setI_idx (m : IS) (k : Int) (v : ByteArray) : setI m k v = match m.findIdx? (fun p => p.1 == k) with | some j => m.modify j fun _ => (k, v) | none => m ++ [(k, v)] := by
  induction m with
  | nil => rfl
  | cons p m ih =>
    rw [List.findIdx?_cons, setI]
    cases hp : (p.1 == k) with
    | true => simp
    | false =>
      simp only [Bool.false_eq_true, if_false]
      rw [ih]
      cases m.findIdx? (fun p => p.1 == k) <;> simp
theorem delI_idx (m : IS) (k : Int) : delI m k = match m.findIdx? (fun p => p.1 == k) with | some j => m.eraseIdx j | none => m := by
  induction m with
  | nil => rfl
  | cons p m ih =>
    rw [List.findIdx?_cons, delI]
    cases hp : (p.1 == k) with
    | true => simp
    | false =>
      simp only [Bool.false_eq_true, if_false]
      rw [ih]
      cases m.findIdx? (fun p => p.1 == k) <;> simp

theorem run_getMap {es : Array MapEntry} {clk : Nat} (hb : w.heap[mb]? = some (.map es clk)) : (getObj mb).run P w = .ok (.map es clk) w := by simp [getObj, Sem.run, hb]
theorem run_setMap {es : Array MapEntry} {clk : Nat} (hb : w.heap[mb]? = some (.map es clk)) (o : Obj) : (setObj mb o).run P w = .ok () (w.putObj mb o) := by simp [setObj, Sem.run, hb, World.putObj]
theorem mapAt_put {es : Array MapEntry} {clk : Nat} (hb : mb < w.heap.size) (h : es.toList.map kvE = m.map kvP) (hs : MapKept.Stamped es clk) : MapAt (w.putObj mb (.map es clk)) mb m :=
  ⟨es, clk, World.putObj_heap_same hb, h, hs⟩
theorem findIdx_lt {m : IS} {k : Int} {j : Nat} (h : m.findIdx? (fun p => p.1 == k) = some j) : ∃ p, m[j]? = some p ∧ p.1 = k := by
  rw [List.findIdx?_eq_some_iff_getElem] at h
  obtain ⟨hj, hp, _⟩ := h
  exact ⟨m[j], by simp [hj], by simpa using hp⟩
theorem run_mapUpdate_is (hT : P.underlying T = some (.map K E)) (hK : P.underlying K = some (.int .i64)) (h : MapAt w mb m) (k : Int) (v : ByteArray) :
    ∃ o, (Instr.mapUpdate T (.map (some mb)) (.int .i64 k) (.string v)).run P w = .ok () (w.putObj mb o) ∧ MapAt (w.putObj mb o) mb (setI m k v) := by
  obtain ⟨es, clk, hb, he, hst⟩ := h
  have hlt := lt_of_heap hb
  unfold Instr.mapUpdate
  simp only [Sem.run_bind, run_underlying hT, Result.andThen_ok, run_getMap hb, run_checkKey_is hK, run_findKey_is hK he]
  rw [setI_idx]
  cases hf : m.findIdx? (fun p => p.1 == k) with
  | none =>
    simp only [Option.bind_none, Sem.run_bind, run_setMap hb]
    refine ⟨_, rfl, mapAt_put hlt (by simp [he, kvE, kvP]) (MapKept.stamped_push hst fun x hx hxk => ?_)⟩
    have hm : kvE x ∈ es.toList.map kvE := List.mem_map.2 ⟨x, hx, rfl⟩
    rw [he] at hm
    obtain ⟨p, hp, hpx⟩ := List.mem_map.1 hm
    have h1 : Value.int .i64 p.1 = x.key := congrArg Prod.fst hpx
    rw [hxk] at h1
    have h2 : p.1 = k := by injection h1
    rw [List.findIdx?_eq_none_iff] at hf
    have := hf p hp
    simp [h2] at this
  | some j =>
    obtain ⟨p, hj, hp⟩ := findIdx_lt hf
    have hkey : (es[j]?).map (·.key) = some (.int .i64 k) := by
      have := congrArg (fun l : List (Value × Value) => l[j]?) he
      simp only [List.getElem?_map, Array.getElem?_toList, hj] at this
      cases hes : es[j]? with
      | none => simp [hes] at this
      | some x => simp [hes, kvE, kvP] at this; simp [this.1, hp]
    simp only [Option.bind_some, hj, Option.map_some, Sem.run_bind, hkey, Option.getD_some, Instr.keyThatStays]
    simp only [Instr.sameBits, BEq.rfl, Bool.and_self, if_true, Sem.run_pure, Result.andThen_ok, run_setMap hb]
    refine ⟨_, rfl, mapAt_put hlt ?_ (MapKept.stamped_modify hst _ _ (fun _ _ => rfl) (fun e _ he1 => by rw [he1] at hkey; simp at hkey; exact hkey.symm))⟩
    apply List.ext_getElem?
    intro i
    have := congrArg (fun l : List (Value × Value) => l[i]?) he
    simp only [List.getElem?_map, Array.getElem?_toList] at this
    simp only [List.getElem?_map, Array.getElem?_toList, Array.getElem?_modify, List.getElem?_modify]
    by_cases hij : j = i
    · subst hij; simp only [if_true, hj] at *
      cases hes : es[j]? with
      | none => simp [hes] at this
      | some x => simp [kvE, kvP]
    · simp only [hij, if_false]; simpa using this
theorem run_delete_is (hT : P.underlying T = some (.map K E)) (hK : P.underlying K = some (.int .i64)) (h : MapAt w mb m) (k : Int) (ty K2 : TypeId) :
    ∃ o, (Builtin.delete_ #[T, K2] ty #[.map (some mb), .int .i64 k]).run P w = .ok (.tuple #[]) (w.putObj mb o) ∧ MapAt (w.putObj mb o) mb (delI m k) := by
  obtain ⟨es, clk, hb, he, hst⟩ := h
  have hlt := lt_of_heap hb
  unfold Builtin.delete_
  simp only [List.getElem?_toArray, List.getElem?_cons_zero, List.getElem?_cons_succ, Sem.run_bind, run_underlying hT, Result.andThen_ok, run_getMap hb, run_checkKey_is hK, run_findKey_is hK he]
  rw [delI_idx]
  cases hf : m.findIdx? (fun p => p.1 == k) with
  | none =>
    exact ⟨.map es clk, by simp only [Option.bind_none, Sem.run_bind, run_setMap hb, Result.andThen_ok, Sem.run_pure], mapAt_put hlt he hst⟩
  | some j =>
    obtain ⟨p, hj, hp⟩ := findIdx_lt hf
    refine ⟨.map (es.eraseIdxIfInBounds j) clk, by simp only [Option.bind_some, hj, Option.map_some, Sem.run_bind, run_setMap hb, Result.andThen_ok, Sem.run_pure], mapAt_put hlt ?_ (MapKept.stamped_erase hst _)⟩
    have : es.size = m.length := by simpa using congrArg List.length he
    have hjl : j < es.size := by rw [this]; exact (List.getElem?_eq_some_iff.1 hj).1
    simp only [Array.eraseIdxIfInBounds, hjl, dif_pos, Array.toList_eraseIdx]
    apply List.ext_getElem?
    intro i
    have h1 := congrArg (fun l : List (Value × Value) => l[i]?) he
    have h2 := congrArg (fun l : List (Value × Value) => l[i + 1]?) he
    simp only [List.getElem?_map] at h1 h2
    simp only [List.getElem?_map, List.getElem?_eraseIdx]
    split
    · exact h1
    · exact h2
end
end Go.Proofs.Ytgmggmpkbfljfaa
