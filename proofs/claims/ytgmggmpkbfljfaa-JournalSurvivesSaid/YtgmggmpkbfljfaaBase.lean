/- Small laws that the proofs of this seat share: what a call leaves alone, blocks and stores, regions whose order is open, maps from int to string. -/
import Derived.Test.YtgmggmpkbfljfaaRows
import Derived.WalkKit
import Derived.WalkLawsBesides
import Derived.WalkSpells
import Derived.ProofKit
import Derived.OpenShut
import Derived.Handy
import Derived.BigQuiet
import Derived.Lib.Hide
import Derived.Deep.AppendSrc
import Derived.Lib.Builder
import Derived.Lib.AppendStr
import Derived.Lib.UnsafeStr
import Derived.Lib.Walk
import Derived.Lib.Strings
import Derived.Laws.Externs
set_option linter.unusedVariables false
set_option linter.unusedSimpArgs false
namespace Go.Proofs.Ytgmggmpkbfljfaa
open Go.RowKit

/-- What a call leaves alone: every old block outside the list F. -/
structure Keep (F : List Nat) (w w' : World) : Prop where
  os : w'.os = w.os
  tape : w'.tape = w.tape
  output : w'.output = w.output
  size : w.heap.size ≤ w'.heap.size
  block : ∀ k, k < w.heap.size → k ∉ F → w'.heap[k]? = w.heap[k]?

theorem lt_of_heap {w : World} {k : Nat} {o : Obj} (h : w.heap[k]? = some o) : k < w.heap.size := (Array.getElem?_eq_some_iff.1 h).1
theorem Keep.refl (F : List Nat) (w : World) : Keep F w w := ⟨rfl, rfl, rfl, Nat.le_refl _, fun _ _ _ => rfl⟩
theorem Keep.trans {F G : List Nat} {a b c : World} (h : Keep F a b) (k : Keep G b c) (hG : ∀ x ∈ G, x ∈ F ∨ a.heap.size ≤ x) : Keep F a c :=
  ⟨k.os.trans h.os, k.tape.trans h.tape, k.output.trans h.output, Nat.le_trans h.size k.size, fun i hi hn =>
    (k.block i (Nat.lt_of_lt_of_le hi h.size) (fun hm => by rcases hG i hm with h1 | h1 <;> first | exact hn h1 | omega)).trans (h.block i hi hn)⟩
theorem Keep.mono {F G : List Nat} {a b : World} (h : Keep F a b) (hG : ∀ x ∈ F, x ∈ G) : Keep G a b :=
  ⟨h.os, h.tape, h.output, h.size, fun i hi hn => h.block i hi (fun hm => hn (hG i hm))⟩
theorem Keep.heap {F : List Nat} {w w' : World} (h : Keep F w w') {k : Nat} {o : Obj} (hk : w.heap[k]? = some o) (hn : k ∉ F) : w'.heap[k]? = some o :=
  (h.block k (lt_of_heap hk) hn).trans hk
theorem Keep.of_below {F : List Nat} {w w' : World} (h : Below w.heap.size w w') : Keep F w w' :=
  ⟨h.os, h.tape, h.output, h.size, fun k hk _ => h.block k hk⟩
theorem Keep.below {F : List Nat} {w w' : World} {B : Nat} (h : Keep F w w') (hF : ∀ x ∈ F, B ≤ x) (hB : B ≤ w.heap.size) : Below B w w' :=
  ⟨h.os, h.tape, h.output, h.size, fun k hk => h.block k (by omega) (fun hm => by have := hF k hm; omega)⟩
theorem Keep.below0 {w w' : World} (h : Keep [] w w') : Below w.heap.size w w' := h.below (by simp) (Nat.le_refl _)
theorem Keep.drew (F : List Nat) (w : World) : Keep F w w.drew := ⟨rfl, rfl, rfl, Nat.le_refl _, fun _ _ _ => rfl⟩
theorem Keep.drewN (F : List Nat) (w : World) (n : Nat) : Keep F w (w.drewN n) := ⟨rfl, rfl, rfl, Nat.le_refl _, fun _ _ _ => rfl⟩
theorem Keep.alloc (F : List Nat) (w : World) (o : Obj) : Keep F w (w.alloc o) :=
  ⟨rfl, rfl, rfl, by simp, fun k hk _ => Below.heap_alloc w o k hk⟩
theorem Keep.setCell (F : List Nat) (w : World) (b i : Nat) (v : Value) (hb : b ∈ F ) : Keep F w (w.setCell ⟨b, i, none⟩ v) :=
  ⟨rfl, rfl, rfl, by simp [World.setCell], fun k hk hn => Below.heap_setCell w _ v k (fun e => hn (by rw [e]; exact hb))⟩
theorem Keep.grown {F : List Nat} {w w' : World} {row : Option Nat} (hg : w.grownBy w' row) (hr : ∀ k, row = some k → k ∈ F) : Keep F w w' :=
  ⟨hg.os, hg.tape, hg.output, hg.size, fun k hk hn => hg.block k hk (fun e => hn (hr k e.symm))⟩

theorem Keep.grownPast {F : List Nat} {w a a' : World} {row : Option Nat} (h : Keep F w a) (hg : a.grownBy a' row) (hr : ∀ k, row = some k → w.heap.size ≤ k) : Keep F w a' :=
  ⟨hg.os.trans h.os, hg.tape.trans h.tape, hg.output.trans h.output, Nat.le_trans h.size hg.size, fun k hk hn =>
    (hg.block k (Nat.lt_of_lt_of_le hk h.size) (fun e => by have := hr k e.symm; omega)).trans (h.block k hk hn)⟩
theorem Keep.allocPast {F : List Nat} {w a : World} (h : Keep F w a) (o : Obj) : Keep F w (a.alloc o) := h.trans (Keep.alloc [] a o) (by simp)
theorem Keep.drewPast {F : List Nat} {w a : World} (h : Keep F w a) : Keep F w a.drew := h.trans (Keep.drew [] a) (by simp)
theorem Keep.setPast {F : List Nat} {w a : World} (h : Keep F w a) (b i : Nat) (v : Value) (hb : w.heap.size ≤ b) : Keep F w (a.setCell ⟨b, i, none⟩ v) :=
  h.trans (Keep.setCell [b] a b i v (by simp)) (fun x hx => by simp at hx; omega)
theorem Keep.belowPast {F : List Nat} {w a a' : World} (h : Keep F w a) (hb : Below a.heap.size a a') : Keep F w a' := h.trans (Keep.of_below (F := []) hb) (by simp)

theorem cell_of {w : World} {b : Nat} {cs : Array Value} {t : TypeId} {f : Nat × Nat} (h : w.heap[b]? = some (.cells cs t f)) (i : Nat) : w.cell? ⟨b, i, none⟩ = cs[i]? := by
  simp [World.cell?, h]
theorem frozen_of {w : World} {b : Nat} {cs : Array Value} {t : TypeId} (h : w.heap[b]? = some (.cells cs t (0, 0))) (i : Nat) : w.frozen? ⟨b, i, none⟩ = false := by
  simp [World.frozen?, h]
theorem set_same {w : World} {b : Nat} {cs : Array Value} {t : TypeId} {f : Nat × Nat} (h : w.heap[b]? = some (.cells cs t f)) (i : Nat) (v : Value) :
    (w.setCell ⟨b, i, none⟩ v).heap[b]? = some (.cells (cs.setIfInBounds i v) t f) := by
  simp [World.setCell, Array.getElem?_modify, h]
theorem set_other {w : World} {b k : Nat} (i : Nat) (v : Value) (h : k ≠ b) : (w.setCell ⟨b, i, none⟩ v).heap[k]? = w.heap[k]? := Below.heap_setCell w _ v k h

/-- A pure call: whatever the memory, it hands back v, and turns nothing that was there. -/
def Pure (P : Program) (f : Nat) (args : Array Value) (v : Value) : Prop := ∀ w : World, Calls P f args w fun e w' => e = .returned v ∧ Below w.heap.size w w'

/-! ### regions that draw their order: operations that only read and pure calls -/
section
variable {P : Program} {ops : Array Oper} {C : World → Prop} {Q : Act → Prop} {a : Act} {o : Oper} {rest : List Oper}
theorem wp_region_pure {id : Nat} {l : List Oper} {Q : Exit → Act → World → Prop} {a : Act} {w : World} (hm : P.follows .mixedOrders = true) (hB : Region.lexB .any l.toArray = true)
    (h : wpQuiet P l.toArray (fun w' => Below w.heap.size w w') (fun a' => ∀ w', Below w.heap.size w w' → Q .normal a' w') l a) : (Code.region id l.toArray true).wp P Q a w :=
  wp_region_quiet (C := fun w' => Below w.heap.size w w') hm hB ((Below.refl _ w).drew) (by simpa using h)
theorem wq_val {v : Value} (hg : o.guard = none) (hr : ∀ w : World, (execOp a.eval o).run P w = .ok (.value v) w) (h : wpQuiet P ops C Q rest (a.put o.dst v)) : wpQuiet P ops C Q (o :: rest) a :=
  wpQuiet_step fun K hK => by
    simp only [Region.wanted, hg, if_true]
    exact ⟨v, fun w _ => by unfold Oper.quietAt; rw [hr w]; exact ⟨rfl, rfl⟩, hK _ h⟩
theorem wq_read {v : Value} (hg : o.guard = none) (hr : ∀ w : World, C w → (execOp a.eval o).run P w = .ok (.value v) w) (h : wpQuiet P ops C Q rest (a.put o.dst v)) : wpQuiet P ops C Q (o :: rest) a :=
  wpQuiet_step fun K hK => by
    simp only [Region.wanted, hg, if_true]
    exact ⟨v, fun w hw => by unfold Oper.quietAt; rw [hr w hw]; exact ⟨rfl, rfl⟩, hK _ h⟩
theorem wq_pure {w0 : World} {f : Nat} {args : Array Value} {v : Value} (hg : o.guard = none) (hr : ∀ w : World, (execOp a.eval o).run P w = .ok (.enter f args) w) (hp : Pure P f args v)
    (h : wpQuiet P ops (fun w' => Below w0.heap.size w0 w') Q rest (a.put o.dst v)) : wpQuiet P ops (fun w' => Below w0.heap.size w0 w') Q (o :: rest) a :=
  wpQuiet_step fun K hK => by
    simp only [Region.wanted, hg, if_true]
    refine ⟨v, fun w hw => ?_, hK _ h⟩
    unfold Oper.quietAt; rw [hr w]
    exact ⟨rfl, (hp w).mono fun e w' h => ⟨h.1, hw.trans (h.2.mono hw.size)⟩⟩
end

/-! ### append onto a slice of the call's own: where the new slice lies -/
section
variable {P : Program} (w : World)
theorem run_append_own2 (t ty e : TypeId) (i : TypeInfo) (z : Value) (size bytes : Nat) (ht : P.underlying t = some (.slice e)) (hi : P.info? e = some i) (hz : i.zero = some z)
    (hsize : i.size = size) (hby : i.bytes = bytes) (hzs : z.cells.size = size) (hsz : 0 < size)
    (v : Value) (n : Nat) (xs : List Value) (hown : w.ownsRow 0 e size v n xs)
    (a : Addr) (m c : Nat) (news : List Value) (hl : news.length = m * size) (hnews : ∀ j u, news[j]? = some u → w.cell? (a.add j) = some u) (h1 : ∀ u ∈ news, u.oneCell' = true)
    (hm : 0 < m) (h63 : n + m ≤ maxLen) (hbytes : (n + m) * bytes ≤ 140737488355328) :
    ∃ g cap w', (Builtin.append_ #[t, t] ty #[v, .slice (some a) m c]).run P w = .ok (.slice (some ⟨g, 0, none⟩) (n + m) cap) w' ∧ w'.ownsRow 0 e size (.slice (some ⟨g, 0, none⟩) (n + m) cap) (n + m) (xs ++ news) ∧ w.grownBy w' v.ownBlock ∧
      (some g = v.ownBlock ∨ w.heap.size ≤ g) := by
  obtain ⟨v', w', hr, ho, hg, _⟩ := run_append_own (P := P) w 0 t ty e i z size bytes ht hi hz hsize hby hzs hsz v n xs hown a m c news hl hnews h1 h63 hbytes (Nat.zero_le _)
  subst hsize
  subst hby
  have hsmall : n + m ≤ 9223372036854775807 := by simp only [maxLen] at h63; omega
  have fin : ∀ g cap w'', (Builtin.append_ #[t, t] ty #[v, .slice (some a) m c]).run P w = .ok (.slice (some ⟨g, 0, none⟩) (n + m) cap) w'' → (some g = v.ownBlock ∨ w.heap.size ≤ g) →
      ∃ g cap w', (Builtin.append_ #[t, t] ty #[v, .slice (some a) m c]).run P w = .ok (.slice (some ⟨g, 0, none⟩) (n + m) cap) w' ∧ w'.ownsRow 0 e i.size (.slice (some ⟨g, 0, none⟩) (n + m) cap) (n + m) (xs ++ news) ∧ w.grownBy w' v.ownBlock ∧
      (some g = v.ownBlock ∨ w.heap.size ≤ g) := by
    intro g cap w'' h1 h2
    have h3 := h1
    rw [hr] at h3
    injection h3 with h3 h4
    subst h3; subst h4
    exact ⟨g, cap, _, h1, ho, hg, h2⟩
  rcases hown.2 with ⟨rfl, rfl⟩ | ⟨g, cap, cur, rfl, hbg, hgg, hnc, hcm, hcs, htake⟩
  · have hx : xs = [] := List.eq_nil_of_length_eq_zero (by simpa using hown.1)
    subst hx
    have hr2 := run_append_nil (P := P) w t ty e i z ht hi hz a m c news hl hnews (by omega) (by omega) (by have hb := hbytes; simp only [Nat.zero_add] at hb; omega)
    exact fin _ _ _ (by rw [hr2, Nat.zero_add]) (.inr (Nat.le_refl _))
  · by_cases hroom : n + m ≤ cap
    · have hfit : n * i.size + news.length ≤ cur.size := by rw [hl, hcs, ← Nat.add_mul]; exact Nat.mul_le_mul_right _ hroom
      exact fin _ _ _ (run_append_room (P := P) w t ty e i ht hi g n cap cur hgg a m c news hl hnews h1 hroom hfit) (.inl rfl)
    · have holds : ∀ j u, xs[j]? = some u → w.cell? ((⟨g, 0, none⟩ : Addr).add j) = some u := hown.cells (g := g) rfl
      exact fin _ _ _ (run_append_grow (P := P) w t ty e i z ht hi hz ⟨g, 0, none⟩ n cap xs hown.1 holds a m c news hl hnews (by omega) (by omega) (growslice_fits (by omega) hbytes)) (.inr (Nat.le_refl _))
theorem wpList_append2 {ops : Array Oper} {rest : List Oper} {o : Oper} {a : Act} {Q : Exit → Act → World → Prop} (hgd : o.guard = none) (s x : Operand) (t : TypeId)
    (ho : o.op = .call { callee := .builtin .append, args := #[s, x], argTypes := #[t, t] })
    (e : TypeId) (i : TypeInfo) (z : Value) (size bytes : Nat) (ht : P.underlying t = some (.slice e)) (hi : P.info? e = some i) (hz : i.zero = some z)
    (hsize : i.size = size) (hby : i.bytes = bytes) (hzs : z.cells.size = size) (hsz : 0 < size)
    (v : Value) (n : Nat) (xs : List Value) (hs : a.eval s = v) (hown : w.ownsRow 0 e size v n xs)
    (ad : Addr) (m c : Nat) (news : List Value) (hx : a.eval x = .slice (some ad) m c) (hl : news.length = m * size) (hnews : ∀ j u, news[j]? = some u → w.cell? (ad.add j) = some u) (h1 : ∀ u ∈ news, u.oneCell' = true)
    (hm : 0 < m) (h63 : n + m ≤ maxLen) (hbytes : (n + m) * bytes ≤ 140737488355328)
    (h : ∀ g cap w', w'.ownsRow 0 e size (.slice (some ⟨g, 0, none⟩) (n + m) cap) (n + m) (xs ++ news) → w.grownBy w' v.ownBlock → (some g = v.ownBlock ∨ w.heap.size ≤ g) → wpList P ops Q rest (a.put o.dst (.slice (some ⟨g, 0, none⟩) (n + m) cap)) w') : wpList P ops Q (o :: rest) a w := by
  refine wpList_plain hgd fun K hK => ?_
  obtain ⟨g, cap, w', hr, h2, h3, h4⟩ := run_append_own2 (P := P) w t o.type e i z size bytes ht hi hz hsize hby hzs hsz v n xs hown ad m c news hl hnews h1 hm h63 hbytes
  unfold Oper.wp execOp
  simp only [ho, resolve, invoke, builtin, Sem.run_bind, Sem.run_pure, Result.andThen_ok, List.map_toArray, List.map_cons, List.map_nil, hs, hx, hr]
  exact hK _ _ (h g cap w' h2 h3 h4)
end
end Go.Proofs.Ytgmggmpkbfljfaa
