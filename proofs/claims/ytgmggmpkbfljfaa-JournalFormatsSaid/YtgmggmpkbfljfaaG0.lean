/- Rows that are only read; the bytes of a group and of a page. -/
import Derived.Test.YtgmggmpkbfljfaaE3
set_option linter.unusedVariables false
set_option linter.unusedSimpArgs false
set_option maxRecDepth 100000
namespace Go.Proofs.Ytgmggmpkbfljfaa
open Go.RowKit
/-- A row of one-cell values at some place, that is only read. -/
def RowR (w : World) (sv : Value) (xs : List Value) : Prop :=
  (sv = .slice none 0 0 ∧ xs = []) ∨ ∃ g o c, sv = .slice (some ⟨g, o, none⟩) xs.length c ∧ g < w.heap.size ∧ ∀ i v, xs[i]? = some v → w.cell? ⟨g, o + i, none⟩ = some v
def rowF : Value → List Nat
  | .slice (some a) _ _ => [a.block]
  | _ => []
theorem cell_same {w w' : World} {a : Addr} (h : w'.heap[a.block]? = w.heap[a.block]?) : w'.cell? a = w.cell? a := by
  unfold World.cell?; rw [h]
theorem RowR.keep {w w' : World} {sv : Value} {xs : List Value} {G : List Nat} (h : RowR w sv xs) (hk : Keep G w w') (hd : ∀ x ∈ rowF sv, x ∉ G) : RowR w' sv xs := by
  rcases h with h | ⟨g, o, c, rfl, hg, hc⟩
  · exact .inl h
  · refine .inr ⟨g, o, c, rfl, Nat.lt_of_lt_of_le hg hk.size, fun i v hi => ?_⟩
    rw [cell_same (w := w) (hk.block g hg (hd g (by simp [rowF])))]
    exact hc i v hi
theorem RowR.keep0 {w w' : World} {sv : Value} {xs : List Value} (h : RowR w sv xs) (hk : Keep [] w w') : RowR w' sv xs := h.keep hk (by simp)
theorem RowR.lt {w : World} {sv : Value} {xs : List Value} (h : RowR w sv xs) : ∀ x ∈ rowF sv, x < w.heap.size := by
  rcases h with ⟨rfl, _⟩ | ⟨g, o, c, rfl, hg, hc⟩
  · simp [rowF]
  · simpa [rowF] using hg
theorem RowR.form {w : World} {sv : Value} {xs : List Value} (h : RowR w sv xs) : ∃ ao c, sv = .slice ao xs.length c := by
  rcases h with ⟨rfl, rfl⟩ | ⟨g, o, c, rfl, hg, hc⟩
  · exact ⟨_, _, rfl⟩
  · exact ⟨_, _, rfl⟩
theorem RowR.elem {w : World} {sv : Value} {xs : List Value} (h : RowR w sv xs) (hn : 0 < xs.length) : ∃ g o c, sv = .slice (some ⟨g, o, none⟩) xs.length c ∧ ∀ i v, xs[i]? = some v → w.cell? ⟨g, o + i, none⟩ = some v := by
  rcases h with ⟨rfl, rfl⟩ | ⟨g, o, c, rfl, hg, hc⟩
  · simp at hn
  · exact ⟨g, o, c, rfl, hc⟩
theorem RowR.of_own {w : World} {e : TypeId} {v : Value} {n : Nat} {xs : List Value} (h : w.ownsRow 0 e 1 v n xs) : RowR w v xs := by
  have hl : xs.length = n := by have := h.1; omega
  rcases h.2 with ⟨rfl, h0⟩ | ⟨g, cap, cur, rfl, hb, hgg, _⟩
  · left; exact ⟨rfl, List.eq_nil_of_length_eq_zero (by omega)⟩
  · right
    refine ⟨g, 0, cap, by rw [hl], lt_of_heap hgg, fun i v hi => ?_⟩
    have := h.cells (g := g) rfl i v hi
    rwa [Addr.add_lit] at this
def scells (l : List ByteArray) : List Value := l.map .string
theorem scells_length (l : List ByteArray) : (scells l).length = l.length := by simp [scells]
theorem scells_snoc (l : List ByteArray) (x : ByteArray) : scells l ++ [.string x] = scells (l ++ [x]) := by simp [scells]
theorem scells_get (l : List ByteArray) (i : Nat) (h : i < l.length) : (scells l)[i]? = some (.string l[i]) := by simp [scells, h]
/-! ### the bytes -/
def catS : List ByteArray → ByteArray
  | [] => ⟨#[]⟩
  | s :: l => s ++ catS l
theorem catS_snoc (l : List ByteArray) (s : ByteArray) : catS (l ++ [s]) = catS l ++ s := by
  induction l with
  | nil => show s ++ ByteArray.empty = ByteArray.empty ++ s; simp
  | cons x l ih => show x ++ catS (l ++ [s]) = x ++ catS l ++ s; rw [ih, ByteArray.append_assoc]
theorem catS_app (l m : List ByteArray) : catS (l ++ m) = catS l ++ catS m := by
  induction l with
  | nil => show catS m = ByteArray.empty ++ catS m; simp
  | cons x l ih => show x ++ catS (l ++ m) = x ++ catS l ++ catS m; rw [ih, ByteArray.append_assoc]
def lenS (r : ByteArray) : ByteArray := numS r.size 4
theorem take_succ_get {α : Type} (l : List α) (k : Nat) (h : k < l.length) : l.take (k + 1) = l.take k ++ [l[k]] := by
  rw [List.take_add_one, List.getElem?_eq_getElem h]; rfl
def sumS (l : List ByteArray) : Nat := (l.map (·.size)).sum
theorem catS_size (l : List ByteArray) : (catS l).size = sumS l := by
  induction l with
  | nil => rfl
  | cons x l ih => show (x ++ catS l).size = _; rw [ByteArray.size_append, ih]; rfl
theorem lens_size (l : List ByteArray) : (catS (l.map lenS)).size = 4 * l.length := by
  induction l with
  | nil => rfl
  | cons x l ih => show (lenS x ++ catS (l.map lenS)).size = _; rw [ByteArray.size_append, ih, lenS, numS_size, List.length_cons]; omega
theorem sumS_le (l : List ByteArray) (h : ∀ s ∈ l, s.size ≤ 16384) : sumS l ≤ 16384 * l.length := by
  induction l with
  | nil => simp [sumS]
  | cons x l ih =>
    have h1 := ih fun s hs => h s (List.mem_cons_of_mem _ hs)
    have h2 := h x (List.mem_cons_self ..)
    show x.size + sumS l ≤ _
    rw [List.length_cons]; omega
theorem sumS_take (l : List ByteArray) (k : Nat) : sumS (l.take k) ≤ sumS l := by
  have := congrArg sumS (List.take_append_drop k l)
  unfold sumS at *
  rw [List.map_append, List.sum_append] at this
  omega
theorem sumS_snoc (l : List ByteArray) (s : ByteArray) : sumS (l ++ [s]) = sumS l + s.size := by simp [sumS]
/-- What stands ahead of the records. -/
def headS (n : Nat) (l : List ByteArray) : ByteArray := numS n 8 ++ numS l.length 4 ++ catS (l.map lenS)
def rawS (n : Nat) (l : List ByteArray) : ByteArray := headS n l ++ catS l
def encS (n : Nat) (l : List ByteArray) : ByteArray := padS (rawS n l)
theorem headS_size (n : Nat) (l : List ByteArray) : (headS n l).size = 12 + 4 * l.length := by unfold headS; rw [ByteArray.size_append, ByteArray.size_append, numS_size, numS_size, lens_size]
theorem rawS_size (n : Nat) (l : List ByteArray) : (rawS n l).size = 12 + 4 * l.length + sumS l := by unfold rawS; rw [ByteArray.size_append, headS_size, catS_size]
def secsN (l : List ByteArray) : Nat := (12 + 4 * l.length + sumS l + 127) / 128
theorem padS_size (s : ByteArray) : (padS s).size = (s.size + 127) / 128 * 128 := by
  unfold padS padN
  rw [ByteArray.size_append, zerosS_size]; omega
theorem encS_size (n : Nat) (l : List ByteArray) : (encS n l).size = secsN l * 128 := by unfold encS secsN; rw [padS_size, rawS_size]
def magicS : ByteArray := ⟨#[86, 71, 74, 49]⟩
def pageS (g f p k : Nat) : ByteArray := padS (magicS ++ numS g 8 ++ numS f 8 ++ numS p 8 ++ numS k 4)
end Go.Proofs.Ytgmggmpkbfljfaa
