/- The numbers and operations that a statement is handed, as they lie in memory. -/
import Derived.Test.YtgmggmpkbfljfaaLv
import Derived.Deep.Slices
import Derived.Lib.SmallJoins
set_option linter.unusedVariables false
set_option linter.unusedSimpArgs false
set_option maxRecDepth 100000
namespace Go.Proofs.Ytgmggmpkbfljfaa
open Go.RowKit
open Go.ChangeShapes Go.WideShapes Go.ChangeAt

theorem mapM_get {α β : Type} (f : α → Option β) : ∀ (l : List α) (cs : List β), l.mapM f = some cs → cs.length = l.length ∧ ∀ (i : Nat) (x : α), l[i]? = some x → f x = cs[i]?
  | [], cs, h => by
    simp at h; subst h; exact ⟨rfl, fun i x hx => by simp at hx⟩
  | x :: l, cs, h => by
    rw [List.mapM_cons] at h
    simp only [Option.bind_eq_bind, Option.pure_def, Option.bind_eq_some_iff] at h
    obtain ⟨y, hy, ys, hys, h⟩ := h
    simp at h; subst h
    obtain ⟨h1, h2⟩ := mapM_get f l ys hys
    refine ⟨by simp [h1], fun i z hz => ?_⟩
    cases i with
    | zero => simp at hz; subst hz; simpa using hy
    | succ i => simp at hz ⊢; exact h2 i z hz
theorem cells?_get {w : World} {base n : Nat} {a : Addr} {cs : List Value} (h : w.cells? base a n = some cs) : cs.length = n ∧ ∀ i, i < n → w.cell? (a.add i) = cs[i]? := by
  unfold World.cells? at h
  split at h
  · obtain ⟨h1, h2⟩ := mapM_get _ _ _ h
    exact ⟨by simpa using h1, fun i hi => h2 i i (by rw [List.getElem?_range hi])⟩
  · cases h
theorem plain_of_cell {w : World} {a : Addr} {v : Value} (h : w.cell? a = some v) : ∃ b off, a = ⟨b, off, none⟩ := by
  obtain ⟨b, off, sp⟩ := a
  cases sp with
  | none => exact ⟨b, off, rfl⟩
  | some x => simp [World.cell?] at h; split at h <;> simp at h
theorem add_plain (b off j : Nat) : (⟨b, off, none⟩ : Addr).add j = ⟨b, off + j, none⟩ := by unfold Addr.add; split <;> simp_all

section
variable {H : Type} {enc : TypeId × Value → H} {w : World} {base : Nat} {held : Bool} {fuel : Nat}
/-- A row of uint16. -/
def U16At (w : World) (sv : Value) (zs : List Nat) : Prop :=
  (∃ a cap, sv = .slice a 0 cap ∧ zs = []) ∨
  ∃ b o cap, sv = .slice (some ⟨b, o, none⟩) zs.length cap ∧ zs.length ≤ maxLen ∧ ∀ i (h : i < zs.length), zs[i] ≤ 65535 ∧ w.cell? ⟨b, o + i, none⟩ = some (.int .u16 zs[i])
theorem u16_trod {cs : List Value} {x : DataW H × List MemPlace} (h : DataW.trod enc Try.prog w base (fun _ => true) held fuel 35 cs = some x) :
    ∃ sv zs, cs = [sv] ∧ U16At w sv zs := by
  rcases open_ints Try.underlying35 Try.underlying38 (by kernel_rfl) h with ⟨hcs, _⟩ | ⟨a, len, cap, zs, hcs, _, hl, hm, hz, _, hcell, hwz⟩
  · exact ⟨_, [], hcs, .inl ⟨none, 0, rfl, rfl⟩⟩
  · have hle : len ≤ zs.length := by rw [hz]; simp; omega
    by_cases h0 : len = 0
    · subst h0
      exact ⟨_, [], hcs, .inl ⟨_, cap, rfl, rfl⟩⟩
    · have h1 := hcell 0 (by omega)
      obtain ⟨b, off, hp⟩ := plain_of_cell h1
      have ha : a = ⟨b, off, none⟩ := by unfold Addr.add at hp; simpa using hp
      subst ha
      refine ⟨_, (zs.take len).map Int.toNat, hcs, .inr ⟨b, off, cap, by simp [Nat.min_eq_left hle], by simp; omega, fun i hi => ?_⟩⟩
      have hil : i < len := by simp at hi; omega
      have hiz : i < zs.length := by omega
      have hb := bounds_u16 (hwz zs[i] (List.getElem_mem hiz))
      have hc := hcell i hiz
      rw [add_plain, List.getD_eq_getElem?_getD, List.getElem?_eq_getElem hiz] at hc
      simp only [Option.getD_some] at hc
      refine ⟨?_, ?_⟩
      · simp; omega
      · rw [hc]; simp [Int.toNat_of_nonneg hb.1]
end
def U16Arg (w : World) (v : Value) : Prop := ∃ zs, U16At w v zs
theorem U16Arg_open {H : Type} {enc : TypeId × Value → H} {W : World} {v : Value} {base : Nat} {d : DataW H} {p : List MemPlace} (hv : Value.okWide Try.prog W .any base 35 v)
    (h : ∃ m, DataW.trod enc Try.prog W 0 (fun _ => true) true m 35 v.cells.toList = some (d, p)) : U16Arg W v := by
  obtain ⟨a, len, cap, rfl⟩ := okWide_slice Try.underlying35 hv
  obtain ⟨m, hm⟩ := h
  obtain ⟨sv, zs, e, hb⟩ := u16_trod hm
  simp [Value.cells] at e
  subst e
  exact ⟨zs, hb⟩
theorem U16At.lt {w : World} {sv : Value} {zs : List Nat} (h : U16At w sv zs) : ∃ a n c, sv = .slice a n c ∧ n = zs.length ∧ n ≤ maxLen := by
  rcases h with ⟨a, cap, rfl, rfl⟩ | ⟨b, o, cap, rfl, hl, _⟩
  · exact ⟨a, 0, cap, rfl, by simp, by simp⟩
  · exact ⟨_, _, _, rfl, rfl, hl⟩
theorem U16At.elem {w : World} {a : Option Addr} {n c : Nat} {zs : List Nat} (h : U16At w (.slice a n c) zs) (i : Nat) (hi : i < n) : ∃ b o, a = some ⟨b, o, none⟩ ∧ ∃ z, z ≤ 65535 ∧ ∀ w', Keep [] w w' → w'.cell? ⟨b, o + i, none⟩ = some (.int .u16 (z : Nat)) := by
  rcases h with ⟨a', cap, e, rfl⟩ | ⟨b, o, cap, e, hl, hz⟩
  · injection e with _ e2 _; omega
  · have e1 : a = some ⟨b, o, none⟩ := by injection e
    have e2 : n = zs.length := by injection e
    obtain ⟨z1, z2⟩ := hz i (by omega)
    exact ⟨b, o, e1, zs[i], z1, fun w' hk => by rw [cell_same (w := w) (hk.block b (World.block_lt_of_cell? w _ z2) (by simp))]; exact z2⟩
/-- An operation of the journal. -/
structure OpJ where
  kind : Nat
  num : Int
  rcd : Nat
structure OpJ.ok (o : OpJ) : Prop where
  kind : o.kind ≤ 255
  num : -128 ≤ o.num ∧ o.num ≤ 127
  rcd : o.rcd ≤ 65535
def JOpsAt (w : World) (sv : Value) (os : List OpJ) : Prop :=
  (∃ a cap, sv = .slice a 0 cap ∧ os = []) ∨
  ∃ lb lo cap, sv = .slice (some ⟨lb, lo, none⟩) os.length cap ∧ os.length ≤ maxLen ∧ ∀ i (h : i < os.length), os[i].ok ∧
    w.cell? ⟨lb, lo + i * 3, none⟩ = some (.int .u8 os[i].kind) ∧ w.cell? ⟨lb, lo + i * 3 + 1, none⟩ = some (.int .i8 os[i].num) ∧ w.cell? ⟨lb, lo + i * 3 + 2, none⟩ = some (.int .u16 os[i].rcd)
theorem cells_JOp : Try.prog.cellsOf 64 = 3 := by kernel_rfl
theorem cells_u8 : Try.prog.cellsOf 5 = 1 := by kernel_rfl
theorem cells_i8 : Try.prog.cellsOf 62 = 1 := by kernel_rfl
theorem cells_u16 : Try.prog.cellsOf 38 = 1 := by kernel_rfl
section
variable {H : Type} {enc : TypeId × Value → H} {w : World} {base : Nat} {held : Bool} {fuel : Nat}
theorem jop_trod {cs : List Value} {x : DataW H × List MemPlace} (h : DataW.trod enc Try.prog w base (fun _ => true) held fuel 64 cs = some x) :
    ∃ o : OpJ, o.ok ∧ cs = [.int .u8 o.kind, .int .i8 o.num, .int .u16 o.rcd] := by
  obtain ⟨y0, y1, y2, n, _, hl, h0, h1, h2⟩ := Go.Deep.trod_struct3 Try.underlying64 h
  rw [cells_JOp] at hl
  match cs, hl with
  | [c0, c1, c2], _ =>
    dsimp only at h0 h1 h2
    rw [cells_u8] at h0
    rw [cells_i8] at h1
    rw [cells_u16] at h2
    obtain ⟨k, e0, _, w0⟩ := DataW.trod_int Try.underlying5 h0
    obtain ⟨s, e1, _, w1⟩ := DataW.trod_int Try.underlying62 h1
    obtain ⟨d, e2, _, w2⟩ := DataW.trod_int Try.underlying38 h2
    simp at e0 e1 e2
    subst e0; subst e1; subst e2
    have b0 := bounds_u8 w0
    have b2 := bounds_u16 w2
    exact ⟨⟨k.toNat, s, d.toNat⟩, ⟨by show k.toNat ≤ 255; omega, bounds_i8 w1, by show d.toNat ≤ 65535; omega⟩, by simp [Int.toNat_of_nonneg b0.1, Int.toNat_of_nonneg b2.1]⟩
theorem jops_trod {sv : Value} {x : DataW H × List MemPlace} (h : DataW.trod enc Try.prog w base (fun _ => true) held fuel 59 [sv] = some x) : ∃ os, JOpsAt w sv os := by
  rcases Go.Deep.open_slice Try.underlying59 h with ⟨hcs, _⟩ | ⟨a, len, cap, m, n, D, Pl, hcs, _, hl, hm, hmm, _, hel⟩
  · simp at hcs; exact ⟨[], .inl ⟨none, 0, hcs, rfl⟩⟩
  · simp at hcs hmm
    by_cases h0 : len = 0
    · subst h0; exact ⟨[], .inl ⟨_, cap, hcs, rfl⟩⟩
    · have hall : ∀ i, i < cap → ∃ o : OpJ, o.ok ∧ w.cells? base (a.add (i * 3)) 3 = some [.int .u8 o.kind, .int .i8 o.num, .int .u16 o.rcd] := by
        intro i hi
        obtain ⟨cs', h1, h2⟩ := hel i (by omega)
        rw [cells_JOp] at h1
        obtain ⟨o, h3, rfl⟩ := jop_trod h2
        exact ⟨o, h3, h1⟩
      have hfun : ∃ f : Nat → OpJ, ∀ i, i < cap → (f i).ok ∧ w.cells? base (a.add (i * 3)) 3 = some [.int .u8 (f i).kind, .int .i8 (f i).num, .int .u16 (f i).rcd] :=
        ⟨fun i => if h : i < cap then Classical.choose (hall i h) else ⟨0, 0, 0⟩, fun i hi => by simp only [hi, dif_pos]; exact Classical.choose_spec (hall i hi)⟩
      obtain ⟨f, hf⟩ := hfun
      have hc0 := (cells?_get (hf 0 (by omega)).2).2 0 (by omega)
      obtain ⟨b, off, hp⟩ := plain_of_cell (v := .int .u8 (f 0).kind) (by simpa using hc0)
      have ha : a = ⟨b, off, none⟩ := by unfold Addr.add at hp; simpa using hp
      subst ha
      refine ⟨(List.range len).map f, .inr ⟨b, off, cap, by simpa using hcs, by simp; omega, fun i hi => ?_⟩⟩
      have hil : i < len := by simpa using hi
      obtain ⟨k1, k2⟩ := hf i (by omega)
      have hc := (cells?_get k2).2
      simp only [List.getElem_map, List.getElem_range]
      have e : ∀ j, ((⟨b, off, none⟩ : Addr).add (i * 3)).add j = ⟨b, off + i * 3 + j, none⟩ := fun j => by rw [add_plain, add_plain]
      refine ⟨k1, ?_, ?_, ?_⟩
      · have := hc 0 (by omega); rw [e] at this; simpa using this
      · have := hc 1 (by omega); rw [e] at this; simpa using this
      · have := hc 2 (by omega); rw [e] at this; simpa using this
end
def JOpsArg (w : World) (v : Value) : Prop := ∃ os, JOpsAt w v os
theorem JOpsArg_open {H : Type} {enc : TypeId × Value → H} {W : World} {v : Value} {base : Nat} {d : DataW H} {p : List MemPlace} (hv : Value.okWide Try.prog W .any base 59 v)
    (h : ∃ m, DataW.trod enc Try.prog W 0 (fun _ => true) true m 59 v.cells.toList = some (d, p)) : JOpsArg W v := by
  obtain ⟨a, len, cap, rfl⟩ := okWide_slice Try.underlying59 hv
  obtain ⟨m, hm⟩ := h
  exact jops_trod hm
theorem JOpsAt.form {w : World} {sv : Value} {os : List OpJ} (h : JOpsAt w sv os) : ∃ a c, sv = .slice a os.length c ∧ os.length ≤ maxLen := by
  rcases h with ⟨a, cap, rfl, rfl⟩ | ⟨b, o, cap, rfl, hl, _⟩
  · exact ⟨a, cap, by simp, by simp⟩
  · exact ⟨_, _, rfl, hl⟩
theorem JOpsAt.elem {w : World} {a : Option Addr} {c : Nat} {os : List OpJ} (h : JOpsAt w (.slice a os.length c) os) (i : Nat) (hi : i < os.length) :
    ∃ b o, a = some ⟨b, o, none⟩ ∧ os[i].ok ∧ ∀ w', Keep [] w w' → w'.cell? ⟨b, o + i * 3, none⟩ = some (.int .u8 os[i].kind) ∧ w'.cell? ⟨b, o + i * 3 + 1, none⟩ = some (.int .i8 os[i].num) ∧ w'.cell? ⟨b, o + i * 3 + 2, none⟩ = some (.int .u16 os[i].rcd) := by
  rcases h with ⟨a', cap, e, rfl⟩ | ⟨b, o, cap, e, hl, hz⟩
  · simp at hi
  · have e1 : a = some ⟨b, o, none⟩ := by injection e
    obtain ⟨z1, z2, z3, z4⟩ := hz i hi
    have hb : ∀ w', Keep [] w w' → w'.heap[b]? = w.heap[b]? := fun w' hk => hk.block b (World.block_lt_of_cell? w _ z2) (by simp)
    exact ⟨b, o, e1, z1, fun w' hk => ⟨by rw [cell_same (w := w) (hb w' hk)]; exact z2, by rw [cell_same (w := w) (hb w' hk)]; exact z3, by rw [cell_same (w := w) (hb w' hk)]; exact z4⟩⟩
end Go.Proofs.Ytgmggmpkbfljfaa
