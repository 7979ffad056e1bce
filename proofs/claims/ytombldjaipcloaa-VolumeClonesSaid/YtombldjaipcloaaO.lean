/- The operations that a statement is handed, as they lie in memory. -/
import Derived.Test.YtombldjaipcloaaM
import Derived.Deep.Slices
import Derived.Lib.SmallJoins
set_option linter.unusedVariables false
set_option linter.unusedSimpArgs false
namespace Go.Proofs.Ytombldjaipcloaa
open Go.RowKit
open Go.ChangeShapes Go.WideShapes Go.ChangeAt

theorem mapM_get {α β : Type} (f : α → Option β) : ∀ (l : List α) (cs : List β), l.mapM f = some cs → cs.length = l.length ∧ ∀ (i : Nat) (x : α), l[i]? = some x → f x = cs[i]?
  | [], cs, h => by
    simp at h; subst h; exact ⟨rfl, fun i x hx => by simp at hx⟩
  | x :: l, cs, h => by
    rw [List.mapM_cons] at h
    simp only [Option.bind_eq_bind, Option.pure_def, Option.bind_eq_some_iff] at h
    obtain ⟨y, hy, ys, hys, h⟩ := h
    simp at h; subst h
    obtain ⟨h1, h2⟩ := mapM_get f l ys hys
    refine ⟨by simp [h1], fun i z hz => ?_⟩
    cases i with
    | zero => simp at hz; subst hz; simpa using hy
    | succ i => simp at hz ⊢; exact h2 i z hz
theorem cells?_get {w : World} {base n : Nat} {a : Addr} {cs : List Value} (h : w.cells? base a n = some cs) : cs.length = n ∧ ∀ i, i < n → w.cell? (a.add i) = cs[i]? := by
  unfold World.cells? at h
  split at h
  · obtain ⟨h1, h2⟩ := mapM_get _ _ _ h
    exact ⟨by simpa using h1, fun i hi => h2 i i (by rw [List.getElem?_range hi])⟩
  · cases h
theorem plain_of_cell {w : World} {a : Addr} {v : Value} (h : w.cell? a = some v) : ∃ b off, a = ⟨b, off, none⟩ := by
  obtain ⟨b, off, sp⟩ := a
  cases sp with
  | none => exact ⟨b, off, rfl⟩
  | some x => simp [World.cell?] at h; split at h <;> simp at h
theorem add_plain (b off j : Nat) : (⟨b, off, none⟩ : Addr).add j = ⟨b, off + j, none⟩ := by unfold Addr.add; split <;> simp_all

section
variable {H : Type} {enc : TypeId × Value → H} {w : World} {base : Nat} {spare : Nat → Bool} {held : Bool} {fuel : Nat}
theorem byteRow_trod {cs : List Value} {x : DataW H × List MemPlace} (h : DataW.trod enc Try.prog w base spare held fuel 36 cs = some x) :
    ∃ sv zs, cs = [sv] ∧ ByteRow w sv zs ∧ zs.length ≤ maxLen ∧ ∀ a l c, sv = .slice a l c → l ≤ c := by
  rcases open_ints Try.underlying36 Try.underlying5 (by kernel_rfl) h with ⟨hcs, _⟩ | ⟨a, len, cap, zs, hcs, _, hl, hm, hz, _, hcell, hwz⟩
  · exact ⟨_, [], hcs, .inl ⟨none, 0, rfl, rfl⟩, Nat.zero_le _, fun a l c e => by cases e; omega⟩
  · have hle : len ≤ zs.length := by rw [hz]; split <;> omega
    by_cases h0 : len = 0
    · subst h0
      exact ⟨_, [], hcs, .inl ⟨_, cap, rfl, rfl⟩, Nat.zero_le _, fun a l c e => by cases e; omega⟩
    · have h1 := hcell 0 (by omega)
      obtain ⟨b, off, hp⟩ := plain_of_cell h1
      have ha : a = ⟨b, off, none⟩ := by unfold Addr.add at hp; simpa using hp
      subst ha
      refine ⟨_, (zs.take len).map Int.toNat, hcs, .inr ⟨b, off, cap, by simp [Nat.min_eq_left hle], fun i hi => ?_⟩, by simp; omega, fun a l c e => by cases e; omega⟩
      have hil : i < len := by simp at hi; omega
      have hiz : i < zs.length := by omega
      have hb := bounds_u8 (hwz zs[i] (List.getElem_mem hiz))
      have hc := hcell i hiz
      rw [add_plain, List.getD_eq_getElem?_getD, List.getElem?_eq_getElem hiz] at hc
      simp only [Option.getD_some] at hc
      refine ⟨?_, ?_⟩
      · rw [hc]; simp [Int.toNat_of_nonneg hb.1]
      · simp; omega
end

structure OpV where
  kind : Int
  sec : Int
  dat : Int
  scr : Value
  zs : List Nat
structure OpV.ok (w : World) (o : OpV) : Prop where
  kind : 0 ≤ o.kind ∧ o.kind ≤ 255
  sec : -32768 ≤ o.sec ∧ o.sec ≤ 32767
  dat : 0 ≤ o.dat ∧ o.dat ≤ 255
  scr : ByteRow w o.scr o.zs
  len : o.zs.length ≤ maxLen
  cap : ∀ a l c, o.scr = .slice a l c → l ≤ c
def OpsAt (w : World) (sv : Value) (os : List OpV) : Prop :=
  (∃ a cap, sv = .slice a 0 cap ∧ os = []) ∨
  ∃ lb lo cap, sv = .slice (some ⟨lb, lo, none⟩) os.length cap ∧ os.length ≤ maxLen ∧ ∀ i (h : i < os.length), os[i].ok w ∧
    w.cell? ⟨lb, lo + i * 4, none⟩ = some (.int .u8 os[i].kind) ∧ w.cell? ⟨lb, lo + i * 4 + 1, none⟩ = some (.int .i16 os[i].sec) ∧ w.cell? ⟨lb, lo + i * 4 + 2, none⟩ = some (.int .u8 os[i].dat) ∧ w.cell? ⟨lb, lo + i * 4 + 3, none⟩ = some os[i].scr
theorem cells_Op : Try.prog.cellsOf 38 = 4 := by kernel_rfl
theorem cells_u8 : Try.prog.cellsOf 5 = 1 := by kernel_rfl
theorem cells_i16 : Try.prog.cellsOf 35 = 1 := by kernel_rfl
theorem cells_bs : Try.prog.cellsOf 36 = 1 := by kernel_rfl
section
variable {H : Type} {enc : TypeId × Value → H} {w : World} {base : Nat} {held : Bool} {fuel : Nat}
theorem bounds_i16' {n : Int} (h : (Lit.int .i16 n).wf = true) : -32768 ≤ n ∧ n ≤ 32767 := by
  exact Go.bounds_i16 h
theorem op_trod {cs : List Value} {x : DataW H × List MemPlace} (h : DataW.trod enc Try.prog w base (fun _ => true) held fuel 38 cs = some x) :
    ∃ o : OpV, o.ok w ∧ cs = [.int .u8 o.kind, .int .i16 o.sec, .int .u8 o.dat, o.scr] := by
  obtain ⟨y0, y1, y2, y3, n, _, hl, h0, h1, h2, h3⟩ := Go.Joins.trod_struct4 Try.underlying38 h
  rw [cells_Op] at hl
  match cs, hl with
  | [c0, c1, c2, c3], _ =>
    dsimp only at h0 h1 h2 h3
    rw [cells_u8] at h0 h2
    rw [cells_i16] at h1
    rw [cells_bs] at h3
    obtain ⟨k, e0, _, w0⟩ := DataW.trod_int Try.underlying5 h0
    obtain ⟨s, e1, _, w1⟩ := DataW.trod_int Try.underlying35 h1
    obtain ⟨d, e2, _, w2⟩ := DataW.trod_int Try.underlying5 h2
    obtain ⟨sv, zs, e3, hb, hz, hcp⟩ := byteRow_trod h3
    simp at e0 e1 e2 e3
    subst e0; subst e1; subst e2; subst e3
    exact ⟨⟨k, s, d, c3, zs⟩, ⟨bounds_u8 w0, bounds_i16' w1, bounds_u8 w2, hb, hz, hcp⟩, rfl⟩
theorem ops_trod {sv : Value} {x : DataW H × List MemPlace} (h : DataW.trod enc Try.prog w base (fun _ => true) held fuel 26 [sv] = some x) : ∃ os, OpsAt w sv os := by
  rcases Go.Deep.open_slice Try.underlying26 h with ⟨hcs, _⟩ | ⟨a, len, cap, m, n, D, Pl, hcs, _, hl, hm, hmm, _, hel⟩
  · simp at hcs; exact ⟨[], .inl ⟨none, 0, hcs, rfl⟩⟩
  · simp at hcs hmm
    by_cases h0 : len = 0
    · subst h0; exact ⟨[], .inl ⟨_, cap, hcs, rfl⟩⟩
    · have hall : ∀ i, i < cap → ∃ o : OpV, o.ok w ∧ w.cells? base (a.add (i * 4)) 4 = some [.int .u8 o.kind, .int .i16 o.sec, .int .u8 o.dat, o.scr] := by
        intro i hi
        obtain ⟨cs', h1, h2⟩ := hel i (by omega)
        rw [cells_Op] at h1
        obtain ⟨o, h3, rfl⟩ := op_trod h2
        exact ⟨o, h3, h1⟩
      have hfun : ∃ f : Nat → OpV, ∀ i, i < cap → (f i).ok w ∧ w.cells? base (a.add (i * 4)) 4 = some [.int .u8 (f i).kind, .int .i16 (f i).sec, .int .u8 (f i).dat, (f i).scr] :=
        ⟨fun i => if h : i < cap then Classical.choose (hall i h) else ⟨0, 0, 0, .nilFunc, []⟩, fun i hi => by simp only [hi, dif_pos]; exact Classical.choose_spec (hall i hi)⟩
      obtain ⟨f, hf⟩ := hfun
      have hc0 := (cells?_get (hf 0 (by omega)).2).2 0 (by omega)
      obtain ⟨b, off, hp⟩ := plain_of_cell (v := .int .u8 (f 0).kind) (by simpa using hc0)
      have ha : a = ⟨b, off, none⟩ := by unfold Addr.add at hp; simpa using hp
      subst ha
      refine ⟨(List.range len).map f, .inr ⟨b, off, cap, by simpa using hcs, by simp; omega, fun i hi => ?_⟩⟩
      have hil : i < len := by simpa using hi
      obtain ⟨k1, k2⟩ := hf i (by omega)
      have hc := (cells?_get k2).2
      simp only [List.getElem_map, List.getElem_range]
      have e : ∀ j, ((⟨b, off, none⟩ : Addr).add (i * 4)).add j = ⟨b, off + i * 4 + j, none⟩ := fun j => by rw [add_plain, add_plain]
      refine ⟨k1, ?_, ?_, ?_, ?_⟩
      · have := hc 0 (by omega); rw [e] at this; simpa using this
      · have := hc 1 (by omega); rw [e] at this; simpa using this
      · have := hc 2 (by omega); rw [e] at this; simpa using this
      · have := hc 3 (by omega); rw [e] at this; simpa using this
end
def OpsArg (w : World) (v : Value) : Prop := ∃ os, OpsAt w v os
theorem OpsArg_open {H : Type} {enc : TypeId × Value → H} {W : World} {v : Value} {base : Nat} {d : DataW H} {p : List MemPlace} (hv : Value.okWide Try.prog W .any base 26 v)
    (h : ∃ m, DataW.trod enc Try.prog W 0 (fun _ => true) true m 26 v.cells.toList = some (d, p)) : OpsArg W v := by
  obtain ⟨a, len, cap, rfl⟩ := okWide_slice Try.underlying26 hv
  obtain ⟨m, hm⟩ := h
  exact ops_trod hm
def BytesArg (w : World) (v : Value) : Prop := ∃ zs, ByteRow w v zs ∧ zs.length ≤ maxLen
theorem BytesArg_open {H : Type} {enc : TypeId × Value → H} {W : World} {v : Value} {base : Nat} {d : DataW H} {p : List MemPlace} (hv : Value.okWide Try.prog W .any base 36 v)
    (h : ∃ m, DataW.trod enc Try.prog W 0 (fun _ => true) true m 36 v.cells.toList = some (d, p)) : BytesArg W v := by
  obtain ⟨a, len, cap, rfl⟩ := okWide_slice Try.underlying36 hv
  obtain ⟨m, hm⟩ := h
  obtain ⟨sv, zs, e, hb, hz, _⟩ := byteRow_trod hm
  simp [Value.cells] at e
  subst e
  exact ⟨zs, hb, hz⟩
end Go.Proofs.Ytombldjaipcloaa
