/- Parts of a proof about this translation: Va, Vb, Uj, Vc. -/
import Derived.Deep.Slices
import Derived.Lib.SmallJoins
import Derived.IntWalk
import Derived.Test.YteknldaoegccaaaGreatDoorZ36
import Derived.Test.YteknldaoegccaaaGreatDoorZ37
set_option linter.unusedVariables false
set_option linter.unusedSimpArgs false
set_option maxRecDepth 100000
namespace Go.Proofs.YteknldaoegccaaaGreatDoor
open Go.RowKit
open Go.ChangeShapes Go.WideShapes Go.ChangeAt
theorem mapM_get {α β : Type} (f : α → Option β) : ∀ (l : List α) (cs : List β), l.mapM f = some cs → cs.length = l.length ∧ ∀ (i : Nat) (x : α), l[i]? = some x → f x = cs[i]?
 | [], cs, h => by
  simp at h; subst h; exact ⟨rfl, fun i x hx => by simp at hx⟩
 | x :: l, cs, h => by
  rw [List.mapM_cons] at h
  simp only [Option.bind_eq_bind, Option.pure_def, Option.bind_eq_some_iff] at h
  obtain ⟨y, hy, ys, hys, h⟩ := h
  simp at h; subst h
  obtain ⟨h1, h2⟩ := mapM_get f l ys hys
  refine ⟨by simp [h1], fun i z hz => ?_⟩
  cases i with
  | zero => simp at hz; subst hz; simpa using hy
  | succ i => simp at hz ⊢; exact h2 i z hz
theorem cells?_get {w : World} {base n : Nat} {a : Addr} {cs : List Value} (h : w.cells? base a n = some cs) : cs.length = n ∧ ∀ i, i < n → w.cell? (a.add i) = cs[i]? := by
 unfold World.cells? at h
 split at h
 ·obtain ⟨h1, h2⟩ := mapM_get _ _ _ h
  exact ⟨by simpa using h1, fun i hi => h2 i i (by rw [List.getElem?_range hi])⟩
 ·cases h
theorem plain_of_cell {w : World} {a : Addr} {v : Value} (h : w.cell? a = some v) : ∃ b off, a = ⟨b, off, none⟩ := by
 obtain ⟨b, off, sp⟩ := a
 cases sp with
 | none => exact ⟨b, off, rfl⟩
 | some x => simp [World.cell?] at h; split at h <;> simp at h
theorem cells_u8 : Tryz.prog.cellsOf 5 = 1 := by kernel_rfl
theorem cells_bool : Tryz.prog.cellsOf 4 = 1 := by kernel_rfl
theorem cells_Ins : Tryz.prog.cellsOf 51 = 5 := by kernel_rfl
theorem cells_Span : Tryz.prog.cellsOf 63 = 12 := by kernel_rfl
def InsA.cs (a : InsA) : List Value := [.int .u8 a.P, .int .u8 a.D, .int .u8 a.R, .int .u8 a.E, .bool a.neg]
section
variable {H : Type} {enc : TypeId × Value → H} {w : World} {base : Nat} {held : Bool} {fuel : Nat}
theorem ins_trod {cs : List Value} {x : DataW H × List MemPlace} (h : DataW.trod enc Tryz.prog w base (fun _ => true) held fuel 51 cs = some x) : ∃ a : InsA, cs = a.cs := by
 obtain ⟨xs, n, _, rfl, hl, hlen, hf⟩ := DataW.trod_struct Tryz.underlying51 h
 rw [cells_Ins] at hl
 match cs, hl with
 | [c0, c1, c2, c3, c4], _ =>
  match xs, hlen with
  | [x0, x1, x2, x3, x4], _ =>
   have h0 : DataW.trod enc Tryz.prog w base (fun _ => true) held n 5 (([c0, c1, c2, c3, c4].drop 0).take (Tryz.prog.cellsOf 5)) = some x0 := hf 0 _ rfl
   have h1 : DataW.trod enc Tryz.prog w base (fun _ => true) held n 5 (([c0, c1, c2, c3, c4].drop 1).take (Tryz.prog.cellsOf 5)) = some x1 := hf 1 _ rfl
   have h2 : DataW.trod enc Tryz.prog w base (fun _ => true) held n 5 (([c0, c1, c2, c3, c4].drop 2).take (Tryz.prog.cellsOf 5)) = some x2 := hf 2 _ rfl
   have h3 : DataW.trod enc Tryz.prog w base (fun _ => true) held n 5 (([c0, c1, c2, c3, c4].drop 3).take (Tryz.prog.cellsOf 5)) = some x3 := hf 3 _ rfl
   have h4 : DataW.trod enc Tryz.prog w base (fun _ => true) held n 4 (([c0, c1, c2, c3, c4].drop 4).take (Tryz.prog.cellsOf 4)) = some x4 := hf 4 _ rfl
   rw [cells_u8] at h0 h1 h2 h3
   rw [cells_bool] at h4
   obtain ⟨n0, e0, _, w0⟩ := DataW.trod_int Tryz.underlying5 h0
   obtain ⟨n1, e1, _, w1⟩ := DataW.trod_int Tryz.underlying5 h1
   obtain ⟨n2, e2, _, w2⟩ := DataW.trod_int Tryz.underlying5 h2
   obtain ⟨n3, e3, _, w3⟩ := DataW.trod_int Tryz.underlying5 h3
   obtain ⟨n4, e4, _⟩ := DataW.trod_bool Tryz.underlying4 h4
   simp at e0 e1 e2 e3 e4
   subst e0 e1 e2 e3 e4
   have b0 := bounds_u8 w0
   have b1 := bounds_u8 w1
   have b2 := bounds_u8 w2
   have b3 := bounds_u8 w3
   refine ⟨⟨n0.toNat, n1.toNat, n2.toNat, n3.toNat, n4, by omega, by omega, by omega, by omega⟩, ?_⟩
   simp [InsA.cs, Int.toNat_of_nonneg b0.1, Int.toNat_of_nonneg b1.1, Int.toNat_of_nonneg b2.1, Int.toNat_of_nonneg b3.1]
theorem span_trod {cs : List Value} {x : DataW H × List MemPlace} (h : DataW.trod enc Tryz.prog w base (fun _ => true) held fuel 63 cs = some x) : ∃ s : SpanA, cs = spcells s := by
 obtain ⟨xs, n, _, rfl, hl, hlen, hf⟩ := DataW.trod_struct Tryz.underlying63 h
 rw [cells_Span] at hl
 match cs, hl with
 | [c0, c1, c2, c3, c4, c5, c6, c7, c8, c9, c10, c11], _ =>
  match xs, hlen with
  | [x0, x1, x2, x3], _ =>
   have h0 : DataW.trod enc Tryz.prog w base (fun _ => true) held n 51 (([c0, c1, c2, c3, c4, c5, c6, c7, c8, c9, c10, c11].drop 0).take (Tryz.prog.cellsOf 51)) = some x0 := hf 0 _ rfl
   have h1 : DataW.trod enc Tryz.prog w base (fun _ => true) held n 51 (([c0, c1, c2, c3, c4, c5, c6, c7, c8, c9, c10, c11].drop 5).take (Tryz.prog.cellsOf 51)) = some x1 := hf 1 _ rfl
   have h2 : DataW.trod enc Tryz.prog w base (fun _ => true) held n 4 (([c0, c1, c2, c3, c4, c5, c6, c7, c8, c9, c10, c11].drop 10).take (Tryz.prog.cellsOf 4)) = some x2 := hf 2 _ rfl
   have h3 : DataW.trod enc Tryz.prog w base (fun _ => true) held n 4 (([c0, c1, c2, c3, c4, c5, c6, c7, c8, c9, c10, c11].drop 11).take (Tryz.prog.cellsOf 4)) = some x3 := hf 3 _ rfl
   rw [cells_Ins] at h0 h1
   rw [cells_bool] at h2 h3
   obtain ⟨a, e0⟩ := ins_trod h0
   obtain ⟨b, e1⟩ := ins_trod h1
   obtain ⟨o, e2, _⟩ := DataW.trod_bool Tryz.underlying4 h2
   obtain ⟨c, e3, _⟩ := DataW.trod_bool Tryz.underlying4 h3
   refine ⟨⟨a, b, o, c⟩, ?_⟩
   simp [InsA.cs] at e0 e1 e2 e3
   simp [spcells, e0, e1, e2, e3]
theorem spans_trod {sv : Value} {x : DataW H × List MemPlace} (h : DataW.trod enc Tryz.prog w base (fun _ => true) held fuel 22 [sv] = some x) :
  ∃ l : List SpanA, SpQ w sv l ∧ l.length ≤ maxLen := by
 rcases Go.Deep.open_slice Tryz.underlying22 h with ⟨hcs, _⟩ | ⟨a, len, cap, m, n, D, Pl, hcs, _, hl, hm, hmm, _, hel⟩
 ·simp at hcs; exact ⟨[], ⟨none, 0, hcs, .inl rfl⟩, by simp⟩
 ·simp at hcs hmm
  by_cases h0 : len = 0
  ·subst h0; exact ⟨[], ⟨_, cap, hcs, .inl rfl⟩, by simp⟩
  ·have hall : ∀ i, i < cap → ∃ s : SpanA, w.cells? base (a.add (i * 12)) 12 = some (spcells s) := by
    intro i hi
    obtain ⟨cs', h1, h2⟩ := hel i (by omega)
    rw [cells_Span] at h1
    obtain ⟨s, rfl⟩ := span_trod h2
    exact ⟨s, h1⟩
   have hfun : ∃ f : Nat → SpanA, ∀ i, i < cap → w.cells? base (a.add (i * 12)) 12 = some (spcells (f i)) := by
    obtain ⟨s0, _⟩ := hall 0 (by omega)
    exact ⟨fun i => if h : i < cap then Classical.choose (hall i h) else s0, fun i hi => by simp only [hi, dif_pos]; exact Classical.choose_spec (hall i hi)⟩
   obtain ⟨f, hf⟩ := hfun
   have hc0 := (cells?_get (hf 0 (by omega))).2 0 (by omega)
   obtain ⟨b, off, hp⟩ := plain_of_cell (v := .int .u8 (f 0).a.P) (by simpa [spcells] using hc0)
   have ha : a = ⟨b, off, none⟩ := by unfold Addr.add at hp; simpa using hp
   subst ha
   refine ⟨(List.range len).map f, ⟨some ⟨b, off, none⟩, cap, by simpa using hcs, .inr ?_⟩, by simp; omega⟩
   refine .inr ⟨b, off, cap, by simpa using hcs, by simp; omega, ?_, fun t v hv => ?_⟩
   ·exact World.block_lt_of_cell? w _ (by
     have e := hc0
     rw [add_plain, add_plain] at e
     simp only [Nat.zero_mul, Nat.add_zero] at e
     exact e.trans (by simp [spcells]; rfl))
   ·have ht : t < len * 12 := by
     have := (List.getElem?_eq_some_iff.1 hv).1
     rw [flat_len (fun s : SpanA => spcells s) spcells_len] at this
     simpa using this
    have hi : t / 12 < len := Nat.div_lt_of_lt_mul (by rw [Nat.mul_comm]; exact ht)
    have hj : t % 12 < 12 := Nat.mod_lt _ (by decide)
    have h1 := flat_get (fun s : SpanA => spcells s) spcells_len ((List.range len).map f) (t / 12) (t % 12) (by simpa using hi) hj
    rw [Nat.div_add_mod' t 12, hv] at h1
    have h2 := (cells?_get (hf (t / 12) (by omega))).2 (t % 12) hj
    rw [add_plain, add_plain, Nat.add_assoc, Nat.div_add_mod' t 12] at h2
    rw [h2, h1]
    simp
end
def SpArg (w : World) (v : Value) : Prop := ∃ l : List SpanA, SpQ w v l ∧ l.length ≤ 9223372036854775807
theorem SpArg_open {H : Type} {enc : TypeId × Value → H} {W : World} {v : Value} {base : Nat} {d : DataW H} {p : List MemPlace} (hv : Value.okWide Tryz.prog W .any base 22 v)
  (h : ∃ m, DataW.trod enc Tryz.prog W 0 (fun _ => true) true m 22 v.cells.toList = some (d, p)) : SpArg W v := by
 obtain ⟨a, len, cap, rfl⟩ := okWide_slice Tryz.underlying22 hv
 obtain ⟨m, hm⟩ := h
 obtain ⟨l, h1, h2⟩ := spans_trod hm
 exact ⟨l, h1, by unfold maxLen at h2; omega⟩
end Go.Proofs.YteknldaoegccaaaGreatDoor
set_option maxRecDepth 100000
namespace Go.Proofs.YteknldaoegccaaaGreatDoor
open Go.RowKit
open Classical
structure MP (S : List K) (w0 w : World) (L : List (Value × List (Iv K))) : Prop where
 mi : MI w0 w L
 per : ∀ p ∈ L, Per S p.2
 few : S.length ≤ 1000
section
variable {S : List K} {w0 w w' : World} {L : List (Value × List (Iv K))}
theorem MP.start (h : S.length ≤ 1000) (w : World) : MP S w w [] := ⟨MI.start w, by simp, h⟩
theorem MP.move (h : MP S w0 w L) (hk : Keep [] w w') : MP S w0 w' L := ⟨h.mi.move hk, h.per, h.few⟩
theorem MP.add (h : MP S w0 w L) {v : Value} {l : List (Iv K)} (hk : Keep [] w w') (hv : IvR w' v l) (hp : Per S l) : MP S w0 w' ((v, l) :: L) :=
 ⟨h.mi.add hk hv, fun p hp' => by
  rcases List.mem_cons.1 hp' with rfl | hp'
  ·exact hp
  ·exact h.per p hp', h.few⟩
theorem MP.keep (h : MP S w0 w L) : Keep [] w0 w := h.mi.1
theorem MP.get (h : MP S w0 w L) {v : Value} {l : List (Iv K)} (hm : (v, l) ∈ L) : IvR w v l := h.mi.2 _ hm
theorem MP.val (h : MP S w0 w L) {v : Value} {l : List (Iv K)} (hm : (v, l) ∈ L) : ∀ i ∈ l, i.f < i.l := (h.per _ hm).norm.val
theorem MP.len (h : MP S w0 w L) {v : Value} {l : List (Iv K)} (hm : (v, l) ∈ L) : l.length ≤ 2000 := by have := (h.per _ hm).len; have := h.few; dsimp only at *; omega
def PerPost (S : List K) (w0 : World) (L : List (Value × List (Iv K))) (m : List (Iv K)) (e : Ending) (w' : World) : Prop := ∃ a c, e = .returned (.slice a m.length c) ∧ MP S w0 w' ((.slice a m.length c, m) :: L)
theorem perPost_of (h : MP S w0 w L) {m : List (Iv K)} (hp : Per S m) {f : Nat} {args : Array Value} (hc : Calls Tryz.prog f args w fun e w' => ∃ v, e = .returned v ∧ IvR w' v m ∧ Keep [] w w') : Calls Tryz.prog f args w (PerPost S w0 L m) :=
 hc.mono fun e w' ⟨v, he, hv, hk⟩ => by
  obtain ⟨a, c, rfl, _⟩ := hv.form
  exact ⟨a, c, he, h.add hk hv hp⟩
variable {v u : Value} {a b : List (Iv K)}
theorem MP.combP (h : MP S w0 w L) (op : Int) (hv : (v, a) ∈ L) (hu : (u, b) ∈ L) : Per S (combK op a b) := combK_per op (h.per _ hv).pts (h.per _ hu).pts
theorem MP.union (h : MP S w0 w L) (hv : (v, a) ∈ L) (hu : (u, b) ∈ L) : Calls Tryz.prog 21 #[v, u] w (PerPost S w0 L (combK 1 a b)) :=
 perPost_of h (h.combP 1 hv hu) (Union_p a b (h.val hv) (h.val hu) w v u (h.get hv) (h.get hu) (by have := h.len hv; omega) (by have := h.len hu; omega))
theorem MP.inter (h : MP S w0 w L) (hv : (v, a) ∈ L) (hu : (u, b) ∈ L) : Calls Tryz.prog 23 #[v, u] w (PerPost S w0 L (combK 2 a b)) :=
 perPost_of h (h.combP 2 hv hu) (Intersect_p a b (h.val hv) (h.val hu) w v u (h.get hv) (h.get hu) (by have := h.len hv; omega) (by have := h.len hu; omega))
theorem MP.minus (h : MP S w0 w L) (hv : (v, a) ∈ L) (hu : (u, b) ∈ L) : Calls Tryz.prog 24 #[v, u] w (PerPost S w0 L (combK 3 a b)) :=
 perPost_of h (h.combP 3 hv hu) (Minus_p a b (h.val hv) (h.val hu) w v u (h.get hv) (h.get hu) (by have := h.len hv; omega) (by have := h.len hu; omega))
theorem MP.comb (h : MP S w0 w L) {op : Int} (hop : op = 1 ∨ op = 2 ∨ op = 3) (hv : (v, a) ∈ L) (hu : (u, b) ∈ L) : Calls Tryz.prog 22 #[.int .i64 op, v, u] w (PerPost S w0 L (combK op a b)) :=
 perPost_of h (h.combP op hv hu) (rcombine_c op hop a b w v u (h.get hv) (h.get hu) (by have := h.len hv; omega) (by have := h.len hu; omega))
def BoolPost (S : List K) (w0 : World) (L : List (Value × List (Iv K))) (r : Bool) (e : Ending) (w' : World) : Prop := e = .returned (.bool r) ∧ MP S w0 w' L
theorem boolPost_of (h : MP S w0 w L) {r : Bool} {f : Nat} {args : Array Value} (hc : Calls Tryz.prog f args w fun e w' => e = .returned (.bool r) ∧ Keep [] w w') : Calls Tryz.prog f args w (BoolPost S w0 L r) :=
 hc.mono fun e w' ⟨he, hk⟩ => ⟨he, h.move hk⟩
theorem MP.eq (h : MP S w0 w L) (hv : (v, a) ∈ L) (hu : (u, b) ∈ L) (he : a = b) : Calls Tryz.prog 17 #[v, u] w (BoolPost S w0 L true) :=
 boolPost_of h (equal_t he w v u (h.get hv) (h.get hu) (by have := h.len hv; omega))
theorem MP.known (h : MP S w0 w L) : Calls Tryz.prog 16 #[] w (BoolPost S w0 L true) := boolPost_of h (known_c w)
theorem MP.cov (h : MP S w0 w L) (hv : (v, a) ∈ L) (hu : (u, b) ∈ L) : Calls Tryz.prog 25 #[v, u] w (BoolPost S w0 L (decide (combK 3 b a = []))) :=
 boolPost_of h (covers_c a b (h.val hv) (h.val hu) w v u (h.get hv) (h.get hu) (by have := h.len hv; omega) (by have := h.len hu; omega))
theorem MP.covT (h : MP S w0 w L) (hv : (v, a) ∈ L) (hu : (u, b) ∈ L) (he : combK 3 b a = []) : Calls Tryz.prog 25 #[v, u] w (BoolPost S w0 L true) := by
 have := h.cov hv hu
 rw [decide_eq_true he] at this
 exact this
theorem MP.over (h : MP S w0 w L) (hv : (v, a) ∈ L) (hu : (u, b) ∈ L) : Calls Tryz.prog 26 #[v, u] w (BoolPost S w0 L (decide (combK 2 a b ≠ []))) :=
 boolPost_of h (overlaps_c a b (h.val hv) (h.val hu) w v u (h.get hv) (h.get hu) (by have := h.len hv; omega) (by have := h.len hu; omega))
end
theorem comb_ext {op op' : Int} {a b a' b' : List (Iv K)} (h : ∀ x, decV op (hasL a x) (hasL b x) = decV op' (hasL a' x) (hasL b' x)) : combK op a b = combK op' a' b' :=
 combK_eq (combK_norm _ _ _) (fun x => by rw [combK_has, h])
theorem dec1 (a b : Bool) : decV 1 a b = (a || b) := rfl
theorem dec2 (a b : Bool) : decV 2 a b = (a && b) := rfl
theorem dec3 (a b : Bool) : decV 3 a b = (a && !b) := rfl
theorem alg1 (a b : List (Iv K)) : combK 2 a b = combK 2 b a := comb_ext fun x => by rw [dec2, dec2, Bool.and_comm]
theorem alg2 (a b : List (Iv K)) : combK 1 a b = combK 1 b a := comb_ext fun x => by rw [dec1, dec1, Bool.or_comm]
theorem alg3 (a b : List (Iv K)) : combK 3 a (combK 3 a b) = combK 2 a b := comb_ext fun x => by
 rw [combK_has, dec3, dec3, dec2]; cases hasL a x <;> cases hasL b x <;> rfl
theorem alg4 {a b : List (Iv K)} (ha : Norm a) : combK 1 (combK 2 a b) (combK 3 a b) = a := combK_eq ha fun x => by
 rw [combK_has, combK_has, dec1, dec2, dec3]; cases hasL a x <;> cases hasL b x <;> rfl
theorem alg5 (a b c : List (Iv K)) : combK 1 (combK 1 a b) c = combK 1 a (combK 1 b c) := comb_ext fun x => by
 rw [combK_has, combK_has, dec1, dec1, dec1, dec1]; cases hasL a x <;> cases hasL b x <;> cases hasL c x <;> rfl
theorem alg6 (a b c : List (Iv K)) : combK 2 (combK 2 a b) c = combK 2 a (combK 2 b c) := comb_ext fun x => by
 rw [combK_has, combK_has, dec2, dec2, dec2, dec2]; cases hasL a x <;> cases hasL b x <;> cases hasL c x <;> rfl
theorem alg7 (a b c : List (Iv K)) : combK 2 (combK 1 a b) c = combK 1 (combK 2 a c) (combK 2 b c) := comb_ext fun x => by
 rw [combK_has, combK_has, combK_has, dec1, dec1, dec2, dec2, dec2]; cases hasL a x <;> cases hasL b x <;> cases hasL c x <;> rfl
theorem alg8 (a : List (Iv K)) : combK 3 a a = [] := combK_eq (l := []) trivial fun x => by rw [dec3, hasL_nil]; cases hasL a x <;> rfl
theorem alg9 (a b : List (Iv K)) : combK 3 b (combK 1 a b) = [] := combK_eq (l := []) trivial fun x => by rw [combK_has, dec3, dec1, hasL_nil]; cases hasL a x <;> cases hasL b x <;> rfl
theorem perOf_in {l : List SpanA} {S : List K} (h : ∀ x ∈ ptsL (ivsOf l), x ∈ S) : Per S (perOf l) := ⟨perOf_norm l, (perOf_per l).pts.mono h⟩
theorem MP.period {S : List K} {w0 w : World} {L : List (Value × List (Iv K))} (h : MP S w0 w L) {l : List SpanA} {sv : Value} (hr : SpQ w0 sv l) (h9 : l.length ≤ 9223372036854775807) (hS : ∀ x ∈ ptsL (ivsOf l), x ∈ S) :
  Calls Tryz.prog 20 #[sv] w (PerPost S w0 L (perOf l)) := perPost_of h (perOf_in hS) (lperiod_c l w sv (hr.later h.keep) h9)
end Go.Proofs.YteknldaoegccaaaGreatDoor
set_option maxRecDepth 100000
namespace Go.Proofs.YteknldaoegccaaaGreatDoor
open Go.RowKit
open Classical
set_option maxHeartbeats 8000000 in
theorem checkN_c (l : List (Iv K)) (hn : Norm l) (w : World) (sv : Value) (hr : IvR w sv l) (h9 : l.length ≤ 1000000) :
  Calls Tryz.prog 19 #[sv] w fun e w' => e = .returned (.int .i64 0) ∧ Keep [] w w' := by
 have HR := Lib.hid hr
 have HV := Lib.hid hn.val
 have HP := Lib.hid hn.pair
 have HI := Lib.hid (fun x w => isrealK_c x w)
 obtain ⟨ao, ac, rfl, _⟩ := hr.form
 clear hr hn
 go_enter Tryz.func19, Tryz.ntmps19
 go_wp2_with fail
 go_loopw [3] (fun c wr => ∃ k : Nat, k ≤ l.length ∧ c = .int .i64 (k : Int) ∧ Keep [] w wr) (fun c _ => l.length - (intOf c).toNat)
 case atStart => exact ⟨0, Nat.zero_le _, rfl, Keep.refl _ _⟩
 case round =>
  obtain ⟨k, hk, rfl, hkeep⟩ := hrel
  have HKr := Lib.hid hkeep
  clear hkeep
  by_cases hlt : k < l.length
  ·obtain ⟨g, o, rfl, hg, hat⟩ := IvR.elem HR.out k hlt
   have hgr := Nat.lt_of_lt_of_le hg HKr.out.size
   have Hat := Lib.hid (hat.keep (HKr.out.block g hg (by simp)))
   have hival := HV.out l[k] (List.getElem_mem hlt)
   obtain ⟨i, hi⟩ : ∃ i, l[k] = i := ⟨_, rfl⟩
   have Hi := Lib.hid hi
   rw [hi] at Hat hival
   have HiV := Lib.hid hival
   obtain ⟨p, hp⟩ : ∃ p, o + k * 20 = p := ⟨_, rfl⟩
   rw [hp] at Hat
   have H1 := Lib.hid (HI.out i.f.pt)
   have H2 := Lib.hid (HI.out i.l.pt)
   have H3 := Lib.hid (fun w => isivT_c HiV.out w)
   have HAf := Lib.hid (fun (w : World) (h : w.heap[g]? = wr.heap[g]?) => KAt.all (x := i.f.pt) ((Hat.out.keep h).frm))
   have HAt := Lib.hid (fun (w : World) (h : w.heap[g]? = wr.heap[g]?) => KAt.all (x := i.l.pt) ((Hat.out.keep h).upto))
   have HLi := Lib.hid (fun (w : World) (h : w.heap[g]? = wr.heap[g]?) => load_iv w g p i (Hat.out.keep h))
   have HLf := Lib.hid (fun (w : World) (h : w.heap[g]? = wr.heap[g]?) => load_real w g p i.f.pt.1 (Hat.out.keep h).frm)
   have HOf := Lib.hid (fun (w : World) (h : w.heap[g]? = wr.heap[g]?) => (Hat.out.keep h).opf)
   clear hat hi hival
   have hiv : iv i = .agg (iC i) := rfl
   rw [hiv] at H3 HLi
   generalize iC i = I at *
   rw [kv_cells] at H1 H2
   have HKq : Hid (qv i.f.pt.1 = .agg (kC i.f.pt)) := rfl
   rw [HKq.out] at HLf
   generalize hF : kC i.f.pt = F at *
   have HF := Lib.hid hF
   clear hF HKq
   obtain ⟨x, hx⟩ : ∃ x, i.f.pt = x := ⟨_, rfl⟩
   obtain ⟨y, hy⟩ : ∃ y, i.l.pt = y := ⟨_, rfl⟩
   have Hxy := Lib.hid (And.intro hx hy)
   rw [hx] at H1 HAf
   rw [hy] at H2 HAt
   clear hx hy hiv
   generalize sgB (x.1).p.num = f1 at *
   generalize mgS (x.1).p.num = f2 at *
   generalize dnS (x.1).p.den = f3 at *
   generalize sgB (x.1).r.num = f4 at *
   generalize mgS (x.1).r.num = f5 at *
   generalize dnS (x.1).r.den = f6 at *
   generalize (x.1).neg = f7 at *
   generalize sgB (y.1).p.num = t1 at *
   generalize mgS (y.1).p.num = t2 at *
   generalize dnS (y.1).p.den = t3 at *
   generalize sgB (y.1).r.num = t4 at *
   generalize mgS (y.1).r.num = t5 at *
   generalize dnS (y.1).r.den = t6 at *
   generalize (y.1).neg = t7 at *
   obtain ⟨c0, c1, c2, c3, c4, c5, c6, c7, c8⟩ := HAf.out wr rfl
   go_wp2_with fail
   refine (H1.out _).mono ?_
   rintro e w1 ⟨rfl, hk1⟩
   dsimp only
   have HK1 := Lib.hid hk1
   clear c0 c1 c2 c3 c4 c5 c6 c7 c8
   obtain ⟨c0, c1, c2, c3, c4, c5, c6, c7, c8⟩ := HAt.out w1 (hk1.block g hgr (by simp))
   simp only [Nat.add_assoc] at c0 c1 c2 c3 c4 c5 c6 c7 c8
   clear hk1
   go_wp2_with fail
   refine (H2.out _).mono ?_
   rintro e w2 ⟨rfl, hk2⟩
   dsimp only
   have HK2 := Lib.hid (HK1.out.trans0 hk2)
   clear c0 c1 c2 c3 c4 c5 c6 c7 c8 hk2 HK1 H1 H2
   go_upto_region 6 with (fail)
   refine wp_region_lit ?_
   refine' wpList_R (v := _) (by rfl) (?hruna) (fun K hK => ?hnexta)
   case hruna => (go_simp; try rfl)
   rotate_left 0
   go_simp
   refine hK _ _ ?_
   clear hK K
   refine' wpList_R (v := _) (by rfl) (?hrunb) (fun K hK => ?hnextb)
   case hrunb => (go_simp; try rfl)
   rotate_left 0
   go_simp
   refine hK _ _ ?_
   clear hK K
   refine' wpList_R (v := _) (by rfl) (?hrunc) (fun K hK => ?hnextc)
   case hrunc => (go_simp; try rfl)
   rotate_left 0
   go_simp
   refine hK _ _ ?_
   clear hK K
   refine wpList_R (v := .agg I) (by rfl) (exec_load _ _ ⟨g, p, none⟩ _ rfl rfl (HLi.out w2 (HK2.out.block g hgr (by simp)))) (fun K hK => ?_)
   go_simp
   refine hK _ _ ?_
   clear hK K
   refine wpList_plain (by rfl) (fun K hK => ?_)
   refine wp_enter 55 #[.agg I] (by go_simp) ?_
   refine (H3.out _).mono ?_
   rintro e w3 ⟨rfl, hk3⟩
   refine ⟨_, rfl, ?_⟩
   go_simp
   refine hK _ _ ?_
   clear hK K H3
   have HK3 := Lib.hid (HK2.out.trans0 hk3)
   clear hk3 HK2 HLi
   by_cases hk0 : k = 0
   ·subst hk0
    go_wp2_with fail
    go_roundw
    case rel => exact ⟨1, by omega, rfl, HKr.out.trans0 HK3.out⟩
    case measure => simp [intOf]; omega
   ·obtain ⟨k', rfl⟩ : ∃ k', k = k' + 1 := ⟨k - 1, by omega⟩
    have hlt' : k' < l.length := by omega
    obtain ⟨g', o', heq, hg', hat'⟩ := IvR.elem HR.out k' hlt'
    injection heq with heq
    injection heq with hq1 hq2
    subst hq1 hq2
    obtain ⟨j, hj⟩ : ∃ j, l[k'] = j := ⟨_, rfl⟩
    have hpr : l[k'].l < l[k' + 1].f := List.pairwise_iff_getElem.1 HP.out k' (k' + 1) hlt' hlt (by omega)
    rw [hj, Hi.out] at hpr
    rw [hj] at hat'
    obtain ⟨p', hp'⟩ : ∃ p', o + k' * 20 = p' := ⟨_, rfl⟩
    rw [hp'] at hat'
    have hgw : g < w3.heap.size := Nat.lt_of_lt_of_le hgr HK3.out.size
    have hb3 : w3.heap[g]? = wr.heap[g]? := HK3.out.block g hgr (by simp)
    have hbw : w3.heap[g]? = w.heap[g]? := hb3.trans (HKr.out.block g hg (by simp))
    have HLx := Lib.hid (fun mm : KW w3 => HLf.out _ ((mm.k.block g hgw (by simp)).trans hb3))
    have HLy := Lib.hid (fun mm : KW w3 => load_real _ g (p' + 9) j.l.pt.1 ((hat'.keep ((mm.k.block g hgw (by simp)).trans hbw)).upto))
    have Hat' := Lib.hid hat'
    have HCm := Lib.hid (kcmp_c i.f.pt j.l.pt)
    have hcase : (cmpQ i.f.pt.1 j.l.pt.1 = 1) ∨ (cmpQ i.f.pt.1 j.l.pt.1 = 0 ∧ i.f.beh = true ∧ j.l.beh = false) := by
     rw [Bd.lt_def] at hpr
     rcases K.tri i.f.pt j.l.pt with ⟨h, g⟩ | ⟨h, g⟩ | ⟨h, g⟩
     ·exact .inl h
     ·rcases hpr with h2 | ⟨h2, _⟩
      ·exact absurd (K.trans g h2) (K.irrefl _)
      ·rw [h2] at g; exact absurd g (K.irrefl _)
     ·rcases hpr with h2 | ⟨_, h3, h4⟩
      ·rw [g] at h2; exact absurd h2 (K.irrefl _)
      ·exact .inr ⟨h, h4, h3⟩
    have hki2 : IntKind.i64.wrap (((k' + 1 : Nat) : Int) - 1) = (k' : Int) := by
     have e : ((k' + 1 : Nat) : Int) - 1 = (k' : Int) := by omega
     rw [e]; exact IntWalk.i64_in _ (by omega)
    have HG : qv j.l.pt.1 = .agg (kC j.l.pt) := rfl
    have HCm : ∀ w, Calls Tryz.prog 28 #[.agg F, .agg (kC j.l.pt)] w fun e w' => e = .returned (.int .i64 (cmpQ i.f.pt.1 j.l.pt.1)) ∧ Keep [] w w' := by
     intro w; rw [← HF.out]; exact kcmp_c i.f.pt j.l.pt w
    have HCm := Lib.hid HCm
    rw [HG] at HLy
    generalize kC j.l.pt = G at *
    have hk3 : (k' : Int) < (l.length : Int) := by omega
    have hk4 : 0 ≤ (k' : Int) := by omega
    have hk5 : (k' : Int).toNat = k' := by simp
    have hk6 : ((k' + 1 : Nat) : Int).toNat = k' + 1 := by simp
    have hk7 : ((k' + 1 : Nat) : Int) < (l.length : Int) := by omega
    have hk8 : 0 ≤ ((k' + 1 : Nat) : Int) := by omega
    have hk9 : (((k' + 1 : Nat) : Int) == 0) = false := by
     simp only [beq_eq_false_iff_ne]; omega
    have Hbw := Lib.hid hbw
    clear hat' hpr hj HLf hbw HG HF
    generalize hm : ((k' + 1 : Nat) : Int) = m at *
    have hm2 : m = (k' : Int) + 1 := by omega
    have Hm := Lib.hid hm2
    clear hm hm2
    generalize hn : cmpQ i.f.pt.1 j.l.pt.1 = n at *
    clear hn
    go_upto_region 9 with (fail)
    have Q1 : Hid (∀ m : KW w3, Calls Tryz.prog 28 #[.agg F, .agg G] (Wk w3 m) fun e w' => e = .returned (.int .i64 (n)) ∧ ∃ m, w' = Wk w3 m) := fun m => qk m (HCm.out _)
    refine wp_region_keep (by kernel_rfl) (by kernel_rfl) ?_
    repeat (first
     | go_big_quiet_skip
     | (go_big_quiet_want; first
      | (refine quiet_load _ _ _ (.agg F) rfl rfl (by rintro _ ⟨m, rfl⟩; exact HLx.out m) ?_; go_simp; go_big_quiet_on) | (refine quiet_load _ _ _ (.agg G) rfl rfl (by rintro _ ⟨m, rfl⟩; exact HLy.out m) ?_; go_simp; go_big_quiet_on)
      | (go_big_quiet_op; first | go_big_quiet_on | go_big_quiet_call (first
       | (go_at_call 28; with_reducible exact (Q1).out _)))))
    refine wpQuiet_nil ?_
    rintro w4 ⟨⟨_, hk_w4⟩, rfl⟩
    have hb4 : w4.heap[g]? = w3.heap[g]? := hk_w4.block g hgw (by simp)
    have hof := HOf.out w4 (hb4.trans hb3)
    have hot := (Hat'.out.keep (hb4.trans Hbw.out)).opt
    have HK4 := Lib.hid (HK3.out.trans0 hk_w4)
    clear hk_w4 Q1 HLx HLy HK3 HCm HOf Hat' hb4 hb3 Hbw
    rcases hcase with hc | ⟨hc, hc1, hc2⟩
    ·subst hc
     clear hof hot
     go_wp2_with fail
     go_roundw
     case rel => exact ⟨k' + 2, by omega, congrArg (Value.int .i64) (by have := Hm.out; omega), HKr.out.trans0 HK4.out⟩
     case measure => simp [intOf]; have := Hm.out; omega
    ·subst hc
     rw [hc1] at hof
     rw [hc2] at hot
     go_wp2_with fail
     go_roundw
     case rel => exact ⟨k' + 2, by omega, congrArg (Value.int .i64) (by have := Hm.out; omega), HKr.out.trans0 HK4.out⟩
     case measure => simp [intOf]; have := Hm.out; omega
  ·have hkl : k = l.length := by omega
   subst hkl
   go_wp2_with fail
   go_ret
   exact ⟨rfl, HKr.out⟩
end Go.Proofs.YteknldaoegccaaaGreatDoor
set_option maxRecDepth 100000
namespace Go.Proofs.YteknldaoegccaaaGreatDoor
open Go.RowKit
open Classical
theorem cmpB_le (a b : Bd K) : cmpB a b ≤ 0 ↔ a ≤ b := by
 rcases cmpB_tri a b with ⟨h, g⟩ | ⟨h, g⟩ | ⟨h, g⟩
 ·rw [h]; exact ⟨fun h2 => absurd h2 (by decide), fun h2 => by grind⟩
 ·rw [h]; exact ⟨fun _ => by grind, fun _ => by decide⟩
 ·rw [h]; exact ⟨fun _ => by grind, fun _ => by decide⟩
theorem bd_built (x : K) (o : Bool) : Tryz.prog.built 89 [(0, kv x), (1, .bool o)] = some (bC ⟨x, o⟩) := border_built _ _ _ _ _ _ _ _
set_option maxHeartbeats 8000000 in
theorem contains1_c (i : Iv K) (t : K) (w : World) (g : Nat) (hb : w.heap[g]? = some (.cells (kC t) 31)) :
  Calls Tryz.prog 72 #[iv i, .pointer (some ⟨g, 0, none⟩)] w fun e w' => e = .returned (.bool (decide (i.f ≤ ⟨t, false⟩ ∧ (⟨t, true⟩ : Bd K) ≤ i.l))) ∧ Keep [] w w' := by
 have HF := Lib.hid (fun w => first_c i w)
 have HL := Lib.hid (fun w => last_c i w)
 have HC1 := Lib.hid (fun w => bcmp_c i.f ⟨t, false⟩ w)
 have HC2 := Lib.hid (fun w => bcmp_c ⟨t, true⟩ i.l w)
 have B1 := Lib.hid (bd_built t false)
 have B2 := Lib.hid (bd_built t true)
 have hd1 : decide (cmpB i.f ⟨t, false⟩ ≤ 0) = decide (i.f ≤ ⟨t, false⟩) := by rw [Bool.eq_iff_iff, decide_eq_true_iff, decide_eq_true_iff]; exact cmpB_le _ _
 have hd2 : decide (cmpB ⟨t, true⟩ i.l ≤ 0) = decide ((⟨t, true⟩ : Bd K) ≤ i.l) := by rw [Bool.eq_iff_iff, decide_eq_true_iff, decide_eq_true_iff]; exact cmpB_le _ _
 have hres : decide (i.f ≤ ⟨t, false⟩ ∧ (⟨t, true⟩ : Bd K) ≤ i.l) = (decide (cmpB i.f ⟨t, false⟩ ≤ 0) && decide (cmpB ⟨t, true⟩ i.l ≤ 0)) := by rw [hd1, hd2, Bool.decide_and]
 rw [hres]
 clear hd1 hd2 hres
 generalize cmpB i.f ⟨t, false⟩ = n1 at *
 generalize cmpB ⟨t, true⟩ i.l = n2 at *
 have ho : iv i = .agg (iC i) := rfl
 have hk : kv t = .agg (kC t) := rfl
 have e1 : bv i.f = .agg (bC i.f) := rfl
 have e2 : bv i.l = .agg (bC i.l) := rfl
 have e3 : bv ⟨t, false⟩ = .agg (bC ⟨t, false⟩) := rfl
 have e4 : bv ⟨t, true⟩ = .agg (bC ⟨t, true⟩) := rfl
 rw [ho]
 rw [ho, e1] at HF
 rw [ho, e2] at HL
 rw [e1, e3] at HC1
 rw [e2, e4] at HC2
 rw [hk] at B1 B2
 clear ho hk e1 e2 e3 e4
 by_cases h1 : n1 ≤ 0
 ·have hd : decide (n1 ≤ 0) = true := decide_eq_true h1
  rw [hd, Bool.true_and]
  go_enter Tryz.func72, Tryz.ntmps72
  go_upto_region 1 with (fail)
  obtain ⟨W, ga, hW, ega, bga, hga, hgW, hkW⟩ := al1 w (.cells (iC i) 33)
  rw [← hW]
  try rw [ega]
  have Bga := Lib.hid bga
  have HkW := Lib.hid hkW
  clear hW hkW ega bga
  have HLi := Lib.hid ((ivAt_box Bga.out).ld (lt_of_heap Bga.out))
  have HLt := Lib.hid (kw_k (HkW.out.heap hb (by simp)))
  have hiv : iv i = .agg (iC i) := rfl
  have hkv : kv t = .agg (kC t) := rfl
  rw [hiv] at HLi
  rw [hkv] at HLt
  clear hiv hkv hb Bga
  have Q1 : Hid (∀ m : KW W, Calls Tryz.prog 74 #[.agg (iC i)] (Wk W m) fun e w' => e = .returned (.agg (bC i.f)) ∧ ∃ m, w' = Wk W m) := fun m => qk m (HF.out _)
  have Q2 : Hid (∀ m : KW W, Calls Tryz.prog 75 #[.agg (iC i)] (Wk W m) fun e w' => e = .returned (.agg (bC i.l)) ∧ ∃ m, w' = Wk W m) := fun m => qk m (HL.out _)
  have Q3 : Hid (∀ m : KW W, Calls Tryz.prog 73 #[.agg (bC i.f), .agg (bC ⟨t, false⟩)] (Wk W m) fun e w' => e = .returned (.int .i64 n1) ∧ ∃ m, w' = Wk W m) := fun m => qk m (HC1.out _)
  have Q4 : Hid (∀ m : KW W, Calls Tryz.prog 73 #[.agg (bC ⟨t, true⟩), .agg (bC i.l)] (Wk W m) fun e w' => e = .returned (.int .i64 n2) ∧ ∃ m, w' = Wk W m) := fun m => qk m (HC2.out _)
  clear HF HL HC1 HC2
  generalize iC i = I at *
  generalize kC t = T at *
  generalize bC i.f = F at *
  generalize bC i.l = L at *
  generalize bC ⟨t, false⟩ = T0 at *
  generalize bC ⟨t, true⟩ = T1 at *
  refine wp_region_keep (by kernel_rfl) (by kernel_rfl) ?_
  repeat (first
   | go_big_quiet_skip
   | (go_big_quiet_want; first
    | (refine quiet_load _ _ _ (.agg I) rfl rfl (by rintro _ ⟨m, rfl⟩; exact HLi.out m) ?_; go_simp; go_big_quiet_on) | (refine quiet_load _ _ _ (.agg T) rfl rfl (by rintro _ ⟨m, rfl⟩; exact HLt.out m) ?_; go_simp; go_big_quiet_on) | (refine quiet_build _ _ #[(0, .agg T), (1, .bool false)] (T0) rfl (by simp only [List.map_toArray, List.map_cons, List.map_nil]; rfl) B1.out ?_; go_simp; go_big_quiet_on) | (refine quiet_build _ _ #[(0, .agg T), (1, .bool true)] (T1) rfl (by simp only [List.map_toArray, List.map_cons, List.map_nil]; rfl) B2.out ?_; go_simp; go_big_quiet_on)
    | (go_big_quiet_op; first | go_big_quiet_on | go_big_quiet_call (first
     | (go_at_call 74; with_reducible exact (Q1).out _) | (go_at_call 75; with_reducible exact (Q2).out _) | (go_at_call 73; with_reducible exact (Q3).out _) | (go_at_call 73; with_reducible exact (Q4).out _)))))
  refine wpQuiet_nil ?_
  rintro w2 ⟨⟨_, hk_w2⟩, rfl⟩
  go_wp2_with fail
  go_ret
  exact ⟨rfl, HkW.out.trans0 hk_w2⟩
 ·have hd : decide (n1 ≤ 0) = false := decide_eq_false h1
  rw [hd, Bool.false_and]
  go_enter Tryz.func72, Tryz.ntmps72
  go_upto_region 1 with (fail)
  obtain ⟨W, ga, hW, ega, bga, hga, hgW, hkW⟩ := al1 w (.cells (iC i) 33)
  rw [← hW]
  try rw [ega]
  have Bga := Lib.hid bga
  have HkW := Lib.hid hkW
  clear hW hkW ega bga
  have HLi := Lib.hid ((ivAt_box Bga.out).ld (lt_of_heap Bga.out))
  have HLt := Lib.hid (kw_k (HkW.out.heap hb (by simp)))
  have hiv : iv i = .agg (iC i) := rfl
  have hkv : kv t = .agg (kC t) := rfl
  rw [hiv] at HLi
  rw [hkv] at HLt
  clear hiv hkv hb Bga
  have Q1 : Hid (∀ m : KW W, Calls Tryz.prog 74 #[.agg (iC i)] (Wk W m) fun e w' => e = .returned (.agg (bC i.f)) ∧ ∃ m, w' = Wk W m) := fun m => qk m (HF.out _)
  have Q2 : Hid (∀ m : KW W, Calls Tryz.prog 75 #[.agg (iC i)] (Wk W m) fun e w' => e = .returned (.agg (bC i.l)) ∧ ∃ m, w' = Wk W m) := fun m => qk m (HL.out _)
  have Q3 : Hid (∀ m : KW W, Calls Tryz.prog 73 #[.agg (bC i.f), .agg (bC ⟨t, false⟩)] (Wk W m) fun e w' => e = .returned (.int .i64 n1) ∧ ∃ m, w' = Wk W m) := fun m => qk m (HC1.out _)
  have Q4 : Hid (∀ m : KW W, Calls Tryz.prog 73 #[.agg (bC ⟨t, true⟩), .agg (bC i.l)] (Wk W m) fun e w' => e = .returned (.int .i64 n2) ∧ ∃ m, w' = Wk W m) := fun m => qk m (HC2.out _)
  clear HF HL HC1 HC2
  generalize iC i = I at *
  generalize kC t = T at *
  generalize bC i.f = F at *
  generalize bC i.l = L at *
  generalize bC ⟨t, false⟩ = T0 at *
  generalize bC ⟨t, true⟩ = T1 at *
  refine wp_region_keep (by kernel_rfl) (by kernel_rfl) ?_
  repeat (first
   | go_big_quiet_skip
   | (go_big_quiet_want; first
    | (refine quiet_load _ _ _ (.agg I) rfl rfl (by rintro _ ⟨m, rfl⟩; exact HLi.out m) ?_; go_simp; go_big_quiet_on) | (refine quiet_load _ _ _ (.agg T) rfl rfl (by rintro _ ⟨m, rfl⟩; exact HLt.out m) ?_; go_simp; go_big_quiet_on) | (refine quiet_build _ _ #[(0, .agg T), (1, .bool false)] (T0) rfl (by simp only [List.map_toArray, List.map_cons, List.map_nil]; rfl) B1.out ?_; go_simp; go_big_quiet_on) | (refine quiet_build _ _ #[(0, .agg T), (1, .bool true)] (T1) rfl (by simp only [List.map_toArray, List.map_cons, List.map_nil]; rfl) B2.out ?_; go_simp; go_big_quiet_on)
    | (go_big_quiet_op; first | go_big_quiet_on | go_big_quiet_call (first
     | (go_at_call 74; with_reducible exact (Q1).out _) | (go_at_call 75; with_reducible exact (Q2).out _) | (go_at_call 73; with_reducible exact (Q3).out _) | (go_at_call 73; with_reducible exact (Q4).out _)))))
  refine wpQuiet_nil ?_
  rintro w2 ⟨⟨_, hk_w2⟩, rfl⟩
  go_wp2_with fail
  go_ret
  exact ⟨rfl, HkW.out.trans0 hk_w2⟩
theorem any_take {α : Type} (p : α → Bool) (l : List α) (k : Nat) (h : k < l.length) (hno : (l.take k).any p = false) : (l.take (k + 1)).any p = p l[k] := by
 rw [List.take_succ_eq_append_getElem h, List.any_append, hno]; simp
theorem any_early {α : Type} (p : α → Bool) (l : List α) (k : Nat) (h : (l.take k).any p = true) : l.any p = true := by
 rw [List.any_eq_true] at h ⊢
 obtain ⟨x, hx, h⟩ := h
 exact ⟨x, List.mem_of_mem_take hx, h⟩
set_option maxHeartbeats 8000000 in
theorem index_c (l : List (Iv K)) (t : K) (gt : Nat) (w : World) (hb : w.heap[gt]? = some (.cells (kC t) 31)) (sv : Value) (hr : IvR w sv l) (h9 : l.length ≤ 1000000000) :
  Calls Tryz.prog 108 #[sv, .func (.func 72) #[] #[.pointer (some ⟨gt, 0, none⟩)]] w fun e w' => ∃ n : Int, e = .returned (.int .i64 n) ∧ decide (0 ≤ n) = holds l t ∧ Keep [] w w' := by
 have HR := Lib.hid hr
 have Hb := Lib.hid hb
 have HC := Lib.hid (fun i w hb => contains1_c i t w gt hb)
 obtain ⟨ao, ac, rfl, _⟩ := hr.form
 clear hr hb
 unfold holds
 generalize hP : (fun i : Iv K => decide (i.f ≤ ⟨t, false⟩ ∧ (⟨t, true⟩ : Bd K) ≤ i.l)) = P at *
 have HP := Lib.hid hP
 clear hP
 go_enter Tryz.func108, Tryz.ntmps108
 go_wp2_with fail
 go_loopw [5, 8] (fun _ c wr => ∃ k : Nat, k ≤ l.length ∧ c = .int .i64 (k : Int) ∧ (l.take k).any P = false ∧ Keep [] w wr) (fun _ c _ => l.length - (intOf c).toNat)
 case atStart => exact ⟨0, Nat.zero_le _, rfl, rfl, Keep.refl _ _⟩
 case round =>
  obtain ⟨k, hk, rfl, hno, hkeep⟩ := hrel
  have Hno := Lib.hid hno
  have HKr := Lib.hid hkeep
  clear hno hkeep
  by_cases hlt : k < l.length
  ·obtain ⟨g, o, rfl, hg, hat⟩ := IvR.elem (HR.out.later HKr.out) k hlt
   have Hnx := Lib.hid (any_take P l k hlt Hno.out)
   obtain ⟨i, hi⟩ : ∃ i, l[k] = i := ⟨_, rfl⟩
   rw [hi] at Hnx hat
   have H1 := Lib.hid (HC.out i wr (HKr.out.heap Hb.out (by simp)))
   obtain ⟨p, hp⟩ : ∃ p, o + k * 20 = p := ⟨_, rfl⟩
   rw [hp] at hat
   have HL := Lib.hid (load_iv wr g p i hat)
   have hPi : decide (i.f ≤ ⟨t, false⟩ ∧ (⟨t, true⟩ : Bd K) ≤ i.l) = P i := by rw [← HP.out]
   have HPi := Lib.hid hPi
   rw [hPi] at H1
   clear hi hat hPi
   have hiv : iv i = .agg (iC i) := rfl
   rw [hiv] at H1 HL
   clear hiv
   generalize P i = r at *
   generalize iC i = I at *
   go_upto_region 4 with (fail)
   refine wp_region_lit ?_
   refine' wpList_R (v := _) (by rfl) (?hruna) (fun K hK => ?hnexta)
   case hruna => (go_simp; try rfl)
   rotate_left 0
   go_simp
   refine hK _ _ ?_
   clear hK K
   refine' wpList_R (v := _) (by rfl) (?hrunb) (fun K hK => ?hnextb)
   case hrunb => (go_simp; try rfl)
   rotate_left 0
   go_simp
   refine hK _ _ ?_
   clear hK K
   refine' wpList_R (v := _) (by rfl) (?hrunc) (fun K hK => ?hnextc)
   case hrunc => (go_simp; try rfl)
   rotate_left 0
   go_simp
   refine hK _ _ ?_
   clear hK K
   refine' wpList_R (v := _) (by rfl) (?hrund) (fun K hK => ?hnextd)
   case hrund => (go_simp; try rfl)
   rotate_left 0
   go_simp
   refine hK _ _ ?_
   clear hK K
   refine wpList_R (v := .agg I) (by rfl) (exec_load _ _ ⟨g, p, none⟩ _ rfl rfl HL.out) (fun K hK => ?_)
   go_simp
   refine hK _ _ ?_
   clear hK K
   refine wpList_plain (by rfl) (fun K hK => ?_)
   refine wp_enter 72 #[.agg I, .pointer (some ⟨gt, 0, none⟩)] (by go_simp) ?_
   refine H1.out.mono ?_
   rintro e w3 ⟨rfl, hk3⟩
   refine ⟨_, rfl, ?_⟩
   go_simp
   refine hK _ _ ?_
   clear hK K
   have HKx := Lib.hid (HKr.out.trans0 hk3)
   clear hk3 H1 HL HPi
   cases r with
   | true =>
    go_wp2_with fail
    go_ret
    exact ⟨(k : Int), rfl, by rw [any_early P l _ Hnx.out]; exact decide_eq_true (by omega), HKx.out⟩
   | false =>
    go_wp2_with fail
    go_roundw
    case rel => exact ⟨k + 1, by omega, congrArg (Value.int .i64) (by omega), Hnx.out, HKx.out⟩
    case measure => simp [intOf]; omega
  ·have hkl : l.take k = l := List.take_of_length_le (by omega)
   have HF : Hid (l.any P = false) := by rw [← hkl]; exact Hno.out
   clear hkl Hno
   go_wp2_with fail
   go_ret
   exact ⟨-1, rfl, by rw [HF.out]; rfl, HKr.out⟩
set_option maxHeartbeats 4000000 in
theorem contF_c (l : List (Iv K)) (t : K) (gt : Nat) (w : World) (hb : w.heap[gt]? = some (.cells (kC t) 31)) (sv : Value) (hr : IvR w sv l) (h9 : l.length ≤ 1000000000) :
  Calls Tryz.prog 71 #[sv, .func (.func 72) #[] #[.pointer (some ⟨gt, 0, none⟩)]] w fun e w' => e = .returned (.bool (holds l t)) ∧ Keep [] w w' := by
 have H := Lib.hid (index_c l t gt w hb sv hr h9)
 obtain ⟨ao, ac, rfl, _⟩ := hr.form
 clear hr hb
 go_enter Tryz.func71, Tryz.ntmps71
 go_wp2_with fail
 refine H.out.mono ?_
 rintro e w2 ⟨n, rfl, hn, hk⟩
 dsimp only
 have HK := Lib.hid hk
 clear hk
 go_wp2_with fail
 go_ret
 exact ⟨rfl, HK.out⟩
set_option maxHeartbeats 4000000 in
theorem contains_c (l : List (Iv K)) (t : K) (w : World) (sv : Value) (hr : IvR w sv l) (h9 : l.length ≤ 1000000000) :
  Calls Tryz.prog 32 #[sv, kv t] w fun e w' => e = .returned (.bool (holds l t)) ∧ Keep [] w w' := by
 have HR := Lib.hid hr
 have HC := Lib.hid (fun w gt hb sv hr => contF_c l t gt w hb sv hr h9)
 obtain ⟨ao, ac, rfl, _⟩ := hr.form
 clear hr h9
 show Calls Tryz.prog 32 #[_, .agg (kC t)] w _
 go_enter Tryz.func32, Tryz.ntmps32
 go_upto_region 1 with (fail)
 obtain ⟨W, ga, hW, ega, bga, hga, hgW, hkW⟩ := al1 w (.cells (kC t) 31)
 rw [← hW]
 try rw [ega]
 have Bga := Lib.hid bga
 have HkW := Lib.hid hkW
 clear hW hkW ega bga
 have H := Lib.hid (HC.out W ga Bga.out _ (HR.out.later HkW.out))
 clear HC
 go_wp2_with fail
 refine H.out.mono ?_
 rintro e w2 ⟨rfl, hk⟩
 dsimp only
 have HK := Lib.hid (HkW.out.trans0 hk)
 clear hk
 go_wp2_with fail
 go_ret
 exact ⟨rfl, HK.out⟩
end Go.Proofs.YteknldaoegccaaaGreatDoor
