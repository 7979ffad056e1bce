/- Parts of a proof about this translation: Tk, Va, Vd, Ve. -/
import Derived.Deep.Slices
import Derived.Lib.SmallJoins
import Derived.IntWalk
import Derived.Test.YteknldaoegccaaaGreatDoorW28
import Derived.Test.YteknldaoegccaaaGreatDoorW22
set_option linter.unusedVariables false
set_option linter.unusedSimpArgs false
set_option maxRecDepth 100000
namespace Go.Proofs.YteknldaoegccaaaGreatDoor
open Go.RowKit
def spcells (s : SpanA) : List Value := [.int .u8 s.a.P, .int .u8 s.a.D, .int .u8 s.a.R, .int .u8 s.a.E, .bool s.a.neg, .int .u8 s.b.P, .int .u8 s.b.D, .int .u8 s.b.R, .int .u8 s.b.E, .bool s.b.neg, .bool s.oa, .bool s.ob]
theorem spcells_len (s : SpanA) : (spcells s).length = 12 := rfl
abbrev SpR := RowE (fun s : SpanA => spcells s)
theorem infoSpan : ∃ ie, Tryz.prog.info? 63 = some ie ∧ ie.size = 12 := by
 have h : (Tryz.prog.info? 63).map (·.size) = some 12 := by kernel_rfl
 cases hi : Tryz.prog.info? 63 with
 | none => rw [hi] at h; cases h
 | some ie => rw [hi] at h; exact ⟨ie, rfl, by simpa using h⟩
theorem load_span (w : World) (b o : Nat) (s : SpanA) (hc : ∀ k v, (spcells s)[k]? = some v → w.cell? ⟨b, o + k, none⟩ = some v) : (loadVar 63 ⟨b, o, none⟩).run Tryz.prog w = .ok s.v w := by
 obtain ⟨ie, hie, hs⟩ := infoSpan
 exact Go.Lib.rl_loadVar_cells 63 ie hie Tryz.isAgg63 b o (spcells s) (by rw [hs]; rfl) w hc
theorem SpR.elem {w : World} {a : Option Addr} {n c : Nat} {l : List SpanA} (h : SpR w (.slice a n c) l) (i : Nat) (hi : i < l.length) : ∃ g o, a = some ⟨g, o, none⟩ ∧ g < w.heap.size ∧ ∀ j v, (spcells l[i])[j]? = some v → w.cell? ⟨g, o + i * 12 + j, none⟩ = some v := RowE.elem spcells_len h i hi
theorem span_keep {w w' : World} {g p : Nat} {s : SpanA} (h : ∀ j v, (spcells s)[j]? = some v → w.cell? ⟨g, p + j, none⟩ = some v) (hb : w'.heap[g]? = w.heap[g]?) : ∀ j v, (spcells s)[j]? = some v → w'.cell? ⟨g, p + j, none⟩ = some v := fun j v hj => by
 rw [World.cell?_of_block hb]; exact h j v hj
def SpQ (w : World) (v : Value) (l : List SpanA) : Prop := ∃ (a : Option Addr) (c : Nat), v = .slice a l.length c ∧ (l = [] ∨ SpR w v l)
theorem SpQ.elem {w : World} {a : Option Addr} {n c : Nat} {l : List SpanA} (h : SpQ w (.slice a n c) l) (i : Nat) (hi : i < l.length) : ∃ g o, a = some ⟨g, o, none⟩ ∧ g < w.heap.size ∧ ∀ j v, (spcells l[i])[j]? = some v → w.cell? ⟨g, o + i * 12 + j, none⟩ = some v := by
 obtain ⟨_, _, _, h | h⟩ := h
 ·subst h; simp at hi
 ·exact SpR.elem h i hi
theorem SpQ.later {w w' : World} {v : Value} {l : List SpanA} (h : SpQ w v l) (hk : Keep [] w w') : SpQ w' v l := by
 obtain ⟨a, c, h1, h2⟩ := h
 exact ⟨a, c, h1, h2.imp id (fun h => h.later hk)⟩
noncomputable def ivsOf (l : List SpanA) : List (Iv K) := (l.take 8).map SpanA.i
set_option maxHeartbeats 8000000 in
theorem intervals_c (l : List SpanA) (w : World) (sv : Value) (hr : SpQ w sv l) (h9 : l.length ≤ 9223372036854775807) :
  Calls Tryz.prog 14 #[sv] w fun e w' => ∃ v, e = .returned v ∧ IvR w' v (ivsOf l) ∧ Keep [] w w' := by
 have HR := Lib.hid hr
 have HC := Lib.hid (fun s w => interval_c s w)
 obtain ⟨ao, ac, rfl, _⟩ := hr
 go_enter Tryz.func14, Tryz.ntmps14
 go_wp2_with fail
 go_loopw [3, 4] (fun ov c wr => ∃ k : Nat, k ≤ l.length ∧ k ≤ 8 ∧ c = .int .i64 (k : Int) ∧ OI_ w wr ov ((l.take k).map SpanA.i)) (fun _ c _ => l.length - (intOf c).toNat)
 case atStart => exact ⟨0, Nat.zero_le _, Nat.zero_le _, rfl, OE.nil w⟩
 case round =>
  obtain ⟨k, hk, hk8, rfl, hov⟩ := hrel
  obtain ⟨out, hout⟩ : ∃ out, (l.take k).map SpanA.i = out := ⟨_, rfl⟩
  rw [hout] at hov
  have Hlen := Lib.hid (show out.length = k by rw [← hout, List.length_map, List.length_take, Nat.min_eq_left hk])
  have Hout := Lib.hid hout
  have HO := Lib.hid hov
  obtain ⟨oo, oc, rfl⟩ := hov.form
  clear hov hout
  by_cases hlt : k < l.length
  ·by_cases hlt8 : k < 8
   ·obtain ⟨g, o, rfl, hg, hat⟩ := SpQ.elem HR.out k hlt
    have Hstep : Hid ((l.take (k + 1)).map SpanA.i = (l.take k).map SpanA.i ++ [l[k].i]) := by rw [List.take_succ_eq_append_getElem hlt, List.map_append]; rfl
    generalize l[k] = s at *
    obtain ⟨p, hp⟩ : ∃ p, o + k * 12 = p := ⟨_, rfl⟩
    rw [hp] at hat
    have HL := Lib.hid (load_span wr g p s (span_keep hat (HO.out.keep.block g hg (by simp))))
    have H1 := Lib.hid (HC.out s)
    clear hat
    go_upto_region 5 with (fail)
    refine wp_region_lit ?_
    refine' wpList_R (v := _) (by rfl) (?hruna) (fun K hK => ?hnexta)
    case hruna => (go_simp; try rfl)
    rotate_left 0
    go_simp
    refine hK _ _ ?_
    clear hK K
    refine' wpList_R (v := _) (by rfl) (?hrunb) (fun K hK => ?hnextb)
    case hrunb => (go_simp; try rfl)
    rotate_left 0
    go_simp
    refine hK _ _ ?_
    clear hK K
    refine' wpList_R (v := _) (by rfl) (?hrunc) (fun K hK => ?hnextc)
    case hrunc => (go_simp; try rfl)
    rotate_left 0
    go_simp
    refine hK _ _ ?_
    clear hK K
    refine' wpList_R (v := _) (by rfl) (?hrund) (fun K hK => ?hnextd)
    case hrund => (go_simp; try rfl)
    rotate_left 0
    go_simp
    refine hK _ _ ?_
    clear hK K
    refine wpList_R (v := s.v) (by rfl) (exec_load _ _ ⟨g, p, none⟩ _ rfl rfl HL.out) (fun K hK => ?_)
    go_simp
    refine hK _ _ ?_
    clear hK K
    refine wpList_plain (by rfl) (fun K hK => ?_)
    refine wp_enter 44 #[s.v] (by go_simp) ?_
    refine (H1.out _).mono ?_
    rintro e w5 ⟨rfl, hk5⟩
    refine ⟨_, rfl, ?_⟩
    go_simp
    refine hK _ _ ?_
    clear hK K
    obtain ⟨ub, gx, e3, e4, hz1, hkx, hx⟩ := IvR.single s.i w5
    have hW := hk5.trans0 hkx
    refine wpList_K (v := .slice (some ⟨w5.heap.size, 0, none⟩) 1 1) (by rfl) (exec_bs 23 1 #[(0, .tmp 20)] #[(0, iv s.i)] _ rfl (by simp only [List.map_toArray, List.map_cons, List.map_nil]; rfl) (build1_i s.i _)) (fun K hK => ?_)
    rw [e3, e4]
    clear e3
    go_simp
    refine hK _ _ ?_
    clear hK K
    obtain ⟨v4, u4, hr4, ho4, hn4, _⟩ := IvR.app (ty := 23) (HO.out.later hW) (.inr (by simp)) hx (by rw [Hlen.out]; simp; omega)
    refine wpList_K (by rfl) (exec_app (.tmp 15) (.tmp 21) 23 _ _ _ rfl rfl rfl hr4) (fun K hK => ?_)
    go_simp
    refine hK _ _ ?_
    clear hK K hr4 hx hkx hW hk5
    have HN := Lib.hid ho4
    obtain ⟨no, nc, rfl⟩ := ho4.form
    clear ho4 hn4
    go_wp2_with fail
    go_roundw
    case rel => exact ⟨k + 1, by omega, by omega, congrArg (Value.int .i64) (by omega), by rw [Hstep.out, Hout.out]; exact HN.out⟩
    case measure => simp [intOf]; omega
   ·obtain rfl : k = 8 := by omega
    have HF : Hid (out = ivsOf l) := Hout.out.symm
    go_wp2_with fail
    go_ret
    exact ⟨_, rfl, by rw [← HF.out]; exact HO.out.read, HO.out.keep⟩
  ·have hkl : l.take k = l.take 8 := by rw [List.take_of_length_le (by omega), List.take_of_length_le (by omega)]
   have HF : Hid (out = ivsOf l) := by
    unfold ivsOf
    rw [← hkl]
    exact Hout.out.symm
   clear hkl
   go_wp2_with fail
   go_ret
   exact ⟨_, rfl, by rw [← HF.out]; exact HO.out.read, HO.out.keep⟩
end Go.Proofs.YteknldaoegccaaaGreatDoor
set_option maxRecDepth 100000
namespace Go.Proofs.YteknldaoegccaaaGreatDoor
open Go.RowKit
open Go.ChangeShapes Go.WideShapes Go.ChangeAt
theorem mapM_get {α β : Type} (f : α → Option β) : ∀ (l : List α) (cs : List β), l.mapM f = some cs → cs.length = l.length ∧ ∀ (i : Nat) (x : α), l[i]? = some x → f x = cs[i]?
 | [], cs, h => by
  simp at h; subst h; exact ⟨rfl, fun i x hx => by simp at hx⟩
 | x :: l, cs, h => by
  rw [List.mapM_cons] at h
  simp only [Option.bind_eq_bind, Option.pure_def, Option.bind_eq_some_iff] at h
  obtain ⟨y, hy, ys, hys, h⟩ := h
  simp at h; subst h
  obtain ⟨h1, h2⟩ := mapM_get f l ys hys
  refine ⟨by simp [h1], fun i z hz => ?_⟩
  cases i with
  | zero => simp at hz; subst hz; simpa using hy
  | succ i => simp at hz ⊢; exact h2 i z hz
theorem cells?_get {w : World} {base n : Nat} {a : Addr} {cs : List Value} (h : w.cells? base a n = some cs) : cs.length = n ∧ ∀ i, i < n → w.cell? (a.add i) = cs[i]? := by
 unfold World.cells? at h
 split at h
 ·obtain ⟨h1, h2⟩ := mapM_get _ _ _ h
  exact ⟨by simpa using h1, fun i hi => h2 i i (by rw [List.getElem?_range hi])⟩
 ·cases h
theorem plain_of_cell {w : World} {a : Addr} {v : Value} (h : w.cell? a = some v) : ∃ b off, a = ⟨b, off, none⟩ := by
 obtain ⟨b, off, sp⟩ := a
 cases sp with
 | none => exact ⟨b, off, rfl⟩
 | some x => simp [World.cell?] at h; split at h <;> simp at h
theorem cells_u8 : Tryz.prog.cellsOf 5 = 1 := by kernel_rfl
theorem cells_bool : Tryz.prog.cellsOf 4 = 1 := by kernel_rfl
theorem cells_Ins : Tryz.prog.cellsOf 51 = 5 := by kernel_rfl
theorem cells_Span : Tryz.prog.cellsOf 63 = 12 := by kernel_rfl
def InsA.cs (a : InsA) : List Value := [.int .u8 a.P, .int .u8 a.D, .int .u8 a.R, .int .u8 a.E, .bool a.neg]
section
variable {H : Type} {enc : TypeId × Value → H} {w : World} {base : Nat} {held : Bool} {fuel : Nat}
theorem ins_trod {cs : List Value} {x : DataW H × List MemPlace} (h : DataW.trod enc Tryz.prog w base (fun _ => true) held fuel 51 cs = some x) : ∃ a : InsA, cs = a.cs := by
 obtain ⟨xs, n, _, rfl, hl, hlen, hf⟩ := DataW.trod_struct Tryz.underlying51 h
 rw [cells_Ins] at hl
 match cs, hl with
 | [c0, c1, c2, c3, c4], _ =>
  match xs, hlen with
  | [x0, x1, x2, x3, x4], _ =>
   have h0 : DataW.trod enc Tryz.prog w base (fun _ => true) held n 5 (([c0, c1, c2, c3, c4].drop 0).take (Tryz.prog.cellsOf 5)) = some x0 := hf 0 _ rfl
   have h1 : DataW.trod enc Tryz.prog w base (fun _ => true) held n 5 (([c0, c1, c2, c3, c4].drop 1).take (Tryz.prog.cellsOf 5)) = some x1 := hf 1 _ rfl
   have h2 : DataW.trod enc Tryz.prog w base (fun _ => true) held n 5 (([c0, c1, c2, c3, c4].drop 2).take (Tryz.prog.cellsOf 5)) = some x2 := hf 2 _ rfl
   have h3 : DataW.trod enc Tryz.prog w base (fun _ => true) held n 5 (([c0, c1, c2, c3, c4].drop 3).take (Tryz.prog.cellsOf 5)) = some x3 := hf 3 _ rfl
   have h4 : DataW.trod enc Tryz.prog w base (fun _ => true) held n 4 (([c0, c1, c2, c3, c4].drop 4).take (Tryz.prog.cellsOf 4)) = some x4 := hf 4 _ rfl
   rw [cells_u8] at h0 h1 h2 h3
   rw [cells_bool] at h4
   obtain ⟨n0, e0, _, w0⟩ := DataW.trod_int Tryz.underlying5 h0
   obtain ⟨n1, e1, _, w1⟩ := DataW.trod_int Tryz.underlying5 h1
   obtain ⟨n2, e2, _, w2⟩ := DataW.trod_int Tryz.underlying5 h2
   obtain ⟨n3, e3, _, w3⟩ := DataW.trod_int Tryz.underlying5 h3
   obtain ⟨n4, e4, _⟩ := DataW.trod_bool Tryz.underlying4 h4
   simp at e0 e1 e2 e3 e4
   subst e0 e1 e2 e3 e4
   have b0 := bounds_u8 w0
   have b1 := bounds_u8 w1
   have b2 := bounds_u8 w2
   have b3 := bounds_u8 w3
   refine ⟨⟨n0.toNat, n1.toNat, n2.toNat, n3.toNat, n4, by omega, by omega, by omega, by omega⟩, ?_⟩
   simp [InsA.cs, Int.toNat_of_nonneg b0.1, Int.toNat_of_nonneg b1.1, Int.toNat_of_nonneg b2.1, Int.toNat_of_nonneg b3.1]
theorem span_trod {cs : List Value} {x : DataW H × List MemPlace} (h : DataW.trod enc Tryz.prog w base (fun _ => true) held fuel 63 cs = some x) : ∃ s : SpanA, cs = spcells s := by
 obtain ⟨xs, n, _, rfl, hl, hlen, hf⟩ := DataW.trod_struct Tryz.underlying63 h
 rw [cells_Span] at hl
 match cs, hl with
 | [c0, c1, c2, c3, c4, c5, c6, c7, c8, c9, c10, c11], _ =>
  match xs, hlen with
  | [x0, x1, x2, x3], _ =>
   have h0 : DataW.trod enc Tryz.prog w base (fun _ => true) held n 51 (([c0, c1, c2, c3, c4, c5, c6, c7, c8, c9, c10, c11].drop 0).take (Tryz.prog.cellsOf 51)) = some x0 := hf 0 _ rfl
   have h1 : DataW.trod enc Tryz.prog w base (fun _ => true) held n 51 (([c0, c1, c2, c3, c4, c5, c6, c7, c8, c9, c10, c11].drop 5).take (Tryz.prog.cellsOf 51)) = some x1 := hf 1 _ rfl
   have h2 : DataW.trod enc Tryz.prog w base (fun _ => true) held n 4 (([c0, c1, c2, c3, c4, c5, c6, c7, c8, c9, c10, c11].drop 10).take (Tryz.prog.cellsOf 4)) = some x2 := hf 2 _ rfl
   have h3 : DataW.trod enc Tryz.prog w base (fun _ => true) held n 4 (([c0, c1, c2, c3, c4, c5, c6, c7, c8, c9, c10, c11].drop 11).take (Tryz.prog.cellsOf 4)) = some x3 := hf 3 _ rfl
   rw [cells_Ins] at h0 h1
   rw [cells_bool] at h2 h3
   obtain ⟨a, e0⟩ := ins_trod h0
   obtain ⟨b, e1⟩ := ins_trod h1
   obtain ⟨o, e2, _⟩ := DataW.trod_bool Tryz.underlying4 h2
   obtain ⟨c, e3, _⟩ := DataW.trod_bool Tryz.underlying4 h3
   refine ⟨⟨a, b, o, c⟩, ?_⟩
   simp [InsA.cs] at e0 e1 e2 e3
   simp [spcells, e0, e1, e2, e3]
theorem spans_trod {sv : Value} {x : DataW H × List MemPlace} (h : DataW.trod enc Tryz.prog w base (fun _ => true) held fuel 22 [sv] = some x) :
  ∃ l : List SpanA, SpQ w sv l ∧ l.length ≤ maxLen := by
 rcases Go.Deep.open_slice Tryz.underlying22 h with ⟨hcs, _⟩ | ⟨a, len, cap, m, n, D, Pl, hcs, _, hl, hm, hmm, _, hel⟩
 ·simp at hcs; exact ⟨[], ⟨none, 0, hcs, .inl rfl⟩, by simp⟩
 ·simp at hcs hmm
  by_cases h0 : len = 0
  ·subst h0; exact ⟨[], ⟨_, cap, hcs, .inl rfl⟩, by simp⟩
  ·have hall : ∀ i, i < cap → ∃ s : SpanA, w.cells? base (a.add (i * 12)) 12 = some (spcells s) := by
    intro i hi
    obtain ⟨cs', h1, h2⟩ := hel i (by omega)
    rw [cells_Span] at h1
    obtain ⟨s, rfl⟩ := span_trod h2
    exact ⟨s, h1⟩
   have hfun : ∃ f : Nat → SpanA, ∀ i, i < cap → w.cells? base (a.add (i * 12)) 12 = some (spcells (f i)) := by
    obtain ⟨s0, _⟩ := hall 0 (by omega)
    exact ⟨fun i => if h : i < cap then Classical.choose (hall i h) else s0, fun i hi => by simp only [hi, dif_pos]; exact Classical.choose_spec (hall i hi)⟩
   obtain ⟨f, hf⟩ := hfun
   have hc0 := (cells?_get (hf 0 (by omega))).2 0 (by omega)
   obtain ⟨b, off, hp⟩ := plain_of_cell (v := .int .u8 (f 0).a.P) (by simpa [spcells] using hc0)
   have ha : a = ⟨b, off, none⟩ := by unfold Addr.add at hp; simpa using hp
   subst ha
   refine ⟨(List.range len).map f, ⟨some ⟨b, off, none⟩, cap, by simpa using hcs, .inr ?_⟩, by simp; omega⟩
   refine .inr ⟨b, off, cap, by simpa using hcs, by simp; omega, ?_, fun t v hv => ?_⟩
   ·exact World.block_lt_of_cell? w _ (by
     have e := hc0
     rw [add_plain, add_plain] at e
     simp only [Nat.zero_mul, Nat.add_zero] at e
     exact e.trans (by simp [spcells]; rfl))
   ·have ht : t < len * 12 := by
     have := (List.getElem?_eq_some_iff.1 hv).1
     rw [flat_len (fun s : SpanA => spcells s) spcells_len] at this
     simpa using this
    have hi : t / 12 < len := Nat.div_lt_of_lt_mul (by rw [Nat.mul_comm]; exact ht)
    have hj : t % 12 < 12 := Nat.mod_lt _ (by decide)
    have h1 := flat_get (fun s : SpanA => spcells s) spcells_len ((List.range len).map f) (t / 12) (t % 12) (by simpa using hi) hj
    rw [Nat.div_add_mod' t 12, hv] at h1
    have h2 := (cells?_get (hf (t / 12) (by omega))).2 (t % 12) hj
    rw [add_plain, add_plain, Nat.add_assoc, Nat.div_add_mod' t 12] at h2
    rw [h2, h1]
    simp
end
def SpArg (w : World) (v : Value) : Prop := ∃ l : List SpanA, SpQ w v l ∧ l.length ≤ 9223372036854775807
theorem SpArg_open {H : Type} {enc : TypeId × Value → H} {W : World} {v : Value} {base : Nat} {d : DataW H} {p : List MemPlace} (hv : Value.okWide Tryz.prog W .any base 22 v)
  (h : ∃ m, DataW.trod enc Tryz.prog W 0 (fun _ => true) true m 22 v.cells.toList = some (d, p)) : SpArg W v := by
 obtain ⟨a, len, cap, rfl⟩ := okWide_slice Tryz.underlying22 hv
 obtain ⟨m, hm⟩ := h
 obtain ⟨l, h1, h2⟩ := spans_trod hm
 exact ⟨l, h1, by unfold maxLen at h2; omega⟩
end Go.Proofs.YteknldaoegccaaaGreatDoor
set_option maxRecDepth 100000
namespace Go.Proofs.YteknldaoegccaaaGreatDoor
open Go.RowKit
open Go.ChangeShapes Go.WideShapes Go.ChangeAt
theorem agg_of_cells {v : Value} {l : List Value} (h : v.cells.toList = l) (hl : l.length ≠ 1) : v = .agg l.toArray := by
 cases v with
 | agg c => subst h; simp [Value.cells]
 | _ => subst h; exact absurd rfl hl
structure FrA where
 num : Int
 den : Int
 up : Nat
 down : Nat
 hn : -9223372036854775808 ≤ num ∧ num ≤ 9223372036854775807
 hd : -9223372036854775808 ≤ den ∧ den ≤ 9223372036854775807
 hu : up ≤ 255
 hw : down ≤ 255
def FrA.v (a : FrA) : Value := .agg #[.int .i64 a.num, .int .i64 a.den, .int .u8 a.up, .int .u8 a.down]
def FrArg (_ : World) (v : Value) : Prop := ∃ a : FrA, v = a.v
theorem cells_int : Tryz.prog.cellsOf 3 = 1 := by kernel_rfl
theorem cells_Frac : Tryz.prog.cellsOf 44 = 4 := by kernel_rfl
theorem frac_trod {H : Type} {enc : TypeId × Value → H} {w : World} {base : Nat} {held : Bool} {fuel : Nat} {cs : List Value} {x : DataW H × List MemPlace} (h : DataW.trod enc Tryz.prog w base (fun _ => true) held fuel 44 cs = some x) : ∃ a : FrA, cs = [.int .i64 a.num, .int .i64 a.den, .int .u8 a.up, .int .u8 a.down] := by
 obtain ⟨xs, n, _, rfl, hl, hlen, hf⟩ := DataW.trod_struct Tryz.underlying44 h
 rw [cells_Frac] at hl
 match cs, hl with
 | [c0, c1, c2, c3], _ =>
  match xs, hlen with
  | [x0, x1, x2, x3], _ =>
   have h0 : DataW.trod enc Tryz.prog w base (fun _ => true) held n 3 (([c0, c1, c2, c3].drop 0).take (Tryz.prog.cellsOf 3)) = some x0 := hf 0 _ rfl
   have h1 : DataW.trod enc Tryz.prog w base (fun _ => true) held n 3 (([c0, c1, c2, c3].drop 1).take (Tryz.prog.cellsOf 3)) = some x1 := hf 1 _ rfl
   have h2 : DataW.trod enc Tryz.prog w base (fun _ => true) held n 5 (([c0, c1, c2, c3].drop 2).take (Tryz.prog.cellsOf 5)) = some x2 := hf 2 _ rfl
   have h3 : DataW.trod enc Tryz.prog w base (fun _ => true) held n 5 (([c0, c1, c2, c3].drop 3).take (Tryz.prog.cellsOf 5)) = some x3 := hf 3 _ rfl
   rw [cells_int] at h0 h1
   rw [cells_u8] at h2 h3
   obtain ⟨n0, e0, _, w0⟩ := DataW.trod_int Tryz.underlying3 h0
   obtain ⟨n1, e1, _, w1⟩ := DataW.trod_int Tryz.underlying3 h1
   obtain ⟨n2, e2, _, w2⟩ := DataW.trod_int Tryz.underlying5 h2
   obtain ⟨n3, e3, _, w3⟩ := DataW.trod_int Tryz.underlying5 h3
   simp at e0 e1 e2 e3
   subst e0 e1 e2 e3
   have b0 := bounds_i64 w0
   have b1 := bounds_i64 w1
   have b2 := bounds_u8 w2
   have b3 := bounds_u8 w3
   refine ⟨⟨n0, n1, n2.toNat, n3.toNat, by omega, by omega, by omega, by omega⟩, ?_⟩
   simp [Int.toNat_of_nonneg b2.1, Int.toNat_of_nonneg b3.1]
theorem FrArg_open {H : Type} {enc : TypeId × Value → H} {W : World} {v : Value} {base : Nat} {d : DataW H} {p : List MemPlace} (hv : Value.okWide Tryz.prog W .any base 44 v)
  (h : ∃ m, DataW.trod enc Tryz.prog W 0 (fun _ => true) true m 44 v.cells.toList = some (d, p)) : FrArg W v := by
 obtain ⟨m, hm⟩ := h
 obtain ⟨a, ha⟩ := frac_trod hm
 exact ⟨a, agg_of_cells ha (by simp)⟩
end Go.Proofs.YteknldaoegccaaaGreatDoor
set_option maxRecDepth 100000
namespace Go.Proofs.YteknldaoegccaaaGreatDoor
open Go.RowKit
theorem magS_shift {m : Nat} (h : 0 < m) : magS (m * 256) = magS m ++ ⟨#[0]⟩ := by
 apply ByteArray.ext
 apply Array.toList_inj.1
 rw [magS_list, magL_pos (by omega), Nat.mul_div_cancel _ (by omega), Nat.mul_mod_left]
 rw [ByteArray.data_append, Array.toList_append, magS_list]
 rfl
theorem mgS_shift {z : Int} (h : z ≠ 0) : mgS (z * 256) = mgS z ++ ⟨#[0]⟩ := by
 unfold mgS
 rw [Int.natAbs_mul]
 exact magS_shift (by omega)
theorem sgB_shift {z : Int} : sgB (z * 256) = sgB z := by
 unfold sgB
 by_cases h : z < 0
 ·have h2 : z * 256 < 0 := by omega
  simp [h, h2]
 ·have h2 : ¬ z * 256 < 0 := by omega
  simp [h, h2]
theorem al_int (ev : Operand → Value) (w : World) (o : Oper) (ho : o.op = .alloc 27) : (execOp ev o).run Tryz.prog w = .ok (.value (.pointer (some ⟨w.heap.size, 0, none⟩))) (w.alloc (.cells #[.bool false, .string ⟨#[]⟩] 27)) := by
 unfold execOp
 simp only [ho]
 go_simp
theorem z_one (b : Bool) (s : ByteArray) : (#[.bool b, .string s] : Array Value).all (·.oneCell') = true := by kernel_rfl
theorem mgS_up {n : Int} {k : Nat} (h : n.natAbs < 256 ^ 8) : (mgS (n * 256 ^ k)).size ≤ 8 + k := by
 refine Fit_iff.2 ?_
 rw [Int.natAbs_mul, Int.natAbs_pow, Nat.pow_add]
 exact Nat.mul_lt_mul_of_pos_right h (Nat.pow_pos (by decide))
theorem sgB_up {z : Int} {k : Nat} : sgB (z * 256 ^ k) = sgB z := by
 induction k with
 | zero => simp
 | succ k ih => rw [Int.pow_succ, ← Int.mul_assoc, sgB_shift, ih]
def FrA.d (a : FrA) : Int := if a.den = 0 then 1 else a.den
def FrA.q (a : FrA) : Rat := Rat.divInt (a.num * 256 ^ (a.up % 9)) (a.d * 256 ^ (a.down % 9))
set_option maxHeartbeats 8000000 in
theorem rat_c (a : FrA) (w : World) : Calls Tryz.prog 62 #[a.v] w fun e w' => e = .returned (rv a.q) ∧ Keep [] w w' := by
 have H1 := Lib.hid (rint_c a.num a.hn.1 a.hn.2)
 have hd2 : -9223372036854775808 ≤ a.d ∧ a.d ≤ 9223372036854775807 := by have := a.hd; unfold FrA.d; split <;> omega
 have hd0 : a.d ≠ 0 := by unfold FrA.d; split <;> omega
 have H2 := Lib.hid (rint_c a.d hd2.1 hd2.2)
 have hD : a.d = if a.den = 0 then 1 else a.den := rfl
 unfold FrA.v FrA.q
 have hn9 : a.num.natAbs < 256 ^ 8 := by have := a.hn; omega
 have hd9 : a.d.natAbs < 256 ^ 8 := by omega
 have hu := a.hu
 have hw := a.hw
 generalize a.num = n at *
 generalize a.den = d0 at *
 generalize a.up = u at *
 generalize a.down = v at *
 generalize a.d = d at *
 have HD := Lib.hid hD
 clear hD
 go_enter Tryz.func62, Tryz.ntmps62
 go_upto_region 1 with (fail)
 obtain ⟨W, ga, gb, hW, ega, egb, bga, bgb, hga, hgb, hgW, hkW⟩ := al2 w (.cells #[.int .i64 n, .int .i64 d0, .int .u8 u, .int .u8 v] 44) (.cells #[.bool false, .string ⟨#[]⟩, .bool false, .string ⟨#[]⟩] 29)
 rw [← hW]
 try rw [egb]
 try rw [ega]
 have Bga := Lib.hid bga
 have Bgb := Lib.hid bgb
 have HkW := Lib.hid hkW
 clear hW hkW ega egb bga bgb
 have pga := cell_of Bga.out
 have fga := frozen_of Bga.out
 have hz : (d0 == 0) = decide (d0 = 0) := rfl
 go_upto_if 11 with (fail)
 go_cut [3] (fun zv wx => wx = W ∧ zv = .int .i64 d)
 case first =>
  by_cases h0 : d0 = 0
  ·have hb : (d0 == 0) = true := by simp [h0]
   have hdd : d = 1 := by rw [HD.out, if_pos h0]
   subst h0 hdd
   go_wp2_with fail
   go_meet
   exact ⟨rfl, rfl⟩
  ·have hb : (d0 == 0) = false := by simp [h0]
   have hdd : d = d0 := by rw [HD.out, if_neg h0]
   subst hdd
   go_wp2_with fail
   go_meet
   exact ⟨rfl, rfl⟩
 case rest =>
  obtain ⟨rfl, rfl⟩ := hcut
  rename World => W
  clear hz fga pga
  have pga := cell_of Bga.out
  go_upto_region 4 with (fail)
  refine wp_region_lit ?_
  refine' wpList_R (v := _) (by rfl) (?hruna) (fun K hK => ?hnexta)
  case hruna => (go_simp; try rfl)
  rotate_left 0
  go_simp
  refine hK _ _ ?_
  clear hK K
  refine' wpList_R (v := _) (by rfl) (?hrunb) (fun K hK => ?hnextb)
  case hrunb => (go_simp; try rfl)
  rotate_left 0
  go_simp
  refine hK _ _ ?_
  clear hK K
  refine wpList_plain (by rfl) (fun K hK => ?_)
  refine wp_enter 90 #[.int .i64 n] (by go_simp) ?_
  refine (H1.out _).mono ?_
  rintro e w2 ⟨rfl, hk2⟩
  refine ⟨_, rfl, ?_⟩
  go_simp
  refine hK _ _ ?_
  clear hK K
  refine' wpList_R (v := _) (by rfl) (?hrunc) (fun K hK => ?hnextc)
  case hrunc => (go_simp; try rfl)
  rotate_left 0
  go_simp
  refine hK _ _ ?_
  clear hK K
  refine wpList_plain (by rfl) (fun K hK => ?_)
  refine wp_enter 90 #[.int .i64 d] (by go_simp) ?_
  refine (H2.out _).mono ?_
  rintro e w3 ⟨rfl, hk3⟩
  refine ⟨_, rfl, ?_⟩
  go_simp
  refine hK _ _ ?_
  clear hK K pga H1 H2
  have HK3 := Lib.hid (HkW.out.trans0 (hk2.trans0 hk3))
  have Bga := Lib.hid ((hk2.trans0 hk3).heap Bga.out (by simp))
  have Bgb := Lib.hid ((hk2.trans0 hk3).heap Bgb.out (by simp))
  clear hk2 hk3
  unfold zv
  obtain ⟨w4, gc, e1, e2, bgc, hgc, _, hk4⟩ := al1 w3 (.cells #[.bool false, .string ⟨#[]⟩] 27)
  refine wpList_K (v := .pointer (some ⟨w3.heap.size, 0, none⟩)) (w' := w3.alloc (.cells #[.bool false, .string ⟨#[]⟩] 27)) (by rfl) (al_int _ _ _ rfl) (fun K hK => ?_)
  rw [← e1, e2]
  clear e1
  go_simp
  refine hK _ _ ?_
  clear hK K
  obtain ⟨w5, gd, e3, e4, bgd, hgd, _, hk5⟩ := al1 w4 (.cells #[.bool false, .string ⟨#[]⟩] 27)
  refine wpList_K (v := .pointer (some ⟨w4.heap.size, 0, none⟩)) (w' := w4.alloc (.cells #[.bool false, .string ⟨#[]⟩] 27)) (by rfl) (al_int _ _ _ rfl) (fun K hK => ?_)
  rw [← e3, e4]
  clear e3
  go_simp
  refine hK _ _ ?_
  clear hK K
  have bgc := hk5.heap bgc (by simp)
  have hne : gc ≠ gd := by have := lt_of_heap bgc; omega
  refine wpList_rowK (by rfl) _ _ _ rfl gc #[.bool (sgB n), .string (mgS n)] rfl rfl _ _ bgc (by rfl) (by rfl) (z_one _ _) (fun K hK => ?_)
  obtain ⟨w6, e5, b6, k6⟩ := setRow_at (cs := #[.bool (sgB n), .string (mgS n)]) bgc
  rw [e5]
  go_simp
  refine hK _ _ ?_
  clear hK K e5
  have bgd := k6.heap bgd (by simp; omega)
  refine wpList_rowK (by rfl) _ _ _ rfl gd #[.bool (sgB d), .string (mgS d)] rfl rfl _ _ bgd (by rfl) (by rfl) (z_one _ _) (fun K hK => ?_)
  obtain ⟨w7, e7, b7, k7⟩ := setRow_at (cs := #[.bool (sgB d), .string (mgS d)]) bgd
  rw [e7]
  go_simp
  refine hK _ _ ?_
  clear hK K e7
  have bgc := k7.heap b6 (by simp; omega)
  have k35 := hk4.trans0 hk5
  have k36 : Keep [] w3 w6 := k35.trans k6 (by simp; omega)
  have k37 : Keep [] w3 w7 := k36.trans k7 (by simp; omega)
  have HK7 := Lib.hid (HK3.out.trans0 k37)
  have hgw : w.heap.size ≤ gb ∧ w.heap.size ≤ gc ∧ w.heap.size ≤ gd ∧ gc ≠ gd := ⟨by omega, by have := HK3.out.size; omega, by have := HK3.out.size; have := k35.size; have := hk4.size; omega, hne⟩
  have hga3 : ga < gc ∧ gb < gc ∧ ga < gd ∧ gb < gd := by have := hk4.size; have h1 := lt_of_heap Bga.out; have h2 := lt_of_heap Bgb.out; omega
  have Bga := Lib.hid (k37.heap Bga.out (by simp))
  have Bgb := Lib.hid (k37.heap Bgb.out (by simp))
  have Bgc := Lib.hid bgc
  have Bgd := Lib.hid b7
  have Hne := Lib.hid hne
  clear hk4 hk5 k6 k7 b6 b7 k35 k36 k37 bgc bgd HK3 hne
  go_upto_block 0 with (fail)
  go_cut [6] (fun _ wx => wx.heap[gc]? = some (.cells #[.bool (sgB n), .string (mgS (n * 256 ^ (u % 9)))] 27) ∧ Keep [gc] w7 wx)
  case first =>
   go_wp2_with fail
   go_loopw [6] (fun c wr => ∃ k : Nat, k ≤ u % 9 ∧ c = .int .u8 (k : Int) ∧ wr.heap[gc]? = some (.cells #[.bool (sgB n), .string (mgS (n * 256 ^ k))] 27) ∧ Keep [gc] w7 wr) (fun c _ => u - (intOf c).toNat)
   case atStart => exact ⟨0, Nat.zero_le _, rfl, by simpa using Bgc.out, Keep.refl _ _⟩
   case round =>
    obtain ⟨k, hk, rfl, hbc, hkeep⟩ := hrel
    have HKr := Lib.hid hkeep
    have Bgc := Lib.hid hbc
    have Bga := Lib.hid (hkeep.heap Bga.out (by simp; omega))
    clear hkeep hbc
    have pga := cell_of Bga.out
    have fga := frozen_of Bga.out
    have pgc := cell_of Bgc.out
    have fgc := frozen_of Bgc.out
    have lgc := lt_of_heap Bgc.out
    have hrem : IntKind.u8.wrap (Int.tmod (u : Int) 9) = ((u % 9 : Nat) : Int) := by
     rw [Int.tmod_eq_emod_of_nonneg (by omega), IntWalk.u8_in _ (by omega)]; omega
    by_cases hlt : k < u % 9
    ·have hk1 : (k : Int) < (u : Int) % 9 := by omega
     by_cases hn0 : n = 0
     ·have hm : mgS (n * 256 ^ k) = mgS (n * 256 ^ (u % 9)) := by rw [hn0, Int.zero_mul, Int.zero_mul]
      have hm0 : mgS (n * 256 ^ k) = ⟨#[]⟩ := by rw [hn0, Int.zero_mul]; exact magS_zero
      have HF := Lib.hid (hm ▸ Bgc.out)
      clear hm hn0
      rw [hm0] at pgc
      have hs : (ByteArray.toList ⟨#[]⟩).isEmpty = true := by rw [Lib.toList_data]; rfl
      go_wp2_with fail
      go_meet
      exact ⟨HF.out, HKr.out⟩
     ·have hne : mgS (n * 256 ^ k) ≠ ⟨#[]⟩ := fun h => by
       have h2 := magS_empty.1 (show magS (n * 256 ^ k).natAbs = ⟨#[]⟩ from h)
       rw [Int.natAbs_mul, Int.natAbs_pow] at h2
       have h3 := Nat.pow_pos (n := k) (show 0 < (256 : Nat) by omega)
       have h4 := Nat.mul_pos (show 0 < n.natAbs by omega) h3
       have : (256 : Int).natAbs = 256 := rfl
       rw [this] at h2
       omega
      have Hnx : Hid (mgS (n * 256 ^ (k + 1)) = mgS (n * 256 ^ k) ++ ⟨#[0]⟩) := by
       rw [Int.pow_succ, ← Int.mul_assoc]
       exact mgS_shift (fun h => hne (by rw [h]; exact magS_zero))
      have hs : (mgS (n * 256 ^ k)).toList.isEmpty = false := by
       rw [Lib.toList_data, List.isEmpty_eq_false_iff]
       exact fun h => hne (ByteArray.ext (Array.toList_inj.1 h))
      have hsz : ¬ 9223372036854775807 < (mgS (n * 256 ^ k)).size + 1 := by
       have := mgS_up hn9 (k := k)
       omega
      clear hn0 hne
      generalize mgS (n * 256 ^ k) = s at *
      go_wp2_with fail
      have b2 := set_same Bgc.out 1 (.string (s ++ ⟨#[0]⟩))
      have k2 := HKr.out.trans (Keep.setCell [gc] wr gc 1 (.string (s ++ ⟨#[0]⟩)) (by simp)) (by simp)
      go_roundw
      case rel => exact ⟨k + 1, by omega, congrArg (Value.int .u8) (by omega), by rw [Hnx.out]; exact b2, k2⟩
      case measure => simp [intOf]; omega
    ·obtain rfl : k = u % 9 := by omega
     have hk1 : ¬ (((u % 9 : Nat) : Int) < (u : Int) % 9) := by omega
     have HF := Lib.hid Bgc.out
     go_wp2_with fail
     go_meet
     exact ⟨HF.out, HKr.out⟩
  case rest =>
   obtain ⟨hbc, hkc⟩ := hcut
   rename World => w8
   have HK8 := Lib.hid (HK7.out.trans hkc (by simp; omega))
   have Bga := Lib.hid (hkc.heap Bga.out (by simp; omega))
   have Bgb := Lib.hid (hkc.heap Bgb.out (by simp; omega))
   have Bgd := Lib.hid (hkc.heap Bgd.out (by simp; omega))
   have Bgc := Lib.hid hbc
   clear hbc hkc HK7
   generalize hN : n * 256 ^ (u % 9) = N at *
   go_wp2_with fail
   go_loopw [7] (fun c wr => ∃ k : Nat, k ≤ v % 9 ∧ c = .int .u8 (k : Int) ∧ wr.heap[gd]? = some (.cells #[.bool (sgB d), .string (mgS (d * 256 ^ k))] 27) ∧ Keep [gd] w8 wr) (fun c _ => v - (intOf c).toNat)
   case atStart => exact ⟨0, Nat.zero_le _, rfl, by simpa using Bgd.out, Keep.refl _ _⟩
   case round =>
    obtain ⟨k, hk, rfl, hbd, hkeep⟩ := hrel
    have HKr := Lib.hid hkeep
    have Bgd := Lib.hid hbd
    have Bga := Lib.hid (hkeep.heap Bga.out (by simp; omega))
    have Bgb := Lib.hid (hkeep.heap Bgb.out (by simp; omega))
    have Bgc := Lib.hid (hkeep.heap Bgc.out (by simp; omega))
    clear hkeep hbd
    have pga := cell_of Bga.out
    have fga := frozen_of Bga.out
    have pgd := cell_of Bgd.out
    have fgd := frozen_of Bgd.out
    have lgd := lt_of_heap Bgd.out
    by_cases hlt : k < v % 9
    ·have hk1 : (k : Int) < (v : Int) % 9 := by omega
     have Hnx : Hid (mgS (d * 256 ^ (k + 1)) = mgS (d * 256 ^ k) ++ ⟨#[0]⟩) := by
      rw [Int.pow_succ, ← Int.mul_assoc]
      refine mgS_shift (fun h => ?_)
      rcases Int.mul_eq_zero.1 h with h | h
      ·exact hd0 h
      ·exact absurd h (by have := Int.pow_pos (n := (256 : Int)) (m := k) (by decide); omega)
     have hsz : ¬ 9223372036854775807 < (mgS (d * 256 ^ k)).size + 1 := by
      have := mgS_up hd9 (k := k)
      omega
     generalize mgS (d * 256 ^ k) = s at *
     go_wp2_with fail
     have b2 := set_same Bgd.out 1 (.string (s ++ ⟨#[0]⟩))
     have k2 := HKr.out.trans (Keep.setCell [gd] wr gd 1 (.string (s ++ ⟨#[0]⟩)) (by simp)) (by simp)
     go_roundw
     case rel => exact ⟨k + 1, by omega, congrArg (Value.int .u8) (by omega), by rw [Hnx.out]; exact b2, k2⟩
     case measure => simp [intOf]; omega
    ·obtain rfl : k = v % 9 := by omega
     have hk1 : ¬ (((v % 9 : Nat) : Int) < (v : Int) % 9) := by omega
     have pgb := cell_of Bgb.out
     have fgb := frozen_of Bgb.out
     have lgb := lt_of_heap Bgb.out
     have pgc := cell_of Bgc.out
     have HKz := Lib.hid (HK8.out.trans HKr.out (by simp; omega))
     have sgn : sgB n = sgB N := by rw [← hN]; exact sgB_up.symm
     have sgd : sgB d = sgB (d * 256 ^ (v % 9)) := sgB_up.symm
     generalize hD : d * 256 ^ (v % 9) = D at *
     have hDn : D ≠ 0 := by
      rw [← hD]
      exact fun h => (Int.mul_eq_zero.1 h).elim hd0 (fun h => absurd h (by have := Int.pow_pos (n := (256 : Int)) (m := v % 9) (by decide); omega))
     have hfN : Fit 100000000 N := by
      have h := mgS_up hn9 (k := u % 9)
      rw [hN] at h
      exact Nat.le_trans h (by omega)
     have hfD : Fit 100000000 D := by
      have h := mgS_up hd9 (k := v % 9)
      rw [hD] at h
      exact Nat.le_trans h (by omega)
     have HM := Lib.hid (rmake_c N D hDn hfN hfD)
     unfold zv rv at HM
     have HQ : Hid (Rat.divInt (n * 256 ^ (u % 9)) (d * 256 ^ (v % 9)) = Rat.divInt N D) := by rw [hN, hD]; exact Lib.hid rfl
     clear hN hD hDn hfN hfD
     generalize Rat.divInt N D = q at *
     go_wp2_with fail
     refine (HM.out _).mono ?_
     rintro e w9 ⟨rfl, hk9⟩
     dsimp only
     have HK9 := Lib.hid (HKz.out.trans0 hk9)
     have Bgb := Lib.hid (hk9.heap Bgb.out (by simp))
     clear hk9 pga fga pgb fgb lgb pgc pgd fgd lgd
     have pgb := cell_of Bgb.out
     have fgb := frozen_of Bgb.out
     have lgb := lt_of_heap Bgb.out
     go_wp2_with fail
     obtain ⟨w10, e10, b10, k10⟩ := st4 (x := .bool (sgB q.num)) (y := .string (mgS q.num)) (z := .bool false) (u := .string (dnS q.den)) Bgb.out
     rw [← e10]
     clear e10 pgb fgb lgb
     have pgb := cell_of b10
     refine bodyPost_ret (v := rv q) ?_ rfl ⟨by rw [HQ.out], HK9.out.trans k10 (by simp; omega)⟩
     rw [results_cell1 rfl]
     unfold rv
     go_simp
end Go.Proofs.YteknldaoegccaaaGreatDoor
