/- Parts of a proof about this translation: Layg, Uc. -/
import Derived.Shelf.SlSortCmp.WholeK
import Derived.Shelf.SlSortCmp.NoneTotal
import Derived.Test.YteknldaoegccaaaGreatDoorProg
import Derived.Test.YteknldaoegccaaaGreatDoorW30
set_option linter.unusedVariables false
set_option linter.unusedSimpArgs false
namespace Go.Proofs
open Go.Shelf
def Tryz.sortEv_ren : Go.Shelf.Ren := ⟨fun | 6 => 88 | 15 => 121 | 14 => 120 | 28 => 155 | 29 => 156 | 20 => 147 | 21 => 148 | 22 => 149 | 23 => 150 | 24 => 151 | 25 => 152 | 26 => 153 | 27 => 154 | 46 => 185 | 47 => 186 | 48 => 187 | 49 => 188 | 50 => 189 | 57 => 206 | n => n, fun | 22 => 104 | 24 => 108 | 25 => 110 | 3 => 3 | 39 => 134 | 0 => 0 | 53 => 165 | 55 => 167 | 4 => 4 | 46 => 158 | 45 => 157 | 50 => 162 | 5 => 5 | 9 => 9 | 66 => 192 | 70 => 196 | 76 => 216 | 77 => 217 | n => n, fun | n => n⟩
theorem Tryz.sortEv : Go.Proofs.SlLaysF0.n6 Tryz.prog Tryz.sortEv_ren := {
 mixed := by kernel_rfl
 f6 := ⟨Tryz.f88.name, by decide, Tryz.func88.trans (congrArg some (by kernel_rfl))⟩
 f14 := ⟨Tryz.f120.name, by decide, Tryz.func120.trans (congrArg some (by kernel_rfl))⟩
 f15 := Tryz.func121.trans (congrArg some (by kernel_rfl))
 f20 := ⟨Tryz.f147.name, by decide, Tryz.func147.trans (congrArg some (by kernel_rfl))⟩
 f21 := ⟨Tryz.f148.name, by decide, Tryz.func148.trans (congrArg some (by kernel_rfl))⟩
 f22 := ⟨Tryz.f149.name, by decide, Tryz.func149.trans (congrArg some (by kernel_rfl))⟩
 f23 := ⟨Tryz.f150.name, by decide, Tryz.func150.trans (congrArg some (by kernel_rfl))⟩
 f24 := ⟨Tryz.f151.name, by decide, Tryz.func151.trans (congrArg some (by kernel_rfl))⟩
 f25 := ⟨Tryz.f152.name, by decide, Tryz.func152.trans (congrArg some (by kernel_rfl))⟩
 f26 := ⟨Tryz.f153.name, by decide, Tryz.func153.trans (congrArg some (by kernel_rfl))⟩
 f27 := ⟨Tryz.f154.name, by decide, Tryz.func154.trans (congrArg some (by kernel_rfl))⟩
 f28 := Tryz.func155.trans (congrArg some (by kernel_rfl))
 f29 := Tryz.func156.trans (congrArg some (by kernel_rfl))
 f46 := ⟨Tryz.f185.name, by decide, Tryz.func185.trans (congrArg some (by kernel_rfl))⟩
 f47 := Tryz.func186.trans (congrArg some (by kernel_rfl))
 f48 := Tryz.func187.trans (congrArg some (by kernel_rfl))
 f49 := ⟨Tryz.f188.name, by decide, Tryz.func188.trans (congrArg some (by kernel_rfl))⟩
 f50 := ⟨Tryz.f189.name, by decide, Tryz.func189.trans (congrArg some (by kernel_rfl))⟩
 f57 := ⟨Tryz.f206.name, by decide, Tryz.func206.trans (congrArg some (by kernel_rfl))⟩
 t0 := Tryz.underlying0
 a0 := Tryz.isAgg0
 z0 := Tryz.sizeOf0
 v0 := Tryz.zeroValue0
 t3 := Tryz.underlying3
 a3 := Tryz.isAgg3
 z3 := Tryz.sizeOf3
 v3 := Tryz.zeroValue3
 t4 := Tryz.underlying4
 a4 := Tryz.isAgg4
 z4 := Tryz.sizeOf4
 v4 := Tryz.zeroValue4
 t5 := Tryz.underlying5
 a5 := Tryz.isAgg5
 z5 := Tryz.sizeOf5
 v5 := Tryz.zeroValue5
 t9 := Tryz.underlying9
 a9 := Tryz.isAgg9
 z9 := Tryz.sizeOf9
 v9 := Tryz.zeroValue9
 t22 := Tryz.underlying104
 a22 := Tryz.isAgg104
 z22 := Tryz.sizeOf104
 v22 := Tryz.zeroValue104
 t25 := Tryz.underlying110
 a25 := Tryz.isAgg110
 z25 := Tryz.sizeOf110
 v25 := Tryz.zeroValue110
 t39 := Tryz.underlying134
 a39 := Tryz.isAgg134
 z39 := Tryz.sizeOf134
 v39 := Tryz.zeroValue134
 t45 := Tryz.underlying157
 a45 := Tryz.isAgg157
 z45 := Tryz.sizeOf157
 v45 := Tryz.zeroValue157
 t46 := Tryz.underlying158
 a46 := Tryz.isAgg158
 z46 := Tryz.sizeOf158
 v46 := Tryz.zeroValue158
 t50 := Tryz.underlying162
 a50 := Tryz.isAgg162
 z50 := Tryz.sizeOf162
 v50 := Tryz.zeroValue162
 t53 := Tryz.underlying165
 a53 := Tryz.isAgg165
 z53 := Tryz.sizeOf165
 v53 := Tryz.zeroValue165
 t55 := Tryz.underlying167
 a55 := Tryz.isAgg167
 z55 := Tryz.sizeOf167
 v55 := Tryz.zeroValue167
 t66 := Tryz.underlying192
 a66 := Tryz.isAgg192
 z66 := Tryz.sizeOf192
 v66 := Tryz.zeroValue192
 t70 := Tryz.underlying196
 a70 := Tryz.isAgg196
 z70 := Tryz.sizeOf196
 v70 := Tryz.zeroValue196
 t76 := Tryz.underlying216
 a76 := Tryz.isAgg216
 z76 := Tryz.sizeOf216
 v76 := Tryz.zeroValue216
 t77 := Tryz.underlying217
 a77 := Tryz.isAgg217
 z77 := Tryz.sizeOf217
 v77 := Tryz.zeroValue217 }
def Tryz.sortReal_ren : Go.Shelf.Ren := ⟨fun | 6 => 109 | 15 => 121 | 14 => 134 | 28 => 155 | 29 => 156 | 20 => 166 | 21 => 167 | 22 => 168 | 23 => 169 | 24 => 170 | 25 => 171 | 26 => 172 | 27 => 173 | 46 => 196 | 47 => 186 | 48 => 187 | 49 => 197 | 50 => 198 | 57 => 210 | n => n, fun | 22 => 54 | 24 => 31 | 25 => 46 | 3 => 3 | 39 => 134 | 0 => 0 | 53 => 165 | 55 => 167 | 4 => 4 | 46 => 158 | 45 => 157 | 50 => 162 | 5 => 5 | 9 => 9 | 66 => 192 | 70 => 196 | 76 => 216 | 77 => 217 | n => n, fun | n => n⟩
theorem Tryz.sortReal : Go.Proofs.SlLaysF0.n6 Tryz.prog Tryz.sortReal_ren := {
 mixed := by kernel_rfl
 f6 := ⟨Tryz.f109.name, by decide, Tryz.func109.trans (congrArg some (by kernel_rfl))⟩
 f14 := ⟨Tryz.f134.name, by decide, Tryz.func134.trans (congrArg some (by kernel_rfl))⟩
 f15 := Tryz.func121.trans (congrArg some (by kernel_rfl))
 f20 := ⟨Tryz.f166.name, by decide, Tryz.func166.trans (congrArg some (by kernel_rfl))⟩
 f21 := ⟨Tryz.f167.name, by decide, Tryz.func167.trans (congrArg some (by kernel_rfl))⟩
 f22 := ⟨Tryz.f168.name, by decide, Tryz.func168.trans (congrArg some (by kernel_rfl))⟩
 f23 := ⟨Tryz.f169.name, by decide, Tryz.func169.trans (congrArg some (by kernel_rfl))⟩
 f24 := ⟨Tryz.f170.name, by decide, Tryz.func170.trans (congrArg some (by kernel_rfl))⟩
 f25 := ⟨Tryz.f171.name, by decide, Tryz.func171.trans (congrArg some (by kernel_rfl))⟩
 f26 := ⟨Tryz.f172.name, by decide, Tryz.func172.trans (congrArg some (by kernel_rfl))⟩
 f27 := ⟨Tryz.f173.name, by decide, Tryz.func173.trans (congrArg some (by kernel_rfl))⟩
 f28 := Tryz.func155.trans (congrArg some (by kernel_rfl))
 f29 := Tryz.func156.trans (congrArg some (by kernel_rfl))
 f46 := ⟨Tryz.f196.name, by decide, Tryz.func196.trans (congrArg some (by kernel_rfl))⟩
 f47 := Tryz.func186.trans (congrArg some (by kernel_rfl))
 f48 := Tryz.func187.trans (congrArg some (by kernel_rfl))
 f49 := ⟨Tryz.f197.name, by decide, Tryz.func197.trans (congrArg some (by kernel_rfl))⟩
 f50 := ⟨Tryz.f198.name, by decide, Tryz.func198.trans (congrArg some (by kernel_rfl))⟩
 f57 := ⟨Tryz.f210.name, by decide, Tryz.func210.trans (congrArg some (by kernel_rfl))⟩
 t0 := Tryz.underlying0
 a0 := Tryz.isAgg0
 z0 := Tryz.sizeOf0
 v0 := Tryz.zeroValue0
 t3 := Tryz.underlying3
 a3 := Tryz.isAgg3
 z3 := Tryz.sizeOf3
 v3 := Tryz.zeroValue3
 t4 := Tryz.underlying4
 a4 := Tryz.isAgg4
 z4 := Tryz.sizeOf4
 v4 := Tryz.zeroValue4
 t5 := Tryz.underlying5
 a5 := Tryz.isAgg5
 z5 := Tryz.sizeOf5
 v5 := Tryz.zeroValue5
 t9 := Tryz.underlying9
 a9 := Tryz.isAgg9
 z9 := Tryz.sizeOf9
 v9 := Tryz.zeroValue9
 t22 := Tryz.underlying54
 a22 := Tryz.isAgg54
 z22 := Tryz.sizeOf54
 v22 := Tryz.zeroValue54
 t25 := Tryz.underlying46
 a25 := Tryz.isAgg46
 z25 := Tryz.sizeOf46
 v25 := Tryz.zeroValue46
 t39 := Tryz.underlying134
 a39 := Tryz.isAgg134
 z39 := Tryz.sizeOf134
 v39 := Tryz.zeroValue134
 t45 := Tryz.underlying157
 a45 := Tryz.isAgg157
 z45 := Tryz.sizeOf157
 v45 := Tryz.zeroValue157
 t46 := Tryz.underlying158
 a46 := Tryz.isAgg158
 z46 := Tryz.sizeOf158
 v46 := Tryz.zeroValue158
 t50 := Tryz.underlying162
 a50 := Tryz.isAgg162
 z50 := Tryz.sizeOf162
 v50 := Tryz.zeroValue162
 t53 := Tryz.underlying165
 a53 := Tryz.isAgg165
 z53 := Tryz.sizeOf165
 v53 := Tryz.zeroValue165
 t55 := Tryz.underlying167
 a55 := Tryz.isAgg167
 z55 := Tryz.sizeOf167
 v55 := Tryz.zeroValue167
 t66 := Tryz.underlying192
 a66 := Tryz.isAgg192
 z66 := Tryz.sizeOf192
 v66 := Tryz.zeroValue192
 t70 := Tryz.underlying196
 a70 := Tryz.isAgg196
 z70 := Tryz.sizeOf196
 v70 := Tryz.zeroValue196
 t76 := Tryz.underlying216
 a76 := Tryz.isAgg216
 z76 := Tryz.sizeOf216
 v76 := Tryz.zeroValue216
 t77 := Tryz.underlying217
 a77 := Tryz.isAgg217
 z77 := Tryz.sizeOf217
 v77 := Tryz.zeroValue217 }
end Go.Proofs
set_option maxRecDepth 100000
namespace Go.Proofs.YteknldaoegccaaaGreatDoor
open Go.RowKit Go.Sort
theorem cmpB_lt (a b : Bd K) : cmpB a b < 0 ↔ a < b := by
 rcases cmpB_tri a b with ⟨h, g⟩ | ⟨h, g⟩ | ⟨h, g⟩
 ·rw [h]; constructor
  ·intro h; exact absurd h (by decide)
  ·intro h; grind
 ·rw [h]; exact ⟨fun _ => g, fun _ => by decide⟩
 ·rw [h]; subst g; constructor
  ·intro h; exact absurd h (by decide)
  ·intro h; grind
theorem cmpB_swo : SWO (ltOf fun x y : Ev K => cmpB x.at_ y.at_) where
 irrefl x := by unfold ltOf; rw [decide_eq_false_iff_not, cmpB_lt]; grind
 trans x y z h1 h2 := by unfold ltOf at *; rw [decide_eq_true_iff, cmpB_lt] at *; grind
 ntrans x y z h1 h2 := by unfold ltOf at *; rw [decide_eq_false_iff_not, cmpB_lt] at *; grind
def kZ : K := ⟨⟨0, 0, false⟩, ⟨by show (0 : Rat) ≤ 0; grind, fun _ => rfl, fun h => absurd rfl h⟩, by
 have h0 : FitQ 1 0 := by refine ⟨?_, ?_⟩ <;> rw [Fit_iff] <;> decide
 exact ⟨h0.mono (by decide), h0.mono (by decide)⟩⟩
instance : Inhabited (Ev K) := ⟨⟨⟨kZ, false⟩, 0, 0⟩⟩
theorem own_fz {w : World} {e : TypeId} {k n : Nat} {v : Value} {xs : List Value} (h : w.ownsRow 0 e k v n xs) : ∀ g, v.ownBlock = some g → ∀ j, w.frozen? ⟨g, j, none⟩ = false := by
 rcases h.2 with ⟨rfl, _⟩ | ⟨g', cap, cur, rfl, hb, hg, _⟩
 ·intro g hg; cases hg
 ·intro g hgg j
  simp [Value.ownBlock] at hgg
  subst hgg
  exact frozen_of hg j
theorem sortev_c (l : List (Ev K)) (w0 w : World) (sv : Value) (h : OV_ w0 w sv l) (h9 : l.length ≤ 1000000000) :
  Calls Tryz.prog 88 #[sv, .func (.func 89) #[] #[]] w fun e w' => e = .returned (.tuple #[]) ∧ ∃ l' : List (Ev K), l'.Perm l ∧ InOrd l' ∧ EvR w' sv l' ∧ Keep [] w0 w' := by
 have hfz := own_fz h.row
 have hb := h.base
 rcases h.read with ⟨rfl, rfl⟩ | ⟨g, o, c, rfl, hc, hg, hx⟩
 ·have := AnyF.slices_SortFunc_none { Tryz.sortEv with } none 0 (.func (.func 89) #[] #[]) w
  change Calls Tryz.prog 88 _ _ _ at this
  refine this.mono ?_
  rintro e w' ⟨he, rfl⟩
  exact ⟨he, [], List.Perm.refl _, List.Pairwise.nil, RowE.nil _, h.keep⟩
 ·have ho : o = 0 := by
   rcases h.row.2 with ⟨hv, _⟩ | ⟨g', cap, cur, hv, _⟩
   ·cases hv
   ·injection hv with e1; injection e1 with e1; injection e1
  subst ho
  have := sort_row (P := Tryz.prog) Tryz.sortEv (enc := fun e : Ev K => evcells e) (k := 12) (by decide) Tryz.isAgg108 Tryz.sizeOf108 evcells_len evcells_one (fun x y => cmpB x.at_ y.at_) cmpB_swo 89 (enters_of Tryz.func89 (by kernel_rfl) rfl) (fun x y w => evcmp_c x y w) h.read (fun j => by rw [Nat.zero_add]; exact hfz g rfl j) (by omega)
  change Calls Tryz.prog 88 _ _ _ at this
  refine this.mono ?_
  rintro e w' ⟨he, l', hp, hs, hr, hk⟩
  refine ⟨he, l', hp, hs.imp (fun {x y} hxy => ?_), hr, h.keep.trans hk (by simp; exact hb g rfl)⟩
  unfold ltOf at hxy
  rw [decide_eq_false_iff_not, cmpB_lt] at hxy
  grind
structure OF {α : Type} (enc : α → List Value) (e : TypeId) (k : Nat) (F : List Nat) (w0 w : World) (v : Value) (l : List α) : Prop where
 row : w.ownsRow 0 e k v l.length (l.flatMap enc)
 base : ∀ g, v.ownBlock = some g → w0.heap.size ≤ g
 keep : Keep F w0 w
section
variable {α : Type} {enc : α → List Value} {e : TypeId} {k : Nat} {F : List Nat} {w0 w w' : World} {v : Value} {l : List α}
theorem OF.nil : OF enc e k F w w (.slice none 0 0) [] := ⟨⟨by simp, .inl ⟨rfl, rfl⟩⟩, by simp [Value.ownBlock], Keep.refl _ _⟩
theorem OF.oe (h : OF enc e k F w0 w v l) : ∃ w1, w1.heap.size = w0.heap.size ∧ Keep F w0 w1 ∧ OE enc e k w1 w v l := by
 have hs := h.keep.size
 have hsz : (w.heap.extract 0 w0.heap.size).size = w0.heap.size := by simp; omega
 have hget : ∀ j, j < w0.heap.size → (w.heap.extract 0 w0.heap.size)[j]? = w.heap[j]? := fun j hj => by
  rw [Array.getElem?_eq_getElem (by rw [hsz]; exact hj), Array.getElem?_eq_getElem (by omega)]
  simp
 refine ⟨{ w with heap := w.heap.extract 0 w0.heap.size }, hsz, ?_, h.row, ?_, ?_⟩
 ·exact ⟨h.keep.os, h.keep.tape, h.keep.output, by dsimp only; omega, h.keep.drawn, fun j hj hn => by dsimp only; rw [hget j hj]; exact h.keep.block j hj hn⟩
 ·intro g hg; dsimp only; rw [hsz]; exact h.base g hg
 ·refine ⟨rfl, rfl, rfl, by dsimp only; omega, Nat.le_refl _, fun j hj _ => ?_⟩
  dsimp only at hj ⊢
  rw [hsz] at hj
  exact (hget j hj).symm
theorem OF.of {w1 : World} (hs : w1.heap.size = w0.heap.size) (hk : Keep F w0 w1) (h : OE enc e k w1 w v l) : OF enc e k F w0 w v l :=
 ⟨h.row, fun g hg => by rw [← hs]; exact h.base g hg, hk.trans h.keep (by simp)⟩
theorem OF.later (h : OF enc e k F w0 w v l) (hk : Keep [] w w') : OF enc e k F w0 w' v l := ⟨own_keep' h.row hk (by simp), h.base, h.keep.trans hk (by simp)⟩
theorem OF.set {G : List Nat} (h : OF enc e k F w0 w v l) (hk : Keep G w w') (hG : ∀ g ∈ G, g ∈ F ∧ g < w0.heap.size) : OF enc e k F w0 w' v l :=
 ⟨own_keep' h.row hk (fun g hg hm => by have := h.base g hg; have := (hG g hm).2; omega), h.base, h.keep.trans hk (fun x hx => .inl (hG x hx).1)⟩
theorem OF.form (h : OF enc e k F w0 w v l) : ∃ po pc, v = .slice po l.length pc := own_form h.row
theorem OF.read (h : OF enc e k F w0 w v l) : RowE enc w v l := by
 obtain ⟨w1, _, _, h1⟩ := h.oe
 exact h1.read
theorem OF.old (h : OF enc e k F w0 w v l) : ∀ g, v.ownBlock = some g → w0.heap.size ≤ g := h.base
end
abbrev OFI := OF (fun i : Iv K => icells i) 33 20
theorem OFI.app {ty : TypeId} {F : List Nat} {w0 w : World} {v y : Value} {l m : List (Iv K)} (h : OFI F w0 w v l) (hm : 0 < m.length) (hy : IvR w y m) (hb : l.length + m.length ≤ 1000000000) :
  ∃ v' w', (Builtin.append_ #[23, 23] ty #[v, y]).run Tryz.prog w = .ok v' w' ∧ OFI F w0 w' v' (l ++ m) ∧ ∀ j o, j < w0.heap.size → w.heap[j]? = some o → w'.heap[j]? = some o := by
 obtain ⟨w1, hs, hk, h1⟩ := h.oe
 obtain ⟨v', w', hr, ho, _, hK⟩ := IvR.app (ty := ty) h1 (.inr hm) hy hb
 refine ⟨v', w', hr, OF.of hs hk ho, fun j o hj hg => ?_⟩
 rcases hv : v.ownBlock with _ | g
 ·exact (hK [] (fun g hg => by rw [hv] at hg; cases hg)).heap hg (by simp)
 ·refine (hK [g] (fun x hx => by rw [hv] at hx; injection hx with hx; simp [hx])).heap hg ?_
  have := h.base g hv
  simp; omega
end Go.Proofs.YteknldaoegccaaaGreatDoor
