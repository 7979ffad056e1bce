/- The model of a device that the statements carry beside it: its form in memory, and its small functions. -/
import Derived.Test.YtombldjaipcloaaD
import Derived.Deep.RegionHeld3
import Derived.Deep.AppendLies
set_option linter.unusedVariables false
set_option linter.unusedSimpArgs false
namespace Go.Proofs.Ytombldjaipcloaa
open Go.RowKit

structure Dk where
  dur : List ByteArray
  pend : IS
  limited : Bool
  down : Bool
  limit : Int
  writes : Int
  barriers : Int
def dcells (dv pv : Value) (d : Dk) : Array Value := #[dv, pv, .bool d.limited, .bool d.down, .int .i64 d.limit, .int .i64 d.writes, .int .i64 d.barriers]
def scells (l : List ByteArray) : List Value := l.map Value.string
structure DkAt (w : World) (b : Nat) (dv pv : Value) (d : Dk) : Prop where
  blk : w.heap[b]? = some (.cells (dcells dv pv d) 43 (0, 0))
  dur : w.ownsRow 0 9 1 dv d.dur.length (scells d.dur)
  pend : w.ownsRow 0 59 2 pv d.pend.length (pcells d.pend)

theorem own_keep {w w' : World} {e : TypeId} {size : Nat} {v : Value} {n : Nat} {xs : List Value} {F : List Nat} (h : w.ownsRow 0 e size v n xs) (hk : Keep F w w') (hF : ∀ g, v.ownBlock = some g → g ∉ F) : w'.ownsRow 0 e size v n xs := by
  refine ⟨h.1, ?_⟩
  rcases h.2 with hn | ⟨g, cap, cur, hv, hb, hg, rest⟩
  · exact .inl hn
  · exact .inr ⟨g, cap, cur, hv, hb, hk.heap hg (hF g (by rw [hv]; rfl)), rest⟩
theorem own_ty {w : World} {e : TypeId} {size : Nat} {v : Value} {n : Nat} {xs : List Value} (h : w.ownsRow 0 e size v n xs) {g : Nat} (hg : v.ownBlock = some g) : ∃ cur, w.heap[g]? = some (.cells cur e (0, 0)) := by
  rcases h.2 with ⟨hv, _⟩ | ⟨g', cap, cur, hv, _, hgg, _⟩
  · rw [hv] at hg; cases hg
  · rw [hv] at hg; cases hg; exact ⟨cur, hgg⟩
theorem own_ne {w : World} {e t : TypeId} {size : Nat} {v : Value} {n : Nat} {xs : List Value} {cs : Array Value} {f : Nat × Nat} {b : Nat} (h : w.ownsRow 0 e size v n xs) (hb : w.heap[b]? = some (.cells cs t f)) (hne : e ≠ t) : v.ownBlock ≠ some b := by
  intro hg
  obtain ⟨cur, h1⟩ := own_ty h hg
  rw [hb] at h1
  injection h1 with h1
  injection h1 with _ h1 _
  exact hne h1.symm
/-- What the model leans on. -/
def fp (b : Nat) (dv pv : Value) : List Nat := b :: (dv.ownBlock.toList ++ pv.ownBlock.toList)
theorem mem_fp {b : Nat} {dv pv : Value} {x : Nat} : x ∈ fp b dv pv ↔ x = b ∨ dv.ownBlock = some x ∨ pv.ownBlock = some x := by
  unfold fp; simp [eq_comm]
def DkH (b : Nat) (d : Dk) : HP := fun w F => ∃ dv pv, DkAt w b dv pv d ∧ F = fp b dv pv
theorem DkAt.keep {w w' : World} {b : Nat} {dv pv : Value} {d : Dk} {F : List Nat} (h : DkAt w b dv pv d) (hk : Keep F w w') (hF : ∀ x ∈ fp b dv pv, x ∉ F) : DkAt w' b dv pv d :=
  ⟨hk.heap h.blk (hF b (mem_fp.2 (.inl rfl))), own_keep h.dur hk (fun g hg => hF g (mem_fp.2 (.inr (.inl hg)))), own_keep h.pend hk (fun g hg => hF g (mem_fp.2 (.inr (.inr hg))))⟩
theorem DkAt.lt {w : World} {b : Nat} {dv pv : Value} {d : Dk} (h : DkAt w b dv pv d) : ∀ x ∈ fp b dv pv, x < w.heap.size := by
  intro x hx
  rcases mem_fp.1 hx with rfl | hx | hx
  · exact lt_of_heap h.blk
  · obtain ⟨cur, h1⟩ := own_ty h.dur hx; exact lt_of_heap h1
  · obtain ⟨cur, h1⟩ := own_ty h.pend hx; exact lt_of_heap h1
theorem dkH_stab (b : Nat) (d : Dk) : Stab (DkH b d) where
  keep := by
    rintro w w' F G ⟨dv, pv, h, rfl⟩ hk hd
    exact ⟨dv, pv, h.keep hk hd, rfl⟩
  lt := by
    rintro w F ⟨dv, pv, h, rfl⟩ x hx
    exact h.lt x hx
theorem DkAt.dv_ne {w : World} {b : Nat} {dv pv : Value} {d : Dk} (h : DkAt w b dv pv d) : dv.ownBlock ≠ some b := own_ne h.dur h.blk (by decide +kernel)
theorem DkAt.pv_ne {w : World} {b : Nat} {dv pv : Value} {d : Dk} (h : DkAt w b dv pv d) : pv.ownBlock ≠ some b := own_ne h.pend h.blk (by decide +kernel)
theorem DkAt.apart {w : World} {b : Nat} {dv pv : Value} {d : Dk} (h : DkAt w b dv pv d) {g : Nat} (hg : dv.ownBlock = some g) : pv.ownBlock ≠ some g := by
  obtain ⟨cur, h1⟩ := own_ty h.dur hg
  exact own_ne h.pend h1 (by decide +kernel)
/-- A store into a field. -/
theorem DkAt.set {w : World} {b : Nat} {dv pv : Value} {d d' : Dk} (h : DkAt w b dv pv d) (i : Nat) (x : Value) (hc : (dcells dv pv d).setIfInBounds i x = dcells dv pv d') (hd : d'.dur = d.dur) (hp : d'.pend = d.pend) :
    DkAt (w.setCell ⟨b, i, none⟩ x) b dv pv d' := by
  have hk : Keep [b] w (w.setCell ⟨b, i, none⟩ x) := Keep.setCell _ _ _ _ _ (by simp)
  refine ⟨by rw [set_same h.blk, hc], ?_, ?_⟩
  · rw [hd]; exact own_keep h.dur hk (fun g hg hm => h.dv_ne (by simp at hm; rw [hg, hm]))
  · rw [hp]; exact own_keep h.pend hk (fun g hg hm => h.pv_ne (by simp at hm; rw [hg, hm]))
/-- The rows as the walk asks for them. -/
theorem own_form {w : World} {e : TypeId} {size : Nat} {v : Value} {n : Nat} {xs : List Value} (h : w.ownsRow 0 e size v n xs) : ∃ po pc, v = .slice po n pc := by
  rcases h.2 with ⟨hv, h0⟩ | ⟨g, cap, cur, hv, _⟩
  · exact ⟨none, 0, by rw [hv, h0]⟩
  · exact ⟨_, cap, hv⟩
theorem own_cells {w : World} {e : TypeId} {size : Nat} {v : Value} {n : Nat} {xs : List Value} (h : w.ownsRow 0 e size v n xs) (hn : 0 < n) :
    ∃ g cap, v = .slice (some ⟨g, 0, none⟩) n cap ∧ (∀ j, j < n * size → w.cell? ⟨g, j, none⟩ = xs[j]?) ∧ g < w.heap.size ∧ ∀ j, w.frozen? ⟨g, j, none⟩ = false := by
  rcases h.2 with ⟨hv, h0⟩ | ⟨g, cap, cur, hv, _, hgg, hnc, _, hcs, htake⟩
  · omega
  · refine ⟨g, cap, hv, fun j hj => ?_, lt_of_heap hgg, frozen_of hgg⟩
    rw [cell_of hgg, ← htake, List.getElem?_take, if_pos hj, Array.getElem?_toList]
/-- A store into a row of the call's own. -/
theorem own_set {w : World} {e : TypeId} {size : Nat} {n : Nat} {xs : List Value} {g cap : Nat} (h : w.ownsRow 0 e size (.slice (some ⟨g, 0, none⟩) n cap) n xs) (i : Nat) (hi : i < n * size) (x : Value) :
    (w.setCell ⟨g, i, none⟩ x).ownsRow 0 e size (.slice (some ⟨g, 0, none⟩) n cap) n (xs.set i x) := by
  refine ⟨by rw [List.length_set]; exact h.1, ?_⟩
  rcases h.2 with ⟨hv, h0⟩ | ⟨g', cap', cur, hv, hb, hgg, hnc, hm, hcs, htake⟩
  · cases hv
  · injection hv with h1 _ h2
    injection h1 with h1
    injection h1 with h1 _ _
    subst h1; subst h2
    refine .inr ⟨g, cap, cur.setIfInBounds i x, rfl, hb, set_same hgg i x, hnc, hm, by rw [Array.size_setIfInBounds]; exact hcs, ?_⟩
    rw [Array.toList_setIfInBounds, List.take_set, htake]
section
variable {P : Program} (w : World)
theorem step_append2 {ops : Array Oper} {o : Oper} {a : Act} {K : Act → World → Prop} {Q : Exit → Act → World → Prop} {E : Prop} (hgd : o.guard = none) (s x : Operand) (t : TypeId)
    (ho : o.op = .call { callee := .builtin .append, args := #[s, x], argTypes := #[t, t] })
    (e : TypeId) (i : TypeInfo) (z : Value) (size bytes : Nat) (ht : P.underlying t = some (.slice e)) (hi : P.info? e = some i) (hz : i.zero = some z)
    (hsize : i.size = size) (hby : i.bytes = bytes) (hzs : z.cells.size = size) (hsz : 0 < size)
    (v : Value) (n : Nat) (xs : List Value) (hs : a.eval s = v) (hown : w.ownsRow 0 e size v n xs)
    (ad : Addr) (m c : Nat) (news : List Value) (hx : a.eval x = .slice (some ad) m c) (hl : news.length = m * size) (hnews : ∀ j u, news[j]? = some u → w.cell? (ad.add j) = some u) (h1 : ∀ u ∈ news, u.oneCell' = true)
    (hm : 0 < m) (h63 : n + m ≤ maxLen) (hbytes : (n + m) * bytes ≤ 140737488355328)
    (h : ∀ g cap w', w'.ownsRow 0 e size (.slice (some ⟨g, 0, none⟩) (n + m) cap) (n + m) (xs ++ news) → w.grownBy w' v.ownBlock → (some g = v.ownBlock ∨ w.heap.size ≤ g) → K (a.put o.dst (.slice (some ⟨g, 0, none⟩) (n + m) cap)) w') :
    if Region.wanted o (yielded ops a.tmps) = true then Oper.wp P o a w K Q else E := by
  have hw : Region.wanted o (yielded ops a.tmps) = true := by simp [Region.wanted, hgd]
  rw [if_pos hw]
  obtain ⟨g, cap, w', hr, h2, h3, h4⟩ := run_append_own2 (P := P) w t o.type e i z size bytes ht hi hz hsize hby hzs hsz v n xs hown ad m c news hl hnews h1 hm h63 hbytes
  unfold Oper.wp execOp
  simp only [ho, resolve, invoke, builtin, Sem.run_bind, Sem.run_pure, Result.andThen_ok, List.map_toArray, List.map_cons, List.map_nil, hs, hx, hr]
  exact h g cap w' h2 h3 h4
end

/-! ### step -/
def dStep (d : Dk) : Bool × Dk := if d.limited then if d.limit ≤ 0 then (true, { d with down := true }) else (false, { d with limit := wrap64 (d.limit - 1) }) else (false, d)
theorem DkAt.to {w w' : World} {b : Nat} {dv pv : Value} {d : Dk} (h : DkAt w' b dv pv d) (hk : Keep [b] w w') : To (DkH b d) (fp b dv pv) w w' :=
  ⟨_, ⟨dv, pv, h, rfl⟩, hk.mono (fun x hx => mem_fp.2 (.inl (by simpa using hx))), fun x hx => .inl hx⟩
theorem DkAt.same {w : World} {b : Nat} {dv pv : Value} {d : Dk} (h : DkAt w b dv pv d) : To (DkH b d) (fp b dv pv) w w := h.to (Keep.refl _ _)
set_option maxHeartbeats 1000000 in
theorem step_at (w : World) (b : Nat) (dv pv : Value) (d : Dk) (h : DkAt w b dv pv d) :
    Calls Try.prog 54 #[.pointer (some ⟨b, 0, none⟩)] w fun e w' => e = .returned (.bool (dStep d).1) ∧ DkAt w' b dv pv (dStep d).2 ∧ Keep [b] w w' := by
  have hc := cell_of h.blk
  have hf := frozen_of h.blk
  have H := Lib.hid h
  clear h
  obtain ⟨dur, pend, limited, down, limit, writes, barriers⟩ := d
  simp only [dcells] at hc
  unfold dStep
  cases limited
  · go_enter Try.func54, Try.ntmps54
    go_wp2
    go_returns
    exact ⟨rfl, H.out, Keep.refl _ _⟩
  · by_cases hl : limit ≤ 0
    · go_enter Try.func54, Try.ntmps54
      go_wp2
      go_returns
      simp only [hl, if_true]
      exact ⟨rfl, H.out.set _ _ rfl rfl rfl, Keep.setCell _ _ _ _ _ (by simp)⟩
    · have hl' : 0 < limit := by omega
      go_enter Try.func54, Try.ntmps54
      go_wp2
      go_returns
      simp only [hl, if_true, if_false]
      exact ⟨rfl, H.out.set _ _ rfl rfl rfl, Keep.setCell _ _ _ _ _ (by simp)⟩
end Go.Proofs.Ytombldjaipcloaa
