/- The like, where what turns the world can come in several orders: the walker says which come up. -/
import Derived.Test.YtgmggmpkbfljfaaQh
set_option linter.unusedVariables false
set_option linter.unusedSimpArgs false
namespace Go.Proofs.Ytgmggmpkbfljfaa
open Go.RowKit
section
variable {P : Program} {ops : Array Oper} {md : Region.Mode} {S : World → Prop} {Q : Exit → Act → World → Prop}
/-- Either one that only reads is taken first, or whichever comes up. -/
def heldT (P : Program) (md : Region.Mode) (ops : Array Oper) (Q : Exit → Act → World → Prop) (S : World → Prop) (n : Nat) (L : Array Bool → Act → World → Prop) : Nat → Array Bool → Act → World → Prop
  | 0, listed, a, w => L listed a w
  | f + 1, listed, a, w =>
    (∃ i o v, ops[i]? = some o ∧ i < n ∧ Region.free md ops listed i = true ∧ (Region.ready md ops listed).contains i = true ∧ YieldsIf P ops S o v a ∧ S w ∧ heldT P md ops Q S n L f (listed.setIfInBounds i true) (a.put o.dst v) w) ∨
    (Region.ready md ops listed ≠ [] ∧ ∀ i ∈ Region.ready md ops listed, i < n ∧ wpOp P ops Q i (fun a' w' => S w' ∧ heldT P md ops Q S n L f (listed.setIfInBounds i true) a' w') a w)
theorem heldT_any {n : Nat} {L : Array Bool → Act → World → Prop} (hsel : Region.noSelect ops = true) (hQ : ∀ c a d v w, Q (.panic c) (Act.put a d v) w → Q (.panic c) a w)
    (hs : Region.sinkB md ops n = true) (hc : Region.chainB md ops n = true) (hn : n < ops.size) (hdone : ∀ listed a w, L listed a w → ∀ j ∈ Region.ready md ops listed, n ≤ j) :
    ∀ (f : Nat) (listed : Array Bool) (a : Act) (w : World), HeadInv md ops n listed → heldT P md ops Q S n L f listed a w → heldAny P md ops Q S n L f listed a w
  | 0, _, _, _, _, h => h
  | f + 1, listed, a, w, inv, h => by
    rcases h with ⟨i, o, v, ho, hi, hf, hr, hy, hS, hrest⟩ | ⟨hne, hall⟩
    · have hr' : i ∈ Region.ready md ops listed := by simpa using hr
      exact heldAny_first ho (Region.noSelect_spec hsel) (fun c a w h => hQ c _ _ _ w h) hs hc hn hi hdone f listed a w inv (Region.free_spec ho hf) hr' hy hS
        (heldT_any hsel hQ hs hc hn hdone f _ _ _ (inv.set hr' hi) hrest)
    · exact ⟨hne, fun i hi => ⟨(hall i hi).1, wpOp_mono (fun a' w' h' => ⟨h'.1, heldT_any hsel hQ hs hc hn hdone f _ _ _ (inv.set hi (hall i hi).1) h'.2⟩) (hall i hi).2⟩⟩
theorem wp_region_heldT {id : Nat} {a : Act} {w : World} {l : List Oper} (n : Nat) (hm : P.follows .mixedOrders = true)
    (hB : (Region.noSelect l.toArray && decide (n < l.toArray.size) && Region.sinkB .any l.toArray n && Region.chainB .any l.toArray n) = true)
    (hQ : ∀ c a d v w, Q (.panic c) (Act.put a d v) w → Q (.panic c) a w)
    (h : heldT P .any l.toArray Q S n (fun listed' a' w' => Region.seqB .any l.toArray (l.toArray.size - n) n listed' = true ∧ wpList P l.toArray Q (l.drop n) a' w') n (Array.replicate l.toArray.size false) a w.drew) : (Code.region id l.toArray true).wp P Q a w := by
  simp only [Bool.and_eq_true, decide_eq_true_eq] at hB
  obtain ⟨⟨⟨hsel, hn⟩, hs⟩, hc⟩ := hB
  have hdl : (l.drop n).length = l.toArray.size - n := by simp
  have inv0 : HeadInv .any l.toArray n (Array.replicate l.toArray.size false) :=
    ⟨by simp, fun j oj _ hl => (by rw [getD_replicate_false] at hl; cases hl), fun t _ ht => getD_in (by simpa using ht) (getD_replicate_false _ _)⟩
  have H := heldT_any hsel hQ hs hc hn (fun listed a w hL => seqB_ready hL.1) n _ a _ inv0 h
  refine wp_region_any hm ?_
  have := heldAny_any (Q := Q) (g := l.toArray.size - n) (fun listed a' w' hL => by
    have := wpAny_of_seq (md := .any) (Q' := Q) (l.drop n) n listed a' w' (fun j => by simp [List.getElem?_drop]) (by rw [hdl]; exact hL.1) hL.2
    rwa [hdl] at this) _ _ _ _ H
  rw [show n + (l.toArray.size - n) = l.toArray.size by omega] at this
  exact this
/-! ### the steps -/
theorem heldT_val {n f : Nat} {L : Array Bool → Act → World → Prop} {listed : Array Bool} {a : Act} {w : World} (i : Nat) {o : Oper} {v : Value} (ho : ops[i]? = some o) (hi : i < n) (hf : Region.free md ops listed i = true) (hr : (Region.ready md ops listed).contains i = true)
    (hg : o.guard = none) (hS : S w) (h1 : ∀ w, S w → (execOp a.eval o).run P w = .ok (.value v) w)
    (h2 : ∀ K : Act → Prop, (∀ a, heldT P md ops Q S n L f (listed.setIfInBounds i true) a w → K a) → K (a.put o.dst v)) : heldT P md ops Q S n L (f + 1) listed a w :=
  .inl ⟨i, o, v, ho, hi, hf, hr, .inl ⟨by simp [Region.wanted, hg], h1⟩, hS, h2 _ (fun _ h => h)⟩
theorem heldT_one {n f : Nat} {L : Array Bool → Act → World → Prop} {listed : Array Bool} {a : Act} {w : World} (i : Nat) {o : Oper} (hr : Region.ready md ops listed = [i]) (hi : i < n) (ho : ops[i]? = some o) (hg : o.guard = none)
    (h : ∀ K : Act → World → Prop, (∀ a w, S w → heldT P md ops Q S n L f (listed.setIfInBounds i true) a w → K a w) → o.wp P a w K Q) : heldT P md ops Q S n L (f + 1) listed a w := by
  refine .inr ⟨by rw [hr]; simp, fun j hj => ?_⟩
  rw [hr] at hj
  obtain rfl : j = i := by simpa using hj
  refine ⟨hi, ?_⟩
  unfold wpOp
  simp only [ho]
  rw [if_pos (by simp [Region.wanted, hg])]
  exact .inl (h _ (fun _ _ h1 h2 => ⟨h1, h2⟩))
theorem heldT_two {n f : Nat} {L : Array Bool → Act → World → Prop} {listed : Array Bool} {a : Act} {w : World} (i j : Nat) {o u : Oper} (hr : Region.ready md ops listed = [i, j]) (hi : i < n) (hj : j < n) (ho : ops[i]? = some o) (hu : ops[j]? = some u) (hg : o.guard = none) (hgu : u.guard = none)
    (h : ∀ K : Act → World → Prop, (∀ a w, S w → heldT P md ops Q S n L f (listed.setIfInBounds i true) a w → K a w) → o.wp P a w K Q)
    (h' : ∀ K : Act → World → Prop, (∀ a w, S w → heldT P md ops Q S n L f (listed.setIfInBounds j true) a w → K a w) → u.wp P a w K Q) : heldT P md ops Q S n L (f + 1) listed a w := by
  refine .inr ⟨by rw [hr]; simp, fun k hk => ?_⟩
  rw [hr] at hk
  simp only [List.mem_cons, List.not_mem_nil, or_false] at hk
  rcases hk with rfl | rfl
  · refine ⟨hi, ?_⟩
    unfold wpOp
    simp only [ho]
    rw [if_pos (by simp [Region.wanted, hg])]
    exact .inl (h _ (fun _ _ h1 h2 => ⟨h1, h2⟩))
  · refine ⟨hj, ?_⟩
    unfold wpOp
    simp only [hu]
    rw [if_pos (by simp [Region.wanted, hgu])]
    exact .inl (h' _ (fun _ _ h1 h2 => ⟨h1, h2⟩))
end
end Go.Proofs.Ytgmggmpkbfljfaa
