/- A region that draws its order: operations that only read (the same in every world of a class), among them some that turn the world and come one behind the other, and a chain behind all of them: one walk. -/
import Derived.Test.YtgmggmpkbfljfaaQt
import Derived.OrdersHeld
set_option linter.unusedVariables false
set_option linter.unusedSimpArgs false
namespace Go.Proofs.Ytgmggmpkbfljfaa
open Go.RowKit
section
variable {P : Program} {ops : Array Oper} {md : Region.Mode} {S : World → Prop} {Q : Exit → Act → World → Prop}
def heldAny (P : Program) (md : Region.Mode) (ops : Array Oper) (Q : Exit → Act → World → Prop) (S : World → Prop) (n : Nat) (L : Array Bool → Act → World → Prop) : Nat → Array Bool → Act → World → Prop
  | 0, listed, a, w => L listed a w
  | f + 1, listed, a, w => Region.ready md ops listed ≠ [] ∧ ∀ i ∈ Region.ready md ops listed, i < n ∧ wpOp P ops Q i (fun a' w' => S w' ∧ heldAny P md ops Q S n L f (listed.setIfInBounds i true) a' w') a w
theorem heldAny_any {n g : Nat} {L : Array Bool → Act → World → Prop} (hL : ∀ listed a w, L listed a w → wpAny P md ops Q g listed a w) :
    ∀ (f : Nat) (listed : Array Bool) (a : Act) (w : World), heldAny P md ops Q S n L f listed a w → wpAny P md ops Q (f + g) listed a w
  | 0, listed, a, w, h => by rw [Nat.zero_add]; exact hL _ _ _ h
  | f + 1, listed, a, w, h => by
    rw [show f + 1 + g = (f + g) + 1 by omega]
    exact ⟨fun h0 => absurd h0 h.1, fun i hi => wpOp_mono (fun a' w' h' => heldAny_any hL f _ a' w' h'.2) (h.2 i hi).2⟩
theorem heldAny_first {n i : Nat} {oi : Oper} {v : Value} {L : Array Bool → Act → World → Prop} (hi : ops[i]? = some oi) (hsel : ∀ (j : Nat) (o : Oper) cs b, ops[j]? = some o → o.op ≠ .select cs b)
    (hQ : ∀ c a w, Q (.panic c) (a.put oi.dst v) w → Q (.panic c) a w)
    (hs : Region.sinkB md ops n = true) (hc : Region.chainB md ops n = true) (hn : n < ops.size) (hin : i < n)
    (hdone : ∀ listed a w, L listed a w → ∀ j ∈ Region.ready md ops listed, n ≤ j) :
    ∀ (f : Nat) (listed : Array Bool) (a : Act) (w : World), HeadInv md ops n listed →
      (∀ j oj, ops[j]? = some oj → j ≠ i → listed.getD j true = false → (∀ e ∈ oj.after, Region.binds md e = true → e.on ≠ i) → oi.apart ops oj = true) →
      i ∈ Region.ready md ops listed → YieldsIf P ops S oi v a → S w →
      heldAny P md ops Q S n L f (listed.setIfInBounds i true) (a.put oi.dst v) w → heldAny P md ops Q S n L (f + 1) listed a w := by
  intro f
  induction f with
  | zero =>
    intro listed a w inv _ hr hy hS H
    refine ⟨fun h => (by rw [h] at hr; cases hr), fun j hj => ?_⟩
    have hjn : j < n := by
      rcases Nat.lt_or_ge j n with h | h
      · exact h
      · exact absurd hj (tail_waits hs hc hn inv _ i rfl hin (mem_ready.1 hr).1 j h)
    refine ⟨hjn, ?_⟩
    by_cases hji : j = i
    · subst hji; exact hy.wpOp hi hS ⟨hS, H⟩
    · have := hdone _ _ _ H j (ready_mono hj hji)
      omega
  | succ f ih =>
    intro listed a w inv hfree hr hy hS H
    have hun := (mem_ready.1 hr).1
    refine ⟨fun h => (by rw [h] at hr; cases hr), fun j hj => ?_⟩
    have hjn : j < n := by
      rcases Nat.lt_or_ge j n with h | h
      · exact h
      · exact absurd hj (tail_waits hs hc hn inv _ i rfl hin hun j h)
    refine ⟨hjn, ?_⟩
    by_cases hji : j = i
    · subst hji; exact hy.wpOp hi hS ⟨hS, H⟩
    · have h1 := (H.2 j (ready_mono hj hji)).2
      obtain ⟨hjun, oj, hoj, hall⟩ := mem_ready.1 hj
      have hnot : ∀ e ∈ oj.after, Region.binds md e = true → e.on ≠ i := fun e he hb heq => by
        have h1 := hall e he hb
        rw [heq, getD_both hun] at h1
        cases h1
      have h2 := wpOp_putIf hoj (hfree j oj hoj hji hjun hnot) (fun cs b => hsel i oi cs b hi) (fun cs b => hsel j oj cs b hoj) hQ hy h1
      have hfree' : ∀ k ok, ops[k]? = some ok → k ≠ i → (listed.setIfInBounds j true).getD k true = false →
          (∀ e ∈ ok.after, Region.binds md e = true → e.on ≠ i) → oi.apart ops ok = true := fun k ok hk hki hun hno => by
        refine hfree k ok hk hki ?_ hno
        by_cases hjk : j = k
        · subst hjk; exact hjun
        · rw [getD_set_ne true hjk] at hun; exact hun
      refine wpOp_mono (fun a' w' h3 => ⟨h3.2.1, ih (listed.setIfInBounds j true) a' w' (inv.set hj hjn) hfree' (ready_mono hr (Ne.symm hji)) h3.1 h3.2.1 ?_⟩) h2
      rw [Array.setIfInBounds_comm _ _ hji]
      exact h3.2.2
/-- The walk in the order of the text: M are the operations that turn the world. -/
def heldL (P : Program) (ops : Array Oper) (Q : Exit → Act → World → Prop) (S : World → Prop) (M : List Nat) (Lq : Act → World → Prop) : List Oper → Nat → Act → World → Prop
  | [], _, a, w => Lq a w
  | o :: rest, k, a, w => (M.contains k = true ∧ o.guard = none ∧ o.wp P a w (fun a' w' => S w' ∧ heldL P ops Q S M Lq rest (k + 1) a' w') Q) ∨
      (M.contains k = false ∧ S w ∧ ∃ v, YieldsIf P ops S o v a ∧ heldL P ops Q S M Lq rest (k + 1) (a.put o.dst v) w)
theorem heldL_nil {M : List Nat} {Lq : Act → World → Prop} {k : Nat} {a : Act} {w : World} (h : Lq a w) : heldL P ops Q S M Lq [] k a w := h
theorem heldL_val {M : List Nat} {Lq : Act → World → Prop} {o : Oper} {rest : List Oper} {k : Nat} {a : Act} {w : World} {v : Value} (hk : M.contains k = false) (hg : o.guard = none) (hS : S w)
    (h1 : ∀ w, S w → (execOp a.eval o).run P w = .ok (.value v) w) (h2 : ∀ K : Act → Prop, (∀ a, heldL P ops Q S M Lq rest (k + 1) a w → K a) → K (a.put o.dst v)) : heldL P ops Q S M Lq (o :: rest) k a w :=
  .inr ⟨hk, hS, v, .inl ⟨by simp [Region.wanted, hg], h1⟩, h2 _ (fun _ h => h)⟩
theorem heldL_mut {M : List Nat} {Lq : Act → World → Prop} {o : Oper} {rest : List Oper} {k : Nat} {a : Act} {w : World} (hk : M.contains k = true) (hg : o.guard = none)
    (h : ∀ K : Act → World → Prop, (∀ a w, S w → heldL P ops Q S M Lq rest (k + 1) a w → K a w) → o.wp P a w K Q) : heldL P ops Q S M Lq (o :: rest) k a w :=
  .inl ⟨hk, hg, h _ (fun _ _ h1 h2 => ⟨h1, h2⟩)⟩
def Region.lexHeadM (md : Region.Mode) (ops : Array Oper) (M : List Nat) (g : Nat) : Nat → Nat → Array Bool → Bool
  | 0, k, listed => Region.seqB md ops g k listed
  | f + 1, k, listed => (if M.contains k then decide (Region.ready md ops listed = [k]) else (Region.ready md ops listed).contains k && Region.free md ops listed k) && Region.lexHeadM md ops M g f (k + 1) (listed.setIfInBounds k true)
theorem heldAny_lex {n g : Nat} {M : List Nat} {Lq : Act → World → Prop} (hsel : Region.noSelect ops = true) (hQ : ∀ c a d v w, Q (.panic c) (Act.put a d v) w → Q (.panic c) a w) (hs : Region.sinkB md ops n = true) (hc : Region.chainB md ops n = true) (hn : n < ops.size) :
    ∀ (l : List Oper) (k : Nat) (listed : Array Bool) (a : Act) (w : World), (∀ j, j < l.length → l[j]? = ops[k + j]?) → k + l.length = n → HeadInv md ops n listed →
    Region.lexHeadM md ops M g l.length k listed = true → heldL P ops Q S M Lq l k a w →
    heldAny P md ops Q S n (fun listed' a' w' => Region.seqB md ops g n listed' = true ∧ Lq a' w') l.length listed a w
  | [], k, listed, a, w, _, hk, _, hB, h => by
    have : k = n := by simpa using hk
    subst this
    exact ⟨by simpa [Region.lexHeadM] using hB, h⟩
  | o :: l, k, listed, a, w, hl, hk, inv, hB, h => by
    have h0 : ops[k]? = some o := by simpa using (hl 0 (by simp)).symm
    simp only [List.length_cons, Region.lexHeadM, Bool.and_eq_true] at hB
    obtain ⟨hr, hB'⟩ := hB
    have hkn : k < n := by simp only [List.length_cons] at hk; omega
    have hl' : ∀ j, j < l.length → l[j]? = ops[k + 1 + j]? := fun j hj => by have := hl (j + 1) (by simp; omega); simpa [Nat.add_assoc, Nat.add_comm 1 j] using this
    have hk' : k + 1 + l.length = n := by simp only [List.length_cons] at hk; omega
    rcases h with ⟨hM, hg, hwp⟩ | ⟨hM, hS, v, hy, hrest⟩
    · rw [if_pos hM] at hr
      have hr := of_decide_eq_true hr
      have hmem : k ∈ Region.ready md ops listed := by rw [hr]; simp
      refine ⟨by rw [hr]; simp, fun i hi => ?_⟩
      rw [hr] at hi
      obtain rfl : i = k := by simpa using hi
      refine ⟨hkn, ?_⟩
      unfold wpOp
      simp only [h0]
      rw [if_pos (by simp [Region.wanted, hg])]
      refine .inl (Oper.wp_mono ?_ hwp)
      rintro a' w' ⟨hS', h'⟩
      exact ⟨hS', heldAny_lex hsel hQ hs hc hn l (i + 1) _ _ _ hl' hk' (inv.set hmem hkn) hB' h'⟩
    · rw [if_neg (by rw [hM]; simp), Bool.and_eq_true] at hr
      have hr' : k ∈ Region.ready md ops listed := by simpa using hr.1
      exact heldAny_first h0 (Region.noSelect_spec hsel) (fun c a w h => hQ c _ _ _ w h) hs hc hn hkn (fun listed' a' w' hL => seqB_ready hL.1) l.length listed a w inv (Region.free_spec h0 hr.2) hr' hy hS
        (heldAny_lex hsel hQ hs hc hn l (k + 1) _ _ _ hl' hk' (inv.set hr' hkn) hB' hrest)
theorem wp_region_held_tail {id : Nat} {a : Act} {w : World} {l : List Oper} (n : Nat) (M : List Nat) (hm : P.follows .mixedOrders = true)
    (hB : (Region.noSelect l.toArray && decide (n < l.toArray.size) && Region.sinkB .any l.toArray n && Region.chainB .any l.toArray n && Region.lexHeadM .any l.toArray M (l.toArray.size - n) n 0 (Array.replicate l.toArray.size false)) = true)
    (hQ : ∀ c a d v w, Q (.panic c) (Act.put a d v) w → Q (.panic c) a w)
    (h : heldL P l.toArray Q S M (fun a' w' => wpList P l.toArray Q (l.drop n) a' w') (l.take n) 0 a w.drew) : (Code.region id l.toArray true).wp P Q a w := by
  simp only [Bool.and_eq_true, decide_eq_true_eq] at hB
  obtain ⟨⟨⟨⟨hsel, hn⟩, hs⟩, hc⟩, hlex⟩ := hB
  have hn' : n < l.length := by simpa using hn
  have htl : (l.take n).length = n := by simp; omega
  have hdl : (l.drop n).length = l.toArray.size - n := by simp
  have inv0 : HeadInv .any l.toArray n (Array.replicate l.toArray.size false) :=
    ⟨by simp, fun j oj _ hl => (by rw [getD_replicate_false] at hl; cases hl), fun t _ ht => getD_in (by simpa using ht) (getD_replicate_false _ _)⟩
  have H := heldAny_lex (md := .any) (g := l.toArray.size - n) hsel hQ hs hc hn (l.take n) 0 _ a _ (fun j hj => by
    have hj' : j < n := by rw [htl] at hj; exact hj
    simp [hj']) (by simpa using htl) inv0 (by rw [htl]; exact hlex) h
  refine wp_region_any hm ?_
  have := heldAny_any (Q := Q) (g := l.toArray.size - n) (fun listed a' w' hL => by
    have := wpAny_of_seq (md := .any) (Q' := Q) (l.drop n) n listed a' w' (fun j => by simp [List.getElem?_drop]) (by rw [hdl]; exact hL.1) hL.2
    rwa [hdl] at this) _ _ _ _ H
  rw [htl, show n + (l.toArray.size - n) = l.toArray.size by omega] at this
  exact this
end
end Go.Proofs.Ytgmggmpkbfljfaa
