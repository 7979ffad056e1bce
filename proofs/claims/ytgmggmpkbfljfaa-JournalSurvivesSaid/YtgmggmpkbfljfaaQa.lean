import Derived.Test.YtgmggmpkbfljfaaEa
import Derived.StillTail
import Derived.OrdersHeld
/- A region that draws its order: its first operations read and call what leaves a class of worlds, the last ones come in a chain behind them: one walk. -/
set_option linter.unusedVariables false
set_option linter.unusedSimpArgs false
namespace Go.Proofs.Ytgmggmpkbfljfaa
open Go.RowKit
section
variable {P : Program} {ops : Array Oper} {md : Region.Mode} {C : World → Prop}
/-- Every order of the first n operations, and then L. -/
def headAny (P : Program) (md : Region.Mode) (ops : Array Oper) (C : World → Prop) (n : Nat) (L : Array Bool → Act → Prop) : Nat → Array Bool → Act → Prop
  | 0, listed, a => L listed a
  | f + 1, listed, a => Region.ready md ops listed ≠ [] ∧ ∀ i ∈ Region.ready md ops listed, i < n ∧ qOp P ops C i (headAny P md ops C n L f (listed.setIfInBounds i true)) a
theorem headAny_any {n g : Nat} {L : Array Bool → Act → Prop} {Q' : Exit → Act → World → Prop} (hL : ∀ listed a w, C w → L listed a → wpAny P md ops Q' g listed a w) :
    ∀ (f : Nat) (listed : Array Bool) (a : Act) (w : World), C w → headAny P md ops C n L f listed a → wpAny P md ops Q' (f + g) listed a w
  | 0, listed, a, w, hw, h => by rw [Nat.zero_add]; exact hL _ _ _ hw h
  | f + 1, listed, a, w, hw, h => by
    rw [show f + 1 + g = (f + g) + 1 by omega]
    exact ⟨fun h0 => absurd h0 h.1, fun i hi => wpOp_of_qOp hw (fun a' w' hw' h' => headAny_any hL f _ a' w' hw' h') (h.2 i hi).2⟩
theorem headAny_first {n i : Nat} {oi : Oper} {v : Value} {L : Array Bool → Act → Prop} (hi : ops[i]? = some oi) (hsel : ∀ (j : Nat) (o : Oper) cs b, ops[j]? = some o → o.op ≠ .select cs b)
    (hs : Region.sinkB md ops n = true) (hc : Region.chainB md ops n = true) (hn : n < ops.size) (hin : i < n)
    (hdone : ∀ listed a, L listed a → ∀ j ∈ Region.ready md ops listed, n ≤ j) :
    ∀ (f : Nat) (listed : Array Bool) (a : Act), HeadInv md ops n listed →
      (∀ j oj, ops[j]? = some oj → j ≠ i → listed.getD j true = false → (∀ e ∈ oj.after, Region.binds md e = true → e.on ≠ i) → oi.apart ops oj = true) →
      i ∈ Region.ready md ops listed → YieldsIn P ops C oi v a →
      headAny P md ops C n L f (listed.setIfInBounds i true) (a.put oi.dst v) → headAny P md ops C n L (f + 1) listed a := by
  intro f
  induction f with
  | zero =>
    intro listed a inv _ hr hy H
    refine ⟨fun h => (by rw [h] at hr; cases hr), fun j hj => ?_⟩
    have hjn : j < n := by
      rcases Nat.lt_or_ge j n with h | h
      · exact h
      · exact absurd hj (tail_waits hs hc hn inv _ i rfl hin (mem_ready.1 hr).1 j h)
    refine ⟨hjn, ?_⟩
    by_cases hji : j = i
    · subst hji; exact hy.qOp hi H
    · have := hdone _ _ H j (ready_mono hj hji)
      omega
  | succ f ih =>
    intro listed a inv hfree hr hy H
    have hun := (mem_ready.1 hr).1
    refine ⟨fun h => (by rw [h] at hr; cases hr), fun j hj => ?_⟩
    have hjn : j < n := by
      rcases Nat.lt_or_ge j n with h | h
      · exact h
      · exact absurd hj (tail_waits hs hc hn inv _ i rfl hin hun j h)
    refine ⟨hjn, ?_⟩
    by_cases hji : j = i
    · subst hji; exact hy.qOp hi H
    · have h1 := (H.2 j (ready_mono hj hji)).2
      obtain ⟨hjun, oj, hoj, hall⟩ := mem_ready.1 hj
      have hnot : ∀ e ∈ oj.after, Region.binds md e = true → e.on ≠ i := fun e he hb heq => by
        have h1 := hall e he hb
        rw [heq, getD_both hun] at h1
        cases h1
      have h2 := qOp_put hoj (hfree j oj hoj hji hjun hnot) (fun cs b => hsel i oi cs b hi) (fun cs b => hsel j oj cs b hoj) hy h1
      have hfree' : ∀ k ok, ops[k]? = some ok → k ≠ i → (listed.setIfInBounds j true).getD k true = false →
          (∀ e ∈ ok.after, Region.binds md e = true → e.on ≠ i) → oi.apart ops ok = true := fun k ok hk hki hun hno => by
        refine hfree k ok hk hki ?_ hno
        by_cases hjk : j = k
        · subst hjk; exact hjun
        · rw [getD_set_ne true hjk] at hun; exact hun
      refine qOp_mono (fun a' h3 => ih (listed.setIfInBounds j true) a' (inv.set hj hjn) hfree' (ready_mono hr (Ne.symm hji)) h3.1 ?_) h2
      rw [Array.setIfInBounds_comm _ _ hji]
      exact h3.2
theorem headAny_lex {n g : Nat} {Lq : Act → Prop} (hsel : Region.noSelect ops = true) (hs : Region.sinkB md ops n = true) (hc : Region.chainB md ops n = true) (hn : n < ops.size) :
    ∀ (l : List Oper) (k : Nat) (listed : Array Bool) (a : Act), (∀ j, j < l.length → l[j]? = ops[k + j]?) → k + l.length = n → HeadInv md ops n listed →
    Region.lexHead md ops g l.length k listed = true → wpQuiet P ops C Lq l a →
    headAny P md ops C n (fun listed' a' => Region.seqB md ops g n listed' = true ∧ Lq a') l.length listed a
  | [], k, listed, a, _, hk, _, hB, h => by
    have : k = n := by simpa using hk
    subst this
    exact ⟨by simpa [Region.lexHead] using hB, h⟩
  | o :: l, k, listed, a, hl, hk, inv, hB, h => by
    have h0 : ops[k]? = some o := by simpa using (hl 0 (by simp)).symm
    simp only [List.length_cons, Region.lexHead, Bool.and_eq_true] at hB
    obtain ⟨⟨hr, hf⟩, hB'⟩ := hB
    have hkn : k < n := by simp only [List.length_cons] at hk; omega
    have hr' : k ∈ Region.ready md ops listed := by simpa using hr
    have hst : qOp P ops C k (wpQuiet P ops C Lq l) a := by unfold qOp; simp only [h0]; exact h
    obtain ⟨v, hy, hK⟩ := yieldsIn_of_qOp h0 hst
    exact headAny_first h0 (Region.noSelect_spec hsel) hs hc hn hkn (fun listed' a' hL => seqB_ready hL.1) l.length listed a inv (Region.free_spec h0 hf) hr' hy
      (headAny_lex hsel hs hc hn l (k + 1) _ _ (fun j hj => by have := hl (j + 1) (by simp; omega); simpa [Nat.add_assoc, Nat.add_comm 1 j] using this) (by simp only [List.length_cons] at hk; omega) (inv.set hr' hkn) hB' hK)
theorem wp_region_quiet_tail {id : Nat} {Q : Exit → Act → World → Prop} {a : Act} {w : World} {l : List Oper} (n : Nat) (hm : P.follows .mixedOrders = true) (hB : Region.lexTailB .any l.toArray n = true) (hC : C { w with drawn := w.drawn + 1 })
    (h : wpQuiet P l.toArray C (fun a' => ∀ w', C w' → wpList P l.toArray Q (l.drop n) a' w') (l.take n) a) : (Code.region id l.toArray true).wp P Q a w := by
  simp only [Region.lexTailB, Bool.and_eq_true, decide_eq_true_eq] at hB
  obtain ⟨⟨⟨⟨hsel, hn⟩, hs⟩, hc⟩, hlex⟩ := hB
  have hn' : n < l.length := by simpa using hn
  have htl : (l.take n).length = n := by simp; omega
  have hdl : (l.drop n).length = l.toArray.size - n := by simp
  have inv0 : HeadInv .any l.toArray n (Array.replicate l.toArray.size false) :=
    ⟨by simp, fun j oj _ hl => (by rw [getD_replicate_false] at hl; cases hl), fun t _ ht => getD_in (by simpa using ht) (getD_replicate_false _ _)⟩
  have H := headAny_lex (md := .any) (g := l.toArray.size - n) hsel hs hc hn (l.take n) 0 _ a (fun j hj => by
    have hj' : j < n := by rw [htl] at hj; exact hj
    simp [hj']) (by simpa using htl) inv0 (by rw [htl]; exact hlex) h
  refine wp_region_any hm ?_
  have := headAny_any (Q' := Q) (g := l.toArray.size - n) (fun listed a' w' hw' hL => by
    have := wpAny_of_seq (md := .any) (Q' := Q) (l.drop n) n listed a' w' (fun j => by simp [List.getElem?_drop]) (by rw [hdl]; exact hL.1) (hL.2 w' hw')
    rwa [hdl] at this) _ _ _ _ hC H
  rw [htl, show n + (l.toArray.size - n) = l.toArray.size by omega] at this
  exact this
end
/-- The worlds that have only gained since w: their reads, and what follows in each of them. -/
theorem wp_region_keep_tail {P : Program} {id : Nat} {Q : Exit → Act → World → Prop} {a : Act} {w : World} {l : List Oper} (n : Nat) (hm : P.follows .mixedOrders = true) (hB : Region.lexTailB .any l.toArray n = true)
    (h : wpQuiet P l.toArray (fun w' => ∃ n, w' = Wk w n) (fun a' => ∀ w', (∃ n, w' = Wk w n) → wpList P l.toArray Q (l.drop n) a' w') (l.take n) a) : (Code.region id l.toArray true).wp P Q a w :=
  wp_region_quiet_tail (C := fun w' => ∃ n, w' = Wk w n) n hm hB ⟨⟨w.drew, Keep.drew _ _⟩, rfl⟩ h
end Go.Proofs.Ytgmggmpkbfljfaa

/- A region that draws its order: operations that only read (the same in every world of a class), among them some that turn the world and come one behind the other, and a chain behind all of them: one walk. -/
set_option linter.unusedVariables false
set_option linter.unusedSimpArgs false
namespace Go.Proofs.Ytgmggmpkbfljfaa
open Go.RowKit
section
variable {P : Program} {ops : Array Oper} {md : Region.Mode} {S : World → Prop} {Q : Exit → Act → World → Prop}
def heldAny (P : Program) (md : Region.Mode) (ops : Array Oper) (Q : Exit → Act → World → Prop) (S : World → Prop) (n : Nat) (L : Array Bool → Act → World → Prop) : Nat → Array Bool → Act → World → Prop
  | 0, listed, a, w => L listed a w
  | f + 1, listed, a, w => Region.ready md ops listed ≠ [] ∧ ∀ i ∈ Region.ready md ops listed, i < n ∧ wpOp P ops Q i (fun a' w' => S w' ∧ heldAny P md ops Q S n L f (listed.setIfInBounds i true) a' w') a w
theorem heldAny_any {n g : Nat} {L : Array Bool → Act → World → Prop} (hL : ∀ listed a w, L listed a w → wpAny P md ops Q g listed a w) :
    ∀ (f : Nat) (listed : Array Bool) (a : Act) (w : World), heldAny P md ops Q S n L f listed a w → wpAny P md ops Q (f + g) listed a w
  | 0, listed, a, w, h => by rw [Nat.zero_add]; exact hL _ _ _ h
  | f + 1, listed, a, w, h => by
    rw [show f + 1 + g = (f + g) + 1 by omega]
    exact ⟨fun h0 => absurd h0 h.1, fun i hi => wpOp_mono (fun a' w' h' => heldAny_any hL f _ a' w' h'.2) (h.2 i hi).2⟩
theorem heldAny_first {n i : Nat} {oi : Oper} {v : Value} {L : Array Bool → Act → World → Prop} (hi : ops[i]? = some oi) (hsel : ∀ (j : Nat) (o : Oper) cs b, ops[j]? = some o → o.op ≠ .select cs b)
    (hQ : ∀ c a w, Q (.panic c) (a.put oi.dst v) w → Q (.panic c) a w)
    (hs : Region.sinkB md ops n = true) (hc : Region.chainB md ops n = true) (hn : n < ops.size) (hin : i < n)
    (hdone : ∀ listed a w, L listed a w → ∀ j ∈ Region.ready md ops listed, n ≤ j) :
    ∀ (f : Nat) (listed : Array Bool) (a : Act) (w : World), HeadInv md ops n listed →
      (∀ j oj, ops[j]? = some oj → j ≠ i → listed.getD j true = false → (∀ e ∈ oj.after, Region.binds md e = true → e.on ≠ i) → oi.apart ops oj = true) →
      i ∈ Region.ready md ops listed → YieldsIf P ops S oi v a → S w →
      heldAny P md ops Q S n L f (listed.setIfInBounds i true) (a.put oi.dst v) w → heldAny P md ops Q S n L (f + 1) listed a w := by
  intro f
  induction f with
  | zero =>
    intro listed a w inv _ hr hy hS H
    refine ⟨fun h => (by rw [h] at hr; cases hr), fun j hj => ?_⟩
    have hjn : j < n := by
      rcases Nat.lt_or_ge j n with h | h
      · exact h
      · exact absurd hj (tail_waits hs hc hn inv _ i rfl hin (mem_ready.1 hr).1 j h)
    refine ⟨hjn, ?_⟩
    by_cases hji : j = i
    · subst hji; exact hy.wpOp hi hS ⟨hS, H⟩
    · have := hdone _ _ _ H j (ready_mono hj hji)
      omega
  | succ f ih =>
    intro listed a w inv hfree hr hy hS H
    have hun := (mem_ready.1 hr).1
    refine ⟨fun h => (by rw [h] at hr; cases hr), fun j hj => ?_⟩
    have hjn : j < n := by
      rcases Nat.lt_or_ge j n with h | h
      · exact h
      · exact absurd hj (tail_waits hs hc hn inv _ i rfl hin hun j h)
    refine ⟨hjn, ?_⟩
    by_cases hji : j = i
    · subst hji; exact hy.wpOp hi hS ⟨hS, H⟩
    · have h1 := (H.2 j (ready_mono hj hji)).2
      obtain ⟨hjun, oj, hoj, hall⟩ := mem_ready.1 hj
      have hnot : ∀ e ∈ oj.after, Region.binds md e = true → e.on ≠ i := fun e he hb heq => by
        have h1 := hall e he hb
        rw [heq, getD_both hun] at h1
        cases h1
      have h2 := wpOp_putIf hoj (hfree j oj hoj hji hjun hnot) (fun cs b => hsel i oi cs b hi) (fun cs b => hsel j oj cs b hoj) hQ hy h1
      have hfree' : ∀ k ok, ops[k]? = some ok → k ≠ i → (listed.setIfInBounds j true).getD k true = false →
          (∀ e ∈ ok.after, Region.binds md e = true → e.on ≠ i) → oi.apart ops ok = true := fun k ok hk hki hun hno => by
        refine hfree k ok hk hki ?_ hno
        by_cases hjk : j = k
        · subst hjk; exact hjun
        · rw [getD_set_ne true hjk] at hun; exact hun
      refine wpOp_mono (fun a' w' h3 => ⟨h3.2.1, ih (listed.setIfInBounds j true) a' w' (inv.set hj hjn) hfree' (ready_mono hr (Ne.symm hji)) h3.1 h3.2.1 ?_⟩) h2
      rw [Array.setIfInBounds_comm _ _ hji]
      exact h3.2.2
/-- The walk in the order of the text: M are the operations that turn the world. -/
def heldL (P : Program) (ops : Array Oper) (Q : Exit → Act → World → Prop) (S : World → Prop) (M : List Nat) (Lq : Act → World → Prop) : List Oper → Nat → Act → World → Prop
  | [], _, a, w => Lq a w
  | o :: rest, k, a, w => (M.contains k = true ∧ o.guard = none ∧ o.wp P a w (fun a' w' => S w' ∧ heldL P ops Q S M Lq rest (k + 1) a' w') Q) ∨
      (M.contains k = false ∧ S w ∧ ∃ v, YieldsIf P ops S o v a ∧ heldL P ops Q S M Lq rest (k + 1) (a.put o.dst v) w)
theorem heldL_nil {M : List Nat} {Lq : Act → World → Prop} {k : Nat} {a : Act} {w : World} (h : Lq a w) : heldL P ops Q S M Lq [] k a w := h
theorem heldL_val {M : List Nat} {Lq : Act → World → Prop} {o : Oper} {rest : List Oper} {k : Nat} {a : Act} {w : World} {v : Value} (hk : M.contains k = false) (hg : o.guard = none) (hS : S w)
    (h1 : ∀ w, S w → (execOp a.eval o).run P w = .ok (.value v) w) (h2 : ∀ K : Act → Prop, (∀ a, heldL P ops Q S M Lq rest (k + 1) a w → K a) → K (a.put o.dst v)) : heldL P ops Q S M Lq (o :: rest) k a w :=
  .inr ⟨hk, hS, v, .inl ⟨by simp [Region.wanted, hg], h1⟩, h2 _ (fun _ h => h)⟩
theorem heldL_mut {M : List Nat} {Lq : Act → World → Prop} {o : Oper} {rest : List Oper} {k : Nat} {a : Act} {w : World} (hk : M.contains k = true) (hg : o.guard = none)
    (h : ∀ K : Act → World → Prop, (∀ a w, S w → heldL P ops Q S M Lq rest (k + 1) a w → K a w) → o.wp P a w K Q) : heldL P ops Q S M Lq (o :: rest) k a w :=
  .inl ⟨hk, hg, h _ (fun _ _ h1 h2 => ⟨h1, h2⟩)⟩
def Region.lexHeadM (md : Region.Mode) (ops : Array Oper) (M : List Nat) (g : Nat) : Nat → Nat → Array Bool → Bool
  | 0, k, listed => Region.seqB md ops g k listed
  | f + 1, k, listed => (if M.contains k then decide (Region.ready md ops listed = [k]) else (Region.ready md ops listed).contains k && Region.free md ops listed k) && Region.lexHeadM md ops M g f (k + 1) (listed.setIfInBounds k true)
theorem heldAny_lex {n g : Nat} {M : List Nat} {Lq : Act → World → Prop} (hsel : Region.noSelect ops = true) (hQ : ∀ c a d v w, Q (.panic c) (Act.put a d v) w → Q (.panic c) a w) (hs : Region.sinkB md ops n = true) (hc : Region.chainB md ops n = true) (hn : n < ops.size) :
    ∀ (l : List Oper) (k : Nat) (listed : Array Bool) (a : Act) (w : World), (∀ j, j < l.length → l[j]? = ops[k + j]?) → k + l.length = n → HeadInv md ops n listed →
    Region.lexHeadM md ops M g l.length k listed = true → heldL P ops Q S M Lq l k a w →
    heldAny P md ops Q S n (fun listed' a' w' => Region.seqB md ops g n listed' = true ∧ Lq a' w') l.length listed a w
  | [], k, listed, a, w, _, hk, _, hB, h => by
    have : k = n := by simpa using hk
    subst this
    exact ⟨by simpa [Region.lexHeadM] using hB, h⟩
  | o :: l, k, listed, a, w, hl, hk, inv, hB, h => by
    have h0 : ops[k]? = some o := by simpa using (hl 0 (by simp)).symm
    simp only [List.length_cons, Region.lexHeadM, Bool.and_eq_true] at hB
    obtain ⟨hr, hB'⟩ := hB
    have hkn : k < n := by simp only [List.length_cons] at hk; omega
    have hl' : ∀ j, j < l.length → l[j]? = ops[k + 1 + j]? := fun j hj => by have := hl (j + 1) (by simp; omega); simpa [Nat.add_assoc, Nat.add_comm 1 j] using this
    have hk' : k + 1 + l.length = n := by simp only [List.length_cons] at hk; omega
    rcases h with ⟨hM, hg, hwp⟩ | ⟨hM, hS, v, hy, hrest⟩
    · rw [if_pos hM] at hr
      have hr := of_decide_eq_true hr
      have hmem : k ∈ Region.ready md ops listed := by rw [hr]; simp
      refine ⟨by rw [hr]; simp, fun i hi => ?_⟩
      rw [hr] at hi
      obtain rfl : i = k := by simpa using hi
      refine ⟨hkn, ?_⟩
      unfold wpOp
      simp only [h0]
      rw [if_pos (by simp [Region.wanted, hg])]
      refine .inl (Oper.wp_mono ?_ hwp)
      rintro a' w' ⟨hS', h'⟩
      exact ⟨hS', heldAny_lex hsel hQ hs hc hn l (i + 1) _ _ _ hl' hk' (inv.set hmem hkn) hB' h'⟩
    · rw [if_neg (by rw [hM]; simp), Bool.and_eq_true] at hr
      have hr' : k ∈ Region.ready md ops listed := by simpa using hr.1
      exact heldAny_first h0 (Region.noSelect_spec hsel) (fun c a w h => hQ c _ _ _ w h) hs hc hn hkn (fun listed' a' w' hL => seqB_ready hL.1) l.length listed a w inv (Region.free_spec h0 hr.2) hr' hy hS
        (heldAny_lex hsel hQ hs hc hn l (k + 1) _ _ _ hl' hk' (inv.set hr' hkn) hB' hrest)
theorem wp_region_held_tail {id : Nat} {a : Act} {w : World} {l : List Oper} (n : Nat) (M : List Nat) (hm : P.follows .mixedOrders = true)
    (hB : (Region.noSelect l.toArray && decide (n < l.toArray.size) && Region.sinkB .any l.toArray n && Region.chainB .any l.toArray n && Region.lexHeadM .any l.toArray M (l.toArray.size - n) n 0 (Array.replicate l.toArray.size false)) = true)
    (hQ : ∀ c a d v w, Q (.panic c) (Act.put a d v) w → Q (.panic c) a w)
    (h : heldL P l.toArray Q S M (fun a' w' => wpList P l.toArray Q (l.drop n) a' w') (l.take n) 0 a w.drew) : (Code.region id l.toArray true).wp P Q a w := by
  simp only [Bool.and_eq_true, decide_eq_true_eq] at hB
  obtain ⟨⟨⟨⟨hsel, hn⟩, hs⟩, hc⟩, hlex⟩ := hB
  have hn' : n < l.length := by simpa using hn
  have htl : (l.take n).length = n := by simp; omega
  have hdl : (l.drop n).length = l.toArray.size - n := by simp
  have inv0 : HeadInv .any l.toArray n (Array.replicate l.toArray.size false) :=
    ⟨by simp, fun j oj _ hl => (by rw [getD_replicate_false] at hl; cases hl), fun t _ ht => getD_in (by simpa using ht) (getD_replicate_false _ _)⟩
  have H := heldAny_lex (md := .any) (g := l.toArray.size - n) hsel hQ hs hc hn (l.take n) 0 _ a _ (fun j hj => by
    have hj' : j < n := by rw [htl] at hj; exact hj
    simp [hj']) (by simpa using htl) inv0 (by rw [htl]; exact hlex) h
  refine wp_region_any hm ?_
  have := heldAny_any (Q := Q) (g := l.toArray.size - n) (fun listed a' w' hL => by
    have := wpAny_of_seq (md := .any) (Q' := Q) (l.drop n) n listed a' w' (fun j => by simp [List.getElem?_drop]) (by rw [hdl]; exact hL.1) hL.2
    rwa [hdl] at this) _ _ _ _ H
  rw [htl, show n + (l.toArray.size - n) = l.toArray.size by omega] at this
  exact this
end
end Go.Proofs.Ytgmggmpkbfljfaa

/- The like, where what turns the world can come in several orders: the walker says which come up. -/
set_option linter.unusedVariables false
set_option linter.unusedSimpArgs false
namespace Go.Proofs.Ytgmggmpkbfljfaa
open Go.RowKit
section
variable {P : Program} {ops : Array Oper} {md : Region.Mode} {S : World → Prop} {Q : Exit → Act → World → Prop}
/-- Either one that only reads is taken first, or whichever comes up. -/
def heldT (P : Program) (md : Region.Mode) (ops : Array Oper) (Q : Exit → Act → World → Prop) (S : World → Prop) (n : Nat) (L : Array Bool → Act → World → Prop) : Nat → Array Bool → Act → World → Prop
  | 0, listed, a, w => L listed a w
  | f + 1, listed, a, w =>
    (∃ i o v, ops[i]? = some o ∧ i < n ∧ Region.free md ops listed i = true ∧ (Region.ready md ops listed).contains i = true ∧ YieldsIf P ops S o v a ∧ S w ∧ heldT P md ops Q S n L f (listed.setIfInBounds i true) (a.put o.dst v) w) ∨
    (Region.ready md ops listed ≠ [] ∧ ∀ i ∈ Region.ready md ops listed, i < n ∧ wpOp P ops Q i (fun a' w' => S w' ∧ heldT P md ops Q S n L f (listed.setIfInBounds i true) a' w') a w)
theorem heldT_any {n : Nat} {L : Array Bool → Act → World → Prop} (hsel : Region.noSelect ops = true) (hQ : ∀ c a d v w, Q (.panic c) (Act.put a d v) w → Q (.panic c) a w)
    (hs : Region.sinkB md ops n = true) (hc : Region.chainB md ops n = true) (hn : n < ops.size) (hdone : ∀ listed a w, L listed a w → ∀ j ∈ Region.ready md ops listed, n ≤ j) :
    ∀ (f : Nat) (listed : Array Bool) (a : Act) (w : World), HeadInv md ops n listed → heldT P md ops Q S n L f listed a w → heldAny P md ops Q S n L f listed a w
  | 0, _, _, _, _, h => h
  | f + 1, listed, a, w, inv, h => by
    rcases h with ⟨i, o, v, ho, hi, hf, hr, hy, hS, hrest⟩ | ⟨hne, hall⟩
    · have hr' : i ∈ Region.ready md ops listed := by simpa using hr
      exact heldAny_first ho (Region.noSelect_spec hsel) (fun c a w h => hQ c _ _ _ w h) hs hc hn hi hdone f listed a w inv (Region.free_spec ho hf) hr' hy hS
        (heldT_any hsel hQ hs hc hn hdone f _ _ _ (inv.set hr' hi) hrest)
    · exact ⟨hne, fun i hi => ⟨(hall i hi).1, wpOp_mono (fun a' w' h' => ⟨h'.1, heldT_any hsel hQ hs hc hn hdone f _ _ _ (inv.set hi (hall i hi).1) h'.2⟩) (hall i hi).2⟩⟩
theorem wp_region_heldT {id : Nat} {a : Act} {w : World} {l : List Oper} (n : Nat) (hm : P.follows .mixedOrders = true)
    (hB : (Region.noSelect l.toArray && decide (n < l.toArray.size) && Region.sinkB .any l.toArray n && Region.chainB .any l.toArray n) = true)
    (hQ : ∀ c a d v w, Q (.panic c) (Act.put a d v) w → Q (.panic c) a w)
    (h : heldT P .any l.toArray Q S n (fun listed' a' w' => Region.seqB .any l.toArray (l.toArray.size - n) n listed' = true ∧ wpList P l.toArray Q (l.drop n) a' w') n (Array.replicate l.toArray.size false) a w.drew) : (Code.region id l.toArray true).wp P Q a w := by
  simp only [Bool.and_eq_true, decide_eq_true_eq] at hB
  obtain ⟨⟨⟨hsel, hn⟩, hs⟩, hc⟩ := hB
  have hdl : (l.drop n).length = l.toArray.size - n := by simp
  have inv0 : HeadInv .any l.toArray n (Array.replicate l.toArray.size false) :=
    ⟨by simp, fun j oj _ hl => (by rw [getD_replicate_false] at hl; cases hl), fun t _ ht => getD_in (by simpa using ht) (getD_replicate_false _ _)⟩
  have H := heldT_any hsel hQ hs hc hn (fun listed a w hL => seqB_ready hL.1) n _ a _ inv0 h
  refine wp_region_any hm ?_
  have := heldAny_any (Q := Q) (g := l.toArray.size - n) (fun listed a' w' hL => by
    have := wpAny_of_seq (md := .any) (Q' := Q) (l.drop n) n listed a' w' (fun j => by simp [List.getElem?_drop]) (by rw [hdl]; exact hL.1) hL.2
    rwa [hdl] at this) _ _ _ _ H
  rw [show n + (l.toArray.size - n) = l.toArray.size by omega] at this
  exact this
/-! ### the steps -/
theorem heldT_val {n f : Nat} {L : Array Bool → Act → World → Prop} {listed : Array Bool} {a : Act} {w : World} (i : Nat) {o : Oper} {v : Value} (ho : ops[i]? = some o) (hi : i < n) (hf : Region.free md ops listed i = true) (hr : (Region.ready md ops listed).contains i = true)
    (hg : o.guard = none) (hS : S w) (h1 : ∀ w, S w → (execOp a.eval o).run P w = .ok (.value v) w)
    (h2 : ∀ K : Act → Prop, (∀ a, heldT P md ops Q S n L f (listed.setIfInBounds i true) a w → K a) → K (a.put o.dst v)) : heldT P md ops Q S n L (f + 1) listed a w :=
  .inl ⟨i, o, v, ho, hi, hf, hr, .inl ⟨by simp [Region.wanted, hg], h1⟩, hS, h2 _ (fun _ h => h)⟩
theorem heldT_one {n f : Nat} {L : Array Bool → Act → World → Prop} {listed : Array Bool} {a : Act} {w : World} (i : Nat) {o : Oper} (hr : Region.ready md ops listed = [i]) (hi : i < n) (ho : ops[i]? = some o) (hg : o.guard = none)
    (h : ∀ K : Act → World → Prop, (∀ a w, S w → heldT P md ops Q S n L f (listed.setIfInBounds i true) a w → K a w) → o.wp P a w K Q) : heldT P md ops Q S n L (f + 1) listed a w := by
  refine .inr ⟨by rw [hr]; simp, fun j hj => ?_⟩
  rw [hr] at hj
  obtain rfl : j = i := by simpa using hj
  refine ⟨hi, ?_⟩
  unfold wpOp
  simp only [ho]
  rw [if_pos (by simp [Region.wanted, hg])]
  exact .inl (h _ (fun _ _ h1 h2 => ⟨h1, h2⟩))
theorem heldT_two {n f : Nat} {L : Array Bool → Act → World → Prop} {listed : Array Bool} {a : Act} {w : World} (i j : Nat) {o u : Oper} (hr : Region.ready md ops listed = [i, j]) (hi : i < n) (hj : j < n) (ho : ops[i]? = some o) (hu : ops[j]? = some u) (hg : o.guard = none) (hgu : u.guard = none)
    (h : ∀ K : Act → World → Prop, (∀ a w, S w → heldT P md ops Q S n L f (listed.setIfInBounds i true) a w → K a w) → o.wp P a w K Q)
    (h' : ∀ K : Act → World → Prop, (∀ a w, S w → heldT P md ops Q S n L f (listed.setIfInBounds j true) a w → K a w) → u.wp P a w K Q) : heldT P md ops Q S n L (f + 1) listed a w := by
  refine .inr ⟨by rw [hr]; simp, fun k hk => ?_⟩
  rw [hr] at hk
  simp only [List.mem_cons, List.not_mem_nil, or_false] at hk
  rcases hk with rfl | rfl
  · refine ⟨hi, ?_⟩
    unfold wpOp
    simp only [ho]
    rw [if_pos (by simp [Region.wanted, hg])]
    exact .inl (h _ (fun _ _ h1 h2 => ⟨h1, h2⟩))
  · refine ⟨hj, ?_⟩
    unfold wpOp
    simp only [hu]
    rw [if_pos (by simp [Region.wanted, hgu])]
    exact .inl (h' _ (fun _ _ h1 h2 => ⟨h1, h2⟩))
end
end Go.Proofs.Ytgmggmpkbfljfaa

/- A region that draws its order: first what reads and calls (a class of worlds), then what the walker orders, then a chain. -/
set_option linter.unusedVariables false
set_option linter.unusedSimpArgs false
namespace Go.Proofs.Ytgmggmpkbfljfaa
open Go.RowKit
section
variable {P : Program} {ops : Array Oper} {md : Region.Mode} {C S : World → Prop}
/-- All behind n wait for each ahead of n, directly or by one that waits for it. -/
def Region.layerB (md : Region.Mode) (ops : Array Oper) (n : Nat) : Bool :=
  (List.range n).all fun i => ((List.range n).any fun j => decide (i < j) && Region.waitsFor md ops j i) || ((List.range ops.size).all fun t => decide (t < n) || Region.waitsFor md ops t i)
theorem layer_waits {n : Nat} {listed : Array Bool} (hs : Region.layerB md ops n = true) (hn : n < ops.size) (inv : HeadInv md ops n listed) :
    ∀ (d i : Nat), n - i = d → i < n → listed.getD i true = false → ∀ t, n ≤ t → t ∉ Region.ready md ops listed := by
  intro d
  induction d using Nat.strongRecOn with
  | _ d ih =>
    intro i hd hi hun t ht hr
    obtain ⟨_, ot, hot, hall⟩ := mem_ready.1 hr
    have htlt : t < ops.size := (Array.getElem?_eq_some_iff.1 hot).1
    have h1 := List.all_eq_true.1 hs i (List.mem_range.2 hi)
    rw [Bool.or_eq_true] at h1
    rcases h1 with h1 | h1
    · obtain ⟨j, hj, hj2⟩ := List.any_eq_true.1 h1
      simp only [Bool.and_eq_true, decide_eq_true_eq] at hj2
      obtain ⟨oj, hoj, e, he, hb, hon⟩ := Region.waitsFor_spec hj2.2
      have hjle : j < n := List.mem_range.1 hj
      cases hl : listed.getD j false with
      | true =>
        have h2 := inv.closed j oj hoj hl e he hb
        rw [hon, getD_both hun] at h2
        cases h2
      | false =>
        have hjs : j < listed.size := by rw [inv.size]; omega
        exact ih (n - j) (by omega) j rfl hjle (getD_in hjs hl) t ht hr
    · have h2 := List.all_eq_true.1 h1 t (List.mem_range.2 htlt)
      rw [Bool.or_eq_true] at h2
      rcases h2 with h2 | h2
      · have := of_decide_eq_true h2; omega
      · obtain ⟨o', ho', e, he, hb, hon⟩ := Region.waitsFor_spec h2
        have : o' = ot := Option.some.inj (ho'.symm.trans hot)
        subst this
        have h3 := hall e he hb
        rw [hon, getD_both hun] at h3
        cases h3
theorem headAny_first2 {n i : Nat} {oi : Oper} {v : Value} {L : Array Bool → Act → Prop} (hi : ops[i]? = some oi) (hsel : ∀ (j : Nat) (o : Oper) cs b, ops[j]? = some o → o.op ≠ .select cs b)
    (hs : Region.layerB md ops n = true) (hn : n < ops.size) (hin : i < n)
    (hdone : ∀ listed a, L listed a → ∀ j ∈ Region.ready md ops listed, n ≤ j) :
    ∀ (f : Nat) (listed : Array Bool) (a : Act), HeadInv md ops n listed →
      (∀ j oj, ops[j]? = some oj → j ≠ i → listed.getD j true = false → (∀ e ∈ oj.after, Region.binds md e = true → e.on ≠ i) → oi.apart ops oj = true) →
      i ∈ Region.ready md ops listed → YieldsIn P ops C oi v a →
      headAny P md ops C n L f (listed.setIfInBounds i true) (a.put oi.dst v) → headAny P md ops C n L (f + 1) listed a := by
  intro f
  induction f with
  | zero =>
    intro listed a inv _ hr hy H
    refine ⟨fun h => (by rw [h] at hr; cases hr), fun j hj => ?_⟩
    have hjn : j < n := by
      rcases Nat.lt_or_ge j n with h | h
      · exact h
      · exact absurd hj (layer_waits hs hn inv _ i rfl hin (mem_ready.1 hr).1 j h)
    refine ⟨hjn, ?_⟩
    by_cases hji : j = i
    · subst hji; exact hy.qOp hi H
    · have := hdone _ _ H j (ready_mono hj hji)
      omega
  | succ f ih =>
    intro listed a inv hfree hr hy H
    have hun := (mem_ready.1 hr).1
    refine ⟨fun h => (by rw [h] at hr; cases hr), fun j hj => ?_⟩
    have hjn : j < n := by
      rcases Nat.lt_or_ge j n with h | h
      · exact h
      · exact absurd hj (layer_waits hs hn inv _ i rfl hin hun j h)
    refine ⟨hjn, ?_⟩
    by_cases hji : j = i
    · subst hji; exact hy.qOp hi H
    · have h1 := (H.2 j (ready_mono hj hji)).2
      obtain ⟨hjun, oj, hoj, hall⟩ := mem_ready.1 hj
      have hnot : ∀ e ∈ oj.after, Region.binds md e = true → e.on ≠ i := fun e he hb heq => by
        have h1 := hall e he hb
        rw [heq, getD_both hun] at h1
        cases h1
      have h2 := qOp_put hoj (hfree j oj hoj hji hjun hnot) (fun cs b => hsel i oi cs b hi) (fun cs b => hsel j oj cs b hoj) hy h1
      have hfree' : ∀ k ok, ops[k]? = some ok → k ≠ i → (listed.setIfInBounds j true).getD k true = false →
          (∀ e ∈ ok.after, Region.binds md e = true → e.on ≠ i) → oi.apart ops ok = true := fun k ok hk hki hun hno => by
        refine hfree k ok hk hki ?_ hno
        by_cases hjk : j = k
        · subst hjk; exact hjun
        · rw [getD_set_ne true hjk] at hun; exact hun
      refine qOp_mono (fun a' h3 => ih (listed.setIfInBounds j true) a' (inv.set hj hjn) hfree' (ready_mono hr (Ne.symm hji)) h3.1 ?_) h2
      rw [Array.setIfInBounds_comm _ _ hji]
      exact h3.2
def Region.lexHead0 (md : Region.Mode) (ops : Array Oper) : Nat → Nat → Array Bool → Bool
  | 0, _, _ => true
  | f + 1, k, listed => ((Region.ready md ops listed).contains k && Region.free md ops listed k) && Region.lexHead0 md ops f (k + 1) (listed.setIfInBounds k true)
def lsetFrom : Nat → Nat → Array Bool → Array Bool
  | 0, _, l => l
  | f + 1, k, l => lsetFrom f (k + 1) (l.setIfInBounds k true)
theorem headAny_lex2 {n : Nat} {Lq : Act → Prop} (E : Array Bool) (hsel : Region.noSelect ops = true) (hs : Region.layerB md ops n = true) (hn : n < ops.size) (hE : ∀ j ∈ Region.ready md ops E, n ≤ j) :
    ∀ (l : List Oper) (k : Nat) (listed : Array Bool) (a : Act), (∀ j, j < l.length → l[j]? = ops[k + j]?) → k + l.length = n → HeadInv md ops n listed → lsetFrom l.length k listed = E →
    Region.lexHead0 md ops l.length k listed = true → wpQuiet P ops C Lq l a →
    headAny P md ops C n (fun listed' a' => (listed' = E ∧ HeadInv md ops n E) ∧ Lq a') l.length listed a
  | [], k, listed, a, _, hk, inv, he, hB, h => by
    subst he
    exact ⟨⟨rfl, inv⟩, h⟩
  | o :: l, k, listed, a, hl, hk, inv, he, hB, h => by
    have h0 : ops[k]? = some o := by simpa using (hl 0 (by simp)).symm
    simp only [List.length_cons, Region.lexHead0, Bool.and_eq_true] at hB
    obtain ⟨⟨hr, hf⟩, hB'⟩ := hB
    have hkn : k < n := by simp only [List.length_cons] at hk; omega
    have hr' : k ∈ Region.ready md ops listed := by simpa using hr
    have hst : qOp P ops C k (wpQuiet P ops C Lq l) a := by unfold qOp; simp only [h0]; exact h
    obtain ⟨v, hy, hK⟩ := yieldsIn_of_qOp h0 hst
    exact headAny_first2 h0 (Region.noSelect_spec hsel) hs hn hkn (fun listed' a' hL => by rw [hL.1.1]; exact hE) l.length listed a inv (Region.free_spec h0 hf) hr' hy
      (headAny_lex2 E hsel hs hn hE l (k + 1) _ _ (fun j hj => by have := hl (j + 1) (by simp; omega); simpa [Nat.add_assoc, Nat.add_comm 1 j] using this) (by simp only [List.length_cons] at hk; omega) (inv.set hr' hkn) he hB' hK)
/-- The first n in the class of worlds, then up to m as the walker says, then a chain. -/
theorem wp_region_quiet_then {id : Nat} {Q : Exit → Act → World → Prop} {a : Act} {w : World} {l : List Oper} (n m : Nat) (hm : P.follows .mixedOrders = true)
    (hB : (Region.noSelect l.toArray && decide (n < l.toArray.size) && decide (n ≤ m) && decide (m < l.toArray.size) && Region.layerB .any l.toArray n && Region.lexHead0 .any l.toArray n 0 (Array.replicate l.toArray.size false)
      && ((Region.ready .any l.toArray (lsetFrom n 0 (Array.replicate l.toArray.size false))).all fun j => decide (n ≤ j)) && Region.sinkB .any l.toArray m && Region.chainB .any l.toArray m) = true)
    (hQ : ∀ c a d v w, Q (.panic c) (Act.put a d v) w → Q (.panic c) a w)
    (hC : C { w with drawn := w.drawn + 1 })
    (h : wpQuiet P l.toArray C (fun a' => ∀ w', C w' → heldT P .any l.toArray Q S m (fun listed' a' w' => Region.seqB .any l.toArray (l.toArray.size - m) m listed' = true ∧ wpList P l.toArray Q (l.drop m) a' w') (m - n) (lsetFrom n 0 (Array.replicate l.toArray.size false)) a' w') (l.take n) a) : (Code.region id l.toArray true).wp P Q a w := by
  simp only [Bool.and_eq_true, decide_eq_true_eq] at hB
  obtain ⟨⟨⟨⟨⟨⟨⟨⟨hsel, hn⟩, hnm⟩, hml⟩, hlay⟩, hlex⟩, hrd⟩, hs⟩, hc⟩ := hB
  have hn' : n < l.length := by simpa using hn
  have htl : (l.take n).length = n := by simp; omega
  have hdl : (l.drop m).length = l.toArray.size - m := by simp
  have inv0 : HeadInv .any l.toArray n (Array.replicate l.toArray.size false) :=
    ⟨by simp, fun j oj _ hl => (by rw [getD_replicate_false] at hl; cases hl), fun t _ ht => getD_in (by simpa using ht) (getD_replicate_false _ _)⟩
  have H := headAny_lex2 (md := .any) (lsetFrom n 0 (Array.replicate l.toArray.size false)) hsel hlay hn (fun j hj => of_decide_eq_true (List.all_eq_true.1 hrd j hj)) (l.take n) 0 _ a (fun j hj => by
    have hj' : j < n := by rw [htl] at hj; exact hj
    simp [hj']) (by simpa using htl) inv0 (by rw [htl]) (by rw [htl]; exact hlex) h
  refine wp_region_any hm ?_
  have := headAny_any (Q' := Q) (g := l.toArray.size - n) (fun listed a' w' hw' hL => by
    obtain ⟨⟨rfl, inv⟩, hL⟩ := hL
    have inv2 : HeadInv .any l.toArray m (lsetFrom n 0 (Array.replicate l.toArray.size false)) := ⟨inv.size, inv.closed, fun t ht => inv.tail t (by omega)⟩
    have H2 := heldT_any hsel hQ hs hc hml (fun listed a w hL => seqB_ready hL.1) (m - n) _ a' w' inv2 (hL w' hw')
    have := heldAny_any (Q := Q) (g := l.toArray.size - m) (fun listed a' w' hL => by
      have := wpAny_of_seq (md := .any) (Q' := Q) (l.drop m) m listed a' w' (fun j => by simp [List.getElem?_drop]) (by rw [hdl]; exact hL.1) hL.2
      rwa [hdl] at this) _ _ _ _ H2
    rwa [show m - n + (l.toArray.size - m) = l.toArray.size - n by omega] at this) _ _ _ _ hC H
  rw [htl, show n + (l.toArray.size - n) = l.toArray.size by omega] at this
  exact this
theorem wp_region_keep_then {id : Nat} {Q : Exit → Act → World → Prop} {a : Act} {w : World} {l : List Oper} (S : World → Prop) (n m : Nat) (hm : P.follows .mixedOrders = true)
    (hB : (Region.noSelect l.toArray && decide (n < l.toArray.size) && decide (n ≤ m) && decide (m < l.toArray.size) && Region.layerB .any l.toArray n && Region.lexHead0 .any l.toArray n 0 (Array.replicate l.toArray.size false)
      && ((Region.ready .any l.toArray (lsetFrom n 0 (Array.replicate l.toArray.size false))).all fun j => decide (n ≤ j)) && Region.sinkB .any l.toArray m && Region.chainB .any l.toArray m) = true)
    (hQ : ∀ c a d v w, Q (.panic c) (Act.put a d v) w → Q (.panic c) a w)
    (h : wpQuiet P l.toArray (fun w' => ∃ n, w' = Wk w n) (fun a' => ∀ w', (∃ n, w' = Wk w n) → heldT P .any l.toArray Q S m (fun listed' a' w' => Region.seqB .any l.toArray (l.toArray.size - m) m listed' = true ∧ wpList P l.toArray Q (l.drop m) a' w') (m - n) (lsetFrom n 0 (Array.replicate l.toArray.size false)) a' w') (l.take n) a) : (Code.region id l.toArray true).wp P Q a w :=
  wp_region_quiet_then (C := fun w' => ∃ n, w' = Wk w n) n m hm hB hQ ⟨⟨w.drew, Keep.drew _ _⟩, rfl⟩ h
/-! ### the steps behind a guard -/
variable {Q : Exit → Act → World → Prop}
theorem heldT_valg {n f : Nat} {L : Array Bool → Act → World → Prop} {listed : Array Bool} {a : Act} {w : World} (i : Nat) {o : Oper} {v : Value} (ho : ops[i]? = some o) (hi : i < n) (hf : Region.free md ops listed i = true) (hr : (Region.ready md ops listed).contains i = true)
    (hg : Region.wanted o (yielded ops a.tmps) = true) (hS : S w) (h1 : ∀ w, S w → (execOp a.eval o).run P w = .ok (.value v) w)
    (h2 : ∀ K : Act → Prop, (∀ a, heldT P md ops Q S n L f (listed.setIfInBounds i true) a w → K a) → K (a.put o.dst v)) : heldT P md ops Q S n L (f + 1) listed a w :=
  .inl ⟨i, o, v, ho, hi, hf, hr, .inl ⟨hg, h1⟩, hS, h2 _ (fun _ h => h)⟩
theorem heldT_oneg {n f : Nat} {L : Array Bool → Act → World → Prop} {listed : Array Bool} {a : Act} {w : World} (i : Nat) {o : Oper} (hr : Region.ready md ops listed = [i]) (hi : i < n) (ho : ops[i]? = some o) (hg : Region.wanted o (yielded ops a.tmps) = true)
    (h : ∀ K : Act → World → Prop, (∀ a w, S w → heldT P md ops Q S n L f (listed.setIfInBounds i true) a w → K a w) → o.wp P a w K Q) : heldT P md ops Q S n L (f + 1) listed a w := by
  refine .inr ⟨by rw [hr]; simp, fun j hj => ?_⟩
  rw [hr] at hj
  obtain rfl : j = i := by simpa using hj
  refine ⟨hi, ?_⟩
  unfold wpOp
  simp only [ho]
  rw [if_pos hg]
  exact .inl (h _ (fun _ _ h1 h2 => ⟨h1, h2⟩))
end
end Go.Proofs.Ytgmggmpkbfljfaa
