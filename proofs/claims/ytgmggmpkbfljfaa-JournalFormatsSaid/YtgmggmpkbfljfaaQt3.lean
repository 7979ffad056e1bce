/- A region that draws its order: first what reads and calls (a class of worlds), then what the walker orders, then a chain. -/
import Derived.Test.YtgmggmpkbfljfaaQt2
set_option linter.unusedVariables false
set_option linter.unusedSimpArgs false
namespace Go.Proofs.Ytgmggmpkbfljfaa
open Go.RowKit
section
variable {P : Program} {ops : Array Oper} {md : Region.Mode} {C S : World → Prop}
/-- All behind n wait for each ahead of n, directly or by one that waits for it. -/
def Region.layerB (md : Region.Mode) (ops : Array Oper) (n : Nat) : Bool :=
  (List.range n).all fun i => ((List.range n).any fun j => decide (i < j) && Region.waitsFor md ops j i) || ((List.range ops.size).all fun t => decide (t < n) || Region.waitsFor md ops t i)
theorem layer_waits {n : Nat} {listed : Array Bool} (hs : Region.layerB md ops n = true) (hn : n < ops.size) (inv : HeadInv md ops n listed) :
    ∀ (d i : Nat), n - i = d → i < n → listed.getD i true = false → ∀ t, n ≤ t → t ∉ Region.ready md ops listed := by
  intro d
  induction d using Nat.strongRecOn with
  | _ d ih =>
    intro i hd hi hun t ht hr
    obtain ⟨_, ot, hot, hall⟩ := mem_ready.1 hr
    have htlt : t < ops.size := (Array.getElem?_eq_some_iff.1 hot).1
    have h1 := List.all_eq_true.1 hs i (List.mem_range.2 hi)
    rw [Bool.or_eq_true] at h1
    rcases h1 with h1 | h1
    · obtain ⟨j, hj, hj2⟩ := List.any_eq_true.1 h1
      simp only [Bool.and_eq_true, decide_eq_true_eq] at hj2
      obtain ⟨oj, hoj, e, he, hb, hon⟩ := Region.waitsFor_spec hj2.2
      have hjle : j < n := List.mem_range.1 hj
      cases hl : listed.getD j false with
      | true =>
        have h2 := inv.closed j oj hoj hl e he hb
        rw [hon, getD_both hun] at h2
        cases h2
      | false =>
        have hjs : j < listed.size := by rw [inv.size]; omega
        exact ih (n - j) (by omega) j rfl hjle (getD_in hjs hl) t ht hr
    · have h2 := List.all_eq_true.1 h1 t (List.mem_range.2 htlt)
      rw [Bool.or_eq_true] at h2
      rcases h2 with h2 | h2
      · have := of_decide_eq_true h2; omega
      · obtain ⟨o', ho', e, he, hb, hon⟩ := Region.waitsFor_spec h2
        have : o' = ot := Option.some.inj (ho'.symm.trans hot)
        subst this
        have h3 := hall e he hb
        rw [hon, getD_both hun] at h3
        cases h3
theorem headAny_first2 {n i : Nat} {oi : Oper} {v : Value} {L : Array Bool → Act → Prop} (hi : ops[i]? = some oi) (hsel : ∀ (j : Nat) (o : Oper) cs b, ops[j]? = some o → o.op ≠ .select cs b)
    (hs : Region.layerB md ops n = true) (hn : n < ops.size) (hin : i < n)
    (hdone : ∀ listed a, L listed a → ∀ j ∈ Region.ready md ops listed, n ≤ j) :
    ∀ (f : Nat) (listed : Array Bool) (a : Act), HeadInv md ops n listed →
      (∀ j oj, ops[j]? = some oj → j ≠ i → listed.getD j true = false → (∀ e ∈ oj.after, Region.binds md e = true → e.on ≠ i) → oi.apart ops oj = true) →
      i ∈ Region.ready md ops listed → YieldsIn P ops C oi v a →
      headAny P md ops C n L f (listed.setIfInBounds i true) (a.put oi.dst v) → headAny P md ops C n L (f + 1) listed a := by
  intro f
  induction f with
  | zero =>
    intro listed a inv _ hr hy H
    refine ⟨fun h => (by rw [h] at hr; cases hr), fun j hj => ?_⟩
    have hjn : j < n := by
      rcases Nat.lt_or_ge j n with h | h
      · exact h
      · exact absurd hj (layer_waits hs hn inv _ i rfl hin (mem_ready.1 hr).1 j h)
    refine ⟨hjn, ?_⟩
    by_cases hji : j = i
    · subst hji; exact hy.qOp hi H
    · have := hdone _ _ H j (ready_mono hj hji)
      omega
  | succ f ih =>
    intro listed a inv hfree hr hy H
    have hun := (mem_ready.1 hr).1
    refine ⟨fun h => (by rw [h] at hr; cases hr), fun j hj => ?_⟩
    have hjn : j < n := by
      rcases Nat.lt_or_ge j n with h | h
      · exact h
      · exact absurd hj (layer_waits hs hn inv _ i rfl hin hun j h)
    refine ⟨hjn, ?_⟩
    by_cases hji : j = i
    · subst hji; exact hy.qOp hi H
    · have h1 := (H.2 j (ready_mono hj hji)).2
      obtain ⟨hjun, oj, hoj, hall⟩ := mem_ready.1 hj
      have hnot : ∀ e ∈ oj.after, Region.binds md e = true → e.on ≠ i := fun e he hb heq => by
        have h1 := hall e he hb
        rw [heq, getD_both hun] at h1
        cases h1
      have h2 := qOp_put hoj (hfree j oj hoj hji hjun hnot) (fun cs b => hsel i oi cs b hi) (fun cs b => hsel j oj cs b hoj) hy h1
      have hfree' : ∀ k ok, ops[k]? = some ok → k ≠ i → (listed.setIfInBounds j true).getD k true = false →
          (∀ e ∈ ok.after, Region.binds md e = true → e.on ≠ i) → oi.apart ops ok = true := fun k ok hk hki hun hno => by
        refine hfree k ok hk hki ?_ hno
        by_cases hjk : j = k
        · subst hjk; exact hjun
        · rw [getD_set_ne true hjk] at hun; exact hun
      refine qOp_mono (fun a' h3 => ih (listed.setIfInBounds j true) a' (inv.set hj hjn) hfree' (ready_mono hr (Ne.symm hji)) h3.1 ?_) h2
      rw [Array.setIfInBounds_comm _ _ hji]
      exact h3.2
def Region.lexHead0 (md : Region.Mode) (ops : Array Oper) : Nat → Nat → Array Bool → Bool
  | 0, _, _ => true
  | f + 1, k, listed => ((Region.ready md ops listed).contains k && Region.free md ops listed k) && Region.lexHead0 md ops f (k + 1) (listed.setIfInBounds k true)
def lsetFrom : Nat → Nat → Array Bool → Array Bool
  | 0, _, l => l
  | f + 1, k, l => lsetFrom f (k + 1) (l.setIfInBounds k true)
theorem headAny_lex2 {n : Nat} {Lq : Act → Prop} (E : Array Bool) (hsel : Region.noSelect ops = true) (hs : Region.layerB md ops n = true) (hn : n < ops.size) (hE : ∀ j ∈ Region.ready md ops E, n ≤ j) :
    ∀ (l : List Oper) (k : Nat) (listed : Array Bool) (a : Act), (∀ j, j < l.length → l[j]? = ops[k + j]?) → k + l.length = n → HeadInv md ops n listed → lsetFrom l.length k listed = E →
    Region.lexHead0 md ops l.length k listed = true → wpQuiet P ops C Lq l a →
    headAny P md ops C n (fun listed' a' => (listed' = E ∧ HeadInv md ops n E) ∧ Lq a') l.length listed a
  | [], k, listed, a, _, hk, inv, he, hB, h => by
    subst he
    exact ⟨⟨rfl, inv⟩, h⟩
  | o :: l, k, listed, a, hl, hk, inv, he, hB, h => by
    have h0 : ops[k]? = some o := by simpa using (hl 0 (by simp)).symm
    simp only [List.length_cons, Region.lexHead0, Bool.and_eq_true] at hB
    obtain ⟨⟨hr, hf⟩, hB'⟩ := hB
    have hkn : k < n := by simp only [List.length_cons] at hk; omega
    have hr' : k ∈ Region.ready md ops listed := by simpa using hr
    have hst : qOp P ops C k (wpQuiet P ops C Lq l) a := by unfold qOp; simp only [h0]; exact h
    obtain ⟨v, hy, hK⟩ := yieldsIn_of_qOp h0 hst
    exact headAny_first2 h0 (Region.noSelect_spec hsel) hs hn hkn (fun listed' a' hL => by rw [hL.1.1]; exact hE) l.length listed a inv (Region.free_spec h0 hf) hr' hy
      (headAny_lex2 E hsel hs hn hE l (k + 1) _ _ (fun j hj => by have := hl (j + 1) (by simp; omega); simpa [Nat.add_assoc, Nat.add_comm 1 j] using this) (by simp only [List.length_cons] at hk; omega) (inv.set hr' hkn) he hB' hK)
/-- The first n in the class of worlds, then up to m as the walker says, then a chain. -/
theorem wp_region_quiet_then {id : Nat} {Q : Exit → Act → World → Prop} {a : Act} {w : World} {l : List Oper} (n m : Nat) (hm : P.follows .mixedOrders = true)
    (hB : (Region.noSelect l.toArray && decide (n < l.toArray.size) && decide (n ≤ m) && decide (m < l.toArray.size) && Region.layerB .any l.toArray n && Region.lexHead0 .any l.toArray n 0 (Array.replicate l.toArray.size false)
      && ((Region.ready .any l.toArray (lsetFrom n 0 (Array.replicate l.toArray.size false))).all fun j => decide (n ≤ j)) && Region.sinkB .any l.toArray m && Region.chainB .any l.toArray m) = true)
    (hQ : ∀ c a d v w, Q (.panic c) (Act.put a d v) w → Q (.panic c) a w)
    (hC : C { w with drawn := w.drawn + 1 })
    (h : wpQuiet P l.toArray C (fun a' => ∀ w', C w' → heldT P .any l.toArray Q S m (fun listed' a' w' => Region.seqB .any l.toArray (l.toArray.size - m) m listed' = true ∧ wpList P l.toArray Q (l.drop m) a' w') (m - n) (lsetFrom n 0 (Array.replicate l.toArray.size false)) a' w') (l.take n) a) : (Code.region id l.toArray true).wp P Q a w := by
  simp only [Bool.and_eq_true, decide_eq_true_eq] at hB
  obtain ⟨⟨⟨⟨⟨⟨⟨⟨hsel, hn⟩, hnm⟩, hml⟩, hlay⟩, hlex⟩, hrd⟩, hs⟩, hc⟩ := hB
  have hn' : n < l.length := by simpa using hn
  have htl : (l.take n).length = n := by simp; omega
  have hdl : (l.drop m).length = l.toArray.size - m := by simp
  have inv0 : HeadInv .any l.toArray n (Array.replicate l.toArray.size false) :=
    ⟨by simp, fun j oj _ hl => (by rw [getD_replicate_false] at hl; cases hl), fun t _ ht => getD_in (by simpa using ht) (getD_replicate_false _ _)⟩
  have H := headAny_lex2 (md := .any) (lsetFrom n 0 (Array.replicate l.toArray.size false)) hsel hlay hn (fun j hj => of_decide_eq_true (List.all_eq_true.1 hrd j hj)) (l.take n) 0 _ a (fun j hj => by
    have hj' : j < n := by rw [htl] at hj; exact hj
    simp [hj']) (by simpa using htl) inv0 (by rw [htl]) (by rw [htl]; exact hlex) h
  refine wp_region_any hm ?_
  have := headAny_any (Q' := Q) (g := l.toArray.size - n) (fun listed a' w' hw' hL => by
    obtain ⟨⟨rfl, inv⟩, hL⟩ := hL
    have inv2 : HeadInv .any l.toArray m (lsetFrom n 0 (Array.replicate l.toArray.size false)) := ⟨inv.size, inv.closed, fun t ht => inv.tail t (by omega)⟩
    have H2 := heldT_any hsel hQ hs hc hml (fun listed a w hL => seqB_ready hL.1) (m - n) _ a' w' inv2 (hL w' hw')
    have := heldAny_any (Q := Q) (g := l.toArray.size - m) (fun listed a' w' hL => by
      have := wpAny_of_seq (md := .any) (Q' := Q) (l.drop m) m listed a' w' (fun j => by simp [List.getElem?_drop]) (by rw [hdl]; exact hL.1) hL.2
      rwa [hdl] at this) _ _ _ _ H2
    rwa [show m - n + (l.toArray.size - m) = l.toArray.size - n by omega] at this) _ _ _ _ hC H
  rw [htl, show n + (l.toArray.size - n) = l.toArray.size by omega] at this
  exact this
theorem wp_region_keep_then {id : Nat} {Q : Exit → Act → World → Prop} {a : Act} {w : World} {l : List Oper} (S : World → Prop) (n m : Nat) (hm : P.follows .mixedOrders = true)
    (hB : (Region.noSelect l.toArray && decide (n < l.toArray.size) && decide (n ≤ m) && decide (m < l.toArray.size) && Region.layerB .any l.toArray n && Region.lexHead0 .any l.toArray n 0 (Array.replicate l.toArray.size false)
      && ((Region.ready .any l.toArray (lsetFrom n 0 (Array.replicate l.toArray.size false))).all fun j => decide (n ≤ j)) && Region.sinkB .any l.toArray m && Region.chainB .any l.toArray m) = true)
    (hQ : ∀ c a d v w, Q (.panic c) (Act.put a d v) w → Q (.panic c) a w)
    (h : wpQuiet P l.toArray (fun w' => ∃ n, w' = Wk w n) (fun a' => ∀ w', (∃ n, w' = Wk w n) → heldT P .any l.toArray Q S m (fun listed' a' w' => Region.seqB .any l.toArray (l.toArray.size - m) m listed' = true ∧ wpList P l.toArray Q (l.drop m) a' w') (m - n) (lsetFrom n 0 (Array.replicate l.toArray.size false)) a' w') (l.take n) a) : (Code.region id l.toArray true).wp P Q a w :=
  wp_region_quiet_then (C := fun w' => ∃ n, w' = Wk w n) n m hm hB hQ ⟨⟨w.drew, Keep.drew _ _⟩, rfl⟩ h
/-! ### the steps behind a guard -/
variable {Q : Exit → Act → World → Prop}
theorem heldT_valg {n f : Nat} {L : Array Bool → Act → World → Prop} {listed : Array Bool} {a : Act} {w : World} (i : Nat) {o : Oper} {v : Value} (ho : ops[i]? = some o) (hi : i < n) (hf : Region.free md ops listed i = true) (hr : (Region.ready md ops listed).contains i = true)
    (hg : Region.wanted o (yielded ops a.tmps) = true) (hS : S w) (h1 : ∀ w, S w → (execOp a.eval o).run P w = .ok (.value v) w)
    (h2 : ∀ K : Act → Prop, (∀ a, heldT P md ops Q S n L f (listed.setIfInBounds i true) a w → K a) → K (a.put o.dst v)) : heldT P md ops Q S n L (f + 1) listed a w :=
  .inl ⟨i, o, v, ho, hi, hf, hr, .inl ⟨hg, h1⟩, hS, h2 _ (fun _ h => h)⟩
theorem heldT_oneg {n f : Nat} {L : Array Bool → Act → World → Prop} {listed : Array Bool} {a : Act} {w : World} (i : Nat) {o : Oper} (hr : Region.ready md ops listed = [i]) (hi : i < n) (ho : ops[i]? = some o) (hg : Region.wanted o (yielded ops a.tmps) = true)
    (h : ∀ K : Act → World → Prop, (∀ a w, S w → heldT P md ops Q S n L f (listed.setIfInBounds i true) a w → K a w) → o.wp P a w K Q) : heldT P md ops Q S n L (f + 1) listed a w := by
  refine .inr ⟨by rw [hr]; simp, fun j hj => ?_⟩
  rw [hr] at hj
  obtain rfl : j = i := by simpa using hj
  refine ⟨hi, ?_⟩
  unfold wpOp
  simp only [ho]
  rw [if_pos hg]
  exact .inl (h _ (fun _ _ h1 h2 => ⟨h1, h2⟩))
end
end Go.Proofs.Ytgmggmpkbfljfaa
