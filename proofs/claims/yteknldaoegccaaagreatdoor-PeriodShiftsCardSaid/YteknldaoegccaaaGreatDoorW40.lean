/- Parts of a proof about this translation: Vh, Vi, Qb, Vj, Vp. -/
import Derived.Lib.SliceRun
import Derived.Test.YteknldaoegccaaaGreatDoorW39
import Derived.Test.YteknldaoegccaaaGreatDoorW01
set_option linter.unusedVariables false
set_option linter.unusedSimpArgs false
set_option maxRecDepth 100000
namespace Go.Proofs.YteknldaoegccaaaGreatDoor
open Go.RowKit
open Classical
theorem mvQ_ok {x : Qn} (h : x.Ok) (q : Rat) : (mvQ x q).Ok := ⟨h.nn, h.zero, h.sq⟩
noncomputable def mvK (q : Rat) (x : K) : K := if h : FitR 100000 (mvQ x.1 q) then ⟨mvQ x.1 q, mvQ_ok x.2.1 q, h⟩ else x
noncomputable def mvI (q : Rat) (i : Iv K) : Iv K := ⟨⟨mvK q i.f.pt, i.f.beh⟩, ⟨mvK q i.l.pt, i.l.beh⟩⟩
def Sm (k : Nat) (x : K) : Prop := FitR k x.1
def SmI (k : Nat) (i : Iv K) : Prop := Sm k i.f.pt ∧ Sm k i.l.pt
theorem Sm.fit {k : Nat} {x : K} {q : Rat} (h : Sm k x) (hq : FitQ 24 q) : FitR (k + 25) (mvQ x.1 q) :=
 ⟨(FitQ.add h.1 hq).mono (by omega), h.2.mono (by omega)⟩
theorem mvK_val {k : Nat} {x : K} {q : Rat} (h : Sm k x) (hk : k ≤ 1000) (hq : FitQ 24 q) : (mvK q x).1 = mvQ x.1 q := by
 have hf := h.fit hq
 have hf2 : FitR 100000 (mvQ x.1 q) := ⟨hf.1.mono (by omega), hf.2.mono (by omega)⟩
 unfold mvK
 rw [dif_pos hf2]
theorem mvK_sm {k : Nat} {x : K} {q : Rat} (h : Sm k x) (hk : k ≤ 1000) (hq : FitQ 24 q) : Sm (k + 25) (mvK q x) := by
 unfold Sm
 rw [mvK_val h hk hq]
 exact h.fit hq
theorem mvI_sm {k : Nat} {i : Iv K} {q : Rat} (h : SmI k i) (hk : k ≤ 1000) (hq : FitQ 24 q) : SmI (k + 25) (mvI q i) := ⟨mvK_sm h.1 hk hq, mvK_sm h.2 hk hq⟩
theorem mvK_back {k : Nat} {x : K} {q : Rat} (h : Sm k x) (hk : k ≤ 900) (hq : FitQ 24 q) : mvK (-q) (mvK q x) = x := by
 refine Subtype.ext ?_
 rw [mvK_val (mvK_sm h (by omega) hq) (by omega) hq.neg, mvK_val h (by omega) hq]
 unfold mvQ
 have e : x.1.p + q + -q = x.1.p := by grind
 rw [e]
theorem mvI_back {k : Nat} {i : Iv K} {q : Rat} (h : SmI k i) (hk : k ≤ 900) (hq : FitQ 24 q) : mvI (-q) (mvI q i) = i := by
 unfold mvI
 dsimp only
 rw [mvK_back h.1 hk hq, mvK_back h.2 hk hq]
theorem mvL_back {k : Nat} {l : List (Iv K)} {q : Rat} (h : ∀ i ∈ l, SmI k i) (hk : k ≤ 900) (hq : FitQ 24 q) : (l.map (mvI q)).map (mvI (-q)) = l := by
 induction l with
 | nil => rfl
 | cons i l ih =>
  rw [List.map_cons, List.map_cons, mvI_back (h i (by simp)) hk hq, ih (fun j hj => h j (by simp [hj]))]
theorem insK_sm (a : InsA) : Sm 3 a.k := ofQ_fit a.fp a.fr
theorem spanI_sm (s : SpanA) : SmI 3 s.i := by
 unfold SpanA.i
 split
 ·exact ⟨insK_sm _, insK_sm _⟩
 ·split
  ·exact ⟨insK_sm _, insK_sm _⟩
  ·exact ⟨insK_sm _, insK_sm _⟩
theorem perOf_sm (l : List SpanA) : ∀ i ∈ perOf l, SmI 3 i := fun i hi => by
 have hp : ∀ x ∈ ptsL (ivsOf l), Sm 3 x := fun x hx => by
  obtain ⟨j, hj, h⟩ := ptsL_mem.1 hx
  unfold ivsOf at hj
  obtain ⟨s, _, rfl⟩ := List.mem_map.1 hj
  rcases h with rfl | rfl
  ·exact (spanI_sm s).1
  ·exact (spanI_sm s).2
 have := (perOf_per l).pts i hi
 exact ⟨hp _ this.1, hp _ this.2⟩
theorem kcells_mv {k : Nat} {x : K} {q : Rat} (h : Sm k x) (hk : k ≤ 1000) (hq : FitQ 24 q) : kC (mvK q x) = (kcells (mvQ x.1 q)).toArray := by
 unfold kC
 rw [mvK_val h hk hq]
end Go.Proofs.YteknldaoegccaaaGreatDoor
set_option maxRecDepth 100000
namespace Go.Proofs.YteknldaoegccaaaGreatDoor
open Go.RowKit
open Classical
theorem flat_mid (a b : List (Iv K)) (s t : Iv K) (hf : t.f.beh = s.f.beh) (hl : t.l.beh = s.l.beh) : setL (setL ((a ++ s :: b).flatMap fun i => icells i) (a.length * 20) (kcells t.f.pt.1)) (a.length * 20 + 9) (kcells t.l.pt.1) = (a ++ t :: b).flatMap fun i => icells i := by
 have ha : (a.flatMap fun i => icells i).length = a.length * 20 := flat_len (fun i : Iv K => icells i) icells_len a
 rw [List.flatMap_append, List.flatMap_append, List.flatMap_cons, List.flatMap_cons]
 generalize (a.flatMap fun i => icells i) = F at *
 generalize (b.flatMap fun i => icells i) = G at *
 have step : ∀ (G vs : List Value) (j : Nat), setL (F ++ G) (F.length + j) vs = F ++ setL G j vs := fun G vs j => by
  unfold setL
  rw [List.take_length_add_append, Nat.add_assoc, List.drop_length_add_append, List.append_assoc, List.append_assoc, List.append_assoc]
 rw [← ha]
 have e0 : setL (F ++ (icells s ++ G)) F.length (kcells t.f.pt.1) = F ++ setL (icells s ++ G) 0 (kcells t.f.pt.1) := step _ _ 0
 rw [e0, step]
 congr 1
 unfold icells
 rw [hf, hl]
 rfl
theorem OI_.setm {w0 w : World} {g n c : Nat} {a b : List (Iv K)} {s t : Iv K} (hf : t.f.beh = s.f.beh) (hl : t.l.beh = s.l.beh) (h : OI_ w0 w (.slice (some ⟨g, 0, none⟩) n c) (a ++ s :: b)) :
  OI_ w0 ((w.setCells g (a.length * 20) (kcells t.f.pt.1)).setCells g (a.length * 20 + 9) (kcells t.l.pt.1)) (.slice (some ⟨g, 0, none⟩) n c) (a ++ t :: b) := by
 have hr := h.row
 have hlen : (a ++ s :: b).length = (a ++ t :: b).length := by simp
 have hbig : a.length + 1 ≤ (a ++ s :: b).length := by simp
 have hn : n = (a ++ s :: b).length := by
  obtain ⟨po, pc, e⟩ := h.form
  injection e
 subst hn
 rw [hlen] at *
 obtain ⟨h1, k1⟩ := own_setCells hr (o := a.length * 20) (vs := kcells t.f.pt.1) (by rw [kcells_len]; omega)
 obtain ⟨h2, k2⟩ := own_setCells h1 (o := a.length * 20 + 9) (vs := kcells t.l.pt.1) (by rw [kcells_len]; omega)
 rw [flat_mid a b s t hf hl] at h2
 have hg := h.base g rfl
 exact ⟨h2, h.base, (h.keep.trans k1 (by simp; exact hg)).trans k2 (by simp; exact hg)⟩
theorem OI_.mid {w0 w : World} {ov : Option Addr} {n c : Nat} {a b : List (Iv K)} {s : Iv K} (h : OI_ w0 w (.slice ov n c) (a ++ s :: b)) :
  ∃ g, ov = some ⟨g, 0, none⟩ ∧ g < w.heap.size ∧ w0.heap.size ≤ g ∧ IvAt w g (a.length * 20) s ∧ w.there g (a.length * 20) 9 ∧ ∀ vs : List Value, vs.length = 9 → (w.setCells g (a.length * 20) vs).there g (a.length * 20 + 9) 9 := by
 have hr := h.row
 have hb := h.base
 have hbig : a.length + 1 ≤ (a ++ s :: b).length := by simp
 have hn : n = (a ++ s :: b).length := by
  obtain ⟨po, pc, e⟩ := h.form
  injection e
 subst hn
 obtain ⟨g', o, e, hg, hat⟩ := IvR.elem h.read a.length (by omega)
 rcases hr.2 with ⟨hv, _⟩ | ⟨g, cap, cur, hv, _, hgg, _⟩
 ·injection hv with e1
  rw [e1] at e
  cases e
 ·injection hv with e1 e2 e3
  subst e1 e3
  have e' := e
  injection e' with e'
  injection e' with e4 e5
  subst e4 e5
  have hs : (a ++ s :: b)[a.length]'(by omega) = s := by simp
  rw [hs] at hat
  refine ⟨g, rfl, hg, hb g rfl, by simpa using hat, own_there hr (by omega), fun vs hvs => ?_⟩
  obtain ⟨h1, k1⟩ := own_setCells hr (o := a.length * 20) (vs := vs) (by omega)
  exact own_there h1 (by omega)
set_option maxHeartbeats 4000000 in
theorem clone_c (l : List (Iv K)) (w : World) (sv : Value) (hr : IvR w sv l) (h9 : l.length ≤ 100000) :
  Calls Tryz.prog 77 #[sv] w fun e w' => ∃ v, e = .returned v ∧ OI_ w w' v l := by
 have HR := Lib.hid hr
 have q22 : ∀ (w : World) (a : Option Addr) (n c n' c' : Nat), (binOp .eql 23 (.slice a n c) (.slice none n' c')).run Tryz.prog w = .ok (.bool a.isNone) w := fun w a n c n' c' => Lib.run_eql_slice_nil w _ _ a n c n' c' Tryz.underlying23
 rcases hr with ⟨rfl, rfl⟩ | ⟨g, o, c, rfl, hc, hg, _⟩
 ·clear HR
  go_enter Tryz.func77, Tryz.ntmps77
  go_wp2_with fail
  go_ret
  exact ⟨_, rfl, OE.nil w⟩
 ·clear hg hc
  go_enter Tryz.func77, Tryz.ntmps77
  go_upto_region 3 with (fail)
  refine wp_region_lit ?_
  obtain ⟨ub, gx, e3, e4, hz1, hx⟩ := OI_.start w
  refine wpList_K (v := .slice (some ⟨w.heap.size, 0, none⟩) 0 0) (by rfl) (exec_bs 23 0 #[] #[] _ rfl (by simp) (build0_i w)) (fun K hK => ?_)
  rw [e3, e4]
  clear e3
  go_simp
  refine hK _ _ ?_
  clear hK K
  refine' wpList_R (v := _) (by rfl) (?hruna) (fun K hK => ?hnexta)
  case hruna => (go_simp; try rfl)
  rotate_left 0
  go_simp
  refine hK _ _ ?_
  clear hK K
  obtain ⟨v4, u4, hr4, ho4, hn4, _⟩ := IvR.app (ty := 23) hx (.inl (by simp [Value.ownBlock])) (HR.out.later hx.keep) (by simp; omega)
  refine wpList_K (by rfl) (exec_app (.tmp 5) (.tmp 6) 23 _ _ _ rfl rfl rfl hr4) (fun K hK => ?_)
  go_simp
  refine hK _ _ ?_
  clear hK K hr4
  have HN := Lib.hid ho4
  clear ho4 hn4 hx
  go_wp2_with fail
  go_ret
  exact ⟨_, rfl, HN.out⟩
end Go.Proofs.YteknldaoegccaaaGreatDoor
namespace Go.Proofs.YteknldaoegccaaaGreatDoor
open Go.RowKit
section
variable {P : Program} {ops : Array Oper} {md : Region.Mode} {S : World → Prop} {Q : Exit → Act → World → Prop} {t : Nat}
def waitsOn (md : Region.Mode) (ops : Array Oper) (t i : Nat) : Bool := (ops[t]?).any fun o => o.after.any fun e => Region.binds md e && e.on == i
def waitsFar (md : Region.Mode) (ops : Array Oper) (t i : Nat) : Bool := waitsOn md ops t i || (List.range ops.size).any fun j => waitsOn md ops t j && waitsOn md ops j i
theorem waitsOn_un {n t i : Nat} {listed : Array Bool} (inv : HeadInv md ops n listed) (h : waitsOn md ops t i = true) (hi : listed.getD i true = false) : listed.getD t true = false := by
 unfold waitsOn at h
 cases ho : ops[t]? with
 | none => rw [ho] at h; cases h
 | some o =>
  rw [ho] at h
  simp only [Option.any_some, Array.any_eq_true, Bool.and_eq_true, beq_iff_eq] at h
  obtain ⟨k, hk, hb, he⟩ := h
  have hts : t < ops.size := (Array.getElem?_eq_some_iff.1 ho).1
  cases hl : listed.getD t true with
  | false => rfl
  | true =>
   have hl2 : listed.getD t false = true := by
    have hz : t < listed.size := by rw [inv.size]; exact hts
    simp [hz] at hl ⊢
    exact hl
   have := inv.closed t o ho hl2 o.after[k] (Array.getElem_mem hk) hb
   rw [he, getD_both hi] at this
   cases this
theorem waitsFar_un {n t i : Nat} {listed : Array Bool} (inv : HeadInv md ops n listed) (h : waitsFar md ops t i = true) (hi : listed.getD i true = false) : listed.getD t true = false := by
 unfold waitsFar at h
 rcases Bool.or_eq_true _ _ ▸ h with h | h
 ·exact waitsOn_un inv h hi
 ·obtain ⟨j, _, hj⟩ := List.any_eq_true.1 h
  rw [Bool.and_eq_true] at hj
  exact waitsOn_un inv hj.1 (waitsOn_un inv hj.2 hi)
def lateAny (P : Program) (md : Region.Mode) (ops : Array Oper) (Q : Exit → Act → World → Prop) (S : World → Prop) (t n : Nat) (L : Array Bool → Act → World → Prop) : Nat → Array Bool → Act → World → Prop
 | 0, listed, a, w => L listed a w
 | f + 1, listed, a, w => Region.ready md ops listed ≠ [] ∧ ∀ i ∈ Region.ready md ops listed, i < n ∧ wpOp P ops Q i (fun a' w' => ((listed.setIfInBounds i true).getD t true = false → S w') ∧ lateAny P md ops Q S t n L f (listed.setIfInBounds i true) a' w') a w
theorem lateAny_any {n g : Nat} {L : Array Bool → Act → World → Prop} (hL : ∀ listed a w, L listed a w → wpAny P md ops Q g listed a w) :
  ∀ (f : Nat) (listed : Array Bool) (a : Act) (w : World), lateAny P md ops Q S t n L f listed a w → wpAny P md ops Q (f + g) listed a w
 | 0, listed, a, w, h => by rw [Nat.zero_add]; exact hL _ _ _ h
 | f + 1, listed, a, w, h => by
  rw [show f + 1 + g = (f + g) + 1 by omega]
  exact ⟨fun h0 => absurd h0 h.1, fun i hi => wpOp_mono (fun a' w' h' => lateAny_any hL f _ a' w' h'.2) (h.2 i hi).2⟩
theorem lateAny_first {n i : Nat} {oi : Oper} {v : Value} {Y : World → Prop} {L : Array Bool → Act → World → Prop} (hi : ops[i]? = some oi) (hsel : ∀ (j : Nat) (o : Oper) cs b, ops[j]? = some o → o.op ≠ .select cs b)
  (hQ : ∀ c a w, Q (.panic c) (a.put oi.dst v) w → Q (.panic c) a w)
  (hs : Region.sinkB md ops n = true) (hc : Region.chainB md ops n = true) (hn : n < ops.size) (hin : i < n) (hit : i ≠ t) (hY : (∀ u, Y u) ∨ ((∀ u, S u → Y u) ∧ waitsFar md ops t i = true))
  (hdone : ∀ listed a w, L listed a w → ∀ j ∈ Region.ready md ops listed, n ≤ j) :
  ∀ (f : Nat) (listed : Array Bool) (a : Act) (w : World), HeadInv md ops n listed →
   (∀ j oj, ops[j]? = some oj → j ≠ i → listed.getD j true = false → (∀ e ∈ oj.after, Region.binds md e = true → e.on ≠ i) → oi.apart ops oj = true) →
   i ∈ Region.ready md ops listed → YieldsIf P ops Y oi v a → (listed.getD t true = false → S w) →
   lateAny P md ops Q S t n L f (listed.setIfInBounds i true) (a.put oi.dst v) w → lateAny P md ops Q S t n L (f + 1) listed a w := by
 have hgt : ∀ listed : Array Bool, (listed.setIfInBounds i true).getD t true = listed.getD t true := fun listed => getD_set_ne true hit
 have hYw : ∀ (listed : Array Bool) (w : World), HeadInv md ops n listed → listed.getD i true = false → (listed.getD t true = false → S w) → Y w := fun listed w inv hun hS => by
  rcases hY with h | ⟨h, hw⟩
  ·exact h w
  ·exact h w (hS (waitsFar_un inv hw hun))
 intro f
 induction f with
 | zero =>
  intro listed a w inv _ hr hy hS H
  refine ⟨fun h => (by rw [h] at hr; cases hr), fun j hj => ?_⟩
  have hjn : j < n := by
   rcases Nat.lt_or_ge j n with h | h
   ·exact h
   ·exact absurd hj (tail_waits hs hc hn inv _ i rfl hin (mem_ready.1 hr).1 j h)
  refine ⟨hjn, ?_⟩
  by_cases hji : j = i
  ·subst hji; exact hy.wpOp hi (hYw listed w inv (mem_ready.1 hr).1 hS) ⟨fun h => hS (by rw [hgt] at h; exact h), H⟩
  ·have := hdone _ _ _ H j (ready_mono hj hji)
   omega
 | succ f ih =>
  intro listed a w inv hfree hr hy hS H
  have hun := (mem_ready.1 hr).1
  refine ⟨fun h => (by rw [h] at hr; cases hr), fun j hj => ?_⟩
  have hjn : j < n := by
   rcases Nat.lt_or_ge j n with h | h
   ·exact h
   ·exact absurd hj (tail_waits hs hc hn inv _ i rfl hin hun j h)
  refine ⟨hjn, ?_⟩
  by_cases hji : j = i
  ·subst hji; exact hy.wpOp hi (hYw listed w inv hun hS) ⟨fun h => hS (by rw [hgt] at h; exact h), H⟩
  ·have h1 := (H.2 j (ready_mono hj hji)).2
   obtain ⟨hjun, oj, hoj, hall⟩ := mem_ready.1 hj
   have hnot : ∀ e ∈ oj.after, Region.binds md e = true → e.on ≠ i := fun e he hb heq => by
    have h1 := hall e he hb
    rw [heq, getD_both hun] at h1
    cases h1
   have h2 := wpOp_putIf hoj (hfree j oj hoj hji hjun hnot) (fun cs b => hsel i oi cs b hi) (fun cs b => hsel j oj cs b hoj) hQ hy h1
   have hfree' : ∀ k ok, ops[k]? = some ok → k ≠ i → (listed.setIfInBounds j true).getD k true = false →
     (∀ e ∈ ok.after, Region.binds md e = true → e.on ≠ i) → oi.apart ops ok = true := fun k ok hk hki hun hno => by
    refine hfree k ok hk hki ?_ hno
    by_cases hjk : j = k
    ·subst hjk; exact hjun
    ·rw [getD_set_ne true hjk] at hun; exact hun
   refine wpOp_mono (fun a' w' h3 => ?_) h2
   have hS3 : (listed.setIfInBounds j true).getD t true = false → S w' := fun h => h3.2.1 (by rw [Array.setIfInBounds_comm _ _ (Ne.symm hji), hgt]; exact h)
   refine ⟨hS3, ih (listed.setIfInBounds j true) a' w' (inv.set hj hjn) hfree' (ready_mono hr (Ne.symm hji)) h3.1 hS3 ?_⟩
   rw [Array.setIfInBounds_comm _ _ hji]
   exact h3.2.2
def lateT (P : Program) (md : Region.Mode) (ops : Array Oper) (Q : Exit → Act → World → Prop) (S : World → Prop) (t n : Nat) (L : Array Bool → Act → World → Prop) : Nat → Array Bool → Act → World → Prop
 | 0, listed, a, w => L listed a w
 | f + 1, listed, a, w =>
  (∃ i o v Y, ops[i]? = some o ∧ i < n ∧ i ≠ t ∧ Region.free md ops listed i = true ∧ (Region.ready md ops listed).contains i = true ∧ ((∀ u, Y u) ∨ ((∀ u, S u → Y u) ∧ waitsFar md ops t i = true)) ∧ YieldsIf P ops Y o v a ∧ (listed.getD t true = false → S w) ∧ lateT P md ops Q S t n L f (listed.setIfInBounds i true) (a.put o.dst v) w) ∨
  (Region.ready md ops listed ≠ [] ∧ ∀ i ∈ Region.ready md ops listed, i < n ∧ wpOp P ops Q i (fun a' w' => ((listed.setIfInBounds i true).getD t true = false → S w') ∧ lateT P md ops Q S t n L f (listed.setIfInBounds i true) a' w') a w)
theorem lateT_any {n : Nat} {L : Array Bool → Act → World → Prop} (hsel : Region.noSelect ops = true) (hQ : ∀ c a d v w, Q (.panic c) (Act.put a d v) w → Q (.panic c) a w)
  (hs : Region.sinkB md ops n = true) (hc : Region.chainB md ops n = true) (hn : n < ops.size) (hdone : ∀ listed a w, L listed a w → ∀ j ∈ Region.ready md ops listed, n ≤ j) :
  ∀ (f : Nat) (listed : Array Bool) (a : Act) (w : World), HeadInv md ops n listed → lateT P md ops Q S t n L f listed a w → lateAny P md ops Q S t n L f listed a w
 | 0, _, _, _, _, h => h
 | f + 1, listed, a, w, inv, h => by
  rcases h with ⟨i, o, v, Y, ho, hi, hit, hf, hr, hY, hy, hS, hrest⟩ | ⟨hne, hall⟩
  ·have hr' : i ∈ Region.ready md ops listed := by simpa using hr
   exact lateAny_first ho (Region.noSelect_spec hsel) (fun c a w h => hQ c _ _ _ w h) hs hc hn hi hit hY hdone f listed a w inv (Region.free_spec ho hf) hr' hy hS
    (lateT_any hsel hQ hs hc hn hdone f _ _ _ (inv.set hr' hi) hrest)
  ·exact ⟨hne, fun i hi => ⟨(hall i hi).1, wpOp_mono (fun a' w' h' => ⟨h'.1, lateT_any hsel hQ hs hc hn hdone f _ _ _ (inv.set hi (hall i hi).1) h'.2⟩) (hall i hi).2⟩⟩
theorem wp_region_late {id : Nat} {a : Act} {w : World} {l : List Oper} (n t : Nat) (hm : P.follows .mixedOrders = true)
  (hB : (Region.noSelect l.toArray && decide (n < l.toArray.size) && Region.sinkB .any l.toArray n && Region.chainB .any l.toArray n) = true)
  (hQ : ∀ c a d v w, Q (.panic c) (Act.put a d v) w → Q (.panic c) a w)
  (h : lateT P .any l.toArray Q S t n (fun listed' a' w' => Region.seqB .any l.toArray (l.toArray.size - n) n listed' = true ∧ wpList P l.toArray Q (l.drop n) a' w') n (Array.replicate l.toArray.size false) a w.drew) : (Code.region id l.toArray true).wp P Q a w := by
 simp only [Bool.and_eq_true, decide_eq_true_eq] at hB
 obtain ⟨⟨⟨hsel, hn⟩, hs⟩, hc⟩ := hB
 have hdl : (l.drop n).length = l.toArray.size - n := by simp
 have inv0 : HeadInv .any l.toArray n (Array.replicate l.toArray.size false) :=
  ⟨by simp, fun j oj _ hl => (by rw [getD_replicate_false] at hl; cases hl), fun t _ ht => getD_in (by simpa using ht) (getD_replicate_false _ _)⟩
 have H := lateT_any hsel hQ hs hc hn (fun listed a w hL => seqB_ready hL.1) n _ a _ inv0 h
 refine wp_region_any hm ?_
 have := lateAny_any (Q := Q) (g := l.toArray.size - n) (fun listed a' w' hL => by
  have := wpAny_of_seq (md := .any) (Q' := Q) (l.drop n) n listed a' w' (fun j => by simp [List.getElem?_drop]) (by rw [hdl]; exact hL.1) hL.2
  rwa [hdl] at this) _ _ _ _ H
 rw [show n + (l.toArray.size - n) = l.toArray.size by omega] at this
 exact this
theorem lateT_mv {n f : Nat} {L : Array Bool → Act → World → Prop} {listed : Array Bool} {a : Act} {w : World} (i : Nat) {o : Oper} {v : Value} (ho : ops[i]? = some o) (hi : i < n) (hit : i ≠ t) (hf : Region.free md ops listed i = true) (hr : (Region.ready md ops listed).contains i = true)
  (hg : o.guard = none) (hS : S w) (h1 : ∀ w, (execOp a.eval o).run P w = .ok (.value v) w)
  (h2 : ∀ K : Act → Prop, (∀ a, lateT P md ops Q S t n L f (listed.setIfInBounds i true) a w → K a) → K (a.put o.dst v)) : lateT P md ops Q S t n L (f + 1) listed a w :=
 .inl ⟨i, o, v, fun _ => True, ho, hi, hit, hf, hr, .inl fun _ => trivial, .inl ⟨by simp [Region.wanted, hg], fun w _ => h1 w⟩, fun _ => hS, h2 _ (fun _ h => h)⟩
theorem lateT_val {n f : Nat} {L : Array Bool → Act → World → Prop} {listed : Array Bool} {a : Act} {w : World} (i : Nat) {o : Oper} {v : Value} (ho : ops[i]? = some o) (hi : i < n) (hit : i ≠ t) (hf : Region.free md ops listed i = true) (hr : (Region.ready md ops listed).contains i = true)
  (hw : waitsFar md ops t i = true) (hg : o.guard = none) (hS : S w) (h1 : ∀ w, S w → (execOp a.eval o).run P w = .ok (.value v) w)
  (h2 : ∀ K : Act → Prop, (∀ a, lateT P md ops Q S t n L f (listed.setIfInBounds i true) a w → K a) → K (a.put o.dst v)) : lateT P md ops Q S t n L (f + 1) listed a w :=
 .inl ⟨i, o, v, S, ho, hi, hit, hf, hr, .inr ⟨fun _ h => h, hw⟩, .inl ⟨by simp [Region.wanted, hg], h1⟩, fun _ => hS, h2 _ (fun _ h => h)⟩
theorem lateT_one {n f : Nat} {L : Array Bool → Act → World → Prop} {listed : Array Bool} {a : Act} {w : World} (i : Nat) {o : Oper} (hr : Region.ready md ops listed = [i]) (hi : i < n) (ho : ops[i]? = some o) (hg : o.guard = none)
  (h : ∀ K : Act → World → Prop, (∀ a w, S w → lateT P md ops Q S t n L f (listed.setIfInBounds i true) a w → K a w) → o.wp P a w K Q) : lateT P md ops Q S t n L (f + 1) listed a w := by
 refine .inr ⟨by rw [hr]; simp, fun j hj => ?_⟩
 rw [hr] at hj
 obtain rfl : j = i := by simpa using hj
 refine ⟨hi, ?_⟩
 unfold wpOp
 simp only [ho]
 rw [if_pos (by simp [Region.wanted, hg])]
 exact .inl (h _ (fun _ _ h1 h2 => ⟨fun _ => h1, h2⟩))
theorem lateT_last {n f : Nat} {L : Array Bool → Act → World → Prop} {listed : Array Bool} {a : Act} {w : World} {o : Oper} (hr : Region.ready md ops listed = [t]) (hi : t < n) (hl : (listed.setIfInBounds t true).getD t true = true) (ho : ops[t]? = some o) (hg : o.guard = none)
  (h : ∀ K : Act → World → Prop, (∀ a w, lateT P md ops Q S t n L f (listed.setIfInBounds t true) a w → K a w) → o.wp P a w K Q) : lateT P md ops Q S t n L (f + 1) listed a w := by
 refine .inr ⟨by rw [hr]; simp, fun j hj => ?_⟩
 rw [hr] at hj
 obtain rfl : j = t := by simpa using hj
 refine ⟨hi, ?_⟩
 unfold wpOp
 simp only [ho]
 rw [if_pos (by simp [Region.wanted, hg])]
 exact .inl (h _ (fun _ _ h2 => ⟨fun h0 => (by rw [hl] at h0; cases h0), h2⟩))
end
end Go.Proofs.YteknldaoegccaaaGreatDoor
set_option maxRecDepth 100000
namespace Go.Proofs.YteknldaoegccaaaGreatDoor
open Go.RowKit
open Classical
theorem shift1 {k : Nat} {x : K} {q : Rat} (h : Sm k x) (hk : k ≤ 1000) (hq : FitQ 24 q) (w : World) : Calls Tryz.prog 68 #[.agg (kC x), .agg (rC q)] w fun e w' => e = .returned (.agg (kC (mvK q x))) ∧ Keep [] w w' := by
 rw [kcells_mv h hk hq]
 exact Shift_c x.1 q (x.2.2.1.mono (by decide)) (hq.mono (by decide)) w
theorem moved1 {k : Nat} {x : K} {q : Rat} (h : Sm k x) (hk : k ≤ 1000) (hq : FitQ 24 q) (w : World) : Calls Tryz.prog 29 #[.agg (kC x), .agg (rC q)] w fun e w' => e = .returned (.agg (kC (mvK q x))) ∧ Keep [] w w' := by
 rw [kcells_mv h hk hq]
 exact moved_c x.1 q (x.2.2.1.mono (by decide)) (hq.mono (by decide)) w
theorem kC_facts (x : K) : (kC x).toList = kcells x.1 ∧ (kC x).size = 9 ∧ (kC x).all (·.oneCell') = true := ⟨rfl, rfl, all_oneCell_toArray (kcells_one x.1)⟩
theorem map_step {α β : Type} (f : α → β) (l : List α) (k : Nat) (h : k < l.length) : (l.take (k + 1)).map f = (l.take k).map f ++ [f l[k]] := by
 rw [List.take_succ_eq_append_getElem h, List.map_append]; rfl
set_option maxHeartbeats 8000000 in
theorem shift_p (l : List (Iv K)) (q : Rat) (k0 : Nat) (hk0 : k0 ≤ 900) (hsm : ∀ i ∈ l, SmI k0 i) (hq : FitQ 24 q) (w : World) (sv : Value) (hr : IvR w sv l) (h9 : l.length ≤ 10000) :
  Calls Tryz.prog 35 #[sv, rv q] w fun e w' => ∃ v, e = .returned v ∧ IvR w' v (l.map (mvI q)) ∧ Keep [] w w' := by
 have HCl := Lib.hid (fun u (hu : Keep [] w u) => clone_c l u sv (hr.later hu) (by omega))
 have HS := Lib.hid (fun (x : K) (hx : Sm k0 x) => shift1 hx (by omega) hq)
 have HSm := Lib.hid hsm
 obtain ⟨ao, ac, rfl, _⟩ := hr.form
 clear hr hq hsm
 rw [rv_cells] at *
 go_enter Tryz.func35, Tryz.ntmps35
 go_upto_region 1 with (fail)
 obtain ⟨W, ga, hW, ega, bga, hga, hgW, hkW⟩ := al1 w (.cells (rC q) 29)
 rw [← hW]
 try rw [ega]
 have Bga := Lib.hid bga
 have HkW := Lib.hid hkW
 clear hW hkW ega bga
 go_wp2_with fail
 refine (HCl.out W HkW.out).mono ?_
 rintro e w1 ⟨v, rfl, hv⟩
 dsimp only
 obtain ⟨oo, oc, rfl⟩ := hv.form
 have HO1 := Lib.hid hv
 clear hv HCl
 go_wp2_with fail
 go_loopw [11] (fun c wr => ∃ k : Nat, k ≤ l.length ∧ c = .int .i64 (k : Int) ∧ OI_ W wr (.slice oo l.length oc) ((l.take k).map (mvI q) ++ l.drop k)) (fun c _ => l.length - (intOf c).toNat)
 case atStart => exact ⟨0, Nat.zero_le _, rfl, HO1.out⟩
 case round =>
  obtain ⟨k, hk, rfl, hov⟩ := hrel
  have HO := Lib.hid hov
  by_cases hlt : k < l.length
  ·have hd : l.drop k = l[k] :: l.drop (k + 1) := List.drop_eq_getElem_cons hlt
   have hs := HSm.out l[k] (List.getElem_mem hlt)
   have Hstep := Lib.hid (congrArg (· ++ l.drop (k + 1)) (map_step (mvI q) l k hlt))
   rw [hd] at hov HO
   have hal : ((l.take k).map (mvI q)).length = k := by rw [List.length_map, List.length_take]; omega
   obtain ⟨g, rfl, hg, hgb, hat, _⟩ := hov.mid
   rw [hal] at hat
   generalize l[k] = s at *
   have Hal := Lib.hid hal
   generalize (l.take k).map (mvI q) = A at *
   obtain ⟨D, hD⟩ : ∃ D, l.drop (k + 1) = D := ⟨_, rfl⟩
   rw [hD] at Hstep HO
   have HD := Lib.hid hD
   clear hov hd hal hD
   obtain ⟨p, hp⟩ : ∃ p, k * 20 = p := ⟨_, rfl⟩
   rw [hp] at hat
   have Hp := Lib.hid hp
   have Bgr := Lib.hid ((HO.out.keep).heap Bga.out (by simp))
   have HXf : Hid (∀ u, Keep [] wr u → (loadVar 31 ⟨g, p, none⟩).run Tryz.prog u = .ok (.agg (kC s.f.pt)) u) := fun u hu => load_real u g p _ (hat.keep (hu.block g hg (by simp))).frm
   have HXt : Hid (∀ u, Keep [] wr u → (loadVar 31 ⟨g, p + 9, none⟩).run Tryz.prog u = .ok (.agg (kC s.l.pt)) u) := fun u hu => load_real u g (p + 9) _ (hat.keep (hu.block g hg (by simp))).upto
   have HXq : Hid (∀ u, Keep [] wr u → (loadVar 29 ⟨ga, 0, none⟩).run Tryz.prog u = .ok (.agg (rC q)) u) := fun u hu => load_rat (hu.heap Bgr.out (by simp))
   have H1 := Lib.hid (HS.out s.f.pt hs.1)
   have H2 := Lib.hid (HS.out s.l.pt hs.2)
   have F1 := Lib.hid (kC_facts (mvK q s.f.pt))
   have F2 := Lib.hid (kC_facts (mvK q s.l.pt))
   have HSet := Lib.hid (fun u n c (h : OI_ W u (.slice (some ⟨g, 0, none⟩) n c) (A ++ s :: D)) => OI_.setm (s := s) (t := mvI q s) rfl rfl h)
   have HMid := Lib.hid (fun u c (h : OI_ W u (.slice (some ⟨g, 0, none⟩) l.length c) (A ++ s :: D)) => OI_.mid h)
   rw [Hal.out] at HSet HMid
   rw [hp] at HSet HMid
   have e1 : kcells (mvI q s).f.pt.1 = (kC (mvK q s.f.pt)).toList := rfl
   have e2 : kcells (mvI q s).l.pt.1 = (kC (mvK q s.l.pt)).toList := rfl
   rw [e1, e2] at HSet
   clear e1 e2 hat hs
   generalize mvI q s = t at *
   generalize kC (mvK q s.f.pt) = M1 at *
   generalize kC (mvK q s.l.pt) = M2 at *
   generalize kC s.f.pt = F at *
   generalize kC s.l.pt = L at *
   go_wp2_with fail
   have hkc : (k : Int) < (l.length : Int) := by omega
   refine wp_region_late (S := fun u => Keep [] wr u) 21 20 (by kernel_rfl) (by kernel_rfl) (fun _ _ d _ _ h => by cases d <;> exact h) ?_
   have hS0 := Keep.drew [] wr
   generalize World.drew wr = u at *
   refine' lateT_mv (v := _) 0 (by rfl) (by decide) (by decide) (by kernel_rfl) (by kernel_rfl) (by rfl) hS0 (fun w => ?hruna0) (fun K hK => ?hnexta0)
   case hruna0 => (go_simp; try rfl)
   rotate_left 0
   go_simp
   refine hK _ ?_
   clear hK K
   refine' lateT_mv (v := _) 1 (by rfl) (by decide) (by decide) (by kernel_rfl) (by kernel_rfl) (by rfl) hS0 (fun w => ?hrunb1) (fun K hK => ?hnextb1)
   case hrunb1 => (go_simp; try rfl)
   rotate_left 0
   go_simp
   refine hK _ ?_
   clear hK K
   refine' lateT_mv (v := _) 2 (by rfl) (by decide) (by decide) (by kernel_rfl) (by kernel_rfl) (by rfl) hS0 (fun w => ?hrunc2) (fun K hK => ?hnextc2)
   case hrunc2 => (go_simp; try rfl)
   rotate_left 0
   go_simp
   refine hK _ ?_
   clear hK K
   refine' lateT_mv (v := _) 3 (by rfl) (by decide) (by decide) (by kernel_rfl) (by kernel_rfl) (by rfl) hS0 (fun w => ?hrund3) (fun K hK => ?hnextd3)
   case hrund3 => (go_simp; try rfl)
   rotate_left 0
   go_simp
   refine hK _ ?_
   clear hK K
   refine' lateT_mv (v := _) 4 (by rfl) (by decide) (by decide) (by kernel_rfl) (by kernel_rfl) (by rfl) hS0 (fun w => ?hrune4) (fun K hK => ?hnexte4)
   case hrune4 => (go_simp; try rfl)
   rotate_left 0
   go_simp
   refine hK _ ?_
   clear hK K
   refine' lateT_mv (v := _) 5 (by rfl) (by decide) (by decide) (by kernel_rfl) (by kernel_rfl) (by rfl) hS0 (fun w => ?hrunf5) (fun K hK => ?hnextf5)
   case hrunf5 => (go_simp; try rfl)
   rotate_left 0
   go_simp
   refine hK _ ?_
   clear hK K
   refine' lateT_mv (v := _) 6 (by rfl) (by decide) (by decide) (by kernel_rfl) (by kernel_rfl) (by rfl) hS0 (fun w => ?hrung6) (fun K hK => ?hnextg6)
   case hrung6 => (go_simp; try rfl)
   rotate_left 0
   go_simp
   refine hK _ ?_
   clear hK K
   refine' lateT_mv (v := _) 7 (by rfl) (by decide) (by decide) (by kernel_rfl) (by kernel_rfl) (by rfl) hS0 (fun w => ?hrunh7) (fun K hK => ?hnexth7)
   case hrunh7 => (go_simp; try rfl)
   rotate_left 0
   go_simp
   refine hK _ ?_
   clear hK K
   refine lateT_val (v := .agg F) 8 (by rfl) (by decide) (by decide) (by kernel_rfl) (by kernel_rfl) (by kernel_rfl) (by rfl) hS0 (fun w hw => exec_load _ _ ⟨g, p, none⟩ _ rfl rfl (HXf.out w hw)) (fun K hK => ?_)
   go_simp
   refine hK _ ?_
   clear hK K
   refine lateT_val (v := .agg (rC q)) 9 (by rfl) (by decide) (by decide) (by kernel_rfl) (by kernel_rfl) (by kernel_rfl) (by rfl) hS0 (fun w hw => exec_load _ _ ⟨ga, 0, none⟩ _ rfl rfl (HXq.out w hw)) (fun K hK => ?_)
   go_simp
   refine hK _ ?_
   clear hK K
   refine' lateT_mv (v := _) 11 (by rfl) (by decide) (by decide) (by kernel_rfl) (by kernel_rfl) (by rfl) hS0 (fun w => ?hruni11) (fun K hK => ?hnexti11)
   case hruni11 => (go_simp; try rfl)
   rotate_left 0
   go_simp
   refine hK _ ?_
   clear hK K
   refine' lateT_mv (v := _) 12 (by rfl) (by decide) (by decide) (by kernel_rfl) (by kernel_rfl) (by rfl) hS0 (fun w => ?hrunj12) (fun K hK => ?hnextj12)
   case hrunj12 => (go_simp; try rfl)
   rotate_left 0
   go_simp
   refine hK _ ?_
   clear hK K
   refine' lateT_mv (v := _) 13 (by rfl) (by decide) (by decide) (by kernel_rfl) (by kernel_rfl) (by rfl) hS0 (fun w => ?hrunk13) (fun K hK => ?hnextk13)
   case hrunk13 => (go_simp; try rfl)
   rotate_left 0
   go_simp
   refine hK _ ?_
   clear hK K
   refine' lateT_mv (v := _) 14 (by rfl) (by decide) (by decide) (by kernel_rfl) (by kernel_rfl) (by rfl) hS0 (fun w => ?hrunl14) (fun K hK => ?hnextl14)
   case hrunl14 => (go_simp; try rfl)
   rotate_left 0
   go_simp
   refine hK _ ?_
   clear hK K
   refine lateT_val (v := .agg L) 15 (by rfl) (by decide) (by decide) (by kernel_rfl) (by kernel_rfl) (by kernel_rfl) (by rfl) hS0 (fun w hw => exec_load _ _ ⟨g, p + 9, none⟩ _ rfl rfl (HXt.out w hw)) (fun K hK => ?_)
   go_simp
   refine hK _ ?_
   clear hK K
   refine lateT_val (v := .agg (rC q)) 16 (by rfl) (by decide) (by decide) (by kernel_rfl) (by kernel_rfl) (by kernel_rfl) (by rfl) hS0 (fun w hw => exec_load _ _ ⟨ga, 0, none⟩ _ rfl rfl (HXq.out w hw)) (fun K hK => ?_)
   go_simp
   refine hK _ ?_
   clear hK K
   refine lateT_one 10 (by kernel_rfl) (by decide) (by rfl) (by rfl) (fun K hK => ?_)
   refine wp_enter 68 #[.agg F, .agg (rC q)] (by go_simp) ?_
   refine (H1.out _).mono ?_
   rintro e u1 ⟨rfl, hk1⟩
   have hS0 := hS0.trans0 hk1
   refine ⟨_, rfl, ?_⟩
   refine hK _ _ hS0 ?_
   clear hK K hk1
   refine lateT_one 17 (by kernel_rfl) (by decide) (by rfl) (by rfl) (fun K hK => ?_)
   refine wp_enter 68 #[.agg L, .agg (rC q)] (by go_simp) ?_
   refine (H2.out _).mono ?_
   rintro e u1 ⟨rfl, hk1⟩
   have hS0 := hS0.trans0 hk1
   refine ⟨_, rfl, ?_⟩
   refine hK _ _ hS0 ?_
   clear hK K hk1
   refine' lateT_mv (v := _) 18 (by rfl) (by decide) (by decide) (by kernel_rfl) (by kernel_rfl) (by rfl) hS0 (fun w => ?hrunm18) (fun K hK => ?hnextm18)
   case hrunm18 => (go_simp; try rfl)
   rotate_left 0
   go_simp
   refine hK _ ?_
   clear hK K
   refine' lateT_mv (v := _) 19 (by rfl) (by decide) (by decide) (by kernel_rfl) (by kernel_rfl) (by rfl) hS0 (fun w => ?hrunn19) (fun K hK => ?hnextn19)
   case hrunn19 => (go_simp; try rfl)
   rotate_left 0
   go_simp
   refine hK _ ?_
   clear hK K
   have HO5 := Lib.hid (HO.out.later hS0)
   have HS5 := Lib.hid (HSet.out _ _ _ HO5.out)
   obtain ⟨g', eg', _, _, _, ht1, ht2⟩ := HMid.out _ _ HO5.out
   injection eg' with eg'
   injection eg' with eg'
   subst eg'
   have HT1 := Lib.hid ht1
   have HT2 := Lib.hid (ht2 M1.toList (by simpa using F1.out.2.1))
   clear ht1 ht2 HXf HXt HXq H1 H2 HO
   refine lateT_last (by kernel_rfl) (by decide) (by kernel_rfl) (by rfl) (by rfl) (fun K hK => ?_)
   refine wp_store_mid _ _ _ rfl g p M1 rfl rfl (by rw [F1.out.2.1]; exact HT1.out) (by rw [F1.out.2.1]; exact k_size) F1.out.2.2 ?_
   go_simp
   refine hK _ _ ?_
   clear hK K
   refine ⟨by kernel_rfl, ?_⟩
   simp only [List.drop_succ_cons, List.drop_zero]
   refine' wpList_R (v := _) (by rfl) (?hrunoa) (fun K hK => ?hnextoa)
   case hrunoa => (go_simp; try rfl)
   rotate_left 0
   go_simp
   refine hK _ _ ?_
   clear hK K
   refine' wpList_R (v := _) (by rfl) (?hrunob) (fun K hK => ?hnextob)
   case hrunob => (go_simp; try rfl)
   rotate_left 0
   go_simp
   refine hK _ _ ?_
   clear hK K
   refine wpList_midK (by rfl) _ _ _ rfl g (p + 9) M2 rfl rfl (by rw [F2.out.2.1]; exact HT2.out) (by rw [F2.out.2.1]; exact k_size) F2.out.2.2 (fun K hK => ?_)
   go_simp
   refine hK _ _ ?_
   clear hK K HT1 HT2
   generalize World.setCells (World.setCells _ g p M1.toList) g (p + 9) M2.toList = u9 at *
   go_wp2_with fail
   go_roundw
   case rel => exact ⟨k + 1, by omega, congrArg (Value.int .i64) (by omega), by rw [HD.out, Hstep.out, List.append_assoc]; exact HS5.out⟩
   case measure => simp [intOf]; omega
  ·obtain rfl : k = l.length := by omega
   have HX := Lib.hid (HO.out.read)
   have HK := Lib.hid (HkW.out.trans0 HO.out.keep)
   have HF := Lib.hid (show (l.take l.length).map (mvI q) ++ l.drop l.length = l.map (mvI q) by rw [List.take_length, List.drop_length, List.append_nil])
   clear HO hov
   go_wp2_with fail
   go_ret
   exact ⟨_, rfl, by rw [← HF.out]; exact HX.out, HK.out⟩
end Go.Proofs.YteknldaoegccaaaGreatDoor
set_option maxRecDepth 100000
namespace Go.Proofs.YteknldaoegccaaaGreatDoor
open Go.RowKit
open Classical
theorem put18 (a1 a2 a3 a4 a5 a6 a7 a8 a9 b1 b2 b3 b4 b5 b6 b7 b8 b9 c1 c2 c3 c4 c5 c6 c7 c8 c9 d1 d2 d3 d4 d5 d6 d7 d8 d9 o e : Value) : putAt (putAt #[a1, a2, a3, a4, a5, a6, a7, a8, a9, b1, b2, b3, b4, b5, b6, b7, b8, b9, o, e] 0 [c1, c2, c3, c4, c5, c6, c7, c8, c9]) 9 [d1, d2, d3, d4, d5, d6, d7, d8, d9] = #[c1, c2, c3, c4, c5, c6, c7, c8, c9, d1, d2, d3, d4, d5, d6, d7, d8, d9, o, e] := by kernel_rfl
theorem put_iv (s t : Iv K) (hf : t.f.beh = s.f.beh) (hl : t.l.beh = s.l.beh) : putAt (putAt (iC s) 0 (kC t.f.pt).toList) 9 (kC t.l.pt).toList = iC t := by
 have e : iC t = #[.bool (sgB t.f.pt.1.p.num), .string (mgS t.f.pt.1.p.num), .bool false, .string (dnS t.f.pt.1.p.den), .bool (sgB t.f.pt.1.r.num), .string (mgS t.f.pt.1.r.num), .bool false, .string (dnS t.f.pt.1.r.den), .bool t.f.pt.1.neg, .bool (sgB t.l.pt.1.p.num), .string (mgS t.l.pt.1.p.num), .bool false, .string (dnS t.l.pt.1.p.den), .bool (sgB t.l.pt.1.r.num), .string (mgS t.l.pt.1.r.num), .bool false, .string (dnS t.l.pt.1.r.den), .bool t.l.pt.1.neg, .bool s.f.beh, .bool (!s.l.beh)] := by rw [← hf, ← hl]; rfl
 rw [e]
 exact put18 _ _ _ _ _ _ _ _ _ _ _ _ _ _ _ _ _ _ _ _ _ _ _ _ _ _ _ _ _ _ _ _ _ _ _ _ _ _
set_option maxHeartbeats 8000000 in
theorem rshift_c (l : List (Iv K)) (q : Rat) (k0 : Nat) (hk0 : k0 ≤ 900) (hsm : ∀ i ∈ l, SmI k0 i) (hq : FitQ 24 q) (w : World) (sv : Value) (hr : IvR w sv l) (h9 : l.length ≤ 10000) :
  Calls Tryz.prog 36 #[sv, rv q] w fun e w' => ∃ v, e = .returned v ∧ IvR w' v (l.map (mvI q)) ∧ Keep [] w w' := by
 have HR := Lib.hid hr
 have HS := Lib.hid (fun (x : K) (hx : Sm k0 x) => moved1 hx (by omega) hq)
 have HSm := Lib.hid hsm
 obtain ⟨ao, ac, rfl, _⟩ := hr.form
 clear hr hq hsm
 rw [rv_cells] at *
 go_enter Tryz.func36, Tryz.ntmps36
 go_upto_region 1 with (fail)
 obtain ⟨W, ga, hW, ega, bga, hga, hgW, hkW⟩ := al1 w (.cells (rC q) 29)
 rw [← hW]
 try rw [ega]
 have Bga := Lib.hid bga
 have HkW := Lib.hid hkW
 clear hW hkW ega bga
 go_wp2_with fail
 go_loopw [5, 6] (fun ov c wr => ∃ k : Nat, k ≤ l.length ∧ c = .int .i64 (k : Int) ∧ OI_ W wr ov ((l.take k).map (mvI q))) (fun _ c _ => l.length - (intOf c).toNat)
 case atStart => exact ⟨0, Nat.zero_le _, rfl, OE.nil W⟩
 case round =>
  obtain ⟨k, hk, rfl, hov⟩ := hrel
  obtain ⟨out, hout⟩ : ∃ out, (l.take k).map (mvI q) = out := ⟨_, rfl⟩
  rw [hout] at hov
  have Hlen := Lib.hid (show out.length ≤ k by rw [← hout, List.length_map, List.length_take]; omega)
  have Hout := Lib.hid hout
  have HO := Lib.hid hov
  obtain ⟨oo, oc, rfl⟩ := hov.form
  clear hov hout
  by_cases hlt : k < l.length
  ·obtain ⟨g, o, rfl, hg, hat⟩ := IvR.elem (HR.out.later (HkW.out.trans0 HO.out.keep)) k hlt
   have hs := HSm.out l[k] (List.getElem_mem hlt)
   have Hstep := Lib.hid (map_step (mvI q) l k hlt)
   generalize l[k] = s at *
   obtain ⟨p, hp⟩ : ∃ p, o + k * 20 = p := ⟨_, rfl⟩
   rw [hp] at hat
   have HL := Lib.hid (load_iv wr g p s hat)
   clear hat
   have hkc : (k : Int) < (l.length : Int) := by omega
   go_upto_region 5 with (fail)
   refine wp_region_lit ?_
   refine' wpList_R (v := _) (by rfl) (?hruna) (fun K hK => ?hnexta)
   case hruna => (go_simp; try rfl)
   rotate_left 0
   go_simp
   refine hK _ _ ?_
   clear hK K
   refine' wpList_R (v := _) (by rfl) (?hrunb) (fun K hK => ?hnextb)
   case hrunb => (go_simp; try rfl)
   rotate_left 0
   go_simp
   refine hK _ _ ?_
   clear hK K
   refine' wpList_R (v := _) (by rfl) (?hrunc) (fun K hK => ?hnextc)
   case hrunc => (go_simp; try rfl)
   rotate_left 0
   go_simp
   refine hK _ _ ?_
   clear hK K
   refine wpList_R (v := iv s) (by rfl) (exec_load _ _ ⟨g, p, none⟩ _ rfl rfl HL.out) (fun K hK => ?_)
   go_simp
   refine hK _ _ ?_
   clear hK K
   obtain ⟨w1, gt, e1, e2, bgt, hgt, _, hk1⟩ := al1 wr (.cells #[.bool false, .string ⟨#[]⟩, .bool false, .string ⟨#[]⟩, .bool false, .string ⟨#[]⟩, .bool false, .string ⟨#[]⟩, .bool false, .bool false, .string ⟨#[]⟩, .bool false, .string ⟨#[]⟩, .bool false, .string ⟨#[]⟩, .bool false, .string ⟨#[]⟩, .bool false, .bool false, .bool false] 33)
   refine wpList_K (v := .pointer (some ⟨wr.heap.size, 0, none⟩)) (w' := wr.alloc (.cells #[.bool false, .string ⟨#[]⟩, .bool false, .string ⟨#[]⟩, .bool false, .string ⟨#[]⟩, .bool false, .string ⟨#[]⟩, .bool false, .bool false, .string ⟨#[]⟩, .bool false, .string ⟨#[]⟩, .bool false, .string ⟨#[]⟩, .bool false, .string ⟨#[]⟩, .bool false, .bool false, .bool false] 33)) (by rfl) (al_iv _ _ _ rfl) (fun K hK => ?_)
   rw [← e1, e2]
   clear e1
   go_simp
   refine hK _ _ ?_
   clear hK K
   refine wpList_rowK (by rfl) _ _ _ rfl gt (iC s) rfl rfl _ _ bgt (by exact iv_size s) (by rfl) (iv_ones s) (fun K hK => ?_)
   obtain ⟨w2, e4, b4, k4⟩ := setRow_at (cs := iC s) bgt
   rw [e4]
   go_simp
   refine hK _ _ ?_
   clear hK K e4 HL
   have Bgt := Lib.hid b4
   have HW2 := Lib.hid (show Keep [] wr w2 from hk1.trans k4 (by simp; omega))
   have Bga2 := Lib.hid ((HO.out.keep.trans0 HW2.out).heap Bga.out (by simp))
   have HO2 := Lib.hid (HO.out.later HW2.out)
   have hgtw : wr.heap.size ≤ gt := by omega
   clear b4 k4 hk1 bgt
   have HXf := Lib.hid ((ivAt_box Bgt.out).ldf (lt_of_heap Bgt.out))
   have HXt := Lib.hid ((ivAt_box Bgt.out).ldt (lt_of_heap Bgt.out))
   have HXq := Lib.hid (kw_q Bga2.out)
   have H1 := Lib.hid (HS.out s.f.pt hs.1)
   have H2 := Lib.hid (HS.out s.l.pt hs.2)
   have F1 := Lib.hid (kC_facts (mvK q s.f.pt))
   have F2 := Lib.hid (kC_facts (mvK q s.l.pt))
   have HPut : Hid (putAt (putAt (iC s) 0 (kC (mvK q s.f.pt)).toList) 9 (kC (mvK q s.l.pt)).toList = iC (mvI q s)) := put_iv s (mvI q s) rfl rfl
   rw [show kv s.f.pt = .agg (kC s.f.pt) from rfl] at HXf
   rw [show kv s.l.pt = .agg (kC s.l.pt) from rfl] at HXt
   rw [rv_cells] at HXq
   clear hs
   obtain ⟨t, ht⟩ : ∃ t, mvI q s = t := ⟨_, rfl⟩
   rw [ht] at Hstep HPut
   clear ht
   generalize kC (mvK q s.f.pt) = M1 at *
   generalize kC (mvK q s.l.pt) = M2 at *
   generalize kC s.f.pt = F at *
   generalize kC s.l.pt = L at *
   have HCs : Hid ((iC s).size = 20) := rfl
   generalize iC s = C0 at *
   have Q1 : Hid (∀ m : KW w2, Calls Tryz.prog 29 #[.agg F, .agg (rC q)] (Wk w2 m) fun e w' => e = .returned (.agg M1) ∧ ∃ m, w' = Wk w2 m) := fun m => qk m (H1.out _)
   have Q2 : Hid (∀ m : KW w2, Calls Tryz.prog 29 #[.agg L, .agg (rC q)] (Wk w2 m) fun e w' => e = .returned (.agg M2) ∧ ∃ m, w' = Wk w2 m) := fun m => qk m (H2.out _)
   go_upto_region 6 with (fail)
   refine wp_region_keep_tail 9 (by kernel_rfl) (by kernel_rfl) ?_
   simp only [List.take_succ_cons, List.take_zero, List.drop_succ_cons, List.drop_zero]
   repeat (first
    | go_big_quiet_skip
    | (go_big_quiet_want; first
     | (refine quiet_load _ _ _ (.agg F) rfl rfl (by rintro _ ⟨m, rfl⟩; exact HXf.out m) ?_; go_simp; go_big_quiet_on) | (refine quiet_load _ _ _ (.agg L) rfl rfl (by rintro _ ⟨m, rfl⟩; exact HXt.out m) ?_; go_simp; go_big_quiet_on) | (refine quiet_load _ _ _ (.agg (rC q)) rfl rfl (by rintro _ ⟨m, rfl⟩; exact HXq.out m) ?_; go_simp; go_big_quiet_on)
     | (go_big_quiet_op; first | go_big_quiet_on | go_big_quiet_call (first
      | (go_at_call 29; with_reducible exact (Q1).out _) | (go_at_call 29; with_reducible exact (Q2).out _)))))
   refine wpQuiet_nil ?_
   rintro w3 ⟨⟨_, hk_w3⟩, rfl⟩
   have Bg3 := Lib.hid (hk_w3.heap Bgt.out (by simp))
   have HO3 := Lib.hid (HO2.out.later hk_w3)
   have HW3 := Lib.hid (HW2.out.trans0 hk_w3)
   clear hk_w3 HXf HXt HXq H1 H2 Q1 Q2 HO2 Bgt Bga2
   refine wpList_midK (by rfl) _ _ _ rfl gt 0 M1 rfl rfl (there_of Bg3.out _ _ (by rw [HCs.out, F1.out.2.1]; decide)) (by rw [F1.out.2.1]; exact k_size) F1.out.2.2 (fun K hK => ?_)
   obtain ⟨b4, k4⟩ := setCells_at M1.toList 0 C0 w3 Bg3.out
   generalize World.setCells w3 gt 0 M1.toList = w4 at *
   go_simp
   refine hK _ _ ?_
   clear hK K
   refine' wpList_R (v := _) (by rfl) (?hrund) (fun K hK => ?hnextd)
   case hrund => (go_simp; try rfl)
   rotate_left 0
   go_simp
   refine hK _ _ ?_
   clear hK K
   refine wpList_midK (by rfl) _ _ _ rfl gt 9 M2 rfl rfl (there_of b4 _ _ (by rw [putAt_size, HCs.out, F2.out.2.1]; decide)) (by rw [F2.out.2.1]; exact k_size) F2.out.2.2 (fun K hK => ?_)
   obtain ⟨b5, k5⟩ := setCells_at M2.toList 9 _ w4 b4
   generalize World.setCells w4 gt 9 M2.toList = w5 at *
   go_simp
   refine hK _ _ ?_
   clear hK K
   rw [HPut.out] at b5
   have Bg5 := Lib.hid b5
   have HW5 := Lib.hid (show Keep [] wr w5 from (HW3.out.trans k4 (by simp; omega)).trans k5 (by simp; omega))
   have HO5 := Lib.hid (HO.out.later HW5.out)
   have HLt := Lib.hid (load_iv w5 gt 0 t (ivAt_box b5))
   clear b4 b5 k4 k5 HO3 HW3 Bg3 HO
   go_upto_region 7 with (fail)
   refine wp_region_lit ?_
   refine' wpList_R (v := _) (by rfl) (?hrune) (fun K hK => ?hnexte)
   case hrune => (go_simp; try rfl)
   rotate_left 0
   go_simp
   refine hK _ _ ?_
   clear hK K
   refine wpList_R (v := iv t) (by rfl) (exec_load _ _ ⟨gt, 0, none⟩ _ rfl rfl HLt.out) (fun K hK => ?_)
   go_simp
   refine hK _ _ ?_
   clear hK K
   obtain ⟨ub, gx, e3, e4, hz1, hkx, hx⟩ := IvR.single t w5
   refine wpList_K (v := .slice (some ⟨w5.heap.size, 0, none⟩) 1 1) (by rfl) (exec_bs 23 1 #[(0, .tmp 29)] #[(0, iv t)] _ rfl (by simp only [List.map_toArray, List.map_cons, List.map_nil]; rfl) (build1_i t _)) (fun K hK => ?_)
   rw [e3, e4]
   clear e3
   go_simp
   refine hK _ _ ?_
   clear hK K
   obtain ⟨v4, u4, hr4, ho4, hn4, _⟩ := IvR.app (ty := 23) (HO5.out.later hkx) (.inr (by simp)) hx (by have := Hlen.out; simp; omega)
   refine wpList_K (by rfl) (exec_app (.tmp 28) (.tmp 30) 23 _ _ _ rfl rfl rfl hr4) (fun K hK => ?_)
   go_simp
   refine hK _ _ ?_
   clear hK K hr4 hx hkx
   have HN := Lib.hid ho4
   obtain ⟨no, nc, rfl⟩ := ho4.form
   clear ho4 hn4
   go_wp2_with fail
   go_roundw
   case rel => exact ⟨k + 1, by omega, congrArg (Value.int .i64) (by omega), by rw [Hstep.out, Hout.out]; exact HN.out⟩
   case measure => simp [intOf]; omega
  ·obtain rfl : k = l.length := by omega
   have HX := Lib.hid (HO.out.read)
   have HK := Lib.hid (HkW.out.trans0 HO.out.keep)
   have hF : out = l.map (mvI q) := by rw [← Hout.out, List.take_length]
   have HF := Lib.hid hF
   clear HO Hout hF
   go_wp2_with fail
   go_ret
   exact ⟨_, rfl, by rw [← HF.out]; exact HX.out, HK.out⟩
end Go.Proofs.YteknldaoegccaaaGreatDoor
