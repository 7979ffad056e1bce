/- Parts of a proof about this translation: Pm, Sz, Td. -/
import Derived.Test.YteknldaoegccaaaGreatDoorW25
import Derived.Test.YteknldaoegccaaaGreatDoorW26
import Derived.Test.YteknldaoegccaaaGreatDoorW27
set_option linter.unusedVariables false
set_option linter.unusedSimpArgs false
set_option linter.unusedSectionVars false
namespace Go.Proofs.YteknldaoegccaaaGreatDoor
section
open Classical
variable {α : Type} [LE α] [LT α] [Std.LawfulOrderLT α] [Std.IsLinearOrder α]
noncomputable def insS (x : α) : List α → List α
 | [] => [x]
 | y :: r => if y < x then y :: insS x r else if y = x then y :: r else x :: y :: r
noncomputable def sortS (l : List α) : List α := l.foldl (fun out x => insS x out) []
theorem insS_mem {x z : α} (l : List α) : z ∈ insS x l ↔ z = x ∨ z ∈ l := by
 induction l with
 | nil => simp [insS]
 | cons y r ih =>
  unfold insS
  by_cases h1 : y < x
  ·rw [if_pos h1, List.mem_cons, ih, List.mem_cons]
   constructor
   ·rintro (h | h | h) <;> simp [h]
   ·rintro (h | h | h) <;> simp [h]
  ·rw [if_neg h1]
   by_cases h2 : y = x
   ·rw [if_pos h2, List.mem_cons]
    subst h2
    simp
   ·rw [if_neg h2, List.mem_cons]
theorem insS_ord {x : α} {l : List α} (h : l.Pairwise (· < ·)) : (insS x l).Pairwise (· < ·) := by
 induction l with
 | nil => simp [insS]
 | cons y r ih =>
  obtain ⟨h1, h2⟩ := List.pairwise_cons.1 h
  unfold insS
  by_cases h3 : y < x
  ·rw [if_pos h3, List.pairwise_cons]
   refine ⟨fun z hz => ?_, ih h2⟩
   rcases (insS_mem r).1 hz with rfl | hz
   ·exact h3
   ·exact h1 z hz
  ·rw [if_neg h3]
   by_cases h4 : y = x
   ·rw [if_pos h4]; exact h
   ·rw [if_neg h4, List.pairwise_cons]
    refine ⟨fun z hz => ?_, h⟩
    rcases List.mem_cons.1 hz with rfl | hz
    ·grind
    ·have := h1 z hz
     grind
theorem sortS_aux (l : List α) : ∀ out : List α, out.Pairwise (· < ·) → (l.foldl (fun out x => insS x out) out).Pairwise (· < ·) ∧ ∀ z, z ∈ l.foldl (fun out x => insS x out) out ↔ z ∈ out ∨ z ∈ l := by
 induction l with
 | nil => intro out h; exact ⟨h, by simp⟩
 | cons x l ih =>
  intro out h
  obtain ⟨h1, h2⟩ := ih (insS x out) (insS_ord h)
  refine ⟨h1, fun z => ?_⟩
  rw [List.foldl_cons, h2, insS_mem, List.mem_cons]
  constructor
  ·rintro ((h | h) | h) <;> simp [h]
  ·rintro (h | h | h) <;> simp [h]
theorem sortS_ord (l : List α) : (sortS l).Pairwise (· < ·) := (sortS_aux l [] List.Pairwise.nil).1
theorem sortS_mem {l : List α} {z : α} : z ∈ sortS l ↔ z ∈ l := by rw [sortS, (sortS_aux l [] List.Pairwise.nil).2]; simp
theorem strict_unique {l m : List α} (hl : l.Pairwise (· < ·)) (hm : m.Pairwise (· < ·)) (h : ∀ z, z ∈ l ↔ z ∈ m) : l = m := by
 induction l generalizing m with
 | nil =>
  cases m with
  | nil => rfl
  | cons y m => exact absurd ((h y).2 List.mem_cons_self) (by simp)
 | cons x l ih =>
  cases m with
  | nil => exact absurd ((h x).1 List.mem_cons_self) (by simp)
  | cons y m =>
   obtain ⟨a1, a2⟩ := List.pairwise_cons.1 hl
   obtain ⟨b1, b2⟩ := List.pairwise_cons.1 hm
   have e : x = y := by
    rcases List.mem_cons.1 ((h x).1 List.mem_cons_self) with e | e
    ·exact e
    ·rcases List.mem_cons.1 ((h y).2 List.mem_cons_self) with e2 | e2
     ·exact e2.symm
     ·have := a1 _ e2
      have := b1 _ e
      grind
   subst e
   rw [ih a2 b2 (fun z => ?_)]
   have := h z
   rw [List.mem_cons, List.mem_cons] at this
   constructor
   ·intro hz
    rcases this.1 (.inr hz) with e | e
    ·subst e; have := a1 _ hz; grind
    ·exact e
   ·intro hz
    rcases this.2 (.inr hz) with e | e
    ·subst e; have := b1 _ hz; grind
    ·exact e
noncomputable def compactS : List α → List α
 | [] => []
 | [x] => [x]
 | x :: y :: r => if x = y then compactS (y :: r) else x :: compactS (y :: r)
theorem compactS_mem {z : α} (l : List α) : z ∈ compactS l ↔ z ∈ l := by
 induction l with
 | nil => simp [compactS]
 | cons x r ih =>
  cases r with
  | nil => simp [compactS]
  | cons y r =>
   unfold compactS
   by_cases h : x = y
   ·rw [if_pos h, ih]; subst h; simp
   ·rw [if_neg h, List.mem_cons, ih, List.mem_cons (a := z) (b := x)]
theorem compactS_ord {l : List α} (h : l.Pairwise (· ≤ ·)) : (compactS l).Pairwise (· < ·) := by
 induction l with
 | nil => simp [compactS]
 | cons x r ih =>
  cases r with
  | nil => simp [compactS]
  | cons y r =>
   obtain ⟨h1, h2⟩ := List.pairwise_cons.1 h
   unfold compactS
   by_cases hxy : x = y
   ·rw [if_pos hxy]; exact ih h2
   ·rw [if_neg hxy, List.pairwise_cons]
    refine ⟨fun z hz => ?_, ih h2⟩
    have h3 := h1 y List.mem_cons_self
    have h4 := (compactS_mem _).1 hz
    rcases List.mem_cons.1 h4 with rfl | h4
    ·grind
    ·have := (List.pairwise_cons.1 h2).1 z h4
     grind
theorem compact_sortS {l m : List α} (hp : l.Perm m) (h : m.Pairwise (· ≤ ·)) : compactS m = sortS l :=
 strict_unique (compactS_ord h) (sortS_ord l) (fun z => by rw [compactS_mem, sortS_mem, hp.mem_iff])
end
end Go.Proofs.YteknldaoegccaaaGreatDoor
set_option maxRecDepth 100000
namespace Go.Proofs.YteknldaoegccaaaGreatDoor
open Go.RowKit
open Classical
theorem insS_at {x : K} : ∀ (l : List K) (k : Nat), k ≤ l.length → (∀ j (h : j < l.length), j < k → l[j] < x) →
  ((∀ h : k < l.length, l[k] = x → insS x l = l) ∧ ((k = l.length ∨ ∃ h : k < l.length, x < l[k]) → insS x l = l.take k ++ x :: l.drop k)) := by
 intro l
 induction l with
 | nil =>
  intro k hk _
  obtain rfl : k = 0 := by simpa using hk
  exact ⟨fun h => absurd h (by simp), fun _ => rfl⟩
 | cons y l ih =>
  intro k hk hlt
  cases k with
  | zero =>
   refine ⟨fun h he => ?_, fun h => ?_⟩
   ·have he : y = x := he
    subst he
    unfold insS
    rw [if_neg (by grind), if_pos rfl]
   ·rcases h with h | ⟨h, hx⟩
    ·simp at h
    ·have hx : x < y := hx
     unfold insS
     rw [if_neg (by grind), if_neg (by grind)]
     rfl
  | succ k =>
   have hy : y < x := hlt 0 (by simp) (by omega)
   obtain ⟨i1, i2⟩ := ih k (by simpa using hk) (fun j h hj => hlt (j + 1) (by simp; omega) (by omega))
   refine ⟨fun h he => ?_, fun h => ?_⟩
   ·unfold insS
    rw [if_pos hy, i1 (by simpa using h) he]
   ·unfold insS
    rw [if_pos hy, i2 ?_]
    ·rfl
    ·rcases h with h | ⟨h, hx⟩
     ·exact .inl (by simpa using h)
     ·exact .inr ⟨by simpa using h, hx⟩
theorem sortS_take {l : List K} {i : Nat} (h : i < l.length) : sortS (l.take (i + 1)) = insS l[i] (sortS (l.take i)) := by
 unfold sortS
 rw [List.take_succ_eq_append_getElem h, List.foldl_append]
 rfl
theorem sortS_len (l : List K) : (sortS l).length ≤ l.length := by
 have : ∀ (l out : List K), (l.foldl (fun out x => insS x out) out).length ≤ out.length + l.length := by
  intro l
  induction l with
  | nil => intro out; simp
  | cons x l ih =>
   intro out
   rw [List.foldl_cons]
   have h1 := ih (insS x out)
   have h2 : (insS x out).length ≤ out.length + 1 := by
    clear h1 ih
    induction out with
    | nil => simp [insS]
    | cons y r ih2 =>
     unfold insS
     split
     ·simp; omega
     ·split <;> simp
   rw [List.length_cons]
   omega
 have := this l []
 unfold sortS
 simpa using this
theorem exec_slice {P : Program} {o : Oper} {ev : Operand → Value} {w : World} (t : TypeId) (x : Operand) (lo hi mx : Option Operand) (vx v : Value) (lo' hi' mx' : Option Value) (ho : o.op = .slice t x lo hi mx) (hx : ev x = vx) (h1 : lo.map ev = lo') (h2 : hi.map ev = hi') (h3 : mx.map ev = mx')
  (h : (Instr.sliceAt t vx lo' hi' mx').run P w = .ok v w) : (execOp ev o).run P w = .ok (.value v) w := by
 unfold execOp
 simp only [ho, hx, h1, h2, h3, Sem.run_bind, Sem.run_pure, Result.andThen_ok, h]
theorem slice_take (ov : Value) (l : List K) (w : World) (h : KR w ov l) (k : Nat) (hk : k ≤ l.length) (h9 : l.length ≤ 1000000000) :
  ∃ v1, (∀ u, (Instr.sliceAt 54 ov none (some (.int .i64 (k : Int))) none).run Tryz.prog u = .ok v1 u) ∧ KR w v1 (l.take k) := by
 have h0 := h
 rcases h with ⟨rfl, rfl⟩ | ⟨g, o, c, rfl, hc, hg, hx⟩
 ·obtain rfl : k = 0 := by simpa using hk
  exact ⟨.slice none 0 0, fun u => by go_simp, RowE.nil w⟩
 ·refine ⟨.slice (some ⟨g, o, none⟩) k c, fun u => ?_, RowE.take (fun (x : K) => kcells_len x.1) h0 k hk⟩
  have e1 : k ≤ c := by omega
  go_simp
theorem slice_drop (ov : Value) (l : List K) (w : World) (h : KR w ov l) (k : Nat) (hk : k ≤ l.length) (h9 : l.length ≤ 1000000000) :
  ∃ v1, (∀ u, (Instr.sliceAt 54 ov (some (.int .i64 (k : Int))) none none).run Tryz.prog u = .ok v1 u) ∧ KR w v1 (l.drop k) := by
 have h0 := h
 rcases h with ⟨rfl, rfl⟩ | ⟨g, o, c, rfl, hc, hg, hx⟩
 ·obtain rfl : k = 0 := by simpa using hk
  exact ⟨.slice none 0 0, fun u => by go_simp, RowE.nil w⟩
 ·by_cases hck : c = k
  ·have hl : l.length = k := by omega
   subst hck
   refine ⟨.slice (some ⟨g, o, none⟩) 0 0, fun u => ?_, ?_⟩
   ·rw [hl]; go_simp
   ·rw [List.drop_eq_nil_of_le (by omega)]
    exact .inr ⟨g, o, 0, rfl, Nat.le_refl _, hg, fun i v hv => by simp at hv⟩
  ·refine ⟨.slice (some ⟨g, o + k * 9, none⟩) (l.length - k) (c - k), fun u => ?_, RowE.drop (fun (x : K) => kcells_len x.1) h0 k hk⟩
   go_simp
end Go.Proofs.YteknldaoegccaaaGreatDoor
set_option maxRecDepth 100000
namespace Go.Proofs.YteknldaoegccaaaGreatDoor
open Go.RowKit
open Classical
set_option maxHeartbeats 8000000 in
theorem sorted_c (l : List K) (w : World) (sv : Value) (hr : KR w sv l) (h9 : l.length ≤ 100000) :
  Calls Tryz.prog 76 #[sv] w fun e w' => ∃ v, e = .returned v ∧ KR w' v (sortS l) ∧ Keep [] w w' := by
 have HR := Lib.hid hr
 have HCM := Lib.hid (fun x y w => kcmp_c x y w)
 obtain ⟨ao, ac, rfl, _⟩ := hr.form
 clear hr
 go_enter Tryz.func76, Tryz.ntmps76
 go_wp2_with fail
 go_loopw [3, 4] (fun ov c wr => ∃ i : Nat, i ≤ l.length ∧ c = .int .i64 (i : Int) ∧ KR wr ov (sortS (l.take i)) ∧ Keep [] w wr) (fun _ c _ => l.length - (intOf c).toNat)
 case atStart => exact ⟨0, Nat.zero_le _, rfl, RowE.nil w, Keep.refl _ _⟩
 case round =>
  obtain ⟨i, hi, rfl, hov, hkeep⟩ := hrel
  rename World => wo
  have HO := Lib.hid hov
  have HKr := Lib.hid hkeep
  obtain ⟨oo, oc, rfl, _⟩ := hov.form
  clear hov hkeep
  have hm9 : (sortS (l.take i)).length ≤ 100000 := by have := sortS_len (l.take i); rw [List.length_take] at this; omega
  by_cases hlt : i < l.length
  ·have Hstep := Lib.hid (sortS_take hlt)
   obtain ⟨g, o, rfl, hg, hat⟩ := KR.elem (HR.out.later HKr.out) i hlt
   obtain ⟨x, hx⟩ : ∃ x, l[i] = x := ⟨_, rfl⟩
   rw [hx] at hat Hstep
   clear hx
   generalize sortS (l.take i) = out at *
   obtain ⟨p, hp⟩ : ∃ p, o + i * 9 = p := ⟨_, rfl⟩
   rw [hp] at hat
   have Hat := Lib.hid hat
   clear hat
   go_wp2_with fail
   go_loopw [5] (fun c wq => ∃ k : Nat, k ≤ out.length ∧ c = .int .i64 (k : Int) ∧ (∀ j (h : j < out.length), j < k → out[j] < x) ∧ Keep [] wo wq) (fun c _ => out.length - (intOf c).toNat)
   case atStart => exact ⟨0, Nat.zero_le _, rfl, fun j _ h => absurd h (by omega), Keep.refl _ _⟩
   case round =>
    obtain ⟨k, hk, rfl, hall, hkq⟩ := hrel
    have Hall := Lib.hid hall
    have HKq := Lib.hid hkq
    clear hall hkq
    by_cases hkm : k < out.length
    ·obtain ⟨g2, o2, rfl, hg2, hat2⟩ := KR.elem HO.out k hkm
     obtain ⟨y, hy⟩ : ∃ y, out[k] = y := ⟨_, rfl⟩
     rw [hy] at hat2
     have Hy := Lib.hid hy
     clear hy
     obtain ⟨p2, hp2⟩ : ∃ p2, o2 + k * 9 = p2 := ⟨_, rfl⟩
     rw [hp2] at hat2
     have Hat2 := Lib.hid hat2
     have ha := cmp_tri y x
     have H1 := Lib.hid (HCM.out y x)
     have Htri := Lib.hid (K.tri y x)
     generalize cmpQ y.1 x.1 = a at *
     clear hat2
     rcases ha with rfl | rfl | rfl
     ·go_wp2_with fail
      have HLx := Lib.hid ((Hat.out.keep' ((HKq.out).block g hg (by simp))).ld (Nat.lt_of_lt_of_le hg (HKq.out).size))
      have HLy := Lib.hid ((Hat2.out.keep' ((HKq.out).block g2 hg2 (by simp))).ld (Nat.lt_of_lt_of_le hg2 (HKq.out).size))
      have Q1 : Hid (∀ m : KW wr, Calls Tryz.prog 28 #[.agg (kC y), .agg (kC x)] (Wk wr m) fun e w' => e = .returned (.int .i64 (-1)) ∧ ∃ m, w' = Wk wr m) := fun m => qk m (H1.out _)
      refine wp_region_keep (by kernel_rfl) (by kernel_rfl) ?_
      repeat (first
       | go_big_quiet_skip
       | (go_big_quiet_want; first
        | (refine quiet_load _ _ _ (.agg (kC x)) rfl rfl (by rintro _ ⟨m, rfl⟩; exact HLx.out m) ?_; go_simp; go_big_quiet_on) | (refine quiet_load _ _ _ (.agg (kC y)) rfl rfl (by rintro _ ⟨m, rfl⟩; exact HLy.out m) ?_; go_simp; go_big_quiet_on)
        | (go_big_quiet_op; go_simp; go_big_quiet_on)
        | (go_big_quiet_op; go_big_quiet_call (first
         | (go_at_call 28; with_reducible exact (Q1).out _)))))
      refine wpQuiet_nil ?_
      rintro w1 ⟨⟨_, hk_w1⟩, rfl⟩
      clear HLx HLy Q1
      have Hk1 := Lib.hid (HKq.out.trans0 hk_w1)
      clear hk_w1
      go_wp2_with fail
      go_roundw
      case rel =>
       refine ⟨k + 1, by omega, congrArg (Value.int .i64) (by omega), fun j h hj => ?_, Hk1.out⟩
       by_cases hjk : j = k
       ·subst hjk
        rw [Hy.out]
        rcases Htri.out with ⟨h, _⟩ | ⟨_, h⟩ | ⟨h, _⟩
        ·exact absurd h (by decide)
        ·exact h
        ·exact absurd h (by decide)
       ·exact Hall.out j h (by omega)
      case measure => simp [intOf]; omega
     ·go_wp2_with fail
      have HLx := Lib.hid ((Hat.out.keep' ((HKq.out).block g hg (by simp))).ld (Nat.lt_of_lt_of_le hg (HKq.out).size))
      have HLy := Lib.hid ((Hat2.out.keep' ((HKq.out).block g2 hg2 (by simp))).ld (Nat.lt_of_lt_of_le hg2 (HKq.out).size))
      have Q1 : Hid (∀ m : KW wr, Calls Tryz.prog 28 #[.agg (kC y), .agg (kC x)] (Wk wr m) fun e w' => e = .returned (.int .i64 (0)) ∧ ∃ m, w' = Wk wr m) := fun m => qk m (H1.out _)
      refine wp_region_keep (by kernel_rfl) (by kernel_rfl) ?_
      repeat (first
       | go_big_quiet_skip
       | (go_big_quiet_want; first
        | (refine quiet_load _ _ _ (.agg (kC x)) rfl rfl (by rintro _ ⟨m, rfl⟩; exact HLx.out m) ?_; go_simp; go_big_quiet_on) | (refine quiet_load _ _ _ (.agg (kC y)) rfl rfl (by rintro _ ⟨m, rfl⟩; exact HLy.out m) ?_; go_simp; go_big_quiet_on)
        | (go_big_quiet_op; go_simp; go_big_quiet_on)
        | (go_big_quiet_op; go_big_quiet_call (first
         | (go_at_call 28; with_reducible exact (Q1).out _)))))
      refine wpQuiet_nil ?_
      rintro w1 ⟨⟨_, hk_w1⟩, rfl⟩
      clear HLx HLy Q1
      have Hk1 := Lib.hid (HKq.out.trans0 hk_w1)
      clear hk_w1
      go_wp2_with fail
      have HLx := Lib.hid ((Hat.out.keep' ((Hk1.out).block g hg (by simp))).ld (Nat.lt_of_lt_of_le hg (Hk1.out).size))
      have HLy := Lib.hid ((Hat2.out.keep' ((Hk1.out).block g2 hg2 (by simp))).ld (Nat.lt_of_lt_of_le hg2 (Hk1.out).size))
      have Q1 : Hid (∀ m : KW w1, Calls Tryz.prog 28 #[.agg (kC y), .agg (kC x)] (Wk w1 m) fun e w' => e = .returned (.int .i64 (0)) ∧ ∃ m, w' = Wk w1 m) := fun m => qk m (H1.out _)
      refine wp_region_keep (by kernel_rfl) (by kernel_rfl) ?_
      repeat (first
       | go_big_quiet_skip
       | (go_big_quiet_want; first
        | (refine quiet_load _ _ _ (.agg (kC x)) rfl rfl (by rintro _ ⟨m, rfl⟩; exact HLx.out m) ?_; go_simp; go_big_quiet_on) | (refine quiet_load _ _ _ (.agg (kC y)) rfl rfl (by rintro _ ⟨m, rfl⟩; exact HLy.out m) ?_; go_simp; go_big_quiet_on)
        | (go_big_quiet_op; go_simp; go_big_quiet_on)
        | (go_big_quiet_op; go_big_quiet_call (first
         | (go_at_call 28; with_reducible exact (Q1).out _)))))
      refine wpQuiet_nil ?_
      rintro w2 ⟨⟨_, hk_w2⟩, rfl⟩
      clear HLx HLy Q1
      have Hk2 := Lib.hid (Hk1.out.trans0 hk_w2)
      clear hk_w2
      go_wp2_with fail
      have hins : insS x out = out := by
       refine (insS_at out k hk Hall.out).1 hkm ?_
       rw [Hy.out]
       rcases Htri.out with ⟨h, _⟩ | ⟨h, _⟩ | ⟨_, h⟩
       ·exact absurd h (by decide)
       ·exact absurd h (by decide)
       ·exact h
      go_roundw
      case rel => exact ⟨i + 1, by omega, congrArg (Value.int .i64) (by omega), by rw [Hstep.out, hins]; exact HO.out.later Hk2.out, HKr.out.trans0 Hk2.out⟩
      case measure => simp [intOf]; omega
     ·go_wp2_with fail
      have HLx := Lib.hid ((Hat.out.keep' ((HKq.out).block g hg (by simp))).ld (Nat.lt_of_lt_of_le hg (HKq.out).size))
      have HLy := Lib.hid ((Hat2.out.keep' ((HKq.out).block g2 hg2 (by simp))).ld (Nat.lt_of_lt_of_le hg2 (HKq.out).size))
      have Q1 : Hid (∀ m : KW wr, Calls Tryz.prog 28 #[.agg (kC y), .agg (kC x)] (Wk wr m) fun e w' => e = .returned (.int .i64 (1)) ∧ ∃ m, w' = Wk wr m) := fun m => qk m (H1.out _)
      refine wp_region_keep (by kernel_rfl) (by kernel_rfl) ?_
      repeat (first
       | go_big_quiet_skip
       | (go_big_quiet_want; first
        | (refine quiet_load _ _ _ (.agg (kC x)) rfl rfl (by rintro _ ⟨m, rfl⟩; exact HLx.out m) ?_; go_simp; go_big_quiet_on) | (refine quiet_load _ _ _ (.agg (kC y)) rfl rfl (by rintro _ ⟨m, rfl⟩; exact HLy.out m) ?_; go_simp; go_big_quiet_on)
        | (go_big_quiet_op; go_simp; go_big_quiet_on)
        | (go_big_quiet_op; go_big_quiet_call (first
         | (go_at_call 28; with_reducible exact (Q1).out _)))))
      refine wpQuiet_nil ?_
      rintro w1 ⟨⟨_, hk_w1⟩, rfl⟩
      clear HLx HLy Q1
      have Hk1 := Lib.hid (HKq.out.trans0 hk_w1)
      clear hk_w1
      go_wp2_with fail
      have HLx := Lib.hid ((Hat.out.keep' ((Hk1.out).block g hg (by simp))).ld (Nat.lt_of_lt_of_le hg (Hk1.out).size))
      have HLy := Lib.hid ((Hat2.out.keep' ((Hk1.out).block g2 hg2 (by simp))).ld (Nat.lt_of_lt_of_le hg2 (Hk1.out).size))
      have Q1 : Hid (∀ m : KW w1, Calls Tryz.prog 28 #[.agg (kC y), .agg (kC x)] (Wk w1 m) fun e w' => e = .returned (.int .i64 (1)) ∧ ∃ m, w' = Wk w1 m) := fun m => qk m (H1.out _)
      refine wp_region_keep (by kernel_rfl) (by kernel_rfl) ?_
      repeat (first
       | go_big_quiet_skip
       | (go_big_quiet_want; first
        | (refine quiet_load _ _ _ (.agg (kC x)) rfl rfl (by rintro _ ⟨m, rfl⟩; exact HLx.out m) ?_; go_simp; go_big_quiet_on) | (refine quiet_load _ _ _ (.agg (kC y)) rfl rfl (by rintro _ ⟨m, rfl⟩; exact HLy.out m) ?_; go_simp; go_big_quiet_on)
        | (go_big_quiet_op; go_simp; go_big_quiet_on)
        | (go_big_quiet_op; go_big_quiet_call (first
         | (go_at_call 28; with_reducible exact (Q1).out _)))))
      refine wpQuiet_nil ?_
      rintro w2 ⟨⟨_, hk_w2⟩, rfl⟩
      clear HLx HLy Q1
      have Hk2 := Lib.hid (Hk1.out.trans0 hk_w2)
      clear hk_w2
      go_wp2_with fail
      have Hins : Hid (insS x out = out.take k ++ x :: out.drop k) := by
       refine (insS_at out k hk Hall.out).2 (.inr ⟨hkm, ?_⟩)
       rw [Hy.out]
       rcases Htri.out with ⟨_, h⟩ | ⟨h, _⟩ | ⟨h, _⟩
       ·exact h
       ·exact absurd h (by decide)
       ·exact absurd h (by decide)
      refine wp_region_heldT (S := fun u => Keep [] w2 u) 15 (by kernel_rfl) (by kernel_rfl) (fun _ _ d _ _ h => by cases d <;> exact h) ?_
      have hS0 := Keep.drew [] w2
      obtain ⟨v1, hs1, hr1⟩ := slice_take _ out _ (HO.out.later (Hk2.out)) k hk (by omega)
      obtain ⟨v2, hs2, hr2⟩ := slice_drop _ out _ (HO.out.later (Hk2.out)) k hk (by omega)
      generalize World.drew w2 = u at *
      have HR1 := Lib.hid (fun w' (h : Keep [] w2 w') => hr1.later h)
      have HR2 := Lib.hid (fun w' (h : Keep [] w2 w') => hr2.later h)
      have HKV := Lib.hid (Hk2.out)
      have HS1 := Lib.hid hs1
      have HS2 := Lib.hid hs2
      have HLx := Lib.hid (fun w (hw : Keep [] w2 w) => load_real w g p x.1 (Hat.out.keep' (((Hk2.out).trans0 hw).block g hg (by simp))))
      clear hr1 hr2 hs1 hs2
      refine' heldT_val (v := _) 1 (by rfl) (by decide) (by kernel_rfl) (by kernel_rfl) (by rfl) hS0 (fun w hw => ?hrunc1) (fun K hK => ?hnextc1)
      case hrunc1 => (go_simp; try rfl)
      rotate_left 0
      go_simp
      refine hK _ ?_
      clear hK K
      refine' heldT_val (v := _) 2 (by rfl) (by decide) (by kernel_rfl) (by kernel_rfl) (by rfl) hS0 (fun w hw => ?hrunc2) (fun K hK => ?hnextc2)
      case hrunc2 => (go_simp; try rfl)
      rotate_left 0
      go_simp
      refine hK _ ?_
      clear hK K
      refine heldT_val (v := v1) 3 (by rfl) (by decide) (by kernel_rfl) (by kernel_rfl) (by rfl) hS0 (fun w hw => exec_slice _ _ _ _ _ _ _ _ _ _ rfl rfl rfl rfl rfl (HS1.out _)) (fun K hK => ?_)
      go_simp
      refine hK _ ?_
      clear hK K
      refine' heldT_val (v := _) 5 (by rfl) (by decide) (by kernel_rfl) (by kernel_rfl) (by rfl) hS0 (fun w hw => ?hrunc5) (fun K hK => ?hnextc5)
      case hrunc5 => (go_simp; try rfl)
      rotate_left 0
      go_simp
      refine hK _ ?_
      clear hK K
      refine' heldT_val (v := _) 6 (by rfl) (by decide) (by kernel_rfl) (by kernel_rfl) (by rfl) hS0 (fun w hw => ?hrunc6) (fun K hK => ?hnextc6)
      case hrunc6 => (go_simp; try rfl)
      rotate_left 0
      go_simp
      refine hK _ ?_
      clear hK K
      refine' heldT_val (v := _) 7 (by rfl) (by decide) (by kernel_rfl) (by kernel_rfl) (by rfl) hS0 (fun w hw => ?hrunc7) (fun K hK => ?hnextc7)
      case hrunc7 => (go_simp; try rfl)
      rotate_left 0
      go_simp
      refine hK _ ?_
      clear hK K
      refine heldT_val (v := kv x) 8 (by rfl) (by decide) (by kernel_rfl) (by kernel_rfl) (by rfl) hS0 (fun w hw => exec_load _ _ ⟨g, p, none⟩ _ rfl rfl (HLx.out _ hw)) (fun K hK => ?_)
      go_simp
      refine hK _ ?_
      clear hK K
      refine' heldT_val (v := _) 11 (by rfl) (by decide) (by kernel_rfl) (by kernel_rfl) (by rfl) hS0 (fun w hw => ?hrunc11) (fun K hK => ?hnextc11)
      case hrunc11 => (go_simp; try rfl)
      rotate_left 0
      go_simp
      refine hK _ ?_
      clear hK K
      refine' heldT_val (v := _) 12 (by rfl) (by decide) (by kernel_rfl) (by kernel_rfl) (by rfl) hS0 (fun w hw => ?hrunc12) (fun K hK => ?hnextc12)
      case hrunc12 => (go_simp; try rfl)
      rotate_left 0
      go_simp
      refine hK _ ?_
      clear hK K
      refine heldT_val (v := v2) 13 (by rfl) (by decide) (by kernel_rfl) (by kernel_rfl) (by rfl) hS0 (fun w hw => exec_slice _ _ _ _ _ _ _ _ _ _ rfl rfl rfl rfl rfl (HS2.out _)) (fun K hK => ?_)
      go_simp
      refine hK _ ?_
      clear hK K
      refine heldT_two 0 9 (by kernel_rfl) (by decide) (by decide) (by rfl) (by rfl) (by rfl) (by rfl) (fun K hK => ?_) (fun K hK => ?_)
      ·skip
       obtain ⟨ua, g0, e1, e2, hz0, ho⟩ := OK_.start u
       refine wp_op _ _ (exec_bs 54 0 #[] #[] _ rfl (by simp) (build0_k _)) ?_
       rw [e1, e2]
       clear e1
       go_simp
       have HSc := Lib.hid hS0
       have hS0 := hS0.trans0 ho.keep
       refine hK _ _ hS0 ?_
       clear hK K
       refine heldT_two 4 9 (by kernel_rfl) (by decide) (by decide) (by rfl) (by rfl) (by rfl) (by rfl) (fun K hK => ?_) (fun K hK => ?_)
       ·skip
        obtain ⟨v4, u4, hr4, ho4, hn4, hK4⟩ := KR.app (ty := 54) (ho) (by simp [Value.ownBlock]) (HR1.out _ hS0) (by rw [List.length_take]; simp; omega)
        refine wp_op _ _ (exec_app (.tmp 46) (.tmp 49) 54 _ _ _ rfl rfl rfl hr4) ?_
        go_simp
        clear hr4
        have hS0 := HSc.out.trans0 ho4.keep
        refine hK _ _ hS0 ?_
        clear hK K
        refine heldT_one 9 (by kernel_rfl) (by decide) (by rfl) (by rfl) (fun K hK => ?_)
        obtain ⟨ub, gx, e3, e4, hz1, hkx, hx⟩ := KR.single x u4
        refine wp_op _ _ (exec_bs 54 1 #[(0, .tmp 54)] #[(0, kv x)] _ rfl (by simp only [List.map_toArray, List.map_cons, List.map_nil]; rfl) (build1_k x _)) ?_
        rw [e3, e4]
        clear e3
        go_simp
        have hS0 := hS0.trans0 hkx
        refine hK _ _ hS0 ?_
        clear hK K
        refine heldT_one 10 (by kernel_rfl) (by decide) (by rfl) (by rfl) (fun K hK => ?_)
        obtain ⟨v10, u10, hr10, ho10, hn10, _⟩ := KR.app (ty := 54) (ho4.later hkx) hn4 (hx) (by rw [List.nil_append, List.length_take]; simp; omega)
        refine wp_op _ _ (exec_app (.tmp 50) (.tmp 55) 54 _ _ _ rfl rfl rfl hr10) ?_
        go_simp
        clear hr10
        have hS0 := HSc.out.trans0 ho10.keep
        refine hK _ _ hS0 ?_
        clear hK K
        refine heldT_one 14 (by kernel_rfl) (by decide) (by rfl) (by rfl) (fun K hK => ?_)
        obtain ⟨v14, u14, hr14, ho14, _, _⟩ := KR.app (ty := 54) ho10 hn10 (HR2.out _ hS0) (by rw [List.length_append, List.nil_append, List.length_take, List.length_drop]; simp; omega)
        refine wp_op _ _ (exec_app (.tmp 56) (.tmp 59) 54 _ _ _ rfl rfl rfl hr14) ?_
        go_simp
        clear hr14
        have hS0 := HSc.out.trans0 ho14.keep
        refine hK _ _ hS0 ?_
        clear hK K
        refine ⟨by kernel_rfl, ?_⟩
        simp only [List.drop_succ_cons, List.drop_zero]
        have HNew := Lib.hid ho14.read
        have HKn := Lib.hid (HKV.out.trans0 hS0)
        clear ho14 ho10 hS0
        go_wp2_with fail
        go_roundw
        case rel =>
         refine ⟨i + 1, by omega, congrArg (Value.int .i64) (by omega), ?_, HKr.out.trans0 HKn.out⟩
         rw [Hstep.out, Hins.out]
         have := HNew.out
         simpa using this
        case measure => simp [intOf]; omega
       ·skip
        obtain ⟨ub, gx, e3, e4, hz1, hkx, hx⟩ := KR.single x ua
        refine wp_op _ _ (exec_bs 54 1 #[(0, .tmp 54)] #[(0, kv x)] _ rfl (by simp only [List.map_toArray, List.map_cons, List.map_nil]; rfl) (build1_k x _)) ?_
        rw [e3, e4]
        clear e3
        go_simp
        have hS0 := hS0.trans0 hkx
        refine hK _ _ hS0 ?_
        clear hK K
        refine heldT_one 4 (by kernel_rfl) (by decide) (by rfl) (by rfl) (fun K hK => ?_)
        obtain ⟨v4, u4, hr4, ho4, hn4, hK4⟩ := KR.app (ty := 54) (ho.later hkx) (by simp [Value.ownBlock]) (HR1.out _ hS0) (by rw [List.length_take]; simp; omega)
        refine wp_op _ _ (exec_app (.tmp 46) (.tmp 49) 54 _ _ _ rfl rfl rfl hr4) ?_
        go_simp
        clear hr4
        have hS0 := HSc.out.trans0 ho4.keep
        refine hK _ _ hS0 ?_
        clear hK K
        refine heldT_one 10 (by kernel_rfl) (by decide) (by rfl) (by rfl) (fun K hK => ?_)
        obtain ⟨v10, u10, hr10, ho10, hn10, _⟩ := KR.app (ty := 54) (ho4) hn4 (hx.keepF (hK4 [g0] (fun g hg => by simp [Value.ownBlock] at hg; simp [hg])) (by simp; omega)) (by rw [List.nil_append, List.length_take]; simp; omega)
        refine wp_op _ _ (exec_app (.tmp 50) (.tmp 55) 54 _ _ _ rfl rfl rfl hr10) ?_
        go_simp
        clear hr10
        have hS0 := HSc.out.trans0 ho10.keep
        refine hK _ _ hS0 ?_
        clear hK K
        refine heldT_one 14 (by kernel_rfl) (by decide) (by rfl) (by rfl) (fun K hK => ?_)
        obtain ⟨v14, u14, hr14, ho14, _, _⟩ := KR.app (ty := 54) ho10 hn10 (HR2.out _ hS0) (by rw [List.length_append, List.nil_append, List.length_take, List.length_drop]; simp; omega)
        refine wp_op _ _ (exec_app (.tmp 56) (.tmp 59) 54 _ _ _ rfl rfl rfl hr14) ?_
        go_simp
        clear hr14
        have hS0 := HSc.out.trans0 ho14.keep
        refine hK _ _ hS0 ?_
        clear hK K
        refine ⟨by kernel_rfl, ?_⟩
        simp only [List.drop_succ_cons, List.drop_zero]
        have HNew := Lib.hid ho14.read
        have HKn := Lib.hid (HKV.out.trans0 hS0)
        clear ho14 ho10 hS0
        go_wp2_with fail
        go_roundw
        case rel =>
         refine ⟨i + 1, by omega, congrArg (Value.int .i64) (by omega), ?_, HKr.out.trans0 HKn.out⟩
         rw [Hstep.out, Hins.out]
         have := HNew.out
         simpa using this
        case measure => simp [intOf]; omega
      ·skip
       obtain ⟨ub, gx, e3, e4, hz1, hkx, hx⟩ := KR.single x u
       refine wp_op _ _ (exec_bs 54 1 #[(0, .tmp 54)] #[(0, kv x)] _ rfl (by simp only [List.map_toArray, List.map_cons, List.map_nil]; rfl) (build1_k x _)) ?_
       rw [e3, e4]
       clear e3
       go_simp
       have hS0 := hS0.trans0 hkx
       refine hK _ _ hS0 ?_
       clear hK K
       refine heldT_one 0 (by kernel_rfl) (by decide) (by rfl) (by rfl) (fun K hK => ?_)
       obtain ⟨ua, g0, e1, e2, hz0, ho⟩ := OK_.start ub
       refine wp_op _ _ (exec_bs 54 0 #[] #[] _ rfl (by simp) (build0_k _)) ?_
       rw [e1, e2]
       clear e1
       go_simp
       have HSc := Lib.hid hS0
       have hS0 := hS0.trans0 ho.keep
       refine hK _ _ hS0 ?_
       clear hK K
       refine heldT_one 4 (by kernel_rfl) (by decide) (by rfl) (by rfl) (fun K hK => ?_)
       obtain ⟨v4, u4, hr4, ho4, hn4, hK4⟩ := KR.app (ty := 54) (ho) (by simp [Value.ownBlock]) (HR1.out _ hS0) (by rw [List.length_take]; simp; omega)
       refine wp_op _ _ (exec_app (.tmp 46) (.tmp 49) 54 _ _ _ rfl rfl rfl hr4) ?_
       go_simp
       clear hr4
       have hS0 := HSc.out.trans0 ho4.keep
       refine hK _ _ hS0 ?_
       clear hK K
       refine heldT_one 10 (by kernel_rfl) (by decide) (by rfl) (by rfl) (fun K hK => ?_)
       obtain ⟨v10, u10, hr10, ho10, hn10, _⟩ := KR.app (ty := 54) (ho4) hn4 ((hx.later ho.keep).keepF (hK4 [g0] (fun g hg => by simp [Value.ownBlock] at hg; simp [hg])) (by simp; omega)) (by rw [List.nil_append, List.length_take]; simp; omega)
       refine wp_op _ _ (exec_app (.tmp 50) (.tmp 55) 54 _ _ _ rfl rfl rfl hr10) ?_
       go_simp
       clear hr10
       have hS0 := HSc.out.trans0 ho10.keep
       refine hK _ _ hS0 ?_
       clear hK K
       refine heldT_one 14 (by kernel_rfl) (by decide) (by rfl) (by rfl) (fun K hK => ?_)
       obtain ⟨v14, u14, hr14, ho14, _, _⟩ := KR.app (ty := 54) ho10 hn10 (HR2.out _ hS0) (by rw [List.length_append, List.nil_append, List.length_take, List.length_drop]; simp; omega)
       refine wp_op _ _ (exec_app (.tmp 56) (.tmp 59) 54 _ _ _ rfl rfl rfl hr14) ?_
       go_simp
       clear hr14
       have hS0 := HSc.out.trans0 ho14.keep
       refine hK _ _ hS0 ?_
       clear hK K
       refine ⟨by kernel_rfl, ?_⟩
       simp only [List.drop_succ_cons, List.drop_zero]
       have HNew := Lib.hid ho14.read
       have HKn := Lib.hid (HKV.out.trans0 hS0)
       clear ho14 ho10 hS0
       go_wp2_with fail
       go_roundw
       case rel =>
        refine ⟨i + 1, by omega, congrArg (Value.int .i64) (by omega), ?_, HKr.out.trans0 HKn.out⟩
        rw [Hstep.out, Hins.out]
        have := HNew.out
        simpa using this
       case measure => simp [intOf]; omega
    ·have hkl : k = out.length := by omega
     have Hins : Hid (insS x out = out.take k ++ x :: out.drop k) := (insS_at out k hk Hall.out).2 (.inl hkl)
     have hnl : decide ((k : Int) < (out.length : Int)) = false := by simp; omega
     clear Hall hkl
     go_wp2_with fail
     refine wp_region_keep (by kernel_rfl) (by kernel_rfl) ?_
     repeat (first
      | go_big_quiet_skip
      | (go_big_quiet_want; first
       | fail
       | (go_big_quiet_op; go_simp; go_big_quiet_on)
       | (go_big_quiet_op; go_big_quiet_call (first
        | fail))))
     refine wpQuiet_nil ?_
     rintro w1 ⟨⟨_, hk_w1⟩, rfl⟩
     have Hk1 := Lib.hid (HKq.out.trans0 hk_w1)
     clear hk_w1
     go_wp2_with fail
     refine wp_region_keep (by kernel_rfl) (by kernel_rfl) ?_
     repeat (first
      | go_big_quiet_skip
      | (go_big_quiet_want; first
       | fail
       | (go_big_quiet_op; go_simp; go_big_quiet_on)
       | (go_big_quiet_op; go_big_quiet_call (first
        | fail))))
     refine wpQuiet_nil ?_
     rintro w2 ⟨⟨_, hk_w2⟩, rfl⟩
     have Hk2 := Lib.hid (Hk1.out.trans0 hk_w2)
     clear hk_w2 hnl
     go_wp2_with fail
     refine wp_region_heldT (S := fun u => Keep [] w2 u) 15 (by kernel_rfl) (by kernel_rfl) (fun _ _ d _ _ h => by cases d <;> exact h) ?_
     have hS0 := Keep.drew [] w2
     obtain ⟨v1, hs1, hr1⟩ := slice_take _ out _ (HO.out.later (Hk2.out)) k hk (by omega)
     obtain ⟨v2, hs2, hr2⟩ := slice_drop _ out _ (HO.out.later (Hk2.out)) k hk (by omega)
     generalize World.drew w2 = u at *
     have HR1 := Lib.hid (fun w' (h : Keep [] w2 w') => hr1.later h)
     have HR2 := Lib.hid (fun w' (h : Keep [] w2 w') => hr2.later h)
     have HKV := Lib.hid (Hk2.out)
     have HS1 := Lib.hid hs1
     have HS2 := Lib.hid hs2
     have HLx := Lib.hid (fun w (hw : Keep [] w2 w) => load_real w g p x.1 (Hat.out.keep' (((Hk2.out).trans0 hw).block g hg (by simp))))
     clear hr1 hr2 hs1 hs2
     refine' heldT_val (v := _) 1 (by rfl) (by decide) (by kernel_rfl) (by kernel_rfl) (by rfl) hS0 (fun w hw => ?hrund1) (fun K hK => ?hnextd1)
     case hrund1 => (go_simp; try rfl)
     rotate_left 0
     go_simp
     refine hK _ ?_
     clear hK K
     refine' heldT_val (v := _) 2 (by rfl) (by decide) (by kernel_rfl) (by kernel_rfl) (by rfl) hS0 (fun w hw => ?hrund2) (fun K hK => ?hnextd2)
     case hrund2 => (go_simp; try rfl)
     rotate_left 0
     go_simp
     refine hK _ ?_
     clear hK K
     refine heldT_val (v := v1) 3 (by rfl) (by decide) (by kernel_rfl) (by kernel_rfl) (by rfl) hS0 (fun w hw => exec_slice _ _ _ _ _ _ _ _ _ _ rfl rfl rfl rfl rfl (HS1.out _)) (fun K hK => ?_)
     go_simp
     refine hK _ ?_
     clear hK K
     refine' heldT_val (v := _) 5 (by rfl) (by decide) (by kernel_rfl) (by kernel_rfl) (by rfl) hS0 (fun w hw => ?hrund5) (fun K hK => ?hnextd5)
     case hrund5 => (go_simp; try rfl)
     rotate_left 0
     go_simp
     refine hK _ ?_
     clear hK K
     refine' heldT_val (v := _) 6 (by rfl) (by decide) (by kernel_rfl) (by kernel_rfl) (by rfl) hS0 (fun w hw => ?hrund6) (fun K hK => ?hnextd6)
     case hrund6 => (go_simp; try rfl)
     rotate_left 0
     go_simp
     refine hK _ ?_
     clear hK K
     refine' heldT_val (v := _) 7 (by rfl) (by decide) (by kernel_rfl) (by kernel_rfl) (by rfl) hS0 (fun w hw => ?hrund7) (fun K hK => ?hnextd7)
     case hrund7 => (go_simp; try rfl)
     rotate_left 0
     go_simp
     refine hK _ ?_
     clear hK K
     refine heldT_val (v := kv x) 8 (by rfl) (by decide) (by kernel_rfl) (by kernel_rfl) (by rfl) hS0 (fun w hw => exec_load _ _ ⟨g, p, none⟩ _ rfl rfl (HLx.out _ hw)) (fun K hK => ?_)
     go_simp
     refine hK _ ?_
     clear hK K
     refine' heldT_val (v := _) 11 (by rfl) (by decide) (by kernel_rfl) (by kernel_rfl) (by rfl) hS0 (fun w hw => ?hrund11) (fun K hK => ?hnextd11)
     case hrund11 => (go_simp; try rfl)
     rotate_left 0
     go_simp
     refine hK _ ?_
     clear hK K
     refine' heldT_val (v := _) 12 (by rfl) (by decide) (by kernel_rfl) (by kernel_rfl) (by rfl) hS0 (fun w hw => ?hrund12) (fun K hK => ?hnextd12)
     case hrund12 => (go_simp; try rfl)
     rotate_left 0
     go_simp
     refine hK _ ?_
     clear hK K
     refine heldT_val (v := v2) 13 (by rfl) (by decide) (by kernel_rfl) (by kernel_rfl) (by rfl) hS0 (fun w hw => exec_slice _ _ _ _ _ _ _ _ _ _ rfl rfl rfl rfl rfl (HS2.out _)) (fun K hK => ?_)
     go_simp
     refine hK _ ?_
     clear hK K
     refine heldT_two 0 9 (by kernel_rfl) (by decide) (by decide) (by rfl) (by rfl) (by rfl) (by rfl) (fun K hK => ?_) (fun K hK => ?_)
     ·skip
      obtain ⟨ua, g0, e1, e2, hz0, ho⟩ := OK_.start u
      refine wp_op _ _ (exec_bs 54 0 #[] #[] _ rfl (by simp) (build0_k _)) ?_
      rw [e1, e2]
      clear e1
      go_simp
      have HSc := Lib.hid hS0
      have hS0 := hS0.trans0 ho.keep
      refine hK _ _ hS0 ?_
      clear hK K
      refine heldT_two 4 9 (by kernel_rfl) (by decide) (by decide) (by rfl) (by rfl) (by rfl) (by rfl) (fun K hK => ?_) (fun K hK => ?_)
      ·skip
       obtain ⟨v4, u4, hr4, ho4, hn4, hK4⟩ := KR.app (ty := 54) (ho) (by simp [Value.ownBlock]) (HR1.out _ hS0) (by rw [List.length_take]; simp; omega)
       refine wp_op _ _ (exec_app (.tmp 46) (.tmp 49) 54 _ _ _ rfl rfl rfl hr4) ?_
       go_simp
       clear hr4
       have hS0 := HSc.out.trans0 ho4.keep
       refine hK _ _ hS0 ?_
       clear hK K
       refine heldT_one 9 (by kernel_rfl) (by decide) (by rfl) (by rfl) (fun K hK => ?_)
       obtain ⟨ub, gx, e3, e4, hz1, hkx, hx⟩ := KR.single x u4
       refine wp_op _ _ (exec_bs 54 1 #[(0, .tmp 54)] #[(0, kv x)] _ rfl (by simp only [List.map_toArray, List.map_cons, List.map_nil]; rfl) (build1_k x _)) ?_
       rw [e3, e4]
       clear e3
       go_simp
       have hS0 := hS0.trans0 hkx
       refine hK _ _ hS0 ?_
       clear hK K
       refine heldT_one 10 (by kernel_rfl) (by decide) (by rfl) (by rfl) (fun K hK => ?_)
       obtain ⟨v10, u10, hr10, ho10, hn10, _⟩ := KR.app (ty := 54) (ho4.later hkx) hn4 (hx) (by rw [List.nil_append, List.length_take]; simp; omega)
       refine wp_op _ _ (exec_app (.tmp 50) (.tmp 55) 54 _ _ _ rfl rfl rfl hr10) ?_
       go_simp
       clear hr10
       have hS0 := HSc.out.trans0 ho10.keep
       refine hK _ _ hS0 ?_
       clear hK K
       refine heldT_one 14 (by kernel_rfl) (by decide) (by rfl) (by rfl) (fun K hK => ?_)
       obtain ⟨v14, u14, hr14, ho14, _, _⟩ := KR.app (ty := 54) ho10 hn10 (HR2.out _ hS0) (by rw [List.length_append, List.nil_append, List.length_take, List.length_drop]; simp; omega)
       refine wp_op _ _ (exec_app (.tmp 56) (.tmp 59) 54 _ _ _ rfl rfl rfl hr14) ?_
       go_simp
       clear hr14
       have hS0 := HSc.out.trans0 ho14.keep
       refine hK _ _ hS0 ?_
       clear hK K
       refine ⟨by kernel_rfl, ?_⟩
       simp only [List.drop_succ_cons, List.drop_zero]
       have HNew := Lib.hid ho14.read
       have HKn := Lib.hid (HKV.out.trans0 hS0)
       clear ho14 ho10 hS0
       go_wp2_with fail
       go_roundw
       case rel =>
        refine ⟨i + 1, by omega, congrArg (Value.int .i64) (by omega), ?_, HKr.out.trans0 HKn.out⟩
        rw [Hstep.out, Hins.out]
        have := HNew.out
        simpa using this
       case measure => simp [intOf]; omega
      ·skip
       obtain ⟨ub, gx, e3, e4, hz1, hkx, hx⟩ := KR.single x ua
       refine wp_op _ _ (exec_bs 54 1 #[(0, .tmp 54)] #[(0, kv x)] _ rfl (by simp only [List.map_toArray, List.map_cons, List.map_nil]; rfl) (build1_k x _)) ?_
       rw [e3, e4]
       clear e3
       go_simp
       have hS0 := hS0.trans0 hkx
       refine hK _ _ hS0 ?_
       clear hK K
       refine heldT_one 4 (by kernel_rfl) (by decide) (by rfl) (by rfl) (fun K hK => ?_)
       obtain ⟨v4, u4, hr4, ho4, hn4, hK4⟩ := KR.app (ty := 54) (ho.later hkx) (by simp [Value.ownBlock]) (HR1.out _ hS0) (by rw [List.length_take]; simp; omega)
       refine wp_op _ _ (exec_app (.tmp 46) (.tmp 49) 54 _ _ _ rfl rfl rfl hr4) ?_
       go_simp
       clear hr4
       have hS0 := HSc.out.trans0 ho4.keep
       refine hK _ _ hS0 ?_
       clear hK K
       refine heldT_one 10 (by kernel_rfl) (by decide) (by rfl) (by rfl) (fun K hK => ?_)
       obtain ⟨v10, u10, hr10, ho10, hn10, _⟩ := KR.app (ty := 54) (ho4) hn4 (hx.keepF (hK4 [g0] (fun g hg => by simp [Value.ownBlock] at hg; simp [hg])) (by simp; omega)) (by rw [List.nil_append, List.length_take]; simp; omega)
       refine wp_op _ _ (exec_app (.tmp 50) (.tmp 55) 54 _ _ _ rfl rfl rfl hr10) ?_
       go_simp
       clear hr10
       have hS0 := HSc.out.trans0 ho10.keep
       refine hK _ _ hS0 ?_
       clear hK K
       refine heldT_one 14 (by kernel_rfl) (by decide) (by rfl) (by rfl) (fun K hK => ?_)
       obtain ⟨v14, u14, hr14, ho14, _, _⟩ := KR.app (ty := 54) ho10 hn10 (HR2.out _ hS0) (by rw [List.length_append, List.nil_append, List.length_take, List.length_drop]; simp; omega)
       refine wp_op _ _ (exec_app (.tmp 56) (.tmp 59) 54 _ _ _ rfl rfl rfl hr14) ?_
       go_simp
       clear hr14
       have hS0 := HSc.out.trans0 ho14.keep
       refine hK _ _ hS0 ?_
       clear hK K
       refine ⟨by kernel_rfl, ?_⟩
       simp only [List.drop_succ_cons, List.drop_zero]
       have HNew := Lib.hid ho14.read
       have HKn := Lib.hid (HKV.out.trans0 hS0)
       clear ho14 ho10 hS0
       go_wp2_with fail
       go_roundw
       case rel =>
        refine ⟨i + 1, by omega, congrArg (Value.int .i64) (by omega), ?_, HKr.out.trans0 HKn.out⟩
        rw [Hstep.out, Hins.out]
        have := HNew.out
        simpa using this
       case measure => simp [intOf]; omega
     ·skip
      obtain ⟨ub, gx, e3, e4, hz1, hkx, hx⟩ := KR.single x u
      refine wp_op _ _ (exec_bs 54 1 #[(0, .tmp 54)] #[(0, kv x)] _ rfl (by simp only [List.map_toArray, List.map_cons, List.map_nil]; rfl) (build1_k x _)) ?_
      rw [e3, e4]
      clear e3
      go_simp
      have hS0 := hS0.trans0 hkx
      refine hK _ _ hS0 ?_
      clear hK K
      refine heldT_one 0 (by kernel_rfl) (by decide) (by rfl) (by rfl) (fun K hK => ?_)
      obtain ⟨ua, g0, e1, e2, hz0, ho⟩ := OK_.start ub
      refine wp_op _ _ (exec_bs 54 0 #[] #[] _ rfl (by simp) (build0_k _)) ?_
      rw [e1, e2]
      clear e1
      go_simp
      have HSc := Lib.hid hS0
      have hS0 := hS0.trans0 ho.keep
      refine hK _ _ hS0 ?_
      clear hK K
      refine heldT_one 4 (by kernel_rfl) (by decide) (by rfl) (by rfl) (fun K hK => ?_)
      obtain ⟨v4, u4, hr4, ho4, hn4, hK4⟩ := KR.app (ty := 54) (ho) (by simp [Value.ownBlock]) (HR1.out _ hS0) (by rw [List.length_take]; simp; omega)
      refine wp_op _ _ (exec_app (.tmp 46) (.tmp 49) 54 _ _ _ rfl rfl rfl hr4) ?_
      go_simp
      clear hr4
      have hS0 := HSc.out.trans0 ho4.keep
      refine hK _ _ hS0 ?_
      clear hK K
      refine heldT_one 10 (by kernel_rfl) (by decide) (by rfl) (by rfl) (fun K hK => ?_)
      obtain ⟨v10, u10, hr10, ho10, hn10, _⟩ := KR.app (ty := 54) (ho4) hn4 ((hx.later ho.keep).keepF (hK4 [g0] (fun g hg => by simp [Value.ownBlock] at hg; simp [hg])) (by simp; omega)) (by rw [List.nil_append, List.length_take]; simp; omega)
      refine wp_op _ _ (exec_app (.tmp 50) (.tmp 55) 54 _ _ _ rfl rfl rfl hr10) ?_
      go_simp
      clear hr10
      have hS0 := HSc.out.trans0 ho10.keep
      refine hK _ _ hS0 ?_
      clear hK K
      refine heldT_one 14 (by kernel_rfl) (by decide) (by rfl) (by rfl) (fun K hK => ?_)
      obtain ⟨v14, u14, hr14, ho14, _, _⟩ := KR.app (ty := 54) ho10 hn10 (HR2.out _ hS0) (by rw [List.length_append, List.nil_append, List.length_take, List.length_drop]; simp; omega)
      refine wp_op _ _ (exec_app (.tmp 56) (.tmp 59) 54 _ _ _ rfl rfl rfl hr14) ?_
      go_simp
      clear hr14
      have hS0 := HSc.out.trans0 ho14.keep
      refine hK _ _ hS0 ?_
      clear hK K
      refine ⟨by kernel_rfl, ?_⟩
      simp only [List.drop_succ_cons, List.drop_zero]
      have HNew := Lib.hid ho14.read
      have HKn := Lib.hid (HKV.out.trans0 hS0)
      clear ho14 ho10 hS0
      go_wp2_with fail
      go_roundw
      case rel =>
       refine ⟨i + 1, by omega, congrArg (Value.int .i64) (by omega), ?_, HKr.out.trans0 HKn.out⟩
       rw [Hstep.out, Hins.out]
       have := HNew.out
       simpa using this
      case measure => simp [intOf]; omega
  ·obtain rfl : i = l.length := by omega
   have hfin : KR wo (.slice oo (sortS (l.take l.length)).length oc) (sortS l) := by
    have h := HO.out
    simp only [List.take_length] at h ⊢
    exact h
   go_wp2_with fail
   go_ret
   exact ⟨_, rfl, hfin, HKr.out⟩
end Go.Proofs.YteknldaoegccaaaGreatDoor
