import Derived.Test.YtgmggmpkbfljfaaGa
import Derived.Laws.BitsLemmas
import Derived.Laws.ResultCell
/- take. -/
set_option linter.unusedVariables false
set_option linter.unusedSimpArgs false
set_option maxRecDepth 100000
namespace Go.Proofs.Ytgmggmpkbfljfaa
open Go.RowKit
/-- The byte of a string at a place, 0 behind its end. -/
def byteAt (s : ByteArray) (i : Nat) : Nat := ((s.data[i]?).map (·.toNat)).getD 0
/-- The number in k bytes from a place on. -/
def takeN (s : ByteArray) (i : Nat) : Nat → Nat
  | 0 => 0
  | k + 1 => byteAt s i + 256 * takeN s (i + 1) k
theorem byteAt_le (s : ByteArray) (i : Nat) : byteAt s i ≤ 255 := by
  unfold byteAt
  cases s.data[i]? with
  | none => simp
  | some b => have := UInt8.toNat_lt b; simp; omega
theorem byteAt_out (s : ByteArray) (i : Nat) (h : s.size ≤ i) : byteAt s i = 0 := by
  unfold byteAt
  rw [Array.getElem?_eq_none (by exact h)]; rfl
theorem takeN_out (s : ByteArray) : ∀ (k i : Nat), s.size ≤ i → takeN s i k = 0
  | 0, _, _ => rfl
  | k + 1, i, h => by rw [takeN, byteAt_out s i h, takeN_out s k (i + 1) (by omega)]
theorem takeN_mono (s : ByteArray) (i k : Nat) : ∀ j, j ≤ k → takeN s (i + j) (k - j) ≤ takeN s i k
  | 0, _ => by simp
  | j + 1, h => by
    have h1 := takeN_mono s i k j (by omega)
    obtain ⟨m, hm⟩ : ∃ m, k - j = m + 1 := ⟨k - j - 1, by omega⟩
    rw [hm, takeN] at h1
    rw [show k - (j + 1) = m by omega, show i + (j + 1) = i + j + 1 by omega]
    omega
theorem or_sum (t b : Nat) (ht : t ≤ 36028797018963967) (hb : b ≤ 255) : bits BinOp.or IntKind.i64 ((t : Int) * 256) (b : Int) = ((b + 256 * t : Nat) : Int) := by
  rw [bits_join .i64 63 (by decide) (fun n h0 h1 => by rw [IntKind.wrap_i64]; omega) 8 _ _ (by omega) (by omega) (by omega) (by omega) (by omega) (by omega)]
  omega
theorem byteAt_in (s : ByteArray) (i : Nat) (h : i < s.size) : (s[i]).toNat = byteAt s i := by
  unfold byteAt
  rw [Array.getElem?_eq_getElem (by exact h)]; rfl
set_option maxHeartbeats 2000000 in
theorem take_c (s : ByteArray) (i k : Nat) (hi : i ≤ 140737488300000) (hs : s.size ≤ 140737488355328) (hk : k ≤ 8) (hb : takeN s i k ≤ 140737488355328) (w : World) :
    Calls Try.prog 70 #[.string s, .int .i64 i, .int .i64 k] w fun e w' => e = .returned (.int .i64 (takeN s i k)) ∧ w' = w := by
  have Hb := Lib.hid hb
  clear hb
  go_enter Try.func70, Try.ntmps70
  go_wp2_with fail
  go_loopw [7, 8] (fun n x wr => ∃ j : Nat, j ≤ k ∧ x = .int .i64 ((j : Int) - 1) ∧ n = .int .i64 (takeN s (i + j) (k - j)) ∧ wr = w) (fun _ i _ => (intOf i + 1).toNat)
  case atStart => exact ⟨k, by omega, rfl, by rw [Nat.sub_self]; rfl, rfl⟩
  case round =>
    obtain ⟨j, hj, rfl, rfl, rfl⟩ := hrel
    match j, hj with
    | 0, _ =>
      have e0 : (((0 : Nat) : Int) - 1) = -1 := rfl
      rw [e0, Nat.add_zero, Nat.sub_zero]
      go_wp2_with fail
      go_ret
      exact ⟨rfl, rfl⟩
    | m + 1, hj =>
      have e0 : (((m + 1 : Nat) : Int) - 1) = (m : Int) := by omega
      rw [e0]
      have hm := Nat.le_trans (takeN_mono s i k m (by omega)) Hb.out
      have hstep : Hid (takeN s (i + m) (k - m) = byteAt s (i + m) + 256 * takeN s (i + (m + 1)) (k - (m + 1))) := by
        show _ = _
        rw [show k - m = (k - (m + 1)) + 1 by omega, takeN]; rfl
      rw [hstep.out] at hm
      have hby := byteAt_le s (i + m)
      by_cases hlt : i + m < s.size
      · generalize takeN s (i + (m + 1)) (k - (m + 1)) = t at *
        have hbe := byteAt_in s (i + m) hlt
        generalize byteAt s (i + m) = b at *
        have hor := or_sum t b (by omega) hby
        go_wp2_with fail
        go_roundw
        case rel => exact ⟨m, by omega, by go_num, by rw [hstep.out]; congr 1, trivial⟩
        case measure => simp [intOf] <;> omega
      · have hz := takeN_out s (k - (m + 1)) (i + (m + 1)) (by omega)
        have hz2 := byteAt_out s (i + m) (by omega)
        rw [hz, hz2] at hstep
        rw [hz]
        have hlt' : s.size ≤ i + m := by omega
        clear hlt hm
        go_wp2_with fail
        go_roundw
        case rel => exact ⟨m, by omega, by go_num, by rw [hstep.out], trivial⟩
        case measure => simp [intOf] <;> omega
end Go.Proofs.Ytgmggmpkbfljfaa

/- newest and check. -/
set_option linter.unusedVariables false
set_option linter.unusedSimpArgs false
set_option maxRecDepth 100000
namespace Go.Proofs.Ytgmggmpkbfljfaa
open Go.RowKit
structure Pg where
  g : Nat
  f : Nat
  p : Nat
  k : Nat
def pgA (p : Pg) : Array Value := #[.int .i64 p.g, .int .i64 p.f, .int .i64 p.p, .int .i64 p.k]
def isPg (s : ByteArray) : Bool := Lib.hasPrefix s.data.toList magicS.data.toList
def pgAt (s : ByteArray) : Pg := ⟨takeN s 4 8, takeN s 12 8, takeN s 20 8, takeN s 28 4⟩
def pgOf (s : ByteArray) : Option Pg := if isPg s then some (pgAt s) else none
def pgStep (o : Option Pg) (d : ByteArray) : Option Pg :=
  match pgOf d with
  | none => o
  | some p => match o with
    | none => some p
    | some q => if q.g < p.g then some p else some q
def pgFit (p : Pg) : Prop := p.g ≤ 140737488355328 ∧ p.f ≤ 140737488355328 ∧ p.p ≤ 140737488355328 ∧ p.k ≤ 140737488355328
def pgIn (o : Option Pg) (p : Pg) : Option Pg :=
  match o with
  | none => some p
  | some q => if q.g < p.g then some p else some q
theorem pgStep_no (o : Option Pg) (d : ByteArray) (h : isPg d = false) : pgStep o d = o := by unfold pgStep pgOf; rw [h]; rfl
theorem pgStep_yes (o : Option Pg) (d : ByteArray) (h : isPg d = true) : pgStep o d = pgIn o (pgAt d) := by unfold pgStep pgOf; rw [h]; rfl
/-- The newest of the pages of the first sectors. -/
def pgTo (v : Vol) : Nat → Option Pg
  | 0 => none
  | k + 1 => pgStep (pgTo v k) (vRead v k).1
def pg0 : Pg := ⟨0, 0, 0, 0⟩
theorem heap_old {w : World} {B : Nat} {o x : Obj} (h : w.heap[B]? = some x) : (w.alloc o).heap[B]? = some x := (Keep.alloc [] w o).heap h (by simp)
theorem box4 {w : World} {B : Nat} {x0 x1 x2 x3 : Value} {t : TypeId} (h : w.heap[B]? = some (.cells #[x0, x1, x2, x3] t (0, 0))) (a b c d : Value) (o : Obj) :
    (((((w.setCell ⟨B, 0, none⟩ a).setCell ⟨B, 1, none⟩ b).setCell ⟨B, 2, none⟩ c).setCell ⟨B, 3, none⟩ d).alloc o).heap[B]? = some (.cells #[a, b, c, d] t (0, 0)) := by
  have h1 := set_same h 0 a
  have h2 := set_same h1 1 b
  have h3 := set_same h2 2 c
  have h4 := set_same h3 3 d
  exact heap_old h4
theorem keep4 {w w' : World} {B : Nat} (h : Keep [] w w') (hB : w.heap.size ≤ B) (a b c d : Value) (o : Obj) :
    Keep [] w (((((w'.setCell ⟨B, 0, none⟩ a).setCell ⟨B, 1, none⟩ b).setCell ⟨B, 2, none⟩ c).setCell ⟨B, 3, none⟩ d).alloc o) :=
  ((((h.setPast B 0 a hB).setPast B 1 b hB).setPast B 2 c hB).setPast B 3 d hB).allocPast o
set_option maxHeartbeats 4000000 in
theorem newest_c (w : World) (b mb : Nat) (pv : Value) (v : Vol) (h : VolAt w b mb pv v) (hlen : v.pend.length ≤ 4096) (hd : v.down = false) (hs : 2 ≤ v.sectors)
    (hf : ∀ k : Nat, k < 2 → (vRead v k).1.size ≤ 1000 ∧ (isPg (vRead v k).1 = true → pgFit (pgAt (vRead v k).1))) :
    Calls Try.prog 52 #[.pointer (some ⟨b, 0, none⟩)] w fun e w' => e = .returned (.tuple #[.agg (pgA ((pgTo v 2).getD pg0)), .bool (pgTo v 2).isSome]) ∧ Keep [] w w' := by
  have HR : Hid (∀ wr, Keep [] w wr → ∀ k : Nat, k < 2 → Calls Try.prog 53 #[.pointer (some ⟨b, 0, none⟩), .int .i64 k] wr fun e w' => e = .returned (.tuple #[.string (vRead v k).1, .int .i64 0]) ∧ Keep [] wr w') := by
    intro wr hk k hk2
    have h2 : (vRead v k).2 = 0 := by unfold vRead; rw [hd, if_neg (by decide), if_neg (by omega)]
    have := read_c wr b mb pv v k (h.keep hk (by simp) (by simp) (by simp)) hlen
    rw [h2] at this
    exact this
  have HF := Lib.hid hf
  have H2 : Hid (pgTo v 2 = pgTo v 2) := rfl
  clear h hf
  go_enter Try.func52, Try.ntmps52
  go_wp2_with fail
  go_loopw [3, 8] (fun ok i wr => ∃ k : Nat, k ≤ 2 ∧ i = .int .i64 k ∧ ok = .bool (pgTo v k).isSome ∧ wr.heap[w.heap.size]? = some (.cells (pgA ((pgTo v k).getD pg0)) 73 (0, 0)) ∧ Keep [] w wr) (fun _ i _ => 2 - (intOf i).toNat)
  case atStart => exact ⟨0, by omega, rfl, rfl, World.alloc_heap_new w _, Keep.alloc _ _ _⟩
  case round =>
    obtain ⟨k, hk, rfl, rfl, hbx, hkr⟩ := hrel
    have Hkr := Lib.hid hkr
    have Hbx := Lib.hid hbx
    have hwl := lt_of_heap hbx
    clear hkr hbx
    by_cases hlt : k < 2
    · have hsz := (HF.out k hlt).1
      have Hfit := Lib.hid (HF.out k hlt).2
      have Hst : Hid (pgTo v (k + 1) = pgStep (pgTo v k) (vRead v k).1) := rfl
      have Hrd := Lib.hid (HR.out wr Hkr.out k hlt)
      have HP : Hid (∀ wr, Calls Try.prog 69 #[.string (vRead v k).1, .string ⟨#[86, 71, 74, 49]⟩] wr fun e w' => e = .returned (.bool (isPg (vRead v k).1)) ∧ w' = wr) := fun wr => Try.strings_HasPrefix _ _ wr
      generalize (vRead v k).1 = d at *
      generalize pgTo v k = o at *
      cases hp : isPg d
      · have hst := pgStep_no o d hp
        rw [hst] at Hst
        rw [hp] at HP
        clear hp hst
        go_wp2_with fail
        refine (Hrd.out).mono ?_
        rintro e w1 ⟨rfl, hk1⟩
        have Hk1 := Lib.hid hk1
        clear hk1
        go_wp2_with (go_at_call 69; refine (HP.out _).mono ?_; rintro e w' ⟨rfl, rfl⟩)
        go_roundw
        case rel => exact ⟨k + 1, by omega, by go_num, by rw [Hst.out], by rw [Hst.out]; exact Hk1.out.heap Hbx.out (by simp), Hkr.out.trans0 Hk1.out⟩
        case measure => simp [intOf]; omega
      · have hst := pgStep_yes o d hp
        have hft := Hfit.out hp
        have HT1 : Hid (∀ wr, Calls Try.prog 70 #[.string d, .int .i64 4, .int .i64 8] wr fun e w' => e = .returned (.int .i64 (pgAt d).g) ∧ w' = wr) := take_c d 4 8 (by omega) (by omega) (by omega) hft.1
        have HT2 : Hid (∀ wr, Calls Try.prog 70 #[.string d, .int .i64 12, .int .i64 8] wr fun e w' => e = .returned (.int .i64 (pgAt d).f) ∧ w' = wr) := take_c d 12 8 (by omega) (by omega) (by omega) hft.2.1
        have HT3 : Hid (∀ wr, Calls Try.prog 70 #[.string d, .int .i64 20, .int .i64 8] wr fun e w' => e = .returned (.int .i64 (pgAt d).p) ∧ w' = wr) := take_c d 20 8 (by omega) (by omega) (by omega) hft.2.2.1
        have HT4 : Hid (∀ wr, Calls Try.prog 70 #[.string d, .int .i64 28, .int .i64 4] wr fun e w' => e = .returned (.int .i64 (pgAt d).k) ∧ w' = wr) := take_c d 28 4 (by omega) (by omega) (by omega) hft.2.2.2
        rw [hst] at Hst
        rw [hp] at HP
        clear hp hst hft Hfit
        generalize pgAt d = pa at *
        obtain ⟨pg, pf, pp, pk⟩ := pa
        dsimp only at Hst HT1 HT2 HT3 HT4
        go_wp2_with fail
        refine (Hrd.out).mono ?_
        rintro e w1 ⟨rfl, hk1⟩
        have Hk1 := Lib.hid hk1
        have Hbx1 := Lib.hid (hk1.heap Hbx.out (by simp))
        have hwl1 : w.heap.size < w1.heap.size := Nat.lt_of_lt_of_le hwl hk1.size
        clear hk1
        cases o with
        | none =>
          have hbc := cell_of Hbx1.out
          have hbf := frozen_of Hbx1.out
          simp only [pgA, Option.getD_none, pg0] at hbc
          go_wp2_with fail
          refine (HP.out _).mono ?_; rintro e w' ⟨rfl, rfl⟩
          go_wp2_with fail
          refine (HT1.out _).mono ?_; rintro e w' ⟨rfl, rfl⟩
          go_wp2_with fail
          refine (HT2.out _).mono ?_; rintro e w' ⟨rfl, rfl⟩
          go_wp2_with fail
          refine (HT3.out _).mono ?_; rintro e w' ⟨rfl, rfl⟩
          go_wp2_with fail
          refine (HT4.out _).mono ?_; rintro e w' ⟨rfl, rfl⟩
          go_wp2_with fail
          go_roundw
          case rel => exact ⟨k + 1, by omega, by go_num, by rw [Hst.out]; rfl, by rw [Hst.out]; exact box4 Hbx1.out _ _ _ _ _, keep4 (Hkr.out.trans0 Hk1.out) (Nat.le_refl _) _ _ _ _ _⟩
          case measure => simp [intOf]; omega
        | some q =>
          obtain ⟨qg, qf, qp, qk⟩ := q
          have hbc := cell_of Hbx1.out
          have hbf := frozen_of Hbx1.out
          simp only [pgA, Option.getD_some] at hbc
          by_cases hgt : qg < pg
          · have hst : pgIn (some ⟨qg, qf, qp, qk⟩) ⟨pg, pf, pp, pk⟩ = some ⟨pg, pf, pp, pk⟩ := if_pos hgt
            rw [hst] at Hst
            clear hst
            go_wp2_with fail
            refine (HP.out _).mono ?_; rintro e w' ⟨rfl, rfl⟩
            go_wp2_with fail
            refine (HT1.out _).mono ?_; rintro e w' ⟨rfl, rfl⟩
            go_wp2_with fail
            refine (HT2.out _).mono ?_; rintro e w' ⟨rfl, rfl⟩
            go_wp2_with fail
            refine (HT3.out _).mono ?_; rintro e w' ⟨rfl, rfl⟩
            go_wp2_with fail
            refine (HT4.out _).mono ?_; rintro e w' ⟨rfl, rfl⟩
            go_wp2_with fail
            go_roundw
            case rel => exact ⟨k + 1, by omega, by go_num, by rw [Hst.out]; rfl, by rw [Hst.out]; exact box4 Hbx1.out _ _ _ _ _, keep4 (Hkr.out.trans0 Hk1.out) (Nat.le_refl _) _ _ _ _ _⟩
            case measure => simp [intOf]; omega
          · have hst : pgIn (some ⟨qg, qf, qp, qk⟩) ⟨pg, pf, pp, pk⟩ = some ⟨qg, qf, qp, qk⟩ := if_neg hgt
            rw [hst] at Hst
            have hle : pg ≤ qg := by omega
            clear hst hgt
            go_wp2_with fail
            refine (HP.out _).mono ?_; rintro e w' ⟨rfl, rfl⟩
            go_wp2_with fail
            refine (HT1.out _).mono ?_; rintro e w' ⟨rfl, rfl⟩
            go_wp2_with fail
            refine (HT2.out _).mono ?_; rintro e w' ⟨rfl, rfl⟩
            go_wp2_with fail
            refine (HT3.out _).mono ?_; rintro e w' ⟨rfl, rfl⟩
            go_wp2_with fail
            refine (HT4.out _).mono ?_; rintro e w' ⟨rfl, rfl⟩
            go_wp2_with fail
            go_roundw
            case rel => exact ⟨k + 1, by omega, by go_num, by rw [Hst.out]; rfl, by rw [Hst.out]; exact heap_old Hbx1.out, (Hkr.out.trans0 Hk1.out).allocPast _⟩
            case measure => simp [intOf]; omega
    · obtain rfl : k = 2 := by omega
      have Hkr := Hkr
      have hbc := cell_of Hbx.out
      have hbf := frozen_of Hbx.out
      have Hfin : Hid (∀ a b c d : Value, Keep [] w ((((wr.setCell ⟨w.heap.size, 0, none⟩ a).setCell ⟨w.heap.size, 1, none⟩ b).setCell ⟨w.heap.size, 2, none⟩ c).setCell ⟨w.heap.size, 3, none⟩ d)) := fun a b c d =>
        (((Hkr.out.setPast _ 0 a (Nat.le_refl _)).setPast _ 1 b (Nat.le_refl _)).setPast _ 2 c (Nat.le_refl _)).setPast _ 3 d (Nat.le_refl _)
      obtain ⟨x0, x1, x2, x3, hx⟩ : ∃ x0 x1 x2 x3 : Nat, ((pgTo v 2).getD pg0) = ⟨x0, x1, x2, x3⟩ := ⟨_, _, _, _, rfl⟩
      rw [hx] at hbc
      simp only [pgA] at hbc
      have Hx := Lib.hid hx
      clear Hbx hx
      obtain ⟨bb, hbb⟩ : ∃ bb, (pgTo v 2).isSome = bb := ⟨_, rfl⟩
      rw [hbb]
      have Hbb := Lib.hid hbb
      clear hbb
      go_wp2_with fail
      (try simp only [Exit.inBlock, Exit.then])
      refine bodyPost_ret (v := .tuple #[.agg #[.int .i64 x0, .int .i64 x1, .int .i64 x2, .int .i64 x3], .bool bb]) ?_ rfl ⟨?_, Hfin.out _ _ _ _⟩
      · rw [results_cell_tmp rfl]
        go_simp
      · rw [Hx.out, Hbb.out]; rfl
end Go.Proofs.Ytgmggmpkbfljfaa

/- Numbers taken from bytes, and what is read of a page and of a group. -/
set_option linter.unusedVariables false
set_option linter.unusedSimpArgs false
set_option maxRecDepth 100000
namespace Go.Proofs.Ytgmggmpkbfljfaa
open Go.RowKit
theorem byteAt_left (a b : ByteArray) (i : Nat) (h : i < a.size) : byteAt (a ++ b) i = byteAt a i := by
  unfold byteAt
  rw [ByteArray.data_append, Array.getElem?_append_left (by exact h)]
theorem byteAt_right (a b : ByteArray) (i : Nat) : byteAt (a ++ b) (a.size + i) = byteAt b i := by
  unfold byteAt
  rw [ByteArray.data_append, Array.getElem?_append_right (by show a.size ≤ _; omega)]
  congr 2
  show b.data[a.size + i - a.size]? = _
  rw [Nat.add_sub_cancel_left]
theorem byteAt_one (c : Nat) (h : c < 256) : byteAt (oneS (c : Int)) 0 = c := by
  show (((UInt8.ofNat (c : Int).toNat)).toNat : Nat) = c
  rw [Int.toNat_natCast, UInt8.toNat_ofNat', Nat.mod_eq_of_lt h]
theorem byteAt_num (n : Nat) : ∀ (k t : Nat), t < k → byteAt (numS n k) t = n / 256 ^ t % 256
  | 0, t, h => by omega
  | k + 1, t, h => by
    rw [numS]
    by_cases ht : t < k
    · rw [byteAt_left _ _ _ (by rw [numS_size]; exact ht), byteAt_num n k t ht]
    · obtain rfl : t = k := by omega
      have := byteAt_right (numS n t) (oneS (((n / 256 ^ t : Nat) : Int) % 256)) 0
      rw [numS_size, Nat.add_zero] at this
      rw [this]
      have e : (((n / 256 ^ t : Nat) : Int) % 256) = ((n / 256 ^ t % 256 : Nat) : Int) := by omega
      rw [e, byteAt_one _ (Nat.mod_lt _ (by decide))]
theorem takeN_of (s : ByteArray) : ∀ (k i n : Nat), (∀ t, t < k → byteAt s (i + t) = n / 256 ^ t % 256) → takeN s i k = n % 256 ^ k
  | 0, i, n, _ => by rw [Nat.pow_zero, Nat.mod_one]; rfl
  | k + 1, i, n, h => by
    rw [takeN, takeN_of s k (i + 1) (n / 256) (fun t ht => by
      have := h (t + 1) (by omega)
      rw [Nat.add_assoc, Nat.add_comm 1 t, this, Nat.pow_succ, Nat.mul_comm, Nat.div_div_eq_div_mul])]
    have h0 := h 0 (by omega)
    rw [Nat.add_zero, Nat.pow_zero, Nat.div_one] at h0
    rw [h0, Nat.pow_succ, Nat.mul_comm (256 ^ k) 256, Nat.mod_mul]
/-- The number that stands behind a. -/
theorem takeN_at (a b : ByteArray) (n k : Nat) (h : n < 256 ^ k) : takeN (a ++ (numS n k ++ b)) a.size k = n := by
  rw [takeN_of _ k a.size n (fun t ht => by
    rw [byteAt_right, byteAt_left _ _ _ (by rw [numS_size]; exact ht), byteAt_num n k t ht]), Nat.mod_eq_of_lt h]
theorem pgAt_pageS (g f p k : Nat) (hg : g < 256 ^ 8) (hf : f < 256 ^ 8) (hp : p < 256 ^ 8) (hk : k < 256 ^ 4) : pgAt (pageS g f p k) = ⟨g, f, p, k⟩ := by
  have hm : magicS.size = 4 := rfl
  have e1 : pageS g f p k = magicS ++ (numS g 8 ++ (numS f 8 ++ numS p 8 ++ numS k 4 ++ zerosS (padN (magicS ++ numS g 8 ++ numS f 8 ++ numS p 8 ++ numS k 4).size))) := by
    unfold pageS padS; simp only [ByteArray.append_assoc]
  have e2 : pageS g f p k = (magicS ++ numS g 8) ++ (numS f 8 ++ (numS p 8 ++ numS k 4 ++ zerosS (padN (magicS ++ numS g 8 ++ numS f 8 ++ numS p 8 ++ numS k 4).size))) := by
    unfold pageS padS; simp only [ByteArray.append_assoc]
  have e3 : pageS g f p k = (magicS ++ numS g 8 ++ numS f 8) ++ (numS p 8 ++ (numS k 4 ++ zerosS (padN (magicS ++ numS g 8 ++ numS f 8 ++ numS p 8 ++ numS k 4).size))) := by
    unfold pageS padS; simp only [ByteArray.append_assoc]
  have e4 : pageS g f p k = (magicS ++ numS g 8 ++ numS f 8 ++ numS p 8) ++ (numS k 4 ++ zerosS (padN (magicS ++ numS g 8 ++ numS f 8 ++ numS p 8 ++ numS k 4).size)) := by
    unfold pageS padS; simp only [ByteArray.append_assoc]
  have h1 := takeN_at magicS (numS f 8 ++ numS p 8 ++ numS k 4 ++ zerosS (padN (magicS ++ numS g 8 ++ numS f 8 ++ numS p 8 ++ numS k 4).size)) g 8 hg
  rw [← e1, hm] at h1
  have h2 := takeN_at (magicS ++ numS g 8) (numS p 8 ++ numS k 4 ++ zerosS (padN (magicS ++ numS g 8 ++ numS f 8 ++ numS p 8 ++ numS k 4).size)) f 8 hf
  rw [← e2, show (magicS ++ numS g 8).size = 12 by rw [ByteArray.size_append, numS_size, hm]] at h2
  have h3 := takeN_at (magicS ++ numS g 8 ++ numS f 8) (numS k 4 ++ zerosS (padN (magicS ++ numS g 8 ++ numS f 8 ++ numS p 8 ++ numS k 4).size)) p 8 hp
  rw [← e3, show (magicS ++ numS g 8 ++ numS f 8).size = 20 by rw [ByteArray.size_append, ByteArray.size_append, numS_size, numS_size, hm]] at h3
  have h4 := takeN_at (magicS ++ numS g 8 ++ numS f 8 ++ numS p 8) (zerosS (padN (magicS ++ numS g 8 ++ numS f 8 ++ numS p 8 ++ numS k 4).size)) k 4 hk
  rw [← e4, show (magicS ++ numS g 8 ++ numS f 8 ++ numS p 8).size = 28 by rw [ByteArray.size_append, ByteArray.size_append, ByteArray.size_append, numS_size, numS_size, numS_size, hm]] at h4
  unfold pgAt
  rw [h1, h2, h3, h4]
theorem isPg_app (b : ByteArray) : isPg (magicS ++ b) = true := by
  unfold isPg
  rw [ByteArray.data_append, Array.toList_append]
  have : ∀ l m : List UInt8, Lib.hasPrefix (l ++ m) l = true := by
    intro l m
    induction l with
    | nil => cases m <;> rfl
    | cons x l ih => simp [Lib.hasPrefix] at *
  exact this _ _
theorem isPg_pageS (g f p k : Nat) : isPg (pageS g f p k) = true := by
  unfold pageS padS
  simp only [ByteArray.append_assoc]
  exact isPg_app _
theorem isPg_zeros : isPg (fillS 0) = false := by decide +kernel
end Go.Proofs.Ytgmggmpkbfljfaa
