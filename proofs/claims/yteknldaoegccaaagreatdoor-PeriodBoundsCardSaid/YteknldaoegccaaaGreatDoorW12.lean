/- Parts of a proof about this translation: Rp, Rr, Rs, Rq. -/
import Derived.Laws.AppendOwnNone
import Derived.Test.YteknldaoegccaaaGreatDoorW11
import Derived.Test.YteknldaoegccaaaGreatDoorW05
import Derived.Test.YteknldaoegccaaaGreatDoorW06
import Derived.Test.YteknldaoegccaaaGreatDoorW10
set_option linter.unusedVariables false
set_option linter.unusedSimpArgs false
set_option maxRecDepth 100000
namespace Go.Proofs.YteknldaoegccaaaGreatDoor
open Go.RowKit
set_option maxHeartbeats 4000000 in
theorem large_c (w : World) (N : Nat) (hN : N ≤ 9223372036854775807) :
  Calls Tryz.prog 158 #[.int .i64 (N : Int)] w (Digits w N) := by
 obtain ⟨i0, hi, hz0, hz1, hz2⟩ := info_parts2 infoInt
 have Hi := Lib.hid (And.intro hi (And.intro hz0 (And.intro hz1 hz2)))
 clear hi hz0 hz1 hz2
 go_enter Tryz.func158, Tryz.ntmps158
 go_wp2_with fail
 go_loopw [0, 3] (fun x b wr => ∃ k : Nat, k ≤ N ∧ x = .int .i64 (k : Int) ∧ ∃ l, l ++ digs 256 k = digs 256 N ∧ l.length ≤ 1000000000 ∧ OI w wr b l) (fun x _ _ => (intOf x).toNat)
 case atStart => exact ⟨N, Nat.le_refl _, rfl, [], rfl, by simp, OI.nil _⟩
 case round =>
  obtain ⟨k, hk, rfl, l, hl, hl9, hoi⟩ := hrel
  have Hrow := Lib.hid hoi
  obtain ⟨po, pc, rfl⟩ := hoi.form
  have Hl := Lib.hid hl
  clear hl hoi
  by_cases hk0 : k = 0
  ·subst hk0
   have hfin : l = digs 256 N := by have := Hl.out; rwa [digs_zero, List.append_nil] at this
   have HR : Hid (DR wr (.slice po l.length pc) N) := by
    refine ⟨?_, Hrow.out.cap⟩
    rw [← hfin]; exact Hrow.out.read
   clear hfin
   go_wp2_with fail
   go_ret
   exact ⟨_, rfl, HR.out, Hrow.out.keep⟩
  ·have hkp : 0 < k := by omega
   have hpos := digs_pos (B := 256) (by decide) hkp
   have hl2 : l.length < 1000000000 := by
    have h1 : l.length ≤ Ln N := by
     have h2 : (l ++ digs 256 k).length = (digs 256 N).length := congrArg List.length Hl.out
     rw [List.length_append] at h2
     show _ ≤ (digs 256 N).length
     omega
    have h3 : Ln N ≤ 8 := Ln_le.2 (by omega)
    omega
   have Hpos := Lib.hid hpos
   obtain ⟨d, hd⟩ : ∃ d, k % 256 = d := ⟨_, rfl⟩
   rw [hd] at Hpos
   have hd2 : (k : Int) % 256 = (d : Int) := by omega
   have hd9 : d ≤ 255 := by omega
   clear hpos hd hl9
   go_wp2_with (at_builtin; refine wpList_append2 _ rfl _ _ 114 rfl 3 i0 _ 1 8 Tryz.underlying114 Hi.out.1 Hi.out.2.1 Hi.out.2.2.1 Hi.out.2.2.2 rfl (by decide) _ _ _ rfl (own_keep' Hrow.out.row (Keep.alloc [] _ _) (by simp)) ⟨wr.heap.size, 0, none⟩ 1 1 [.int .i64 (d)] rfl rfl (one_news _ _ _) ?c2 (by decide) ?c3 ?c4 ?_)
   case c2 => first | (intro u hu; simp at hu; subst hu; rfl) | rfl
   case c3 => unfold maxLen; omega
   case c4 => omega
   intro g cap wa hoa hga hfa hda
   have Hn := Lib.hid (Hrow.out.step (d := d) hoa hga hfa hda)
   clear hoa hga hfa hda
   go_wp2_with fail
   go_roundw
   case rel => exact ⟨k / 256, by omega, congrArg (Value.int .i64) (by omega), l ++ [d], by rw [List.append_assoc, List.singleton_append, ← Hpos.out]; exact Hl.out, by rw [List.length_append]; simp; omega, Hn.out⟩
   case measure => simp [intOf]; omega
set_option maxHeartbeats 2000000 in
theorem small_no (w : World) (v : Value) (N : Nat) (h : DR w v N) (h7 : 7 < Ln N) (h9 : Ln N ≤ 1000000000) :
  Calls Tryz.prog 157 #[v] w fun e w' => e = .returned (.tuple #[.int .i64 0, .bool false]) ∧ w' = w := by
 obtain ⟨ao, ac, rfl, _⟩ := h.form
 clear h
 generalize Ln N = n at *
 go_enter Tryz.func157, Tryz.ntmps157
 go_wp2_with fail
 go_ret2
 exact ⟨rfl, rfl⟩
set_option maxHeartbeats 2000000 in
theorem small_ok (w : World) (v : Value) (N : Nat) (h : DR w v N) (h7 : Ln N ≤ 7) :
  Calls Tryz.prog 157 #[v] w fun e w' => e = .returned (.tuple #[.int .i64 (N : Int), .bool true]) ∧ w' = w := by
 obtain ⟨ao, ac, rfl, _⟩ := h.form
 obtain ⟨n, hn⟩ : ∃ n, Ln N = n := ⟨_, rfl⟩
 have Hca : Hid (∀ i, i < n → ∃ g o, ao = some ⟨g, o, none⟩ ∧ g < w.heap.size ∧ w.cell? ⟨g, o + i, none⟩ = some (.int .i64 ((N / 256 ^ i % 256 : Nat) : Int))) := fun i hi => h.cell (by omega)
 have HL : Hid (N < 256 ^ n) := by rw [← hn]; exact Ln_lt N
 rw [hn] at h7 ⊢
 clear h hn
 have hN : N < 72057594037927936 := Nat.lt_of_lt_of_le HL.out (Nat.le_trans (Nat.pow_le_pow_right (by decide) h7) (by decide))
 go_enter Tryz.func157, Tryz.ntmps157
 go_wp2_with fail
 go_loop [4, 5] (fun s x => ∃ j : Nat, j ≤ n ∧ x = .int .i64 ((j : Int) - 1) ∧ s = .int .i64 ((N / 256 ^ j : Nat) : Int)) (fun _ x => (intOf x + 1).toNat)
 case atStart => exact ⟨n, Nat.le_refl _, rfl, by rw [Nat.div_eq_of_lt HL.out]; rfl⟩
 case round =>
  obtain ⟨j, hj, rfl, rfl⟩ := hrel
  by_cases hj0 : j = 0
  ·subst hj0
   rw [Nat.pow_zero, Nat.div_one]
   go_wp2_with fail
   go_ret2
   exact ⟨rfl, rfl⟩
  ·obtain ⟨i, rfl⟩ : ∃ i, j = i + 1 := ⟨j - 1, by omega⟩
   rw [show (((i + 1 : Nat) : Int) - 1) = (i : Int) by omega]
   obtain ⟨g1, o1, rfl, hg1, c1⟩ := Hca.out i (by omega)
   have e : N / 256 ^ i = 256 * (N / 256 ^ (i + 1)) + N / 256 ^ i % 256 := by rw [Nat.pow_succ, ← Nat.div_div_eq_div_mul, Nat.div_add_mod]
   have hle := Nat.div_le_self N (256 ^ i)
   have hin : i < n := by omega
   have He := Lib.hid e
   have x9 := Nat.mod_lt (N / 256 ^ i) (show 0 < 256 by decide)
   have hb : N / 256 ^ (i + 1) * 256 + N / 256 ^ i % 256 < 72057594037927936 := by omega
   clear e hle hj0
   generalize N / 256 ^ i % 256 = x at *
   generalize N / 256 ^ (i + 1) = t at *
   go_wp2_with fail
   go_round
   case rel => exact ⟨i, by omega, rfl, by rw [He.out]; exact congrArg (Value.int .i64) (by omega)⟩
   case measure => simp [intOf]
end Go.Proofs.YteknldaoegccaaaGreatDoor
set_option maxRecDepth 100000
namespace Go.Proofs.YteknldaoegccaaaGreatDoor
open Go.RowKit
theorem ints_set (l : List Nat) (i d : Nat) : (ints l).set i (.int .i64 (d : Int)) = ints (l.set i d) := by simp [ints, List.map_set]
theorem mixd_icells {w : World} {b L i X S : Nat} (h : w.heap[b]? = some (.cells (ints (mixd 256 L i X S)).toArray 3 (0, 0))) (hi : i < L) : w.cell? ⟨b, i, none⟩ = some (.int .i64 ((X / 256 ^ i % 256 : Nat) : Int)) := by
 rw [cell_of h]
 have := mixd_get 256 L i X S hi
 simp [ints, this]
theorem made_int (n : Nat) : madeCells (Value.int .i64 0).cells n = (ints (List.replicate n 0)).toArray := by
 unfold madeCells
 apply Array.ext
 ·simp [ints]
 ·intro i h1 h2
  simp [ints, Value.cells, Nat.mod_one]
theorem make_ints (w : World) (n : Nat) (hn : n ≤ 10000000000000) : (Instr.makeSlice 114 (.int .i64 (n : Int)) (.int .i64 (n : Int))).run Tryz.prog w = .ok (.slice (some ⟨w.heap.size, 0, none⟩) n n) (w.alloc (.cells (ints (List.replicate n 0)).toArray 3)) := by
 obtain ⟨i0, hi, hz0, hz1, hz2⟩ := info_parts2 infoInt
 have hm := run_make (P := Tryz.prog) w 114 3 i0 _ Tryz.underlying114 hi hz0 .i64 .i64 (n : Int) (n : Int) (by omega) (by omega) (by rw [hz2]; omega) (by omega)
 rw [Int.toNat_natCast, hz1, Nat.mul_one, made_int] at hm
 exact hm
theorem block_read {w : World} {g L : Nat} {l : List Nat} {t : TypeId} (h : w.heap[g]? = some (.cells (ints l).toArray t (0, 0))) (hL : l.length = L) : RowR w (.slice (some ⟨g, 0, none⟩) L L) (ints l) := by
 subst hL
 refine .inr ⟨g, 0, l.length, by rw [ints_length], lt_of_heap h, fun i v hi => ?_⟩
 rw [cell_of h, Nat.zero_add]
 simpa using hi
theorem block_cap {g L : Nat} : CapOk (.slice (some ⟨g, 0, none⟩) L L) := by
 intro a n c e
 injection e with _ e2 e3; omega
theorem prod_done {i m k A B x : Nat} (hA : A < 256 ^ (i + m)) (hB : B < 256 ^ m) (hk : m ≤ k) (hc : carryM 256 k (A / 256 ^ i) x B = 0) : A < 256 ^ (i + k) ∧ A + 256 ^ i * (x * B) < 256 ^ (i + k) := by
 have h1 : 256 ^ (i + m) ≤ 256 ^ (i + k) := Nat.pow_le_pow_right (by decide) (by omega)
 refine ⟨by omega, ?_⟩
 have h2 : (A + 256 ^ i * (x * B)) / 256 ^ (i + k) = 0 := by
  rw [div_pow_add, mul_part (by decide), carryM_eq (by decide), hc]
  have h3 : B / 256 ^ k = 0 := Nat.div_eq_of_lt (Nat.lt_of_lt_of_le hB (Nat.pow_le_pow_right (by decide) hk))
  have h4 : A / 256 ^ i / 256 ^ k = 0 := by rw [← div_pow_add]; exact Nat.div_eq_of_lt (by omega)
  rw [h3, h4]; simp
 rcases Nat.lt_or_ge (A + 256 ^ i * (x * B)) (256 ^ (i + k)) with h | h
 ·exact h
 ·have := Nat.div_pos h (Nat.pow_pos (show 0 < 256 by decide))
  omega
theorem prod_zero {i m A B x : Nat} (hA : A < 256 ^ (i + m)) (hB : B < 256 ^ m) (hx : x < 256) : carryM 256 (m + 1) (A / 256 ^ i) x B = 0 := by
 have hU : A / 256 ^ i < 256 ^ m := by rw [Nat.div_lt_iff_lt_mul (Nat.pow_pos (by decide)), ← Nat.pow_add, Nat.add_comm]; exact hA
 unfold carryM
 have h1 : 256 ^ m ≤ 256 ^ (m + 1) := Nat.pow_le_pow_right (by decide) (by omega)
 rw [Nat.mod_eq_of_lt (by omega), Nat.mod_eq_of_lt (by omega)]
 apply Nat.div_eq_of_lt
 rw [Nat.pow_succ]
 have h2 : x * B ≤ 255 * B := Nat.mul_le_mul_right _ (by omega)
 omega
set_option maxHeartbeats 4000000 in
theorem times_c (w : World) (v1 v2 : Value) (X B : Nat) (h1 : DR w v1 X) (h2 : DR w v2 B) (hX : Ln X ≤ 1000000000) (hB : Ln B ≤ 1000000000) :
  Calls Tryz.prog 95 #[v1, v2] w (Digits w (X * B)) := by
 obtain ⟨ao, ac, rfl, _⟩ := h1.form
 obtain ⟨bo, bc, rfl, _⟩ := h2.form
 obtain ⟨n, hn⟩ : ∃ n, Ln X = n := ⟨_, rfl⟩
 obtain ⟨m, hm⟩ : ∃ m, Ln B = m := ⟨_, rfl⟩
 have Hca : Hid (∀ w', Keep [] w w' → ∀ i, i < n → ∃ g o, ao = some ⟨g, o, none⟩ ∧ g < w'.heap.size ∧ w'.cell? ⟨g, o + i, none⟩ = some (.int .i64 ((X / 256 ^ i % 256 : Nat) : Int))) := fun w' hk i hi => (h1.later hk).cell (by omega)
 have Hcb : Hid (∀ w', Keep [] w w' → ∀ i, i < m → ∃ g o, bo = some ⟨g, o, none⟩ ∧ g < w'.heap.size ∧ w'.cell? ⟨g, o + i, none⟩ = some (.int .i64 ((B / 256 ^ i % 256 : Nat) : Int))) := fun w' hk i hi => (h2.later hk).cell (by omega)
 have Hzb : Hid (∀ i, ¬ i < m → B / 256 ^ i % 256 = 0) := fun i h => Ln_high (by omega)
 have HLx : Hid (X < 256 ^ n) := by rw [← hn]; exact Ln_lt X
 have HLb : Hid (B < 256 ^ m) := by rw [← hm]; exact Ln_lt B
 rw [hn] at hX ⊢
 rw [hm] at hB ⊢
 clear h1 h2 hn hm
 obtain ⟨L, hL⟩ : ∃ L, n + m + 1 = L := ⟨_, rfl⟩
 have HL := Lib.hid hL
 have hL1 : (n : Int) + m + 1 = (L : Int) := by omega
 have hmk := make_ints w L (by omega)
 have hS : Hid (X * B < 256 ^ L) := by
  have h1 : X * B < 256 ^ n * 256 ^ m := Nat.mul_lt_mul'' HLx.out HLb.out
  rw [← Nat.pow_add] at h1
  exact Nat.lt_of_lt_of_le h1 (Nat.pow_le_pow_right (by decide) (by omega))
 have hL9 : L ≤ 2000000001 := by omega
 clear hL
 go_enter Tryz.func95, Tryz.ntmps95
 go_wp2_with fail
 clear hmk hL1
 go_loopw [6] (fun x wr => ∃ i : Nat, i ≤ n ∧ x = .int .i64 (i : Int) ∧ Keep [] w wr ∧ wr.heap[w.heap.size]? = some (.cells (ints (dl 256 L (X % 256 ^ i * B))).toArray 3 (0, 0))) (fun x _ => n - (intOf x).toNat)
 case atStart => exact ⟨0, by omega, rfl, Keep.alloc _ _ _, by rw [Nat.pow_zero, Nat.mod_one, Nat.zero_mul, dl_zero]; exact World.alloc_heap_new w _⟩
 case round =>
  obtain ⟨i, hi, rfl, hkp, hbx⟩ := hrel
  obtain ⟨wo, rfl⟩ : ∃ wo : World, wo = wr := ⟨_, rfl⟩
  by_cases hlt : i < n
  ·have Hstep := Lib.hid (mul_step 256 i X B)
   have HA := Lib.hid (part_lt i X (show 0 < 256 by decide) HLb.out)
   have x9 := Nat.mod_lt (X / 256 ^ i) (show 0 < 256 by decide)
   have Hkp := Lib.hid hkp
   have Hbx := Lib.hid hbx
   have Hcx : Hid (∀ w', Keep [] w w' → ∃ g o, ao = some ⟨g, o, none⟩ ∧ g < w'.heap.size ∧ w'.cell? ⟨g, o + i, none⟩ = some (.int .i64 ((X / 256 ^ i % 256 : Nat) : Int))) := fun w' hk => Hca.out w' hk i hlt
   clear hkp hbx
   generalize X % 256 ^ i * B = A at *
   generalize X / 256 ^ i % 256 = x at *
   go_wp2_with fail
   go_loopw [7, 8] (fun c kx wr => ∃ k : Nat, k ≤ m + 1 ∧ kx = .int .i64 (k : Int) ∧ c = .int .i64 (carryM 256 k (A / 256 ^ i) x B : Nat) ∧ Keep [] w wr ∧ wr.heap[w.heap.size]? = some (.cells (ints (mixd 256 L (i + k) A (A + 256 ^ i * (x * B)))).toArray 3 (0, 0))) (fun _ kx _ => m + 2 - (intOf kx).toNat)
   case atStart =>
    refine ⟨0, by omega, rfl, by rw [carryM_zero]; rfl, Hkp.out, ?_⟩
    rw [Nat.add_zero, mixd_start (by decide)]; exact Hbx.out
   case round =>
    obtain ⟨k, hk, rfl, rfl, hkw, hbw⟩ := hrel
    have hc9 := carryM_lt (show 0 < 256 by decide) k (A / 256 ^ i) x B x9
    by_cases hkm : k < m
    ·have hikL : i + k < L := by have := HL.out; omega
     have hco := mixd_icells hbw hikL
     rw [div_pow_add] at hco
     obtain ⟨g1, o1, rfl, hg1, c1⟩ := Hcx.out wr hkw
     obtain ⟨g2, o2, rfl, hg2, c2⟩ := Hcb.out wr hkw k hkm
     have hd := carryM_at (show 0 < 256 by decide) i k A x B
     have hs := carryM_succ (show 0 < 256 by decide) k (A / 256 ^ i) x B
     have hset := Lib.hid (mixd_set 256 L (i + k) A (A + 256 ^ i * (x * B)) hikL)
     have o9 := Nat.mod_lt (A / 256 ^ i / 256 ^ k) (show 0 < 256 by decide)
     have y9 := Nat.mod_lt (B / 256 ^ k) (show 0 < 256 by decide)
     have K1 : ∀ q : KW wr, (Wk wr q).cell? ⟨g1, o1 + i, none⟩ = some (.int .i64 (x : Int)) := fun q => by
      obtain ⟨g, o, h1, _, h3⟩ := Hcx.out q.x (hkw.trans0 q.k)
      injection h1 with h1; injection h1 with h1 h2 h4
      subst h1 h2; exact h3
     have K2 : ∀ q : KW wr, (Wk wr q).cell? ⟨g2, o2 + k, none⟩ = some (.int .i64 ((B / 256 ^ k % 256 : Nat) : Int)) := fun q => by
      obtain ⟨g, o, h1, _, h3⟩ := Hcb.out q.x (hkw.trans0 q.k) k hkm
      injection h1 with h1; injection h1 with h1 h2 h4
      subst h1 h2; exact h3
     have hob := lt_of_heap hbw
     have Hkw := Lib.hid hkw
     have Hbw := Lib.hid hbw
     clear hkw hbw c1 c2
     generalize A / 256 ^ i / 256 ^ k % 256 = o at *
     generalize B / 256 ^ k % 256 = y at *
     generalize carryM 256 k (A / 256 ^ i) x B = c at *
     obtain ⟨G, hG⟩ : ∃ G, x * y = G := ⟨_, rfl⟩
     have hG9 : G ≤ 255 * 255 := by rw [← hG]; exact Nat.mul_le_mul (by omega) (by omega)
     have hG1 : (x : Int) * (y : Int) = (G : Int) := by rw [← hG]; push_cast; rfl
     have hG2 : IntKind.i64.wrap (G : Int) = (G : Int) := by simp [IntKind.wrap, IntKind.bits, IntKind.signed]; omega
     rw [hG] at hd hs
     have Hd := Lib.hid hd
     have Hs := Lib.hid hs
     clear hG hd hs
     go_wp2_with fail
     refine wp_region_keep (by kernel_rfl) (by kernel_rfl) ?_
     repeat (first
      | go_big_quiet_skip
      | (go_big_quiet_want; go_big_quiet_op; go_big_quiet_on))
     refine wpQuiet_nil ?_
     rintro wa ⟨⟨_, hk_wa⟩, rfl⟩
     have hba := hk_wa.heap Hbw.out (by simp)
     have hla := lt_of_heap hba
     have hfa := frozen_of hba
     have hca : wa.cell? ⟨w.heap.size, i + k, none⟩ = some (.int .i64 (o : Int)) := by rw [cell_of hba, ← cell_of Hbw.out]; exact hco
     have Hba := Lib.hid hba
     have Hka := Lib.hid (Hkw.out.trans0 hk_wa)
     clear hba hk_wa K1 K2 hG1 hG2 hco
     go_wp2_with fail
     go_roundw
     case rel =>
      refine ⟨k + 1, by omega, by go_num, ?_, Hka.out.setPast _ _ _ (Nat.le_refl _), ?_⟩
      ·rw [← Hs.out]; exact congrArg (Value.int .i64) (by omega)
      ·have e : (((o : Int) + (c : Int) + (G : Int)) % 256) = (((c + o + G) % 256 : Nat) : Int) := by omega
       rw [set_same Hba.out, e, Hd.out, List.setIfInBounds_toArray, ints_set, hset.out]; rfl
     case measure => simp [intOf]; omega
    ·by_cases hc0 : carryM 256 k (A / 256 ^ i) x B = 0
     ·obtain ⟨p1, p2⟩ := prod_done HA.out HLb.out (by omega) hc0
      have htop := mixd_top (L := L) (show 0 < 256 by decide) p1 p2
      rw [htop, Hstep.out] at hbw
      have Hkw := Lib.hid hkw
      have Hbw := Lib.hid hbw
      rw [hc0]
      clear hkw hbw p1 p2 htop hc0 hc9
      go_wp2_with fail
      go_roundw
      case rel => exact ⟨i + 1, by omega, by go_num, Hkw.out, Hbw.out⟩
      case measure => simp [intOf]; omega
     ·have hkm2 : k = m := by
       rcases Nat.lt_or_ge m k with h | h
       ·obtain rfl : k = m + 1 := by omega
        exact absurd (prod_zero HA.out HLb.out x9) hc0
       ·omega
      have hikL : i + k < L := by have := HL.out; omega
      have hco := mixd_icells hbw hikL
      rw [div_pow_add] at hco
      have ho0 : A / 256 ^ i / 256 ^ k % 256 = 0 := by
       rw [← div_pow_add, Nat.div_eq_of_lt (by rw [hkm2]; exact HA.out)]
      have hd := carryM_at (show 0 < 256 by decide) i k A x B
      have hs := carryM_succ (show 0 < 256 by decide) k (A / 256 ^ i) x B
      have hset := Lib.hid (mixd_set 256 L (i + k) A (A + 256 ^ i * (x * B)) hikL)
      rw [ho0] at hco hd hs
      rw [Hzb.out k hkm, Nat.mul_zero] at hd hs
      simp only [Nat.add_zero] at hd hs
      have hob := lt_of_heap hbw
      have hof := frozen_of hbw
      have hcp : 0 < carryM 256 k (A / 256 ^ i) x B := by omega
      have Hd := Lib.hid hd
      have Hs := Lib.hid hs
      have Hkw := Lib.hid hkw
      have Hbw := Lib.hid hbw
      have Hkm2 := Lib.hid hkm2
      clear hkw hbw hd hs ho0 hc0 hkm2
      generalize carryM 256 k (A / 256 ^ i) x B = c at *
      go_wp2_with fail
      go_roundw
      case rel =>
       refine ⟨k + 1, by have := Hkm2.out; omega, by go_num, ?_, Hkw.out.setPast _ _ _ (Nat.le_refl _), ?_⟩
       ·rw [← Hs.out]; exact congrArg (Value.int .i64) (by omega)
       ·have e : ((c : Int) % 256) = ((c % 256 : Nat) : Int) := by omega
        rw [set_same Hbw.out, e, Hd.out, List.setIfInBounds_toArray, ints_set, hset.out]; rfl
      case measure => have := Hkm2.out; simp [intOf]; omega
  ·obtain rfl : i = n := by omega
   rw [Nat.mod_eq_of_lt HLx.out] at hbx
   have HT := Lib.hid (rtrim_c wo _ (dl 256 L (X * B)) (by rw [dl_length]; omega) (block_read hbx (dl_length _ _ _)) block_cap)
   have Hkp := Lib.hid hkp
   clear hkp hbx
   go_wp2_with fail
   refine HT.out.mono ?_
   rintro e w2 ⟨ht, rfl⟩
   obtain ⟨v, rfl, hdr⟩ := trimmed_dr ht (dl_lt (by decide) _ _)
   rw [val_dl (by decide) _ _ hS.out] at hdr
   have Hdr := Lib.hid hdr
   clear ht hdr HT
   dsimp only
   go_wp2_with fail
   go_ret
   exact ⟨v, rfl, Hdr.out, Hkp.out⟩
end Go.Proofs.YteknldaoegccaaaGreatDoor
set_option maxRecDepth 100000
namespace Go.Proofs.YteknldaoegccaaaGreatDoor
open Go.RowKit
section
variable {P : Program} (w : World)
theorem run_append_own3 (t ty e : TypeId) (i : TypeInfo) (z : Value) (size bytes : Nat) (ht : P.underlying t = some (.slice e)) (hi : P.info? e = some i) (hz : i.zero = some z)
  (hsize : i.size = size) (hby : i.bytes = bytes) (hzs : z.cells.size = size) (hsz : 0 < size)
  (v : Value) (n : Nat) (xs : List Value) (hown : w.ownsRow 0 e size v n xs)
  (a : Addr) (m c : Nat) (news : List Value) (hl : news.length = m * size) (hnews : ∀ j u, news[j]? = some u → w.cell? (a.add j) = some u) (h1 : ∀ u ∈ news, u.oneCell' = true)
  (hm : 0 < n + m) (h63 : n + m ≤ maxLen) (hbytes : (n + m) * bytes ≤ 140737488355328) :
  ∃ g cap w', (Builtin.append_ #[t, t] ty #[v, .slice (some a) m c]).run P w = .ok (.slice (some ⟨g, 0, none⟩) (n + m) cap) w' ∧ w'.ownsRow 0 e size (.slice (some ⟨g, 0, none⟩) (n + m) cap) (n + m) (xs ++ news) ∧ w.grownBy w' v.ownBlock ∧
   (some g = v.ownBlock ∨ w.heap.size ≤ g) ∧ w.drawn ≤ w'.drawn := by
 obtain ⟨v', w', hr, ho, hg, _⟩ := run_append_own (P := P) w 0 t ty e i z size bytes ht hi hz hsize hby hzs hsz v n xs hown a m c news hl hnews h1 h63 hbytes (Nat.zero_le _)
 subst hsize
 subst hby
 have hsmall : n + m ≤ 9223372036854775807 := by simp only [maxLen] at h63; omega
 have fin : ∀ g cap w'', (Builtin.append_ #[t, t] ty #[v, .slice (some a) m c]).run P w = .ok (.slice (some ⟨g, 0, none⟩) (n + m) cap) w'' → (some g = v.ownBlock ∨ w.heap.size ≤ g) → w.drawn ≤ w''.drawn →
   ∃ g cap w', (Builtin.append_ #[t, t] ty #[v, .slice (some a) m c]).run P w = .ok (.slice (some ⟨g, 0, none⟩) (n + m) cap) w' ∧ w'.ownsRow 0 e i.size (.slice (some ⟨g, 0, none⟩) (n + m) cap) (n + m) (xs ++ news) ∧ w.grownBy w' v.ownBlock ∧
   (some g = v.ownBlock ∨ w.heap.size ≤ g) ∧ w.drawn ≤ w'.drawn := by
  intro g cap w'' h1 h2 h2d
  have h3 := h1
  rw [hr] at h3
  injection h3 with h3 h4
  subst h3; subst h4
  exact ⟨g, cap, _, h1, ho, hg, h2, h2d⟩
 rcases hown.2 with ⟨rfl, rfl⟩ | ⟨g, cap, cur, rfl, hbg, hgg, hnc, hcm, hcs, htake⟩
 ·have hx : xs = [] := List.eq_nil_of_length_eq_zero (by simpa using hown.1)
  subst hx
  have hr2 := run_append_nil (P := P) w t ty e i z ht hi hz a m c news hl hnews (by omega) (by omega) (by have hb := hbytes; simp only [Nat.zero_add] at hb; omega)
  exact fin _ _ _ (by rw [hr2, Nat.zero_add]) (.inr (Nat.le_refl _)) (Nat.le_succ _)
 ·by_cases hroom : n + m ≤ cap
  ·have hfit : n * i.size + news.length ≤ cur.size := by rw [hl, hcs, ← Nat.add_mul]; exact Nat.mul_le_mul_right _ hroom
   exact fin _ _ _ (run_append_room (P := P) w t ty e i ht hi g n cap cur hgg a m c news hl hnews h1 hroom hfit) (.inl rfl) (Nat.le_refl _)
  ·have holds : ∀ j u, xs[j]? = some u → w.cell? ((⟨g, 0, none⟩ : Addr).add j) = some u := hown.cells (g := g) rfl
   exact fin _ _ _ (run_append_grow (P := P) w t ty e i z ht hi hz ⟨g, 0, none⟩ n cap xs hown.1 holds a m c news hl hnews (by omega) (by omega) (growslice_fits (by omega) hbytes)) (.inr (Nat.le_refl _)) (Nat.le_succ _)
theorem wpList_append_row3 {ops : Array Oper} {rest : List Oper} {o : Oper} {a : Act} {Q : Exit → Act → World → Prop} (hgd : o.guard = none) (s x : Operand) (t : TypeId)
  (ho : o.op = .call { callee := .builtin .append, args := #[s, x], argTypes := #[t, t] })
  (e : TypeId) (i : TypeInfo) (z : Value) (bytes : Nat) (ht : P.underlying t = some (.slice e)) (hi : P.info? e = some i) (hz : i.zero = some z)
  (hsize : i.size = 1) (hby : i.bytes = bytes) (hzs : z.cells.size = 1)
  (v : Value) (n : Nat) (xs : List Value) (hs : a.eval s = v) (hown : w.ownsRow 0 e 1 v n xs) (hn : 0 < n)
  (y : Value) (news : List Value) (hx : a.eval x = y) (hy : RowR w y news) (h1 : ∀ u ∈ news, u.oneCell' = true)
  (h63 : n + news.length ≤ maxLen) (hbytes : (n + news.length) * bytes ≤ 140737488355328)
  (h : ∀ v' w', w'.ownsRow 0 e 1 v' (n + news.length) (xs ++ news) → w.grownBy w' v.ownBlock → w.drawn ≤ w'.drawn → wpList P ops Q rest (a.put o.dst v') w') : wpList P ops Q (o :: rest) a w := by
 refine wpList_plain hgd fun K hK => ?_
 have ⟨v', w', hr, h2, h3, h5⟩ : ∃ v' w', (Builtin.append_ #[t, t] o.type #[v, y]).run P w = .ok v' w' ∧ w'.ownsRow 0 e 1 v' (n + news.length) (xs ++ news) ∧ w.grownBy w' v.ownBlock ∧ w.drawn ≤ w'.drawn := by
  rcases hy with ⟨rfl, rfl⟩ | ⟨g, b, c, rfl, hg, hc⟩
  ·exact ⟨v, w, run_append_owned_none (P := P) (w := w) 0 t o.type e i 1 ht hi v n xs hown, by simpa using hown, ⟨rfl, rfl, rfl, Nat.le_refl _, fun _ _ _ => rfl⟩, Nat.le_refl _⟩
  ·obtain ⟨g', cap, w', hr, ho, hg', _, hd⟩ := run_append_own3 (P := P) w t o.type e i z 1 bytes ht hi hz hsize hby hzs (by decide) v n xs hown ⟨g, b, none⟩ news.length c news (by simp) (fun j u hj => by
    rw [Addr.add_lit]; exact hc j u hj) h1 (by omega) h63 hbytes
   exact ⟨_, w', hr, ho, hg', hd⟩
 unfold Oper.wp execOp
 simp only [ho, resolve, invoke, builtin, Sem.run_bind, Sem.run_pure, Result.andThen_ok, List.map_toArray, List.map_cons, List.map_nil, hs, hx, hr]
 exact hK _ _ (h v' w' h2 h3 h5)
end
theorem ints_one (l : List Nat) : ∀ u ∈ ints l, u.oneCell' = true := by
 intro u hu
 obtain ⟨x, _, hx⟩ := List.mem_map.1 hu
 rw [← hx]; rfl
theorem own_cap {w : World} {e : TypeId} {size n : Nat} {v : Value} {xs : List Value} (h : w.ownsRow 0 e size v n xs) : CapOk v := by
 intro a m c e
 rcases h.2 with ⟨hv, h0⟩ | ⟨g, cap, cur, hv, _, _, hn, _⟩
 ·rw [hv] at e; injection e with e1 e2 e3; omega
 ·rw [hv] at e; injection e with e1 e2 e3; omega
theorem dv_rem {A B i : Nat} (hB : 0 < B) : A / 256 ^ i % B = (256 * (A / 256 ^ (i + 1) % B) + A / 256 ^ i % 256) % B := by
 have e : A / 256 ^ i = 256 * (A / 256 ^ (i + 1)) + A / 256 ^ i % 256 := by rw [Nat.pow_succ, ← Nat.div_div_eq_div_mul, Nat.div_add_mod]
 have h := Nat.div_add_mod (A / 256 ^ (i + 1)) B
 generalize A / 256 ^ (i + 1) / B = q at *
 generalize A / 256 ^ (i + 1) % B = r at *
 rw [← h] at e
 have e2 : A / 256 ^ i = (256 * r + A / 256 ^ i % 256) + B * (256 * q) := by rw [Nat.mul_left_comm]; omega
 generalize A / 256 ^ i % 256 = d at *
 rw [e2, Nat.add_mul_mod_self_left]
theorem dv_quo {A B i : Nat} (hB : 0 < B) : A / B / 256 ^ i % 256 = (256 * (A / 256 ^ (i + 1) % B) + A / 256 ^ i % 256) / B := by
 have e : A / 256 ^ i = 256 * (A / 256 ^ (i + 1)) + A / 256 ^ i % 256 := by rw [Nat.pow_succ, ← Nat.div_div_eq_div_mul, Nat.div_add_mod]
 have h := Nat.div_add_mod (A / 256 ^ (i + 1)) B
 have h9 := Nat.mod_lt (A / 256 ^ (i + 1)) hB
 have d9 := Nat.mod_lt (A / 256 ^ i) (show 0 < 256 by decide)
 rw [Nat.div_div_eq_div_mul, Nat.mul_comm B, ← Nat.div_div_eq_div_mul]
 generalize A / 256 ^ (i + 1) / B = q at *
 generalize A / 256 ^ (i + 1) % B = r at *
 rw [← h] at e
 have e2 : A / 256 ^ i = (256 * r + A / 256 ^ i % 256) + B * (256 * q) := by rw [Nat.mul_left_comm]; omega
 generalize A / 256 ^ i % 256 = d at *
 rw [e2, Nat.add_mul_div_left _ _ hB]
 have : (256 * r + d) / B < 256 := by
  rw [Nat.div_lt_iff_lt_mul hB]
  have := Nat.mul_le_mul_left 256 (show r + 1 ≤ B from h9)
  omega
 generalize (256 * r + d) / B = x at *
 omega
theorem dv_bound {A B i : Nat} (hB : 0 < B) : 256 * (A / 256 ^ (i + 1) % B) + A / 256 ^ i % 256 < 256 * B := by
 have h9 := Nat.mod_lt (A / 256 ^ (i + 1)) hB
 have d9 := Nat.mod_lt (A / 256 ^ i) (show 0 < 256 by decide)
 omega
theorem dv_end {R B t r : Nat} (hB : 0 < B) (h : r + t * B = R) (hr : r < B) : R / B = t ∧ R % B = r := by
 have e : R = r + B * t := by rw [Nat.mul_comm]; omega
 constructor
 ·rw [e, Nat.add_mul_div_left _ _ hB, Nat.div_eq_of_lt hr]; omega
 ·rw [e, Nat.add_mul_mod_self_left, Nat.mod_eq_of_lt hr]
theorem dv_room {R B t s r : Nat} (hB : 0 < B) (h : r + t * B = R) (hR : R < 256 * B) (hs : s * B ≤ r) : t + s ≤ 255 := by
 have h1 : (t + s) * B < 256 * B := by rw [Nat.add_mul]; omega
 have := Nat.lt_of_mul_lt_mul_right h1
 omega
theorem dv_last {R B r : Nat} (h : r + 255 * B = R) (hR : R < 256 * B) : r < B := by omega
theorem mixd_set0 {L i Q : Nat} : (mixd 256 L (i + 1) Q 0).set i 0 = mixd 256 L (i + 1) Q 0 := by
 apply List.ext_getElem
 ·simp
 ·intro j h1 h2
  rw [List.getElem_set]
  by_cases e : i = j
  ·subst e; simp [mixd]
  ·rw [if_neg e]
end Go.Proofs.YteknldaoegccaaaGreatDoor
set_option maxRecDepth 100000
namespace Go.Proofs.YteknldaoegccaaaGreatDoor
open Go.RowKit
set_option maxHeartbeats 1000000 in
theorem one_c (w : World) : Calls Tryz.prog 137 #[] w fun e w' => e = .returned (zv 1) ∧ Keep [] w w' := by
 have Hm := Lib.hid (FromInt_c 1 (by decide) (by decide))
 unfold zv at Hm ⊢
 generalize sgB 1 = nr at *
 generalize mgS 1 = sr at *
 go_enter Tryz.func137, Tryz.ntmps137
 go_wp2_with fail
 obtain ⟨W, ga, hW, ega, bga, hga, hgW, hkW⟩ := al1 w (.cells #[.bool false, .string ⟨#[]⟩] 27)
 rw [← hW]
 try rw [ega]
 have Bga := Lib.hid bga
 have HkW := Lib.hid hkW
 clear hW hkW ega bga
 refine (Hm.out W).mono ?_
 rintro e wz ⟨rfl, hk_wz⟩
 dsimp only
 clear Hm
 have B2ga := Lib.hid (hk_wz.heap Bga.out (by simp))
 have HkW2 := Lib.hid (HkW.out.trans0 hk_wz)
 clear HkW hk_wz Bga
 have Bga := B2ga
 have HkW := HkW2
 clear HkW2 B2ga
 have pga := cell_of Bga.out
 have fga := frozen_of Bga.out
 have lga := lt_of_heap Bga.out
 go_wp2_with fail
 refine bodyPost_ret (v := .agg #[.bool nr, .string sr]) ?_ rfl ⟨rfl, by repeat (first | (with_reducible exact HkW.out) | (refine Keep.setPast ?_ _ _ _ (by omega)) | (refine Keep.allocPast ?_ _) | (refine Keep.drewPast ?_))⟩
 rw [results_cell1 rfl]; go_simp
set_option maxHeartbeats 1000000 in
theorem quotient_c (a b : Int) (ha : Fit 100000000000 a) (hb : Fit 100000000000 b) (h0 : 0 < b) (w : World) :
  Calls Tryz.prog 160 #[zv a, zv b] w fun e w' => e = .returned (zv (a / b)) ∧ Keep [] w w' := by
 have Hm := Lib.hid (DivMod_c a b ha hb h0)
 unfold zv at Hm ⊢
 generalize sgB (a / b) = nr at *
 generalize mgS (a / b) = sr at *
 generalize sgB (a % b) = nr2 at *
 generalize mgS (a % b) = sr2 at *
 generalize sgB a = na at *
 generalize sgB b = nb at *
 generalize mgS a = sa at *
 generalize mgS b = sb at *
 clear ha hb h0
 go_enter Tryz.func160, Tryz.ntmps160
 go_wp2_with fail
 obtain ⟨W, ga, gb, gc, hW, ega, egb, egc, bga, bgb, bgc, hga, hgb, hgc, hgW, hkW⟩ := al3 w (.cells #[.bool na, .string sa] 27) (.cells #[.bool nb, .string sb] 27) (.cells #[.bool false, .string ⟨#[]⟩] 27)
 rw [← hW]
 try rw [egc]
 try rw [egb]
 try rw [ega]
 have Bga := Lib.hid bga
 have Bgb := Lib.hid bgb
 have Bgc := Lib.hid bgc
 have HkW := Lib.hid hkW
 clear hW hkW ega egb egc bga bgb bgc
 refine (Hm.out W).mono ?_
 rintro e wz ⟨rfl, hk_wz⟩
 dsimp only
 clear Hm
 have B2ga := Lib.hid (hk_wz.heap Bga.out (by simp))
 have B2gb := Lib.hid (hk_wz.heap Bgb.out (by simp))
 have B2gc := Lib.hid (hk_wz.heap Bgc.out (by simp))
 have HkW2 := Lib.hid (HkW.out.trans0 hk_wz)
 clear HkW hk_wz Bga Bgb Bgc
 have Bga := B2ga
 have Bgb := B2gb
 have Bgc := B2gc
 have HkW := HkW2
 clear HkW2 B2ga B2gb B2gc
 have pgc := cell_of Bgc.out
 have fgc := frozen_of Bgc.out
 have lgc := lt_of_heap Bgc.out
 go_wp2_with fail
 refine bodyPost_ret (v := .agg #[.bool nr, .string sr]) ?_ rfl ⟨rfl, by repeat (first | (with_reducible exact HkW.out) | (refine Keep.setPast ?_ _ _ _ (by omega)) | (refine Keep.allocPast ?_ _) | (refine Keep.drewPast ?_))⟩
 rw [results_cell1 rfl]; go_simp
theorem eqZ_str (s t : ByteArray) (w : World) : (binOp .eql 27 (.agg #[.bool false, .string s]) (.agg #[.bool false, .string t])).run Tryz.prog w = .ok (.bool (decide (s = t))) w := by
 rw [run_eql_struct, show (10000 : Nat) = 9998 + 2 from rfl, eqZ_in]; simp [Result.andThen]
set_option maxHeartbeats 1000000 in
theorem Den_c (q : Rat) (w : World) :
  Calls Tryz.prog 132 #[rv q] w fun e w' => e = .returned (zv (q.den : Int)) ∧ Keep [] w w' := by
 have hgd := eqZ_g
 unfold rv
 by_cases h1 : q.den = 1
 ·rw [dn_one h1, h1]
  have Hm := Lib.hid one_c
  have heq : ∀ w, (binOp .eql 27 (.agg #[.bool false, .string ⟨#[]⟩]) (.agg #[.bool false, .string ⟨#[]⟩])).run Tryz.prog w = .ok (.bool true) w := fun w => by rw [eqZ_str]; simp
  rw [show (((1 : Nat) : Int)) = 1 from rfl]
  unfold zv at Hm ⊢
  generalize sgB 1 = nr at *
  generalize mgS 1 = sr at *
  generalize sgB q.num = na at *
  generalize mgS q.num = sa at *
  clear h1
  go_enter Tryz.func132, Tryz.ntmps132
  go_wp2_with fail
  obtain ⟨W, ga, gb, hW, ega, egb, bga, bgb, hga, hgb, hgW, hkW⟩ := al2 w (.cells #[.bool na, .string sa, .bool false, .string ⟨#[]⟩] 29) (.cells #[.bool false, .string ⟨#[]⟩] 27)
  rw [← hW]
  try rw [egb]
  try rw [ega]
  have Bga := Lib.hid bga
  have Bgb := Lib.hid bgb
  have HkW := Lib.hid hkW
  clear hW hkW ega egb bga bgb
  refine (Hm.out W).mono ?_
  rintro e wz ⟨rfl, hk_wz⟩
  dsimp only
  clear Hm
  have B2ga := Lib.hid (hk_wz.heap Bga.out (by simp))
  have B2gb := Lib.hid (hk_wz.heap Bgb.out (by simp))
  have HkW2 := Lib.hid (HkW.out.trans0 hk_wz)
  clear HkW hk_wz Bga Bgb
  have Bga := B2ga
  have Bgb := B2gb
  have HkW := HkW2
  clear HkW2 B2ga B2gb
  have pgb := cell_of Bgb.out
  have fgb := frozen_of Bgb.out
  have lgb := lt_of_heap Bgb.out
  go_wp2_with fail
  refine bodyPost_ret (v := .agg #[.bool nr, .string sr]) ?_ rfl ⟨rfl, by repeat (first | (with_reducible exact HkW.out) | (refine Keep.setPast ?_ _ _ _ (by omega)) | (refine Keep.allocPast ?_ _) | (refine Keep.drewPast ?_))⟩
  rw [results_cell1 rfl]; go_simp
 ·rw [dn_big h1]
  have hne : magS q.den ≠ ⟨#[]⟩ := fun h => q.den_nz (magS_empty.1 h)
  have heq : ∀ w, (binOp .eql 27 (.agg #[.bool false, .string (magS q.den)]) (.agg #[.bool false, .string ⟨#[]⟩])).run Tryz.prog w = .ok (.bool false) w := fun w => by rw [eqZ_str]; simp [hne]
  unfold zv
  rw [mg_nat, sg_nat]
  generalize magS q.den = sr at *
  generalize sgB q.num = na at *
  generalize mgS q.num = sa at *
  clear h1 hne
  go_enter Tryz.func132, Tryz.ntmps132
  go_wp2_with fail
  have HkW := Lib.hid (Keep.refl [] w)
  refine bodyPost_ret (v := .agg #[.bool false, .string sr]) ?_ rfl ⟨rfl, by repeat (first | (with_reducible exact HkW.out) | (refine Keep.setPast ?_ _ _ _ (by omega)) | (refine Keep.allocPast ?_ _) | (refine Keep.drewPast ?_))⟩
  rw [results_cell1 rfl]; go_simp
set_option maxHeartbeats 2000000 in
theorem canonical_c (a b : Int) (ha : Fit 100000000000 a) (hb : Fit 100000000000 b) (h0 : 0 < b) (w : World) :
  Calls Tryz.prog 129 #[zv a, zv b] w fun e w' => e = .returned (rv (Rat.divInt a b)) ∧ Keep [] w w' := by
 have hgd := eqZ_g
 have Hs := Lib.hid (Sign_c b)
 rw [show zsgn b = 1 by unfold zsgn; rw [if_neg (by omega), if_neg (by omega)]] at Hs
 have hgp : 0 < Int.gcd a b := Int.gcd_pos_of_ne_zero_right _ (by omega)
 have hgf : Fit 100000000000 (Int.gcd a b : Nat) := by
  refine hb.le ?_
  rw [Int.natAbs_natCast]
  exact Nat.le_of_dvd (by omega) (Int.gcd_dvd_natAbs_right a b)
 have Hg := Lib.hid (Gcd_c a b ha hb)
 have Hq1 := Lib.hid (quotient_c a (Int.gcd a b : Nat) ha hgf (by omega))
 have Hq2 := Lib.hid (quotient_c b (Int.gcd a b : Nat) hb hgf (by omega))
 have Hone := Lib.hid one_c
 have hn : (Rat.divInt a b).num = a / (Int.gcd a b : Nat) := by
  rw [Rat.num_divInt, Int.sign_eq_one_of_pos h0, Int.one_mul, Int.gcd_comm]
 have hd : (((Rat.divInt a b).den : Nat) : Int) = b / (Int.gcd a b : Nat) := by
  rw [Rat.den_divInt, if_neg (by omega), Int.gcd_comm]
  push_cast
  rw [Int.natAbs_of_nonneg (by omega)]
 have hdec := eqZ_run (b / (Int.gcd a b : Nat)) 1
 have hdn : ∀ n : Nat, (n : Int) = b / (Int.gcd a b : Nat) → sgB (b / (Int.gcd a b : Nat)) = false ∧ mgS (b / (Int.gcd a b : Nat)) = magS n := fun n e => by rw [← e, sg_nat, mg_nat]; exact ⟨rfl, rfl⟩
 obtain ⟨hd1, hd2⟩ := hdn _ hd
 have hd3 : b / (Int.gcd a b : Nat) = 1 ↔ (Rat.divInt a b).den = 1 := by rw [← hd]; omega
 unfold zv at Hs Hg Hq1 Hq2 Hone
 unfold rv zv
 rw [hn]
 have hgs : sgB (Int.gcd a b : Nat) = false := sg_nat _
 simp only [hgs] at Hg Hq1 Hq2
 generalize mgS (Int.gcd a b : Nat) = sg at *
 generalize hne : a / ((Int.gcd a b : Nat) : Int) = n' at *
 generalize hde : b / ((Int.gcd a b : Nat) : Int) = d' at *
 simp only [hd1, hd2] at Hq2 hdec
 generalize sgB a = na at *
 generalize sgB b = nb at *
 generalize mgS a = sa at *
 generalize mgS b = sb at *
 generalize sgB n' = nq at *
 generalize mgS n' = sq at *
 generalize sgB 1 = n1 at *
 generalize mgS 1 = s1 at *
 clear ha hb h0 hgf hgp hn hd hdn hd1 hgs hne hde hd2
 by_cases h1 : (Rat.divInt a b).den = 1
 ·rw [dn_one h1]
  have hdt : decide (d' = 1) = true := by simpa using hd3.2 h1
  rw [hdt] at hdec
  generalize magS (Rat.divInt a b).den = sd at *
  clear hd3 h1 hdt
  go_enter Tryz.func129, Tryz.ntmps129
  go_wp2_with fail
  obtain ⟨W, ga, gb, gc, hW, ega, egb, egc, bga, bgb, bgc, hga, hgb, hgc, hgW, hkW⟩ := al3 w (.cells #[.bool na, .string sa] 27) (.cells #[.bool nb, .string sb] 27) (.cells #[.bool false, .string ⟨#[]⟩, .bool false, .string ⟨#[]⟩] 29)
  rw [← hW]
  try rw [egc]
  try rw [egb]
  try rw [ega]
  have Bga := Lib.hid bga
  have Bgb := Lib.hid bgb
  have Bgc := Lib.hid bgc
  have HkW := Lib.hid hkW
  clear hW hkW ega egb egc bga bgb bgc
  refine (Hs.out W).mono ?_
  rintro e w1 ⟨rfl, hk1⟩
  dsimp only
  clear Hs
  have B2ga := Lib.hid (hk1.heap Bga.out (by simp))
  have B2gb := Lib.hid (hk1.heap Bgb.out (by simp))
  have B2gc := Lib.hid (hk1.heap Bgc.out (by simp))
  have HkW2 := Lib.hid (HkW.out.trans0 hk1)
  clear HkW hk1 Bga Bgb Bgc
  have Bga := B2ga
  have Bgb := B2gb
  have Bgc := B2gc
  have HkW := HkW2
  clear HkW2 B2ga B2gb B2gc
  have pga := cell_of Bga.out
  have fga := frozen_of Bga.out
  have lga := lt_of_heap Bga.out
  have pgb := cell_of Bgb.out
  have fgb := frozen_of Bgb.out
  have lgb := lt_of_heap Bgb.out
  go_wp2_with fail
  refine (Hg.out w1).mono ?_
  rintro e w2 ⟨rfl, hk2⟩
  dsimp only
  clear Hg pga pgb fga fgb lga lgb
  have B2ga := Lib.hid (hk2.heap Bga.out (by simp))
  have B2gb := Lib.hid (hk2.heap Bgb.out (by simp))
  have B2gc := Lib.hid (hk2.heap Bgc.out (by simp))
  have HkW2 := Lib.hid (HkW.out.trans0 hk2)
  clear HkW hk2 Bga Bgb Bgc
  have Bga := B2ga
  have Bgb := B2gb
  have Bgc := B2gc
  have HkW := HkW2
  clear HkW2 B2ga B2gb B2gc
  have pga := cell_of Bga.out
  have fga := frozen_of Bga.out
  have lga := lt_of_heap Bga.out
  have pgb := cell_of Bgb.out
  have fgb := frozen_of Bgb.out
  have lgb := lt_of_heap Bgb.out
  have pgc := cell_of Bgc.out
  have fgc := frozen_of Bgc.out
  have lgc := lt_of_heap Bgc.out
  go_wp2_with fail
  obtain ⟨W2, gd, hW2, egd, bgd, hgd, hgW2, hkW2⟩ := al1 w2 (.cells #[.bool false, .string sg] 27)
  rw [← hW2]
  try rw [egd]
  have Bgd := Lib.hid bgd
  clear hW2 egd bgd
  clear pga pgb pgc fga fgb fgc lga lgb lgc
  have B2ga := Lib.hid (hkW2.heap Bga.out (by simp))
  have B2gb := Lib.hid (hkW2.heap Bgb.out (by simp))
  have B2gc := Lib.hid (hkW2.heap Bgc.out (by simp))
  have HkW2 := Lib.hid (HkW.out.trans0 hkW2)
  clear HkW hkW2 Bga Bgb Bgc
  have Bga := B2ga
  have Bgb := B2gb
  have Bgc := B2gc
  have HkW := HkW2
  clear HkW2 B2ga B2gb B2gc
  have kga := kw_cells Bga.out
  have kgb := kw_cells Bgb.out
  have kgd := kw_cells Bgd.out
  have Q1 : Hid (∀ m : KW W2, Calls Tryz.prog 160 #[.agg #[.bool na, .string sa], .agg #[.bool false, .string sg]] (Wk W2 m) fun e w' => e = .returned (.agg #[.bool nq, .string sq]) ∧ ∃ m, w' = Wk W2 m) := fun m => qk m (Hq1.out _)
  have Q2 : Hid (∀ m : KW W2, Calls Tryz.prog 160 #[.agg #[.bool nb, .string sb], .agg #[.bool false, .string sg]] (Wk W2 m) fun e w' => e = .returned (.agg #[.bool false, .string sd]) ∧ ∃ m, w' = Wk W2 m) := fun m => qk m (Hq2.out _)
  clear Hq1 Hq2
  refine wp_region_keep_tail 6 (by kernel_rfl) (by kernel_rfl) ?_
  simp only [List.take_succ_cons, List.take_zero, List.drop_succ_cons, List.drop_zero]
  repeat (first
   | go_big_quiet_skip
   | (go_big_quiet_want; go_big_quiet_op; first | go_big_quiet_on | go_big_quiet_call (first
    | (go_at_call 160; with_reducible exact (Q1).out _) | (go_at_call 160; with_reducible exact (Q2).out _))))
  refine wpQuiet_nil ?_
  rintro wz ⟨⟨_, hk_wz⟩, rfl⟩
  clear kga kgb kgd Q1 Q2
  have B2ga := Lib.hid (hk_wz.heap Bga.out (by simp))
  have B2gb := Lib.hid (hk_wz.heap Bgb.out (by simp))
  have B2gc := Lib.hid (hk_wz.heap Bgc.out (by simp))
  have B2gd := Lib.hid (hk_wz.heap Bgd.out (by simp))
  have HkW2 := Lib.hid (HkW.out.trans0 hk_wz)
  clear HkW hk_wz Bga Bgb Bgc Bgd
  have Bga := B2ga
  have Bgb := B2gb
  have Bgc := B2gc
  have Bgd := B2gd
  have HkW := HkW2
  clear HkW2 B2ga B2gb B2gc B2gd
  have pga := cell_of Bga.out
  have fga := frozen_of Bga.out
  have lga := lt_of_heap Bga.out
  have pgb := cell_of Bgb.out
  have fgb := frozen_of Bgb.out
  have lgb := lt_of_heap Bgb.out
  go_wp2_with fail
  clear pga pgb fga fgb lga lgb
  obtain ⟨W2, hW2, bga, hkW2⟩ := st2 (x := .bool nq) (y := .string sq) (Bga.out : (wz).heap[ga]? = _)
  rw [← hW2]
  clear Bga
  have Bga := Lib.hid bga
  clear hW2 bga
  have B2gb := Lib.hid (hkW2.heap Bgb.out (by simp; omega))
  clear Bgb
  have Bgb := B2gb
  clear B2gb
  have B2gc := Lib.hid (hkW2.heap Bgc.out (by simp; omega))
  clear Bgc
  have Bgc := B2gc
  clear B2gc
  have HkW2 := Lib.hid (HkW.out.trans hkW2 (by simp; omega))
  clear HkW hkW2
  have HkW := HkW2
  clear HkW2
  obtain ⟨W3, rfl⟩ : ∃ x : World, x = W2 := ⟨_, rfl⟩
  obtain ⟨W2, hW2, bgb, hkW2⟩ := st2 (x := .bool false) (y := .string sd) (Bgb.out : (W3).heap[gb]? = _)
  rw [← hW2]
  clear Bgb
  have Bgb := Lib.hid bgb
  clear hW2 bgb
  have B2ga := Lib.hid (hkW2.heap Bga.out (by simp; omega))
  clear Bga
  have Bga := B2ga
  clear B2ga
  have B2gc := Lib.hid (hkW2.heap Bgc.out (by simp; omega))
  clear Bgc
  have Bgc := B2gc
  clear B2gc
  have HkW2 := Lib.hid (HkW.out.trans hkW2 (by simp; omega))
  clear HkW hkW2
  have HkW := HkW2
  clear HkW2
  have kgb := kw_cells Bgb.out
  have Q1 : Hid (∀ m : KW W2, Calls Tryz.prog 137 #[] (Wk W2 m) fun e w' => e = .returned (.agg #[.bool n1, .string s1]) ∧ ∃ m, w' = Wk W2 m) := fun m => qk m (Hone.out _)
  clear Hone
  refine wp_region_keep (by kernel_rfl) (by kernel_rfl) ?_
  repeat (first
   | go_big_quiet_skip
   | (go_big_quiet_want; go_big_quiet_op; first | go_big_quiet_on | go_big_quiet_call (first
    | (go_at_call 137; with_reducible exact (Q1).out _))))
  refine wpQuiet_nil ?_
  rintro w9 ⟨⟨_, hk_w9⟩, rfl⟩
  clear kgb Q1 Bgd
  have B2ga := Lib.hid (hk_w9.heap Bga.out (by simp))
  have B2gb := Lib.hid (hk_w9.heap Bgb.out (by simp))
  have B2gc := Lib.hid (hk_w9.heap Bgc.out (by simp))
  have HkW2 := Lib.hid (HkW.out.trans0 hk_w9)
  clear HkW hk_w9 Bga Bgb Bgc
  have Bga := B2ga
  have Bgb := B2gb
  have Bgc := B2gc
  have HkW := HkW2
  clear HkW2 B2ga B2gb B2gc
  have pga := cell_of Bga.out
  have fga := frozen_of Bga.out
  have lga := lt_of_heap Bga.out
  have pgb := cell_of Bgb.out
  have fgb := frozen_of Bgb.out
  have lgb := lt_of_heap Bgb.out
  have pgc := cell_of Bgc.out
  have fgc := frozen_of Bgc.out
  have lgc := lt_of_heap Bgc.out
  go_wp2_with fail
  refine bodyPost_ret (v := .agg #[.bool nq, .string sq, .bool false, .string ⟨#[]⟩]) ?_ rfl ⟨rfl, by repeat (first | (with_reducible exact HkW.out) | (refine Keep.setPast ?_ _ _ _ (by omega)) | (refine Keep.allocPast ?_ _) | (refine Keep.drewPast ?_))⟩
  rw [results_cell1 rfl]; go_simp
 ·rw [dn_big h1]
  have hdt : decide (d' = 1) = false := by
   rw [decide_eq_false_iff_not]
   exact fun h => h1 (hd3.1 h)
  rw [hdt] at hdec
  generalize magS (Rat.divInt a b).den = sd at *
  clear hd3 h1 hdt
  go_enter Tryz.func129, Tryz.ntmps129
  go_wp2_with fail
  obtain ⟨W, ga, gb, gc, hW, ega, egb, egc, bga, bgb, bgc, hga, hgb, hgc, hgW, hkW⟩ := al3 w (.cells #[.bool na, .string sa] 27) (.cells #[.bool nb, .string sb] 27) (.cells #[.bool false, .string ⟨#[]⟩, .bool false, .string ⟨#[]⟩] 29)
  rw [← hW]
  try rw [egc]
  try rw [egb]
  try rw [ega]
  have Bga := Lib.hid bga
  have Bgb := Lib.hid bgb
  have Bgc := Lib.hid bgc
  have HkW := Lib.hid hkW
  clear hW hkW ega egb egc bga bgb bgc
  refine (Hs.out W).mono ?_
  rintro e w1 ⟨rfl, hk1⟩
  dsimp only
  clear Hs
  have B2ga := Lib.hid (hk1.heap Bga.out (by simp))
  have B2gb := Lib.hid (hk1.heap Bgb.out (by simp))
  have B2gc := Lib.hid (hk1.heap Bgc.out (by simp))
  have HkW2 := Lib.hid (HkW.out.trans0 hk1)
  clear HkW hk1 Bga Bgb Bgc
  have Bga := B2ga
  have Bgb := B2gb
  have Bgc := B2gc
  have HkW := HkW2
  clear HkW2 B2ga B2gb B2gc
  have pga := cell_of Bga.out
  have fga := frozen_of Bga.out
  have lga := lt_of_heap Bga.out
  have pgb := cell_of Bgb.out
  have fgb := frozen_of Bgb.out
  have lgb := lt_of_heap Bgb.out
  go_wp2_with fail
  refine (Hg.out w1).mono ?_
  rintro e w2 ⟨rfl, hk2⟩
  dsimp only
  clear Hg pga pgb fga fgb lga lgb
  have B2ga := Lib.hid (hk2.heap Bga.out (by simp))
  have B2gb := Lib.hid (hk2.heap Bgb.out (by simp))
  have B2gc := Lib.hid (hk2.heap Bgc.out (by simp))
  have HkW2 := Lib.hid (HkW.out.trans0 hk2)
  clear HkW hk2 Bga Bgb Bgc
  have Bga := B2ga
  have Bgb := B2gb
  have Bgc := B2gc
  have HkW := HkW2
  clear HkW2 B2ga B2gb B2gc
  have pga := cell_of Bga.out
  have fga := frozen_of Bga.out
  have lga := lt_of_heap Bga.out
  have pgb := cell_of Bgb.out
  have fgb := frozen_of Bgb.out
  have lgb := lt_of_heap Bgb.out
  have pgc := cell_of Bgc.out
  have fgc := frozen_of Bgc.out
  have lgc := lt_of_heap Bgc.out
  go_wp2_with fail
  obtain ⟨W2, gd, hW2, egd, bgd, hgd, hgW2, hkW2⟩ := al1 w2 (.cells #[.bool false, .string sg] 27)
  rw [← hW2]
  try rw [egd]
  have Bgd := Lib.hid bgd
  clear hW2 egd bgd
  clear pga pgb pgc fga fgb fgc lga lgb lgc
  have B2ga := Lib.hid (hkW2.heap Bga.out (by simp))
  have B2gb := Lib.hid (hkW2.heap Bgb.out (by simp))
  have B2gc := Lib.hid (hkW2.heap Bgc.out (by simp))
  have HkW2 := Lib.hid (HkW.out.trans0 hkW2)
  clear HkW hkW2 Bga Bgb Bgc
  have Bga := B2ga
  have Bgb := B2gb
  have Bgc := B2gc
  have HkW := HkW2
  clear HkW2 B2ga B2gb B2gc
  have kga := kw_cells Bga.out
  have kgb := kw_cells Bgb.out
  have kgd := kw_cells Bgd.out
  have Q1 : Hid (∀ m : KW W2, Calls Tryz.prog 160 #[.agg #[.bool na, .string sa], .agg #[.bool false, .string sg]] (Wk W2 m) fun e w' => e = .returned (.agg #[.bool nq, .string sq]) ∧ ∃ m, w' = Wk W2 m) := fun m => qk m (Hq1.out _)
  have Q2 : Hid (∀ m : KW W2, Calls Tryz.prog 160 #[.agg #[.bool nb, .string sb], .agg #[.bool false, .string sg]] (Wk W2 m) fun e w' => e = .returned (.agg #[.bool false, .string sd]) ∧ ∃ m, w' = Wk W2 m) := fun m => qk m (Hq2.out _)
  clear Hq1 Hq2
  refine wp_region_keep_tail 6 (by kernel_rfl) (by kernel_rfl) ?_
  simp only [List.take_succ_cons, List.take_zero, List.drop_succ_cons, List.drop_zero]
  repeat (first
   | go_big_quiet_skip
   | (go_big_quiet_want; go_big_quiet_op; first | go_big_quiet_on | go_big_quiet_call (first
    | (go_at_call 160; with_reducible exact (Q1).out _) | (go_at_call 160; with_reducible exact (Q2).out _))))
  refine wpQuiet_nil ?_
  rintro wz ⟨⟨_, hk_wz⟩, rfl⟩
  clear kga kgb kgd Q1 Q2
  have B2ga := Lib.hid (hk_wz.heap Bga.out (by simp))
  have B2gb := Lib.hid (hk_wz.heap Bgb.out (by simp))
  have B2gc := Lib.hid (hk_wz.heap Bgc.out (by simp))
  have B2gd := Lib.hid (hk_wz.heap Bgd.out (by simp))
  have HkW2 := Lib.hid (HkW.out.trans0 hk_wz)
  clear HkW hk_wz Bga Bgb Bgc Bgd
  have Bga := B2ga
  have Bgb := B2gb
  have Bgc := B2gc
  have Bgd := B2gd
  have HkW := HkW2
  clear HkW2 B2ga B2gb B2gc B2gd
  have pga := cell_of Bga.out
  have fga := frozen_of Bga.out
  have lga := lt_of_heap Bga.out
  have pgb := cell_of Bgb.out
  have fgb := frozen_of Bgb.out
  have lgb := lt_of_heap Bgb.out
  go_wp2_with fail
  clear pga pgb fga fgb lga lgb
  obtain ⟨W2, hW2, bga, hkW2⟩ := st2 (x := .bool nq) (y := .string sq) (Bga.out : (wz).heap[ga]? = _)
  rw [← hW2]
  clear Bga
  have Bga := Lib.hid bga
  clear hW2 bga
  have B2gb := Lib.hid (hkW2.heap Bgb.out (by simp; omega))
  clear Bgb
  have Bgb := B2gb
  clear B2gb
  have B2gc := Lib.hid (hkW2.heap Bgc.out (by simp; omega))
  clear Bgc
  have Bgc := B2gc
  clear B2gc
  have HkW2 := Lib.hid (HkW.out.trans hkW2 (by simp; omega))
  clear HkW hkW2
  have HkW := HkW2
  clear HkW2
  obtain ⟨W3, rfl⟩ : ∃ x : World, x = W2 := ⟨_, rfl⟩
  obtain ⟨W2, hW2, bgb, hkW2⟩ := st2 (x := .bool false) (y := .string sd) (Bgb.out : (W3).heap[gb]? = _)
  rw [← hW2]
  clear Bgb
  have Bgb := Lib.hid bgb
  clear hW2 bgb
  have B2ga := Lib.hid (hkW2.heap Bga.out (by simp; omega))
  clear Bga
  have Bga := B2ga
  clear B2ga
  have B2gc := Lib.hid (hkW2.heap Bgc.out (by simp; omega))
  clear Bgc
  have Bgc := B2gc
  clear B2gc
  have HkW2 := Lib.hid (HkW.out.trans hkW2 (by simp; omega))
  clear HkW hkW2
  have HkW := HkW2
  clear HkW2
  have kgb := kw_cells Bgb.out
  have Q1 : Hid (∀ m : KW W2, Calls Tryz.prog 137 #[] (Wk W2 m) fun e w' => e = .returned (.agg #[.bool n1, .string s1]) ∧ ∃ m, w' = Wk W2 m) := fun m => qk m (Hone.out _)
  clear Hone
  refine wp_region_keep (by kernel_rfl) (by kernel_rfl) ?_
  repeat (first
   | go_big_quiet_skip
   | (go_big_quiet_want; go_big_quiet_op; first | go_big_quiet_on | go_big_quiet_call (first
    | (go_at_call 137; with_reducible exact (Q1).out _))))
  refine wpQuiet_nil ?_
  rintro w9 ⟨⟨_, hk_w9⟩, rfl⟩
  clear kgb Q1 Bgd
  have B2ga := Lib.hid (hk_w9.heap Bga.out (by simp))
  have B2gb := Lib.hid (hk_w9.heap Bgb.out (by simp))
  have B2gc := Lib.hid (hk_w9.heap Bgc.out (by simp))
  have HkW2 := Lib.hid (HkW.out.trans0 hk_w9)
  clear HkW hk_w9 Bga Bgb Bgc
  have Bga := B2ga
  have Bgb := B2gb
  have Bgc := B2gc
  have HkW := HkW2
  clear HkW2 B2ga B2gb B2gc
  have pga := cell_of Bga.out
  have fga := frozen_of Bga.out
  have lga := lt_of_heap Bga.out
  have pgb := cell_of Bgb.out
  have fgb := frozen_of Bgb.out
  have lgb := lt_of_heap Bgb.out
  have pgc := cell_of Bgc.out
  have fgc := frozen_of Bgc.out
  have lgc := lt_of_heap Bgc.out
  go_wp2_with fail
  refine bodyPost_ret (v := .agg #[.bool nq, .string sq, .bool false, .string sd]) ?_ rfl ⟨rfl, by repeat (first | (with_reducible exact HkW.out) | (refine Keep.setPast ?_ _ _ _ (by omega)) | (refine Keep.allocPast ?_ _) | (refine Keep.drewPast ?_))⟩
  rw [results_cell1 rfl]; go_simp
end Go.Proofs.YteknldaoegccaaaGreatDoor
