/- Parts of a proof about this translation: Dv. -/
import Derived.Deep.DeepCutAuto
import Derived.Deep.CutBlock
import Derived.Test.YteknldaoegccaaaGreatDoorW06
set_option linter.unusedVariables false
set_option linter.unusedSimpArgs false
set_option maxRecDepth 100000
namespace Go.Proofs.YteknldaoegccaaaGreatDoor
open Go.RowKit
theorem cmp_neg {a b : Nat} (h : a < b) : Lib.compareInt (a : Int) b = -1 := by
 unfold Lib.compareInt
 rw [if_pos (by omega)]
theorem cmp_nn {a b : Nat} (h : b ≤ a) : 0 ≤ Lib.compareInt (a : Int) b := by
 unfold Lib.compareInt
 rw [if_neg (by omega)]
 split <;> omega
theorem can_top {s : ByteArray} (h : CanS s) (n : Nat) (h1 : (s.size + 3) / 4 = n) (h2 : 0 < s.size) : 4294967296 ^ (n - 1) ≤ natB s := by
 have h3 : ∃ b l, s.data.toList = b :: l := by
  rcases hl : s.data.toList with _ | ⟨b, l⟩
  ·have : s.data.toList.length = 0 := by rw [hl]; rfl
   rw [Array.length_toList] at this
   have : s.size = 0 := this
   omega
  ·exact ⟨b, l, rfl⟩
 obtain ⟨b, l, hl⟩ := h3
 have hlen : l.length + 1 = s.size := by
  have : s.data.toList.length = l.length + 1 := by rw [hl]; rfl
  rw [Array.length_toList] at this
  exact this.symm
 unfold natB
 unfold CanS at h
 rw [hl] at h ⊢
 have h4 := natL_ge (l := l) (h b rfl)
 refine Nat.le_trans ?_ h4
 rw [show (4294967296 : Nat) = 256 ^ 4 from rfl, ← Nat.pow_mul]
 exact Nat.pow_le_pow_right (by decide) (by omega)
theorem kw_cell {w : World} {b i : Nat} {cs : Array Value} {t : TypeId} {f : Nat × Nat} {v : Value} (h : w.heap[b]? = some (.cells cs t f)) (hc : w.cell? ⟨b, i, none⟩ = some v) (m : KW w) : (Wk w m).cell? ⟨b, i, none⟩ = some v := by
 show m.x.cell? _ = _
 rw [cell_of (m.k.heap h (by simp)), ← cell_of h]; exact hc
theorem kn_S {B n j Y Z g : Nat} (h : g * Y * B ^ j < B ^ (j + n + 1)) (hB : 0 < B) : Z + B ^ (j + n + 1) - g * Y * B ^ j = Z + B ^ j * (B ^ (n + 1) - g * Y) := by
 have e : B ^ (j + n + 1) = B ^ j * B ^ (n + 1) := by rw [← Nat.pow_add, Nat.add_assoc]
 rw [e] at h ⊢
 have e2 : g * Y * B ^ j = B ^ j * (g * Y) := Nat.mul_comm _ _
 rw [e2] at h ⊢
 rw [Nat.mul_sub, ← Nat.add_sub_assoc (Nat.le_of_lt h)]
theorem kn_b0 {B n j Y Z g : Nat} : carryS B j (Z + B ^ (j + n + 1)) (g * Y * B ^ j) = 0 := by
 unfold carryS
 rw [if_neg]
 rw [Nat.mul_mod_left]; exact Nat.not_lt_zero _
theorem carryS_le (B i X Y : Nat) : carryS B i X Y ≤ 1 := by unfold carryS; split <;> omega
theorem kn_end {B n g Y : Nat} (hB : 0 < B) (hY : Y < B ^ n) (hg : g < B) : (carryM B n 0 g Y + g * (Y / B ^ n % B)) % B = carryM B n 0 g Y := by
 rw [Nat.div_eq_of_lt hY, Nat.zero_mod, Nat.mul_zero, Nat.add_zero, Nat.mod_eq_of_lt (carryM_lt hB _ _ _ _ hg)]
set_option maxHeartbeats 8000000 in
theorem div_knuth (s t : ByteArray) (hs : s.size ≤ 100000000000) (ht : t.size ≤ 100000000000) (cs : CanS s) (ct : CanS t) (hle : natB t ≤ natB s) (h4 : 4 < t.size) (h8 : ¬ (s.size ≤ 8 ∧ t.size ≤ 8)) (w : World) :
  Calls Tryz.prog 176 #[.string s, .string t] w fun e w' => e = .returned (.tuple #[.string (magS (natB s / natB t)), .string (magS (natB s % natB t))]) ∧ Keep [] w w' := by
 have Hw := Lib.hid (words_e s t h8 (by unfold maxLen; omega) (by unfold maxLen; omega) w)
 have Hcmp := Lib.hid (compare_c s t cs ct)
 have hc0 := cmp_nn hle
 obtain ⟨nx, A, eA, _, hnx, hA, Hds⟩ := digits_v s (by omega)
 obtain ⟨n, D, eD, en, hn, hD, Hdt⟩ := digits_v t (by omega)
 have htop := can_top ct n en (by omega)
 rw [eA, eD] at hle hc0 Hcmp
 rw [eD] at htop
 rw [eA, eD]
 have hn2 : 2 ≤ n := by omega
 obtain ⟨by_, top, hby, etop, htop9, hbl, eby, hY, hY2, hnnx, hAq⟩ := kn_prep hn2 hA hD htop hle
 generalize Lib.compareInt (A : Int) D = c at *
 clear h8 hs ht eA eD en h4 hle htop cs ct
 have Hds := Lib.hid Hds
 have Hdt := Lib.hid Hdt
 have HA := Lib.hid hA
 have HD := Lib.hid hD
 have HY := Lib.hid hY
 have HY2 := Lib.hid hY2
 have HAq := Lib.hid hAq
 have Htop := Lib.hid etop
 have hlz := fun w => Tryz.bits_LeadingZeros32 (top : Int) w (by omega) (by omega)
 rw [Int.toNat_natCast, show (32 : Int) - (Lib.bitLen top : Int) = (by_ : Int) by omega] at hlz
 have Hlz := Lib.hid hlz
 have hn1 : ((n : Int) == 1) = false := by rw [beq_eq_false_iff_ne]; omega
 clear hA hD hY hY2 hAq etop hlz hbl eby
 go_enter Tryz.func176, Tryz.ntmps176
 go_wp2_with fail
 refine Hw.out.mono ?_
 rintro e w1 ⟨⟨_, _, rfl⟩, rfl⟩
 dsimp only
 go_wp2_with fail
 refine (Hcmp.out w1).mono ?_
 rintro e w2 ⟨rfl, hk2⟩
 dsimp only
 have Hk2 := Lib.hid hk2
 clear hk2 Hcmp
 go_wp2_with fail
 refine (Hdt.out w2).mono ?_
 rintro e w3 ⟨rfl, hk3, hd3⟩
 dsimp only
 have Hk3 := Lib.hid (Hk2.out.trans0 hk3)
 have Hd3 := Lib.hid hd3
 have htc := dl_cells hd3 (n - 1) (by omega)
 rw [Htop.out] at htc
 have hld := lt_of_heap hd3
 clear hk3 hd3 Hk2 Hdt Hw Htop
 generalize w2.heap.size = gd at *
 have hi1 : ((n : Int) - 1).toNat = n - 1 := by omega
 go_wp2_with fail
 refine (Hlz.out w3).mono ?_
 rintro e w4 ⟨rfl, rfl⟩
 dsimp only
 clear Hlz htc
 go_wp2_with fail
 refine (Hds.out w4).mono ?_
 rintro e w5 ⟨rfl, hk5, hx5⟩
 dsimp only
 have Hshx := Lib.hid (shifted_c w5 w4.heap.size nx nx A by_ (Nat.le_refl _) (by omega) HA.out hby hx5)
 have Hd5 := Lib.hid (hk5.heap Hd3.out (by simp))
 have Hk5 := Lib.hid (Hk3.out.trans0 hk5)
 clear hk5 hx5 Hk3 Hd3 Hds
 go_wp2_with fail
 refine Hshx.out.mono ?_
 rintro e w6 ⟨rfl, hk6, hx6⟩
 dsimp only
 have hd6 := hk6.heap Hd5.out (by simp)
 have Hshd := Lib.hid (shifted_c w6 gd n n D by_ (Nat.le_refl _) (by omega) HD.out hby hd6)
 have Hx6 := Lib.hid hx6
 have hlx6 := lt_of_heap hx6
 have hgxw := Hk5.out.size
 have Hk6 := Lib.hid (Hk5.out.trans0 hk6)
 clear hk6 hx6 hd6 Hk5 Hd5 Hshx
 go_wp2_with fail
 refine Hshd.out.mono ?_
 rintro e w7 ⟨rfl, hk7, hy7⟩
 dsimp only
 have Hx7 := Lib.hid (hk7.heap Hx6.out (by simp))
 have Hy7 := Lib.hid hy7
 have Hk7 := Lib.hid (Hk6.out.trans0 hk7)
 have hlx7 := lt_of_heap Hx7.out
 have hly7 := lt_of_heap hy7
 clear hk7 hy7 Hx6 Hk6 Hshd
 generalize w5.heap.size = gx at *
 generalize w6.heap.size = gy at *
 have HQ : Hid (A * 2 ^ by_ / (D * 2 ^ by_) = A / D) := Nat.mul_div_mul_right _ _ (Nat.pow_pos (by decide))
 have HRm : Hid (A * 2 ^ by_ % (D * 2 ^ by_) / 2 ^ by_ = A % D) := by
  show _ = _
  rw [Nat.mul_mod_mul_right, Nat.mul_div_cancel _ (Nat.pow_pos (by decide))]
 obtain ⟨Lq, hLq⟩ : ∃ Lq, nx + 1 - n = Lq := ⟨_, rfl⟩
 rw [hLq] at HAq
 generalize D * 2 ^ by_ = Y at *
 generalize A * 2 ^ by_ = Av at *
 generalize hLx : nx + 1 = L at *
 have hsub : (L : Int) - (n : Int) = (Lq : Int) := by omega
 have hLLq : L = n + Lq := by omega
 have hL9 : L ≤ 30000000000 := by omega
 have hLq1 : 1 ≤ Lq := by omega
 have hLq9 : Lq ≤ 30000000000 := by omega
 have HLLq := Lib.hid hLLq
 have hmk := make_nat w7 Lq (by omega)
 clear hLx hLq hLLq HA HD
 go_wp2_with fail
 clear hmk hsub
 go_loopw [16] (fun x wr => ∃ J : Nat, J ≤ Lq ∧ x = .int .i64 ((J : Int) - 1) ∧ Keep [gx] w7 wr ∧ wr.heap[gx]? = some (.cells (u32s (dl 4294967296 L (Av % (Y * 4294967296 ^ J)))).toArray 165 (0, 0)) ∧ wr.heap[w7.heap.size]? = some (.cells (u32s (mixd 4294967296 Lq J (Av / Y) 0)).toArray 165 (0, 0))) (fun x _ => (intOf x + 1).toNat)
 case atStart =>
  refine ⟨Lq, Nat.le_refl _, rfl, (Keep.alloc _ _ _), ?_, ?_⟩
  ·rw [Nat.mod_eq_of_lt HAq.out]
   rw [show (w7.alloc _).heap[gx]? = w7.heap[gx]? from Below.heap_alloc w7 _ gx hlx7]
   exact Hx7.out
  ·rw [mixd_full, dl_zero]; exact World.alloc_heap_new w7 _
 case round =>
  obtain ⟨J, hJ, rfl, hkp, hxw, how⟩ := hrel
  obtain ⟨wo, rfl⟩ : ∃ wo : World, wo = wr := ⟨_, rfl⟩
  by_cases hJ0 : J = 0
  ·subst hJ0
   have hYpos : 0 < Y := by
    rcases Nat.eq_zero_or_pos Y with h | h
    ·have h2 := HY2.out
     rw [h] at h2
     have := Nat.pow_pos (n := n) (show 0 < 4294967296 by decide)
     omega
    ·exact h
   rw [Nat.pow_zero, Nat.mul_one] at hxw
   rw [mixd_zero] at how
   have hR : Av % Y < 4294967296 ^ n := Nat.lt_trans (Nat.mod_lt _ hYpos) HY.out
   have hR2 : Av % Y / 2 ^ by_ < 4294967296 ^ n := Nat.lt_of_le_of_lt (Nat.div_le_self _ _) hR
   have hQ : Av / Y < 4294967296 ^ Lq := by rw [Nat.div_lt_iff_lt_mul hYpos, Nat.mul_comm]; exact HAq.out
   have HR2 := Lib.hid hR2
   have HQl := Lib.hid hQ
   have Hxw := Lib.hid hxw
   have How := Lib.hid how
   have Hkp := Lib.hid hkp
   have hmk := make_nat wo n (by omega)
   have hp := Nat.pow_le_pow_right (n := 2) (by decide) (show by_ ≤ 31 from hby)
   have hLLq := HLLq.out
   have HRm2 := HRm
   have hgoL := lt_of_heap how
   clear hxw how hkp hR hR2 hQ HRm hLLq
   generalize Av % Y = R at *
   go_wp2_with fail
   clear hmk
   go_loopw [277] (fun iv wx => ∃ i : Nat, i ≤ n ∧ iv = .int .i64 (i : Int) ∧ Keep [] wo wx ∧ wx.heap[wo.heap.size]? = some (.cells (u32s (mixd 4294967296 n i 0 (R / 2 ^ by_))).toArray 165 (0, 0))) (fun iv _ => n - (intOf iv).toNat)
   case atStart => exact ⟨0, by omega, rfl, Keep.alloc _ _ _, by rw [mixd_zero, dl_zero]; exact World.alloc_heap_new wo _⟩
   case round =>
    obtain ⟨i, hi, rfl, hkw, hrw⟩ := hrel
    by_cases hlt : i < n
    ·have hL := HLLq.out
     have hxw := hkw.heap Hxw.out (by simp)
     have c1 := dl_cells hxw (i + 1) (by omega)
     have c0 := dl_cells hxw i (by omega)
     have hb := kn_back (R := R) (i := i) hby
     have hset := Lib.hid (mixd_set 4294967296 n i 0 (R / 2 ^ by_) hlt)
     have hrc := mixd_cells hrw hlt
     rw [Nat.zero_div, Nat.zero_mod] at hrc
     have a9 := Nat.mod_lt (R / 4294967296 ^ (i + 1)) (show 0 < 4294967296 by decide)
     have b9 := Nat.mod_lt (R / 4294967296 ^ i) (show 0 < 4294967296 by decide)
     generalize R / 4294967296 ^ (i + 1) % 4294967296 = x1 at *
     generalize R / 4294967296 ^ i % 4294967296 = x0 at *
     have hor := or_lh x1 x0 a9 b9
     obtain ⟨N, hN⟩ : ∃ N, x1 * 4294967296 + x0 = N := ⟨_, rfl⟩
     have hN9 : N < 18446744073709551616 := by omega
     rw [hN] at hb hor
     have k1 := kw_cell hxw c1
     have k0 := kw_cell hxw c0
     have hsh : ((N : Int) / 2 ^ by_) = ((N / 2 ^ by_ : Nat) : Int) := by push_cast; rfl
     have hN2 : N / 2 ^ by_ ≤ N := Nat.div_le_self _ _
     have hi1 : ((i : Int) + 1).toNat = i + 1 := by omega
     have hi2 : i + 1 < L := by omega
     have hi3 : i < L := by omega
     have Hb := Lib.hid hb
     have Hkw := Lib.hid hkw
     have Hrw := Lib.hid hrw
     clear hN hb hxw c1 c0 hkw hrw hL
     generalize N / 2 ^ by_ = N2 at *
     go_wp2_with fail
     refine wp_region_keep_tail 19 (by kernel_rfl) (by kernel_rfl) ?_
     simp only [List.take_succ_cons, List.take_zero, List.drop_succ_cons, List.drop_zero]
     repeat (first
      | go_big_quiet_skip
      | (go_big_quiet_want; go_big_quiet_op; go_big_quiet_on))
     refine wpQuiet_nil ?_
     rintro wq ⟨⟨_, hk_wq⟩, rfl⟩
     have hrq := hk_wq.heap Hrw.out (by simp)
     have hlq := lt_of_heap hrq
     have hfq := frozen_of hrq
     have hcq : wq.cell? ⟨wo.heap.size, i, none⟩ = some (.int .u32 ((0 : Nat) : Int)) := by rw [cell_of hrq, ← cell_of Hrw.out]; exact hrc
     have Hrq := Lib.hid hrq
     have Hkq := Lib.hid (Hkw.out.trans0 hk_wq)
     clear hrq hk_wq k1 k0 hrc hor
     go_wp2_with fail
     go_roundw
     case rel =>
      refine ⟨i + 1, by omega, by go_num, Hkq.out.setPast _ _ _ (Nat.le_refl _), ?_⟩
      have e : ((N2 : Int) % 4294967296) = ((N2 % 4294967296 : Nat) : Int) := by omega
      first
       | rw [set_same Hrq.out, e, Hb.out, List.setIfInBounds_toArray, u32s_set, hset.out]
       | rw [set_same Hrq.out, hsh, e, Hb.out, List.setIfInBounds_toArray, u32s_set, hset.out]
     case measure => simp [intOf]; omega
    ·obtain rfl : i = n := by omega
     have how2 := hkw.heap How.out (by simp)
     rw [mixd_full] at hrw
     have Hby1 := Lib.hid (bytes_dl how2 HQl.out (by omega))
     have Hrw := Lib.hid hrw
     have Hkw := Lib.hid hkw
     clear how2 hrw hkw
     go_wp2_with fail
     refine Hby1.out.mono ?_
     rintro e wz ⟨rfl, hkz⟩
     dsimp only
     have Hby2 := Lib.hid (bytes_dl (hkz.heap Hrw.out (by simp)) HR2.out (by omega))
     have Hkz := Lib.hid hkz
     clear hkz Hby1
     go_wp2_with fail
     refine Hby2.out.mono ?_
     rintro e wz2 ⟨rfl, hkz2⟩
     dsimp only
     have Hkz2 := Lib.hid hkz2
     clear hkz2 Hby2
     go_wp2_with fail
     go_ret2
     refine ⟨?_, ((((Hk7.out.trans Hkp.out (by simp; omega)).trans0 Hkw.out).trans0 Hkz.out).trans0 Hkz2.out)⟩
     rw [HQ.out, HRm2.out]; rfl
  ·obtain ⟨j, rfl⟩ : ∃ j, J = j + 1 := ⟨J - 1, by omega⟩
   rw [show (((j + 1 : Nat) : Int) - 1) = (j : Int) by omega]
   obtain ⟨Z, hZe⟩ : ∃ Z, Av % (Y * 4294967296 ^ (j + 1)) = Z := ⟨_, rfl⟩
   have hYpos : 0 < Y := by
    rcases Nat.eq_zero_or_pos Y with h | h
    ·have h2 := HY2.out
     rw [h] at h2
     have := Nat.pow_pos (n := n) (show 0 < 4294967296 by decide)
     omega
    ·exact h
   have hZ : Z < Y * 4294967296 ^ (j + 1) := by rw [← hZe]; exact Nat.mod_lt _ (Nat.mul_pos hYpos (Nat.pow_pos (by decide)))
   have hR : Z / 4294967296 ^ j < Y * 4294967296 := by
    rw [Nat.div_lt_iff_lt_mul (Nat.pow_pos (by decide)), Nat.mul_assoc, ← Nat.pow_succ']; exact hZ
   obtain ⟨y1, y2, xt, x1, x2, q, ey1, ey2, ext, ex1, ex2, eq, hq9, hy1, hy19, hy29, hxt9, hx19, hx29, hhi, hqg, hdec, hgood⟩ := kn_facts (by decide) hn2 HY.out HY2.out hR
   have HZe := Lib.hid hZe
   rw [hZe] at hxw
   have hyw := hkp.heap Hy7.out (by simp; omega)
   have cy1 := dl_cells hyw (n - 1) (by omega)
   have cy2 := dl_cells hyw (n - 2) (by omega)
   have hL := HLLq.out
   have cxt := dl_cells hxw (j + n) (by omega)
   have cx1 := dl_cells hxw (j + (n - 1)) (by omega)
   have cx2 := dl_cells hxw (j + (n - 2)) (by omega)
   rw [div_pow_add, ext] at cxt
   rw [div_pow_add, ex1] at cx1
   rw [div_pow_add, ex2] at cx2
   rw [ey1] at cy1
   rw [ey2] at cy2
   have hor := or_lh xt x1 hxt9 hx19
   have hor2 := fun r => or_lh r x2
   have i1 : ((j : Int) + (n : Int) - 1).toNat = j + (n - 1) := by omega
   have i2 : ((j : Int) + (n : Int) - 2).toNat = j + (n - 2) := by omega
   have i3 : ((n : Int) - 1).toNat = n - 1 := by omega
   have i4 : ((n : Int) - 2).toNat = n - 2 := by omega
   have kxt := kw_cell hxw cxt
   have kx1 := kw_cell hxw cx1
   have ky1 := kw_cell hyw cy1
   have Hxw := Lib.hid hxw
   have Hyw := Lib.hid hyw
   have How := Lib.hid how
   have Hkp := Lib.hid hkp
   have Cxt := Lib.hid cxt
   have Cx2 := Lib.hid cx2
   have Cy1 := Lib.hid cy1
   have Cy2 := Lib.hid cy2
   have Eq := Lib.hid eq
   have Hdec := Lib.hid hdec
   have Hgood := Lib.hid hgood
   have hjn : j + n < L := by omega
   have hJ' : j < Lq := by omega
   clear hxw hyw how hkp eq hdec hgood ey1 ey2 ext ex1 ex2 hZe hL hJ0 hR cxt cx1 cx2 cy1 cy2
   obtain ⟨hi, hhie⟩ : ∃ hi, xt * 4294967296 + x1 = hi := ⟨_, rfl⟩
   rw [hhie] at hor hhi hqg
   have Hhi := Lib.hid hhie
   have hi64 : hi < 18446744073709551616 := by omega
   have hq1 := Nat.div_add_mod hi y1
   have hr1 := Nat.mod_lt hi hy1
   have ed : (hi : Int) / (y1 : Int) = ((hi / y1 : Nat) : Int) := by push_cast; rfl
   have ed2 : IntKind.u64.wrap ((hi / y1 : Nat) : Int) = ((hi / y1 : Nat) : Int) := by
    have := Nat.div_le_self hi y1
    rw [IntKind.wrap_u64]; omega
   have em : (hi : Int) % (y1 : Int) = ((hi % y1 : Nat) : Int) := by push_cast; rfl
   have hdne : ((y1 : Int) == 0) = false := by rw [beq_eq_false_iff_ne]; omega
   have Hq1 := Lib.hid hq1
   have Em := Lib.hid em
   generalize hi / y1 = g0 at *
   generalize hi % y1 = r0 at *
   clear hq1 hhie
   go_wp2_with fail
   refine wp_region_keep (by kernel_rfl) (by kernel_rfl) ?_
   repeat (first
    | go_big_quiet_skip
    | (go_big_quiet_want; go_big_quiet_op; go_big_quiet_on))
   refine wpQuiet_nil ?_
   rintro wa ⟨⟨_, hk_wa⟩, rfl⟩
   have hxa := hk_wa.heap Hxw.out (by simp)
   have hya := hk_wa.heap Hyw.out (by simp)
   have ky1 := kw_cell hya (by rw [cell_of hya, ← cell_of Hyw.out]; exact Cy1.out)
   have Hk_wa := Lib.hid hk_wa
   clear hk_wa hxa hya kxt kx1
   go_wp2_with fail
   refine wp_region_keep (by kernel_rfl) (by kernel_rfl) ?_
   repeat (first
    | go_big_quiet_skip
    | (go_big_quiet_want; go_big_quiet_op; go_big_quiet_on))
   refine wpQuiet_nil ?_
   rintro wb ⟨⟨_, hk_wb⟩, rfl⟩
   have hkb := Hk_wa.out.trans0 hk_wb
   clear Hk_wa hk_wb ky1 i1 i3 ed ed2 em hor hdne
   have Hkb := Lib.hid hkb
   clear hkb
   go_upto_block 2 with fail
   go_cut [18] (fun gv wx => ∃ g : Nat, gv = .int .u64 (g : Int) ∧ q ≤ g ∧ g ≤ q + 1 ∧ g < 4294967296 ∧ Keep [] wo wx)
   case first =>
    go_wp2_with fail
    go_loopw [18, 19] (fun gv rv wx => ∃ g r : Nat, gv = .int .u64 (g : Int) ∧ rv = .int .u64 (r : Int) ∧ y1 * g + r = hi ∧ q ≤ g ∧ r < 4294967296 ∧ Keep [] wo wx) (fun gv _ _ => (intOf gv).toNat)
    case atStart => exact ⟨g0, r0, rfl, congrArg (Value.int .u64) Em.out, Hq1.out, hqg, by omega, Hkb.out⟩
    case round =>
     obtain ⟨g, r, rfl, rfl, hsum, hqg', hr9, hkw⟩ := hrel
     have hxa := hkw.heap Hxw.out (by simp)
     have hya := hkw.heap Hyw.out (by simp)
     have kx2 := kw_cell hxa (by rw [cell_of hxa, ← cell_of Hxw.out]; exact Cx2.out)
     have ky2 := kw_cell hya (by rw [cell_of hya, ← cell_of Hyw.out]; exact Cy2.out)
     have ky1 := (by rw [cell_of hya, ← cell_of Hyw.out]; exact Cy1.out : wr.cell? ⟨gy, n - 1, none⟩ = some (.int .u32 (y1 : Int)))
     have Hya := Lib.hid hya
     have Hkw := Lib.hid hkw
     have Hsum := Lib.hid hsum
     have Hqg := Lib.hid hqg'
     have Ky1 := Lib.hid ky1
     clear hxa hya hkw hsum hqg' ky1
     by_cases hbig : 4294967296 ≤ g
     ·have hd1 : decide ((4294967296 : Int) ≤ (g : Int)) = true := by simp; omega
      have hi64' : g < 18446744073709551616 := by
       have := Hsum.out
       have h2 : 1 * g ≤ y1 * g := Nat.mul_le_mul_right _ hy1
       omega
      clear kx2 ky2 hor2
      go_wp2_with fail
      refine wp_region_keep (by kernel_rfl) (by kernel_rfl) ?_
      repeat (first
       | go_big_quiet_skip
       | (go_big_quiet_want; go_big_quiet_op; go_big_quiet_on))
      refine wpQuiet_nil ?_
      rintro wc ⟨⟨_, hk_wc⟩, rfl⟩
      have hqlt : q < g := by omega
      have hyc := hk_wc.heap Hya.out (by simp)
      have cyc : wc.cell? ⟨gy, n - 1, none⟩ = some (.int .u32 (y1 : Int)) := by rw [cell_of hyc, ← cell_of Hya.out]; exact Ky1.out
      have Hkc := Lib.hid (Hkw.out.trans0 hk_wc)
      have hsum1 : y1 * (g - 1) + (r + y1) = hi := by
       have h1 : y1 * g = y1 * (g - 1) + y1 := by rw [← Nat.mul_succ]; congr 1; omega
       have := Hsum.out
       omega
      have Hsum1 := Lib.hid hsum1
      have hi3 : ((n : Int) - 1).toNat = n - 1 := by omega
      clear hk_wc hyc hsum1
      by_cases hb : 4294967296 ≤ r + y1
      ·have hd3 : decide ((4294967296 : Int) ≤ (r : Int) + (y1 : Int)) = true := by simp; omega
       go_wp2_with fail
       go_meet
       have hglt : g - 1 < 4294967296 := by
        rcases Nat.lt_or_ge (g - 1) 4294967296 with h | h
        ·exact h
        ·exfalso
         have h1 : y1 * 4294967296 ≤ y1 * (g - 1) := Nat.mul_le_mul_left _ h
         have := Hsum1.out
         omega
       have hsum2 : (g - 1) * y1 + (r + y1) = xt * 4294967296 + x1 := by rw [Nat.mul_comm, Hhi.out]; exact Hsum1.out
       exact ⟨g - 1, congrArg (Value.int .u64) (by omega), by omega, Hgood.out _ hglt (kn_good hsum2 (kn_good2 hsum2 hglt hy29 hb)), hglt, Hkc.out⟩
      ·have hd3 : decide ((4294967296 : Int) ≤ (r : Int) + (y1 : Int)) = false := by simp; omega
       go_wp2_with fail
       go_roundw
       case rel => exact ⟨g - 1, r + y1, congrArg (Value.int .u64) (by omega), congrArg (Value.int .u64) (by omega), Hsum1.out, by omega, by omega, Hkc.out⟩
       case measure => simp [intOf]; omega
     ·have hd1 : decide ((4294967296 : Int) ≤ (g : Int)) = false := by simp; omega
      obtain ⟨G, hG⟩ : ∃ G, g * y2 = G := ⟨_, rfl⟩
      have hG9 : G ≤ 4294967295 * 4294967295 := by rw [← hG]; exact Nat.mul_le_mul (by omega) (by omega)
      have hG1 : (g : Int) * (y2 : Int) = (G : Int) := by rw [← hG]; push_cast; rfl
      have hG2 : IntKind.u64.wrap (G : Int) = (G : Int) := by rw [IntKind.wrap_u64]; omega
      have hor3 := hor2 r hr9 hx29
      obtain ⟨T, hT⟩ : ∃ T, r * 4294967296 + x2 = T := ⟨_, rfl⟩
      have hT9 : T < 18446744073709551616 := by omega
      rw [hT] at hor3
      have HG := Lib.hid hG
      have HT := Lib.hid hT
      clear hG hT hor2
      by_cases hbad : T < G
      ·have hd2 : decide ((T : Int) < (G : Int)) = true := by simpa using hbad
       have hqlt : q < g := Hdec.out g r (by rw [Nat.mul_comm, Hhi.out]; exact Hsum.out) (by rw [HT.out, HG.out]; exact hbad)
       go_wp2_with fail
       refine wp_region_keep (by kernel_rfl) (by kernel_rfl) ?_
       repeat (first
        | go_big_quiet_skip
        | (go_big_quiet_want; go_big_quiet_op; go_big_quiet_on))
       refine wpQuiet_nil ?_
       rintro wc ⟨⟨_, hk_wc⟩, rfl⟩
       clear kx2 ky2 hG1 hG2 hor3 hd2
       have hyc := hk_wc.heap Hya.out (by simp)
       have cyc : wc.cell? ⟨gy, n - 1, none⟩ = some (.int .u32 (y1 : Int)) := by rw [cell_of hyc, ← cell_of Hya.out]; exact Ky1.out
       have Hkc := Lib.hid (Hkw.out.trans0 hk_wc)
       have hsum1 : y1 * (g - 1) + (r + y1) = hi := by
        have h1 : y1 * g = y1 * (g - 1) + y1 := by rw [← Nat.mul_succ]; congr 1; omega
        have := Hsum.out
        omega
       have Hsum1 := Lib.hid hsum1
       have hi3 : ((n : Int) - 1).toNat = n - 1 := by omega
       clear hk_wc hyc hsum1
       by_cases hb : 4294967296 ≤ r + y1
       ·have hd3 : decide ((4294967296 : Int) ≤ (r : Int) + (y1 : Int)) = true := by simp; omega
        go_wp2_with fail
        go_meet
        have hglt : g - 1 < 4294967296 := by
         rcases Nat.lt_or_ge (g - 1) 4294967296 with h | h
         ·exact h
         ·exfalso
          have h1 : y1 * 4294967296 ≤ y1 * (g - 1) := Nat.mul_le_mul_left _ h
          have := Hsum1.out
          omega
        have hsum2 : (g - 1) * y1 + (r + y1) = xt * 4294967296 + x1 := by rw [Nat.mul_comm, Hhi.out]; exact Hsum1.out
        exact ⟨g - 1, congrArg (Value.int .u64) (by omega), by omega, Hgood.out _ hglt (kn_good hsum2 (kn_good2 hsum2 hglt hy29 hb)), hglt, Hkc.out⟩
       ·have hd3 : decide ((4294967296 : Int) ≤ (r : Int) + (y1 : Int)) = false := by simp; omega
        go_wp2_with fail
        go_roundw
        case rel => exact ⟨g - 1, r + y1, congrArg (Value.int .u64) (by omega), congrArg (Value.int .u64) (by omega), Hsum1.out, by omega, by omega, Hkc.out⟩
        case measure => simp [intOf]; omega
      ·have hd2 : decide ((T : Int) < (G : Int)) = false := by simpa using hbad
       have hgood := Hgood.out g (by omega) (kn_good (rest := r) (by rw [Nat.mul_comm, Hhi.out]; exact Hsum.out) (by rw [HT.out, HG.out]; omega))
       have Hgood2 := Lib.hid hgood
       clear hgood
       go_wp2_with fail
       refine wp_region_keep (by kernel_rfl) (by kernel_rfl) ?_
       repeat (first
        | go_big_quiet_skip
        | (go_big_quiet_want; go_big_quiet_op; go_big_quiet_on))
       refine wpQuiet_nil ?_
       rintro wc ⟨⟨_, hk_wc⟩, rfl⟩
       have Hkc := Lib.hid (Hkw.out.trans0 hk_wc)
       clear hk_wc kx2 ky2 hG1 hG2 hor3 hd2
       go_wp2_with fail
       go_meet
       exact ⟨g, rfl, Hqg.out, Hgood2.out, by omega, Hkc.out⟩
   case rest =>
    obtain ⟨g, rfl, hg1, hg2, hg9, hkc⟩ := hcut
    obtain ⟨hW1, hW2⟩ := kn_W (Z := Z) (j := j) (show 0 < 4294967296 by decide) HY.out (by rw [Eq.out]; exact hg2) hg9
    obtain ⟨hleft1, hleft2⟩ := kn_left (show 0 < 4294967296 by decide) HY.out hZ Eq.out hg1 hg2 hg9
    have hkd := fun i hi => kn_digit (i := i) (show 0 < 4294967296 by decide) hi hW1
    have hS := kn_S (Z := Z) hW2 (by decide)
    have hb0 : carryS 4294967296 j (Z + 4294967296 ^ (j + n + 1)) (g * Y * 4294967296 ^ j) = 0 := kn_b0
    have hlast := kn_last (B := 4294967296) (k := j + n + 1) rfl (Z := Z) (by
     refine Nat.lt_trans hZ ?_
     rw [show j + n + 1 = n + (j + 1) by omega, Nat.pow_add 4294967296 n (j + 1)]
     exact Nat.mul_lt_mul_of_pos_right HY.out (Nat.pow_pos (show 0 < 4294967296 by decide))) hW2
    have hZM : Z < 4294967296 ^ (j + n + 1) := by
     refine Nat.lt_trans hZ ?_
     rw [show j + n + 1 = n + (j + 1) by omega, Nat.pow_add 4294967296 n (j + 1)]
     exact Nat.mul_lt_mul_of_pos_right HY.out (Nat.pow_pos (show 0 < 4294967296 by decide))
    generalize hMe : 4294967296 ^ (j + n + 1) = M at *
    generalize hWe : g * Y * 4294967296 ^ j = Wg at *
    obtain ⟨S2, hS2⟩ : ∃ S2, Z + M - Wg = S2 := ⟨_, rfl⟩
    simp only [hS2] at hkd hleft1 hleft2 hS
    have Hkd := Lib.hid hkd
    have Hl1 := Lib.hid hleft1
    have Hl2 := Lib.hid hleft2
    have HS := Lib.hid hS
    have Hb0 := Lib.hid hb0
    have Hlast := Lib.hid hlast
    have HZM := Lib.hid hZM
    have HM := Lib.hid hMe
    have Hkc := Lib.hid hkc
    have Hxc := Lib.hid (hkc.heap Hxw.out (by simp))
    clear hkd hleft1 hleft2 hS hb0 hlast hZM hMe hWe hS2 hkc hW1 hW2 Hdec Hgood hhi hqg hr1 hi64 hor2 Hq1 Em
    obtain ⟨wd, rfl⟩ : ∃ wd : World, wd = wc := ⟨_, rfl⟩
    have hi3 : ((n : Int) - 1).toNat = n - 1 := by omega
    go_wp2_with fail
    go_loopw [20, 21, 168] (fun bv cv iv wx => ∃ i : Nat, i ≤ n ∧ iv = .int .i64 (i : Int) ∧ cv = .int .u64 (carryM 4294967296 i 0 g Y : Nat) ∧ bv = .int .i64 (carryS 4294967296 (j + i) (Z + M) Wg : Nat) ∧ Keep [gx] wo wx ∧ wx.heap[gx]? = some (.cells (u32s (mixd 4294967296 L (j + i) Z S2)).toArray 165 (0, 0))) (fun _ _ iv _ => n - (intOf iv).toNat)
    case atStart =>
     refine ⟨0, by omega, rfl, by rw [carryM_zero]; rfl, by rw [Nat.add_zero, Hb0.out]; rfl, Hkc.out.mono (by simp), ?_⟩
     rw [Nat.add_zero, HS.out, mixd_start (by decide)]; exact Hxc.out
    case round =>
     obtain ⟨i, hi, rfl, rfl, rfl, hkw, hxw2⟩ := hrel
     have hyw := hkw.heap Hyw.out (by simp; omega)
     by_cases hlt : i < n
     ·have hijL : j + i < L := by omega
      have hcx := mixd_cells hxw2 hijL
      have hcy := dl_cells hyw i (by omega)
      have hyl := lt_of_heap hyw
      have hxl := lt_of_heap hxw2
      have hxf := frozen_of hxw2
      obtain ⟨hs1, hs2⟩ := Hkd.out i (by omega)
      have Hcs := Lib.hid (kn_carry (show 0 < 4294967296 by decide) i g Y)
      have hset := Lib.hid (mixd_set 4294967296 L (j + i) Z S2 hijL)
      have hb1 := carryS_le 4294967296 (j + i) (Z + M) Wg
      have hc9 := carryM_lt (show 0 < 4294967296 by decide) i 0 g Y hg9
      have hx9 := Nat.mod_lt (Z / 4294967296 ^ (j + i)) (show 0 < 4294967296 by decide)
      have hy9 := Nat.mod_lt (Y / 4294967296 ^ i) (show 0 < 4294967296 by decide)
      have hsd9 := Nat.mod_lt (S2 / 4294967296 ^ (j + i)) (show 0 < 4294967296 by decide)
      have Hkw := Lib.hid hkw
      have Hxw2 := Lib.hid hxw2
      clear hkw hxw2 hyw
      generalize Z / 4294967296 ^ (j + i) % 4294967296 = x at *
      generalize Y / 4294967296 ^ i % 4294967296 = y at *
      generalize S2 / 4294967296 ^ (j + i) % 4294967296 = sd at *
      generalize carryM 4294967296 i 0 g Y = cc at *
      generalize carryS 4294967296 (j + i) (Z + M) Wg = b at *
      rw [Nat.add_comm j i] at hcx
      have hij2 : i + j < L := by omega
      obtain ⟨G, hG⟩ : ∃ G, g * y = G := ⟨_, rfl⟩
      have hG9 : G ≤ 4294967295 * 4294967295 := by rw [← hG]; exact Nat.mul_le_mul (by omega) (by omega)
      have hG1 : (g : Int) * (y : Int) = (G : Int) := by rw [← hG]; push_cast; rfl
      rw [hG] at hs1 hs2 Hcs
      clear hG
      obtain ⟨wd9, hwd⟩ : ∃ wd9, (cc + G) % 4294967296 = wd9 := ⟨_, rfl⟩
      have hwd2 : ((cc : Int) + (G : Int)) % 4294967296 = (wd9 : Int) := by omega
      have hwd9 : wd9 < 4294967296 := by omega
      rw [hwd] at hs1 hs2
      clear hwd
      by_cases hbz0 : x < wd9 + b
      ·obtain ⟨e1, e2⟩ := hs1 hbz0
       have He1 := Lib.hid e1
       have hbz : (x : Int) - b - wd9 < 0 := by omega
       have hd2 : (x : Int) - b - wd9 + 4294967296 = sd := by omega
       clear hs1 hs2 e1 e2
       go_wp2_with fail
       go_roundw
       case rel =>
        refine ⟨i + 1, by omega, by go_num, ?_, ?_, (Hkw.out.trans (Keep.setCell [gx] _ gx _ _ (by simp)) (by simp)), ?_⟩
        ·rw [← Hcs.out]; exact congrArg (Value.int .u64) (by omega)
        ·rw [← Nat.add_assoc, He1.out]; rfl
        ·rw [set_same Hxw2.out, List.setIfInBounds_toArray, u32s_set, Nat.add_comm i j, hset.out]; rfl
       case measure => simp [intOf]; omega
      ·obtain ⟨e1, e2⟩ := hs2 hbz0
       have He1 := Lib.hid e1
       have hbz : ¬ (x : Int) - b - wd9 < 0 := by omega
       have hd2 : (x : Int) - b - wd9 = sd := by omega
       clear hs1 hs2 e1 e2
       go_wp2_with fail
       go_roundw
       case rel =>
        refine ⟨i + 1, by omega, by go_num, ?_, ?_, (Hkw.out.trans (Keep.setCell [gx] _ gx _ _ (by simp)) (by simp)), ?_⟩
        ·rw [← Hcs.out]; exact congrArg (Value.int .u64) (by omega)
        ·rw [← Nat.add_assoc, He1.out]; rfl
        ·rw [set_same Hxw2.out, List.setIfInBounds_toArray, u32s_set, Nat.add_comm i j, hset.out]; rfl
       case measure => simp [intOf]; omega
     ·obtain rfl : i = n := by omega
      have hijL : j + i < L := by omega
      have hcx := mixd_cells hxw2 hijL
      have hxl := lt_of_heap hxw2
      have hxf := frozen_of hxw2
      obtain ⟨hs1, hs2⟩ := Hkd.out i (by omega)
      rw [kn_end (by decide) HY.out hg9] at hs1 hs2
      have hset := Lib.hid (mixd_set 4294967296 L (j + i) Z S2 hijL)
      have hlow := mixd_low (L := L) (i := j + i + 1) (S := S2) (show 0 < 4294967296 by decide) (show Z < 4294967296 ^ (j + i + 1) by rw [HM.out]; exact HZM.out)
      rw [HM.out] at hlow
      have Hlow := Lib.hid hlow
      have hb1 := carryS_le 4294967296 (j + i) (Z + M) Wg
      have hc9 := carryM_lt (show 0 < 4294967296 by decide) i 0 g Y hg9
      have hx9 := Nat.mod_lt (Z / 4294967296 ^ (j + i)) (show 0 < 4294967296 by decide)
      have hsd9 := Nat.mod_lt (S2 / 4294967296 ^ (j + i)) (show 0 < 4294967296 by decide)
      have Hkw := Lib.hid hkw
      have Hxw2 := Lib.hid hxw2
      have hol2 := Hkp.out
      clear hkw hxw2 hyw hlow
      generalize Z / 4294967296 ^ (j + i) % 4294967296 = x at *
      generalize S2 / 4294967296 ^ (j + i) % 4294967296 = sd at *
      generalize carryM 4294967296 i 0 g Y = cc at *
      generalize carryS 4294967296 (j + i) (Z + M) Wg = b at *
      by_cases hbz0 : x < cc + b
      ·obtain ⟨e1, e2⟩ := hs1 hbz0
       have hzw : Z < Wg := by
        have h1 := Hlast.out
        rw [e1] at h1
        by_cases h : Z < Wg
        ·exact h
        ·rw [if_neg h] at h1; omega
       obtain ⟨eg, hS2M, hfin⟩ := Hl2.out hzw
       have hbz : (x : Int) - b - cc < 0 := by omega
       have hd2 : ((x : Int) - b - cc) % 4294967296 = sd := by omega
       have Hfin := Lib.hid hfin
       have HS2M := Lib.hid hS2M
       have hgq : (g : Int) - 1 = (q : Int) := by omega
       have hg1' : 1 ≤ g := by omega
       obtain ⟨wx8, hwx8⟩ : ∃ wx8, wx8 = wr.setCell ⟨gx, j + i, none⟩ (.int .u32 (sd : Int)) := ⟨_, rfl⟩
       have hk8 : Keep [gx] wo wx8 := by rw [hwx8]; exact Hkw.out.trans (Keep.setCell [gx] _ gx _ _ (by simp)) (by simp)
       have hx8 : wx8.heap[gx]? = some (.cells (u32s (dl 4294967296 L S2)).toArray 165 (0, 0)) := by
        rw [hwx8, set_same Hxw2.out, List.setIfInBounds_toArray, u32s_set, hset.out, Hlow.out, Nat.mod_eq_of_lt HS2M.out]
       have Hk8 := Lib.hid hk8
       have Hx8 := Lib.hid hx8
       have hwx8' := hwx8.symm
       clear hs1 hs2 e1 e2 eg hfin hS2M hk8 hx8 hwx8
       go_wp2_with fail
       clear hwx8' hd2 hbz hcx hxl hxf
       obtain ⟨wx7, rfl⟩ : ∃ wx7 : World, wx7 = wr := ⟨_, rfl⟩
       obtain ⟨n, rfl⟩ : ∃ n, n = i := ⟨_, rfl⟩
       go_loopw [25, 231] (fun cv iv wx => ∃ i : Nat, i ≤ n ∧ iv = .int .i64 (i : Int) ∧ cv = .int .u64 (carryM 4294967296 i (S2 / 4294967296 ^ j) 1 Y : Nat) ∧ Keep [gx] wo wx ∧ wx.heap[gx]? = some (.cells (u32s (mixd 4294967296 L (j + i) S2 (S2 + 4294967296 ^ j * (1 * Y)))).toArray 165 (0, 0))) (fun _ iv _ => n - (intOf iv).toNat)
       case atStart => exact ⟨0, by omega, rfl, by rw [carryM_zero]; rfl, Hk8.out, by rw [Nat.add_zero, mixd_start (by decide)]; exact Hx8.out⟩
       case round =>
        obtain ⟨i, hi, rfl, rfl, hkw, hxw2⟩ := hrel
        have hyw := hkw.heap Hyw.out (by simp; omega)
        by_cases hlt : i < n
        ·have hijL : j + i < L := by omega
         have hcx := mixd_cells hxw2 hijL
         rw [div_pow_add] at hcx
         have hcy := dl_cells hyw i (by omega)
         have hd := carryM_at (show 0 < 4294967296 by decide) j i S2 1 Y
         have hs := carryM_succ (show 0 < 4294967296 by decide) i (S2 / 4294967296 ^ j) 1 Y
         have hc1 := carryM_lt (show 0 < 4294967296 by decide) i (S2 / 4294967296 ^ j) 1 Y (by decide)
         have hset := Lib.hid (mixd_set 4294967296 L (j + i) S2 (S2 + 4294967296 ^ j * (1 * Y)) hijL)
         have ho9 := Nat.mod_lt (S2 / 4294967296 ^ j / 4294967296 ^ i) (show 0 < 4294967296 by decide)
         have hy9 := Nat.mod_lt (Y / 4294967296 ^ i) (show 0 < 4294967296 by decide)
         generalize S2 / 4294967296 ^ j / 4294967296 ^ i % 4294967296 = o at *
         generalize Y / 4294967296 ^ i % 4294967296 = y at *
         generalize carryM 4294967296 i (S2 / 4294967296 ^ j) 1 Y = cc2 at *
         rw [Nat.one_mul] at hd hs
         have Hd := Lib.hid hd
         have Hs := Lib.hid hs
         rw [Nat.add_comm j i] at hcx
         have hij2 : i + j < L := by omega
         have kx := kw_cell hxw2 hcx
         have ky := kw_cell hyw hcy
         have Hxw2 := Lib.hid hxw2
         have Hkw2 := Lib.hid hkw
         clear hd hs hcx hcy hxw2 hkw hyw
         go_wp2_with fail
         refine wp_region_keep (by kernel_rfl) (by kernel_rfl) ?_
         repeat (first
          | go_big_quiet_skip
          | (go_big_quiet_want; go_big_quiet_op; go_big_quiet_on))
         refine wpQuiet_nil ?_
         rintro wq ⟨⟨_, hk_wq⟩, rfl⟩
         have hxq := hk_wq.heap Hxw2.out (by simp)
         have hlq := lt_of_heap hxq
         have hfq := frozen_of hxq
         have hcq := kx ⟨wq, hk_wq⟩
         have hcq2 : wq.cell? ⟨gx, i + j, none⟩ = some (.int .u32 (o : Int)) := hcq
         have Hxq := Lib.hid hxq
         have Hkq := Lib.hid (Hkw2.out.trans hk_wq (by simp))
         clear hxq hk_wq kx ky hcq
         go_wp2_with fail
         go_roundw
         case rel =>
          refine ⟨i + 1, by omega, by go_num, ?_, Hkq.out.trans (Keep.setCell [gx] _ gx _ _ (by simp)) (by simp), ?_⟩
          ·rw [← Hs.out]; exact congrArg (Value.int .u64) (by omega)
          ·have e : (((cc2 : Int) + ((o : Int) + (y : Int))) % 4294967296) = (((cc2 + o + y) % 4294967296 : Nat) : Int) := by omega
           rw [set_same Hxq.out, e, Hd.out, List.setIfInBounds_toArray, u32s_set, Nat.add_comm i j, hset.out]; rfl
         case measure => simp [intOf]; omega
        ·obtain rfl : i = n := by omega
         have hijL : j + i < L := by omega
         have hcx := mixd_cells hxw2 hijL
         have hd := kn_addlast (T := S2) (j := j) (show 0 < 4294967296 by decide) HY.out
         have hc1 := carryM_lt (show 0 < 4294967296 by decide) i (S2 / 4294967296 ^ j) 1 Y (by decide)
         have hset := Lib.hid (mixd_set 4294967296 L (j + i) S2 (S2 + 4294967296 ^ j * (1 * Y)) hijL)
         have ho9 := Nat.mod_lt (S2 / 4294967296 ^ (j + i)) (show 0 < 4294967296 by decide)
         have hlow := mixd_low (L := L) (i := j + i + 1) (S := S2 + 4294967296 ^ j * (1 * Y)) (show 0 < 4294967296 by decide) (show S2 < 4294967296 ^ (j + i + 1) by rw [HM.out]; exact HS2M.out)
         rw [HM.out] at hlow
         generalize S2 / 4294967296 ^ (j + i) % 4294967296 = o at *
         generalize carryM 4294967296 i (S2 / 4294967296 ^ j) 1 Y = cc2 at *
         have hfx := frozen_of hxw2
         have hlx := lt_of_heap hxw2
         obtain ⟨wx9, hwx9⟩ : ∃ wx9, wx9 = wr.setCell ⟨gx, j + i, none⟩ (.int .u32 (((o : Int) + (cc2 : Int)) % 4294967296)) := ⟨_, rfl⟩
         have hk9 : Keep [gx] wo wx9 := by rw [hwx9]; exact hkw.trans (Keep.setCell [gx] _ gx _ _ (by simp)) (by simp)
         have hx9 : wx9.heap[gx]? = some (.cells (u32s (dl 4294967296 L (Z % (Y * 4294967296 ^ j)))).toArray 165 (0, 0)) := by
          have e : (((o : Int) + (cc2 : Int)) % 4294967296) = (((o + cc2) % 4294967296 : Nat) : Int) := by omega
          rw [hwx9, set_same hxw2, e, hd, List.setIfInBounds_toArray, u32s_set, hset.out, hlow, Hfin.out]
         have how2 := hk9.heap How.out (by simp; omega)
         have hwx9' := hwx9.symm
         clear hwx9 hd hlow hxw2 hkw hyw
         have hqo := kn_quo (B := 4294967296) (j := j) (A := Av) (Y := Y) (by decide)
         rw [HZe.out, Eq.out] at hqo
         have hsetq := mixd_back (B := 4294967296) (Q := Av / Y) (X := 0) hJ'
         rw [← hqo] at hsetq
         have hnx2 := kn_next (B := 4294967296) (j := j) (A := Av) (Y := Y) (by decide)
         rw [HZe.out] at hnx2
         have hof := frozen_of how2
         have hol := lt_of_heap how2
         have hoc := mixd_cells_low how2 hJ'
         have Hsetq := Lib.hid hsetq
         have Hnx2 := Lib.hid hnx2
         have How2 := Lib.hid how2
         have Hx9 := Lib.hid hx9
         have Hk9 := Lib.hid hk9
         clear hqo hsetq hnx2 how2 hx9 hk9
         go_wp2_with fail
         go_roundw
         case rel =>
          refine ⟨j, by omega, rfl, ((Hkp.out.trans Hk9.out (by simp)).setPast _ _ _ (Nat.le_refl _)), ?_, ?_⟩
          ·rw [set_other _ _ (by omega), Hx9.out, Hnx2.out]
          ·rw [set_same How2.out, List.setIfInBounds_toArray, u32s_set, Hsetq.out]
         case measure => simp [intOf]
      ·obtain ⟨e1, e2⟩ := hs2 hbz0
       have hzw : ¬ Z < Wg := by
        have h1 := Hlast.out
        rw [e1] at h1
        by_cases h : Z < Wg
        ·rw [if_pos h] at h1; omega
        ·exact h
       obtain ⟨eg, hfin⟩ := Hl1.out hzw
       have hbz : ¬ (x : Int) - b - cc < 0 := by omega
       have hd2 : (x : Int) - b - cc = sd := by omega
       have Hfin := Lib.hid hfin
       obtain ⟨wx9, hwx9⟩ : ∃ wx9, wx9 = wr.setCell ⟨gx, j + i, none⟩ (.int .u32 (sd : Int)) := ⟨_, rfl⟩
       have hk9 : Keep [gx] wo wx9 := by rw [hwx9]; exact Hkw.out.trans (Keep.setCell [gx] _ gx _ _ (by simp)) (by simp)
       have hx9 : wx9.heap[gx]? = some (.cells (u32s (dl 4294967296 L (Z % (Y * 4294967296 ^ j)))).toArray 165 (0, 0)) := by
        rw [hwx9, set_same Hxw2.out, List.setIfInBounds_toArray, u32s_set, hset.out, Hlow.out, Hfin.out]
       have how2 := hk9.heap How.out (by simp; omega)
       subst eg
       have hwx9' := hwx9.symm
       clear hs1 hs2 e1 e2 hfin hwx9
       have hqo := kn_quo (B := 4294967296) (j := j) (A := Av) (Y := Y) (by decide)
       rw [HZe.out, Eq.out] at hqo
       have hsetq := mixd_back (B := 4294967296) (Q := Av / Y) (X := 0) hJ'
       rw [← hqo] at hsetq
       have hnx2 := kn_next (B := 4294967296) (j := j) (A := Av) (Y := Y) (by decide)
       rw [HZe.out] at hnx2
       have hof := frozen_of how2
       have hol := lt_of_heap how2
       have hoc := mixd_cells_low how2 hJ'
       have Hsetq := Lib.hid hsetq
       have Hnx2 := Lib.hid hnx2
       have How2 := Lib.hid how2
       have Hx9 := Lib.hid hx9
       have Hk9 := Lib.hid hk9
       clear hqo hsetq hnx2 how2 hx9 hk9
       go_wp2_with fail
       go_roundw
       case rel =>
        refine ⟨j, by omega, rfl, ((Hkp.out.trans Hk9.out (by simp)).setPast _ _ _ (Nat.le_refl _)), ?_, ?_⟩
        ·rw [set_other _ _ (by omega), Hx9.out, Hnx2.out]
        ·rw [set_same How2.out, List.setIfInBounds_toArray, u32s_set, Hsetq.out]
       case measure => simp [intOf]
end Go.Proofs.YteknldaoegccaaaGreatDoor
