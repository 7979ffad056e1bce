/- Parts of a proof about this translation: Pv, Sh. -/
import Derived.Lib.ItoaNum
import Derived.RegionTactic
import Derived.ChangeAlike
import Derived.Test.YteknldaoegccaaaGreatDoorW05
import Derived.Test.YteknldaoegccaaaGreatDoorW02
set_option linter.unusedVariables false
set_option linter.unusedSimpArgs false
namespace Go.Proofs.YteknldaoegccaaaGreatDoor
open Go.RowKit
theorem kn_facts {B n Y R : Nat} (hB : 2 ≤ B) (hn : 2 ≤ n) (hY : Y < B ^ n) (hY2 : B ^ n ≤ 2 * Y) (hR : R < Y * B) :
  ∃ y1 y2 xt x1 x2 q : Nat, Y / B ^ (n - 1) % B = y1 ∧ Y / B ^ (n - 2) % B = y2 ∧ R / B ^ n % B = xt ∧ R / B ^ (n - 1) % B = x1 ∧ R / B ^ (n - 2) % B = x2 ∧ R / Y = q ∧
   q < B ∧ 0 < y1 ∧ y1 < B ∧ y2 < B ∧ xt < B ∧ x1 < B ∧ x2 < B ∧ xt * B + x1 ≤ y1 * B + (B - 1) ∧ q ≤ (xt * B + x1) / y1 ∧
   (∀ g rest, g * y1 + rest = xt * B + x1 → rest * B + x2 < g * y2 → q < g) ∧ (∀ g, g < B → g * (y1 * B + y2) ≤ (xt * B + x1) * B + x2 → g ≤ q + 1) := by
 obtain ⟨m, rfl⟩ : ∃ m, n = m + 2 := ⟨n - 2, by omega⟩
 simp only [show m + 2 - 1 = m + 1 by omega, show m + 2 - 2 = m by omega]
 have hP : 0 < B ^ m := Nat.pow_pos (by omega)
 have e1 : B ^ (m + 1) = B ^ m * B := by rw [Nat.pow_succ]
 have e2 : B ^ (m + 2) = B ^ m * B * B := by rw [Nat.pow_succ, Nat.pow_succ]
 rw [e2] at hY hY2
 rw [e1, e2]
 generalize hPd : B ^ m = P at *
 have hPB : 0 < P * B := Nat.mul_pos hP (by omega)
 have hPBB : 0 < P * B * B := Nat.mul_pos hPB (by omega)
 -- the digits of Y
 have y1lt : Y / (P * B) < B := by rw [Nat.div_lt_iff_lt_mul hPB, Nat.mul_comm]; exact hY
 have ey1 : Y / (P * B) % B = Y / (P * B) := Nat.mod_eq_of_lt y1lt
 have dY : Y / P = Y / (P * B) * B + Y / P % B := by rw [← Nat.div_div_eq_div_mul, Nat.div_add_mod']
 have dY2 : Y = Y / P * P + Y % P := by rw [Nat.div_add_mod']
 have y1big : B ≤ 2 * (Y / (P * B)) + 1 := by
  have h1 : B * (P * B) ≤ 2 * Y := by rw [Nat.mul_comm B]; exact hY2
  have h2 : Y < (Y / (P * B) + 1) * (P * B) := by
   have := Nat.lt_mul_div_succ Y hPB
   rw [Nat.mul_comm] at this; exact this
  have h3 : B * (P * B) < (2 * (Y / (P * B)) + 2) * (P * B) := by
   have : (2 * (Y / (P * B)) + 2) * (P * B) = 2 * ((Y / (P * B) + 1) * (P * B)) := by
    generalize P * B = p
    rw [← Nat.mul_assoc, Nat.mul_add]
   omega
  have := Nat.lt_of_mul_lt_mul_right h3
  omega
 have y1pos : 0 < Y / (P * B) := by omega
 have y2lt := Nat.mod_lt (Y / P) (show 0 < B by omega)
 -- the digits of R
 have hRB : R < P * B * B * B := Nat.lt_trans hR (Nat.mul_lt_mul_of_pos_right hY (by omega))
 have xtlt : R / (P * B * B) < B := by rw [Nat.div_lt_iff_lt_mul hPBB, Nat.mul_comm]; exact hRB
 have ext : R / (P * B * B) % B = R / (P * B * B) := Nat.mod_eq_of_lt xtlt
 have dR1 : R / (P * B) = R / (P * B * B) * B + R / (P * B) % B := by rw [← Nat.div_div_eq_div_mul R (P * B), Nat.div_add_mod']
 have dR2 : R / P = R / (P * B) * B + R / P % B := by rw [← Nat.div_div_eq_div_mul R P, Nat.div_add_mod']
 have dR3 : R = R / P * P + R % P := by rw [Nat.div_add_mod']
 have x1lt := Nat.mod_lt (R / (P * B)) (show 0 < B by omega)
 have x2lt := Nat.mod_lt (R / P) (show 0 < B by omega)
 have hq : R / Y < B := Nat.div_lt_of_lt_mul hR
 have hxt : R / (P * B * B) ≤ Y / (P * B) := by
  have h2 : Y < (Y / (P * B) + 1) * (P * B) := by
   have := Nat.lt_mul_div_succ Y hPB
   rw [Nat.mul_comm] at this; exact this
  have h3 : Y * B ≤ (Y / (P * B) + 1) * (P * B) * B := Nat.mul_le_mul_right _ (Nat.le_of_lt h2)
  have h4 : R / (P * B * B) < Y / (P * B) + 1 := by
   rw [Nat.div_lt_iff_lt_mul hPBB, ← Nat.mul_assoc]
   exact Nat.lt_of_lt_of_le hR h3
  omega
 have hfirst := kn_first (R := R) (Y := Y) hPB y1pos
 have hXl := Nat.mod_lt R hP
 have hYl := Nat.mod_lt Y hP
 refine ⟨Y / (P * B), Y / P % B, R / (P * B * B), R / (P * B) % B, R / P % B, R / Y, ey1, rfl, ext, rfl, rfl, rfl, hq, y1pos, y1lt, y2lt, xtlt, x1lt, x2lt, ?_, ?_, ?_, ?_⟩
 ·have := Nat.mul_le_mul_right B hxt
  omega
 ·rw [← dR1]; exact hfirst
 ·intro g rest h hbad
  have := kn_dec (P := P) (Xl := R % P) (Yl := Y % P) hP hXl h hbad
  rw [← dR1, ← dR2, ← dY, ← dR3, ← dY2] at this
  exact this
 ·intro g hg hok
  have hV : B ≤ Y / (P * B) * B := by
   have := Nat.mul_le_mul_right B (show 1 ≤ Y / (P * B) by omega)
   omega
  have := kn_near (P := P) (V := Y / (P * B) * B + Y / P % B) (Yl := Y % P) (Xl := R % P) (g := g) hYl (by omega) hok (by omega)
  rw [← dR1, ← dR2, ← dY, ← dR3, ← dY2] at this
  exact this
theorem kn_W {B n j Y Z g : Nat} (hB : 0 < B) (hY : Y < B ^ n) (hg : g ≤ Z / B ^ j / Y + 1) (hgB : g < B) :
  g * Y * B ^ j ≤ Z + B ^ (j + n + 1) ∧ g * Y * B ^ j < B ^ (j + n + 1) := by
 have hp : 0 < B ^ j := Nat.pow_pos hB
 have e : B ^ (j + n + 1) = B * B ^ n * B ^ j := by
  rw [Nat.pow_succ, Nat.pow_add, Nat.mul_comm, Nat.mul_comm (B ^ j), Nat.mul_assoc]
 rw [e]
 generalize B ^ j = p at *
 have h1 : g * Y < B * B ^ n := by
  rcases Nat.eq_zero_or_pos Y with h0 | h0
  ·rw [h0, Nat.mul_zero]; exact Nat.mul_pos hB (by rw [h0] at hY; exact hY)
  ·exact Nat.mul_lt_mul'' hgB hY
 have h2 : g * Y * p < B * B ^ n * p := Nat.mul_lt_mul_of_pos_right h1 hp
 exact ⟨by omega, h2⟩
theorem kn_digit {B n j i Y Z g : Nat} (hB : 0 < B) (hi : i < n + 1) (hle : g * Y * B ^ j ≤ Z + B ^ (j + n + 1)) :
  (Z / B ^ (j + i) % B < (carryM B i 0 g Y + g * (Y / B ^ i % B)) % B + carryS B (j + i) (Z + B ^ (j + n + 1)) (g * Y * B ^ j) →
   carryS B (j + i + 1) (Z + B ^ (j + n + 1)) (g * Y * B ^ j) = 1 ∧
   Z / B ^ (j + i) % B + B = (Z + B ^ (j + n + 1) - g * Y * B ^ j) / B ^ (j + i) % B + (carryM B i 0 g Y + g * (Y / B ^ i % B)) % B + carryS B (j + i) (Z + B ^ (j + n + 1)) (g * Y * B ^ j)) ∧
  (¬ Z / B ^ (j + i) % B < (carryM B i 0 g Y + g * (Y / B ^ i % B)) % B + carryS B (j + i) (Z + B ^ (j + n + 1)) (g * Y * B ^ j) →
   carryS B (j + i + 1) (Z + B ^ (j + n + 1)) (g * Y * B ^ j) = 0 ∧
   Z / B ^ (j + i) % B = (Z + B ^ (j + n + 1) - g * Y * B ^ j) / B ^ (j + i) % B + (carryM B i 0 g Y + g * (Y / B ^ i % B)) % B + carryS B (j + i) (Z + B ^ (j + n + 1)) (g * Y * B ^ j)) := by
 have hs := carryS_step hB (j + i) (Z + B ^ (j + n + 1)) (g * Y * B ^ j) hle
 have e1 : (Z + B ^ (j + n + 1)) / B ^ (j + i) % B = Z / B ^ (j + i) % B := by
  obtain ⟨m, hm⟩ : ∃ m, j + n + 1 = j + i + (m + 1) := ⟨n - i, by omega⟩
  rw [hm, Nat.pow_add, Nat.add_mul_div_left _ _ (Nat.pow_pos hB), Nat.pow_succ, Nat.add_mul_mod_self_right]
 have e2 : g * Y * B ^ j / B ^ (j + i) % B = (carryM B i 0 g Y + g * (Y / B ^ i % B)) % B := by
  have := carryM_digit hB i 0 g Y
  simp only [Nat.zero_div, Nat.zero_mod, Nat.add_zero, Nat.zero_add] at this
  rw [this, Nat.pow_add, ← Nat.div_div_eq_div_mul, Nat.mul_div_cancel _ (Nat.pow_pos hB)]
 rw [e1, e2] at hs
 exact hs
theorem kn_carry {B : Nat} (hB : 0 < B) (i g Y : Nat) : (carryM B i 0 g Y + g * (Y / B ^ i % B)) / B = carryM B (i + 1) 0 g Y := by
 have := carryM_succ hB i 0 g Y
 simpa using this
theorem kn_last {B M Z W k : Nat} (hM : M = B ^ k) (hZ : Z < M) (hW : W < M) : carryS B k (Z + M) W = if Z < W then 1 else 0 := by
 subst hM
 unfold carryS
 rw [Nat.add_mod_right, Nat.mod_eq_of_lt hZ, Nat.mod_eq_of_lt hW]
theorem kn_left {B n j Y Z g q : Nat} (hB : 0 < B) (hY : Y < B ^ n) (hZ : Z < Y * B ^ (j + 1)) (hq : Z / B ^ j / Y = q) (h1 : q ≤ g) (h2 : g ≤ q + 1) (hgB : g < B) :
  (¬ Z < g * Y * B ^ j → g = q ∧ (Z + B ^ (j + n + 1) - g * Y * B ^ j) % B ^ (j + n + 1) = Z % (Y * B ^ j)) ∧
  (Z < g * Y * B ^ j → g = q + 1 ∧ (Z + B ^ (j + n + 1) - g * Y * B ^ j) < B ^ (j + n + 1) ∧ (Z + B ^ (j + n + 1) - g * Y * B ^ j + B ^ j * (1 * Y)) % B ^ (j + n + 1) = Z % (Y * B ^ j)) := by
 have hp : 0 < B ^ j := Nat.pow_pos hB
 have hY0 : 0 < Y := by
  rcases Nat.eq_zero_or_pos Y with h | h
  ·rw [h, Nat.zero_mul] at hZ; omega
  ·exact h
 have hYp : 0 < Y * B ^ j := Nat.mul_pos hY0 hp
 have e3 : Z / (Y * B ^ j) = q := by rw [← hq, Nat.div_div_eq_div_mul, Nat.mul_comm]
 have hdm := Nat.div_add_mod Z (Y * B ^ j)
 have hlt := Nat.mod_lt Z hYp
 rw [e3] at hdm
 have hM : Y * B ^ j < B ^ (j + n + 1) := by
  have h3 : B ^ (j + n + 1) = B ^ n * B ^ j * B := by rw [Nat.pow_succ, Nat.pow_add, Nat.mul_comm (B ^ j)]
  have h4 : Y * B ^ j < B ^ n * B ^ j := Nat.mul_lt_mul_of_pos_right hY hp
  have h5 : B ^ n * B ^ j * 1 ≤ B ^ n * B ^ j * B := Nat.mul_le_mul_left _ hB
  omega
 have eg : ∀ k, k * Y * B ^ j = Y * B ^ j * k := fun k => by rw [Nat.mul_assoc, Nat.mul_comm]
 have eY : B ^ j * (1 * Y) = Y * B ^ j := by rw [Nat.one_mul, Nat.mul_comm]
 rw [eg, eY]
 generalize Y * B ^ j = D at *
 generalize B ^ (j + n + 1) = M at *
 have hsucc : D * (q + 1) = D * q + D := Nat.mul_succ D q
 constructor
 ·intro h
  have : g = q := by
   rcases Nat.eq_or_lt_of_le h2 with h3 | h3
   ·exfalso; rw [h3] at h; omega
   ·omega
  subst this
  refine ⟨rfl, ?_⟩
  rw [show Z + M - D * g = Z % D + M by omega, Nat.add_mod_right, Nat.mod_eq_of_lt (by omega)]
 ·intro h
  have : g = q + 1 := by
   rcases Nat.eq_or_lt_of_le h2 with h3 | h3
   ·exact h3
   ·exfalso
    have : g = q := by omega
    rw [this] at h; omega
  subst this
  refine ⟨rfl, by omega, ?_⟩
  rw [show Z + M - D * (q + 1) + D = Z % D + M by omega, Nat.add_mod_right, Nat.mod_eq_of_lt (by omega)]
theorem kn_addlast {B n T j Y : Nat} (hB : 0 < B) (hY : Y < B ^ n) : (T / B ^ (j + n) % B + carryM B n (T / B ^ j) 1 Y) % B = (T + B ^ j * (1 * Y)) / B ^ (j + n) % B := by
 have h := carryM_digit hB n (T / B ^ j) 1 Y
 rw [Nat.div_eq_of_lt hY, Nat.zero_mod, Nat.mul_zero, Nat.add_zero] at h
 rw [div_pow_add, div_pow_add, mul_part hB, ← h, Nat.add_comm]
theorem kn_next {B j A Y : Nat} (hB : 0 < B) : A % (Y * B ^ (j + 1)) % (Y * B ^ j) = A % (Y * B ^ j) := by
 rw [Nat.pow_succ, ← Nat.mul_assoc, Nat.mod_mul_right_mod]
theorem kn_quo {B j A Y : Nat} (hB : 0 < B) : A % (Y * B ^ (j + 1)) / B ^ j / Y = A / Y / B ^ j % B := by
 rw [Nat.div_div_eq_div_mul, Nat.mul_comm (B ^ j), Nat.pow_succ, ← Nat.mul_assoc, Nat.mod_mul_right_div_self, ← Nat.div_div_eq_div_mul]
theorem kn_prep {n nx A D : Nat} (hn : 2 ≤ n) (hA : A < 4294967296 ^ nx) (hD : D < 4294967296 ^ n) (hD2 : 4294967296 ^ (n - 1) ≤ D) (hle : D ≤ A) :
  ∃ s top : Nat, s ≤ 31 ∧ D / 4294967296 ^ (n - 1) % 4294967296 = top ∧ top < 4294967296 ∧ Lib.bitLen top ≤ 32 ∧ 32 - Lib.bitLen top = s ∧ D * 2 ^ s < 4294967296 ^ n ∧ 4294967296 ^ n ≤ 2 * (D * 2 ^ s) ∧ n ≤ nx ∧ A * 2 ^ s < D * 2 ^ s * 4294967296 ^ (nx + 1 - n) := by
 have hnx : n ≤ nx := by
  rcases Nat.lt_or_ge (n - 1) nx with h | h
  ·omega
  ·exfalso
   have : 4294967296 ^ nx ≤ 4294967296 ^ (n - 1) := Nat.pow_le_pow_right (by decide) h
   omega
 obtain ⟨m, rfl⟩ : ∃ m, n = m + 1 := ⟨n - 1, by omega⟩
 simp only [Nat.add_sub_cancel] at *
 have hp : 0 < 4294967296 ^ m := Nat.pow_pos (by decide)
 have hpe : 4294967296 ^ (m + 1) = 4294967296 ^ m * 4294967296 := by rw [Nat.pow_succ]
 have htop : D / 4294967296 ^ m < 4294967296 := by rw [Nat.div_lt_iff_lt_mul hp, Nat.mul_comm, ← hpe]; exact hD
 have htop1 : 1 ≤ D / 4294967296 ^ m := by rw [Nat.le_div_iff_mul_le hp]; omega
 have e1 : D / 4294967296 ^ m % 4294967296 = D / 4294967296 ^ m := Nat.mod_eq_of_lt htop
 obtain ⟨b1, b2, b3⟩ := Lib.bitLenAux_bounds 64 (D / 4294967296 ^ m) (by omega) (by omega)
 have hb : Lib.bitLen (D / 4294967296 ^ m) = Lib.bitLenAux 64 (D / 4294967296 ^ m) := rfl
 rw [← hb] at b1 b2 b3
 have h1 := Nat.div_add_mod D (4294967296 ^ m)
 have h2 := Nat.mod_lt D hp
 refine ⟨32 - Lib.bitLen (D / 4294967296 ^ m), D / 4294967296 ^ m, ?_⟩
 generalize Lib.bitLen (D / 4294967296 ^ m) = b at *
 generalize D / 4294967296 ^ m = top at *
 have hb32 : b ≤ 32 := by
  rcases Nat.lt_or_ge 32 b with h | h
  ·exfalso
   have : 2 ^ 32 ≤ 2 ^ (b - 1) := Nat.pow_le_pow_right (by decide) (by omega)
   omega
  ·exact h
 have e32 : 4294967296 = 2 ^ b * 2 ^ (32 - b) := by rw [← Nat.pow_add, show b + (32 - b) = 32 by omega]
 have e31 : 2147483648 = 2 ^ (b - 1) * 2 ^ (32 - b) := by rw [← Nat.pow_add, show b - 1 + (32 - b) = 31 by omega]
 have hs : 0 < 2 ^ (32 - b) := Nat.pow_pos (by decide)
 have g1 : D * 2 ^ (32 - b) < 4294967296 ^ (m + 1) := by
  have h3 : D < 4294967296 ^ m * 2 ^ b := by
   have : 4294967296 ^ m * (top + 1) ≤ 4294967296 ^ m * 2 ^ b := Nat.mul_le_mul_left _ (by omega)
   rw [Nat.mul_add] at this
   omega
  have h4 : D * 2 ^ (32 - b) < 4294967296 ^ m * 2 ^ b * 2 ^ (32 - b) := Nat.mul_lt_mul_of_pos_right h3 hs
  rw [Nat.mul_assoc, ← e32] at h4
  omega
 have g2 : 4294967296 ^ (m + 1) ≤ 2 * (D * 2 ^ (32 - b)) := by
  have h3 : 4294967296 ^ m * 2 ^ (b - 1) ≤ D := by
   have : 4294967296 ^ m * 2 ^ (b - 1) ≤ 4294967296 ^ m * top := Nat.mul_le_mul_left _ b2
   omega
  have h4 : 4294967296 ^ m * 2 ^ (b - 1) * 2 ^ (32 - b) ≤ D * 2 ^ (32 - b) := Nat.mul_le_mul_right _ h3
  rw [Nat.mul_assoc, ← e31] at h4
  omega
 refine ⟨by omega, e1, htop, hb32, rfl, g1, g2, hnx, ?_⟩
 have g3 : A * 2 ^ (32 - b) < 4294967296 ^ nx * 2147483648 := by
  have h3 : 2 ^ (32 - b) ≤ 2147483648 := Nat.pow_le_pow_right (n := 2) (by decide) (show 32 - b ≤ 31 by omega)
  have h4 : A * 2 ^ (32 - b) < 4294967296 ^ nx * 2 ^ (32 - b) := Nat.mul_lt_mul_of_pos_right hA hs
  have h5 : 4294967296 ^ nx * 2 ^ (32 - b) ≤ 4294967296 ^ nx * 2147483648 := Nat.mul_le_mul_left _ h3
  omega
 have g4 : 4294967296 ^ (m + 1) * 4294967296 ^ (nx + 1 - (m + 1)) ≤ 2 * (D * 2 ^ (32 - b)) * 4294967296 ^ (nx + 1 - (m + 1)) := Nat.mul_le_mul_right _ g2
 rw [← Nat.pow_add, show m + 1 + (nx + 1 - (m + 1)) = nx + 1 by omega, Nat.pow_succ, Nat.mul_assoc 2] at g4
 omega
theorem kn_back {R s i : Nat} (hs : s ≤ 31) : ((R / 4294967296 ^ (i + 1) % 4294967296) * 4294967296 + R / 4294967296 ^ i % 4294967296) / 2 ^ s % 4294967296 = R / 2 ^ s / 4294967296 ^ i % 4294967296 := by
 have e1 : R / 4294967296 ^ (i + 1) = R / 4294967296 ^ i / 4294967296 := by rw [Nat.pow_succ, Nat.div_div_eq_div_mul]
 have e2 : R / 2 ^ s / 4294967296 ^ i = R / 4294967296 ^ i / 2 ^ s := by rw [Nat.div_div_eq_div_mul, Nat.div_div_eq_div_mul, Nat.mul_comm]
 rw [e1, e2]
 generalize R / 4294967296 ^ i = M
 have e3 : M / 4294967296 % 4294967296 * 4294967296 + M % 4294967296 = M % (4294967296 * 4294967296) := by rw [Nat.mod_mul]; omega
 have e4 : 4294967296 * 4294967296 = 2 ^ s * (4294967296 * 2 ^ (32 - s)) := by
  rw [Nat.mul_left_comm, ← Nat.pow_add, show s + (32 - s) = 32 by omega]
 rw [e3, e4, Nat.mod_mul_right_div_self, Nat.mod_mul_right_mod]
end Go.Proofs.YteknldaoegccaaaGreatDoor
set_option maxRecDepth 100000
namespace Go.Proofs.YteknldaoegccaaaGreatDoor
open Go.RowKit
theorem mixd_back {B L i Q X : Nat} (h : i < L) : (mixd B L (i + 1) Q X).set i (Q / B ^ i % B) = mixd B L i Q X := by
 unfold mixd
 apply List.ext_getElem
 ·simp
 ·intro j h1 h2
  rw [List.getElem_set]
  simp only [List.getElem_map, List.getElem_range]
  by_cases e : i = j
  ·subst e; simp
  ·rw [if_neg e]
   by_cases h3 : j < i
   ·rw [if_pos h3, if_pos (by omega)]
   ·rw [if_neg h3, if_neg (by omega)]
theorem mixd_cells_low {w : World} {b L i Q X : Nat} (h : w.heap[b]? = some (.cells (u32s (mixd 4294967296 L (i + 1) Q X)).toArray 165 (0, 0))) (hi : i < L) : w.cell? ⟨b, i, none⟩ = some (.int .u32 ((X / 4294967296 ^ i % 4294967296 : Nat) : Int)) := by
 rw [cell_of h]
 have : (mixd 4294967296 L (i + 1) Q X)[i]? = some (X / 4294967296 ^ i % 4294967296) := by
  unfold mixd
  rw [List.getElem?_map, List.getElem?_range hi]
  simp
 simp [u32s, this]
theorem or_lh (r x : Nat) (hr : r < 4294967296) (hx : x < 4294967296) : bits BinOp.or IntKind.u64 ((r : Int) * 4294967296) (x : Int) = ((r * 4294967296 + x : Nat) : Int) := by
 rw [bits_join .u64 64 (by decide) (fun n h0 h1 => by rw [IntKind.wrap_u64]; omega) 32 _ _ (by omega) (by omega) (by omega) (by omega) (by omega) (by omega)]
 omega
set_option maxHeartbeats 2000000 in
theorem short_c (w : World) (g L c X d : Nat) (hlen : L ≤ c) (hl9 : c ≤ 1000000000000) (hX : X < 4294967296 ^ L) (hd0 : 0 < d) (hd : d < 4294967296) (hb : w.heap[g]? = some (.cells (u32s (dl 4294967296 L X)).toArray 165 (0, 0))) :
  Calls Tryz.prog 201 #[.slice (some ⟨g, 0, none⟩) L c, .int .u32 (d : Int)] w fun e w' => e = .returned (.int .u32 ((X % d : Nat) : Int)) ∧ Keep [g] w w' ∧ w'.heap[g]? = some (.cells (u32s (dl 4294967296 L (X / d))).toArray 165 (0, 0)) := by
 have Hb := Lib.hid hb
 have HX := Lib.hid hX
 clear hb hX
 go_enter Tryz.func201, Tryz.ntmps201
 go_wp2_with fail
 go_loopw [5, 6] (fun r x wr => ∃ j : Nat, j ≤ L ∧ x = .int .i64 ((j : Int) - 1) ∧ r = .int .u64 ((X / 4294967296 ^ j % d : Nat) : Int) ∧ Keep [g] w wr ∧ wr.heap[g]? = some (.cells (u32s (mixd 4294967296 L j (X / d) X)).toArray 165 (0, 0))) (fun _ x _ => (intOf x + 1).toNat)
 case atStart => exact ⟨L, Nat.le_refl _, rfl, by rw [Nat.div_eq_of_lt HX.out, Nat.zero_mod]; rfl, Keep.refl _ _, by rw [mixd_full]; exact Hb.out⟩
 case round =>
  obtain ⟨j, hj, rfl, rfl, hkp, hbx⟩ := hrel
  by_cases hj0 : j = 0
  ·subst hj0
   have Hkp := Lib.hid hkp
   have Hbx := Lib.hid hbx
   clear hkp hbx
   have hr := Nat.mod_lt X hd0
   rw [Nat.pow_zero, Nat.div_one]
   obtain ⟨r, hr0⟩ : ∃ r, X % d = r := ⟨_, rfl⟩
   rw [hr0] at hr ⊢
   have Hr0 := Lib.hid hr0
   clear hr0
   go_wp2_with fail
   go_ret
   refine ⟨?_, Hkp.out, ?_⟩
   ·rw [Hr0.out]; rfl
   ·have := Hbx.out
    rw [mixd_zero] at this; exact this
  ·obtain ⟨i, rfl⟩ : ∃ i, j = i + 1 := ⟨j - 1, by omega⟩
   have hi1 : (((i + 1 : Nat) : Int) - 1) = (i : Int) := by omega
   rw [hi1]
   have hiL : i < L := by omega
   have hcx := mixd_cells_low hbx hiL
   have hset := Lib.hid (mixd_back (B := 4294967296) (Q := X / d) (X := X) hiL)
   have hr := Nat.mod_lt (X / 4294967296 ^ (i + 1)) hd0
   have hx9 := Nat.mod_lt (X / 4294967296 ^ i) (show 0 < 4294967296 by decide)
   have Hrem := Lib.hid (short_rem 4294967296 i X d)
   have Hquo := Lib.hid (short_quo (show 0 < 4294967296 by decide) i X d hd0)
   have hlo := lt_of_heap hbx
   have hfo := frozen_of hbx
   have Hkp := Lib.hid hkp
   have Hbx := Lib.hid hbx
   clear hkp hbx hj0 hi1
   generalize X / 4294967296 ^ (i + 1) % d = r at *
   generalize X / 4294967296 ^ i % 4294967296 = x at *
   have hor := or_lh r x (by omega) hx9
   have hdne : ((d : Int) == 0) = false := by rw [beq_eq_false_iff_ne]; omega
   have hN : r * 4294967296 + x < 18446744073709551616 := by omega
   obtain ⟨N, hNe⟩ : ∃ N, r * 4294967296 + x = N := ⟨_, rfl⟩
   have hq : N / d = (r * 4294967296 + x) / d := by rw [hNe]
   rw [hNe] at hN hor
   have HNe := Lib.hid hNe
   clear hNe
   have hq9 := Nat.mod_lt (X / d / 4294967296 ^ i) (show 0 < 4294967296 by decide)
   rw [Hquo.out] at hq
   clear Hquo
   generalize X / d / 4294967296 ^ i % 4294967296 = q at *
   have hw : IntKind.u64.wrap ((N : Int) / (d : Int)) = (q : Int) := by
    rw [← hq, IntKind.wrap_u64]
    have : ((N / d : Nat) : Int) = (N : Int) / (d : Int) := by push_cast; rfl
    rw [← this]; omega
   clear hq
   go_wp2_with fail
   go_region
   go_wp2_with fail
   go_roundw
   case rel =>
    refine ⟨i, by omega, rfl, ?_, (Hkp.out.trans (Keep.setCell [g] _ g i _ (by simp)) (by simp)).drewPast, ?_⟩
    ·rw [← Hrem.out, HNe.out]; exact congrArg (Value.int .u64) (by push_cast; rfl)
    ·show (World.setCell _ _ _).heap[g]? = _
     rw [set_same Hbx.out, List.setIfInBounds_toArray, u32s_set, hset.out]
   case measure => simp [intOf]
theorem or_lo (x t s : Nat) (hs : s ≤ 31) (hx : x < 2 ^ s) (ht : t * 2 ^ s < 4294967296) : bits BinOp.or IntKind.u32 (x : Int) ((t * 2 ^ s : Nat) : Int) = ((x + t * 2 ^ s : Nat) : Int) := by
 have hp : 2 ^ s ≤ 2147483648 := Nat.pow_le_pow_right (n := 2) (by decide) hs
 have hlt : x + t * 2 ^ s < 4294967296 := by
  have e : 4294967296 = 2 ^ (32 - s) * 2 ^ s := by rw [← Nat.pow_add, show 32 - s + s = 32 by omega]
  rw [e] at ht
  have h1 : t < 2 ^ (32 - s) := Nat.lt_of_mul_lt_mul_right ht
  have h2 : (t + 1) * 2 ^ s ≤ 2 ^ (32 - s) * 2 ^ s := Nat.mul_le_mul_right _ h1
  rw [Nat.succ_mul] at h2
  omega
 have h1 : (BitVec.ofInt 32 (x : Int)).toNat = x := by
  rw [BitVec.ofInt_natCast, BitVec.toNat_ofNat]; exact Nat.mod_eq_of_lt (by omega)
 have h2 : (BitVec.ofInt 32 ((t * 2 ^ s : Nat) : Int)).toNat = t * 2 ^ s := by
  rw [BitVec.ofInt_natCast, BitVec.toNat_ofNat]; exact Nat.mod_eq_of_lt (by omega)
 show IntKind.u32.wrap ((BitVec.ofInt 32 (x : Int) ||| BitVec.ofInt 32 ((t * 2 ^ s : Nat) : Int)).toNat : Int) = _
 have e : x ||| t * 2 ^ s = x + t * 2 ^ s := by
  rw [Nat.or_comm, ← Nat.shiftLeft_eq, ← Nat.shiftLeft_add_eq_or_of_lt hx, Nat.add_comm]
 rw [BitVec.toNat_or, h1, h2, e, IntKind.wrap_u32]
 omega
theorem shift_step (s X i : Nat) (hs : s ≤ 31) : ∃ c t : Nat, c < 2 ^ s ∧ t * 2 ^ s < 4294967296 ∧ X % 4294967296 ^ i * 2 ^ s / 4294967296 ^ i % 4294967296 = c ∧ X / 4294967296 ^ i % 4294967296 * 2 ^ s % 4294967296 = t * 2 ^ s ∧
  X % 4294967296 ^ (i + 1) * 2 ^ s / 4294967296 ^ i % 4294967296 = c + t * 2 ^ s ∧ X % 4294967296 ^ (i + 1) * 2 ^ s / 4294967296 ^ (i + 1) % 4294967296 = X / 4294967296 ^ i % 4294967296 * 2 ^ s / 4294967296 ∧
  X / 4294967296 ^ i % 4294967296 * 2 ^ s / 4294967296 < 4294967296 ∧ X % 4294967296 ^ i * 2 ^ s < 4294967296 ^ (i + 1) := by
 have hp : 0 < 4294967296 ^ i := Nat.pow_pos (by decide)
 have h2 : 0 < 2 ^ s := Nat.pow_pos (by decide)
 have h3 : 2 ^ s ≤ 2147483648 := Nat.pow_le_pow_right (n := 2) (by decide) hs
 have e32 : 4294967296 = 2 ^ (32 - s) * 2 ^ s := by rw [← Nat.pow_add, show 32 - s + s = 32 by omega]
 have hA := Nat.mod_lt X hp
 have hx9 := Nat.mod_lt (X / 4294967296 ^ i) (show 0 < 4294967296 by decide)
 have eA : X % 4294967296 ^ (i + 1) * 2 ^ s = X % 4294967296 ^ i * 2 ^ s + 4294967296 ^ i * (X / 4294967296 ^ i % 4294967296 * 2 ^ s) := by
  rw [Nat.pow_succ, Nat.mod_mul, Nat.add_mul, Nat.mul_assoc]
 have ediv : X % 4294967296 ^ (i + 1) * 2 ^ s / 4294967296 ^ (i + 1) = X % 4294967296 ^ (i + 1) * 2 ^ s / 4294967296 ^ i / 4294967296 := by
  rw [Nat.div_div_eq_div_mul, ← Nat.pow_succ]
 rw [ediv, eA, Nat.add_mul_div_left _ _ hp]
 generalize X / 4294967296 ^ i % 4294967296 = x at *
 have hc : X % 4294967296 ^ i * 2 ^ s / 4294967296 ^ i < 2 ^ s := by
  rw [Nat.div_lt_iff_lt_mul hp, Nat.mul_comm]
  exact Nat.mul_lt_mul_of_pos_left hA h2
 have hlt : X % 4294967296 ^ i * 2 ^ s < 4294967296 ^ (i + 1) := by
  rw [Nat.pow_succ]
  have h4 : X % 4294967296 ^ i * 2 ^ s < 4294967296 ^ i * 2 ^ s := Nat.mul_lt_mul_of_pos_right hA h2
  have h5 : 4294967296 ^ i * 2 ^ s ≤ 4294967296 ^ i * 4294967296 := Nat.mul_le_mul_left _ (by omega)
  omega
 generalize X % 4294967296 ^ i * 2 ^ s / 4294967296 ^ i = c at *
 have ht : x * 2 ^ s % 4294967296 = x % 2 ^ (32 - s) * 2 ^ s := by rw [e32, Nat.mul_mod_mul_right]
 have htlt : x % 2 ^ (32 - s) * 2 ^ s < 4294967296 := by rw [← ht]; exact Nat.mod_lt _ (by decide)
 have hsum : c + x % 2 ^ (32 - s) * 2 ^ s < 4294967296 := by
  have h1 := Nat.mod_lt x (Nat.pow_pos (n := 32 - s) (show 0 < 2 by decide))
  have h4 : (x % 2 ^ (32 - s) + 1) * 2 ^ s ≤ 2 ^ (32 - s) * 2 ^ s := Nat.mul_le_mul_right _ h1
  rw [Nat.succ_mul, ← e32] at h4
  omega
 have hxs : x * 2 ^ s < 4294967296 * 4294967296 := by
  have h4 : x * 2 ^ s ≤ 4294967295 * 2 ^ s := Nat.mul_le_mul_right _ (by omega)
  omega
 have hd := Nat.div_add_mod (x * 2 ^ s) 4294967296
 rw [ht] at hd
 refine ⟨c, x % 2 ^ (32 - s), hc, htlt, by omega, ht, ?_, ?_, by omega, hlt⟩
 ·omega
 ·omega
theorem dl_set2 {L i N N' a b : Nat} (h : i + 1 < L) (hN : N < 4294967296 ^ (i + 1)) (hN' : N' < 4294967296 ^ (i + 2)) (hlow : ∀ j, j < i → N / 4294967296 ^ j % 4294967296 = N' / 4294967296 ^ j % 4294967296) (ha : N' / 4294967296 ^ i % 4294967296 = a) (hb : N' / 4294967296 ^ (i + 1) % 4294967296 = b) :
  ((dl 4294967296 L N).set i a).set (i + 1) b = dl 4294967296 L N' := by
 unfold dl
 apply List.ext_getElem
 ·simp
 ·intro j h1 h2
  rw [List.getElem_set, List.getElem_set]
  simp only [List.getElem_map, List.getElem_range]
  by_cases e : i + 1 = j
  ·subst e; rw [if_pos rfl, hb]
  ·rw [if_neg e]
   by_cases e2 : i = j
   ·subst e2; rw [if_pos rfl, ha]
   ·rw [if_neg e2]
    by_cases h3 : j < i
    ·exact hlow j h3
    ·have hle : 4294967296 ^ (i + 2) ≤ 4294967296 ^ j := Nat.pow_le_pow_right (by decide) (by omega)
     have hle2 : 4294967296 ^ (i + 1) ≤ 4294967296 ^ (i + 2) := Nat.pow_le_pow_right (by decide) (by omega)
     rw [Nat.div_eq_of_lt (by omega), Nat.div_eq_of_lt (by omega)]
theorem shift_low (s X i j : Nat) (h : j < i) : X % 4294967296 ^ i * 2 ^ s / 4294967296 ^ j % 4294967296 = X % 4294967296 ^ (i + 1) * 2 ^ s / 4294967296 ^ j % 4294967296 := by
 obtain ⟨m, rfl⟩ : ∃ m, i = j + (m + 1) := ⟨i - j - 1, by omega⟩
 have eA : X % 4294967296 ^ (j + (m + 1) + 1) * 2 ^ s = X % 4294967296 ^ (j + (m + 1)) * 2 ^ s + 4294967296 ^ (j + (m + 1)) * (X / 4294967296 ^ (j + (m + 1)) % 4294967296 * 2 ^ s) := by
  rw [Nat.pow_succ, Nat.mod_mul, Nat.add_mul, Nat.mul_assoc]
 rw [eA, Nat.pow_add 4294967296 j (m + 1), Nat.mul_assoc (4294967296 ^ j), Nat.add_mul_div_left _ _ (Nat.pow_pos (by decide)), Nat.pow_succ, Nat.mul_comm (4294967296 ^ m), Nat.mul_assoc 4294967296, Nat.add_mul_mod_self_left]
set_option maxHeartbeats 2000000 in
theorem shifted_c (w : World) (g n c X s : Nat) (hlen : n ≤ c) (hl9 : c ≤ 100000000000) (hX : X < 4294967296 ^ n) (hs : s ≤ 31) (hb : w.heap[g]? = some (.cells (u32s (dl 4294967296 n X)).toArray 165 (0, 0))) :
  Calls Tryz.prog 203 #[.slice (some ⟨g, 0, none⟩) n c, .int .i64 (s : Int)] w fun e w' => e = .returned (.slice (some ⟨w.heap.size, 0, none⟩) (n + 1) (n + 1)) ∧ Keep [] w w' ∧ w'.heap[w.heap.size]? = some (.cells (u32s (dl 4294967296 (n + 1) (X * 2 ^ s))).toArray 165 (0, 0)) := by
 have Hb := Lib.hid hb
 have HX := Lib.hid hX
 have hmk := make_nat w (n + 1) (by omega)
 rw [show ((n + 1 : Nat) : Int) = (n : Int) + 1 by omega] at hmk
 clear hb hX
 go_enter Tryz.func203, Tryz.ntmps203
 go_wp2_with fail
 clear hmk
 go_loopw [15] (fun x wr => ∃ i : Nat, i ≤ n ∧ x = .int .i64 (i : Int) ∧ Keep [] w wr ∧ wr.heap[w.heap.size]? = some (.cells (u32s (dl 4294967296 (n + 1) (X % 4294967296 ^ i * 2 ^ s))).toArray 165 (0, 0))) (fun x _ => n - (intOf x).toNat)
 case atStart => exact ⟨0, by omega, rfl, Keep.alloc _ _ _, by rw [Nat.pow_zero, Nat.mod_one, Nat.zero_mul, dl_zero]; exact World.alloc_heap_new w _⟩
 case round =>
  obtain ⟨i, hi, rfl, hkp, hbx⟩ := hrel
  by_cases hlt : i < n
  ·have hxw := hkp.heap Hb.out (by simp)
   have hxc := dl_cells hxw i hlt
   have hxl := lt_of_heap hxw
   have hx9 := Nat.mod_lt (X / 4294967296 ^ i) (show 0 < 4294967296 by decide)
   obtain ⟨cc, t, hc, ht, e1, e2, e3, e4, e5, e6⟩ := shift_step s X i hs
   have Hset := Lib.hid (dl_set2 (L := n + 1) (by omega) e6 (shift_step s X (i + 1) hs).choose_spec.choose_spec.2.2.2.2.2.2.2 (fun j h => shift_low s X i j h) e3 e4)
   have hcx := dl_cells hbx i (by omega)
   rw [e1] at hcx
   have hcx2 := dl_cells hbx (i + 1) (by omega)
   generalize X % 4294967296 ^ i * 2 ^ s / 4294967296 ^ (i + 1) % 4294967296 = old at *
   have hor := or_lo cc t s hs hc ht
   have hp : 2 ^ s ≤ 2147483648 := Nat.pow_le_pow_right (n := 2) (by decide) hs
   have hlo := lt_of_heap hbx
   have hfo := frozen_of hbx
   have Hkp := Lib.hid hkp
   have Hbx := Lib.hid hbx
   have E2 := Lib.hid e2
   clear hxw hkp hbx e1 e2 e3 e4 e6
   generalize X / 4294967296 ^ i % 4294967296 = x at *
   have hW : IntKind.u64.wrap ((x : Int) * 2 ^ s) = ((x * 2 ^ s : Nat) : Int) := by
    have h1 : x * 2 ^ s ≤ 4294967295 * 2 ^ s := Nat.mul_le_mul_right _ (by omega)
    have h2 : ((x * 2 ^ s : Nat) : Int) = (x : Int) * 2 ^ s := by push_cast; rfl
    rw [← h2, IntKind.wrap_u64]; omega
   have hW1 : ((x * 2 ^ s : Nat) : Int) % 4294967296 = ((t * 2 ^ s : Nat) : Int) := by rw [← E2.out]; omega
   have hW2 : ((x * 2 ^ s : Nat) : Int) / 4294967296 = ((x * 2 ^ s / 4294967296 : Nat) : Int) := by omega
   generalize x * 2 ^ s / 4294967296 = hh at *
   generalize x * 2 ^ s = W at *
   generalize t * 2 ^ s = lo at *
   go_wp2_with fail
   go_roundw
   case rel =>
    refine ⟨i + 1, by omega, by go_num, (Hkp.out.setPast _ _ _ (Nat.le_refl _)).setPast _ _ _ (Nat.le_refl _), ?_⟩
    have e : ((hh : Int) % 4294967296) = (hh : Int) := by omega
    rw [set_same (set_same Hbx.out _ _), List.setIfInBounds_toArray, List.setIfInBounds_toArray, ← Int.natCast_add, u32s_set, u32s_set, Hset.out]
   case measure => simp [intOf]; omega
  ·obtain rfl : i = n := by omega
   have Hkp := Lib.hid hkp
   have Hbx := Lib.hid hbx
   clear hkp hbx
   go_wp2_with fail
   go_ret
   refine ⟨rfl, Hkp.out, ?_⟩
   have := Hbx.out
   rw [Nat.mod_eq_of_lt HX.out] at this; exact this
end Go.Proofs.YteknldaoegccaaaGreatDoor
