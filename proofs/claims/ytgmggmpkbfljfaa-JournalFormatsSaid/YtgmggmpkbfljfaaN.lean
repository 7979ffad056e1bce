/- Numbers taken from bytes, and what is read of a page and of a group. -/
import Derived.Test.YtgmggmpkbfljfaaT2
set_option linter.unusedVariables false
set_option linter.unusedSimpArgs false
set_option maxRecDepth 100000
namespace Go.Proofs.Ytgmggmpkbfljfaa
open Go.RowKit
theorem byteAt_left (a b : ByteArray) (i : Nat) (h : i < a.size) : byteAt (a ++ b) i = byteAt a i := by
  unfold byteAt
  rw [ByteArray.data_append, Array.getElem?_append_left (by exact h)]
theorem byteAt_right (a b : ByteArray) (i : Nat) : byteAt (a ++ b) (a.size + i) = byteAt b i := by
  unfold byteAt
  rw [ByteArray.data_append, Array.getElem?_append_right (by show a.size ≤ _; omega)]
  congr 2
  show b.data[a.size + i - a.size]? = _
  rw [Nat.add_sub_cancel_left]
theorem byteAt_one (c : Nat) (h : c < 256) : byteAt (oneS (c : Int)) 0 = c := by
  show (((UInt8.ofNat (c : Int).toNat)).toNat : Nat) = c
  rw [Int.toNat_natCast, UInt8.toNat_ofNat', Nat.mod_eq_of_lt h]
theorem byteAt_num (n : Nat) : ∀ (k t : Nat), t < k → byteAt (numS n k) t = n / 256 ^ t % 256
  | 0, t, h => by omega
  | k + 1, t, h => by
    rw [numS]
    by_cases ht : t < k
    · rw [byteAt_left _ _ _ (by rw [numS_size]; exact ht), byteAt_num n k t ht]
    · obtain rfl : t = k := by omega
      have := byteAt_right (numS n t) (oneS (((n / 256 ^ t : Nat) : Int) % 256)) 0
      rw [numS_size, Nat.add_zero] at this
      rw [this]
      have e : (((n / 256 ^ t : Nat) : Int) % 256) = ((n / 256 ^ t % 256 : Nat) : Int) := by omega
      rw [e, byteAt_one _ (Nat.mod_lt _ (by decide))]
theorem takeN_of (s : ByteArray) : ∀ (k i n : Nat), (∀ t, t < k → byteAt s (i + t) = n / 256 ^ t % 256) → takeN s i k = n % 256 ^ k
  | 0, i, n, _ => by rw [Nat.pow_zero, Nat.mod_one]; rfl
  | k + 1, i, n, h => by
    rw [takeN, takeN_of s k (i + 1) (n / 256) (fun t ht => by
      have := h (t + 1) (by omega)
      rw [Nat.add_assoc, Nat.add_comm 1 t, this, Nat.pow_succ, Nat.mul_comm, Nat.div_div_eq_div_mul])]
    have h0 := h 0 (by omega)
    rw [Nat.add_zero, Nat.pow_zero, Nat.div_one] at h0
    rw [h0, Nat.pow_succ, Nat.mul_comm (256 ^ k) 256, Nat.mod_mul]
/-- The number that stands behind a. -/
theorem takeN_at (a b : ByteArray) (n k : Nat) (h : n < 256 ^ k) : takeN (a ++ (numS n k ++ b)) a.size k = n := by
  rw [takeN_of _ k a.size n (fun t ht => by
    rw [byteAt_right, byteAt_left _ _ _ (by rw [numS_size]; exact ht), byteAt_num n k t ht]), Nat.mod_eq_of_lt h]
theorem pgAt_pageS (g f p k : Nat) (hg : g < 256 ^ 8) (hf : f < 256 ^ 8) (hp : p < 256 ^ 8) (hk : k < 256 ^ 4) : pgAt (pageS g f p k) = ⟨g, f, p, k⟩ := by
  have hm : magicS.size = 4 := rfl
  have e1 : pageS g f p k = magicS ++ (numS g 8 ++ (numS f 8 ++ numS p 8 ++ numS k 4 ++ zerosS (padN (magicS ++ numS g 8 ++ numS f 8 ++ numS p 8 ++ numS k 4).size))) := by
    unfold pageS padS; simp only [ByteArray.append_assoc]
  have e2 : pageS g f p k = (magicS ++ numS g 8) ++ (numS f 8 ++ (numS p 8 ++ numS k 4 ++ zerosS (padN (magicS ++ numS g 8 ++ numS f 8 ++ numS p 8 ++ numS k 4).size))) := by
    unfold pageS padS; simp only [ByteArray.append_assoc]
  have e3 : pageS g f p k = (magicS ++ numS g 8 ++ numS f 8) ++ (numS p 8 ++ (numS k 4 ++ zerosS (padN (magicS ++ numS g 8 ++ numS f 8 ++ numS p 8 ++ numS k 4).size))) := by
    unfold pageS padS; simp only [ByteArray.append_assoc]
  have e4 : pageS g f p k = (magicS ++ numS g 8 ++ numS f 8 ++ numS p 8) ++ (numS k 4 ++ zerosS (padN (magicS ++ numS g 8 ++ numS f 8 ++ numS p 8 ++ numS k 4).size)) := by
    unfold pageS padS; simp only [ByteArray.append_assoc]
  have h1 := takeN_at magicS (numS f 8 ++ numS p 8 ++ numS k 4 ++ zerosS (padN (magicS ++ numS g 8 ++ numS f 8 ++ numS p 8 ++ numS k 4).size)) g 8 hg
  rw [← e1, hm] at h1
  have h2 := takeN_at (magicS ++ numS g 8) (numS p 8 ++ numS k 4 ++ zerosS (padN (magicS ++ numS g 8 ++ numS f 8 ++ numS p 8 ++ numS k 4).size)) f 8 hf
  rw [← e2, show (magicS ++ numS g 8).size = 12 by rw [ByteArray.size_append, numS_size, hm]] at h2
  have h3 := takeN_at (magicS ++ numS g 8 ++ numS f 8) (numS k 4 ++ zerosS (padN (magicS ++ numS g 8 ++ numS f 8 ++ numS p 8 ++ numS k 4).size)) p 8 hp
  rw [← e3, show (magicS ++ numS g 8 ++ numS f 8).size = 20 by rw [ByteArray.size_append, ByteArray.size_append, numS_size, numS_size, hm]] at h3
  have h4 := takeN_at (magicS ++ numS g 8 ++ numS f 8 ++ numS p 8) (zerosS (padN (magicS ++ numS g 8 ++ numS f 8 ++ numS p 8 ++ numS k 4).size)) k 4 hk
  rw [← e4, show (magicS ++ numS g 8 ++ numS f 8 ++ numS p 8).size = 28 by rw [ByteArray.size_append, ByteArray.size_append, ByteArray.size_append, numS_size, numS_size, numS_size, hm]] at h4
  unfold pgAt
  rw [h1, h2, h3, h4]
theorem isPg_app (b : ByteArray) : isPg (magicS ++ b) = true := by
  unfold isPg
  rw [ByteArray.data_append, Array.toList_append]
  have : ∀ l m : List UInt8, Lib.hasPrefix (l ++ m) l = true := by
    intro l m
    induction l with
    | nil => cases m <;> rfl
    | cons x l ih => simp [Lib.hasPrefix] at *
  exact this _ _
theorem isPg_pageS (g f p k : Nat) : isPg (pageS g f p k) = true := by
  unfold pageS padS
  simp only [ByteArray.append_assoc]
  exact isPg_app _
theorem isPg_zeros : isPg (fillS 0) = false := by decide +kernel
end Go.Proofs.Ytgmggmpkbfljfaa
