/- Sectors, sectors, failed, fill. -/
import Derived.Test.YtgmggmpkbfljfaaJ1
set_option linter.unusedVariables false
set_option linter.unusedSimpArgs false
set_option maxRecDepth 100000
namespace Go.Proofs.Ytgmggmpkbfljfaa
open Go.RowKit
theorem secs_int (a : Nat) (h : a ≤ 5000000) : ((a : Int) + 128 - 1) / 128 = (((a + 127) / 128 : Nat) : Int) := by omega
set_option maxHeartbeats 2000000 in
theorem sectors_c (w : World) (sv : Value) (l : List ByteArray) (h : RowR w sv (scells l)) (hl : l.length ≤ 256) (hs : ∀ s ∈ l, s.size ≤ 16384) :
    Calls Try.prog 48 #[sv] w fun e w' => e = .returned (.int .i64 (secsN l)) ∧ w' = w := by
  have hsum := sumS_le l hs
  obtain ⟨ao, c, rfl⟩ := h.form
  have HE := Lib.hid h.cells
  rw [scells_length]
  have HS := Lib.hid hs
  clear h hs
  obtain ⟨len, hlen⟩ : ∃ len, l.length = len := ⟨_, rfl⟩
  rw [hlen] at hl hsum ⊢
  have Hlen := Lib.hid hlen
  clear hlen
  go_enter Try.func48, Try.ntmps48
  go_wp2_with fail
  go_loopw [3, 4] (fun n i wr => ∃ k : Nat, k ≤ len ∧ i = .int .i64 k ∧ ∃ z : Nat, n = .int .i64 z ∧ z = 12 + 4 * k + sumS (l.take k) ∧ wr = w) (fun _ i _ => len - (intOf i).toNat)
  case atStart => exact ⟨0, by omega, rfl, 12, rfl, rfl, rfl⟩
  case round =>
    obtain ⟨k, hk, rfl, z, rfl, hz, rfl⟩ := hrel
    have hts := sumS_take l k
    have Hz := Lib.hid hz
    have hzb : z ≤ 4300000 := by omega
    clear hz
    by_cases hlt : k < len
    · have hkl : k < l.length := by rw [Hlen.out]; exact hlt
      obtain ⟨g, o, rfl, hcell⟩ := HE.out (Nat.lt_of_le_of_lt (Nat.zero_le _) hkl)
      have hc := hcell wr (Keep.refl _ _) k hkl
      have hrs := HS.out l[k] (List.getElem_mem _)
      have Hn : Hid (z + 4 + l[k].size = 12 + 4 * (k + 1) + sumS (l.take (k + 1))) := by
        show _ = _
        rw [take_succ_get l k hkl, sumS_snoc, Hz.out]; omega
      generalize l[k] = r at *
      go_wp2_with fail
      go_roundw
      case rel => exact ⟨k + 1, by omega, by go_num, z + 4 + r.size, by go_num, Hn.out, trivial⟩
      case measure => simp [intOf]; omega
    · obtain rfl : k = len := by omega
      have hsi := secs_int z (by omega)
      have hfin : ((z + 127) / 128) = secsN l := by
        rw [Hz.out, List.take_of_length_le (Nat.le_of_eq Hlen.out)]; unfold secsN; rw [Hlen.out]
      have Hfin := Lib.hid hfin
      clear hfin
      go_wp2_with fail
      go_ret
      exact ⟨by rw [← Hfin.out, ← hsi]; rfl, rfl⟩
set_option maxHeartbeats 2000000 in
theorem jsectors_c (w : World) (sv : Value) (l : List ByteArray) (h : RowR w sv (scells l)) (hl : l.length ≤ 256) (hs : ∀ s ∈ l, s.size ≤ 16384) :
    Calls Try.prog 19 #[sv] w fun e w' => e = .returned (.int .i64 (secsN l)) ∧ w' = w := by
  have hsum := sumS_le l hs
  obtain ⟨ao, c, rfl⟩ := h.form
  have HE := Lib.hid h.cells
  rw [scells_length]
  have HS := Lib.hid hs
  clear h hs
  obtain ⟨len, hlen⟩ : ∃ len, l.length = len := ⟨_, rfl⟩
  rw [hlen] at hl hsum ⊢
  have Hlen := Lib.hid hlen
  clear hlen
  go_enter Try.func19, Try.ntmps19
  go_wp2_with fail
  go_loopw [3, 12] (fun n i wr => ∃ k : Nat, k ≤ len ∧ i = .int .i64 k ∧ ∃ z : Nat, n = .int .i64 z ∧ z = 12 + 4 * len + sumS (l.take k) ∧ wr = w) (fun _ i _ => len - (intOf i).toNat)
  case atStart => exact ⟨0, by omega, rfl, 12 + 4 * len, by go_num, rfl, rfl⟩
  case round =>
    obtain ⟨k, hk, rfl, z, rfl, hz, rfl⟩ := hrel
    have hts := sumS_take l k
    have Hz := Lib.hid hz
    have hzb : z ≤ 4300000 := by omega
    clear hz
    by_cases hlt : k < len
    · have hkl : k < l.length := by rw [Hlen.out]; exact hlt
      obtain ⟨g, o, rfl, hcell⟩ := HE.out (Nat.lt_of_le_of_lt (Nat.zero_le _) hkl)
      have hc := hcell wr (Keep.refl _ _) k hkl
      have hrs := HS.out l[k] (List.getElem_mem _)
      have Hn : Hid (z + l[k].size = 12 + 4 * len + sumS (l.take (k + 1))) := by
        show _ = _
        rw [take_succ_get l k hkl, sumS_snoc, Hz.out]; omega
      generalize l[k] = r at *
      go_wp2_with fail
      go_roundw
      case rel => exact ⟨k + 1, by omega, by go_num, z + r.size, by go_num, Hn.out, trivial⟩
      case measure => simp [intOf]; omega
    · obtain rfl : k = len := by omega
      have hsi := secs_int z (by omega)
      have hfin : ((z + 127) / 128) = secsN l := by
        rw [Hz.out, List.take_of_length_le (Nat.le_of_eq Hlen.out)]; unfold secsN; rw [Hlen.out]
      have Hfin := Lib.hid hfin
      clear hfin
      go_wp2_with fail
      go_ret
      exact ⟨by rw [← Hfin.out, ← hsi]; rfl, rfl⟩
theorem failed_m (jb vb : Nat) (J : Jn) (e : Int) : Met Try.prog 46 #[.pointer (some ⟨jb, 0, none⟩), .int .i64 e] (.int .i64 e) (JH jb vb J) (JH jb vb { J with broken := e == 20 }) := by
  rintro w F ⟨gv, pv, G, hG, hJ⟩
  obtain ⟨pg, groups, pend, broken⟩ := J
  dsimp only at hG hJ ⊢
  have hc := cell_of hJ.box
  have hf := frozen_of hJ.box
  simp only [jcells] at hc
  have HJ := Lib.hid hJ
  have HG := Lib.hid hG
  clear hJ hG
  go_enter Try.func46, Try.ntmps46
  go_wp2_with fail
  go_ret
  exact ⟨rfl, (HJ.out.setBox (q := pg) (cr := e == 20) (hv := gv) (qv := pv) 7 _ rfl).imp fun w F h => ⟨gv, pv, G, HG.out, h⟩⟩
end Go.Proofs.Ytgmggmpkbfljfaa
